/- The contract of text.Binds' closure, where it reads them. Conditions: none. -/
-- Written by programs of this session (wip/tools), cut to what the claim uses (wip/tools/prune.py).
import Derived.Test.YtpepjodkahdicaaRdP
namespace Go.Proofs.Ytpepjodkahdicaa.PTb
open Go.RowKit Go.Proofs.YtpepjodkahdicaaW.PrintWords Go.Proofs.YtpepjodkahdicaaW.PrintLast Go.Proofs.YtpepjodkahdicaaW.PrintMore
set_option linter.unusedVariables false
set_option linter.unusedSimpArgs false
/-- the binds of a text, from a place on, where a word of kind kd stands -/
def rdBinds : Nat → List S62 → ByteArray → Int → Int → List S46 → Option (List S46)
  | 0, _, _, _, _, _ => none
  | k + 1, g, s, kd, p, acc => if kd = 0 then some acc else (rdNext k s p).bind fun
    | .error _ => none
    | .ok (x, p1) => if x.1 = 2 then (rdNext k s p1).bind fun
      | .error _ => none
      | .ok (y, p2) => if y.1 = 7 then (rdTerm k g s p2).bind fun
        | .error _ => none
        | .ok (t, p3) => if acc.length < 2199023255552 then (rdPeek k s p3).bind fun
          | .error _ => none
          | .ok (z, p4) => if z.1 = 0 then rdBinds k g s 0 p3 (acc ++ [⟨x.2.1, t⟩]) else if z.1 = 5 then rdBinds k g s 5 p4 (acc ++ [⟨x.2.1, t⟩]) else none
          else none
        else none
      else none
/-- may their terms be? -/
def rdMays : Nat → List S62 → List S46 → Nat → Option Unit
  | 0, _, _, _ => none
  | k + 1, g, l, i => if i < l.length then (rdMay k g [(rd_T46 l (i : Int)).f1] 0).bind fun
    | .error _ => none
    | .ok _ => rdMays k g l (i + 1)
    else some ()
theorem rdBinds_step {k : Nat} {g : List S62} {s : ByteArray} {kd p : Int} {acc l : List S46} (h : rdBinds (k + 1) g s kd p acc = some l) (h0 : ¬ kd = 0) : ∃ name wt1 p1 tx2 wt2 p2 t p3 kz tz wz p4, words_Next.f k s p = some (2, name, wt1, p1, 0) ∧ words_Next.f k s p1 = some (7, tx2, wt2, p2, 0) ∧ rdTerm k g s p2 = some (.ok (t, p3)) ∧ acc.length < 2199023255552 ∧ words_Next.f k s p3 = some (kz, tz, wz, p4, 0) ∧ ((kz = 0 ∧ rdBinds k g s 0 p3 (acc ++ [⟨name, t⟩]) = some l) ∨ (kz = 5 ∧ rdBinds k g s 5 p4 (acc ++ [⟨name, t⟩]) = some l)) := by
  rw [rdBinds, if_neg h0] at h
  obtain ⟨rx, hx, h⟩ := Option.bind_eq_some_iff.mp h
  rcases rx with e | ⟨⟨kx, name, wt1⟩, p1⟩
  · cases h
  dsimp only at h
  by_cases c2 : kx = 2
  · subst c2
    rw [if_pos rfl] at h
    obtain ⟨ry, hy, h⟩ := Option.bind_eq_some_iff.mp h
    rcases ry with e | ⟨⟨ky, tx2, wt2⟩, p2⟩
    · cases h
    dsimp only at h
    by_cases c7 : ky = 7
    · subst c7
      rw [if_pos rfl] at h
      obtain ⟨rt, ht, h⟩ := Option.bind_eq_some_iff.mp h
      rcases rt with e | ⟨t, p3⟩
      · cases h
      dsimp only at h
      by_cases cl : acc.length < 2199023255552
      · rw [if_pos cl] at h
        obtain ⟨rz, hz, h⟩ := Option.bind_eq_some_iff.mp h
        rcases rz with e | ⟨⟨kz, tz, wz⟩, p4⟩
        · cases h
        dsimp only at h
        refine ⟨name, wt1, p1, tx2, wt2, p2, t, p3, kz, tz, wz, p4, (rdNext_ok hx).1, (rdNext_ok hy).1, ht, cl, rdPeek_ok hz, ?_⟩
        by_cases z0 : kz = 0
        · rw [if_pos z0] at h
          exact .inl ⟨z0, h⟩
        · rw [if_neg z0] at h
          by_cases z5 : kz = 5
          · rw [if_pos z5] at h
            exact .inr ⟨z5, h⟩
          · rw [if_neg z5] at h
            cases h
      · rw [if_neg cl] at h
        cases h
    · rw [if_neg c7] at h
      cases h
  · rw [if_neg c2] at h
    cases h
theorem blk_new2 (w : World) (o1 o2 : Obj) : ((w.alloc o1).alloc o2).heap[w.heap.size + 1]? = some o2 := by
  have h : (w.alloc o1).heap.size = w.heap.size + 1 := Array.size_push ..
  rw [← h]
  exact blk_new _ _
theorem infoB : (Try.prog.info? 46).map (fun i => (i.zero, i.size, i.bytes)) = some (some (.agg #[(.string ⟨#[]⟩), (.string ⟨#[]⟩), (.int .i64 0), (.slice none 0 0)]), 4, 64) := by kernel_rfl
def BindsFin (bo base : Nat) (W : World) (l : List S46) : Prop := ∃ v, W.heap[bo]? = some (.cells #[v] 34 (0, 0)) ∧ Kd.R k46 46 W base (fun _ => True) v l
set_option maxHeartbeats 8000000 in
set_option maxRecDepth 100000 in
theorem binds1_ok (b bo : Nat) (A : Option Addr) (c : Nat) (g : List S62) (s : ByteArray) (k : Nat) (w0 w : World) (hS : Kd.C k62 w0 A g.length g) (hc : g.length ≤ c) (H0 : Below w0.heap.size w0 w) (hb0 : w0.heap.size ≤ b) (hb : RB w b A g.length c s 0) (kd0 : Int) (tx0 : ByteArray) (wt0 en0 : Int) (h0 : words_Next.f k s 0 = some (kd0, tx0, wt0, en0, 0)) (l : List S46) (hl : rdBinds k g s kd0 0 [] = some l) (hm : rdMays k g l 0 = some ()) (hbo : w.heap[bo]? = some (.cells #[.slice none 0 0] 34 (0, 0))) (hne : bo ≠ b) :
    Calls Try.prog 33 #[.pointer (some ⟨b, 0, none⟩), .pointer (some ⟨bo, 0, none⟩)] w fun e w' => e = .returned (.tuple #[]) ∧ Chg b bo w w' ∧ BindsFin bo w.heap.size w' l := by
  have HP0 := fun W (q : RB W b A g.length c s 0) => Aside0.mk (peek_ok b A g.length c s 0 k kd0 tx0 wt0 en0 W q h0)
  have HRB := Aside0.mk hb
  have H00 := Aside0.mk H0
  have HB0 := Aside0.mk hb0
  have HBO := Aside0.mk hbo
  have NBO := Aside0.mk hne
  have HSIG := Aside0.mk (And.intro hS hc)
  have HL0 := Aside0.mk hl
  have HM0 := Aside0.mk hm
  clear hS hc H0 hb0 hb h0 hl hm hbo hne
  go_enter Try.func33, Try.ntmps33
  go_wp2_with ((with_reducible refine gate_dst (N := 11) rfl ?_); refine goesL_ (some 11) rfl rfl Try.func34 (by kernel_rfl) rfl #[.pointer (some ⟨b, 0, none⟩)] rfl (by (try simp only [List.map_toArray, List.map_cons, List.map_nil]); first | done | rfl) ?_; refine ((HP0 _ HRB.out).out).mono ?_; rintro e w2 ⟨rfl, hb2⟩; refine ⟨_, rfl, ?_⟩; have HB2 := Aside0.mk hb2; clear hb2)
  refine hold_world (G := Code.wp _ _ _ _) (fun W => W.heap[w2.heap.size]? = some (.cells #[.int .i64 kd0, .string tx0, .int .i64 wt0] 70 (0, 0)) ∧ RB W b A g.length c s 0 ∧ w.grownBy W (some b)) ⟨blk_new _ _, blk_alloc (HRB.out.below HB2.out) _, grown_alloc (grown_of_below' HB2.out _) _⟩ ?_
  have GE9 := Aside0.mk (show w.heap.size ≤ w2.heap.size from HB2.out.size)
  clear HB2
  generalize w2.heap.size = g9 at GE9 ⊢
  clear w2
  rintro w3 ⟨bk9, hr3, hg3⟩
  have BK9 := Aside0.mk bk9
  have HR3 := Aside0.mk hr3
  have HG3 := Aside0.mk hg3
  clear bk9 hr3 hg3
  go_loopg [3, 4] k (fun kq v3 v4 w' => ∃ (g9 : Nat) (kd9 : Int) (tx9 : ByteArray) (wt9 q9 : Int) (acc : List S46), v4 = .pointer (some ⟨g9, 0, none⟩) ∧ Aside0 (rdBinds kq g s kd9 q9 acc = some l) ∧ Aside0 (kq ≤ k) ∧ Aside0 (w'.heap[g9]? = some (.cells #[.int .i64 kd9, .string tx9, .int .i64 wt9] 70 (0, 0))) ∧ Aside0 (Kd.R k46 46 w' w.heap.size (fun k_ => k_ ≠ b) v3 acc) ∧ Aside0 (RB w' b A g.length c s q9) ∧ Aside0 (w.grownBy w' (some b)) ∧ Aside0 (w.heap.size ≤ g9))
  case atStart => exact ⟨g9, kd0, tx0, wt0, 0, [], rfl, HL0, ⟨Nat.le_refl _⟩, BK9, ⟨Kd.R_nil _ _ _ _ _⟩, HR3, HG3, GE9⟩
  case round =>
    clear BK9 HR3 HG3 HL0 GE9
    obtain ⟨g9, kd9, tx9, wt9, q9, acc, rfl, HA, HK1, BK9, HO, HR, HG, GE9⟩ := hrel
    cases gk with
    | zero => exact absurd HA.out (by simp [rdBinds])
    | succ k1 =>
      have h := HA.out
      clear HA
      have p0 : wr.cell? ⟨g9, 0, none⟩ = some (.int .i64 kd9) := (blk_cell BK9.out 0).trans rfl
      by_cases c0 : kd9 = 0
      · rw [rdBinds, if_pos c0] at h
        obtain rfl := Option.some.inj h
        have c0b : (kd9 != 0) = false := bne_eq_false_iff_eq.mpr c0
        clear c0 h
        obtain ⟨Av, cv, ev⟩ := Kd.R_slice HO.out
        subst ev
        have HB00 := Aside0.mk (below_of_grown H00.out HB0.out HG.out)
        have HSX := Aside0.mk (Kd.C_below HSIG.out.1 HB00.out)
        have HLX := Aside0.mk (Kd.R_reads' HO.out)
        have BO1 := Aside0.mk (blk_grown HBO.out HG.out (fun e => NBO.out (Option.some.inj e)))
        rename World => wx
        go_wp2
        clear BK9 p0
        go_loopg [47] k (fun kq v47 w' => ∃ (i : Nat), v47 = .int .i64 (i : Int) ∧ Aside0 (rdMays kq g acc i = some ()) ∧ Aside0 (Below wx.heap.size wx w'))
        case atStart => exact ⟨0, rfl, HM0, ⟨Below.refl _ _⟩⟩
        case round =>
          obtain ⟨i, rfl, HA, HB⟩ := hrel
          cases gk with
          | zero => exact absurd HA.out (by simp [rdMays])
          | succ k2 =>
            have h := HA.out
            clear HA
            simp only [rdMays] at h
            by_cases ci : i < acc.length
            · rw [if_pos ci] at h
              obtain ⟨rm, hrm, h⟩ := Option.bind_eq_some_iff.mp h
              rcases rm with e | ⟨⟨⟩⟩
              · cases h
              have HMY := fun W Al (q1 : Below wx.heap.size wx W) (q2 : Kd.C k27 W Al [(rd_T46 acc (i : Int)).f1].length [(rd_T46 acc (i : Int)).f1]) => Aside0.mk (may_calls k2 b A c g s q9 [(rd_T46 acc (i : Int)).f1] Al 1 (.ok ()) W (Kd.C_below HSX.out q1) HSIG.out.2 q2 (by simp) (HR.out.below q1) hrm)
              obtain ⟨ad, A3, c3, eA, x0, x1, x2, x3, hl3, hi3⟩ := at_T46 HLX.out.2.2 (i : Int) (by omega) (by omega)
              subst eA
              simp only [Int.toNat_natCast] at x0 x1 x2 x3
              replace x0 := (HB.out.cell (World.block_lt_of_cell? wx _ x0)).trans x0
              replace x1 := (HB.out.cell (World.block_lt_of_cell? wx _ x1)).trans x1
              replace x2 := (HB.out.cell (World.block_lt_of_cell? wx _ x2)).trans x2
              replace x3 := (HB.out.cell (World.block_lt_of_cell? wx _ x3)).trans x3
              have HI3 := Aside0.mk (And.intro hl3 hi3)
              have HH := Aside0.mk h
              clear hrm hi3 hl3 h
              have pi1 : (0 : Int) ≤ (i : Int) := by omega
              have pi2 : ((i : Int) < (acc.length : Int)) := by omega
              have ib : ((acc.length : Int) ≤ 9223372036854775807) := by have := Kd.C_max HLX.out.2.2; omega
              have HL5 := Aside0.mk (show ((wr.alloc (.cells #[.string (rd_T46 acc (i : Int)).f0, .string (rd_T46 acc (i : Int)).f1.f0, .int .i64 (rd_T46 acc (i : Int)).f1.f1, .slice A3 (rd_T46 acc (i : Int)).f1.f2.length c3] 46 (0, 0))).alloc (.cells #[.string (rd_T46 acc (i : Int)).f1.f0, .int .i64 (rd_T46 acc (i : Int)).f1.f1, .slice A3 (rd_T46 acc (i : Int)).f1.f2.length c3] 27 (0, 0))).heap[wr.heap.size + 1]? = some (.cells #[.string (rd_T46 acc (i : Int)).f1.f0, .int .i64 (rd_T46 acc (i : Int)).f1.f1, .slice A3 (rd_T46 acc (i : Int)).f1.f2.length c3] 27 (0, 0)) from blk_new2 _ (.cells #[.string (rd_T46 acc (i : Int)).f0, .string (rd_T46 acc (i : Int)).f1.f0, .int .i64 (rd_T46 acc (i : Int)).f1.f1, .slice A3 (rd_T46 acc (i : Int)).f1.f2.length c3] 46 (0, 0)) (.cells #[.string (rd_T46 acc (i : Int)).f1.f0, .int .i64 (rd_T46 acc (i : Int)).f1.f1, .slice A3 (rd_T46 acc (i : Int)).f1.f2.length c3] 27 (0, 0)))
              go_wp2_with ((with_reducible refine gate_dst (N := 55) rfl ?_); refine goesL_ (some 55) rfl rfl Try.func23 (by kernel_rfl) rfl #[.pointer (some ⟨b, 0, none⟩), .slice (some ⟨wr.heap.size + 1, 0, none⟩) 1 1] rfl (by (try simp only [List.map_toArray, List.map_cons, List.map_nil]); first | done | rfl) ?_; refine (HMY _ (some ⟨wr.heap.size + 1, 0, none⟩) (below_alloc (below_alloc HB.out (.cells #[.string (rd_T46 acc (i : Int)).f0, .string (rd_T46 acc (i : Int)).f1.f0, .int .i64 (rd_T46 acc (i : Int)).f1.f1, .slice A3 (rd_T46 acc (i : Int)).f1.f2.length c3] 46 (0, 0))) (.cells #[.string (rd_T46 acc (i : Int)).f1.f0, .int .i64 (rd_T46 acc (i : Int)).f1.f1, .slice A3 (rd_T46 acc (i : Int)).f1.f2.length c3] 27 (0, 0))) (lit_C (d := k27) (xs := [(rd_T46 acc (i : Int)).f1]) (inner := [.string (rd_T46 acc (i : Int)).f1.f0, .int .i64 (rd_T46 acc (i : Int)).f1.f1, .slice A3 (rd_T46 acc (i : Int)).f1.f2.length c3]) (reps_one (k27_mk _ (rd_T46 acc (i : Int)).f1 HI3.out.1 (Kd.C_alloc (Kd.C_alloc (Kd.C_below HI3.out.2 HB.out) _) _)) rfl) HL5.out (by simp))).out.mono ?_; rintro e w6 ⟨rfl, hb6⟩; refine ⟨_, rfl, ?_⟩; have HB6 := Aside0.mk (below_step (below_alloc (below_alloc HB.out _) _) hb6); clear hb6)
              go_roundg k2
              case measure => omega
              case rel => exact ⟨i + 1, by go_num, HH, ⟨HB6.out⟩⟩
            · rw [if_neg ci] at h
              clear h
              have ci' : ¬ ((i : Int) < (acc.length : Int)) := by omega
              have BO2 := Aside0.mk (blk_below BO1.out HB.out)
              have y0 : wr.cell? ⟨bo, 0, none⟩ = some (.slice none 0 0) := (blk_cell BO2.out 0).trans rfl
              have yf := blk_frozen BO2.out 0
              go_wp2
              go_end0
              refine ⟨rfl, ?_, .slice Av acc.length cv, ?_, ?_⟩
              · exact (chg_of_grown (grown_below HG.out HB.out)).sete _ _
              · exact blk_put (cs := #[.slice none 0 0]) BO2.out 0 _ rfl
              · exact Kd.R_mono (Kd.R_far (p := ⟨bo, 0, none⟩) (Kd.R_newB (Kd.R_below HO.out HB.out) HBO.out) (fun _ hk => hk.2) _) (fun _ _ => trivial)
      · skip
        obtain ⟨name, wt1, p1, tx2, wt2, p2, t, p3, kz, tz, wz, p4, e1, e2, e3, e4, e5, e6⟩ := rdBinds_step h c0
        have c0b : (kd9 != 0) = true := bne_iff_ne.mpr c0
        have HW1 := fun W (q : RB W b A g.length c s q9) => Aside0.mk (want_ok b A g.length c s q9 k1 2 name wt1 p1 W q e1 (by decide))
        have HW2 := fun W (q : RB W b A g.length c s p1) => Aside0.mk (want_ok b A g.length c s p1 k1 7 tx2 wt2 p2 W q e2 (by decide))
        have HT := fun W (q1 : Below w0.heap.size w0 W) (q : RB W b A g.length c s p2) => term_calls k1 b A c g s p2 _ w0 W HSIG.out.1 HSIG.out.2 q1 HB0.out q e3
        have HZ := fun W (q : RB W b A g.length c s p3) => Aside0.mk (peek_ok b A g.length c s p3 k1 kz tz wz p4 W q e5)
        have CL := Aside0.mk e4
        have N9b := Aside0.mk (show g9 ≠ b from blk_ne BK9.out HR.out (by decide))
        have E5 := Aside0.mk e5
        clear h c0 e1 e2 e3 e4 e5
        rcases e6 with ⟨rfl, h⟩ | ⟨rfl, h⟩
        · skip
          have HH := Aside0.mk h
          clear h
          go_wp2_with (first | ((with_reducible refine gate_dst (N := 18) rfl ?_); refine goesL_ (some 18) rfl rfl Try.func29 (by kernel_rfl) rfl #[.pointer (some ⟨b, 0, none⟩), .int .i64 2] rfl (by (try simp only [List.map_toArray, List.map_cons, List.map_nil]); first | done | rfl) ?_; refine ((HW1 _ HR.out).out).mono ?_; rintro e w2 ⟨rfl, hr2, hg2⟩; refine ⟨_, rfl, ?_⟩; have HO2 := Aside0.mk (Kd.R_grown HO.out hg2 (fun k hk e => hk (Option.some.inj e))); have BK92 := Aside0.mk (blk_grown BK9.out hg2 (fun e => N9b.out (Option.some.inj e))); have HR2 := Aside0.mk hr2; have HG2 := Aside0.mk (grown_grown HG.out hg2); clear HO BK9 HR HG hr2 hg2) | ((with_reducible refine gate_dst (N := 20) rfl ?_); refine goesL_ (some 20) rfl rfl Try.func29 (by kernel_rfl) rfl #[.pointer (some ⟨b, 0, none⟩), .int .i64 7] rfl (by (try simp only [List.map_toArray, List.map_cons, List.map_nil]); first | done | rfl) ?_; refine ((HW2 _ HR2.out).out).mono ?_; rintro e w3 ⟨rfl, hr2, hg2⟩; refine ⟨_, rfl, ?_⟩; have HO3 := Aside0.mk (Kd.R_grown HO2.out hg2 (fun k hk e => hk (Option.some.inj e))); have BK93 := Aside0.mk (blk_grown BK92.out hg2 (fun e => N9b.out (Option.some.inj e))); have HR3 := Aside0.mk hr2; have HG3 := Aside0.mk (grown_grown HG2.out hg2); have HX3 := Aside0.mk (below_of_grown H00.out HB0.out HG3.out); clear HO2 BK92 HR2 HG2 hr2 hg2) | ((with_reducible refine gate_dst (N := 24) rfl ?_); refine goesL_ (some 24) rfl rfl Try.func21 (by kernel_rfl) rfl #[.pointer (some ⟨b, 0, none⟩)] rfl (by (try simp only [List.map_toArray, List.map_cons, List.map_nil]); first | done | rfl) ?_; refine ((HT _ HX3.out HR3.out)).mono ?_; rintro e w4 ⟨v', rfl, ho0, hr0, hg⟩; refine ⟨_, rfl, ?_⟩; have HO10 := Aside0.mk (R_elderG (v := v') HO3.out (Kd.R_base ho0) hg (fun k hk e => hk (Option.some.inj e))); have HO11 := Aside0.mk (Kd.R_lower (Kd.R_newB (Kd.R_new' ho0 (Kd.R_lt HO3.out)) HR3.out) HG3.out.size); have BK9' := Aside0.mk (blk_grown BK93.out hg (fun e => N9b.out (Option.some.inj e))); have HR' := Aside0.mk hr0; have HG' := Aside0.mk (grown_grown HG3.out hg); clear HO3 BK93 HR3 HG3 HX3 ho0 hr0 hg; obtain ⟨Ao12, co12, eo12⟩ := Kd.R_slice HO11.out; subst eo12) | ((with_reducible refine gate_builtin (b := .append) (xs := #[.tmp 21, .tmp 26]) rfl ?_); at_builtin; refine Kd.R_append k46 (w0 := w4) w.heap.size rfl (.tmp 21) (.tmp 26) 34 46 (.agg #[(.string ⟨#[]⟩), (.string ⟨#[]⟩), (.int .i64 0), (.slice none 0 0)]) 64 rfl Try.underlying34 infoB rfl (by decide) (by omega) u3 acc (⟨name, t⟩ : S46) [.string name, .string t.f0, .int .i64 t.f1, .slice Ao12 t.f2.length co12] (fun k_ => k_ ≠ b) (fun k_ => (fun k_ => k_ ≠ b) k_ ∧ some k_ ≠ (u3 : Value).ownBlock) rfl rfl ?aP (fun _ hk => hk) ?aF ?aO ?aB ?aS ?aL ?_; (case aP => exact k46_mkM _ _ _ (⟨name, t⟩ : S46) (Kd.R_mono HO11.out (fun k_ hk => ⟨hk.2, hk.1.2⟩))); (case aB => exact Below.refl _ _); (case aF => exact (fun k_ hk => Kd.freshB HR'.out k_ hk)); (case aO => exact Kd.R_mono HO10.out (fun _ hk => hk.1)); (case aS => exact HG'.out.size); (case aL => have := CL.out; omega); intro v1 w5 ho hb hg hat; have BK95 := Aside0.mk (blk_grown BK9'.out hg (Kd.R_ne HO10.out BK9'.out (by decide))); have HR5 := Aside0.mk (show RB w5 b A g.length c s p3 from blk_grown HR'.out hg (Kd.R_away HO10.out (fun k hk => hk.1))); have HG5 := Aside0.mk (grown_own HG'.out hg (fun k hk => Kd.R_base HO10.out k hk)); have HO5 := Aside0.mk ho; clear BK9' HR' HG' HO10 HO11 ho hb hg hat) | ((with_reducible refine gate_dst (N := 30) rfl ?_); refine goesL_ (some 30) rfl rfl Try.func34 (by kernel_rfl) rfl #[.pointer (some ⟨b, 0, none⟩)] rfl (by (try simp only [List.map_toArray, List.map_cons, List.map_nil]); first | done | rfl) ?_; refine ((HZ _ HR5.out).out).mono ?_; rintro e w6 ⟨rfl, hb6⟩; refine ⟨_, rfl, ?_⟩; have BK96 := Aside0.mk (blk_below BK95.out hb6); have HR6 := Aside0.mk (HR5.out.below hb6); have HG6 := Aside0.mk (grown_below HG5.out hb6); have HO6 := Aside0.mk (Kd.R_below HO5.out hb6); clear BK95 HR5 HG5 HO5 hb6; have yq0 : w6.cell? ⟨g9, 0, none⟩ = some (.int .i64 kd9) := (blk_cell BK96.out 0).trans rfl; have yf0 : w6.frozen? ⟨g9, 0, none⟩ = false := blk_frozen BK96.out 0; have yq1 : w6.cell? ⟨g9, 1, none⟩ = some (.string tx9) := (blk_cell BK96.out 1).trans rfl; have yf1 : w6.frozen? ⟨g9, 1, none⟩ = false := blk_frozen BK96.out 1; have yq2 : w6.cell? ⟨g9, 2, none⟩ = some (.int .i64 wt9) := (blk_cell BK96.out 2).trans rfl; have yf2 : w6.frozen? ⟨g9, 2, none⟩ = false := blk_frozen BK96.out 2; have P1 := Aside0.mk (blk_put BK96.out 0 (.int .i64 0) (cs' := #[.int .i64 0, .string tx9, .int .i64 wt9]) rfl); have P2 := Aside0.mk (blk_put P1.out 1 (.string tz) (cs' := #[.int .i64 0, .string tz, .int .i64 wt9]) rfl); have P3 := Aside0.mk (blk_put P2.out 2 (.int .i64 wz) (cs' := #[.int .i64 0, .string tz, .int .i64 wz]) rfl); have HO7 := Aside0.mk (Kd.R_set (Kd.R_set (Kd.R_set HO6.out BK96.out (by decide) 0 (.int .i64 0)) P1.out (by decide) 1 (.string tz)) P2.out (by decide) 2 (.int .i64 wz)); have HR7 := Aside0.mk (show RB (((w6.setCell ⟨g9, 0, none⟩ (.int .i64 0)).setCell ⟨g9, 1, none⟩ (.string tz)).setCell ⟨g9, 2, none⟩ (.int .i64 wz)) b A g.length c s p3 from blk_far (blk_far (blk_far HR6.out (Ne.symm N9b.out) _) (Ne.symm N9b.out) _) (Ne.symm N9b.out) _); have HG7 := Aside0.mk (show w.grownBy (((w6.setCell ⟨g9, 0, none⟩ (.int .i64 0)).setCell ⟨g9, 1, none⟩ (.string tz)).setCell ⟨g9, 2, none⟩ (.int .i64 wz)) (some b) from grown_set (grown_set (grown_set HG6.out (.inr GE9.out) _) (.inr GE9.out) _) (.inr GE9.out) _)))
          have GE' := Aside0.mk (show w.heap.size ≤ w6.heap.size from HG6.out.size)
          refine hold_world (G := Handed _ _ _) (fun W => W.heap[w6.heap.size]? = some (.cells #[.int .i64 0, .string tz, .int .i64 wz] 70 (0, 0)) ∧ Kd.R k46 46 W w.heap.size (fun k_ => k_ ≠ b) v1 (acc ++ [⟨name, t⟩]) ∧ RB W b A g.length c s p3 ∧ w.grownBy W (some b)) ⟨blk_new3 _ _ _ _ _ _ _ _ _ rfl, Kd.R_alloc HO7.out _, blk_alloc HR7.out _, grown_alloc HG7.out _⟩ ?_
          generalize w6.heap.size = g13 at GE' ⊢
          rintro w14 ⟨bk9, ho, hr, hg⟩
          go_roundg k1
          case measure => have := HK1.out; omega
          case rel => exact ⟨g13, 0, tz, wz, p3, acc ++ [⟨name, t⟩], rfl, HH, ⟨by have := HK1.out; omega⟩, ⟨bk9⟩, ⟨ho⟩, ⟨hr⟩, ⟨hg⟩, GE'⟩
        · skip
          have HN := fun W (q : RB W b A g.length c s p3) => Aside0.mk (next_ok b A g.length c s p3 k1 5 tz wz p4 W q E5.out (by decide))
          have HH := Aside0.mk h
          clear h
          go_wp2_with (first | ((with_reducible refine gate_dst (N := 18) rfl ?_); refine goesL_ (some 18) rfl rfl Try.func29 (by kernel_rfl) rfl #[.pointer (some ⟨b, 0, none⟩), .int .i64 2] rfl (by (try simp only [List.map_toArray, List.map_cons, List.map_nil]); first | done | rfl) ?_; refine ((HW1 _ HR.out).out).mono ?_; rintro e w2 ⟨rfl, hr2, hg2⟩; refine ⟨_, rfl, ?_⟩; have HO2 := Aside0.mk (Kd.R_grown HO.out hg2 (fun k hk e => hk (Option.some.inj e))); have BK92 := Aside0.mk (blk_grown BK9.out hg2 (fun e => N9b.out (Option.some.inj e))); have HR2 := Aside0.mk hr2; have HG2 := Aside0.mk (grown_grown HG.out hg2); clear HO BK9 HR HG hr2 hg2) | ((with_reducible refine gate_dst (N := 20) rfl ?_); refine goesL_ (some 20) rfl rfl Try.func29 (by kernel_rfl) rfl #[.pointer (some ⟨b, 0, none⟩), .int .i64 7] rfl (by (try simp only [List.map_toArray, List.map_cons, List.map_nil]); first | done | rfl) ?_; refine ((HW2 _ HR2.out).out).mono ?_; rintro e w3 ⟨rfl, hr2, hg2⟩; refine ⟨_, rfl, ?_⟩; have HO3 := Aside0.mk (Kd.R_grown HO2.out hg2 (fun k hk e => hk (Option.some.inj e))); have BK93 := Aside0.mk (blk_grown BK92.out hg2 (fun e => N9b.out (Option.some.inj e))); have HR3 := Aside0.mk hr2; have HG3 := Aside0.mk (grown_grown HG2.out hg2); have HX3 := Aside0.mk (below_of_grown H00.out HB0.out HG3.out); clear HO2 BK92 HR2 HG2 hr2 hg2) | ((with_reducible refine gate_dst (N := 24) rfl ?_); refine goesL_ (some 24) rfl rfl Try.func21 (by kernel_rfl) rfl #[.pointer (some ⟨b, 0, none⟩)] rfl (by (try simp only [List.map_toArray, List.map_cons, List.map_nil]); first | done | rfl) ?_; refine ((HT _ HX3.out HR3.out)).mono ?_; rintro e w4 ⟨v', rfl, ho0, hr0, hg⟩; refine ⟨_, rfl, ?_⟩; have HO10 := Aside0.mk (R_elderG (v := v') HO3.out (Kd.R_base ho0) hg (fun k hk e => hk (Option.some.inj e))); have HO11 := Aside0.mk (Kd.R_lower (Kd.R_newB (Kd.R_new' ho0 (Kd.R_lt HO3.out)) HR3.out) HG3.out.size); have BK9' := Aside0.mk (blk_grown BK93.out hg (fun e => N9b.out (Option.some.inj e))); have HR' := Aside0.mk hr0; have HG' := Aside0.mk (grown_grown HG3.out hg); clear HO3 BK93 HR3 HG3 HX3 ho0 hr0 hg; obtain ⟨Ao12, co12, eo12⟩ := Kd.R_slice HO11.out; subst eo12) | ((with_reducible refine gate_builtin (b := .append) (xs := #[.tmp 21, .tmp 26]) rfl ?_); at_builtin; refine Kd.R_append k46 (w0 := w4) w.heap.size rfl (.tmp 21) (.tmp 26) 34 46 (.agg #[(.string ⟨#[]⟩), (.string ⟨#[]⟩), (.int .i64 0), (.slice none 0 0)]) 64 rfl Try.underlying34 infoB rfl (by decide) (by omega) u3 acc (⟨name, t⟩ : S46) [.string name, .string t.f0, .int .i64 t.f1, .slice Ao12 t.f2.length co12] (fun k_ => k_ ≠ b) (fun k_ => (fun k_ => k_ ≠ b) k_ ∧ some k_ ≠ (u3 : Value).ownBlock) rfl rfl ?aP (fun _ hk => hk) ?aF ?aO ?aB ?aS ?aL ?_; (case aP => exact k46_mkM _ _ _ (⟨name, t⟩ : S46) (Kd.R_mono HO11.out (fun k_ hk => ⟨hk.2, hk.1.2⟩))); (case aB => exact Below.refl _ _); (case aF => exact (fun k_ hk => Kd.freshB HR'.out k_ hk)); (case aO => exact Kd.R_mono HO10.out (fun _ hk => hk.1)); (case aS => exact HG'.out.size); (case aL => have := CL.out; omega); intro v1 w5 ho hb hg hat; have BK95 := Aside0.mk (blk_grown BK9'.out hg (Kd.R_ne HO10.out BK9'.out (by decide))); have HR5 := Aside0.mk (show RB w5 b A g.length c s p3 from blk_grown HR'.out hg (Kd.R_away HO10.out (fun k hk => hk.1))); have HG5 := Aside0.mk (grown_own HG'.out hg (fun k hk => Kd.R_base HO10.out k hk)); have HO5 := Aside0.mk ho; clear BK9' HR' HG' HO10 HO11 ho hb hg hat) | ((with_reducible refine gate_dst (N := 30) rfl ?_); refine goesL_ (some 30) rfl rfl Try.func34 (by kernel_rfl) rfl #[.pointer (some ⟨b, 0, none⟩)] rfl (by (try simp only [List.map_toArray, List.map_cons, List.map_nil]); first | done | rfl) ?_; refine ((HZ _ HR5.out).out).mono ?_; rintro e w6 ⟨rfl, hb6⟩; refine ⟨_, rfl, ?_⟩; have BK96 := Aside0.mk (blk_below BK95.out hb6); have HR6 := Aside0.mk (HR5.out.below hb6); have HG6 := Aside0.mk (grown_below HG5.out hb6); have HO6 := Aside0.mk (Kd.R_below HO5.out hb6); clear BK95 HR5 HG5 HO5 hb6; have yq0 : w6.cell? ⟨g9, 0, none⟩ = some (.int .i64 kd9) := (blk_cell BK96.out 0).trans rfl; have yf0 : w6.frozen? ⟨g9, 0, none⟩ = false := blk_frozen BK96.out 0; have yq1 : w6.cell? ⟨g9, 1, none⟩ = some (.string tx9) := (blk_cell BK96.out 1).trans rfl; have yf1 : w6.frozen? ⟨g9, 1, none⟩ = false := blk_frozen BK96.out 1; have yq2 : w6.cell? ⟨g9, 2, none⟩ = some (.int .i64 wt9) := (blk_cell BK96.out 2).trans rfl; have yf2 : w6.frozen? ⟨g9, 2, none⟩ = false := blk_frozen BK96.out 2; have P1 := Aside0.mk (blk_put BK96.out 0 (.int .i64 5) (cs' := #[.int .i64 5, .string tx9, .int .i64 wt9]) rfl); have P2 := Aside0.mk (blk_put P1.out 1 (.string tz) (cs' := #[.int .i64 5, .string tz, .int .i64 wt9]) rfl); have P3 := Aside0.mk (blk_put P2.out 2 (.int .i64 wz) (cs' := #[.int .i64 5, .string tz, .int .i64 wz]) rfl); have HO7 := Aside0.mk (Kd.R_set (Kd.R_set (Kd.R_set HO6.out BK96.out (by decide) 0 (.int .i64 5)) P1.out (by decide) 1 (.string tz)) P2.out (by decide) 2 (.int .i64 wz)); have HR7 := Aside0.mk (show RB (((w6.setCell ⟨g9, 0, none⟩ (.int .i64 5)).setCell ⟨g9, 1, none⟩ (.string tz)).setCell ⟨g9, 2, none⟩ (.int .i64 wz)) b A g.length c s p3 from blk_far (blk_far (blk_far HR6.out (Ne.symm N9b.out) _) (Ne.symm N9b.out) _) (Ne.symm N9b.out) _); have HG7 := Aside0.mk (show w.grownBy (((w6.setCell ⟨g9, 0, none⟩ (.int .i64 5)).setCell ⟨g9, 1, none⟩ (.string tz)).setCell ⟨g9, 2, none⟩ (.int .i64 wz)) (some b) from grown_set (grown_set (grown_set HG6.out (.inr GE9.out) _) (.inr GE9.out) _) (.inr GE9.out) _)) | (go_at_call 35; refine (need_ok _ _ _).mono ?_; rintro e w5 ⟨rfl, rfl⟩) | ((with_reducible refine gate_dst (N := 43) rfl ?_); refine goesL_ (some 43) rfl rfl Try.func36 (by kernel_rfl) rfl #[.pointer (some ⟨b, 0, none⟩)] rfl (by (try simp only [List.map_toArray, List.map_cons, List.map_nil]); first | done | rfl) ?_; refine ((HN _ HR7.out).out).mono ?_; rintro e w8 ⟨rfl, hr2, hg2⟩; refine ⟨_, rfl, ?_⟩; have HO8 := Aside0.mk (Kd.R_grown HO7.out hg2 (fun k hk e => hk (Option.some.inj e))); have BK98 := Aside0.mk (blk_grown P3.out hg2 (fun e => N9b.out (Option.some.inj e))); have HR8 := Aside0.mk hr2; have HG8 := Aside0.mk (grown_grown HG7.out hg2); clear HO7 HR7 HG7 hr2 hg2; have zq0 : w8.cell? ⟨g9, 0, none⟩ = some (.int .i64 5) := (blk_cell BK98.out 0).trans rfl; have zq1 : w8.cell? ⟨g9, 1, none⟩ = some (.string tz) := (blk_cell BK98.out 1).trans rfl; have zq2 : w8.cell? ⟨g9, 2, none⟩ = some (.int .i64 wz) := (blk_cell BK98.out 2).trans rfl))
          have GE' := Aside0.mk (show w.heap.size ≤ w8.heap.size from HG8.out.size)
          refine hold_world (G := Handed _ _ _) (fun W => W.heap[w8.heap.size]? = some (.cells #[.int .i64 5, .string tz, .int .i64 wz] 70 (0, 0)) ∧ Kd.R k46 46 W w.heap.size (fun k_ => k_ ≠ b) v1 (acc ++ [⟨name, t⟩]) ∧ RB W b A g.length c s p4 ∧ w.grownBy W (some b)) ⟨blk_new _ _, Kd.R_alloc HO8.out _, blk_alloc HR8.out _, grown_alloc HG8.out _⟩ ?_
          generalize w8.heap.size = g13 at GE' ⊢
          rintro w14 ⟨bk9, ho, hr, hg⟩
          go_roundg k1
          case measure => have := HK1.out; omega
          case rel => exact ⟨g13, 5, tz, wz, p4, acc ++ [⟨name, t⟩], rfl, HH, ⟨by have := HK1.out; omega⟩, ⟨bk9⟩, ⟨ho⟩, ⟨hr⟩, ⟨hg⟩, GE'⟩
end Go.Proofs.Ytpepjodkahdicaa.PTb
