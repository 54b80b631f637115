/- The contract of the reader's term: the loop over the arguments, and all ways together. Conditions: none. -/
-- Written by programs of this session (wip/tools), cut to what the claim uses (wip/tools/prune.py).
import Derived.Test.YtpepjodkahdicaaRdE
namespace Go.Proofs.Ytpepjodkahdicaa.PTb
open Go.RowKit Go.Proofs.YtpepjodkahdicaaW.PrintWords Go.Proofs.YtpepjodkahdicaaW.PrintLast Go.Proofs.YtpepjodkahdicaaW.PrintMore
set_option linter.unusedVariables false
set_option linter.unusedSimpArgs false
section
variable {α : Type} {d : Kd α} {e base g : Nat} {ok : Nat → Prop} {w w1 W : World} {u v : Value} {xs : List α} {row : Option Nat}
theorem R_elderG (hu : d.R e W base ok u xs) (hbase : ∀ k, v.ownBlock = some k → W.heap.size ≤ k) (hg : W.grownBy w1 row) (hr : ∀ k, ok k → some k ≠ row) : d.R e w1 base (fun k => ok k ∧ some k ≠ v.ownBlock) u xs :=
  Kd.R_mono (Kd.R_move (Kd.R_bound hu) (fun k hk => hg.block k hk.2.2.1 (hr k hk.1))) (fun k hk => ⟨hk.1, fun he => by have := hbase k he.symm; have := hk.2.2.1; omega⟩)
end
theorem grown_own {a W w1 : World} {b : Nat} {v : Value} (h : a.grownBy W (some b)) (hg : W.grownBy w1 v.ownBlock) (hv : ∀ k, v.ownBlock = some k → a.heap.size ≤ k) : a.grownBy w1 (some b) :=
  ⟨hg.os.trans h.os, hg.tape.trans h.tape, hg.output.trans h.output, Nat.le_trans h.size hg.size, fun i hi hn => (hg.block i (Nat.lt_of_lt_of_le hi h.size) (fun e => by have := hv i e.symm; omega)).trans (h.block i hi hn)⟩
theorem blk_new3 (w : World) (a1 a2 a3 : Addr) (u1 u2 u3 : Value) (o : Obj) (n : Nat) (hn : w.heap.size = n) : ((((w.setCell a1 u1).setCell a2 u2).setCell a3 u3).alloc o).heap[n]? = some o := by
  subst hn
  have := blk_new (((w.setCell a1 u1).setCell a2 u2).setCell a3 u3) o
  simpa [World.setCell] using this
theorem info27 : (Try.prog.info? 27).map (fun i => (i.zero, i.size, i.bytes)) = some (some (.agg #[(.string ⟨#[]⟩), (.int .i64 0), (.slice none 0 0)]), 3, 48) := by kernel_rfl
/-- term keeps its word at that many rounds -/
def TermSpec (m : Nat) : Prop := ∀ (b : Nat) (A : Option Addr) (c : Nat) (g : List S62) (s : ByteArray) (p : Int) (r : Except (Int × Int) (S27 × Int)) (w0 w : World) (hS : Kd.C k62 w0 A g.length g) (hc : g.length ≤ c) (H0 : Below w0.heap.size w0 w) (hb0 : w0.heap.size ≤ b) (hb : RB w b A g.length c s p) (h : rdTerm m g s p = some r),
  Calls Try.prog 21 #[.pointer (some ⟨b, 0, none⟩)] w (TermPost b A g.length c s w r)
def argsTo (y1 : Int) : Except (Int × Int) (List S27 × Int) → Except (Int × Int) (S27 × Int)
  | .error e => .error e
  | .ok (l, q) => .ok (⟨⟨#[]⟩, y1, l⟩, q)
set_option maxHeartbeats 8000000 in
set_option maxRecDepth 100000 in
theorem term_loop (b : Nat) (A : Option Addr) (c : Nat) (g : List S62) (s : ByteArray) (p : Int) (k : Nat) (tx : ByteArray) (wat p1 : Int) (y1 : Int) (IH : ∀ m, m < k → TermSpec m) (tx2 : ByteArray) (wat2 en2 kd3 : Int) (tx3 : ByteArray) (wt3 p2 : Int) (ra : Except (Int × Int) (List S27 × Int)) (w0 w : World) (hS : Kd.C k62 w0 A g.length g) (hc : g.length ≤ c) (H0 : Below w0.heap.size w0 w) (hb0 : w0.heap.size ≤ b) (hb : RB w b A g.length c s p) (hn : words_Next.f k s p = some (1, tx, wat, p1, 0)) (hf : sig_Find.f k g tx = some (y1, true)) (h2 : words_Next.f k s p1 = some (3, tx2, wat2, en2, 0)) (h3 : words_Next.f k s p1 = some (kd3, tx3, wt3, p2, 0)) (h30 : ¬ kd3 = 0) (h4 : rdArgs k g s p2 kd3 [] = some ra) :
    Calls Try.prog 21 #[.pointer (some ⟨b, 0, none⟩)] w (TermPost b A g.length c s w (argsTo y1 ra)) := by
  have HP := fun W (q : RB W b A g.length c s p1) => Aside0.mk (peek_ok b A g.length c s p1 k 3 tx2 wat2 en2 W q h2)
  have HN3 := fun W (q : RB W b A g.length c s p1) => Aside0.mk (next_ok b A g.length c s p1 k kd3 tx3 wt3 p2 W q h3 h30)
  have H4 := Aside0.mk h4
  have HSIG := Aside0.mk (And.intro hS hc)
  clear h2 h3 h30 h4
  have HN := fun W (q : RB W b A g.length c s p) => Aside0.mk (next_ok b A g.length c s p k 1 tx wat p1 W q hn (by decide))
  have HRB := Aside0.mk hb
  have HS := fun W (q : Below w0.heap.size w0 W) => Aside0.mk (sig_Find.calls k A c g tx y1 true W (Kd.C_below hS q) hc hf)
  have H00 := Aside0.mk (And.intro H0 hb0)
  clear hn hb hS hf H0 hb0 hc
  go_enter Try.func21, Try.ntmps21
  go_wp2_with (first | ((with_reducible refine gate_dst (N := 2) rfl ?_); refine box_event ?hg (N := 2) ?hd (cs := #[.string (⟨#[]⟩ : ByteArray), .int .i64 0, .slice none 0 0]) (t := 27) ?hr ?_; (case hd => rfl); (case hg => rfl); (case hr => first | (go_simp; done) | (go_simp; rfl)); intro g2 hg_g2 w1 hbox_g2 hb_g2; have HG_g2 := Aside0.mk hg_g2; have HX_g2 := Aside0.mk hbox_g2; have HB_g2 := Aside0.mk hb_g2; clear hg_g2 hbox_g2 hb_g2) | ((with_reducible refine gate_dst (N := 11) rfl ?_); refine goesL_ (some 11) rfl rfl Try.func36 (by kernel_rfl) rfl #[.pointer (some ⟨b, 0, none⟩)] rfl (by (try simp only [List.map_toArray, List.map_cons, List.map_nil]); first | done | rfl) ?_; refine ((HN _ (HRB.out.below HB_g2.out)).out).mono ?_; rintro e w2 ⟨rfl, hr2, hg2⟩; refine ⟨_, rfl, ?_⟩; have HR_w2 := Aside0.mk hr2; have HG_w2 := Aside0.mk hg2; clear hr2 hg2; have LE := Aside0.mk (And.intro (show w.heap.size ≤ g2 by have := HG_g2.out; omega) (show g2 ≠ b by have := HG_g2.out; have := blk_lt HRB.out; omega)); have BK2 := Aside0.mk (blk_grown HX_g2.out HG_w2.out (fun e => LE.out.2 (Option.some.inj e)))) | (go_at_call 35; refine (need_ok _ _ _).mono ?_; rintro e w5 ⟨rfl, rfl⟩))
  refine hold_world (G := Code.wp _ _ _ _) (fun W => W.heap[w2.heap.size]? = some (.cells #[.int .i64 1, .string tx, .int .i64 wat] 70 (0, 0)) ∧ W.heap[g2]? = some (.cells #[.string (⟨#[]⟩ : ByteArray), .int .i64 0, .slice none 0 0] 27 (0, 0)) ∧ RB W b A g.length c s p1 ∧ w.grownBy W (some b)) ⟨blk_new _ _, blk_alloc BK2.out _, blk_alloc HR_w2.out _, grown_alloc (grown_grown (grown_of_below' HB_g2.out _) HG_w2.out) _⟩ ?_
  have LE2 := Aside0.mk (And.intro (show g2 < w2.heap.size from blk_lt BK2.out) (show b < w.heap.size from blk_lt HRB.out))
  clear HX_g2 HG_g2 HB_g2 HR_w2 HG_w2 BK2 HN HRB
  generalize w2.heap.size = g3 at LE2 ⊢
  clear w2 w1
  rintro w3 ⟨bk3, bk2, hr3, hg3⟩
  have BK3 := Aside0.mk bk3
  have BK2 := Aside0.mk bk2
  have HR3 := Aside0.mk hr3
  have HG3 := Aside0.mk hg3
  clear bk3 bk2 hr3 hg3
  have HB3 := Aside0.mk (below_of_grown H00.out.1 H00.out.2 HG3.out)
  have c0 := HR3.out.cell0
  have q1 : w3.cell? ⟨g3, 1, none⟩ = some (.string tx) := (blk_cell BK3.out 1).trans rfl
  go_region_held3 (fun W => W.cell? ⟨b, 0, none⟩ = some (.slice A g.length c) ∧ W.cell? ⟨g3, 1, none⟩ = some (.string tx)) (go_keep) ((go_at_call 38; refine (HS _ (below_drew1 HB3.out)).out.mono ?_; rintro e w5 ⟨rfl, hd⟩; obtain ⟨nd, rfl⟩ := hd.out))
  refine hold_world (G := Exit.then _ _ _ _) (fun W => W.heap[g3]? = some (.cells #[.int .i64 1, .string tx, .int .i64 wat] 70 (0, 0)) ∧ W.heap[g2]? = some (.cells #[.string (⟨#[]⟩ : ByteArray), .int .i64 0, .slice none 0 0] 27 (0, 0)) ∧ RB W b A g.length c s p1 ∧ w.grownBy W (some b)) ⟨BK3.out, BK2.out, HR3.out, grown_below HG3.out (pw_below_drewN (Below.refl _ _) _)⟩ ?_
  clear BK3 BK2 HR3 HG3 HB3 c0 q1 HS hd
  rintro w4 ⟨bk3, bk2, hr3, hg3⟩
  have BK3 := Aside0.mk bk3
  have BK2 := Aside0.mk bk2
  have HR3 := Aside0.mk hr3
  have HG3 := Aside0.mk hg3
  clear bk3 bk2 hr3 hg3
  have q2 : w4.cell? ⟨g3, 2, none⟩ = some (.int .i64 wat) := (blk_cell BK3.out 2).trans rfl
  go_wp2_with (first | (go_at_call 35; refine (need_ok _ _ _).mono ?_; rintro e w5 ⟨rfl, rfl⟩) | ((with_reducible refine gate_dst (N := 42) rfl ?_); have LE3 := Aside0.mk (And.intro (show g2 < w4.heap.size from blk_lt BK2.out) (show g3 < w4.heap.size from blk_lt BK3.out)); refine hold_world (G := wpList _ _ _ _ _) (fun W => W.heap[w4.heap.size]? = some (.cells #[.string (⟨#[]⟩ : ByteArray), .int .i64 y1, .slice none 0 0] 27 (0, 0)) ∧ W.heap[g2]? = some (.cells #[.string (⟨#[]⟩ : ByteArray), .int .i64 0, .slice none 0 0] 27 (0, 0)) ∧ RB W b A g.length c s p1 ∧ w.grownBy W (some b)) ⟨(by repeat (first | exact blk_new _ _ | refine blk_alloc ?_ _ | refine blk_drew ?_ | refine blk_drewN ?_ _)), (by repeat (first | exact BK2.out | refine blk_alloc ?_ _ | refine blk_drew ?_ | refine blk_drewN ?_ _)), (by unfold RB; repeat (first | exact HR3.out | refine blk_alloc ?_ _ | refine blk_drew ?_ | refine blk_drewN ?_ _)), (by repeat (first | exact HG3.out | refine grown_alloc ?_ _ | refine grown_drew ?_ | refine grown_below ?_ (pw_below_drewN (Below.refl _ _) _)))⟩ ?_; generalize w4.heap.size = g6 at LE3 ⊢; clear BK3 BK2 HR3 HG3 q2; (try clear hHeld); clear w4; rintro w5 ⟨bk6, bk2, hr5, hg5⟩; have BK6 := Aside0.mk bk6; have BK2 := Aside0.mk bk2; have HR5 := Aside0.mk hr5; have HG5 := Aside0.mk hg5; clear bk6 bk2 hr5 hg5; refine goesL_ (some 42) rfl rfl Try.func34 (by kernel_rfl) rfl #[.pointer (some ⟨b, 0, none⟩)] rfl (by (try simp only [List.map_toArray, List.map_cons, List.map_nil]); first | done | rfl) ?_; refine (HP _ HR5.out).out.mono ?_; rintro e w6 ⟨rfl, hb6⟩; refine ⟨_, rfl, ?_⟩; have HB6 := Aside0.mk hb6; clear hb6; have BK6' := Aside0.mk (blk_below BK6.out HB6.out); have BK2' := Aside0.mk (blk_below BK2.out HB6.out); have HR6 := Aside0.mk (HR5.out.below HB6.out); have HG6 := Aside0.mk (grown_below HG5.out HB6.out); clear BK6 BK2 HR5 HG5 HB6 w5; skip) | ((with_reducible refine gate_dst (N := 50) rfl ?_); refine goesL_ (some 50) rfl rfl Try.func36 (by kernel_rfl) rfl #[.pointer (some ⟨b, 0, none⟩)] rfl (by (try simp only [List.map_toArray, List.map_cons, List.map_nil]); first | done | rfl) ?_; refine ((HN3 _ (blk_alloc HR6.out _)).out).mono ?_; rintro e w7 ⟨rfl, hr2, hg2⟩; refine ⟨_, rfl, ?_⟩; have HR_w7 := Aside0.mk hr2; have HG_w7 := Aside0.mk hg2; clear hr2 hg2))
  refine hold_world (G := Code.wp _ _ _ _) (fun W => W.heap[w7.heap.size]? = some (.cells #[.int .i64 kd3, .string tx3, .int .i64 wt3] 70 (0, 0)) ∧ W.heap[g6]? = some (.cells #[.string (⟨#[]⟩ : ByteArray), .int .i64 y1, .slice none 0 0] 27 (0, 0)) ∧ W.heap[g2]? = some (.cells #[.string (⟨#[]⟩ : ByteArray), .int .i64 0, .slice none 0 0] 27 (0, 0)) ∧ RB W b A g.length c s p2 ∧ w.grownBy W (some b)) ⟨blk_new _ _, blk_alloc (blk_grown (blk_alloc BK6'.out _) HG_w7.out (fun e => ?_)) _, blk_alloc (blk_grown (blk_alloc BK2'.out _) HG_w7.out (fun e => LE.out.2 (Option.some.inj e))) _, blk_alloc HR_w7.out _, grown_alloc (grown_grown (grown_alloc HG6.out _) HG_w7.out) _⟩ ?_
  · exact absurd (Option.some.inj e) (blk_ne BK6'.out HR6.out (by decide))
  have NB := Aside0.mk (And.intro (show g6 ≠ b from blk_ne BK6'.out HR6.out (by decide)) (show g2 ≠ g6 by have := LE3.out.1; omega))
  have GE6 := Aside0.mk (show w.heap.size ≤ g6 by have := LE3.out.1; have := LE.out.1; omega)
  have GE9 := Aside0.mk (show w.heap.size ≤ w7.heap.size from (grown_grown (grown_alloc HG6.out _) HG_w7.out).size)
  clear BK6' BK2' HR6 HG6 HR_w7 HG_w7 HN3 HP
  generalize w7.heap.size = g9 at GE9 ⊢
  generalize w6.heap.size = g7
  clear w7 w6
  rintro w8 ⟨bk9, bk6, bk2, hr8, hg8⟩
  have BK9 := Aside0.mk bk9
  have BK6 := Aside0.mk bk6
  have BK2 := Aside0.mk bk2
  have HR8 := Aside0.mk hr8
  have HG8 := Aside0.mk hg8
  clear bk9 bk6 bk2 hr8 hg8
  go_loopg [9] k (fun kq v9 w' => ∃ (g9 : Nat) (kd9 : Int) (tx9 : ByteArray) (wt9 q9 : Int) (acc : List S27) (v : Value), v9 = .pointer (some ⟨g9, 0, none⟩) ∧ Aside0 (rdArgs kq g s q9 kd9 acc = some ra) ∧ Aside0 (kq ≤ k) ∧ Aside0 (w'.heap[g9]? = some (.cells #[.int .i64 kd9, .string tx9, .int .i64 wt9] 70 (0, 0))) ∧ Aside0 (w'.heap[g6]? = some (.cells #[.string (⟨#[]⟩ : ByteArray), .int .i64 y1, v] 27 (0, 0))) ∧ Aside0 (w'.heap[g2]? = some (.cells #[.string (⟨#[]⟩ : ByteArray), .int .i64 0, .slice none 0 0] 27 (0, 0))) ∧ Aside0 (Kd.R k27 27 w' w.heap.size (fun k_ => (k_ ≠ g2 ∧ k_ ≠ g6) ∧ k_ ≠ b) v acc) ∧ Aside0 (RB w' b A g.length c s q9) ∧ Aside0 (w.grownBy w' (some b)) ∧ Aside0 (w.heap.size ≤ g9))
  case atStart => exact ⟨g9, kd3, tx3, wt3, p2, [], .slice none 0 0, rfl, H4, ⟨Nat.le_refl _⟩, BK9, BK6, BK2, ⟨Kd.R_nil _ _ _ _ _⟩, HR8, HG8, GE9⟩
  case round =>
    clear BK9 BK6 BK2 HR8 HG8 H4
    obtain ⟨g9, kd9, tx9, wt9, q9, acc, v, rfl, HA, HK1, BK9, BK6, BK2, HO, HR, HG, GE9⟩ := hrel
    cases gk with
    | zero => exact absurd HA.out (by simp [rdArgs])
    | succ k1 =>
      have h := HA.out
      clear HA
      simp only [rdArgs] at h
      have p0 : wr.cell? ⟨g9, 0, none⟩ = some (.int .i64 kd9) := (blk_cell BK9.out 0).trans rfl
      by_cases c4 : kd9 = 4
      · rw [if_pos c4] at h
        obtain rfl := Option.some.inj h
        have c4b : (kd9 != 4) = false := bne_eq_false_iff_eq.mpr c4
        clear c4
        obtain ⟨Av, cv, ev⟩ := Kd.R_slice HO.out
        subst ev
        have y0 : wr.cell? ⟨g6, 0, none⟩ = some (.string (⟨#[]⟩ : ByteArray)) := (blk_cell BK6.out 0).trans rfl
        have y1_ : wr.cell? ⟨g6, 1, none⟩ = some (.int .i64 y1) := (blk_cell BK6.out 1).trans rfl
        have y2 : wr.cell? ⟨g6, 2, none⟩ = some (.slice Av acc.length cv) := (blk_cell BK6.out 2).trans rfl
        have zq0 : wr.cell? ⟨g2, 0, none⟩ = some (.string (⟨#[]⟩ : ByteArray)) := (blk_cell BK2.out 0).trans rfl
        have zf0 : wr.frozen? ⟨g2, 0, none⟩ = false := blk_frozen BK2.out 0
        have zq1 : wr.cell? ⟨g2, 1, none⟩ = some (.int .i64 0) := (blk_cell BK2.out 1).trans rfl
        have zf1 : wr.frozen? ⟨g2, 1, none⟩ = false := blk_frozen BK2.out 1
        have zq2 : wr.cell? ⟨g2, 2, none⟩ = some (.slice none 0 0) := (blk_cell BK2.out 2).trans rfl
        have zf2 : wr.frozen? ⟨g2, 2, none⟩ = false := blk_frozen BK2.out 2
        have n26 : ¬ g2 = g6 := NB.out.2
        have n62 : ¬ g6 = g2 := fun e => NB.out.2 e.symm
        go_wp2
        refine bodyPost_ret (v := .agg #[.string (⟨#[]⟩ : ByteArray), .int .i64 y1, .slice Av acc.length cv]) (by simp [results, Try.results21, go_sem, *]) rfl ?_
        refine ⟨_, rfl, ?_, ?_, ?_⟩
        · exact Kd.R_mono (Kd.R_far (p := ⟨g2, 2, none⟩) (Kd.R_far (p := ⟨g2, 1, none⟩) (Kd.R_far (p := ⟨g2, 0, none⟩) HO.out (fun _ hk => hk.1.1) _) (fun _ hk => hk.1.1) _) (fun _ hk => hk.1.1) _) (fun _ _ => trivial)
        · unfold RB
          repeat (first | exact HR.out | refine blk_alloc ?_ _ | refine blk_drew ?_ | refine blk_drewN ?_ _ | refine blk_far ?_ (Ne.symm LE.out.2) _)
        · repeat (first | exact HG.out | refine grown_alloc ?_ _ | refine grown_drew ?_ | refine grown_below ?_ (pw_below_drewN (Below.refl _ _) _) | refine grown_set ?_ (.inr LE.out.1) _)
      · rw [if_neg c4] at h
        have c4b : (kd9 != 4) = true := bne_iff_ne.mpr c4
        clear c4
        obtain ⟨rt, hrt, h⟩ := Option.bind_eq_some_iff.mp h
        have IHt := fun W (q1 : Below w0.heap.size w0 W) (q2 : RB W b A g.length c s q9) => Aside0.mk (IH k1 (by have := HK1.out; omega) b A c g s q9 rt w0 W HSIG.out.1 HSIG.out.2 q1 H00.out.2 q2 hrt)
        have HB := Aside0.mk (below_of_grown H00.out.1 H00.out.2 HG.out)
        go_wp2
        have n0_ := Aside0.mk (Kd.R_drew HO.out)
        have n1_ := Aside0.mk (blk_drew BK9.out)
        have n2_ := Aside0.mk (blk_drew BK6.out)
        have n3_ := Aside0.mk (blk_drew BK2.out)
        have n4_ := Aside0.mk (show RB wr.drew b A g.length c s q9 from blk_drew HR.out)
        have n5_ := Aside0.mk (grown_drew HG.out)
        have n6_ := Aside0.mk (below_drew1 HB.out)
        clear HO BK9 BK6 BK2 HR HG HB p0
        have HO := n0_
        have BK9 := n1_
        have BK6 := n2_
        have BK2 := n3_
        have HR := n4_
        have HG := n5_
        have HB := n6_
        clear n0_ n1_ n2_ n3_ n4_ n5_ n6_
        have HEAD := Aside0.mk (And.intro HO.out (And.intro BK6.out HB.out))
        refine start_ (n := 8) (S := fun w' => w'.cell? ⟨g6, 2, none⟩ = some v) (ds := [7]) #[false, false, false, false, false, false, false, false] (by kernel_rfl) rfl rfl ((blk_cell BK6.out 2).trans rfl) (fun hHeld => ?_)
        generalize wr.drew = w9 at HO BK9 BK6 BK2 HR HG HB HEAD hHeld ⊢
        refine pure_ (i := 0) (N := some 54) (v := ?_) (a' := ?_) #[true, false, false, false, false, false, false, false] rfl rfl (by kernel_rfl) (fun _ _ _ h => h) (Or.inl ⟨by rfl, ?_⟩) ?_ ?_
        rotate_left
        · intro w'
          go_simp
          with_reducible rfl
        rotate_left
        · simp only [Act.put, List.setIfInBounds_toArray, List.set_cons_zero, List.set_cons_succ, i64_w, i32_w]
          rfl
        refine pure_ (i := 2) (N := some 56) (v := ?_) (a' := ?_) #[true, false, true, false, false, false, false, false] rfl rfl (by kernel_rfl) (fun _ _ _ h => h) (Or.inl ⟨by rfl, ?_⟩) ?_ ?_
        rotate_left
        · intro w'
          go_simp
          with_reducible rfl
        rotate_left
        · simp only [Act.put, List.setIfInBounds_toArray, List.set_cons_zero, List.set_cons_succ, i64_w, i32_w]
          rfl
        refine take_ (i := 1) (N := some 55) (v := ?_) (a' := ?_) #[true, true, true, false, false, false, false, false] rfl rfl (by kernel_rfl) (fun _ _ _ h => h) (Or.inl ⟨by rfl, ?_⟩) hHeld ?_ ?_
        rotate_left
        · rintro w' s0
          go_simp
          with_reducible rfl
        rotate_left
        · simp only [Act.put, List.setIfInBounds_toArray, List.set_cons_zero, List.set_cons_succ, i64_w, i32_w]
          rfl
        rcases rt with ⟨er, ea⟩ | ⟨t, q1⟩
        · obtain rfl := Option.some.inj h
          refine one_ (i := 3) (N := some 57) #[true, true, true, true, false, false, false, false] rfl rfl (by kernel_rfl) (by decide) (fun K hK => ?_)
          refine panics_ Try.func21 (by kernel_rfl) rfl #[.pointer (some ⟨b, 0, none⟩)] rfl rfl (by (try simp only [List.map_toArray, List.map_cons, List.map_nil]); first | done | rfl) ?_
          refine (IHt _ HB.out HR.out).out.mono ?_
          rintro e w10 ⟨rfl, hg⟩
          exact ⟨_, rfl, rfl, rfl, grown_grown HG.out hg⟩
        · dsimp only at h
          by_cases c8 : acc.length < 2932031007402
          · rw [if_pos c8] at h
            refine one_ (i := 3) (N := some 57) #[true, true, true, true, false, false, false, false] rfl rfl (by kernel_rfl) (by decide) (fun K hK => ?_)
            refine goes_ Try.func21 (by kernel_rfl) rfl #[.pointer (some ⟨b, 0, none⟩)] (by rfl) rfl rfl (by (try simp only [List.map_toArray, List.map_cons, List.map_nil]); first | done | rfl) ?_
            refine (IHt _ HB.out HR.out).out.mono ?_
            rintro e w10 ⟨v', rfl, ho0, hr0, hg⟩
            refine ⟨_, rfl, ?_⟩
            have NB9 := Aside0.mk (show g9 ≠ b from blk_ne BK9.out HR.out (by decide))
            have HO10 := Aside0.mk (R_elderG (v := v') HO.out (Kd.R_base ho0) hg (fun k hk e => hk.2 (Option.some.inj e)))
            have HO11 := Aside0.mk (Kd.R_lower (Kd.R_newB (Kd.R_newB (Kd.R_newB (Kd.R_new' ho0 (Kd.R_lt HO.out)) BK6.out) BK2.out) HR.out) HG.out.size)
            have BK9' := Aside0.mk (blk_grown BK9.out hg (fun e => NB9.out (Option.some.inj e)))
            have BK6' := Aside0.mk (blk_grown BK6.out hg (fun e => NB.out.1 (Option.some.inj e)))
            have BK2' := Aside0.mk (blk_grown BK2.out hg (fun e => LE.out.2 (Option.some.inj e)))
            have HR' := Aside0.mk hr0
            have HG' := Aside0.mk (grown_grown HG.out hg)
            clear HO BK9 BK6 BK2 HR HG HB ho0 hr0 hg HEAD IHt
            obtain ⟨Ao12, co12, eo12⟩ := Kd.R_slice HO11.out
            subst eo12
            refine hK.out _ _ ((blk_cell BK6'.out 2).trans rfl) (fun hHeld => ?_)
            clear hK K
            refine norm_ (a' := ?_) ?_ ?_
            rotate_left
            · show Act.put _ (some 57) _ = _
              simp only [Act.put, List.setIfInBounds_toArray, List.set_cons_zero, List.set_cons_succ, i64_w, i32_w]
              rfl
            refine one_ (i := 4) (N := some 58) #[true, true, true, true, true, false, false, false] rfl rfl (by kernel_rfl) (by decide) (fun K hK => ?_)
            refine value_ (w1 := ?_) (v := ?_) (by rfl) rfl ?_ ?_
            rotate_left 2
            · go_simp
              constructor
              · rfl
              · rfl
            refine hK.out _ _ ((blk_cell (blk_alloc BK6'.out _) 2).trans rfl) (fun hHeld => ?_)
            clear hK K
            refine norm_ (a' := ?_) ?_ ?_
            rotate_left
            · show Act.put _ (some 58) _ = _
              simp only [Act.put, List.setIfInBounds_toArray, List.set_cons_zero, List.set_cons_succ, i64_w, i32_w]
              rfl
            refine one_ (i := 5) (N := some 59) #[true, true, true, true, true, true, false, false] rfl rfl (by kernel_rfl) (by decide) (fun K hK => ?_)
            refine Kd.R_append_step k27 (w0 := w10) w.heap.size (by rfl) (.tmp 55) (.tmp 58) 25 27 (.agg #[(.string ⟨#[]⟩), (.int .i64 0), (.slice none 0 0)]) 48 rfl Try.underlying25 info27 rfl (by decide) (by omega) v acc t [.string t.f0, .int .i64 t.f1, .slice Ao12 t.f2.length co12] (fun k_ => (k_ ≠ g2 ∧ k_ ≠ g6) ∧ k_ ≠ b) (fun k_ => (fun k_ => (k_ ≠ g2 ∧ k_ ≠ g6) ∧ k_ ≠ b) k_ ∧ some k_ ≠ (v : Value).ownBlock) rfl rfl ?aP (fun _ hk => hk) ?aF ?aO ?aB ?aS ?aL ?_
            (case aP => exact k27_mkM _ _ _ t (Kd.R_mono HO11.out (fun k_ hk => ⟨⟨⟨hk.1.2, hk.1.1.2⟩, hk.2⟩, hk.1.1.1.2⟩)))
            (case aB => exact Below.refl _ _)
            (case aF => exact (fun k_ hk => ⟨⟨Kd.freshB BK2'.out k_ hk, Kd.freshB BK6'.out k_ hk⟩, Kd.freshB HR'.out k_ hk⟩))
            (case aO => exact Kd.R_mono HO10.out (fun _ hk => hk.1))
            (case aS => exact HG'.out.size)
            (case aL => have := c8; omega)
            intro v1 w11 ho hb hg hat
            have AW := fun (gg : Nat) (hh : ∀ k, (fun k_ => (k_ ≠ g2 ∧ k_ ≠ g6) ∧ k_ ≠ b) k → k ≠ gg) => Kd.R_away HO10.out (fun k hk => hh k hk.1)
            have BK9 := Aside0.mk (blk_grown BK9'.out hg (Kd.R_ne HO10.out BK9'.out (by decide)))
            have BK6 := Aside0.mk (blk_grown BK6'.out hg (AW g6 (fun _ hk => hk.1.2)))
            have BK2 := Aside0.mk (blk_grown BK2'.out hg (AW g2 (fun _ hk => hk.1.1)))
            have HR := Aside0.mk (show RB w11 b A g.length c s q1 from blk_grown HR'.out hg (AW b (fun _ hk => hk.2)))
            have HG := Aside0.mk (grown_own HG'.out hg (fun k hk => Kd.R_base HO10.out k hk))
            have HO := Aside0.mk ho
            clear BK9' BK6' BK2' HR' HG' HO10 HO11 ho hb hg hat AW
            obtain ⟨Ao13, co13, eo13⟩ := Kd.R_slice HO.out
            subst eo13
            refine hK.out _ _ ((blk_cell BK6.out 2).trans rfl) (fun hHeld => ?_)
            clear hK K
            refine norm_ (a' := ?_) ?_ ?_
            rotate_left
            · show Act.put _ (some 59) _ = _
              simp only [Act.put, List.setIfInBounds_toArray, List.set_cons_zero, List.set_cons_succ, i64_w, i32_w]
              rfl
            refine pure_ (i := 6) (N := some 60) (v := ?_) (a' := ?_) #[true, true, true, true, true, true, true, false] rfl rfl (by kernel_rfl) (fun _ _ _ h => h) (Or.inl ⟨by rfl, ?_⟩) ?_ ?_
            rotate_left
            · intro w'
              go_simp
              with_reducible rfl
            rotate_left
            · simp only [Act.put, List.setIfInBounds_toArray, List.set_cons_zero, List.set_cons_succ, i64_w, i32_w]
              rfl
            refine last_ (i := 7) (N := none) #[true, true, true, true, true, true, true, true] rfl rfl (by kernel_rfl) (by decide) (fun K hK => ?_)
            have hs14 : w11.cell? ⟨g6, 2, none⟩ = some v := (blk_cell BK6.out 2).trans rfl
            have hfs14 := blk_frozen BK6.out 2
            refine skip_ (w1 := ?_) (by rfl) rfl ?_ ?_
            rotate_left
            · go_simp
              rfl
            refine hK.out _ _ ?_
            clear hK K
            refine done_ (by kernel_rfl) ?_
            have L1 : (acc ++ [t]).length = acc.length + 1 := by simp
            rw [L1] at HO
            refine hold_world (G := Exit.then _ _ _ _) (fun W => W.heap[g9]? = some (.cells #[.int .i64 kd9, .string tx9, .int .i64 wt9] 70 (0, 0)) ∧ W.heap[g6]? = some (.cells #[.string (⟨#[]⟩ : ByteArray), .int .i64 y1, .slice Ao13 (acc.length + 1) co13] 27 (0, 0)) ∧ W.heap[g2]? = some (.cells #[.string (⟨#[]⟩ : ByteArray), .int .i64 0, .slice none 0 0] 27 (0, 0)) ∧ Kd.R k27 27 W w.heap.size (fun k_ => (k_ ≠ g2 ∧ k_ ≠ g6) ∧ k_ ≠ b) (.slice Ao13 (acc.length + 1) co13) (acc ++ [t]) ∧ RB W b A g.length c s q1 ∧ w.grownBy W (some b)) ⟨blk_far BK9.out (blk_ne BK9.out BK6.out (by decide)) _, blk_put BK6.out 2 _ rfl, blk_far BK2.out NB.out.2 _, Kd.R_far (p := ⟨g6, 2, none⟩) HO.out (fun _ hk => hk.1.2) _, blk_far HR.out (Ne.symm NB.out.1) _, grown_set HG.out (.inr GE6.out) _⟩ ?_
            clear BK9 BK6 BK2 HO HR HG hs14 hfs14 L1
            generalize acc.length + 1 = ln
            clear hHeld
            rintro w12 ⟨bk9, bk6, bk2, ho, hr, hg⟩
            have BK9 := Aside0.mk bk9
            have BK6 := Aside0.mk bk6
            have BK2 := Aside0.mk bk2
            have HO := Aside0.mk ho
            have HR := Aside0.mk hr
            have HG := Aside0.mk hg
            clear bk9 bk6 bk2 ho hr hg
            obtain ⟨rx, hrx, h⟩ := Option.bind_eq_some_iff.mp h
            rcases rx with ⟨er, ea⟩ | ⟨⟨kd', tx', wt'⟩, q2⟩
            · obtain rfl := Option.some.inj h
              have HNx := fun W (q : RB W b A g.length c s q1) => Aside0.mk (next_gives b A g.length c s q1 k1 er ea W q hrx)
              clear hrx
              go_wp2_with ((with_reducible refine gate_dst (N := 62) rfl ?_); refine panicsL_ (some 62) rfl rfl Try.func36 (by kernel_rfl) rfl #[.pointer (some ⟨b, 0, none⟩)] rfl (by (try simp only [List.map_toArray, List.map_cons, List.map_nil]); first | done | rfl) ?_; refine ((HNx _ (HR.out)).out).mono ?_; rintro e w13 ⟨rfl, HG_w13⟩; refine ⟨_, rfl, ?_⟩)
              exact ⟨rfl, rfl, grown_grown HG.out HG_w13⟩
            · obtain ⟨hnx, hx0⟩ := rdNext_ok hrx
              have HNx := fun W (q : RB W b A g.length c s q1) => Aside0.mk (next_ok b A g.length c s q1 k1 kd' tx' wt' q2 W q hnx hx0)
              clear hrx hnx hx0
              dsimp only at h
              by_cases d4 : kd' = 4 ∨ kd' = 5
              · rw [if_pos d4] at h
                have H' := Aside0.mk h
                clear h
                rcases d4 with rfl | rfl
                · skip
                  go_wp2_with (first | ((with_reducible refine gate_dst (N := 62) rfl ?_); refine goesL_ (some 62) rfl rfl Try.func36 (by kernel_rfl) rfl #[.pointer (some ⟨b, 0, none⟩)] rfl (by (try simp only [List.map_toArray, List.map_cons, List.map_nil]); first | done | rfl) ?_; refine ((HNx _ (HR.out)).out).mono ?_; rintro e w13 ⟨rfl, hr2, hg2⟩; refine ⟨_, rfl, ?_⟩; have HR_w13 := Aside0.mk hr2; have HG_w13 := Aside0.mk hg2; clear hr2 hg2; have BK9' := Aside0.mk (blk_grown BK9.out HG_w13.out (fun e => blk_ne BK9.out HR.out (by decide) (Option.some.inj e))); have pq0 : w13.cell? ⟨g9, 0, none⟩ = some (.int .i64 kd9) := (blk_cell BK9'.out 0).trans rfl; have pf0 : w13.frozen? ⟨g9, 0, none⟩ = false := blk_frozen BK9'.out 0; have pq1 : w13.cell? ⟨g9, 1, none⟩ = some (.string tx9) := (blk_cell BK9'.out 1).trans rfl; have pf1 : w13.frozen? ⟨g9, 1, none⟩ = false := blk_frozen BK9'.out 1; have pq2 : w13.cell? ⟨g9, 2, none⟩ = some (.int .i64 wt9) := (blk_cell BK9'.out 2).trans rfl; have pf2 : w13.frozen? ⟨g9, 2, none⟩ = false := blk_frozen BK9'.out 2) | (go_at_call 35; refine (need_ok _ _ _).mono ?_; rintro e w5 ⟨rfl, rfl⟩))
                  have N96 := Aside0.mk (show g9 ≠ g6 from blk_ne BK9.out BK6.out (by decide))
                  have N92 := Aside0.mk (show g9 ≠ g2 from blk_ne BK9.out BK2.out (by decide))
                  have N9b := Aside0.mk (show g9 ≠ b from blk_ne BK9.out HR.out (by decide))
                  have BK6' := Aside0.mk (blk_grown BK6.out HG_w13.out (fun e => NB.out.1 (Option.some.inj e)))
                  have BK2' := Aside0.mk (blk_grown BK2.out HG_w13.out (fun e => LE.out.2 (Option.some.inj e)))
                  have HO' := Aside0.mk (Kd.R_grown HO.out HG_w13.out (fun k hk e => hk.2 (Option.some.inj e)))
                  have HG' := Aside0.mk (grown_grown HG.out HG_w13.out)
                  have P1 := blk_put BK9'.out 0 (.int .i64 4) (cs' := #[.int .i64 4, .string tx9, .int .i64 wt9]) rfl
                  have P2 := blk_put P1 1 (.string tx') (cs' := #[.int .i64 4, .string tx', .int .i64 wt9]) rfl
                  have GE9' := Aside0.mk (show w.heap.size ≤ w13.heap.size from HG'.out.size)
                  refine hold_world (G := Handed _ _ _) (fun W => W.heap[w13.heap.size]? = some (.cells #[.int .i64 4, .string tx', .int .i64 wt'] 70 (0, 0)) ∧ W.heap[g6]? = some (.cells #[.string (⟨#[]⟩ : ByteArray), .int .i64 y1, .slice Ao13 ln co13] 27 (0, 0)) ∧ W.heap[g2]? = some (.cells #[.string (⟨#[]⟩ : ByteArray), .int .i64 0, .slice none 0 0] 27 (0, 0)) ∧ Kd.R k27 27 W w.heap.size (fun k_ => (k_ ≠ g2 ∧ k_ ≠ g6) ∧ k_ ≠ b) (.slice Ao13 ln co13) (acc ++ [t]) ∧ RB W b A g.length c s q2 ∧ w.grownBy W (some b)) ⟨blk_new3 _ _ _ _ _ _ _ _ _ rfl, blk_alloc (blk_far (blk_far (blk_far BK6'.out (Ne.symm N96.out) _) (Ne.symm N96.out) _) (Ne.symm N96.out) _) _, blk_alloc (blk_far (blk_far (blk_far BK2'.out (Ne.symm N92.out) _) (Ne.symm N92.out) _) (Ne.symm N92.out) _) _, Kd.R_alloc (Kd.R_set (Kd.R_set (Kd.R_set HO'.out BK9'.out (by decide) 0 _) P1 (by decide) 1 _) P2 (by decide) 2 _) _, blk_alloc (blk_far (blk_far (blk_far HR_w13.out (Ne.symm N9b.out) _) (Ne.symm N9b.out) _) (Ne.symm N9b.out) _) _, grown_alloc (grown_set (grown_set (grown_set HG'.out (.inr GE9.out) _) (.inr GE9.out) _) (.inr GE9.out) _) _⟩ ?_
                  generalize w13.heap.size = g13 at GE9' ⊢
                  rintro w14 ⟨bk9, bk6, bk2, ho, hr, hg⟩
                  go_roundg k1
                  case measure => have := HK1.out; omega
                  case rel => exact ⟨g13, 4, tx', wt', q2, acc ++ [t], .slice Ao13 ln co13, rfl, H', ⟨by have := HK1.out; omega⟩, ⟨bk9⟩, ⟨bk6⟩, ⟨bk2⟩, ⟨ho⟩, ⟨hr⟩, ⟨hg⟩, GE9'⟩
                · skip
                  go_wp2_with (first | ((with_reducible refine gate_dst (N := 62) rfl ?_); refine goesL_ (some 62) rfl rfl Try.func36 (by kernel_rfl) rfl #[.pointer (some ⟨b, 0, none⟩)] rfl (by (try simp only [List.map_toArray, List.map_cons, List.map_nil]); first | done | rfl) ?_; refine ((HNx _ (HR.out)).out).mono ?_; rintro e w13 ⟨rfl, hr2, hg2⟩; refine ⟨_, rfl, ?_⟩; have HR_w13 := Aside0.mk hr2; have HG_w13 := Aside0.mk hg2; clear hr2 hg2; have BK9' := Aside0.mk (blk_grown BK9.out HG_w13.out (fun e => blk_ne BK9.out HR.out (by decide) (Option.some.inj e))); have pq0 : w13.cell? ⟨g9, 0, none⟩ = some (.int .i64 kd9) := (blk_cell BK9'.out 0).trans rfl; have pf0 : w13.frozen? ⟨g9, 0, none⟩ = false := blk_frozen BK9'.out 0; have pq1 : w13.cell? ⟨g9, 1, none⟩ = some (.string tx9) := (blk_cell BK9'.out 1).trans rfl; have pf1 : w13.frozen? ⟨g9, 1, none⟩ = false := blk_frozen BK9'.out 1; have pq2 : w13.cell? ⟨g9, 2, none⟩ = some (.int .i64 wt9) := (blk_cell BK9'.out 2).trans rfl; have pf2 : w13.frozen? ⟨g9, 2, none⟩ = false := blk_frozen BK9'.out 2) | (go_at_call 35; refine (need_ok _ _ _).mono ?_; rintro e w5 ⟨rfl, rfl⟩))
                  have N96 := Aside0.mk (show g9 ≠ g6 from blk_ne BK9.out BK6.out (by decide))
                  have N92 := Aside0.mk (show g9 ≠ g2 from blk_ne BK9.out BK2.out (by decide))
                  have N9b := Aside0.mk (show g9 ≠ b from blk_ne BK9.out HR.out (by decide))
                  have BK6' := Aside0.mk (blk_grown BK6.out HG_w13.out (fun e => NB.out.1 (Option.some.inj e)))
                  have BK2' := Aside0.mk (blk_grown BK2.out HG_w13.out (fun e => LE.out.2 (Option.some.inj e)))
                  have HO' := Aside0.mk (Kd.R_grown HO.out HG_w13.out (fun k hk e => hk.2 (Option.some.inj e)))
                  have HG' := Aside0.mk (grown_grown HG.out HG_w13.out)
                  have P1 := blk_put BK9'.out 0 (.int .i64 5) (cs' := #[.int .i64 5, .string tx9, .int .i64 wt9]) rfl
                  have P2 := blk_put P1 1 (.string tx') (cs' := #[.int .i64 5, .string tx', .int .i64 wt9]) rfl
                  have GE9' := Aside0.mk (show w.heap.size ≤ w13.heap.size from HG'.out.size)
                  refine hold_world (G := Handed _ _ _) (fun W => W.heap[w13.heap.size]? = some (.cells #[.int .i64 5, .string tx', .int .i64 wt'] 70 (0, 0)) ∧ W.heap[g6]? = some (.cells #[.string (⟨#[]⟩ : ByteArray), .int .i64 y1, .slice Ao13 ln co13] 27 (0, 0)) ∧ W.heap[g2]? = some (.cells #[.string (⟨#[]⟩ : ByteArray), .int .i64 0, .slice none 0 0] 27 (0, 0)) ∧ Kd.R k27 27 W w.heap.size (fun k_ => (k_ ≠ g2 ∧ k_ ≠ g6) ∧ k_ ≠ b) (.slice Ao13 ln co13) (acc ++ [t]) ∧ RB W b A g.length c s q2 ∧ w.grownBy W (some b)) ⟨blk_new3 _ _ _ _ _ _ _ _ _ rfl, blk_alloc (blk_far (blk_far (blk_far BK6'.out (Ne.symm N96.out) _) (Ne.symm N96.out) _) (Ne.symm N96.out) _) _, blk_alloc (blk_far (blk_far (blk_far BK2'.out (Ne.symm N92.out) _) (Ne.symm N92.out) _) (Ne.symm N92.out) _) _, Kd.R_alloc (Kd.R_set (Kd.R_set (Kd.R_set HO'.out BK9'.out (by decide) 0 _) P1 (by decide) 1 _) P2 (by decide) 2 _) _, blk_alloc (blk_far (blk_far (blk_far HR_w13.out (Ne.symm N9b.out) _) (Ne.symm N9b.out) _) (Ne.symm N9b.out) _) _, grown_alloc (grown_set (grown_set (grown_set HG'.out (.inr GE9.out) _) (.inr GE9.out) _) (.inr GE9.out) _) _⟩ ?_
                  generalize w13.heap.size = g13 at GE9' ⊢
                  rintro w14 ⟨bk9, bk6, bk2, ho, hr, hg⟩
                  go_roundg k1
                  case measure => have := HK1.out; omega
                  case rel => exact ⟨g13, 5, tx', wt', q2, acc ++ [t], .slice Ao13 ln co13, rfl, H', ⟨by have := HK1.out; omega⟩, ⟨bk9⟩, ⟨bk6⟩, ⟨bk2⟩, ⟨ho⟩, ⟨hr⟩, ⟨hg⟩, GE9'⟩
              · rw [if_neg d4] at h
                obtain rfl := Option.some.inj h
                have d4b : (kd' == 4) = false := beq_eq_false_iff_ne.mpr (fun e => d4 (.inl e))
                have d5b : (kd' == 5) = false := beq_eq_false_iff_ne.mpr (fun e => d4 (.inr e))
                clear d4
                go_wp2_with (first | ((with_reducible refine gate_dst (N := 62) rfl ?_); refine goesL_ (some 62) rfl rfl Try.func36 (by kernel_rfl) rfl #[.pointer (some ⟨b, 0, none⟩)] rfl (by (try simp only [List.map_toArray, List.map_cons, List.map_nil]); first | done | rfl) ?_; refine ((HNx _ (HR.out)).out).mono ?_; rintro e w13 ⟨rfl, hr2, hg2⟩; refine ⟨_, rfl, ?_⟩; have HR_w13 := Aside0.mk hr2; have HG_w13 := Aside0.mk hg2; clear hr2 hg2; have BK9' := Aside0.mk (blk_grown BK9.out HG_w13.out (fun e => blk_ne BK9.out HR.out (by decide) (Option.some.inj e))); have pq0 : w13.cell? ⟨g9, 0, none⟩ = some (.int .i64 kd9) := (blk_cell BK9'.out 0).trans rfl; have pf0 : w13.frozen? ⟨g9, 0, none⟩ = false := blk_frozen BK9'.out 0; have pq1 : w13.cell? ⟨g9, 1, none⟩ = some (.string tx9) := (blk_cell BK9'.out 1).trans rfl; have pf1 : w13.frozen? ⟨g9, 1, none⟩ = false := blk_frozen BK9'.out 1; have pq2 : w13.cell? ⟨g9, 2, none⟩ = some (.int .i64 wt9) := (blk_cell BK9'.out 2).trans rfl; have pf2 : w13.frozen? ⟨g9, 2, none⟩ = false := blk_frozen BK9'.out 2) | (go_at_call 35; refine (need_no _ _ _).mono ?_; rintro e w5 ⟨rfl, rfl⟩))
                exact ⟨rfl, rfl, grown_set (grown_set (grown_set (grown_grown HG.out HG_w13.out) (.inr GE9.out) _) (.inr GE9.out) _) (.inr GE9.out) _⟩
          · rw [if_neg c8] at h
            cases h
end Go.Proofs.Ytpepjodkahdicaa.PTb
