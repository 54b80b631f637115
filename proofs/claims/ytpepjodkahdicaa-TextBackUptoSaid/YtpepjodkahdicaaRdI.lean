/- The contract of terms.walk with Check's closure. Conditions: none. -/
-- Written by programs of this session (wip/tools), cut to what the claim uses (wip/tools/prune.py).
import Derived.Test.YtpepjodkahdicaaRdH
import Derived.Deep.RegionLawGrows
namespace Go.Proofs.Ytpepjodkahdicaa.PTb
open Go.RowKit Go.Proofs.YtpepjodkahdicaaW.PrintWords Go.Proofs.YtpepjodkahdicaaW.PrintLast Go.Proofs.YtpepjodkahdicaaW.PrintMore
set_option linter.unusedVariables false
set_option linter.unusedSimpArgs false
theorem check1 {w0 : World} {bn be bs : Nat} {A : Option Addr} {c : Nat} {g : List S62} {W : World} {n e : Int} (hW : WS w0 bn be bs A c g W n e) (pv : Value) (t : S27) (A2 : Option Addr) (c2 : Nat) (k : Nat) (e' : Int) (hS : Kd.C k62 w0 A g.length g) (hc : g.length ≤ c) (hT : Kd.C k27 w0 A2 t.f2.length t.f2) (hc2 : t.f2.length ≤ c2) (hE : (if e = 0 then terms_wrong.f k g t.f0 t.f1 t.f2 else some e) = some e') (h0 : 0 ≤ n) (h1 : n ≤ 40) (rb : Bool) (hrb : decide (n + 1 ≤ 40) = rb) :
    Calls Try.prog 48 #[pv, (.agg #[.string t.f0, .int .i64 t.f1, .slice A2 t.f2.length c2]), .pointer (some ⟨bn, 0, none⟩), .pointer (some ⟨be, 0, none⟩), .pointer (some ⟨bs, 0, none⟩)] W fun x W' => x = .returned (.bool rb) ∧ WS w0 bn be bs A c g W' (n + 1) e' ∧ Chg bn be W W' := by
  subst hrb
  by_cases he : e = 0
  · subst he
    rw [if_pos rfl] at hE
    exact check1_new hW pv t A2 c2 k e' hS hc hT hc2 hE h0 h1
  · rw [if_neg he] at hE
    obtain rfl := Option.some.inj hE
    exact check1_old hW pv t A2 c2 he h0 h1
/-- a path that walk hands on: what it says is of no account, but it can be read -/
def PathOk (bn be : Nat) (W : World) (ao : Option Addr) (np : Nat) : Prop :=
  (ao = none → np = 0) ∧ ∃ olds : List Value, olds.length = np ∧ ∀ ad, ao = some ad → ad.block ≠ bn ∧ ad.block ≠ be ∧ ∀ j u, olds[j]? = some u → W.cell? (ad.add j) = some u
theorem PathOk.nil (bn be : Nat) (W : World) : PathOk bn be W none 0 := ⟨fun _ => rfl, [], rfl, fun _ h => by cases h⟩
theorem PathOk.chg {bn be : Nat} {W W' : World} {ao : Option Addr} {np : Nat} (h : PathOk bn be W ao np) (hc : Chg bn be W W') : PathOk bn be W' ao np := by
  obtain ⟨h1, olds, h2, h3⟩ := h
  refine ⟨h1, olds, h2, fun ad had => ?_⟩
  obtain ⟨n1, n2, hx⟩ := h3 ad had
  refine ⟨n1, n2, fun j u hu => ?_⟩
  have hcell := hx j u hu
  have hb : (ad.add j).block = ad.block := add_block ad j
  have hlt := World.block_lt_of_cell? W _ hcell
  exact (World.cell?_of_block (w := W) (hc.block _ hlt (by rw [hb]; exact n1) (by rw [hb]; exact n2))).trans hcell
theorem path_new {bn be : Nat} {w11 : World} {gp np : Nat} {cur : Array Value} {olds : List Value} {ho1 : olds.length = np} {x : Value} (hcur : w11.heap[gp]? = some (.cells cur 3 (0, 0))) (htk : cur.toList.take ((np + 1) * 1) = olds ++ [x]) (h1 : gp ≠ bn) (h2 : gp ≠ be) : PathOk bn be w11 (some ⟨gp, 0, none⟩) (np + 1) := by
  refine ⟨fun e => (by cases e), olds ++ [x], by simp [ho1], fun ad' had => ?_⟩
  cases had
  refine ⟨h1, h2, fun j u hu => ?_⟩
  rw [Addr.add_lit, Nat.zero_add, blk_cell hcur j]
  rw [← htk] at hu
  have h3 := List.getElem?_take (l := cur.toList) (i := (np + 1) * 1) (j := j)
  rw [hu] at h3
  split at h3
  · simpa using h3.symm
  · cases h3
theorem infoInt : (Try.prog.info? 3).map (fun i => (i.zero, i.size, i.bytes)) = some (some (.int .i64 0), 1, 8) := by kernel_rfl
theorem slice_full (ao : Option Addr) (np cp : Nat) (h : np ≤ cp) (hm : cp ≤ 9223372036854775807) (W : World) : (Instr.slice 97 (.slice ao np cp) none (some (.int .i64 (np : Int))) (some (.int .i64 (np : Int)))).run Try.prog W = .ok (.slice ao np np) W := by
  rw [run_slice_hm W 97 ao np cp (by kernel_rfl) .i64 .i64 (np : Int) (np : Int) (by omega) (by omega) (by omega)]
  have hz : (sizeOf (Try.prog.elem 97)).run Try.prog W = .ok 1 W := by kernel_rfl
  rw [hz]
  cases ao with
  | none => by_cases h0 : np = 0 <;> simp [Result.andThen, sliced, h0]
  | some ad => by_cases h0 : np = 0 <;> simp [Result.andThen, sliced, h0, Addr.add]
def WalkSpec (k : Nat) : Prop := ∀ (w0 : World) (bn be bs : Nat) (A : Option Addr) (c : Nat) (g : List S62) (t : S27) (A2 : Option Addr) (c2 : Nat) (n e : Int) (r : Bool) (n' e' : Int) (ao : Option Addr) (np cp : Nat) (W : World),
  Kd.C k62 w0 A g.length g → g.length ≤ c → Kd.C k27 w0 A2 t.f2.length t.f2 → t.f2.length ≤ c2 → WS w0 bn be bs A c g W n e → 0 ≤ n → n ≤ 40 → PathOk bn be W ao np → np ≤ cp → cp ≤ 9223372036854775807 → (np : Int) ≤ n → ckTerm k g t n e = some (r, n', e') →
  Calls Try.prog 47 #[(.agg #[.string t.f0, .int .i64 t.f1, .slice A2 t.f2.length c2]), .slice ao np cp, (.func (.func 48) #[] #[.pointer (some ⟨bn, 0, none⟩), .pointer (some ⟨be, 0, none⟩), .pointer (some ⟨bs, 0, none⟩)])] W fun x W' => x = .returned (.bool r) ∧ WS w0 bn be bs A c g W' n' e' ∧ Chg bn be W W'
set_option maxHeartbeats 8000000 in
set_option maxRecDepth 100000 in
theorem walk_calls (k : Nat) : WalkSpec k := by
  induction k using Nat.strongRecOn with
  | _ k ih =>
  intro w0 bn be bs A c g t A2 c2 n e r n' e' ao np cp W hS hc hT hc2 hW h0 h1 hP hcp hcm hnp h
  cases k with
  | zero => exact absurd h (by simp [ckTerm])
  | succ k =>
    simp only [ckTerm] at h
    obtain ⟨e1, hE, h⟩ := Option.bind_eq_some_iff.mp h
    have NL := Aside0.mk (And.intro (blk_lt hW.kn) (blk_lt hW.ke))
    have HSG := Aside0.mk (And.intro hS (And.intro hc (And.intro hT hc2)))
    have HPP := Aside0.mk (And.intro hP (And.intro hcp (And.intro hcm hnp)))
    by_cases c1 : n + 1 ≤ 40
    · rw [if_pos c1] at h
      have HC1 := fun W (q : WS w0 bn be bs A c g W n e) => Aside0.mk (check1 q (.slice ao np cp) t A2 c2 k e1 hS hc hT hc2 hE h0 h1 true (decide_eq_true c1))
      have HW := Aside0.mk hW
      have H01 := Aside0.mk (And.intro h0 h1)
      have HH := Aside0.mk h
      have C1 := Aside0.mk c1
      clear hS hc hT hc2 hE hP hcp hcm hnp h0 h1 h c1 hW
      have hW := HW
      clear HW
      go_enter Try.func47, Try.ntmps47
      go_wp2_with (first | ((with_reducible refine gate_dst (N := 3) rfl ?_); refine box_event ?hg (N := 3) ?hd (cs := #[.string t.f0, .int .i64 t.f1, .slice A2 t.f2.length c2]) (t := 27) ?hr ?_; (case hd => rfl); (case hg => rfl); (case hr => first | (go_simp; done) | (go_simp; rfl)); intro g3 hg_g3 w1 hbox_g3 hb_g3; have HG_g3 := Aside0.mk hg_g3; have HX_g3 := Aside0.mk hbox_g3; have HB_g3 := Aside0.mk hb_g3; clear hg_g3 hbox_g3 hb_g3; have WX := Aside0.mk (hW.out.go HB_g3.out); have tq0 : w1.cell? ⟨g3, 0, none⟩ = some (.string t.f0) := (blk_cell HX_g3.out 0).trans rfl; have tq1 : w1.cell? ⟨g3, 1, none⟩ = some (.int .i64 t.f1) := (blk_cell HX_g3.out 1).trans rfl; have tq2 : w1.cell? ⟨g3, 2, none⟩ = some (.slice A2 t.f2.length c2) := (blk_cell HX_g3.out 2).trans rfl) | (have NG := Aside0.mk (And.intro (show g3 ≠ bn by have := HG_g3.out; have := NL.out.1; omega) (show g3 ≠ be by have := HG_g3.out; have := NL.out.2; omega)); (go_at_call 48; refine (HC1 _ WX.out).out.mono ?_; rintro x w3 ⟨rfl, hw3, hc3⟩; have W3 := Aside0.mk hw3; have C3 := Aside0.mk (((Chg.refl W).below HB_g3.out).trans hc3); have BK3 := Aside0.mk (hc3.blk HX_g3.out (NG.out.1) (NG.out.2)); have sq0 : w3.cell? ⟨g3, 0, none⟩ = some (.string t.f0) := (blk_cell BK3.out 0).trans rfl; have sq1 : w3.cell? ⟨g3, 1, none⟩ = some (.int .i64 t.f1) := (blk_cell BK3.out 1).trans rfl; have sq2 : w3.cell? ⟨g3, 2, none⟩ = some (.slice A2 t.f2.length c2) := (blk_cell BK3.out 2).trans rfl; clear hw3 hc3)))
      go_loopg [16] k (fun kq v16 w' => ∃ (i : Nat) (n1 e2 : Int), v16 = .int .i64 (i : Int) ∧ Aside0 (ckArgs kq g t.f2 i n1 e2 = some (r, n', e')) ∧ Aside0 (kq ≤ k) ∧ Aside0 (w'.heap[g3]? = some (.cells #[.string t.f0, .int .i64 t.f1, .slice A2 t.f2.length c2] 27 (0, 0))) ∧ Aside0 (WS w0 bn be bs A c g w' n1 e2) ∧ Aside0 (Chg bn be W w') ∧ Aside0 (n + 1 ≤ n1 ∧ n1 ≤ 40))
      case atStart => exact ⟨0, n + 1, e1, rfl, HH, ⟨Nat.le_refl _⟩, BK3, W3, C3, ⟨⟨Int.le_refl _, C1.out⟩⟩⟩
      case round =>
        clear HH BK3 W3 C3 sq0 sq1 sq2 tq0 tq1 tq2 WX HC1
        obtain ⟨i, n1, e2, rfl, HA, HK1, BK, HWS, HC, HN⟩ := hrel
        cases gk with
        | zero => exact absurd HA.out (by simp [ckArgs])
        | succ k1 =>
          have h := HA.out
          clear HA
          simp only [ckArgs] at h
          have p2 : wr.cell? ⟨g3, 2, none⟩ = some (.slice A2 t.f2.length c2) := (blk_cell BK.out 2).trans rfl
          by_cases ci : i < t.f2.length
          · rw [if_pos ci] at h
            obtain ⟨⟨r1, n2, e3⟩, hr, h⟩ := Option.bind_eq_some_iff.mp h
            have HR1 := Aside0.mk hr
            clear hr
            obtain ⟨ad, A3, c3, eA, x0, x1, x2, hl3, hi3⟩ := at_T27 HSG.out.2.2.1 (i : Int) (by omega) (by omega)
            subst eA
            simp only [Int.toNat_natCast] at x0 x1 x2
            have hx : ∀ W', Below w0.heap.size w0 W' → W'.cell? (ad.add (i * 3)) = some (.string (rd_T27 t.f2 (i : Int)).f0) ∧ W'.cell? ⟨(ad.add (i * 3)).block, (ad.add (i * 3)).off + 1, none⟩ = some (.int .i64 (rd_T27 t.f2 (i : Int)).f1) ∧ W'.cell? ⟨(ad.add (i * 3)).block, (ad.add (i * 3)).off + 2, none⟩ = some (.slice A3 (rd_T27 t.f2 (i : Int)).f2.length c3) := fun W' q => ⟨(q.cell (World.block_lt_of_cell? w0 _ x0)).trans x0, (q.cell (World.block_lt_of_cell? w0 _ x1)).trans x1, (q.cell (World.block_lt_of_cell? w0 _ x2)).trans x2⟩
            have HX := Aside0.mk hx
            have HI3 := Aside0.mk (And.intro hi3 hl3)
            clear hx x0 x1 x2 hi3 hl3
            have CI := Aside0.mk ci
            have pi1 : (0 : Int) ≤ (i : Int) := by omega
            have pi2 : ((i : Int) < (t.f2.length : Int)) := by omega
            have hsl := fun W => slice_full ao np cp HPP.out.2.1 HPP.out.2.2.1 W
            have g0 : ((np : Int) ≤ (np : Int)) := Int.le_refl _
            obtain ⟨i0, ii, iz0, iz1, iz2⟩ := info_parts infoInt
            go_wp2
            have HB := Aside0.mk HWS.out.below
            refine start_ (n := 17) (S := fun w' => w'.cell? ⟨g3, 2, none⟩ = some (.slice (some ad) t.f2.length c2) ∧ w'.cell? (ad.add (i * 3)) = some (.string (rd_T27 t.f2 (i : Int)).f0) ∧ w'.cell? ⟨(ad.add (i * 3)).block, (ad.add (i * 3)).off + 1, none⟩ = some (.int .i64 (rd_T27 t.f2 (i : Int)).f1) ∧ w'.cell? ⟨(ad.add (i * 3)).block, (ad.add (i * 3)).off + 2, none⟩ = some (.slice A3 (rd_T27 t.f2 (i : Int)).f2.length c3)) (ds := []) #[false, false, false, false, false, false, false, false, false, false, false, false, false, false, false, false, false] (by kernel_rfl) rfl rfl ⟨(blk_cell BK.out 2).trans rfl, HX.out _ (below_drew1 HB.out)⟩ (fun hHeld => ?_)
            refine pure_ (i := 0) (N := some 19) (v := ?_) (a' := ?_) #[true, false, false, false, false, false, false, false, false, false, false, false, false, false, false, false, false] rfl rfl (by kernel_rfl) (fun _ _ _ h => h) (Or.inl ⟨by rfl, ?_⟩) ?_ ?_
            rotate_left
            · intro w'
              go_simp
              with_reducible rfl
            rotate_left
            · simp only [Act.put, List.setIfInBounds_toArray, List.set_cons_zero, List.set_cons_succ, i64_w, i32_w]
              rfl
            refine take_ (i := 1) (N := some 20) (v := ?_) (a' := ?_) #[true, true, false, false, false, false, false, false, false, false, false, false, false, false, false, false, false] rfl rfl (by kernel_rfl) (fun _ _ _ h => h) (Or.inl ⟨by rfl, ?_⟩) hHeld ?_ ?_
            rotate_left
            · rintro w' ⟨s0, s1, s2, s3⟩
              go_simp
              with_reducible rfl
            rotate_left
            · simp only [Act.put, List.setIfInBounds_toArray, List.set_cons_zero, List.set_cons_succ, i64_w, i32_w]
              rfl
            refine pure_ (i := 2) (N := some 21) (v := ?_) (a' := ?_) #[true, true, true, false, false, false, false, false, false, false, false, false, false, false, false, false, false] rfl rfl (by kernel_rfl) (fun _ _ _ h => h) (Or.inl ⟨by rfl, ?_⟩) ?_ ?_
            rotate_left
            · intro w'
              go_simp
              with_reducible rfl
            rotate_left
            · simp only [Act.put, List.setIfInBounds_toArray, List.set_cons_zero, List.set_cons_succ, i64_w, i32_w]
              rfl
            refine pure_ (i := 3) (N := some 22) (v := ?_) (a' := ?_) #[true, true, true, true, false, false, false, false, false, false, false, false, false, false, false, false, false] rfl rfl (by kernel_rfl) (fun _ _ _ h => h) (Or.inl ⟨by rfl, ?_⟩) ?_ ?_
            rotate_left
            · intro w'
              go_simp
              with_reducible rfl
            rotate_left
            · simp only [Act.put, List.setIfInBounds_toArray, List.set_cons_zero, List.set_cons_succ, i64_w, i32_w]
              rfl
            refine take_ (i := 4) (N := some 23) (v := ?_) (a' := ?_) #[true, true, true, true, true, false, false, false, false, false, false, false, false, false, false, false, false] rfl rfl (by kernel_rfl) (fun _ _ _ h => h) (Or.inl ⟨by rfl, ?_⟩) hHeld ?_ ?_
            rotate_left
            · rintro w' ⟨s0, s1, s2, s3⟩
              go_simp
              with_reducible rfl
            rotate_left
            · simp only [Act.put, List.setIfInBounds_toArray, List.set_cons_zero, List.set_cons_succ, i64_w, i32_w]
              rfl
            refine pure_ (i := 5) (N := some 24) (v := ?_) (a' := ?_) #[true, true, true, true, true, true, false, false, false, false, false, false, false, false, false, false, false] rfl rfl (by kernel_rfl) (fun _ _ _ h => h) (Or.inl ⟨by rfl, ?_⟩) ?_ ?_
            rotate_left
            · intro w'
              go_simp
              with_reducible rfl
            rotate_left
            · simp only [Act.put, List.setIfInBounds_toArray, List.set_cons_zero, List.set_cons_succ, i64_w, i32_w]
              rfl
            refine pure_ (i := 6) (N := some 25) (v := ?_) (a' := ?_) #[true, true, true, true, true, true, true, false, false, false, false, false, false, false, false, false, false] rfl rfl (by kernel_rfl) (fun _ _ _ h => h) (Or.inl ⟨by rfl, ?_⟩) ?_ ?_
            rotate_left
            · intro w'
              go_simp
              with_reducible rfl
            rotate_left
            · simp only [Act.put, List.setIfInBounds_toArray, List.set_cons_zero, List.set_cons_succ, i64_w, i32_w]
              rfl
            refine pure_ (i := 7) (N := some 26) (v := ?_) (a' := ?_) #[true, true, true, true, true, true, true, true, false, false, false, false, false, false, false, false, false] rfl rfl (by kernel_rfl) (fun _ _ _ h => h) (Or.inl ⟨by rfl, ?_⟩) ?_ ?_
            rotate_left
            · intro w'
              go_simp
              with_reducible rfl
            rotate_left
            · simp only [Act.put, List.setIfInBounds_toArray, List.set_cons_zero, List.set_cons_succ, i64_w, i32_w]
              rfl
            refine pure_ (i := 8) (N := some 27) (v := ?_) (a' := ?_) #[true, true, true, true, true, true, true, true, true, false, false, false, false, false, false, false, false] rfl rfl (by kernel_rfl) (fun _ _ _ h => h) (Or.inl ⟨by rfl, ?_⟩) ?_ ?_
            rotate_left
            · intro w'
              go_simp
              with_reducible rfl
            rotate_left
            · simp only [Act.put, List.setIfInBounds_toArray, List.set_cons_zero, List.set_cons_succ, i64_w, i32_w]
              rfl
            refine pure_ (i := 9) (N := some 28) (v := ?_) (a' := ?_) #[true, true, true, true, true, true, true, true, true, true, false, false, false, false, false, false, false] rfl rfl (by kernel_rfl) (fun _ _ _ h => h) (Or.inl ⟨by rfl, ?_⟩) ?_ ?_
            rotate_left
            · intro w'
              go_simp
              with_reducible rfl
            rotate_left
            · simp only [Act.put, List.setIfInBounds_toArray, List.set_cons_zero, List.set_cons_succ, i64_w, i32_w]
              rfl
            refine pure_ (i := 10) (N := some 29) (v := ?_) (a' := ?_) #[true, true, true, true, true, true, true, true, true, true, true, false, false, false, false, false, false] rfl rfl (by kernel_rfl) (fun _ _ _ h => h) (Or.inl ⟨by rfl, ?_⟩) ?_ ?_
            rotate_left
            · intro w'
              go_simp
              with_reducible rfl
            rotate_left
            · simp only [Act.put, List.setIfInBounds_toArray, List.set_cons_zero, List.set_cons_succ, i64_w, i32_w]
              rfl
            refine pure_ (i := 11) (N := some 30) (v := ?_) (a' := ?_) #[true, true, true, true, true, true, true, true, true, true, true, true, false, false, false, false, false] rfl rfl (by kernel_rfl) (fun _ _ _ h => h) (Or.inl ⟨by rfl, ?_⟩) ?_ ?_
            rotate_left
            · intro w'
              go_simp
              with_reducible rfl
            rotate_left
            · simp only [Act.put, List.setIfInBounds_toArray, List.set_cons_zero, List.set_cons_succ, i64_w, i32_w]
              rfl
            refine pure_ (i := 14) (N := some 33) (v := ?_) (a' := ?_) #[true, true, true, true, true, true, true, true, true, true, true, true, false, false, true, false, false] rfl rfl (by kernel_rfl) (fun _ _ _ h => h) (Or.inl ⟨by rfl, ?_⟩) ?_ ?_
            rotate_left
            · intro w'
              go_simp
              with_reducible rfl
            rotate_left
            · simp only [Act.put, List.setIfInBounds_toArray, List.set_cons_zero, List.set_cons_succ, i64_w, i32_w]
              rfl
            obtain ⟨tn, olds, ho1, ho2⟩ := HPP.out.1.chg HC.out
            refine one_ (i := 12) (N := some 31) #[true, true, true, true, true, true, true, true, true, true, true, true, true, false, true, false, false] rfl rfl (by kernel_rfl) (by decide) (fun K hK => ?_)
            refine value_ (w1 := ?_) (v := ?_) (by rfl) rfl ?_ ?_
            rotate_left 2
            · go_simp
              constructor
              · rfl
              · rfl
            have BKa := Aside0.mk (blk_alloc (blk_drew BK.out) (.cells #[.int .i64 (i : Int)] 3 (0, 0)))
            have HWa := Aside0.mk ((HWS.out.go (below_drew1 (Below.refl _ _))).go (below_alloc (Below.refl _ _) (.cells #[.int .i64 (i : Int)] 3 (0, 0))))
            have HCa := Aside0.mk ((HC.out.drew).alloc (.cells #[.int .i64 (i : Int)] 3 (0, 0)))
            refine hK.out _ _ ⟨(blk_cell BKa.out 2).trans rfl, HX.out _ HWa.out.below⟩ (fun hHeld => ?_)
            clear hK K
            refine norm_ (a' := ?_) ?_ ?_
            rotate_left
            · show Act.put _ (some 31) _ = _
              simp only [Act.put, List.setIfInBounds_toArray, List.set_cons_zero, List.set_cons_succ, i64_w, i32_w]
              rfl
            refine one_ (i := 13) (N := some 32) #[true, true, true, true, true, true, true, true, true, true, true, true, true, true, true, false, false] rfl rfl (by kernel_rfl) (by decide) (fun K hK => ?_)
            refine Go.step_append_grows rfl (.tmp 29) (.tmp 31) 97 rfl 3 i0 (.int .i64 0) 1 8 (by kernel_rfl) ii iz0 iz1 iz2 rfl (by decide) ao np np olds rfl (fun e => ⟨tn e, tn e⟩) (by rw [ho1]; omega) ?ah ⟨wr.drew.heap.size, 0, none⟩ 1 1 [.int .i64 (i : Int)] rfl rfl ?ac ?a1 (by omega) ?b1 ?b2 ?_
            (case ah => intro ad' had j u hu; exact World.cell?_alloc_lt _ _ _ (World.block_lt_of_cell? _ _ ((ho2 ad' had).2.2 j u hu)) |>.trans ((ho2 ad' had).2.2 j u hu))
            (case ac => intro j u hu; cases j with | zero => (rw [Addr.add_zero']; exact (blk_cell (blk_new _ _) 0).trans (by simpa using hu)) | succ j => simp at hu)
            (case a1 => intro u hu; simp at hu; subst hu; rfl)
            (case b1 => have := HPP.out.2.2.2; have := HN.out; unfold maxLen; omega)
            (case b2 => have := HPP.out.2.2.2; have := HN.out; omega)
            intro v1 w11 ho hg
            have hbw := Below.grown (Below.refl _ _) hg (Nat.le_refl _) (fun k hk => by cases hk)
            obtain ⟨hl1, hv⟩ := ho
            rcases hv with ⟨_, hz⟩ | ⟨gp, cap, cur, rfl, hgp, hcur, hnc, hcm, hcs, htk⟩
            · exact absurd hz (by omega)
            have HP1 := Aside0.mk (path_new (bn := bn) (be := be) (ho1 := ho1) (x := .int .i64 (i : Int)) hcur htk (by have := NL.out.1; have := HC.out.size; simp at hgp; omega) (by have := NL.out.2; have := HC.out.size; simp at hgp; omega))
            have BKb := Aside0.mk (blk_below BKa.out hbw)
            have HWb := Aside0.mk (HWa.out.go hbw)
            have HCb := Aside0.mk (HCa.out.below hbw)
            have CM := Aside0.mk (And.intro hnc hcm)
            clear hgp hcur hnc hcm hcs htk hl1 hg hbw BKa HWa HCa
            refine hK.out _ _ ⟨(blk_cell BKb.out 2).trans rfl, HX.out _ HWb.out.below⟩ (fun hHeld => ?_)
            clear hK K
            refine norm_ (a' := ?_) ?_ ?_
            rotate_left
            · show Act.put _ (some 32) _ = _
              simp only [Act.put, List.setIfInBounds_toArray, List.set_cons_zero, List.set_cons_succ, i64_w, i32_w]
              rfl
            refine one_ (i := 15) (N := some 34) #[true, true, true, true, true, true, true, true, true, true, true, true, true, true, true, true, false] rfl rfl (by kernel_rfl) (by decide) (fun K hK => ?_)
            refine goes_ Try.func47 (by kernel_rfl) rfl #[(.agg #[.string (rd_T27 t.f2 (i : Int)).f0, .int .i64 (rd_T27 t.f2 (i : Int)).f1, .slice A3 (rd_T27 t.f2 (i : Int)).f2.length c3]), .slice (some ⟨gp, 0, none⟩) (np + 1) cap, (.func (.func 48) #[] #[.pointer (some ⟨bn, 0, none⟩), .pointer (some ⟨be, 0, none⟩), .pointer (some ⟨bs, 0, none⟩)])] (by rfl) rfl rfl (by (try simp only [List.map_toArray, List.map_cons, List.map_nil]); first | done | rfl) ?_
            refine (ih k1 (by have := HK1.out; omega) w0 bn be bs A c g (rd_T27 t.f2 (i : Int)) A3 c3 n1 e2 r1 n2 e3 (some ⟨gp, 0, none⟩) (np + 1) cap _ HSG.out.1 HSG.out.2.1 HI3.out.1 HI3.out.2 HWb.out (by have := HN.out; have := H01.out; omega) HN.out.2 HP1.out CM.out.1 (by have := CM.out.2; unfold maxLen at this; exact this) (by have := HPP.out.2.2.2; have := HN.out; omega) HR1.out).mono ?_
            rintro x w12 ⟨rfl, hw2, hc2⟩
            refine ⟨_, rfl, ?_⟩
            have BKc := Aside0.mk (hc2.blk BKb.out NG.out.1 NG.out.2)
            have HWc := Aside0.mk hw2
            have HCc := Aside0.mk (HCb.out.trans hc2)
            clear BKb HWb HCb hw2 hc2 HP1
            refine hK.out _ _ ⟨(blk_cell BKc.out 2).trans rfl, HX.out _ HWc.out.below⟩ (fun hHeld => ?_)
            clear hK K
            refine norm_ (a' := ?_) ?_ ?_
            rotate_left
            · show Act.put _ (some 34) _ = _
              simp only [Act.put, List.setIfInBounds_toArray, List.set_cons_zero, List.set_cons_succ, i64_w, i32_w]
              rfl
            refine pure_ (i := 16) (N := some 35) (v := ?_) (a' := ?_) #[true, true, true, true, true, true, true, true, true, true, true, true, true, true, true, true, true] rfl rfl (by kernel_rfl) (fun _ _ _ h => h) (Or.inl ⟨by rfl, ?_⟩) ?_ ?_
            rotate_left
            · intro w'
              go_simp
              with_reducible rfl
            rotate_left
            · simp only [Act.put, List.setIfInBounds_toArray, List.set_cons_zero, List.set_cons_succ, i64_w, i32_w]
              rfl
            refine done_ (by kernel_rfl) ?_
            cases r1 with
            | true =>
              rw [if_pos rfl] at h
              have HH := Aside0.mk h
              have hle := Aside0.mk ((ck_le k1).1 _ _ _ _ _ _ HR1.out)
              clear h
              have ib : ((t.f2.length : Int) ≤ 9223372036854775807) := by have := Kd.C_max HSG.out.2.2.1; omega
              clear hsl g0 ii iz0 iz1 iz2
              go_wp2
              go_roundg k1
              case measure => have := HK1.out; omega
              case rel => exact ⟨i + 1, n2, e3, by go_num, HH, ⟨by have := HK1.out; omega⟩, BKc, HWc, HCc, ⟨by have := hle.out; have := HN.out; omega⟩⟩
            | false =>
              rw [if_neg (by simp)] at h
              simp only [Option.some.injEq, Prod.mk.injEq] at h
              obtain ⟨rfl, rfl, rfl⟩ := h
              go_wp2
              go_ret
              exact ⟨rfl, HWc.out, HCc.out⟩
          · rw [if_neg ci] at h
            simp only [Option.some.injEq, Prod.mk.injEq] at h
            obtain ⟨rfl, rfl, rfl⟩ := h
            have ci' : ¬ ((i : Int) < (t.f2.length : Int)) := by omega
            go_wp2
            go_ret
            exact ⟨rfl, HWS.out, HC.out⟩
    · rw [if_neg c1] at h
      simp only [Option.some.injEq, Prod.mk.injEq] at h
      obtain ⟨rfl, rfl, rfl⟩ := h
      have HC1 := fun W (q : WS w0 bn be bs A c g W n e) => Aside0.mk (check1 q (.slice ao np cp) t A2 c2 k e1 hS hc hT hc2 hE h0 h1 false (decide_eq_false c1))
      have HW := Aside0.mk hW
      clear hS hc hT hc2 hE hP hcp hcm hnp h0 h1 c1 hW
      have hW := HW
      clear HW
      go_enter Try.func47, Try.ntmps47
      go_wp2_with (first | ((with_reducible refine gate_dst (N := 3) rfl ?_); refine box_event ?hg (N := 3) ?hd (cs := #[.string t.f0, .int .i64 t.f1, .slice A2 t.f2.length c2]) (t := 27) ?hr ?_; (case hd => rfl); (case hg => rfl); (case hr => first | (go_simp; done) | (go_simp; rfl)); intro g3 hg_g3 w1 hbox_g3 hb_g3; have HG_g3 := Aside0.mk hg_g3; have HX_g3 := Aside0.mk hbox_g3; have HB_g3 := Aside0.mk hb_g3; clear hg_g3 hbox_g3 hb_g3; have WX := Aside0.mk (hW.out.go HB_g3.out); have tq0 : w1.cell? ⟨g3, 0, none⟩ = some (.string t.f0) := (blk_cell HX_g3.out 0).trans rfl; have tq1 : w1.cell? ⟨g3, 1, none⟩ = some (.int .i64 t.f1) := (blk_cell HX_g3.out 1).trans rfl; have tq2 : w1.cell? ⟨g3, 2, none⟩ = some (.slice A2 t.f2.length c2) := (blk_cell HX_g3.out 2).trans rfl) | (have NG := Aside0.mk (And.intro (show g3 ≠ bn by have := HG_g3.out; have := NL.out.1; omega) (show g3 ≠ be by have := HG_g3.out; have := NL.out.2; omega)); (go_at_call 48; refine (HC1 _ WX.out).out.mono ?_; rintro x w3 ⟨rfl, hw3, hc3⟩; have W3 := Aside0.mk hw3; have C3 := Aside0.mk (((Chg.refl W).below HB_g3.out).trans hc3); have BK3 := Aside0.mk (hc3.blk HX_g3.out (NG.out.1) (NG.out.2)); have sq0 : w3.cell? ⟨g3, 0, none⟩ = some (.string t.f0) := (blk_cell BK3.out 0).trans rfl; have sq1 : w3.cell? ⟨g3, 1, none⟩ = some (.int .i64 t.f1) := (blk_cell BK3.out 1).trans rfl; have sq2 : w3.cell? ⟨g3, 2, none⟩ = some (.slice A2 t.f2.length c2) := (blk_cell BK3.out 2).trans rfl; clear hw3 hc3)))
      go_ret
      exact ⟨rfl, W3.out, C3.out⟩
end Go.Proofs.Ytpepjodkahdicaa.PTb
