-- Written by a program of this session (wip/tools/myprint.py): functions, contracts, their proofs. Lean checks it.
import Derived.Test.YthbpbbinpkfchaaPSigx0
import Derived.Test.YthbpbbinpkfchaaPSigx1
import Derived.Test.YthbpbbinpkfchaaPSigx2
namespace Go.Proofs.Ythbpbbinpkfchaa.PSig
open Go.RowKit Go.Proofs.YthbpbbinpkfchaaW.PrintWords Go.Proofs.YthbpbbinpkfchaaW.PrintLast Go.Proofs.YthbpbbinpkfchaaW.PrintMore
attribute [local go_sem] max2_int min2_int max_two min_two max_three min_three max_four min_four   -- for this text's walks alone
set_option linter.unusedVariables false
set_option linter.unusedSimpArgs false

attribute [local go_sem high] eqA36
/-! ### sig_wrong: function 34 -/
mutual
def sig_wrong.j0 : Nat → List (S36) → Bool → ByteArray → Int → Int → ByteArray → Option (Int)
  | 0, _, _, _, _, _, _ => none
  | k + 1, x0, x25, x104000, x104001, x104002, x104003 => if x25 = true then (some 11) else (if x104001 = 1 then (sig_wrong.j1 k 4 0 (x104003.toList == ([] : List UInt8)) x104000 x104001 x104002 x104003) else (if x104001 = 2 then (sig_wrong.j1 k 2 2 (x104003.toList == ([] : List UInt8)) x104000 x104001 x104002 x104003) else (if x104001 = 3 then ((sig_Find.f k x0 x104003).bind fun bt107 => (if bt107.2 = true then (if 0 ≤ bt107.1 then (if bt107.1 < (x0.length : Int) then ((sig_constant.f x104003).bind fun bt110 => (sig_wrong.j1 k 2 2 ((((rd_T36 x0 bt107.1).f0).toList) == bt110.1.toList && (((rd_T36 x0 bt107.1).f1) == bt110.2.1 && (((rd_T36 x0 bt107.1).f2) == bt110.2.2.1 && ((((rd_T36 x0 bt107.1).f3).toList) == bt110.2.2.2.toList)))) x104000 x104001 x104002 x104003)) else (none)) else (none)) else (sig_wrong.j1 k 2 2 false x104000 x104001 x104002 x104003))) else (some 12))))
def sig_wrong.j1 : Nat → Int → Int → Bool → ByteArray → Int → Int → ByteArray → Option (Int)
  | 0, _, _, _, _, _, _, _ => none
  | k + 1, x7, x8, x9, x104000, x104001, x104002, x104003 => if x104002 < x8 then (sig_wrong.j2 k x9 true) else (sig_wrong.j2 k x9 (decide (x104002 > x7)))
def sig_wrong.j2 : Nat → Bool → Bool → Option (Int)
  | 0, _, _ => none
  | k + 1, x9, x55 => if x55 = true then (some 13) else (if x9 = true then (some 0) else (some 14))
end
def sig_wrong.f (k : Nat) (l0 : List (S36)) (a1_0 : ByteArray) (a1_1 : Int) (a1_2 : Int) (a1_3 : ByteArray) : Option (Int) := (sig_Find.f k l0 a1_0).bind fun bt104 => (if bt104.2 = true then (sig_wrong.j0 k l0 true a1_0 a1_1 a1_2 a1_3) else ((sig_Name.f a1_0).bind fun t106 => (sig_wrong.j0 k l0 (!t106) a1_0 a1_1 a1_2 a1_3)))
theorem sig_wrong.mono_l : ∀ k, (∀ y0 y1 y2 y3 y4 y5, LeO (sig_wrong.j0 k y0 y1 y2 y3 y4 y5) (sig_wrong.j0 (k + 1) y0 y1 y2 y3 y4 y5)) ∧ (∀ y0 y1 y2 y3 y4 y5 y6, LeO (sig_wrong.j1 k y0 y1 y2 y3 y4 y5 y6) (sig_wrong.j1 (k + 1) y0 y1 y2 y3 y4 y5 y6)) ∧ (∀ y0 y1, LeO (sig_wrong.j2 k y0 y1) (sig_wrong.j2 (k + 1) y0 y1))
  | 0 => ⟨fun _ _ _ _ _ _ r h => by simp [sig_wrong.j0] at h, fun _ _ _ _ _ _ _ r h => by simp [sig_wrong.j1] at h, fun _ _ r h => by simp [sig_wrong.j2] at h⟩
  | k + 1 => by
    obtain ⟨ih0, ih1, ih2⟩ := sig_wrong.mono_l k
    refine ⟨?_, ?_, ?_⟩
    · intro y0 y1 y2 y3 y4 y5
      unfold sig_wrong.j0
      repeat' first
      | (with_reducible exact ih0 _ _ _ _ _ _)
      | (with_reducible exact ih1 _ _ _ _ _ _ _)
      | (with_reducible exact ih2 _ _)
      | (with_reducible exact sig_Find.mono _ _ _)
      | (with_reducible exact LeO.refl _)
      | (with_reducible exact LeO.none _)
      | (with_reducible refine LeO.ite ?_ ?_)
      | (with_reducible refine LeO.bind ?_ (fun _ => ?_))
      | exact ih0 _ _ _ _ _ _
      | exact ih1 _ _ _ _ _ _ _
      | exact ih2 _ _
      | exact sig_Find.mono _ _ _
      | exact LeO.none _
      | refine LeO.ite ?_ ?_
      | refine LeO.bind ?_ (fun _ => ?_)
    · intro y0 y1 y2 y3 y4 y5 y6
      unfold sig_wrong.j1
      repeat' first
      | (with_reducible exact ih0 _ _ _ _ _ _)
      | (with_reducible exact ih1 _ _ _ _ _ _ _)
      | (with_reducible exact ih2 _ _)
      | (with_reducible exact sig_Find.mono _ _ _)
      | (with_reducible exact LeO.refl _)
      | (with_reducible exact LeO.none _)
      | (with_reducible refine LeO.ite ?_ ?_)
      | (with_reducible refine LeO.bind ?_ (fun _ => ?_))
      | exact ih0 _ _ _ _ _ _
      | exact ih1 _ _ _ _ _ _ _
      | exact ih2 _ _
      | exact sig_Find.mono _ _ _
      | exact LeO.none _
      | refine LeO.ite ?_ ?_
      | refine LeO.bind ?_ (fun _ => ?_)
    · intro y0 y1
      unfold sig_wrong.j2
      repeat' first
      | (with_reducible exact ih0 _ _ _ _ _ _)
      | (with_reducible exact ih1 _ _ _ _ _ _ _)
      | (with_reducible exact ih2 _ _)
      | (with_reducible exact sig_Find.mono _ _ _)
      | (with_reducible exact LeO.refl _)
      | (with_reducible exact LeO.none _)
      | (with_reducible refine LeO.ite ?_ ?_)
      | (with_reducible refine LeO.bind ?_ (fun _ => ?_))
      | exact ih0 _ _ _ _ _ _
      | exact ih1 _ _ _ _ _ _ _
      | exact ih2 _ _
      | exact sig_Find.mono _ _ _
      | exact LeO.none _
      | refine LeO.ite ?_ ?_
      | refine LeO.bind ?_ (fun _ => ?_)
theorem sig_wrong.mono : ∀ a0 a1 a2 a3 a4 k, LeO (sig_wrong.f k a0 a1 a2 a3 a4) (sig_wrong.f (k + 1) a0 a1 a2 a3 a4) := by
  intro a0 a1 a2 a3 a4 k
  obtain ⟨ih0, ih1, ih2⟩ := sig_wrong.mono_l k
  unfold sig_wrong.f
  repeat' first
      | (with_reducible exact ih0 _ _ _ _ _ _)
      | (with_reducible exact ih1 _ _ _ _ _ _ _)
      | (with_reducible exact ih2 _ _)
      | (with_reducible exact sig_Find.mono _ _ _)
      | (with_reducible exact LeO.refl _)
      | (with_reducible exact LeO.none _)
      | (with_reducible refine LeO.ite ?_ ?_)
      | (with_reducible refine LeO.bind ?_ (fun _ => ?_))
      | exact ih0 _ _ _ _ _ _
      | exact ih1 _ _ _ _ _ _ _
      | exact ih2 _ _
      | exact sig_Find.mono _ _ _
      | exact LeO.none _
      | refine LeO.ite ?_ ?_
      | refine LeO.bind ?_ (fun _ => ?_)
def sig_wrong.T12 : Bool × List (List Nat × List Nat) := (true, [([], []), ([0], [0]), ([1], [1]), ([1], [1]), ([2, 3, 1], [1, 2, 3]), ([4, 1], [1, 4]), ([1], [1]), ([6, 1], [1, 6]), ([7, 1, 1], [1, 7]), ([5, 8, 1], [1, 5, 8]), ([1, 9], [1, 9]), ([10, 8, 0, 1, 2, 3, 4, 5, 6, 7, 8, 9, 10], [10])])
def sig_wrong.B12 : List Nat := [0, 1, 3, 3, 15, 31, 3, 67, 195, 511, 1023, 2047]
theorem sig_wrong.tab12 : rtab .any (opsOf Try.f34 12) = sig_wrong.T12 := by kernel_rfl
theorem sig_wrong.bits12 : waitsOk sig_wrong.T12.2 sig_wrong.B12 = true := by kernel_rfl
set_option maxHeartbeats 4000000 in
set_option maxRecDepth 100000 in
theorem sig_wrong.calls (k : Nat) (A0 : Option Addr) (c0 : Nat) (l0 : List (S36)) (a1_0 : ByteArray) (a1_1 : Int) (a1_2 : Int) (a1_3 : ByteArray) (r : Int) (w : World) (hr0 : Kd.C k36 w A0 l0.length l0) (hc0 : l0.length ≤ c0) (h : sig_wrong.f k l0 a1_0 a1_1 a1_2 a1_3 = some r) :
    Calls Try.prog 34 #[.slice A0 l0.length c0, .agg #[.string a1_0, .int .i64 a1_1, .int .i64 a1_2, .string a1_3]] w fun e w' => e = .returned (.int .i64 r) ∧ Below w.heap.size w w' := by
  have hu36 := Try.underlying36
  have HR0 := Aside0.mk hr0
  have HC0 := Aside0.mk hc0
  clear hr0 hc0
  have HB := Aside0.mk (Below.refl w.heap.size w)
  have H : ((sig_Find.f k l0 a1_0).bind fun bt104 => (if bt104.2 = true then (sig_wrong.j0 k l0 true a1_0 a1_1 a1_2 a1_3) else ((sig_Name.f a1_0).bind fun t106 => (sig_wrong.j0 k l0 (!t106) a1_0 a1_1 a1_2 a1_3)))) = some r := h
  clear h
  replace H := Option.bind_eq_some_iff.mp H
  obtain ⟨⟨t104, t105⟩, A30, H⟩ := H
  replace H : (if t105 = true then (sig_wrong.j0 k l0 true a1_0 a1_1 a1_2 a1_3) else ((sig_Name.f a1_0).bind fun t106 => (sig_wrong.j0 k l0 (!t106) a1_0 a1_1 a1_2 a1_3))) = some r := H
  have A3 := Aside0.mk A30
  clear A30
  have HC4 := Aside0.mk H
  clear H
  go_enter Try.func34, Try.ntmps34
  go_upto_region 2 with (first | ((with_reducible refine gate_dst (N := 3) rfl ?_); refine box_event ?hg (N := 3) ?hd (cs := #[.string a1_0, .int .i64 a1_1, .int .i64 a1_2, .string a1_3]) (t := 36) ?hr ?_; (case hd => rfl); (case hg => rfl); (case hr => first | (go_simp; done) | (go_simp; rfl)); intro gb103 hg w5 hbox hb; have n0_ := Aside0.mk (below_step (by repeat (first | (with_reducible first | exact HB.out | apply below_alloc | apply pw_below_drewN | apply below_drew1) | exact HB.out)) hb); have n1_ := Aside0.mk (hbox); have n2_ := Aside0.mk ((by rw [hg]; exact (below_size (by repeat (first | (with_reducible first | exact HB.out | apply below_alloc | apply pw_below_drewN | apply below_drew1) | exact HB.out))) : w.heap.size ≤ gb103)); have n3_ := Aside0.mk ((by rw [hg]; exact (below_size (by repeat (first | (with_reducible first | exact HB.out | apply below_alloc | apply pw_below_drewN | apply below_drew1) | exact HB.out))) : w.heap.size ≤ gb103)); clear HB; have HB := n0_; have BK103 := n1_; have GW103 := n2_; have GE103 := n3_; clear n0_ n1_ n2_ n3_; clear hb hbox hg; have hcz6_0 : w5.cell? ⟨gb103, 0, none⟩ = some (.string a1_0) := (blk_cell BK103.out 0).trans rfl; have hcz6_1 : w5.cell? ⟨gb103, 1, none⟩ = some (.int .i64 a1_1) := (blk_cell BK103.out 1).trans rfl; have hcz6_2 : w5.cell? ⟨gb103, 2, none⟩ = some (.int .i64 a1_2) := (blk_cell BK103.out 2).trans rfl; have hcz6_3 : w5.cell? ⟨gb103, 3, none⟩ = some (.string a1_3) := (blk_cell BK103.out 3).trans rfl; have hfz6_0 := blk_frozen BK103.out 0; have hfz6_1 := blk_frozen BK103.out 1; have hfz6_2 := blk_frozen BK103.out 2; have hfz6_3 := blk_frozen BK103.out 3) | ((with_reducible refine gate_callee (f := 18) rfl ?_); refine goesL_ (some 16) rfl rfl Try.func18 (by kernel_rfl) rfl #[.slice A0 l0.length c0, .string a1_0] rfl (by (try simp only [List.map_toArray, List.map_cons, List.map_nil]); first | done | rfl | (simp only [List.length_drop, List.length_take]; rfl)) ?_; (with_reducible refine (sig_Find.calls k _ _ l0 a1_0 t104 t105 _ ?side1 ?side2 A3.out).mono ?_); (case side1 => repeat (first | exact (Kd.C_below HR0.out HB.out) | (with_reducible refine Kd.C_alloc ?_ _) | (with_reducible refine Kd.C_drewN ?_ _) | (with_reducible refine Kd.C_drew ?_))); (case side2 => exact HC0.out); rintro e w' ⟨rfl, ⟨nd, rfl⟩⟩; refine ⟨_, rfl, ?_⟩))
  (try simp only [Act.put, List.setIfInBounds_toArray, List.set_cons_zero, List.set_cons_succ])
  go_cut [25] (fun v25 wc => ∃ (kq : Nat) (x25_3 : Bool), v25 = .bool x25_3 ∧ Aside0 (sig_wrong.j0 kq l0 x25_3 a1_0 a1_1 a1_2 a1_3 = some r) ∧ Aside0 (kq ≤ k) ∧ Aside0 (wc.heap[gb103]? = some (.cells #[.string a1_0, .int .i64 a1_1, .int .i64 a1_2, .string a1_3] 36 (0, 0))) ∧ Aside0 (Below w.heap.size w wc))
  case first =>
    have H := HC4.out
    clear HC4
    by_cases c7 : t105 = true
    · subst c7
      have H1 : (sig_wrong.j0 k l0 true a1_0 a1_1 a1_2 a1_3) = some r := by rw [if_pos rfl] at H; exact H
      clear H
      have H := H1
      clear H1
      have H' := Aside0.mk H
      clear H
      go_wp2
      go_meet
      case rel => exact ⟨_, (true), (by first | rfl | (simp; done) | (simp [*]; done)), H', ⟨by first | omega | exact Nat.le_refl _⟩, ⟨by (with_reducible repeat (first | refine blk_drewN ?_ _ | refine blk_drew ?_ | refine blk_alloc ?_ _)); exact BK103.out⟩, ⟨by repeat (first | (with_reducible first | exact HB.out | apply below_alloc | apply pw_below_drewN | apply below_drew1 | refine below_set ?_ GE103.out) | exact HB.out)⟩⟩
    · replace c7 := Bool.eq_false_iff.mpr c7
      subst c7
      have H1 : ((sig_Name.f a1_0).bind fun t106 => (sig_wrong.j0 k l0 (!t106) a1_0 a1_1 a1_2 a1_3)) = some r := by rw [if_neg (show ¬ (false = true) by decide)] at H; exact H
      clear H
      have H := H1
      clear H1
      replace H := Option.bind_eq_some_iff.mp H
      obtain ⟨t106, A80, H⟩ := H
      replace H : (sig_wrong.j0 k l0 (!t106) a1_0 a1_1 a1_2 a1_3) = some r := H
      have A8 := Aside0.mk A80
      clear A80
      have H' := Aside0.mk H
      clear H
      have hcz9_0 : w5.cell? ⟨gb103, 0, none⟩ = some (.string a1_0) := (blk_cell BK103.out 0).trans rfl
      have hcz9_1 : w5.cell? ⟨gb103, 1, none⟩ = some (.int .i64 a1_1) := (blk_cell BK103.out 1).trans rfl
      have hcz9_2 : w5.cell? ⟨gb103, 2, none⟩ = some (.int .i64 a1_2) := (blk_cell BK103.out 2).trans rfl
      have hcz9_3 : w5.cell? ⟨gb103, 3, none⟩ = some (.string a1_3) := (blk_cell BK103.out 3).trans rfl
      have hfz9_0 := blk_frozen BK103.out 0
      have hfz9_1 := blk_frozen BK103.out 1
      have hfz9_2 := blk_frozen BK103.out 2
      have hfz9_3 := blk_frozen BK103.out 3
      go_wp2_with (first | (go_at_call 10; (with_reducible refine (sig_Name.calls a1_0 t106 _ A8.out).mono ?_); rintro e w10 ⟨rfl, hb⟩; have n0_ := Aside0.mk (blk_below (g := gb103) (o := .cells #[.string a1_0, .int .i64 a1_1, .int .i64 a1_2, .string a1_3] 36 (0, 0)) (by (with_reducible repeat (first | refine blk_drewN ?_ _ | refine blk_drew ?_ | refine blk_alloc ?_ _)); exact BK103.out) hb); have n1_ := Aside0.mk (below_step (by repeat (first | (with_reducible first | exact HB.out | apply below_alloc | apply pw_below_drewN | apply below_drew1 | refine below_set ?_ GE103.out) | exact HB.out)) hb); clear BK103; clear HB; have BK103 := n0_; have HB := n1_; clear n0_ n1_; (try clear hb); (try clear hb2); (try clear hk); (try clear hi)))
      go_meet
      case rel => exact ⟨_, (!t106), (by first | rfl | (simp; done) | (simp [*]; done)), H', ⟨by first | omega | exact Nat.le_refl _⟩, ⟨by (with_reducible repeat (first | refine blk_drewN ?_ _ | refine blk_drew ?_ | refine blk_alloc ?_ _)); exact BK103.out⟩, ⟨by repeat (first | (with_reducible first | exact HB.out | apply below_alloc | apply pw_below_drewN | apply below_drew1 | refine below_set ?_ GE103.out) | exact HB.out)⟩⟩
  case rest =>
    clear HC4
    try clear c1
    try clear p2
    try clear c3
    try clear c7
    try clear hcz6_0
    try clear hcz6_1
    try clear hcz6_2
    try clear hcz6_3
    try clear hcz9_0
    try clear hcz9_1
    try clear hcz9_2
    try clear hcz9_3
    try clear hfz6_0
    try clear hfz6_1
    try clear hfz6_2
    try clear hfz6_3
    try clear hfz9_0
    try clear hfz9_1
    try clear hfz9_2
    try clear hfz9_3
    obtain ⟨kq, x25_3, rfl, HA, HJ3, BK103, HB⟩ := hcut
    cases kq with
    | zero => exact absurd HA.out (by simp [sig_wrong.j0])
    | succ kj3 =>
      have H := HA.out
      clear HA
      simp only [sig_wrong.j0] at H
      by_cases c11 : x25_3 = true
      · subst c11
        have H1 : (some 11) = some r := by rw [if_pos rfl] at H; exact H
        clear H
        have H := H1
        clear H1
        obtain rfl := Option.some.inj H
        go_wp2
        go_ret
        exact ⟨by first | rfl | (simp [errW_none, errW_some] <;> rfl) | (simp [*, errW_none, errW_some] <;> rfl), by repeat (first | (with_reducible first | exact HB.out | apply below_alloc | apply pw_below_drewN | apply below_drew1 | refine below_set ?_ GE103.out) | exact HB.out)⟩
      · replace c11 := Bool.eq_false_iff.mpr c11
        subst c11
        have H1 : (if a1_1 = 1 then (sig_wrong.j1 kj3 4 0 (a1_3.toList == ([] : List UInt8)) a1_0 a1_1 a1_2 a1_3) else (if a1_1 = 2 then (sig_wrong.j1 kj3 2 2 (a1_3.toList == ([] : List UInt8)) a1_0 a1_1 a1_2 a1_3) else (if a1_1 = 3 then ((sig_Find.f kj3 l0 a1_3).bind fun bt107 => (if bt107.2 = true then (if 0 ≤ bt107.1 then (if bt107.1 < (l0.length : Int) then ((sig_constant.f a1_3).bind fun bt110 => (sig_wrong.j1 kj3 2 2 ((((rd_T36 l0 bt107.1).f0).toList) == bt110.1.toList && (((rd_T36 l0 bt107.1).f1) == bt110.2.1 && (((rd_T36 l0 bt107.1).f2) == bt110.2.2.1 && ((((rd_T36 l0 bt107.1).f3).toList) == bt110.2.2.2.toList)))) a1_0 a1_1 a1_2 a1_3)) else (none)) else (none)) else (sig_wrong.j1 kj3 2 2 false a1_0 a1_1 a1_2 a1_3))) else (some 12)))) = some r := by rw [if_neg (show ¬ (false = true) by decide)] at H; exact H
        clear H
        have H := H1
        clear H1
        have HC12 := Aside0.mk H
        clear H
        try go_wp2
        have n0_ := Aside0.mk (blk_drew BK103.out)
        have n1_ := Aside0.mk (below_drew1 HB.out)
        clear BK103
        clear HB
        have BK103 := n0_
        have HB := n1_
        clear n0_ n1_
        refine start_ (n := 6) (S := fun w' => w'.cell? ⟨gb103, 0, none⟩ = some (.string a1_0) ∧ w'.cell? ⟨gb103, 1, none⟩ = some (.int .i64 a1_1) ∧ w'.cell? ⟨gb103, 2, none⟩ = some (.int .i64 a1_2) ∧ w'.cell? ⟨gb103, 3, none⟩ = some (.string a1_3)) (ds := []) #[false, false, false, false, false, false] (by kernel_rfl) rfl rfl ⟨(blk_cell BK103.out 0).trans rfl, (blk_cell BK103.out 1).trans rfl, (blk_cell BK103.out 2).trans rfl, (blk_cell BK103.out 3).trans rfl⟩ (fun hHeld => ?_)
        generalize wc.drew = w13 at BK103 HB hHeld ⊢
        refine pure_ (i := 0) (N := some 26) (v := ?_) (a' := ?_) #[true, false, false, false, false, false] rfl rfl (by kernel_rfl) (fun _ _ _ h => h) (Or.inl ⟨by rfl, ?_⟩) ?_ ?_
        rotate_left
        · intro w'
          go_simp
          with_reducible rfl
        rotate_left
        · simp only [Act.put, List.setIfInBounds_toArray, List.set_cons_zero, List.set_cons_succ, i64_w, i32_w]
          rfl
        refine pure_ (i := 3) (N := some 7) (v := ?_) (a' := ?_) #[true, false, false, true, false, false] rfl rfl (by kernel_rfl) (fun _ _ _ h => h) (Or.inl ⟨by rfl, ?_⟩) ?_ ?_
        rotate_left
        · intro w'
          go_simp
          with_reducible rfl
        rotate_left
        · simp only [Act.put, List.setIfInBounds_toArray, List.set_cons_zero, List.set_cons_succ, i64_w, i32_w]
          rfl
        refine pure_ (i := 4) (N := some 8) (v := ?_) (a' := ?_) #[true, false, false, true, true, false] rfl rfl (by kernel_rfl) (fun _ _ _ h => h) (Or.inl ⟨by rfl, ?_⟩) ?_ ?_
        rotate_left
        · intro w'
          go_simp
          with_reducible rfl
        rotate_left
        · simp only [Act.put, List.setIfInBounds_toArray, List.set_cons_zero, List.set_cons_succ, i64_w, i32_w]
          rfl
        refine take_ (i := 1) (N := some 27) (v := ?_) (a' := ?_) #[true, true, false, true, true, false] rfl rfl (by kernel_rfl) (fun _ _ _ h => h) (Or.inl ⟨by rfl, ?_⟩) hHeld ?_ ?_
        rotate_left
        · rintro w' ⟨s0, s1, s2, s3⟩
          go_simp
          with_reducible rfl
        rotate_left
        · simp only [Act.put, List.setIfInBounds_toArray, List.set_cons_zero, List.set_cons_succ, i64_w, i32_w]
          rfl
        refine pure_ (i := 2) (N := some 28) (v := ?_) (a' := ?_) #[true, true, true, true, true, false] rfl rfl (by kernel_rfl) (fun _ _ _ h => h) (Or.inl ⟨by rfl, ?_⟩) ?_ ?_
        rotate_left
        · intro w'
          go_simp
          with_reducible rfl
        rotate_left
        · simp only [Act.put, List.setIfInBounds_toArray, List.set_cons_zero, List.set_cons_succ, i64_w, i32_w]
          rfl
        refine pure_ (i := 5) (N := some 9) (v := ?_) (a' := ?_) #[true, true, true, true, true, true] rfl rfl (by kernel_rfl) (fun _ _ _ h => h) (Or.inl ⟨by rfl, ?_⟩) ?_ ?_
        rotate_left
        · intro w'
          go_simp
          with_reducible rfl
        rotate_left
        · simp only [Act.put, List.setIfInBounds_toArray, List.set_cons_zero, List.set_cons_succ, i64_w, i32_w]
          rfl
        refine done_ (by kernel_rfl) ?_
        have hcz14_0 : w13.cell? ⟨gb103, 0, none⟩ = some (.string a1_0) := (blk_cell BK103.out 0).trans rfl
        have hcz14_1 : w13.cell? ⟨gb103, 1, none⟩ = some (.int .i64 a1_1) := (blk_cell BK103.out 1).trans rfl
        have hcz14_2 : w13.cell? ⟨gb103, 2, none⟩ = some (.int .i64 a1_2) := (blk_cell BK103.out 2).trans rfl
        have hcz14_3 : w13.cell? ⟨gb103, 3, none⟩ = some (.string a1_3) := (blk_cell BK103.out 3).trans rfl
        have hfz14_0 := blk_frozen BK103.out 0
        have hfz14_1 := blk_frozen BK103.out 1
        have hfz14_2 := blk_frozen BK103.out 2
        have hfz14_3 := blk_frozen BK103.out 3
        go_upto_block 0 with (fail)
        go_cut [7, 8, 9] (fun v7 v8 v9 wc => ∃ (kq : Nat) (x7_11 : Int) (x8_11 : Int) (x9_11 : Bool), v7 = .int .i64 x7_11 ∧ v8 = .int .i64 x8_11 ∧ v9 = .bool x9_11 ∧ Aside0 (sig_wrong.j1 kq x7_11 x8_11 x9_11 a1_0 a1_1 a1_2 a1_3 = some r) ∧ Aside0 (kq ≤ kj3) ∧ Aside0 (wc.heap[gb103]? = some (.cells #[.string a1_0, .int .i64 a1_1, .int .i64 a1_2, .string a1_3] 36 (0, 0))) ∧ Aside0 (Below w.heap.size w wc))
        case first =>
          have H := HC12.out
          clear HC12
          by_cases c15 : a1_1 = 1
          · rw [if_pos c15] at H
            have c15b0 : (a1_1 == 1) = true := beq_iff_eq.mpr c15
            have c15b1 : (a1_1 != 1) = false := bne_eq_false_iff_eq.mpr c15
            clear c15
            (first | rw [c15b0] | (simp only [i64_w, i32_w]; rw [c15b0]) | skip)
            have H' := Aside0.mk H
            clear H
            go_wp2
            go_meet
            case rel => exact ⟨_, (4), (0), ((a1_3.toList == ([] : List UInt8))), (by first | rfl | (simp; done) | (simp [*]; done)), (by first | rfl | (simp; done) | (simp [*]; done)), (by first | rfl | (simp; done) | (simp [*]; done)), H', ⟨by have := HJ3.out; first | omega | exact Nat.le_refl _⟩, ⟨by (with_reducible repeat (first | refine blk_drewN ?_ _ | refine blk_drew ?_ | refine blk_alloc ?_ _)); exact BK103.out⟩, ⟨by repeat (first | (with_reducible first | exact HB.out | apply below_alloc | apply pw_below_drewN | apply below_drew1 | refine below_set ?_ GE103.out) | exact HB.out)⟩⟩
          · rw [if_neg c15] at H
            have c15b0 : (a1_1 == 1) = false := beq_eq_false_iff_ne.mpr c15
            have c15b1 : (a1_1 != 1) = true := bne_iff_ne.mpr c15
            (first | rw [c15b0] | (simp only [i64_w, i32_w]; rw [c15b0]) | skip)
            by_cases c16 : a1_1 = 2
            · rw [if_pos c16] at H
              have c16b0 : (a1_1 == 2) = true := beq_iff_eq.mpr c16
              have c16b1 : (a1_1 != 2) = false := bne_eq_false_iff_eq.mpr c16
              clear c16
              have H' := Aside0.mk H
              clear H
              go_wp2
              go_meet
              case rel => exact ⟨_, (2), (2), ((a1_3.toList == ([] : List UInt8))), (by first | rfl | (simp; done) | (simp [*]; done)), (by first | rfl | (simp; done) | (simp [*]; done)), (by first | rfl | (simp; done) | (simp [*]; done)), H', ⟨by have := HJ3.out; first | omega | exact Nat.le_refl _⟩, ⟨by (with_reducible repeat (first | refine blk_drewN ?_ _ | refine blk_drew ?_ | refine blk_alloc ?_ _)); exact BK103.out⟩, ⟨by repeat (first | (with_reducible first | exact HB.out | apply below_alloc | apply pw_below_drewN | apply below_drew1 | refine below_set ?_ GE103.out) | exact HB.out)⟩⟩
            · rw [if_neg c16] at H
              have c16b0 : (a1_1 == 2) = false := beq_eq_false_iff_ne.mpr c16
              have c16b1 : (a1_1 != 2) = true := bne_iff_ne.mpr c16
              by_cases c17 : a1_1 = 3
              · rw [if_pos c17] at H
                have c17b0 : (a1_1 == 3) = true := beq_iff_eq.mpr c17
                have c17b1 : (a1_1 != 3) = false := bne_eq_false_iff_eq.mpr c17
                clear c17
                replace H := Option.bind_eq_some_iff.mp H
                obtain ⟨⟨t107, t108⟩, A180, H⟩ := H
                replace H : (if t108 = true then (if 0 ≤ t107 then (if t107 < (l0.length : Int) then ((sig_constant.f a1_3).bind fun bt110 => (sig_wrong.j1 kj3 2 2 ((((rd_T36 l0 t107).f0).toList) == bt110.1.toList && (((rd_T36 l0 t107).f1) == bt110.2.1 && (((rd_T36 l0 t107).f2) == bt110.2.2.1 && ((((rd_T36 l0 t107).f3).toList) == bt110.2.2.2.toList)))) a1_0 a1_1 a1_2 a1_3)) else (none)) else (none)) else (sig_wrong.j1 kj3 2 2 false a1_0 a1_1 a1_2 a1_3)) = some r := H
                have A18 := Aside0.mk A180
                clear A180
                by_cases c19 : t108 = true
                · subst c19
                  have H1 : (if 0 ≤ t107 then (if t107 < (l0.length : Int) then ((sig_constant.f a1_3).bind fun bt110 => (sig_wrong.j1 kj3 2 2 ((((rd_T36 l0 t107).f0).toList) == bt110.1.toList && (((rd_T36 l0 t107).f1) == bt110.2.1 && (((rd_T36 l0 t107).f2) == bt110.2.2.1 && ((((rd_T36 l0 t107).f3).toList) == bt110.2.2.2.toList)))) a1_0 a1_1 a1_2 a1_3)) else (none)) else (none)) = some r := by rw [if_pos rfl] at H; exact H
                  clear H
                  have H := H1
                  clear H1
                  by_cases c20 : 0 ≤ t107
                  · rw [if_pos c20] at H
                    have c20b0 : decide (0 ≤ t107) = true := decide_eq_true c20
                    clear c20
                    by_cases c21 : t107 < (l0.length : Int)
                    · rw [if_pos c21] at H
                      have c21b0 : decide (t107 < (l0.length : Int)) = true := decide_eq_true c21
                      clear c21
                      replace H := Option.bind_eq_some_iff.mp H
                      obtain ⟨⟨t110, t111, t112, t113⟩, A220, H⟩ := H
                      replace H : (sig_wrong.j1 kj3 2 2 ((((rd_T36 l0 t107).f0).toList) == t110.toList && (((rd_T36 l0 t107).f1) == t111 && (((rd_T36 l0 t107).f2) == t112 && ((((rd_T36 l0 t107).f3).toList) == t113.toList)))) a1_0 a1_1 a1_2 a1_3) = some r := H
                      have A22 := Aside0.mk A220
                      clear A220
                      have H' := Aside0.mk H
                      clear H
                      have hcz23_0 : w13.cell? ⟨gb103, 0, none⟩ = some (.string a1_0) := (blk_cell BK103.out 0).trans rfl
                      have hcz23_1 : w13.cell? ⟨gb103, 1, none⟩ = some (.int .i64 a1_1) := (blk_cell BK103.out 1).trans rfl
                      have hcz23_2 : w13.cell? ⟨gb103, 2, none⟩ = some (.int .i64 a1_2) := (blk_cell BK103.out 2).trans rfl
                      have hcz23_3 : w13.cell? ⟨gb103, 3, none⟩ = some (.string a1_3) := (blk_cell BK103.out 3).trans rfl
                      have hfz23_0 := blk_frozen BK103.out 0
                      have hfz23_1 := blk_frozen BK103.out 1
                      have hfz23_2 := blk_frozen BK103.out 2
                      have hfz23_3 := blk_frozen BK103.out 3
                      try go_wp2_with (first | ((with_reducible refine gate_callee (f := 18) rfl ?_); refine goesL_ (some 41) rfl rfl Try.func18 (by kernel_rfl) rfl #[.slice A0 l0.length c0, .string a1_3] rfl (by (try simp only [List.map_toArray, List.map_cons, List.map_nil]); first | done | rfl | (simp only [List.length_drop, List.length_take]; rfl)) ?_; (with_reducible refine (sig_Find.calls kj3 _ _ l0 a1_3 t107 true _ ?side1 ?side2 A18.out).mono ?_); (case side1 => repeat (first | exact (Kd.C_below HR0.out HB.out) | (with_reducible refine Kd.C_alloc ?_ _) | (with_reducible refine Kd.C_drewN ?_ _) | (with_reducible refine Kd.C_drew ?_))); (case side2 => exact HC0.out); rintro e w' ⟨rfl, ⟨nd, rfl⟩⟩; refine ⟨_, rfl, ?_⟩))
                      (try (rw [drewN_self w13]; generalize hq_ : World.drewN w13 _ = w13; have n0_ : Aside0 (w13.heap[gb103]? = some (.cells #[.string a1_0, .int .i64 a1_1, .int .i64 a1_2, .string a1_3] 36 (0, 0))) := ⟨by rw [← hq_]; exact (by (with_reducible repeat (first | refine blk_drewN ?_ _ | refine blk_drew ?_ | refine blk_alloc ?_ _)); exact BK103.out)⟩; have n1_ : Aside0 (Below w.heap.size w w13) := ⟨by rw [← hq_]; exact (by repeat (first | (with_reducible first | exact HB.out | apply below_alloc | apply pw_below_drewN | apply below_drew1 | refine below_set ?_ GE103.out) | exact HB.out))⟩; clear BK103 HB hq_; have BK103 := n0_; have HB := n1_; clear n0_ n1_))
                      have n0_ := Aside0.mk (blk_drew BK103.out)
                      have n1_ := Aside0.mk (below_drew1 HB.out)
                      clear BK103
                      clear HB
                      have BK103 := n0_
                      have HB := n1_
                      clear n0_ n1_
                      have p109 : 0 ≤ (t107 : Int) := of_decide_eq_true (by first | (with_reducible assumption) | assumption)
                      have q109 : t107 < (l0.length : Int) := of_decide_eq_true (by first | (with_reducible assumption) | assumption)
                      obtain ⟨ad109, e109, hx109_0, hx109_1, hx109_2, hx109_3⟩ := at_T36 HR0.out t107 p109 q109
                      have hw109_3 := hx109_3
                      have hw109_2 := hx109_2
                      have hw109_1 := hx109_1
                      have hw109_0 := hx109_0
                      cases e109
                      replace hx109_0 := (HB.out.cell (World.block_lt_of_cell? w _ hx109_0)).trans hx109_0
                      replace hx109_1 := (HB.out.cell (World.block_lt_of_cell? w _ hx109_1)).trans hx109_1
                      replace hx109_2 := (HB.out.cell (World.block_lt_of_cell? w _ hx109_2)).trans hx109_2
                      replace hx109_3 := (HB.out.cell (World.block_lt_of_cell? w _ hx109_3)).trans hx109_3
                      replace p109 := eq_true p109
                      replace q109 := eq_true q109
                      refine start_ (n := 12) (S := fun w' => w'.cell? ⟨gb103, 0, none⟩ = some (.string a1_0) ∧ w'.cell? ⟨gb103, 1, none⟩ = some (.int .i64 a1_1) ∧ w'.cell? ⟨gb103, 2, none⟩ = some (.int .i64 a1_2) ∧ w'.cell? ⟨gb103, 3, none⟩ = some (.string a1_3) ∧ w'.cell? (ad109.add ((t107).toNat * 4)) = some (.string ((rd_T36 l0 t107).f0)) ∧ w'.cell? ⟨(ad109.add ((t107).toNat * 4)).block, (ad109.add ((t107).toNat * 4)).off + 1, none⟩ = some (.int .i64 ((rd_T36 l0 t107).f1)) ∧ w'.cell? ⟨(ad109.add ((t107).toNat * 4)).block, (ad109.add ((t107).toNat * 4)).off + 2, none⟩ = some (.int .i64 ((rd_T36 l0 t107).f2)) ∧ w'.cell? ⟨(ad109.add ((t107).toNat * 4)).block, (ad109.add ((t107).toNat * 4)).off + 3, none⟩ = some (.string ((rd_T36 l0 t107).f3))) (ds := []) #[false, false, false, false, false, false, false, false, false, false, false, false] (by kernel_rfl) rfl rfl ⟨(blk_cell BK103.out 0).trans rfl, (blk_cell BK103.out 1).trans rfl, (blk_cell BK103.out 2).trans rfl, (blk_cell BK103.out 3).trans rfl, ((HB.out.cell (World.block_lt_of_cell? w _ hw109_0)).trans hw109_0), ((HB.out.cell (World.block_lt_of_cell? w _ hw109_1)).trans hw109_1), ((HB.out.cell (World.block_lt_of_cell? w _ hw109_2)).trans hw109_2), ((HB.out.cell (World.block_lt_of_cell? w _ hw109_3)).trans hw109_3)⟩ (fun hHeld => ?_); refine with_tabW sig_wrong.tab12 sig_wrong.bits12 (fun HT_ HW_ => ?_)
                      generalize w13.drew = w24 at BK103 HB hx109_0 hx109_1 hx109_2 hx109_3 hHeld ⊢
                      refine pure_ (i := 0) (N := some 44) (v := ?_) (a' := ?_) #[true, false, false, false, false, false, false, false, false, false, false, false] rfl rfl (any_of HT_.out (by kernel_rfl)) (fun _ _ _ h => h) (Or.inl ⟨by rfl, ?_⟩) ?_ ?_
                      rotate_left
                      · intro w'
                        go_simp
                        with_reducible rfl
                      rotate_left
                      · simp only [Act.put, List.setIfInBounds_toArray, List.set_cons_zero, List.set_cons_succ, i64_w, i32_w]
                        rfl
                      refine pure_ (i := 1) (N := some 45) (v := ?_) (a' := ?_) #[true, true, false, false, false, false, false, false, false, false, false, false] rfl rfl (any_of HT_.out (by kernel_rfl)) (fun _ _ _ h => h) (Or.inl ⟨by rfl, ?_⟩) ?_ ?_
                      rotate_left
                      · intro w'
                        go_simp
                        with_reducible rfl
                      rotate_left
                      · simp only [Act.put, List.setIfInBounds_toArray, List.set_cons_zero, List.set_cons_succ, i64_w, i32_w]
                        rfl
                      refine pure_ (i := 2) (N := some 46) (v := ?_) (a' := ?_) #[true, true, true, false, false, false, false, false, false, false, false, false] rfl rfl (any_of HT_.out (by kernel_rfl)) (fun _ _ _ h => h) (Or.inl ⟨by rfl, ?_⟩) ?_ ?_
                      rotate_left
                      · intro w'
                        go_simp
                        with_reducible rfl
                      rotate_left
                      · simp only [Act.put, List.setIfInBounds_toArray, List.set_cons_zero, List.set_cons_succ, i64_w, i32_w]
                        rfl
                      refine pure_ (i := 3) (N := some 47) (v := ?_) (a' := ?_) #[true, true, true, true, false, false, false, false, false, false, false, false] rfl rfl (any_of HT_.out (by kernel_rfl)) (fun _ _ _ h => h) (Or.inl ⟨by rfl, ?_⟩) ?_ ?_
                      rotate_left
                      · intro w'
                        go_simp
                        with_reducible rfl
                      rotate_left
                      · simp only [Act.put, List.setIfInBounds_toArray, List.set_cons_zero, List.set_cons_succ, i64_w, i32_w]
                        rfl
                      refine pure_ (i := 4) (N := some 48) (v := ?_) (a' := ?_) #[true, true, true, true, true, false, false, false, false, false, false, false] rfl rfl (any_of HT_.out (by kernel_rfl)) (fun _ _ _ h => h) (Or.inl ⟨by rfl, ?_⟩) ?_ ?_
                      rotate_left
                      · intro w'
                        go_simp
                        with_reducible rfl
                      rotate_left
                      · simp only [Act.put, List.setIfInBounds_toArray, List.set_cons_zero, List.set_cons_succ, i64_w, i32_w]
                        rfl
                      refine pure_ (i := 6) (N := some 50) (v := ?_) (a' := ?_) #[true, true, true, true, true, false, true, false, false, false, false, false] rfl rfl (any_of HT_.out (by kernel_rfl)) (fun _ _ _ h => h) (Or.inl ⟨by rfl, ?_⟩) ?_ ?_
                      rotate_left
                      · intro w'
                        go_simp
                        with_reducible rfl
                      rotate_left
                      · simp only [Act.put, List.setIfInBounds_toArray, List.set_cons_zero, List.set_cons_succ, i64_w, i32_w]
                        rfl
                      refine take_ (i := 5) (N := some 49) (v := ?_) (a' := ?_) #[true, true, true, true, true, true, true, false, false, false, false, false] rfl rfl (take_ofW HT_.out HW_.out (by kernel_rfl)) (fun _ _ _ h => h) (Or.inl ⟨by rfl, ?_⟩) hHeld ?_ ?_
                      rotate_left
                      · rintro w' ⟨s0, s1, s2, s3, s4, s5, s6, s7⟩
                        go_simp
                        with_reducible rfl
                      rotate_left
                      · simp only [Act.put, List.setIfInBounds_toArray, List.set_cons_zero, List.set_cons_succ, i64_w, i32_w]
                        rfl
                      refine take_ (i := 7) (N := some 51) (v := ?_) (a' := ?_) #[true, true, true, true, true, true, true, true, false, false, false, false] rfl rfl (take_ofW HT_.out HW_.out (by kernel_rfl)) (fun _ _ _ h => h) (Or.inl ⟨by rfl, ?_⟩) hHeld ?_ ?_
                      rotate_left
                      · rintro w' ⟨s0, s1, s2, s3, s4, s5, s6, s7⟩
                        go_simp
                        with_reducible rfl
                      rotate_left
                      · simp only [Act.put, List.setIfInBounds_toArray, List.set_cons_zero, List.set_cons_succ, i64_w, i32_w]
                        rfl
                      refine one_ (i := 8) (N := some 52) #[true, true, true, true, true, true, true, true, true, false, false, false] rfl rfl (one_of HT_.out (by kernel_rfl)) (by decide) (fun K hK => ?_)
                      refine goes_ Try.func36 (by kernel_rfl) rfl #[.string a1_3] (by rfl) rfl rfl (by (try simp only [List.map_toArray, List.map_cons, List.map_nil]); first | done | rfl | (simp only [List.length_drop, List.length_take]; rfl)) ?_
                      with_reducible refine (sig_constant.calls a1_3 t110 t111 t112 t113 _ A22.out).mono ?_
                      rintro e w25 ⟨rfl, hb⟩
                      refine ⟨_, rfl, ?_⟩
                      have n0_ := Aside0.mk (blk_below (g := gb103) (o := .cells #[.string a1_0, .int .i64 a1_1, .int .i64 a1_2, .string a1_3] 36 (0, 0)) (by (with_reducible repeat (first | refine blk_drewN ?_ _ | refine blk_drew ?_ | refine blk_alloc ?_ _)); exact BK103.out) hb)
                      have n1_ := Aside0.mk (below_step (by repeat (first | (with_reducible first | exact HB.out | apply below_alloc | apply pw_below_drewN | apply below_drew1 | refine below_set ?_ GE103.out) | exact HB.out)) hb)
                      clear BK103
                      clear HB
                      have BK103 := n0_
                      have HB := n1_
                      clear n0_ n1_
                      (try clear hb)
                      (try clear hb2)
                      (try clear hk)
                      (try clear hi)
                      refine hK.out _ _ ⟨(blk_cell BK103.out 0).trans rfl, (blk_cell BK103.out 1).trans rfl, (blk_cell BK103.out 2).trans rfl, (blk_cell BK103.out 3).trans rfl, ((HB.out.cell (World.block_lt_of_cell? w _ hw109_0)).trans hw109_0), ((HB.out.cell (World.block_lt_of_cell? w _ hw109_1)).trans hw109_1), ((HB.out.cell (World.block_lt_of_cell? w _ hw109_2)).trans hw109_2), ((HB.out.cell (World.block_lt_of_cell? w _ hw109_3)).trans hw109_3)⟩ (fun hHeld => ?_)
                      clear hK K
                      refine norm_ (a' := ?_) ?_ ?_
                      rotate_left
                      · show Act.put _ (some 52) _ = _
                        simp only [Act.put, List.setIfInBounds_toArray, List.set_cons_zero, List.set_cons_succ, i64_w, i32_w]
                        rfl
                      refine pure_ (i := 9) (N := some 53) (v := ?_) (a' := ?_) #[true, true, true, true, true, true, true, true, true, true, false, false] rfl rfl (any_of HT_.out (by kernel_rfl)) (fun _ _ _ h => h) (Or.inl ⟨by rfl, ?_⟩) ?_ ?_
                      rotate_left
                      · intro w'
                        go_simp
                        with_reducible rfl
                      rotate_left
                      · simp only [Act.put, List.setIfInBounds_toArray, List.set_cons_zero, List.set_cons_succ, i64_w, i32_w]
                        rfl
                      refine pure_ (i := 10) (N := some 54) (v := ?_) (a' := ?_) #[true, true, true, true, true, true, true, true, true, true, true, false] rfl rfl (any_of HT_.out (by kernel_rfl)) (fun _ _ _ h => h) (Or.inl ⟨by rfl, ?_⟩) ?_ ?_
                      rotate_left
                      · intro w'
                        go_simp
                        with_reducible rfl
                      rotate_left
                      · simp only [Act.put, List.setIfInBounds_toArray, List.set_cons_zero, List.set_cons_succ, i64_w, i32_w]
                        rfl
                      refine pure_ (i := 11) (N := some 9) (v := ?_) (a' := ?_) #[true, true, true, true, true, true, true, true, true, true, true, true] rfl rfl (any_of HT_.out (by kernel_rfl)) (fun _ _ _ h => h) (Or.inl ⟨by rfl, ?_⟩) ?_ ?_
                      rotate_left
                      · intro w'
                        go_simp
                        with_reducible rfl
                      rotate_left
                      · simp only [Act.put, List.setIfInBounds_toArray, List.set_cons_zero, List.set_cons_succ, i64_w, i32_w]
                        rfl
                      refine done_ (done_of HT_.out (by kernel_rfl)) ?_
                      try go_wp2
                      go_meet
                      case rel => exact ⟨_, (2), (2), (((((rd_T36 l0 t107).f0).toList) == t110.toList && (((rd_T36 l0 t107).f1) == t111 && (((rd_T36 l0 t107).f2) == t112 && ((((rd_T36 l0 t107).f3).toList) == t113.toList))))), (by first | rfl | (simp; done) | (simp [*]; done)), (by first | rfl | (simp; done) | (simp [*]; done)), (by first | rfl | (simp; done) | (simp [*]; done)), H', ⟨by have := HJ3.out; first | omega | exact Nat.le_refl _⟩, ⟨by (with_reducible repeat (first | refine blk_drewN ?_ _ | refine blk_drew ?_ | refine blk_alloc ?_ _)); exact BK103.out⟩, ⟨by repeat (first | (with_reducible first | exact HB.out | apply below_alloc | apply pw_below_drewN | apply below_drew1 | refine below_set ?_ GE103.out) | exact HB.out)⟩⟩
                    · rw [if_neg c21] at H
                      exact absurd H (by simp)
                  · rw [if_neg c20] at H
                    exact absurd H (by simp)
                · replace c19 := Bool.eq_false_iff.mpr c19
                  subst c19
                  have H1 : (sig_wrong.j1 kj3 2 2 false a1_0 a1_1 a1_2 a1_3) = some r := by rw [if_neg (show ¬ (false = true) by decide)] at H; exact H
                  clear H
                  have H := H1
                  clear H1
                  have H' := Aside0.mk H
                  clear H
                  have hcz26_0 : w13.cell? ⟨gb103, 0, none⟩ = some (.string a1_0) := (blk_cell BK103.out 0).trans rfl
                  have hcz26_1 : w13.cell? ⟨gb103, 1, none⟩ = some (.int .i64 a1_1) := (blk_cell BK103.out 1).trans rfl
                  have hcz26_2 : w13.cell? ⟨gb103, 2, none⟩ = some (.int .i64 a1_2) := (blk_cell BK103.out 2).trans rfl
                  have hcz26_3 : w13.cell? ⟨gb103, 3, none⟩ = some (.string a1_3) := (blk_cell BK103.out 3).trans rfl
                  have hfz26_0 := blk_frozen BK103.out 0
                  have hfz26_1 := blk_frozen BK103.out 1
                  have hfz26_2 := blk_frozen BK103.out 2
                  have hfz26_3 := blk_frozen BK103.out 3
                  try go_wp2_with (first | ((with_reducible refine gate_callee (f := 18) rfl ?_); refine goesL_ (some 41) rfl rfl Try.func18 (by kernel_rfl) rfl #[.slice A0 l0.length c0, .string a1_3] rfl (by (try simp only [List.map_toArray, List.map_cons, List.map_nil]); first | done | rfl | (simp only [List.length_drop, List.length_take]; rfl)) ?_; (with_reducible refine (sig_Find.calls kj3 _ _ l0 a1_3 t107 false _ ?side1 ?side2 A18.out).mono ?_); (case side1 => repeat (first | exact (Kd.C_below HR0.out HB.out) | (with_reducible refine Kd.C_alloc ?_ _) | (with_reducible refine Kd.C_drewN ?_ _) | (with_reducible refine Kd.C_drew ?_))); (case side2 => exact HC0.out); rintro e w' ⟨rfl, ⟨nd, rfl⟩⟩; refine ⟨_, rfl, ?_⟩))
                  (try (rw [drewN_self w13]; generalize hq_ : World.drewN w13 _ = w13; have n0_ : Aside0 (w13.heap[gb103]? = some (.cells #[.string a1_0, .int .i64 a1_1, .int .i64 a1_2, .string a1_3] 36 (0, 0))) := ⟨by rw [← hq_]; exact (by (with_reducible repeat (first | refine blk_drewN ?_ _ | refine blk_drew ?_ | refine blk_alloc ?_ _)); exact BK103.out)⟩; have n1_ : Aside0 (Below w.heap.size w w13) := ⟨by rw [← hq_]; exact (by repeat (first | (with_reducible first | exact HB.out | apply below_alloc | apply pw_below_drewN | apply below_drew1 | refine below_set ?_ GE103.out) | exact HB.out))⟩; clear BK103 HB hq_; have BK103 := n0_; have HB := n1_; clear n0_ n1_))
                  have n0_ := Aside0.mk (blk_drew BK103.out)
                  have n1_ := Aside0.mk (below_drew1 HB.out)
                  clear BK103
                  clear HB
                  have BK103 := n0_
                  have HB := n1_
                  clear n0_ n1_
                  refine start_ (n := 12) (S := fun w' => True) (ds := []) #[false, false, false, false, false, false, false, false, false, false, false, false] (by kernel_rfl) rfl rfl trivial (fun hHeld => ?_); refine with_tabW sig_wrong.tab12 sig_wrong.bits12 (fun HT_ HW_ => ?_)
                  generalize w13.drew = w27 at BK103 HB hHeld ⊢
                  refine pure_ (i := 0) (N := some 44) (v := ?_) (a' := ?_) #[true, false, false, false, false, false, false, false, false, false, false, false] rfl rfl (any_of HT_.out (by kernel_rfl)) (fun _ _ _ h => h) (Or.inl ⟨by rfl, ?_⟩) ?_ ?_
                  rotate_left
                  · intro w'
                    go_simp
                    with_reducible rfl
                  rotate_left
                  · simp only [Act.put, List.setIfInBounds_toArray, List.set_cons_zero, List.set_cons_succ, i64_w, i32_w]
                    rfl
                  refine pure_ (i := 1) (N := some 45) (v := ?_) (a' := ?_) #[true, true, false, false, false, false, false, false, false, false, false, false] rfl rfl (any_of HT_.out (by kernel_rfl)) (fun _ _ _ h => h) (Or.inl ⟨by rfl, ?_⟩) ?_ ?_
                  rotate_left
                  · intro w'
                    go_simp
                    with_reducible rfl
                  rotate_left
                  · simp only [Act.put, List.setIfInBounds_toArray, List.set_cons_zero, List.set_cons_succ, i64_w, i32_w]
                    rfl
                  refine pure_ (i := 2) (N := some 46) (v := undef) (a' := ?_) #[true, true, true, false, false, false, false, false, false, false, false, false] rfl rfl (any_of HT_.out (by kernel_rfl)) (fun _ _ _ h => h) (Or.inr ⟨by rfl, rfl⟩) ?_ ?_
                  rotate_left
                  · simp only [Act.put, List.setIfInBounds_toArray, List.set_cons_zero, List.set_cons_succ, i64_w, i32_w]
                    rfl
                  refine pure_ (i := 3) (N := some 47) (v := undef) (a' := ?_) #[true, true, true, true, false, false, false, false, false, false, false, false] rfl rfl (any_of HT_.out (by kernel_rfl)) (fun _ _ _ h => h) (Or.inr ⟨by rfl, rfl⟩) ?_ ?_
                  rotate_left
                  · simp only [Act.put, List.setIfInBounds_toArray, List.set_cons_zero, List.set_cons_succ, i64_w, i32_w]
                    rfl
                  refine pure_ (i := 4) (N := some 48) (v := undef) (a' := ?_) #[true, true, true, true, true, false, false, false, false, false, false, false] rfl rfl (any_of HT_.out (by kernel_rfl)) (fun _ _ _ h => h) (Or.inr ⟨by rfl, rfl⟩) ?_ ?_
                  rotate_left
                  · simp only [Act.put, List.setIfInBounds_toArray, List.set_cons_zero, List.set_cons_succ, i64_w, i32_w]
                    rfl
                  refine pure_ (i := 5) (N := some 49) (v := undef) (a' := ?_) #[true, true, true, true, true, true, false, false, false, false, false, false] rfl rfl (any_of HT_.out (by kernel_rfl)) (fun _ _ _ h => h) (Or.inr ⟨by rfl, rfl⟩) ?_ ?_
                  rotate_left
                  · simp only [Act.put, List.setIfInBounds_toArray, List.set_cons_zero, List.set_cons_succ, i64_w, i32_w]
                    rfl
                  refine pure_ (i := 6) (N := some 50) (v := undef) (a' := ?_) #[true, true, true, true, true, true, true, false, false, false, false, false] rfl rfl (any_of HT_.out (by kernel_rfl)) (fun _ _ _ h => h) (Or.inr ⟨by rfl, rfl⟩) ?_ ?_
                  rotate_left
                  · simp only [Act.put, List.setIfInBounds_toArray, List.set_cons_zero, List.set_cons_succ, i64_w, i32_w]
                    rfl
                  refine pure_ (i := 7) (N := some 51) (v := undef) (a' := ?_) #[true, true, true, true, true, true, true, true, false, false, false, false] rfl rfl (any_of HT_.out (by kernel_rfl)) (fun _ _ _ h => h) (Or.inr ⟨by rfl, rfl⟩) ?_ ?_
                  rotate_left
                  · simp only [Act.put, List.setIfInBounds_toArray, List.set_cons_zero, List.set_cons_succ, i64_w, i32_w]
                    rfl
                  refine pure_ (i := 8) (N := some 52) (v := undef) (a' := ?_) #[true, true, true, true, true, true, true, true, true, false, false, false] rfl rfl (any_of HT_.out (by kernel_rfl)) (fun _ _ _ h => h) (Or.inr ⟨by rfl, rfl⟩) ?_ ?_
                  rotate_left
                  · simp only [Act.put, List.setIfInBounds_toArray, List.set_cons_zero, List.set_cons_succ, i64_w, i32_w]
                    rfl
                  refine pure_ (i := 9) (N := some 53) (v := undef) (a' := ?_) #[true, true, true, true, true, true, true, true, true, true, false, false] rfl rfl (any_of HT_.out (by kernel_rfl)) (fun _ _ _ h => h) (Or.inr ⟨by rfl, rfl⟩) ?_ ?_
                  rotate_left
                  · simp only [Act.put, List.setIfInBounds_toArray, List.set_cons_zero, List.set_cons_succ, i64_w, i32_w]
                    rfl
                  refine pure_ (i := 10) (N := some 54) (v := ?_) (a' := ?_) #[true, true, true, true, true, true, true, true, true, true, true, false] rfl rfl (any_of HT_.out (by kernel_rfl)) (fun _ _ _ h => h) (Or.inl ⟨by rfl, ?_⟩) ?_ ?_
                  rotate_left
                  · intro w'
                    go_simp
                    with_reducible rfl
                  rotate_left
                  · simp only [Act.put, List.setIfInBounds_toArray, List.set_cons_zero, List.set_cons_succ, i64_w, i32_w]
                    rfl
                  refine pure_ (i := 11) (N := some 9) (v := ?_) (a' := ?_) #[true, true, true, true, true, true, true, true, true, true, true, true] rfl rfl (any_of HT_.out (by kernel_rfl)) (fun _ _ _ h => h) (Or.inl ⟨by rfl, ?_⟩) ?_ ?_
                  rotate_left
                  · intro w'
                    go_simp
                    with_reducible rfl
                  rotate_left
                  · simp only [Act.put, List.setIfInBounds_toArray, List.set_cons_zero, List.set_cons_succ, i64_w, i32_w]
                    rfl
                  refine done_ (done_of HT_.out (by kernel_rfl)) ?_
                  try go_wp2
                  go_meet
                  case rel => exact ⟨_, (2), (2), (false), (by first | rfl | (simp; done) | (simp [*]; done)), (by first | rfl | (simp; done) | (simp [*]; done)), (by first | rfl | (simp; done) | (simp [*]; done)), H', ⟨by have := HJ3.out; first | omega | exact Nat.le_refl _⟩, ⟨by (with_reducible repeat (first | refine blk_drewN ?_ _ | refine blk_drew ?_ | refine blk_alloc ?_ _)); exact BK103.out⟩, ⟨by repeat (first | (with_reducible first | exact HB.out | apply below_alloc | apply pw_below_drewN | apply below_drew1 | refine below_set ?_ GE103.out) | exact HB.out)⟩⟩
              · rw [if_neg c17] at H
                have c17b0 : (a1_1 == 3) = false := beq_eq_false_iff_ne.mpr c17
                have c17b1 : (a1_1 != 3) = true := bne_iff_ne.mpr c17
                obtain rfl := Option.some.inj H
                go_wp2
                go_ret
                exact ⟨by first | rfl | (simp [errW_none, errW_some] <;> rfl) | (simp [*, errW_none, errW_some] <;> rfl), by repeat (first | (with_reducible first | exact HB.out | apply below_alloc | apply pw_below_drewN | apply below_drew1 | refine below_set ?_ GE103.out) | exact HB.out)⟩
        case rest =>
          clear HC12
          try clear c1
          try clear p1
          try clear q1
          try clear hx1
          try clear c2
          try clear p2
          try clear c3
          try clear c7
          try clear p10
          try clear q10
          try clear hx10
          try clear c11
          try clear c15
          try clear c15b0
          try clear c15b1
          try clear c16
          try clear c16b0
          try clear c16b1
          try clear c17
          try clear c17b0
          try clear c17b1
          try clear c18
          try clear c19
          try clear c20
          try clear c20b0
          try clear c21
          try clear c21b0
          try clear hcz14_0
          try clear hcz14_1
          try clear hcz14_2
          try clear hcz14_3
          try clear hcz23_0
          try clear hcz23_1
          try clear hcz23_2
          try clear hcz23_3
          try clear hcz26_0
          try clear hcz26_1
          try clear hcz26_2
          try clear hcz26_3
          try clear hcz6_0
          try clear hcz6_1
          try clear hcz6_2
          try clear hcz6_3
          try clear hcz9_0
          try clear hcz9_1
          try clear hcz9_2
          try clear hcz9_3
          try clear hfz14_0
          try clear hfz14_1
          try clear hfz14_2
          try clear hfz14_3
          try clear hfz23_0
          try clear hfz23_1
          try clear hfz23_2
          try clear hfz23_3
          try clear hfz26_0
          try clear hfz26_1
          try clear hfz26_2
          try clear hfz26_3
          try clear hfz6_0
          try clear hfz6_1
          try clear hfz6_2
          try clear hfz6_3
          try clear hfz9_0
          try clear hfz9_1
          try clear hfz9_2
          try clear hfz9_3
          try clear hx109_0
          try clear hx109_1
          try clear hx109_2
          try clear hx109_3
          try clear p109
          try clear p2
          try clear q109
          obtain ⟨kq, x7_11, x8_11, x9_11, rfl, rfl, rfl, HA, HJ11, BK103, HB⟩ := hcut
          cases kq with
          | zero => exact absurd HA.out (by simp [sig_wrong.j1])
          | succ kj11 =>
            have H := HA.out
            clear HA
            simp only [sig_wrong.j1] at H
            have HC28 := Aside0.mk H
            clear H
            go_upto_region 13 with (fail)
            go_cut [55] (fun v55 wc => ∃ (kq : Nat) (x55_27 : Bool), v55 = .bool x55_27 ∧ Aside0 (sig_wrong.j2 kq x9_11 x55_27 = some r) ∧ Aside0 (kq ≤ kj11) ∧ Aside0 (wc.heap[gb103]? = some (.cells #[.string a1_0, .int .i64 a1_1, .int .i64 a1_2, .string a1_3] 36 (0, 0))) ∧ Aside0 (Below w.heap.size w wc))
            case first =>
              have H := HC28.out
              clear HC28
              by_cases c29 : a1_2 < x8_11
              · rw [if_pos c29] at H
                have c29b0 : decide (a1_2 < x8_11) = true := decide_eq_true c29
                clear c29
                (first | rw [c29b0] | (simp only [i64_w, i32_w]; rw [c29b0]) | skip)
                have H' := Aside0.mk H
                clear H
                have hcz30_0 : wc.cell? ⟨gb103, 0, none⟩ = some (.string a1_0) := (blk_cell BK103.out 0).trans rfl
                have hcz30_1 : wc.cell? ⟨gb103, 1, none⟩ = some (.int .i64 a1_1) := (blk_cell BK103.out 1).trans rfl
                have hcz30_2 : wc.cell? ⟨gb103, 2, none⟩ = some (.int .i64 a1_2) := (blk_cell BK103.out 2).trans rfl
                have hcz30_3 : wc.cell? ⟨gb103, 3, none⟩ = some (.string a1_3) := (blk_cell BK103.out 3).trans rfl
                have hfz30_0 := blk_frozen BK103.out 0
                have hfz30_1 := blk_frozen BK103.out 1
                have hfz30_2 := blk_frozen BK103.out 2
                have hfz30_3 := blk_frozen BK103.out 3
                go_wp2
                go_meet
                case rel => exact ⟨_, (true), (by first | rfl | (simp; done) | (simp [*]; done)), H', ⟨by have := HJ3.out; have := HJ11.out; first | omega | exact Nat.le_refl _⟩, ⟨by (with_reducible repeat (first | refine blk_drewN ?_ _ | refine blk_drew ?_ | refine blk_alloc ?_ _)); exact BK103.out⟩, ⟨by repeat (first | (with_reducible first | exact HB.out | apply below_alloc | apply pw_below_drewN | apply below_drew1 | refine below_set ?_ GE103.out) | exact HB.out)⟩⟩
              · rw [if_neg c29] at H
                have c29b0 : decide (a1_2 < x8_11) = false := decide_eq_false c29
                clear c29
                (first | rw [c29b0] | (simp only [i64_w, i32_w]; rw [c29b0]) | skip)
                have H' := Aside0.mk H
                clear H
                have hcz31_0 : wc.cell? ⟨gb103, 0, none⟩ = some (.string a1_0) := (blk_cell BK103.out 0).trans rfl
                have hcz31_1 : wc.cell? ⟨gb103, 1, none⟩ = some (.int .i64 a1_1) := (blk_cell BK103.out 1).trans rfl
                have hcz31_2 : wc.cell? ⟨gb103, 2, none⟩ = some (.int .i64 a1_2) := (blk_cell BK103.out 2).trans rfl
                have hcz31_3 : wc.cell? ⟨gb103, 3, none⟩ = some (.string a1_3) := (blk_cell BK103.out 3).trans rfl
                have hfz31_0 := blk_frozen BK103.out 0
                have hfz31_1 := blk_frozen BK103.out 1
                have hfz31_2 := blk_frozen BK103.out 2
                have hfz31_3 := blk_frozen BK103.out 3
                go_wp2
                go_meet
                case rel => exact ⟨_, (decide (a1_2 > x7_11)), (by first | rfl | (simp; done) | (simp [*]; done)), H', ⟨by have := HJ3.out; have := HJ11.out; first | omega | exact Nat.le_refl _⟩, ⟨by (with_reducible repeat (first | refine blk_drewN ?_ _ | refine blk_drew ?_ | refine blk_alloc ?_ _)); exact BK103.out⟩, ⟨by repeat (first | (with_reducible first | exact HB.out | apply below_alloc | apply pw_below_drewN | apply below_drew1 | refine below_set ?_ GE103.out) | exact HB.out)⟩⟩
            case rest =>
              clear HC28
              try clear c1
              try clear p1
              try clear q1
              try clear hx1
              try clear c2
              try clear p2
              try clear c3
              try clear c7
              try clear p10
              try clear q10
              try clear hx10
              try clear c11
              try clear c15
              try clear c15b0
              try clear c15b1
              try clear c16
              try clear c16b0
              try clear c16b1
              try clear c17
              try clear c17b0
              try clear c17b1
              try clear c18
              try clear c19
              try clear c20
              try clear c20b0
              try clear c21
              try clear c21b0
              try clear c29
              try clear c29b0
              try clear hcz14_0
              try clear hcz14_1
              try clear hcz14_2
              try clear hcz14_3
              try clear hcz23_0
              try clear hcz23_1
              try clear hcz23_2
              try clear hcz23_3
              try clear hcz26_0
              try clear hcz26_1
              try clear hcz26_2
              try clear hcz26_3
              try clear hcz30_0
              try clear hcz30_1
              try clear hcz30_2
              try clear hcz30_3
              try clear hcz31_0
              try clear hcz31_1
              try clear hcz31_2
              try clear hcz31_3
              try clear hcz6_0
              try clear hcz6_1
              try clear hcz6_2
              try clear hcz6_3
              try clear hcz9_0
              try clear hcz9_1
              try clear hcz9_2
              try clear hcz9_3
              try clear hfz14_0
              try clear hfz14_1
              try clear hfz14_2
              try clear hfz14_3
              try clear hfz23_0
              try clear hfz23_1
              try clear hfz23_2
              try clear hfz23_3
              try clear hfz26_0
              try clear hfz26_1
              try clear hfz26_2
              try clear hfz26_3
              try clear hfz30_0
              try clear hfz30_1
              try clear hfz30_2
              try clear hfz30_3
              try clear hfz31_0
              try clear hfz31_1
              try clear hfz31_2
              try clear hfz31_3
              try clear hfz6_0
              try clear hfz6_1
              try clear hfz6_2
              try clear hfz6_3
              try clear hfz9_0
              try clear hfz9_1
              try clear hfz9_2
              try clear hfz9_3
              try clear hx109_0
              try clear hx109_1
              try clear hx109_2
              try clear hx109_3
              try clear p1
              try clear p10
              try clear p109
              try clear p2
              try clear q1
              try clear q10
              try clear q109
              obtain ⟨kq, x55_27, rfl, HA, HJ27, BK103, HB⟩ := hcut
              cases kq with
              | zero => exact absurd HA.out (by simp [sig_wrong.j2])
              | succ kj27 =>
                have H := HA.out
                clear HA
                simp only [sig_wrong.j2] at H
                by_cases c32 : x55_27 = true
                · subst c32
                  have H1 : (some 13) = some r := by rw [if_pos rfl] at H; exact H
                  clear H
                  have H := H1
                  clear H1
                  obtain rfl := Option.some.inj H
                  go_wp2
                  go_ret
                  exact ⟨by first | rfl | (simp [errW_none, errW_some] <;> rfl) | (simp [*, errW_none, errW_some] <;> rfl), by repeat (first | (with_reducible first | exact HB.out | apply below_alloc | apply pw_below_drewN | apply below_drew1 | refine below_set ?_ GE103.out) | exact HB.out)⟩
                · replace c32 := Bool.eq_false_iff.mpr c32
                  subst c32
                  have H1 : (if x9_11 = true then (some 0) else (some 14)) = some r := by rw [if_neg (show ¬ (false = true) by decide)] at H; exact H
                  clear H
                  have H := H1
                  clear H1
                  by_cases c33 : x9_11 = true
                  · subst c33
                    have H1 : (some 0) = some r := by rw [if_pos rfl] at H; exact H
                    clear H
                    have H := H1
                    clear H1
                    obtain rfl := Option.some.inj H
                    go_wp2
                    go_ret
                    exact ⟨by first | rfl | (simp [errW_none, errW_some] <;> rfl) | (simp [*, errW_none, errW_some] <;> rfl), by repeat (first | (with_reducible first | exact HB.out | apply below_alloc | apply pw_below_drewN | apply below_drew1 | refine below_set ?_ GE103.out) | exact HB.out)⟩
                  · replace c33 := Bool.eq_false_iff.mpr c33
                    subst c33
                    have H1 : (some 14) = some r := by rw [if_neg (show ¬ (false = true) by decide)] at H; exact H
                    clear H
                    have H := H1
                    clear H1
                    obtain rfl := Option.some.inj H
                    go_wp2
                    go_ret
                    exact ⟨by first | rfl | (simp [errW_none, errW_some] <;> rfl) | (simp [*, errW_none, errW_some] <;> rfl), by repeat (first | (with_reducible first | exact HB.out | apply below_alloc | apply pw_below_drewN | apply below_drew1 | refine below_set ?_ GE103.out) | exact HB.out)⟩

end Go.Proofs.Ythbpbbinpkfchaa.PSig
