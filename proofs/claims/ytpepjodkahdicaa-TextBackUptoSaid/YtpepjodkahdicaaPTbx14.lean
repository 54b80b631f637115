-- Written by programs of this session (wip/tools), cut to what the claim uses (wip/tools/prune.py).
import Derived.Test.YtpepjodkahdicaaPTbx0
import Derived.Test.YtpepjodkahdicaaPTbx5
-- Written by a program of this session (wip/tools/myprint.py): functions, contracts, their proofs. Lean checks it.
namespace Go.Proofs.Ytpepjodkahdicaa.PTb
open Go.RowKit Go.Proofs.YtpepjodkahdicaaW.PrintWords Go.Proofs.YtpepjodkahdicaaW.PrintLast Go.Proofs.YtpepjodkahdicaaW.PrintMore
attribute [local go_sem] max2_int min2_int max_two min_two max_three min_three max_four min_four   -- for this text's walks alone
set_option linter.unusedVariables false
set_option linter.unusedSimpArgs false
def amalgamlaw05_same.l0 : Nat → List (S46) → List (S46) → Int → Option (Bool)
  | 0, _, _, _ => none
  | k + 1, x0, x1, x5 => if x5 < (x0.length : Int) then (if 0 ≤ x5 then (if x5 < (x1.length : Int) then ((amalgamref03_Exact.f k ((rd_T46 x0 x5).f1.f0) ((rd_T46 x0 x5).f1.f1) ((rd_T46 x0 x5).f1.f2) ((rd_T46 x1 x5).f1.f0) ((rd_T46 x1 x5).f1.f1) ((rd_T46 x1 x5).f1.f2)).bind fun t180 => (if t180 = true then (if ((rd_T46 x0 x5).f0).toList = ((rd_T46 x1 x5).f0).toList then (amalgamlaw05_same.l0 k x0 x1 (wrap64 (x5 + 1))) else (some false)) else (some false))) else (none)) else (none)) else (some true)
def amalgamlaw05_same.f (k : Nat) (l0 : List (S46)) (l1 : List (S46)) : Option (Bool) := if (l0.length : Int) = (l1.length : Int) then (amalgamlaw05_same.l0 k l0 l1 0) else (some false)
def amalgamlaw05_same.T6 : Bool × List (List Nat × List Nat) := (true, [([], []), ([], []), ([0, 1], [0, 1]), ([2], [2]), ([3], [3]), ([], []), ([], []), ([5, 6], [5, 6]), ([7], [7]), ([8], [8]), ([4, 9], [4, 9]), ([10, 10, 0, 1, 2, 3, 4, 5, 6, 7, 8, 9, 10], [10])])
def amalgamlaw05_same.B6 : List Nat := [0, 0, 3, 7, 15, 0, 0, 96, 224, 480, 1023, 2047]
theorem amalgamlaw05_same.tab6 : rtab .any (opsOf Try.f17 6) = amalgamlaw05_same.T6 := by kernel_rfl
theorem amalgamlaw05_same.bits6 : waitsOk amalgamlaw05_same.T6.2 amalgamlaw05_same.B6 = true := by kernel_rfl
def amalgamlaw05_same.T7 : Bool × List (List Nat × List Nat) := (true, [([], []), ([0], [0]), ([1], [1]), ([2], [2]), ([2], [2]), ([3, 4, 2], [2, 3, 4]), ([5, 2], [2, 5]), ([6, 2], [2, 6]), ([2], [2]), ([2], [2]), ([8, 9, 2], [2, 8, 9]), ([10, 2], [2, 10]), ([11, 2], [2, 11]), ([7, 12, 2], [2, 7, 12]), ([2, 13], [2, 13])])
def amalgamlaw05_same.B7 : List Nat := [0, 1, 3, 7, 7, 31, 63, 127, 7, 7, 775, 1799, 3847, 8191, 16383]
theorem amalgamlaw05_same.tab7 : rtab .any (opsOf Try.f17 7) = amalgamlaw05_same.T7 := by kernel_rfl
theorem amalgamlaw05_same.bits7 : waitsOk amalgamlaw05_same.T7.2 amalgamlaw05_same.B7 = true := by kernel_rfl
set_option maxHeartbeats 8000000 in
set_option maxRecDepth 100000 in
theorem amalgamlaw05_same.calls (k : Nat) (A0 : Option Addr) (c0 : Nat) (l0 : List (S46)) (A1 : Option Addr) (c1 : Nat) (l1 : List (S46)) (r : Bool) (w : World) (hr0 : Kd.C k46 w A0 l0.length l0) (hc0 : l0.length ≤ c0) (hr1 : Kd.C k46 w A1 l1.length l1) (hc1 : l1.length ≤ c1) (h : amalgamlaw05_same.f k l0 l1 = some r) :
    Calls Try.prog 17 #[.slice A0 l0.length c0, .slice A1 l1.length c1] w fun e w' => e = .returned (.bool r) ∧ Below w.heap.size w w' := by
  have hu27 := Try.underlying27
  have HR0 := Aside0.mk hr0
  have HC0 := Aside0.mk hc0
  clear hr0 hc0
  have HR1 := Aside0.mk hr1
  have HC1 := Aside0.mk hc1
  clear hr1 hc1
  have HB := Aside0.mk (Below.refl w.heap.size w)
  have H : (if (l0.length : Int) = (l1.length : Int) then (amalgamlaw05_same.l0 k l0 l1 0) else (some false)) = some r := h
  clear h
  by_cases c3 : (l0.length : Int) = (l1.length : Int)
  · rw [if_pos c3] at H
    have c3b0 : ((l0.length : Int) == (l1.length : Int)) = true := beq_iff_eq.mpr c3
    have c3b1 : ((l0.length : Int) != (l1.length : Int)) = false := bne_eq_false_iff_eq.mpr c3
    have c3b2 : (l0.length == l1.length) = true := by first | simpa using c3 | (simp at c3 ⊢; omega)
    clear c3
    have H' := Aside0.mk H
    clear H
    go_enter Try.func17, Try.ntmps17
    go_wp2
    go_loopg [5] k (fun kq v5 w' => ∃ (x5_1 : Int), v5 = .int .i64 x5_1 ∧ Aside0 (amalgamlaw05_same.l0 kq l0 l1 x5_1 = some r) ∧ Aside0 (kq ≤ k) ∧ Aside0 (Below w.heap.size w w'))
    case atStart => exact ⟨(0), (by first | rfl | (simp; done) | (simp [*]; done)), H', ⟨Nat.le_refl _⟩, ⟨by repeat (first | (with_reducible first | exact HB.out | apply below_alloc | apply pw_below_drewN | apply below_drew1) | exact HB.out)⟩⟩
    case round =>
      clear H'
      obtain ⟨x5_1, rfl, HA, HK1, HB⟩ := hrel
      cases gk with
      | zero => exact absurd HA.out (by simp [amalgamlaw05_same.l0])
      | succ k1 =>
        have H := HA.out
        clear HA
        simp only [amalgamlaw05_same.l0] at H
        by_cases c4 : x5_1 < (l0.length : Int)
        · rw [if_pos c4] at H
          have c4b0 : decide (x5_1 < (l0.length : Int)) = true := decide_eq_true c4
          clear c4
          by_cases c5 : 0 ≤ x5_1
          · rw [if_pos c5] at H
            have c5b0 : decide (0 ≤ x5_1) = true := decide_eq_true c5
            clear c5
            by_cases c6 : x5_1 < (l1.length : Int)
            · rw [if_pos c6] at H
              have c6b0 : decide (x5_1 < (l1.length : Int)) = true := decide_eq_true c6
              clear c6
              replace H := Option.bind_eq_some_iff.mp H
              obtain ⟨t180, A70, H⟩ := H
              replace H : (if t180 = true then (if ((rd_T46 l0 x5_1).f0).toList = ((rd_T46 l1 x5_1).f0).toList then (amalgamlaw05_same.l0 k1 l0 l1 (wrap64 (x5_1 + 1))) else (some false)) else (some false)) = some r := H
              have A7 := Aside0.mk A70
              clear A70
              by_cases c8 : t180 = true
              · subst c8
                have H1 : (if ((rd_T46 l0 x5_1).f0).toList = ((rd_T46 l1 x5_1).f0).toList then (amalgamlaw05_same.l0 k1 l0 l1 (wrap64 (x5_1 + 1))) else (some false)) = some r := by rw [if_pos rfl] at H; exact H
                clear H
                have H := H1
                clear H1
                by_cases c9 : ((rd_T46 l0 x5_1).f0).toList = ((rd_T46 l1 x5_1).f0).toList
                · rw [if_pos c9] at H
                  have c9b0 : (((rd_T46 l0 x5_1).f0).toList == ((rd_T46 l1 x5_1).f0).toList) = true := beq_iff_eq.mpr c9
                  have c9b1 : (((rd_T46 l0 x5_1).f0).toList != ((rd_T46 l1 x5_1).f0).toList) = false := bne_eq_false_iff_eq.mpr c9
                  clear c9
                  have H' := Aside0.mk H
                  clear H
                  try go_wp2
                  have n0_ := Aside0.mk (below_drew1 HB.out)
                  clear HB
                  have HB := n0_
                  clear n0_
                  have p178 : 0 ≤ (x5_1 : Int) := of_decide_eq_true (by first | (with_reducible assumption) | assumption)
                  have q178 : x5_1 < (l0.length : Int) := of_decide_eq_true (by first | (with_reducible assumption) | assumption)
                  obtain ⟨ad178, A178_3, c178_3, e178, hx178_0, hx178_1, hx178_2, hx178_3, hl178_3, hi178_3⟩ := at_T46 HR0.out x5_1 p178 q178
                  have hw178_3 := hx178_3
                  have hw178_2 := hx178_2
                  have hw178_1 := hx178_1
                  have hw178_0 := hx178_0
                  cases e178
                  replace hx178_0 := (HB.out.cell (World.block_lt_of_cell? w _ hx178_0)).trans hx178_0
                  replace hx178_1 := (HB.out.cell (World.block_lt_of_cell? w _ hx178_1)).trans hx178_1
                  replace hx178_2 := (HB.out.cell (World.block_lt_of_cell? w _ hx178_2)).trans hx178_2
                  replace hx178_3 := (HB.out.cell (World.block_lt_of_cell? w _ hx178_3)).trans hx178_3
                  have HR178_3 := Aside0.mk hi178_3
                  have HC178_3 := Aside0.mk hl178_3
                  clear hi178_3 hl178_3
                  replace p178 := eq_true p178
                  replace q178 := eq_true q178
                  have p179 : 0 ≤ (x5_1 : Int) := of_decide_eq_true (by first | (with_reducible assumption) | assumption)
                  have q179 : x5_1 < (l1.length : Int) := of_decide_eq_true (by first | (with_reducible assumption) | assumption)
                  obtain ⟨ad179, A179_3, c179_3, e179, hx179_0, hx179_1, hx179_2, hx179_3, hl179_3, hi179_3⟩ := at_T46 HR1.out x5_1 p179 q179
                  have hw179_3 := hx179_3
                  have hw179_2 := hx179_2
                  have hw179_1 := hx179_1
                  have hw179_0 := hx179_0
                  cases e179
                  replace hx179_0 := (HB.out.cell (World.block_lt_of_cell? w _ hx179_0)).trans hx179_0
                  replace hx179_1 := (HB.out.cell (World.block_lt_of_cell? w _ hx179_1)).trans hx179_1
                  replace hx179_2 := (HB.out.cell (World.block_lt_of_cell? w _ hx179_2)).trans hx179_2
                  replace hx179_3 := (HB.out.cell (World.block_lt_of_cell? w _ hx179_3)).trans hx179_3
                  have HR179_3 := Aside0.mk hi179_3
                  have HC179_3 := Aside0.mk hl179_3
                  clear hi179_3 hl179_3
                  replace p179 := eq_true p179
                  replace q179 := eq_true q179
                  refine start_ (n := 12) (S := fun w' => w'.cell? (ad178.add ((x5_1).toNat * 4)) = some (.string ((rd_T46 l0 x5_1).f0)) ∧ w'.cell? ⟨(ad178.add ((x5_1).toNat * 4)).block, (ad178.add ((x5_1).toNat * 4)).off + 1, none⟩ = some (.string ((rd_T46 l0 x5_1).f1.f0)) ∧ w'.cell? ⟨(ad178.add ((x5_1).toNat * 4)).block, (ad178.add ((x5_1).toNat * 4)).off + 2, none⟩ = some (.int .i64 ((rd_T46 l0 x5_1).f1.f1)) ∧ w'.cell? ⟨(ad178.add ((x5_1).toNat * 4)).block, (ad178.add ((x5_1).toNat * 4)).off + 3, none⟩ = some (.slice A178_3 ((rd_T46 l0 x5_1).f1.f2).length c178_3) ∧ w'.cell? (ad179.add ((x5_1).toNat * 4)) = some (.string ((rd_T46 l1 x5_1).f0)) ∧ w'.cell? ⟨(ad179.add ((x5_1).toNat * 4)).block, (ad179.add ((x5_1).toNat * 4)).off + 1, none⟩ = some (.string ((rd_T46 l1 x5_1).f1.f0)) ∧ w'.cell? ⟨(ad179.add ((x5_1).toNat * 4)).block, (ad179.add ((x5_1).toNat * 4)).off + 2, none⟩ = some (.int .i64 ((rd_T46 l1 x5_1).f1.f1)) ∧ w'.cell? ⟨(ad179.add ((x5_1).toNat * 4)).block, (ad179.add ((x5_1).toNat * 4)).off + 3, none⟩ = some (.slice A179_3 ((rd_T46 l1 x5_1).f1.f2).length c179_3)) (ds := []) #[false, false, false, false, false, false, false, false, false, false, false, false] (by kernel_rfl) rfl rfl ⟨((HB.out.cell (World.block_lt_of_cell? w _ hw178_0)).trans hw178_0), ((HB.out.cell (World.block_lt_of_cell? w _ hw178_1)).trans hw178_1), ((HB.out.cell (World.block_lt_of_cell? w _ hw178_2)).trans hw178_2), ((HB.out.cell (World.block_lt_of_cell? w _ hw178_3)).trans hw178_3), ((HB.out.cell (World.block_lt_of_cell? w _ hw179_0)).trans hw179_0), ((HB.out.cell (World.block_lt_of_cell? w _ hw179_1)).trans hw179_1), ((HB.out.cell (World.block_lt_of_cell? w _ hw179_2)).trans hw179_2), ((HB.out.cell (World.block_lt_of_cell? w _ hw179_3)).trans hw179_3)⟩ (fun hHeld => ?_); refine with_tabW amalgamlaw05_same.tab6 amalgamlaw05_same.bits6 (fun HT_ HW_ => ?_)
                  generalize wr.drew = w10 at HB HR178_3 HR179_3 hx178_0 hx178_1 hx178_2 hx178_3 hx179_0 hx179_1 hx179_2 hx179_3 hHeld ⊢
                  refine pure_ (i := 0) (N := some 18) (v := ?_) (a' := ?_) #[true, false, false, false, false, false, false, false, false, false, false, false] rfl rfl (any_of HT_.out (by kernel_rfl)) (fun _ _ _ h => h) (Or.inl ⟨by rfl, ?_⟩) ?_ ?_
                  rotate_left
                  · intro w'
                    go_simp
                    first | (with_reducible rfl) | (rw [if_neg (by simp only [decide_eq_true_eq, ByteArray.size_append] at *; omega)])
                  rotate_left
                  · simp only [Act.put, List.setIfInBounds_toArray, List.set_cons_zero, List.set_cons_succ, i64_w, i32_w]
                    rfl
                  refine pure_ (i := 1) (N := some 19) (v := ?_) (a' := ?_) #[true, true, false, false, false, false, false, false, false, false, false, false] rfl rfl (any_of HT_.out (by kernel_rfl)) (fun _ _ _ h => h) (Or.inl ⟨by rfl, ?_⟩) ?_ ?_
                  rotate_left
                  · intro w'
                    go_simp
                    first | (with_reducible rfl) | (rw [if_neg (by simp only [decide_eq_true_eq, ByteArray.size_append] at *; omega)])
                  rotate_left
                  · simp only [Act.put, List.setIfInBounds_toArray, List.set_cons_zero, List.set_cons_succ, i64_w, i32_w]
                    rfl
                  refine pure_ (i := 2) (N := some 20) (v := ?_) (a' := ?_) #[true, true, true, false, false, false, false, false, false, false, false, false] rfl rfl (any_of HT_.out (by kernel_rfl)) (fun _ _ _ h => h) (Or.inl ⟨by rfl, ?_⟩) ?_ ?_
                  rotate_left
                  · intro w'
                    go_simp
                    first | (with_reducible rfl) | (rw [if_neg (by simp only [decide_eq_true_eq, ByteArray.size_append] at *; omega)])
                  rotate_left
                  · simp only [Act.put, List.setIfInBounds_toArray, List.set_cons_zero, List.set_cons_succ, i64_w, i32_w]
                    rfl
                  refine pure_ (i := 3) (N := some 21) (v := ?_) (a' := ?_) #[true, true, true, true, false, false, false, false, false, false, false, false] rfl rfl (any_of HT_.out (by kernel_rfl)) (fun _ _ _ h => h) (Or.inl ⟨by rfl, ?_⟩) ?_ ?_
                  rotate_left
                  · intro w'
                    go_simp
                    first | (with_reducible rfl) | (rw [if_neg (by simp only [decide_eq_true_eq, ByteArray.size_append] at *; omega)])
                  rotate_left
                  · simp only [Act.put, List.setIfInBounds_toArray, List.set_cons_zero, List.set_cons_succ, i64_w, i32_w]
                    rfl
                  refine pure_ (i := 5) (N := some 23) (v := ?_) (a' := ?_) #[true, true, true, true, false, true, false, false, false, false, false, false] rfl rfl (any_of HT_.out (by kernel_rfl)) (fun _ _ _ h => h) (Or.inl ⟨by rfl, ?_⟩) ?_ ?_
                  rotate_left
                  · intro w'
                    go_simp
                    first | (with_reducible rfl) | (rw [if_neg (by simp only [decide_eq_true_eq, ByteArray.size_append] at *; omega)])
                  rotate_left
                  · simp only [Act.put, List.setIfInBounds_toArray, List.set_cons_zero, List.set_cons_succ, i64_w, i32_w]
                    rfl
                  refine pure_ (i := 6) (N := some 24) (v := ?_) (a' := ?_) #[true, true, true, true, false, true, true, false, false, false, false, false] rfl rfl (any_of HT_.out (by kernel_rfl)) (fun _ _ _ h => h) (Or.inl ⟨by rfl, ?_⟩) ?_ ?_
                  rotate_left
                  · intro w'
                    go_simp
                    first | (with_reducible rfl) | (rw [if_neg (by simp only [decide_eq_true_eq, ByteArray.size_append] at *; omega)])
                  rotate_left
                  · simp only [Act.put, List.setIfInBounds_toArray, List.set_cons_zero, List.set_cons_succ, i64_w, i32_w]
                    rfl
                  refine pure_ (i := 7) (N := some 25) (v := ?_) (a' := ?_) #[true, true, true, true, false, true, true, true, false, false, false, false] rfl rfl (any_of HT_.out (by kernel_rfl)) (fun _ _ _ h => h) (Or.inl ⟨by rfl, ?_⟩) ?_ ?_
                  rotate_left
                  · intro w'
                    go_simp
                    first | (with_reducible rfl) | (rw [if_neg (by simp only [decide_eq_true_eq, ByteArray.size_append] at *; omega)])
                  rotate_left
                  · simp only [Act.put, List.setIfInBounds_toArray, List.set_cons_zero, List.set_cons_succ, i64_w, i32_w]
                    rfl
                  refine pure_ (i := 8) (N := some 26) (v := ?_) (a' := ?_) #[true, true, true, true, false, true, true, true, true, false, false, false] rfl rfl (any_of HT_.out (by kernel_rfl)) (fun _ _ _ h => h) (Or.inl ⟨by rfl, ?_⟩) ?_ ?_
                  rotate_left
                  · intro w'
                    go_simp
                    first | (with_reducible rfl) | (rw [if_neg (by simp only [decide_eq_true_eq, ByteArray.size_append] at *; omega)])
                  rotate_left
                  · simp only [Act.put, List.setIfInBounds_toArray, List.set_cons_zero, List.set_cons_succ, i64_w, i32_w]
                    rfl
                  refine take_ (i := 4) (N := some 22) (v := ?_) (a' := ?_) #[true, true, true, true, true, true, true, true, true, false, false, false] rfl rfl (take_ofW HT_.out HW_.out (by kernel_rfl)) (fun _ _ _ h => h) (Or.inl ⟨by rfl, ?_⟩) hHeld ?_ ?_
                  rotate_left
                  · rintro w' ⟨s0, s1, s2, s3, s4, s5, s6, s7⟩
                    go_simp
                    first | (with_reducible rfl) | (rw [if_neg (by simp only [decide_eq_true_eq, ByteArray.size_append] at *; omega)])
                  rotate_left
                  · simp only [Act.put, List.setIfInBounds_toArray, List.set_cons_zero, List.set_cons_succ, i64_w, i32_w]
                    rfl
                  refine take_ (i := 9) (N := some 27) (v := ?_) (a' := ?_) #[true, true, true, true, true, true, true, true, true, true, false, false] rfl rfl (take_ofW HT_.out HW_.out (by kernel_rfl)) (fun _ _ _ h => h) (Or.inl ⟨by rfl, ?_⟩) hHeld ?_ ?_
                  rotate_left
                  · rintro w' ⟨s0, s1, s2, s3, s4, s5, s6, s7⟩
                    go_simp
                    first | (with_reducible rfl) | (rw [if_neg (by simp only [decide_eq_true_eq, ByteArray.size_append] at *; omega)])
                  rotate_left
                  · simp only [Act.put, List.setIfInBounds_toArray, List.set_cons_zero, List.set_cons_succ, i64_w, i32_w]
                    rfl
                  refine one_ (i := 10) (N := some 28) #[true, true, true, true, true, true, true, true, true, true, true, false] rfl rfl (one_of HT_.out (by kernel_rfl)) (by decide) (fun K hK => ?_)
                  refine goes_ Try.func8 (by kernel_rfl) rfl #[.agg #[.string ((rd_T46 l0 x5_1).f1.f0), .int .i64 ((rd_T46 l0 x5_1).f1.f1), .slice A178_3 ((rd_T46 l0 x5_1).f1.f2).length c178_3], .agg #[.string ((rd_T46 l1 x5_1).f1.f0), .int .i64 ((rd_T46 l1 x5_1).f1.f1), .slice A179_3 ((rd_T46 l1 x5_1).f1.f2).length c179_3]] (by rfl) rfl rfl (by (try simp only [List.map_toArray, List.map_cons, List.map_nil]); first | done | rfl | (simp only [List.length_drop, List.length_take]; rfl)) ?_
                  with_reducible refine (amalgamref03_Exact.calls k1 ((rd_T46 l0 x5_1).f1.f0) ((rd_T46 l0 x5_1).f1.f1) _ _ ((rd_T46 l0 x5_1).f1.f2) ((rd_T46 l1 x5_1).f1.f0) ((rd_T46 l1 x5_1).f1.f1) _ _ ((rd_T46 l1 x5_1).f1.f2) true _ ?side1 ?side2 ?side3 ?side4 A7.out).mono ?_
                  (case side1 => repeat (first | exact (Kd.C_below HR178_3.out HB.out) | (with_reducible refine Kd.C_alloc ?_ _) | (with_reducible refine Kd.C_drewN ?_ _) | (with_reducible refine Kd.C_drew ?_)))
                  (case side2 => exact HC178_3.out)
                  (case side3 => repeat (first | exact (Kd.C_below HR179_3.out HB.out) | (with_reducible refine Kd.C_alloc ?_ _) | (with_reducible refine Kd.C_drewN ?_ _) | (with_reducible refine Kd.C_drew ?_)))
                  (case side4 => exact HC179_3.out)
                  rintro e w11 ⟨rfl, hb⟩
                  refine ⟨_, rfl, ?_⟩
                  have n0_ := Aside0.mk (below_step (by repeat (first | (with_reducible first | exact HB.out | apply below_alloc | apply pw_below_drewN | apply below_drew1) | exact HB.out)) hb)
                  clear HB
                  have HB := n0_
                  clear n0_
                  (try clear hb)
                  (try clear hb2)
                  (try clear hk)
                  (try clear hi)
                  refine hK.out _ _ ⟨((HB.out.cell (World.block_lt_of_cell? w _ hw178_0)).trans hw178_0), ((HB.out.cell (World.block_lt_of_cell? w _ hw178_1)).trans hw178_1), ((HB.out.cell (World.block_lt_of_cell? w _ hw178_2)).trans hw178_2), ((HB.out.cell (World.block_lt_of_cell? w _ hw178_3)).trans hw178_3), ((HB.out.cell (World.block_lt_of_cell? w _ hw179_0)).trans hw179_0), ((HB.out.cell (World.block_lt_of_cell? w _ hw179_1)).trans hw179_1), ((HB.out.cell (World.block_lt_of_cell? w _ hw179_2)).trans hw179_2), ((HB.out.cell (World.block_lt_of_cell? w _ hw179_3)).trans hw179_3)⟩ (fun hHeld => ?_)
                  clear hK K
                  refine norm_ (a' := ?_) ?_ ?_
                  rotate_left
                  · show Act.put _ (some 28) _ = _
                    simp only [Act.put, List.setIfInBounds_toArray, List.set_cons_zero, List.set_cons_succ, i64_w, i32_w]
                    rfl
                  refine pure_ (i := 11) (N := some 6) (v := ?_) (a' := ?_) #[true, true, true, true, true, true, true, true, true, true, true, true] rfl rfl (any_of HT_.out (by kernel_rfl)) (fun _ _ _ h => h) (Or.inl ⟨by rfl, ?_⟩) ?_ ?_
                  rotate_left
                  · intro w'
                    go_simp
                    first | (with_reducible rfl) | (rw [if_neg (by simp only [decide_eq_true_eq, ByteArray.size_append] at *; omega)])
                  rotate_left
                  · simp only [Act.put, List.setIfInBounds_toArray, List.set_cons_zero, List.set_cons_succ, i64_w, i32_w]
                    rfl
                  refine done_ (done_of HT_.out (by kernel_rfl)) ?_
                  try go_wp2
                  have n0_ := Aside0.mk (below_drew1 HB.out)
                  clear HB
                  have HB := n0_
                  clear n0_
                  have p181 : 0 ≤ (x5_1 : Int) := of_decide_eq_true (by first | (with_reducible assumption) | assumption)
                  have q181 : x5_1 < (l0.length : Int) := of_decide_eq_true (by first | (with_reducible assumption) | assumption)
                  obtain ⟨ad181, A181_3, c181_3, e181, hx181_0, hx181_1, hx181_2, hx181_3, hl181_3, hi181_3⟩ := at_T46 HR0.out x5_1 p181 q181
                  have hw181_3 := hx181_3
                  have hw181_2 := hx181_2
                  have hw181_1 := hx181_1
                  have hw181_0 := hx181_0
                  obtain rfl : ad178 = ad181 := (by injection e181)
                  replace hx181_0 := (HB.out.cell (World.block_lt_of_cell? w _ hx181_0)).trans hx181_0
                  replace hx181_1 := (HB.out.cell (World.block_lt_of_cell? w _ hx181_1)).trans hx181_1
                  replace hx181_2 := (HB.out.cell (World.block_lt_of_cell? w _ hx181_2)).trans hx181_2
                  replace hx181_3 := (HB.out.cell (World.block_lt_of_cell? w _ hx181_3)).trans hx181_3
                  have HR181_3 := Aside0.mk hi181_3
                  have HC181_3 := Aside0.mk hl181_3
                  clear hi181_3 hl181_3
                  replace p181 := eq_true p181
                  replace q181 := eq_true q181
                  have p182 : 0 ≤ (x5_1 : Int) := of_decide_eq_true (by first | (with_reducible assumption) | assumption)
                  have q182 : x5_1 < (l1.length : Int) := of_decide_eq_true (by first | (with_reducible assumption) | assumption)
                  obtain ⟨ad182, A182_3, c182_3, e182, hx182_0, hx182_1, hx182_2, hx182_3, hl182_3, hi182_3⟩ := at_T46 HR1.out x5_1 p182 q182
                  have hw182_3 := hx182_3
                  have hw182_2 := hx182_2
                  have hw182_1 := hx182_1
                  have hw182_0 := hx182_0
                  obtain rfl : ad179 = ad182 := (by injection e182)
                  replace hx182_0 := (HB.out.cell (World.block_lt_of_cell? w _ hx182_0)).trans hx182_0
                  replace hx182_1 := (HB.out.cell (World.block_lt_of_cell? w _ hx182_1)).trans hx182_1
                  replace hx182_2 := (HB.out.cell (World.block_lt_of_cell? w _ hx182_2)).trans hx182_2
                  replace hx182_3 := (HB.out.cell (World.block_lt_of_cell? w _ hx182_3)).trans hx182_3
                  have HR182_3 := Aside0.mk hi182_3
                  have HC182_3 := Aside0.mk hl182_3
                  clear hi182_3 hl182_3
                  replace p182 := eq_true p182
                  replace q182 := eq_true q182
                  refine start_ (n := 15) (S := fun w' => w'.cell? (ad178.add ((x5_1).toNat * 4)) = some (.string ((rd_T46 l0 x5_1).f0)) ∧ w'.cell? ⟨(ad178.add ((x5_1).toNat * 4)).block, (ad178.add ((x5_1).toNat * 4)).off + 1, none⟩ = some (.string ((rd_T46 l0 x5_1).f1.f0)) ∧ w'.cell? ⟨(ad178.add ((x5_1).toNat * 4)).block, (ad178.add ((x5_1).toNat * 4)).off + 2, none⟩ = some (.int .i64 ((rd_T46 l0 x5_1).f1.f1)) ∧ w'.cell? ⟨(ad178.add ((x5_1).toNat * 4)).block, (ad178.add ((x5_1).toNat * 4)).off + 3, none⟩ = some (.slice A181_3 ((rd_T46 l0 x5_1).f1.f2).length c181_3) ∧ w'.cell? (ad179.add ((x5_1).toNat * 4)) = some (.string ((rd_T46 l1 x5_1).f0)) ∧ w'.cell? ⟨(ad179.add ((x5_1).toNat * 4)).block, (ad179.add ((x5_1).toNat * 4)).off + 1, none⟩ = some (.string ((rd_T46 l1 x5_1).f1.f0)) ∧ w'.cell? ⟨(ad179.add ((x5_1).toNat * 4)).block, (ad179.add ((x5_1).toNat * 4)).off + 2, none⟩ = some (.int .i64 ((rd_T46 l1 x5_1).f1.f1)) ∧ w'.cell? ⟨(ad179.add ((x5_1).toNat * 4)).block, (ad179.add ((x5_1).toNat * 4)).off + 3, none⟩ = some (.slice A182_3 ((rd_T46 l1 x5_1).f1.f2).length c182_3)) (ds := []) #[false, false, false, false, false, false, false, false, false, false, false, false, false, false, false] (by kernel_rfl) rfl rfl ⟨((HB.out.cell (World.block_lt_of_cell? w _ hw181_0)).trans hw181_0), ((HB.out.cell (World.block_lt_of_cell? w _ hw181_1)).trans hw181_1), ((HB.out.cell (World.block_lt_of_cell? w _ hw181_2)).trans hw181_2), ((HB.out.cell (World.block_lt_of_cell? w _ hw181_3)).trans hw181_3), ((HB.out.cell (World.block_lt_of_cell? w _ hw182_0)).trans hw182_0), ((HB.out.cell (World.block_lt_of_cell? w _ hw182_1)).trans hw182_1), ((HB.out.cell (World.block_lt_of_cell? w _ hw182_2)).trans hw182_2), ((HB.out.cell (World.block_lt_of_cell? w _ hw182_3)).trans hw182_3)⟩ (fun hHeld => ?_); refine with_tabW amalgamlaw05_same.tab7 amalgamlaw05_same.bits7 (fun HT_ HW_ => ?_)
                  generalize w11.drew = w12 at HB HR181_3 HR182_3 hx181_0 hx181_1 hx181_2 hx181_3 hx182_0 hx182_1 hx182_2 hx182_3 hHeld ⊢
                  refine pure_ (i := 0) (N := some 29) (v := ?_) (a' := ?_) #[true, false, false, false, false, false, false, false, false, false, false, false, false, false, false] rfl rfl (any_of HT_.out (by kernel_rfl)) (fun _ _ _ h => h) (Or.inl ⟨by rfl, ?_⟩) ?_ ?_
                  rotate_left
                  · intro w'
                    go_simp
                    first | (with_reducible rfl) | (rw [if_neg (by simp only [decide_eq_true_eq, ByteArray.size_append] at *; omega)])
                  rotate_left
                  · simp only [Act.put, List.setIfInBounds_toArray, List.set_cons_zero, List.set_cons_succ, i64_w, i32_w]
                    rfl
                  refine pure_ (i := 1) (N := some 30) (v := ?_) (a' := ?_) #[true, true, false, false, false, false, false, false, false, false, false, false, false, false, false] rfl rfl (any_of HT_.out (by kernel_rfl)) (fun _ _ _ h => h) (Or.inl ⟨by rfl, ?_⟩) ?_ ?_
                  rotate_left
                  · intro w'
                    go_simp
                    first | (with_reducible rfl) | (rw [if_neg (by simp only [decide_eq_true_eq, ByteArray.size_append] at *; omega)])
                  rotate_left
                  · simp only [Act.put, List.setIfInBounds_toArray, List.set_cons_zero, List.set_cons_succ, i64_w, i32_w]
                    rfl
                  refine pure_ (i := 2) (N := some 31) (v := ?_) (a' := ?_) #[true, true, true, false, false, false, false, false, false, false, false, false, false, false, false] rfl rfl (any_of HT_.out (by kernel_rfl)) (fun _ _ _ h => h) (Or.inl ⟨by rfl, ?_⟩) ?_ ?_
                  rotate_left
                  · intro w'
                    go_simp
                    first | (with_reducible rfl) | (rw [if_neg (by simp only [decide_eq_true_eq, ByteArray.size_append] at *; omega)])
                  rotate_left
                  · simp only [Act.put, List.setIfInBounds_toArray, List.set_cons_zero, List.set_cons_succ, i64_w, i32_w]
                    rfl
                  refine pure_ (i := 3) (N := some 32) (v := ?_) (a' := ?_) #[true, true, true, true, false, false, false, false, false, false, false, false, false, false, false] rfl rfl (any_of HT_.out (by kernel_rfl)) (fun _ _ _ h => h) (Or.inl ⟨by rfl, ?_⟩) ?_ ?_
                  rotate_left
                  · intro w'
                    go_simp
                    first | (with_reducible rfl) | (rw [if_neg (by simp only [decide_eq_true_eq, ByteArray.size_append] at *; omega)])
                  rotate_left
                  · simp only [Act.put, List.setIfInBounds_toArray, List.set_cons_zero, List.set_cons_succ, i64_w, i32_w]
                    rfl
                  refine pure_ (i := 4) (N := some 33) (v := ?_) (a' := ?_) #[true, true, true, true, true, false, false, false, false, false, false, false, false, false, false] rfl rfl (any_of HT_.out (by kernel_rfl)) (fun _ _ _ h => h) (Or.inl ⟨by rfl, ?_⟩) ?_ ?_
                  rotate_left
                  · intro w'
                    go_simp
                    first | (with_reducible rfl) | (rw [if_neg (by simp only [decide_eq_true_eq, ByteArray.size_append] at *; omega)])
                  rotate_left
                  · simp only [Act.put, List.setIfInBounds_toArray, List.set_cons_zero, List.set_cons_succ, i64_w, i32_w]
                    rfl
                  refine pure_ (i := 5) (N := some 34) (v := ?_) (a' := ?_) #[true, true, true, true, true, true, false, false, false, false, false, false, false, false, false] rfl rfl (any_of HT_.out (by kernel_rfl)) (fun _ _ _ h => h) (Or.inl ⟨by rfl, ?_⟩) ?_ ?_
                  rotate_left
                  · intro w'
                    go_simp
                    first | (with_reducible rfl) | (rw [if_neg (by simp only [decide_eq_true_eq, ByteArray.size_append] at *; omega)])
                  rotate_left
                  · simp only [Act.put, List.setIfInBounds_toArray, List.set_cons_zero, List.set_cons_succ, i64_w, i32_w]
                    rfl
                  refine pure_ (i := 6) (N := some 35) (v := ?_) (a' := ?_) #[true, true, true, true, true, true, true, false, false, false, false, false, false, false, false] rfl rfl (any_of HT_.out (by kernel_rfl)) (fun _ _ _ h => h) (Or.inl ⟨by rfl, ?_⟩) ?_ ?_
                  rotate_left
                  · intro w'
                    go_simp
                    first | (with_reducible rfl) | (rw [if_neg (by simp only [decide_eq_true_eq, ByteArray.size_append] at *; omega)])
                  rotate_left
                  · simp only [Act.put, List.setIfInBounds_toArray, List.set_cons_zero, List.set_cons_succ, i64_w, i32_w]
                    rfl
                  refine pure_ (i := 8) (N := some 37) (v := ?_) (a' := ?_) #[true, true, true, true, true, true, true, false, true, false, false, false, false, false, false] rfl rfl (any_of HT_.out (by kernel_rfl)) (fun _ _ _ h => h) (Or.inl ⟨by rfl, ?_⟩) ?_ ?_
                  rotate_left
                  · intro w'
                    go_simp
                    first | (with_reducible rfl) | (rw [if_neg (by simp only [decide_eq_true_eq, ByteArray.size_append] at *; omega)])
                  rotate_left
                  · simp only [Act.put, List.setIfInBounds_toArray, List.set_cons_zero, List.set_cons_succ, i64_w, i32_w]
                    rfl
                  refine pure_ (i := 9) (N := some 38) (v := ?_) (a' := ?_) #[true, true, true, true, true, true, true, false, true, true, false, false, false, false, false] rfl rfl (any_of HT_.out (by kernel_rfl)) (fun _ _ _ h => h) (Or.inl ⟨by rfl, ?_⟩) ?_ ?_
                  rotate_left
                  · intro w'
                    go_simp
                    first | (with_reducible rfl) | (rw [if_neg (by simp only [decide_eq_true_eq, ByteArray.size_append] at *; omega)])
                  rotate_left
                  · simp only [Act.put, List.setIfInBounds_toArray, List.set_cons_zero, List.set_cons_succ, i64_w, i32_w]
                    rfl
                  refine pure_ (i := 10) (N := some 39) (v := ?_) (a' := ?_) #[true, true, true, true, true, true, true, false, true, true, true, false, false, false, false] rfl rfl (any_of HT_.out (by kernel_rfl)) (fun _ _ _ h => h) (Or.inl ⟨by rfl, ?_⟩) ?_ ?_
                  rotate_left
                  · intro w'
                    go_simp
                    first | (with_reducible rfl) | (rw [if_neg (by simp only [decide_eq_true_eq, ByteArray.size_append] at *; omega)])
                  rotate_left
                  · simp only [Act.put, List.setIfInBounds_toArray, List.set_cons_zero, List.set_cons_succ, i64_w, i32_w]
                    rfl
                  refine pure_ (i := 11) (N := some 40) (v := ?_) (a' := ?_) #[true, true, true, true, true, true, true, false, true, true, true, true, false, false, false] rfl rfl (any_of HT_.out (by kernel_rfl)) (fun _ _ _ h => h) (Or.inl ⟨by rfl, ?_⟩) ?_ ?_
                  rotate_left
                  · intro w'
                    go_simp
                    first | (with_reducible rfl) | (rw [if_neg (by simp only [decide_eq_true_eq, ByteArray.size_append] at *; omega)])
                  rotate_left
                  · simp only [Act.put, List.setIfInBounds_toArray, List.set_cons_zero, List.set_cons_succ, i64_w, i32_w]
                    rfl
                  refine take_ (i := 7) (N := some 36) (v := ?_) (a' := ?_) #[true, true, true, true, true, true, true, true, true, true, true, true, false, false, false] rfl rfl (take_ofW HT_.out HW_.out (by kernel_rfl)) (fun _ _ _ h => h) (Or.inl ⟨by rfl, ?_⟩) hHeld ?_ ?_
                  rotate_left
                  · rintro w' ⟨s0, s1, s2, s3, s4, s5, s6, s7⟩
                    go_simp
                    first | (with_reducible rfl) | (rw [if_neg (by simp only [decide_eq_true_eq, ByteArray.size_append] at *; omega)])
                  rotate_left
                  · simp only [Act.put, List.setIfInBounds_toArray, List.set_cons_zero, List.set_cons_succ, i64_w, i32_w]
                    rfl
                  refine take_ (i := 12) (N := some 41) (v := ?_) (a' := ?_) #[true, true, true, true, true, true, true, true, true, true, true, true, true, false, false] rfl rfl (take_ofW HT_.out HW_.out (by kernel_rfl)) (fun _ _ _ h => h) (Or.inl ⟨by rfl, ?_⟩) hHeld ?_ ?_
                  rotate_left
                  · rintro w' ⟨s0, s1, s2, s3, s4, s5, s6, s7⟩
                    go_simp
                    first | (with_reducible rfl) | (rw [if_neg (by simp only [decide_eq_true_eq, ByteArray.size_append] at *; omega)])
                  rotate_left
                  · simp only [Act.put, List.setIfInBounds_toArray, List.set_cons_zero, List.set_cons_succ, i64_w, i32_w]
                    rfl
                  refine pure_ (i := 13) (N := some 42) (v := ?_) (a' := ?_) #[true, true, true, true, true, true, true, true, true, true, true, true, true, true, false] rfl rfl (any_of HT_.out (by kernel_rfl)) (fun _ _ _ h => h) (Or.inl ⟨by rfl, ?_⟩) ?_ ?_
                  rotate_left
                  · intro w'
                    go_simp
                    first | (with_reducible rfl) | (rw [if_neg (by simp only [decide_eq_true_eq, ByteArray.size_append] at *; omega)])
                  rotate_left
                  · simp only [Act.put, List.setIfInBounds_toArray, List.set_cons_zero, List.set_cons_succ, i64_w, i32_w]
                    rfl
                  refine pure_ (i := 14) (N := some 43) (v := ?_) (a' := ?_) #[true, true, true, true, true, true, true, true, true, true, true, true, true, true, true] rfl rfl (any_of HT_.out (by kernel_rfl)) (fun _ _ _ h => h) (Or.inl ⟨by rfl, ?_⟩) ?_ ?_
                  rotate_left
                  · intro w'
                    go_simp
                    first | (with_reducible rfl) | (rw [if_neg (by simp only [decide_eq_true_eq, ByteArray.size_append] at *; omega)])
                  rotate_left
                  · simp only [Act.put, List.setIfInBounds_toArray, List.set_cons_zero, List.set_cons_succ, i64_w, i32_w]
                    rfl
                  refine done_ (done_of HT_.out (by kernel_rfl)) ?_
                  try go_wp2
                  go_roundg k1
                  case measure => have := HK1.out; omega
                  case rel => exact ⟨(wrap64 (x5_1 + 1)), (by first | rfl | (simp; done) | (simp [*]; done)), H', ⟨by have := HK1.out; omega⟩, ⟨by repeat (first | (with_reducible first | exact HB.out | apply below_alloc | apply pw_below_drewN | apply below_drew1) | exact HB.out)⟩⟩
                · rw [if_neg c9] at H
                  have c9b0 : (((rd_T46 l0 x5_1).f0).toList == ((rd_T46 l1 x5_1).f0).toList) = false := beq_eq_false_iff_ne.mpr c9
                  have c9b1 : (((rd_T46 l0 x5_1).f0).toList != ((rd_T46 l1 x5_1).f0).toList) = true := bne_iff_ne.mpr c9
                  obtain rfl := Option.some.inj H
                  try go_wp2
                  have n0_ := Aside0.mk (below_drew1 HB.out)
                  clear HB
                  have HB := n0_
                  clear n0_
                  have p178 : 0 ≤ (x5_1 : Int) := of_decide_eq_true (by first | (with_reducible assumption) | assumption)
                  have q178 : x5_1 < (l0.length : Int) := of_decide_eq_true (by first | (with_reducible assumption) | assumption)
                  obtain ⟨ad178, A178_3, c178_3, e178, hx178_0, hx178_1, hx178_2, hx178_3, hl178_3, hi178_3⟩ := at_T46 HR0.out x5_1 p178 q178
                  have hw178_3 := hx178_3
                  have hw178_2 := hx178_2
                  have hw178_1 := hx178_1
                  have hw178_0 := hx178_0
                  cases e178
                  replace hx178_0 := (HB.out.cell (World.block_lt_of_cell? w _ hx178_0)).trans hx178_0
                  replace hx178_1 := (HB.out.cell (World.block_lt_of_cell? w _ hx178_1)).trans hx178_1
                  replace hx178_2 := (HB.out.cell (World.block_lt_of_cell? w _ hx178_2)).trans hx178_2
                  replace hx178_3 := (HB.out.cell (World.block_lt_of_cell? w _ hx178_3)).trans hx178_3
                  have HR178_3 := Aside0.mk hi178_3
                  have HC178_3 := Aside0.mk hl178_3
                  clear hi178_3 hl178_3
                  replace p178 := eq_true p178
                  replace q178 := eq_true q178
                  have p179 : 0 ≤ (x5_1 : Int) := of_decide_eq_true (by first | (with_reducible assumption) | assumption)
                  have q179 : x5_1 < (l1.length : Int) := of_decide_eq_true (by first | (with_reducible assumption) | assumption)
                  obtain ⟨ad179, A179_3, c179_3, e179, hx179_0, hx179_1, hx179_2, hx179_3, hl179_3, hi179_3⟩ := at_T46 HR1.out x5_1 p179 q179
                  have hw179_3 := hx179_3
                  have hw179_2 := hx179_2
                  have hw179_1 := hx179_1
                  have hw179_0 := hx179_0
                  cases e179
                  replace hx179_0 := (HB.out.cell (World.block_lt_of_cell? w _ hx179_0)).trans hx179_0
                  replace hx179_1 := (HB.out.cell (World.block_lt_of_cell? w _ hx179_1)).trans hx179_1
                  replace hx179_2 := (HB.out.cell (World.block_lt_of_cell? w _ hx179_2)).trans hx179_2
                  replace hx179_3 := (HB.out.cell (World.block_lt_of_cell? w _ hx179_3)).trans hx179_3
                  have HR179_3 := Aside0.mk hi179_3
                  have HC179_3 := Aside0.mk hl179_3
                  clear hi179_3 hl179_3
                  replace p179 := eq_true p179
                  replace q179 := eq_true q179
                  refine start_ (n := 12) (S := fun w' => w'.cell? (ad178.add ((x5_1).toNat * 4)) = some (.string ((rd_T46 l0 x5_1).f0)) ∧ w'.cell? ⟨(ad178.add ((x5_1).toNat * 4)).block, (ad178.add ((x5_1).toNat * 4)).off + 1, none⟩ = some (.string ((rd_T46 l0 x5_1).f1.f0)) ∧ w'.cell? ⟨(ad178.add ((x5_1).toNat * 4)).block, (ad178.add ((x5_1).toNat * 4)).off + 2, none⟩ = some (.int .i64 ((rd_T46 l0 x5_1).f1.f1)) ∧ w'.cell? ⟨(ad178.add ((x5_1).toNat * 4)).block, (ad178.add ((x5_1).toNat * 4)).off + 3, none⟩ = some (.slice A178_3 ((rd_T46 l0 x5_1).f1.f2).length c178_3) ∧ w'.cell? (ad179.add ((x5_1).toNat * 4)) = some (.string ((rd_T46 l1 x5_1).f0)) ∧ w'.cell? ⟨(ad179.add ((x5_1).toNat * 4)).block, (ad179.add ((x5_1).toNat * 4)).off + 1, none⟩ = some (.string ((rd_T46 l1 x5_1).f1.f0)) ∧ w'.cell? ⟨(ad179.add ((x5_1).toNat * 4)).block, (ad179.add ((x5_1).toNat * 4)).off + 2, none⟩ = some (.int .i64 ((rd_T46 l1 x5_1).f1.f1)) ∧ w'.cell? ⟨(ad179.add ((x5_1).toNat * 4)).block, (ad179.add ((x5_1).toNat * 4)).off + 3, none⟩ = some (.slice A179_3 ((rd_T46 l1 x5_1).f1.f2).length c179_3)) (ds := []) #[false, false, false, false, false, false, false, false, false, false, false, false] (by kernel_rfl) rfl rfl ⟨((HB.out.cell (World.block_lt_of_cell? w _ hw178_0)).trans hw178_0), ((HB.out.cell (World.block_lt_of_cell? w _ hw178_1)).trans hw178_1), ((HB.out.cell (World.block_lt_of_cell? w _ hw178_2)).trans hw178_2), ((HB.out.cell (World.block_lt_of_cell? w _ hw178_3)).trans hw178_3), ((HB.out.cell (World.block_lt_of_cell? w _ hw179_0)).trans hw179_0), ((HB.out.cell (World.block_lt_of_cell? w _ hw179_1)).trans hw179_1), ((HB.out.cell (World.block_lt_of_cell? w _ hw179_2)).trans hw179_2), ((HB.out.cell (World.block_lt_of_cell? w _ hw179_3)).trans hw179_3)⟩ (fun hHeld => ?_); refine with_tabW amalgamlaw05_same.tab6 amalgamlaw05_same.bits6 (fun HT_ HW_ => ?_)
                  generalize wr.drew = w13 at HB HR178_3 HR179_3 hx178_0 hx178_1 hx178_2 hx178_3 hx179_0 hx179_1 hx179_2 hx179_3 hHeld ⊢
                  refine pure_ (i := 0) (N := some 18) (v := ?_) (a' := ?_) #[true, false, false, false, false, false, false, false, false, false, false, false] rfl rfl (any_of HT_.out (by kernel_rfl)) (fun _ _ _ h => h) (Or.inl ⟨by rfl, ?_⟩) ?_ ?_
                  rotate_left
                  · intro w'
                    go_simp
                    first | (with_reducible rfl) | (rw [if_neg (by simp only [decide_eq_true_eq, ByteArray.size_append] at *; omega)])
                  rotate_left
                  · simp only [Act.put, List.setIfInBounds_toArray, List.set_cons_zero, List.set_cons_succ, i64_w, i32_w]
                    rfl
                  refine pure_ (i := 1) (N := some 19) (v := ?_) (a' := ?_) #[true, true, false, false, false, false, false, false, false, false, false, false] rfl rfl (any_of HT_.out (by kernel_rfl)) (fun _ _ _ h => h) (Or.inl ⟨by rfl, ?_⟩) ?_ ?_
                  rotate_left
                  · intro w'
                    go_simp
                    first | (with_reducible rfl) | (rw [if_neg (by simp only [decide_eq_true_eq, ByteArray.size_append] at *; omega)])
                  rotate_left
                  · simp only [Act.put, List.setIfInBounds_toArray, List.set_cons_zero, List.set_cons_succ, i64_w, i32_w]
                    rfl
                  refine pure_ (i := 2) (N := some 20) (v := ?_) (a' := ?_) #[true, true, true, false, false, false, false, false, false, false, false, false] rfl rfl (any_of HT_.out (by kernel_rfl)) (fun _ _ _ h => h) (Or.inl ⟨by rfl, ?_⟩) ?_ ?_
                  rotate_left
                  · intro w'
                    go_simp
                    first | (with_reducible rfl) | (rw [if_neg (by simp only [decide_eq_true_eq, ByteArray.size_append] at *; omega)])
                  rotate_left
                  · simp only [Act.put, List.setIfInBounds_toArray, List.set_cons_zero, List.set_cons_succ, i64_w, i32_w]
                    rfl
                  refine pure_ (i := 3) (N := some 21) (v := ?_) (a' := ?_) #[true, true, true, true, false, false, false, false, false, false, false, false] rfl rfl (any_of HT_.out (by kernel_rfl)) (fun _ _ _ h => h) (Or.inl ⟨by rfl, ?_⟩) ?_ ?_
                  rotate_left
                  · intro w'
                    go_simp
                    first | (with_reducible rfl) | (rw [if_neg (by simp only [decide_eq_true_eq, ByteArray.size_append] at *; omega)])
                  rotate_left
                  · simp only [Act.put, List.setIfInBounds_toArray, List.set_cons_zero, List.set_cons_succ, i64_w, i32_w]
                    rfl
                  refine pure_ (i := 5) (N := some 23) (v := ?_) (a' := ?_) #[true, true, true, true, false, true, false, false, false, false, false, false] rfl rfl (any_of HT_.out (by kernel_rfl)) (fun _ _ _ h => h) (Or.inl ⟨by rfl, ?_⟩) ?_ ?_
                  rotate_left
                  · intro w'
                    go_simp
                    first | (with_reducible rfl) | (rw [if_neg (by simp only [decide_eq_true_eq, ByteArray.size_append] at *; omega)])
                  rotate_left
                  · simp only [Act.put, List.setIfInBounds_toArray, List.set_cons_zero, List.set_cons_succ, i64_w, i32_w]
                    rfl
                  refine pure_ (i := 6) (N := some 24) (v := ?_) (a' := ?_) #[true, true, true, true, false, true, true, false, false, false, false, false] rfl rfl (any_of HT_.out (by kernel_rfl)) (fun _ _ _ h => h) (Or.inl ⟨by rfl, ?_⟩) ?_ ?_
                  rotate_left
                  · intro w'
                    go_simp
                    first | (with_reducible rfl) | (rw [if_neg (by simp only [decide_eq_true_eq, ByteArray.size_append] at *; omega)])
                  rotate_left
                  · simp only [Act.put, List.setIfInBounds_toArray, List.set_cons_zero, List.set_cons_succ, i64_w, i32_w]
                    rfl
                  refine pure_ (i := 7) (N := some 25) (v := ?_) (a' := ?_) #[true, true, true, true, false, true, true, true, false, false, false, false] rfl rfl (any_of HT_.out (by kernel_rfl)) (fun _ _ _ h => h) (Or.inl ⟨by rfl, ?_⟩) ?_ ?_
                  rotate_left
                  · intro w'
                    go_simp
                    first | (with_reducible rfl) | (rw [if_neg (by simp only [decide_eq_true_eq, ByteArray.size_append] at *; omega)])
                  rotate_left
                  · simp only [Act.put, List.setIfInBounds_toArray, List.set_cons_zero, List.set_cons_succ, i64_w, i32_w]
                    rfl
                  refine pure_ (i := 8) (N := some 26) (v := ?_) (a' := ?_) #[true, true, true, true, false, true, true, true, true, false, false, false] rfl rfl (any_of HT_.out (by kernel_rfl)) (fun _ _ _ h => h) (Or.inl ⟨by rfl, ?_⟩) ?_ ?_
                  rotate_left
                  · intro w'
                    go_simp
                    first | (with_reducible rfl) | (rw [if_neg (by simp only [decide_eq_true_eq, ByteArray.size_append] at *; omega)])
                  rotate_left
                  · simp only [Act.put, List.setIfInBounds_toArray, List.set_cons_zero, List.set_cons_succ, i64_w, i32_w]
                    rfl
                  refine take_ (i := 4) (N := some 22) (v := ?_) (a' := ?_) #[true, true, true, true, true, true, true, true, true, false, false, false] rfl rfl (take_ofW HT_.out HW_.out (by kernel_rfl)) (fun _ _ _ h => h) (Or.inl ⟨by rfl, ?_⟩) hHeld ?_ ?_
                  rotate_left
                  · rintro w' ⟨s0, s1, s2, s3, s4, s5, s6, s7⟩
                    go_simp
                    first | (with_reducible rfl) | (rw [if_neg (by simp only [decide_eq_true_eq, ByteArray.size_append] at *; omega)])
                  rotate_left
                  · simp only [Act.put, List.setIfInBounds_toArray, List.set_cons_zero, List.set_cons_succ, i64_w, i32_w]
                    rfl
                  refine take_ (i := 9) (N := some 27) (v := ?_) (a' := ?_) #[true, true, true, true, true, true, true, true, true, true, false, false] rfl rfl (take_ofW HT_.out HW_.out (by kernel_rfl)) (fun _ _ _ h => h) (Or.inl ⟨by rfl, ?_⟩) hHeld ?_ ?_
                  rotate_left
                  · rintro w' ⟨s0, s1, s2, s3, s4, s5, s6, s7⟩
                    go_simp
                    first | (with_reducible rfl) | (rw [if_neg (by simp only [decide_eq_true_eq, ByteArray.size_append] at *; omega)])
                  rotate_left
                  · simp only [Act.put, List.setIfInBounds_toArray, List.set_cons_zero, List.set_cons_succ, i64_w, i32_w]
                    rfl
                  refine one_ (i := 10) (N := some 28) #[true, true, true, true, true, true, true, true, true, true, true, false] rfl rfl (one_of HT_.out (by kernel_rfl)) (by decide) (fun K hK => ?_)
                  refine goes_ Try.func8 (by kernel_rfl) rfl #[.agg #[.string ((rd_T46 l0 x5_1).f1.f0), .int .i64 ((rd_T46 l0 x5_1).f1.f1), .slice A178_3 ((rd_T46 l0 x5_1).f1.f2).length c178_3], .agg #[.string ((rd_T46 l1 x5_1).f1.f0), .int .i64 ((rd_T46 l1 x5_1).f1.f1), .slice A179_3 ((rd_T46 l1 x5_1).f1.f2).length c179_3]] (by rfl) rfl rfl (by (try simp only [List.map_toArray, List.map_cons, List.map_nil]); first | done | rfl | (simp only [List.length_drop, List.length_take]; rfl)) ?_
                  with_reducible refine (amalgamref03_Exact.calls k1 ((rd_T46 l0 x5_1).f1.f0) ((rd_T46 l0 x5_1).f1.f1) _ _ ((rd_T46 l0 x5_1).f1.f2) ((rd_T46 l1 x5_1).f1.f0) ((rd_T46 l1 x5_1).f1.f1) _ _ ((rd_T46 l1 x5_1).f1.f2) true _ ?side1 ?side2 ?side3 ?side4 A7.out).mono ?_
                  (case side1 => repeat (first | exact (Kd.C_below HR178_3.out HB.out) | (with_reducible refine Kd.C_alloc ?_ _) | (with_reducible refine Kd.C_drewN ?_ _) | (with_reducible refine Kd.C_drew ?_)))
                  (case side2 => exact HC178_3.out)
                  (case side3 => repeat (first | exact (Kd.C_below HR179_3.out HB.out) | (with_reducible refine Kd.C_alloc ?_ _) | (with_reducible refine Kd.C_drewN ?_ _) | (with_reducible refine Kd.C_drew ?_)))
                  (case side4 => exact HC179_3.out)
                  rintro e w14 ⟨rfl, hb⟩
                  refine ⟨_, rfl, ?_⟩
                  have n0_ := Aside0.mk (below_step (by repeat (first | (with_reducible first | exact HB.out | apply below_alloc | apply pw_below_drewN | apply below_drew1) | exact HB.out)) hb)
                  clear HB
                  have HB := n0_
                  clear n0_
                  (try clear hb)
                  (try clear hb2)
                  (try clear hk)
                  (try clear hi)
                  refine hK.out _ _ ⟨((HB.out.cell (World.block_lt_of_cell? w _ hw178_0)).trans hw178_0), ((HB.out.cell (World.block_lt_of_cell? w _ hw178_1)).trans hw178_1), ((HB.out.cell (World.block_lt_of_cell? w _ hw178_2)).trans hw178_2), ((HB.out.cell (World.block_lt_of_cell? w _ hw178_3)).trans hw178_3), ((HB.out.cell (World.block_lt_of_cell? w _ hw179_0)).trans hw179_0), ((HB.out.cell (World.block_lt_of_cell? w _ hw179_1)).trans hw179_1), ((HB.out.cell (World.block_lt_of_cell? w _ hw179_2)).trans hw179_2), ((HB.out.cell (World.block_lt_of_cell? w _ hw179_3)).trans hw179_3)⟩ (fun hHeld => ?_)
                  clear hK K
                  refine norm_ (a' := ?_) ?_ ?_
                  rotate_left
                  · show Act.put _ (some 28) _ = _
                    simp only [Act.put, List.setIfInBounds_toArray, List.set_cons_zero, List.set_cons_succ, i64_w, i32_w]
                    rfl
                  refine pure_ (i := 11) (N := some 6) (v := ?_) (a' := ?_) #[true, true, true, true, true, true, true, true, true, true, true, true] rfl rfl (any_of HT_.out (by kernel_rfl)) (fun _ _ _ h => h) (Or.inl ⟨by rfl, ?_⟩) ?_ ?_
                  rotate_left
                  · intro w'
                    go_simp
                    first | (with_reducible rfl) | (rw [if_neg (by simp only [decide_eq_true_eq, ByteArray.size_append] at *; omega)])
                  rotate_left
                  · simp only [Act.put, List.setIfInBounds_toArray, List.set_cons_zero, List.set_cons_succ, i64_w, i32_w]
                    rfl
                  refine done_ (done_of HT_.out (by kernel_rfl)) ?_
                  try go_wp2
                  have n0_ := Aside0.mk (below_drew1 HB.out)
                  clear HB
                  have HB := n0_
                  clear n0_
                  have p181 : 0 ≤ (x5_1 : Int) := of_decide_eq_true (by first | (with_reducible assumption) | assumption)
                  have q181 : x5_1 < (l0.length : Int) := of_decide_eq_true (by first | (with_reducible assumption) | assumption)
                  obtain ⟨ad181, A181_3, c181_3, e181, hx181_0, hx181_1, hx181_2, hx181_3, hl181_3, hi181_3⟩ := at_T46 HR0.out x5_1 p181 q181
                  have hw181_3 := hx181_3
                  have hw181_2 := hx181_2
                  have hw181_1 := hx181_1
                  have hw181_0 := hx181_0
                  obtain rfl : ad178 = ad181 := (by injection e181)
                  replace hx181_0 := (HB.out.cell (World.block_lt_of_cell? w _ hx181_0)).trans hx181_0
                  replace hx181_1 := (HB.out.cell (World.block_lt_of_cell? w _ hx181_1)).trans hx181_1
                  replace hx181_2 := (HB.out.cell (World.block_lt_of_cell? w _ hx181_2)).trans hx181_2
                  replace hx181_3 := (HB.out.cell (World.block_lt_of_cell? w _ hx181_3)).trans hx181_3
                  have HR181_3 := Aside0.mk hi181_3
                  have HC181_3 := Aside0.mk hl181_3
                  clear hi181_3 hl181_3
                  replace p181 := eq_true p181
                  replace q181 := eq_true q181
                  have p182 : 0 ≤ (x5_1 : Int) := of_decide_eq_true (by first | (with_reducible assumption) | assumption)
                  have q182 : x5_1 < (l1.length : Int) := of_decide_eq_true (by first | (with_reducible assumption) | assumption)
                  obtain ⟨ad182, A182_3, c182_3, e182, hx182_0, hx182_1, hx182_2, hx182_3, hl182_3, hi182_3⟩ := at_T46 HR1.out x5_1 p182 q182
                  have hw182_3 := hx182_3
                  have hw182_2 := hx182_2
                  have hw182_1 := hx182_1
                  have hw182_0 := hx182_0
                  obtain rfl : ad179 = ad182 := (by injection e182)
                  replace hx182_0 := (HB.out.cell (World.block_lt_of_cell? w _ hx182_0)).trans hx182_0
                  replace hx182_1 := (HB.out.cell (World.block_lt_of_cell? w _ hx182_1)).trans hx182_1
                  replace hx182_2 := (HB.out.cell (World.block_lt_of_cell? w _ hx182_2)).trans hx182_2
                  replace hx182_3 := (HB.out.cell (World.block_lt_of_cell? w _ hx182_3)).trans hx182_3
                  have HR182_3 := Aside0.mk hi182_3
                  have HC182_3 := Aside0.mk hl182_3
                  clear hi182_3 hl182_3
                  replace p182 := eq_true p182
                  replace q182 := eq_true q182
                  refine start_ (n := 15) (S := fun w' => w'.cell? (ad178.add ((x5_1).toNat * 4)) = some (.string ((rd_T46 l0 x5_1).f0)) ∧ w'.cell? ⟨(ad178.add ((x5_1).toNat * 4)).block, (ad178.add ((x5_1).toNat * 4)).off + 1, none⟩ = some (.string ((rd_T46 l0 x5_1).f1.f0)) ∧ w'.cell? ⟨(ad178.add ((x5_1).toNat * 4)).block, (ad178.add ((x5_1).toNat * 4)).off + 2, none⟩ = some (.int .i64 ((rd_T46 l0 x5_1).f1.f1)) ∧ w'.cell? ⟨(ad178.add ((x5_1).toNat * 4)).block, (ad178.add ((x5_1).toNat * 4)).off + 3, none⟩ = some (.slice A181_3 ((rd_T46 l0 x5_1).f1.f2).length c181_3) ∧ w'.cell? (ad179.add ((x5_1).toNat * 4)) = some (.string ((rd_T46 l1 x5_1).f0)) ∧ w'.cell? ⟨(ad179.add ((x5_1).toNat * 4)).block, (ad179.add ((x5_1).toNat * 4)).off + 1, none⟩ = some (.string ((rd_T46 l1 x5_1).f1.f0)) ∧ w'.cell? ⟨(ad179.add ((x5_1).toNat * 4)).block, (ad179.add ((x5_1).toNat * 4)).off + 2, none⟩ = some (.int .i64 ((rd_T46 l1 x5_1).f1.f1)) ∧ w'.cell? ⟨(ad179.add ((x5_1).toNat * 4)).block, (ad179.add ((x5_1).toNat * 4)).off + 3, none⟩ = some (.slice A182_3 ((rd_T46 l1 x5_1).f1.f2).length c182_3)) (ds := []) #[false, false, false, false, false, false, false, false, false, false, false, false, false, false, false] (by kernel_rfl) rfl rfl ⟨((HB.out.cell (World.block_lt_of_cell? w _ hw181_0)).trans hw181_0), ((HB.out.cell (World.block_lt_of_cell? w _ hw181_1)).trans hw181_1), ((HB.out.cell (World.block_lt_of_cell? w _ hw181_2)).trans hw181_2), ((HB.out.cell (World.block_lt_of_cell? w _ hw181_3)).trans hw181_3), ((HB.out.cell (World.block_lt_of_cell? w _ hw182_0)).trans hw182_0), ((HB.out.cell (World.block_lt_of_cell? w _ hw182_1)).trans hw182_1), ((HB.out.cell (World.block_lt_of_cell? w _ hw182_2)).trans hw182_2), ((HB.out.cell (World.block_lt_of_cell? w _ hw182_3)).trans hw182_3)⟩ (fun hHeld => ?_); refine with_tabW amalgamlaw05_same.tab7 amalgamlaw05_same.bits7 (fun HT_ HW_ => ?_)
                  generalize w14.drew = w15 at HB HR181_3 HR182_3 hx181_0 hx181_1 hx181_2 hx181_3 hx182_0 hx182_1 hx182_2 hx182_3 hHeld ⊢
                  refine pure_ (i := 0) (N := some 29) (v := ?_) (a' := ?_) #[true, false, false, false, false, false, false, false, false, false, false, false, false, false, false] rfl rfl (any_of HT_.out (by kernel_rfl)) (fun _ _ _ h => h) (Or.inl ⟨by rfl, ?_⟩) ?_ ?_
                  rotate_left
                  · intro w'
                    go_simp
                    first | (with_reducible rfl) | (rw [if_neg (by simp only [decide_eq_true_eq, ByteArray.size_append] at *; omega)])
                  rotate_left
                  · simp only [Act.put, List.setIfInBounds_toArray, List.set_cons_zero, List.set_cons_succ, i64_w, i32_w]
                    rfl
                  refine pure_ (i := 1) (N := some 30) (v := ?_) (a' := ?_) #[true, true, false, false, false, false, false, false, false, false, false, false, false, false, false] rfl rfl (any_of HT_.out (by kernel_rfl)) (fun _ _ _ h => h) (Or.inl ⟨by rfl, ?_⟩) ?_ ?_
                  rotate_left
                  · intro w'
                    go_simp
                    first | (with_reducible rfl) | (rw [if_neg (by simp only [decide_eq_true_eq, ByteArray.size_append] at *; omega)])
                  rotate_left
                  · simp only [Act.put, List.setIfInBounds_toArray, List.set_cons_zero, List.set_cons_succ, i64_w, i32_w]
                    rfl
                  refine pure_ (i := 2) (N := some 31) (v := ?_) (a' := ?_) #[true, true, true, false, false, false, false, false, false, false, false, false, false, false, false] rfl rfl (any_of HT_.out (by kernel_rfl)) (fun _ _ _ h => h) (Or.inl ⟨by rfl, ?_⟩) ?_ ?_
                  rotate_left
                  · intro w'
                    go_simp
                    first | (with_reducible rfl) | (rw [if_neg (by simp only [decide_eq_true_eq, ByteArray.size_append] at *; omega)])
                  rotate_left
                  · simp only [Act.put, List.setIfInBounds_toArray, List.set_cons_zero, List.set_cons_succ, i64_w, i32_w]
                    rfl
                  refine pure_ (i := 3) (N := some 32) (v := ?_) (a' := ?_) #[true, true, true, true, false, false, false, false, false, false, false, false, false, false, false] rfl rfl (any_of HT_.out (by kernel_rfl)) (fun _ _ _ h => h) (Or.inl ⟨by rfl, ?_⟩) ?_ ?_
                  rotate_left
                  · intro w'
                    go_simp
                    first | (with_reducible rfl) | (rw [if_neg (by simp only [decide_eq_true_eq, ByteArray.size_append] at *; omega)])
                  rotate_left
                  · simp only [Act.put, List.setIfInBounds_toArray, List.set_cons_zero, List.set_cons_succ, i64_w, i32_w]
                    rfl
                  refine pure_ (i := 4) (N := some 33) (v := ?_) (a' := ?_) #[true, true, true, true, true, false, false, false, false, false, false, false, false, false, false] rfl rfl (any_of HT_.out (by kernel_rfl)) (fun _ _ _ h => h) (Or.inl ⟨by rfl, ?_⟩) ?_ ?_
                  rotate_left
                  · intro w'
                    go_simp
                    first | (with_reducible rfl) | (rw [if_neg (by simp only [decide_eq_true_eq, ByteArray.size_append] at *; omega)])
                  rotate_left
                  · simp only [Act.put, List.setIfInBounds_toArray, List.set_cons_zero, List.set_cons_succ, i64_w, i32_w]
                    rfl
                  refine pure_ (i := 5) (N := some 34) (v := ?_) (a' := ?_) #[true, true, true, true, true, true, false, false, false, false, false, false, false, false, false] rfl rfl (any_of HT_.out (by kernel_rfl)) (fun _ _ _ h => h) (Or.inl ⟨by rfl, ?_⟩) ?_ ?_
                  rotate_left
                  · intro w'
                    go_simp
                    first | (with_reducible rfl) | (rw [if_neg (by simp only [decide_eq_true_eq, ByteArray.size_append] at *; omega)])
                  rotate_left
                  · simp only [Act.put, List.setIfInBounds_toArray, List.set_cons_zero, List.set_cons_succ, i64_w, i32_w]
                    rfl
                  refine pure_ (i := 6) (N := some 35) (v := ?_) (a' := ?_) #[true, true, true, true, true, true, true, false, false, false, false, false, false, false, false] rfl rfl (any_of HT_.out (by kernel_rfl)) (fun _ _ _ h => h) (Or.inl ⟨by rfl, ?_⟩) ?_ ?_
                  rotate_left
                  · intro w'
                    go_simp
                    first | (with_reducible rfl) | (rw [if_neg (by simp only [decide_eq_true_eq, ByteArray.size_append] at *; omega)])
                  rotate_left
                  · simp only [Act.put, List.setIfInBounds_toArray, List.set_cons_zero, List.set_cons_succ, i64_w, i32_w]
                    rfl
                  refine pure_ (i := 8) (N := some 37) (v := ?_) (a' := ?_) #[true, true, true, true, true, true, true, false, true, false, false, false, false, false, false] rfl rfl (any_of HT_.out (by kernel_rfl)) (fun _ _ _ h => h) (Or.inl ⟨by rfl, ?_⟩) ?_ ?_
                  rotate_left
                  · intro w'
                    go_simp
                    first | (with_reducible rfl) | (rw [if_neg (by simp only [decide_eq_true_eq, ByteArray.size_append] at *; omega)])
                  rotate_left
                  · simp only [Act.put, List.setIfInBounds_toArray, List.set_cons_zero, List.set_cons_succ, i64_w, i32_w]
                    rfl
                  refine pure_ (i := 9) (N := some 38) (v := ?_) (a' := ?_) #[true, true, true, true, true, true, true, false, true, true, false, false, false, false, false] rfl rfl (any_of HT_.out (by kernel_rfl)) (fun _ _ _ h => h) (Or.inl ⟨by rfl, ?_⟩) ?_ ?_
                  rotate_left
                  · intro w'
                    go_simp
                    first | (with_reducible rfl) | (rw [if_neg (by simp only [decide_eq_true_eq, ByteArray.size_append] at *; omega)])
                  rotate_left
                  · simp only [Act.put, List.setIfInBounds_toArray, List.set_cons_zero, List.set_cons_succ, i64_w, i32_w]
                    rfl
                  refine pure_ (i := 10) (N := some 39) (v := ?_) (a' := ?_) #[true, true, true, true, true, true, true, false, true, true, true, false, false, false, false] rfl rfl (any_of HT_.out (by kernel_rfl)) (fun _ _ _ h => h) (Or.inl ⟨by rfl, ?_⟩) ?_ ?_
                  rotate_left
                  · intro w'
                    go_simp
                    first | (with_reducible rfl) | (rw [if_neg (by simp only [decide_eq_true_eq, ByteArray.size_append] at *; omega)])
                  rotate_left
                  · simp only [Act.put, List.setIfInBounds_toArray, List.set_cons_zero, List.set_cons_succ, i64_w, i32_w]
                    rfl
                  refine pure_ (i := 11) (N := some 40) (v := ?_) (a' := ?_) #[true, true, true, true, true, true, true, false, true, true, true, true, false, false, false] rfl rfl (any_of HT_.out (by kernel_rfl)) (fun _ _ _ h => h) (Or.inl ⟨by rfl, ?_⟩) ?_ ?_
                  rotate_left
                  · intro w'
                    go_simp
                    first | (with_reducible rfl) | (rw [if_neg (by simp only [decide_eq_true_eq, ByteArray.size_append] at *; omega)])
                  rotate_left
                  · simp only [Act.put, List.setIfInBounds_toArray, List.set_cons_zero, List.set_cons_succ, i64_w, i32_w]
                    rfl
                  refine take_ (i := 7) (N := some 36) (v := ?_) (a' := ?_) #[true, true, true, true, true, true, true, true, true, true, true, true, false, false, false] rfl rfl (take_ofW HT_.out HW_.out (by kernel_rfl)) (fun _ _ _ h => h) (Or.inl ⟨by rfl, ?_⟩) hHeld ?_ ?_
                  rotate_left
                  · rintro w' ⟨s0, s1, s2, s3, s4, s5, s6, s7⟩
                    go_simp
                    first | (with_reducible rfl) | (rw [if_neg (by simp only [decide_eq_true_eq, ByteArray.size_append] at *; omega)])
                  rotate_left
                  · simp only [Act.put, List.setIfInBounds_toArray, List.set_cons_zero, List.set_cons_succ, i64_w, i32_w]
                    rfl
                  refine take_ (i := 12) (N := some 41) (v := ?_) (a' := ?_) #[true, true, true, true, true, true, true, true, true, true, true, true, true, false, false] rfl rfl (take_ofW HT_.out HW_.out (by kernel_rfl)) (fun _ _ _ h => h) (Or.inl ⟨by rfl, ?_⟩) hHeld ?_ ?_
                  rotate_left
                  · rintro w' ⟨s0, s1, s2, s3, s4, s5, s6, s7⟩
                    go_simp
                    first | (with_reducible rfl) | (rw [if_neg (by simp only [decide_eq_true_eq, ByteArray.size_append] at *; omega)])
                  rotate_left
                  · simp only [Act.put, List.setIfInBounds_toArray, List.set_cons_zero, List.set_cons_succ, i64_w, i32_w]
                    rfl
                  refine pure_ (i := 13) (N := some 42) (v := ?_) (a' := ?_) #[true, true, true, true, true, true, true, true, true, true, true, true, true, true, false] rfl rfl (any_of HT_.out (by kernel_rfl)) (fun _ _ _ h => h) (Or.inl ⟨by rfl, ?_⟩) ?_ ?_
                  rotate_left
                  · intro w'
                    go_simp
                    first | (with_reducible rfl) | (rw [if_neg (by simp only [decide_eq_true_eq, ByteArray.size_append] at *; omega)])
                  rotate_left
                  · simp only [Act.put, List.setIfInBounds_toArray, List.set_cons_zero, List.set_cons_succ, i64_w, i32_w]
                    rfl
                  refine pure_ (i := 14) (N := some 43) (v := ?_) (a' := ?_) #[true, true, true, true, true, true, true, true, true, true, true, true, true, true, true] rfl rfl (any_of HT_.out (by kernel_rfl)) (fun _ _ _ h => h) (Or.inl ⟨by rfl, ?_⟩) ?_ ?_
                  rotate_left
                  · intro w'
                    go_simp
                    first | (with_reducible rfl) | (rw [if_neg (by simp only [decide_eq_true_eq, ByteArray.size_append] at *; omega)])
                  rotate_left
                  · simp only [Act.put, List.setIfInBounds_toArray, List.set_cons_zero, List.set_cons_succ, i64_w, i32_w]
                    rfl
                  refine done_ (done_of HT_.out (by kernel_rfl)) ?_
                  try go_wp2
                  go_ret
                  exact ⟨by first | rfl | (simp [errW_none, errW_some] <;> rfl) | (simp [*, errW_none, errW_some] <;> rfl), by repeat (first | (with_reducible first | exact HB.out | apply below_alloc | apply pw_below_drewN | apply below_drew1) | exact HB.out)⟩
              · replace c8 := Bool.eq_false_iff.mpr c8
                subst c8
                have H1 : (some false) = some r := by rw [if_neg (show ¬ (false = true) by decide)] at H; exact H
                clear H
                have H := H1
                clear H1
                obtain rfl := Option.some.inj H
                try go_wp2
                have n0_ := Aside0.mk (below_drew1 HB.out)
                clear HB
                have HB := n0_
                clear n0_
                have p178 : 0 ≤ (x5_1 : Int) := of_decide_eq_true (by first | (with_reducible assumption) | assumption)
                have q178 : x5_1 < (l0.length : Int) := of_decide_eq_true (by first | (with_reducible assumption) | assumption)
                obtain ⟨ad178, A178_3, c178_3, e178, hx178_0, hx178_1, hx178_2, hx178_3, hl178_3, hi178_3⟩ := at_T46 HR0.out x5_1 p178 q178
                have hw178_3 := hx178_3
                have hw178_2 := hx178_2
                have hw178_1 := hx178_1
                have hw178_0 := hx178_0
                cases e178
                replace hx178_0 := (HB.out.cell (World.block_lt_of_cell? w _ hx178_0)).trans hx178_0
                replace hx178_1 := (HB.out.cell (World.block_lt_of_cell? w _ hx178_1)).trans hx178_1
                replace hx178_2 := (HB.out.cell (World.block_lt_of_cell? w _ hx178_2)).trans hx178_2
                replace hx178_3 := (HB.out.cell (World.block_lt_of_cell? w _ hx178_3)).trans hx178_3
                have HR178_3 := Aside0.mk hi178_3
                have HC178_3 := Aside0.mk hl178_3
                clear hi178_3 hl178_3
                replace p178 := eq_true p178
                replace q178 := eq_true q178
                have p179 : 0 ≤ (x5_1 : Int) := of_decide_eq_true (by first | (with_reducible assumption) | assumption)
                have q179 : x5_1 < (l1.length : Int) := of_decide_eq_true (by first | (with_reducible assumption) | assumption)
                obtain ⟨ad179, A179_3, c179_3, e179, hx179_0, hx179_1, hx179_2, hx179_3, hl179_3, hi179_3⟩ := at_T46 HR1.out x5_1 p179 q179
                have hw179_3 := hx179_3
                have hw179_2 := hx179_2
                have hw179_1 := hx179_1
                have hw179_0 := hx179_0
                cases e179
                replace hx179_0 := (HB.out.cell (World.block_lt_of_cell? w _ hx179_0)).trans hx179_0
                replace hx179_1 := (HB.out.cell (World.block_lt_of_cell? w _ hx179_1)).trans hx179_1
                replace hx179_2 := (HB.out.cell (World.block_lt_of_cell? w _ hx179_2)).trans hx179_2
                replace hx179_3 := (HB.out.cell (World.block_lt_of_cell? w _ hx179_3)).trans hx179_3
                have HR179_3 := Aside0.mk hi179_3
                have HC179_3 := Aside0.mk hl179_3
                clear hi179_3 hl179_3
                replace p179 := eq_true p179
                replace q179 := eq_true q179
                refine start_ (n := 12) (S := fun w' => w'.cell? (ad178.add ((x5_1).toNat * 4)) = some (.string ((rd_T46 l0 x5_1).f0)) ∧ w'.cell? ⟨(ad178.add ((x5_1).toNat * 4)).block, (ad178.add ((x5_1).toNat * 4)).off + 1, none⟩ = some (.string ((rd_T46 l0 x5_1).f1.f0)) ∧ w'.cell? ⟨(ad178.add ((x5_1).toNat * 4)).block, (ad178.add ((x5_1).toNat * 4)).off + 2, none⟩ = some (.int .i64 ((rd_T46 l0 x5_1).f1.f1)) ∧ w'.cell? ⟨(ad178.add ((x5_1).toNat * 4)).block, (ad178.add ((x5_1).toNat * 4)).off + 3, none⟩ = some (.slice A178_3 ((rd_T46 l0 x5_1).f1.f2).length c178_3) ∧ w'.cell? (ad179.add ((x5_1).toNat * 4)) = some (.string ((rd_T46 l1 x5_1).f0)) ∧ w'.cell? ⟨(ad179.add ((x5_1).toNat * 4)).block, (ad179.add ((x5_1).toNat * 4)).off + 1, none⟩ = some (.string ((rd_T46 l1 x5_1).f1.f0)) ∧ w'.cell? ⟨(ad179.add ((x5_1).toNat * 4)).block, (ad179.add ((x5_1).toNat * 4)).off + 2, none⟩ = some (.int .i64 ((rd_T46 l1 x5_1).f1.f1)) ∧ w'.cell? ⟨(ad179.add ((x5_1).toNat * 4)).block, (ad179.add ((x5_1).toNat * 4)).off + 3, none⟩ = some (.slice A179_3 ((rd_T46 l1 x5_1).f1.f2).length c179_3)) (ds := []) #[false, false, false, false, false, false, false, false, false, false, false, false] (by kernel_rfl) rfl rfl ⟨((HB.out.cell (World.block_lt_of_cell? w _ hw178_0)).trans hw178_0), ((HB.out.cell (World.block_lt_of_cell? w _ hw178_1)).trans hw178_1), ((HB.out.cell (World.block_lt_of_cell? w _ hw178_2)).trans hw178_2), ((HB.out.cell (World.block_lt_of_cell? w _ hw178_3)).trans hw178_3), ((HB.out.cell (World.block_lt_of_cell? w _ hw179_0)).trans hw179_0), ((HB.out.cell (World.block_lt_of_cell? w _ hw179_1)).trans hw179_1), ((HB.out.cell (World.block_lt_of_cell? w _ hw179_2)).trans hw179_2), ((HB.out.cell (World.block_lt_of_cell? w _ hw179_3)).trans hw179_3)⟩ (fun hHeld => ?_); refine with_tabW amalgamlaw05_same.tab6 amalgamlaw05_same.bits6 (fun HT_ HW_ => ?_)
                generalize wr.drew = w16 at HB HR178_3 HR179_3 hx178_0 hx178_1 hx178_2 hx178_3 hx179_0 hx179_1 hx179_2 hx179_3 hHeld ⊢
                refine pure_ (i := 0) (N := some 18) (v := ?_) (a' := ?_) #[true, false, false, false, false, false, false, false, false, false, false, false] rfl rfl (any_of HT_.out (by kernel_rfl)) (fun _ _ _ h => h) (Or.inl ⟨by rfl, ?_⟩) ?_ ?_
                rotate_left
                · intro w'
                  go_simp
                  first | (with_reducible rfl) | (rw [if_neg (by simp only [decide_eq_true_eq, ByteArray.size_append] at *; omega)])
                rotate_left
                · simp only [Act.put, List.setIfInBounds_toArray, List.set_cons_zero, List.set_cons_succ, i64_w, i32_w]
                  rfl
                refine pure_ (i := 1) (N := some 19) (v := ?_) (a' := ?_) #[true, true, false, false, false, false, false, false, false, false, false, false] rfl rfl (any_of HT_.out (by kernel_rfl)) (fun _ _ _ h => h) (Or.inl ⟨by rfl, ?_⟩) ?_ ?_
                rotate_left
                · intro w'
                  go_simp
                  first | (with_reducible rfl) | (rw [if_neg (by simp only [decide_eq_true_eq, ByteArray.size_append] at *; omega)])
                rotate_left
                · simp only [Act.put, List.setIfInBounds_toArray, List.set_cons_zero, List.set_cons_succ, i64_w, i32_w]
                  rfl
                refine pure_ (i := 2) (N := some 20) (v := ?_) (a' := ?_) #[true, true, true, false, false, false, false, false, false, false, false, false] rfl rfl (any_of HT_.out (by kernel_rfl)) (fun _ _ _ h => h) (Or.inl ⟨by rfl, ?_⟩) ?_ ?_
                rotate_left
                · intro w'
                  go_simp
                  first | (with_reducible rfl) | (rw [if_neg (by simp only [decide_eq_true_eq, ByteArray.size_append] at *; omega)])
                rotate_left
                · simp only [Act.put, List.setIfInBounds_toArray, List.set_cons_zero, List.set_cons_succ, i64_w, i32_w]
                  rfl
                refine pure_ (i := 3) (N := some 21) (v := ?_) (a' := ?_) #[true, true, true, true, false, false, false, false, false, false, false, false] rfl rfl (any_of HT_.out (by kernel_rfl)) (fun _ _ _ h => h) (Or.inl ⟨by rfl, ?_⟩) ?_ ?_
                rotate_left
                · intro w'
                  go_simp
                  first | (with_reducible rfl) | (rw [if_neg (by simp only [decide_eq_true_eq, ByteArray.size_append] at *; omega)])
                rotate_left
                · simp only [Act.put, List.setIfInBounds_toArray, List.set_cons_zero, List.set_cons_succ, i64_w, i32_w]
                  rfl
                refine pure_ (i := 5) (N := some 23) (v := ?_) (a' := ?_) #[true, true, true, true, false, true, false, false, false, false, false, false] rfl rfl (any_of HT_.out (by kernel_rfl)) (fun _ _ _ h => h) (Or.inl ⟨by rfl, ?_⟩) ?_ ?_
                rotate_left
                · intro w'
                  go_simp
                  first | (with_reducible rfl) | (rw [if_neg (by simp only [decide_eq_true_eq, ByteArray.size_append] at *; omega)])
                rotate_left
                · simp only [Act.put, List.setIfInBounds_toArray, List.set_cons_zero, List.set_cons_succ, i64_w, i32_w]
                  rfl
                refine pure_ (i := 6) (N := some 24) (v := ?_) (a' := ?_) #[true, true, true, true, false, true, true, false, false, false, false, false] rfl rfl (any_of HT_.out (by kernel_rfl)) (fun _ _ _ h => h) (Or.inl ⟨by rfl, ?_⟩) ?_ ?_
                rotate_left
                · intro w'
                  go_simp
                  first | (with_reducible rfl) | (rw [if_neg (by simp only [decide_eq_true_eq, ByteArray.size_append] at *; omega)])
                rotate_left
                · simp only [Act.put, List.setIfInBounds_toArray, List.set_cons_zero, List.set_cons_succ, i64_w, i32_w]
                  rfl
                refine pure_ (i := 7) (N := some 25) (v := ?_) (a' := ?_) #[true, true, true, true, false, true, true, true, false, false, false, false] rfl rfl (any_of HT_.out (by kernel_rfl)) (fun _ _ _ h => h) (Or.inl ⟨by rfl, ?_⟩) ?_ ?_
                rotate_left
                · intro w'
                  go_simp
                  first | (with_reducible rfl) | (rw [if_neg (by simp only [decide_eq_true_eq, ByteArray.size_append] at *; omega)])
                rotate_left
                · simp only [Act.put, List.setIfInBounds_toArray, List.set_cons_zero, List.set_cons_succ, i64_w, i32_w]
                  rfl
                refine pure_ (i := 8) (N := some 26) (v := ?_) (a' := ?_) #[true, true, true, true, false, true, true, true, true, false, false, false] rfl rfl (any_of HT_.out (by kernel_rfl)) (fun _ _ _ h => h) (Or.inl ⟨by rfl, ?_⟩) ?_ ?_
                rotate_left
                · intro w'
                  go_simp
                  first | (with_reducible rfl) | (rw [if_neg (by simp only [decide_eq_true_eq, ByteArray.size_append] at *; omega)])
                rotate_left
                · simp only [Act.put, List.setIfInBounds_toArray, List.set_cons_zero, List.set_cons_succ, i64_w, i32_w]
                  rfl
                refine take_ (i := 4) (N := some 22) (v := ?_) (a' := ?_) #[true, true, true, true, true, true, true, true, true, false, false, false] rfl rfl (take_ofW HT_.out HW_.out (by kernel_rfl)) (fun _ _ _ h => h) (Or.inl ⟨by rfl, ?_⟩) hHeld ?_ ?_
                rotate_left
                · rintro w' ⟨s0, s1, s2, s3, s4, s5, s6, s7⟩
                  go_simp
                  first | (with_reducible rfl) | (rw [if_neg (by simp only [decide_eq_true_eq, ByteArray.size_append] at *; omega)])
                rotate_left
                · simp only [Act.put, List.setIfInBounds_toArray, List.set_cons_zero, List.set_cons_succ, i64_w, i32_w]
                  rfl
                refine take_ (i := 9) (N := some 27) (v := ?_) (a' := ?_) #[true, true, true, true, true, true, true, true, true, true, false, false] rfl rfl (take_ofW HT_.out HW_.out (by kernel_rfl)) (fun _ _ _ h => h) (Or.inl ⟨by rfl, ?_⟩) hHeld ?_ ?_
                rotate_left
                · rintro w' ⟨s0, s1, s2, s3, s4, s5, s6, s7⟩
                  go_simp
                  first | (with_reducible rfl) | (rw [if_neg (by simp only [decide_eq_true_eq, ByteArray.size_append] at *; omega)])
                rotate_left
                · simp only [Act.put, List.setIfInBounds_toArray, List.set_cons_zero, List.set_cons_succ, i64_w, i32_w]
                  rfl
                refine one_ (i := 10) (N := some 28) #[true, true, true, true, true, true, true, true, true, true, true, false] rfl rfl (one_of HT_.out (by kernel_rfl)) (by decide) (fun K hK => ?_)
                refine goes_ Try.func8 (by kernel_rfl) rfl #[.agg #[.string ((rd_T46 l0 x5_1).f1.f0), .int .i64 ((rd_T46 l0 x5_1).f1.f1), .slice A178_3 ((rd_T46 l0 x5_1).f1.f2).length c178_3], .agg #[.string ((rd_T46 l1 x5_1).f1.f0), .int .i64 ((rd_T46 l1 x5_1).f1.f1), .slice A179_3 ((rd_T46 l1 x5_1).f1.f2).length c179_3]] (by rfl) rfl rfl (by (try simp only [List.map_toArray, List.map_cons, List.map_nil]); first | done | rfl | (simp only [List.length_drop, List.length_take]; rfl)) ?_
                with_reducible refine (amalgamref03_Exact.calls k1 ((rd_T46 l0 x5_1).f1.f0) ((rd_T46 l0 x5_1).f1.f1) _ _ ((rd_T46 l0 x5_1).f1.f2) ((rd_T46 l1 x5_1).f1.f0) ((rd_T46 l1 x5_1).f1.f1) _ _ ((rd_T46 l1 x5_1).f1.f2) false _ ?side1 ?side2 ?side3 ?side4 A7.out).mono ?_
                (case side1 => repeat (first | exact (Kd.C_below HR178_3.out HB.out) | (with_reducible refine Kd.C_alloc ?_ _) | (with_reducible refine Kd.C_drewN ?_ _) | (with_reducible refine Kd.C_drew ?_)))
                (case side2 => exact HC178_3.out)
                (case side3 => repeat (first | exact (Kd.C_below HR179_3.out HB.out) | (with_reducible refine Kd.C_alloc ?_ _) | (with_reducible refine Kd.C_drewN ?_ _) | (with_reducible refine Kd.C_drew ?_)))
                (case side4 => exact HC179_3.out)
                rintro e w17 ⟨rfl, hb⟩
                refine ⟨_, rfl, ?_⟩
                have n0_ := Aside0.mk (below_step (by repeat (first | (with_reducible first | exact HB.out | apply below_alloc | apply pw_below_drewN | apply below_drew1) | exact HB.out)) hb)
                clear HB
                have HB := n0_
                clear n0_
                (try clear hb)
                (try clear hb2)
                (try clear hk)
                (try clear hi)
                refine hK.out _ _ ⟨((HB.out.cell (World.block_lt_of_cell? w _ hw178_0)).trans hw178_0), ((HB.out.cell (World.block_lt_of_cell? w _ hw178_1)).trans hw178_1), ((HB.out.cell (World.block_lt_of_cell? w _ hw178_2)).trans hw178_2), ((HB.out.cell (World.block_lt_of_cell? w _ hw178_3)).trans hw178_3), ((HB.out.cell (World.block_lt_of_cell? w _ hw179_0)).trans hw179_0), ((HB.out.cell (World.block_lt_of_cell? w _ hw179_1)).trans hw179_1), ((HB.out.cell (World.block_lt_of_cell? w _ hw179_2)).trans hw179_2), ((HB.out.cell (World.block_lt_of_cell? w _ hw179_3)).trans hw179_3)⟩ (fun hHeld => ?_)
                clear hK K
                refine norm_ (a' := ?_) ?_ ?_
                rotate_left
                · show Act.put _ (some 28) _ = _
                  simp only [Act.put, List.setIfInBounds_toArray, List.set_cons_zero, List.set_cons_succ, i64_w, i32_w]
                  rfl
                refine pure_ (i := 11) (N := some 6) (v := ?_) (a' := ?_) #[true, true, true, true, true, true, true, true, true, true, true, true] rfl rfl (any_of HT_.out (by kernel_rfl)) (fun _ _ _ h => h) (Or.inl ⟨by rfl, ?_⟩) ?_ ?_
                rotate_left
                · intro w'
                  go_simp
                  first | (with_reducible rfl) | (rw [if_neg (by simp only [decide_eq_true_eq, ByteArray.size_append] at *; omega)])
                rotate_left
                · simp only [Act.put, List.setIfInBounds_toArray, List.set_cons_zero, List.set_cons_succ, i64_w, i32_w]
                  rfl
                refine done_ (done_of HT_.out (by kernel_rfl)) ?_
                try go_wp2
                have n0_ := Aside0.mk (below_drew1 HB.out)
                clear HB
                have HB := n0_
                clear n0_
                refine start_ (n := 15) (S := fun w' => True) (ds := []) #[false, false, false, false, false, false, false, false, false, false, false, false, false, false, false] (by kernel_rfl) rfl rfl trivial (fun hHeld => ?_); refine with_tabW amalgamlaw05_same.tab7 amalgamlaw05_same.bits7 (fun HT_ HW_ => ?_)
                generalize w17.drew = w18 at HB hHeld ⊢
                refine pure_ (i := 0) (N := some 29) (v := ?_) (a' := ?_) #[true, false, false, false, false, false, false, false, false, false, false, false, false, false, false] rfl rfl (any_of HT_.out (by kernel_rfl)) (fun _ _ _ h => h) (Or.inl ⟨by rfl, ?_⟩) ?_ ?_
                rotate_left
                · intro w'
                  go_simp
                  first | (with_reducible rfl) | (rw [if_neg (by simp only [decide_eq_true_eq, ByteArray.size_append] at *; omega)])
                rotate_left
                · simp only [Act.put, List.setIfInBounds_toArray, List.set_cons_zero, List.set_cons_succ, i64_w, i32_w]
                  rfl
                refine pure_ (i := 1) (N := some 30) (v := ?_) (a' := ?_) #[true, true, false, false, false, false, false, false, false, false, false, false, false, false, false] rfl rfl (any_of HT_.out (by kernel_rfl)) (fun _ _ _ h => h) (Or.inl ⟨by rfl, ?_⟩) ?_ ?_
                rotate_left
                · intro w'
                  go_simp
                  first | (with_reducible rfl) | (rw [if_neg (by simp only [decide_eq_true_eq, ByteArray.size_append] at *; omega)])
                rotate_left
                · simp only [Act.put, List.setIfInBounds_toArray, List.set_cons_zero, List.set_cons_succ, i64_w, i32_w]
                  rfl
                refine pure_ (i := 2) (N := some 31) (v := ?_) (a' := ?_) #[true, true, true, false, false, false, false, false, false, false, false, false, false, false, false] rfl rfl (any_of HT_.out (by kernel_rfl)) (fun _ _ _ h => h) (Or.inl ⟨by rfl, ?_⟩) ?_ ?_
                rotate_left
                · intro w'
                  go_simp
                  first | (with_reducible rfl) | (rw [if_neg (by simp only [decide_eq_true_eq, ByteArray.size_append] at *; omega)])
                rotate_left
                · simp only [Act.put, List.setIfInBounds_toArray, List.set_cons_zero, List.set_cons_succ, i64_w, i32_w]
                  rfl
                refine pure_ (i := 3) (N := some 32) (v := undef) (a' := ?_) #[true, true, true, true, false, false, false, false, false, false, false, false, false, false, false] rfl rfl (any_of HT_.out (by kernel_rfl)) (fun _ _ _ h => h) (Or.inr ⟨by rfl, rfl⟩) ?_ ?_
                rotate_left
                · simp only [Act.put, List.setIfInBounds_toArray, List.set_cons_zero, List.set_cons_succ, i64_w, i32_w]
                  rfl
                refine pure_ (i := 4) (N := some 33) (v := undef) (a' := ?_) #[true, true, true, true, true, false, false, false, false, false, false, false, false, false, false] rfl rfl (any_of HT_.out (by kernel_rfl)) (fun _ _ _ h => h) (Or.inr ⟨by rfl, rfl⟩) ?_ ?_
                rotate_left
                · simp only [Act.put, List.setIfInBounds_toArray, List.set_cons_zero, List.set_cons_succ, i64_w, i32_w]
                  rfl
                refine pure_ (i := 5) (N := some 34) (v := undef) (a' := ?_) #[true, true, true, true, true, true, false, false, false, false, false, false, false, false, false] rfl rfl (any_of HT_.out (by kernel_rfl)) (fun _ _ _ h => h) (Or.inr ⟨by rfl, rfl⟩) ?_ ?_
                rotate_left
                · simp only [Act.put, List.setIfInBounds_toArray, List.set_cons_zero, List.set_cons_succ, i64_w, i32_w]
                  rfl
                refine pure_ (i := 6) (N := some 35) (v := undef) (a' := ?_) #[true, true, true, true, true, true, true, false, false, false, false, false, false, false, false] rfl rfl (any_of HT_.out (by kernel_rfl)) (fun _ _ _ h => h) (Or.inr ⟨by rfl, rfl⟩) ?_ ?_
                rotate_left
                · simp only [Act.put, List.setIfInBounds_toArray, List.set_cons_zero, List.set_cons_succ, i64_w, i32_w]
                  rfl
                refine pure_ (i := 7) (N := some 36) (v := undef) (a' := ?_) #[true, true, true, true, true, true, true, true, false, false, false, false, false, false, false] rfl rfl (any_of HT_.out (by kernel_rfl)) (fun _ _ _ h => h) (Or.inr ⟨by rfl, rfl⟩) ?_ ?_
                rotate_left
                · simp only [Act.put, List.setIfInBounds_toArray, List.set_cons_zero, List.set_cons_succ, i64_w, i32_w]
                  rfl
                refine pure_ (i := 8) (N := some 37) (v := undef) (a' := ?_) #[true, true, true, true, true, true, true, true, true, false, false, false, false, false, false] rfl rfl (any_of HT_.out (by kernel_rfl)) (fun _ _ _ h => h) (Or.inr ⟨by rfl, rfl⟩) ?_ ?_
                rotate_left
                · simp only [Act.put, List.setIfInBounds_toArray, List.set_cons_zero, List.set_cons_succ, i64_w, i32_w]
                  rfl
                refine pure_ (i := 9) (N := some 38) (v := undef) (a' := ?_) #[true, true, true, true, true, true, true, true, true, true, false, false, false, false, false] rfl rfl (any_of HT_.out (by kernel_rfl)) (fun _ _ _ h => h) (Or.inr ⟨by rfl, rfl⟩) ?_ ?_
                rotate_left
                · simp only [Act.put, List.setIfInBounds_toArray, List.set_cons_zero, List.set_cons_succ, i64_w, i32_w]
                  rfl
                refine pure_ (i := 10) (N := some 39) (v := undef) (a' := ?_) #[true, true, true, true, true, true, true, true, true, true, true, false, false, false, false] rfl rfl (any_of HT_.out (by kernel_rfl)) (fun _ _ _ h => h) (Or.inr ⟨by rfl, rfl⟩) ?_ ?_
                rotate_left
                · simp only [Act.put, List.setIfInBounds_toArray, List.set_cons_zero, List.set_cons_succ, i64_w, i32_w]
                  rfl
                refine pure_ (i := 11) (N := some 40) (v := undef) (a' := ?_) #[true, true, true, true, true, true, true, true, true, true, true, true, false, false, false] rfl rfl (any_of HT_.out (by kernel_rfl)) (fun _ _ _ h => h) (Or.inr ⟨by rfl, rfl⟩) ?_ ?_
                rotate_left
                · simp only [Act.put, List.setIfInBounds_toArray, List.set_cons_zero, List.set_cons_succ, i64_w, i32_w]
                  rfl
                refine pure_ (i := 12) (N := some 41) (v := undef) (a' := ?_) #[true, true, true, true, true, true, true, true, true, true, true, true, true, false, false] rfl rfl (any_of HT_.out (by kernel_rfl)) (fun _ _ _ h => h) (Or.inr ⟨by rfl, rfl⟩) ?_ ?_
                rotate_left
                · simp only [Act.put, List.setIfInBounds_toArray, List.set_cons_zero, List.set_cons_succ, i64_w, i32_w]
                  rfl
                refine pure_ (i := 13) (N := some 42) (v := undef) (a' := ?_) #[true, true, true, true, true, true, true, true, true, true, true, true, true, true, false] rfl rfl (any_of HT_.out (by kernel_rfl)) (fun _ _ _ h => h) (Or.inr ⟨by rfl, rfl⟩) ?_ ?_
                rotate_left
                · simp only [Act.put, List.setIfInBounds_toArray, List.set_cons_zero, List.set_cons_succ, i64_w, i32_w]
                  rfl
                refine pure_ (i := 14) (N := some 43) (v := ?_) (a' := ?_) #[true, true, true, true, true, true, true, true, true, true, true, true, true, true, true] rfl rfl (any_of HT_.out (by kernel_rfl)) (fun _ _ _ h => h) (Or.inl ⟨by rfl, ?_⟩) ?_ ?_
                rotate_left
                · intro w'
                  go_simp
                  first | (with_reducible rfl) | (rw [if_neg (by simp only [decide_eq_true_eq, ByteArray.size_append] at *; omega)])
                rotate_left
                · simp only [Act.put, List.setIfInBounds_toArray, List.set_cons_zero, List.set_cons_succ, i64_w, i32_w]
                  rfl
                refine done_ (done_of HT_.out (by kernel_rfl)) ?_
                try go_wp2
                go_ret
                exact ⟨by first | rfl | (simp [errW_none, errW_some] <;> rfl) | (simp [*, errW_none, errW_some] <;> rfl), by repeat (first | (with_reducible first | exact HB.out | apply below_alloc | apply pw_below_drewN | apply below_drew1) | exact HB.out)⟩
            · rw [if_neg c6] at H
              exact absurd H (by simp)
          · rw [if_neg c5] at H
            exact absurd H (by simp)
        · rw [if_neg c4] at H
          have c4b0 : decide (x5_1 < (l0.length : Int)) = false := decide_eq_false c4
          clear c4
          obtain rfl := Option.some.inj H
          go_wp2
          go_ret
          exact ⟨by first | rfl | (simp [errW_none, errW_some] <;> rfl) | (simp [*, errW_none, errW_some] <;> rfl), by repeat (first | (with_reducible first | exact HB.out | apply below_alloc | apply pw_below_drewN | apply below_drew1) | exact HB.out)⟩
  · rw [if_neg c3] at H
    have c3b0 : ((l0.length : Int) == (l1.length : Int)) = false := beq_eq_false_iff_ne.mpr c3
    have c3b1 : ((l0.length : Int) != (l1.length : Int)) = true := bne_iff_ne.mpr c3
    have c3b2 : (l0.length == l1.length) = false := by first | simpa using c3 | (simp at c3 ⊢; omega)
    obtain rfl := Option.some.inj H
    go_enter Try.func17, Try.ntmps17
    go_wp2
    go_ret
    exact ⟨by first | rfl | (simp [errW_none, errW_some] <;> rfl) | (simp [*, errW_none, errW_some] <;> rfl), by repeat (first | (with_reducible first | exact HB.out | apply below_alloc | apply pw_below_drewN | apply below_drew1) | exact HB.out)⟩

end Go.Proofs.Ytpepjodkahdicaa.PTb
