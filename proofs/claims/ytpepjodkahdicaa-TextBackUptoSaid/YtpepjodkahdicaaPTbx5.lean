-- Written by programs of this session (wip/tools), cut to what the claim uses (wip/tools/prune.py).
import Derived.Test.YtpepjodkahdicaaPTbx0
-- Written by a program of this session (wip/tools/myprint.py): functions, contracts, their proofs. Lean checks it.
namespace Go.Proofs.Ytpepjodkahdicaa.PTb
open Go.RowKit Go.Proofs.YtpepjodkahdicaaW.PrintWords Go.Proofs.YtpepjodkahdicaaW.PrintLast Go.Proofs.YtpepjodkahdicaaW.PrintMore
attribute [local go_sem] max2_int min2_int max_two min_two max_three min_three max_four min_four   -- for this text's walks alone
set_option linter.unusedVariables false
set_option linter.unusedSimpArgs false
mutual
def amalgamref03_Exact.j0 : Nat → Bool → ByteArray → Int → List (S27) → ByteArray → Int → List (S27) → Option (Bool)
  | 0, _, _, _, _, _, _, _ => none
  | k + 1, x27, x130000, x130001, x130002, x131000, x131001, x131002 => if x27 = true then (some false) else (amalgamref03_Exact.l0 k 0 x130000 x130001 x130002 x131000 x131001 x131002)
def amalgamref03_Exact.l0 : Nat → Int → ByteArray → Int → List (S27) → ByteArray → Int → List (S27) → Option (Bool)
  | 0, _, _, _, _, _, _, _ => none
  | k + 1, x5, x130000, x130001, x130002, x131000, x131001, x131002 => if x5 < (x130002.length : Int) then (if 0 ≤ x5 then (if x5 < (x131002.length : Int) then ((amalgamref03_Exact.f k ((rd_T27 x130002 x5).f0) ((rd_T27 x130002 x5).f1) ((rd_T27 x130002 x5).f2) ((rd_T27 x131002 x5).f0) ((rd_T27 x131002 x5).f1) ((rd_T27 x131002 x5).f2)).bind fun t133 => (if t133 = true then (amalgamref03_Exact.l0 k (wrap64 (x5 + 1)) x130000 x130001 x130002 x131000 x131001 x131002) else (some false))) else (none)) else (none)) else (some true)
def amalgamref03_Exact.f : Nat → ByteArray → Int → List (S27) → ByteArray → Int → List (S27) → Option (Bool)
  | 0, _, _, _, _, _, _ => none
  | k + 1, a0_0, a0_1, l0_2, a1_0, a1_1, l1_2 => if a0_0.toList = a1_0.toList then (if a0_1 = a1_1 then (amalgamref03_Exact.j0 k ((l0_2.length : Int) != (l1_2.length : Int)) a0_0 a0_1 l0_2 a1_0 a1_1 l1_2) else (amalgamref03_Exact.j0 k true a0_0 a0_1 l0_2 a1_0 a1_1 l1_2)) else (amalgamref03_Exact.j0 k true a0_0 a0_1 l0_2 a1_0 a1_1 l1_2)
end
def amalgamref03_Exact.T6 : Bool × List (List Nat × List Nat) := (true, [([], []), ([0], [0]), ([], []), ([1, 2], [1, 2]), ([3], [3]), ([], []), ([5], [5]), ([], []), ([6, 7], [6, 7]), ([8], [8]), ([4, 9], [4, 9]), ([10, 10, 0, 1, 2, 3, 4, 5, 6, 7, 8, 9, 10], [10])])
def amalgamref03_Exact.B6 : List Nat := [0, 1, 0, 7, 15, 0, 32, 0, 224, 480, 1023, 2047]
theorem amalgamref03_Exact.tab6 : rtab .any (opsOf Try.f8 6) = amalgamref03_Exact.T6 := by kernel_rfl
theorem amalgamref03_Exact.bits6 : waitsOk amalgamref03_Exact.T6.2 amalgamref03_Exact.B6 = true := by kernel_rfl
set_option maxHeartbeats 8000000 in
set_option maxRecDepth 100000 in
theorem amalgamref03_Exact.calls (k : Nat) : ∀ (a0_0 : ByteArray) (a0_1 : Int) (A0_2 : Option Addr) (c0_2 : Nat) (l0_2 : List (S27)) (a1_0 : ByteArray) (a1_1 : Int) (A1_2 : Option Addr) (c1_2 : Nat) (l1_2 : List (S27)) (r : Bool) (w : World) (hr0_2 : Kd.C k27 w A0_2 l0_2.length l0_2) (hc0_2 : l0_2.length ≤ c0_2) (hr1_2 : Kd.C k27 w A1_2 l1_2.length l1_2) (hc1_2 : l1_2.length ≤ c1_2) (h : amalgamref03_Exact.f k a0_0 a0_1 l0_2 a1_0 a1_1 l1_2 = some r),
    Calls Try.prog 8 #[.agg #[.string a0_0, .int .i64 a0_1, .slice A0_2 l0_2.length c0_2], .agg #[.string a1_0, .int .i64 a1_1, .slice A1_2 l1_2.length c1_2]] w fun e w' => e = .returned (.bool r) ∧ Below w.heap.size w w' := by
  induction k using Nat.strongRecOn with
  | _ k ih =>
  intro a0_0 a0_1 A0_2 c0_2 l0_2 a1_0 a1_1 A1_2 c1_2 l1_2 r w hr0_2 hc0_2 hr1_2 hc1_2 h
  cases k with
  | zero => exact absurd h (by simp [amalgamref03_Exact.f])
  | succ k =>
  simp only [amalgamref03_Exact.f] at h
  have hu27 := Try.underlying27
  have HR0_2 := Aside0.mk hr0_2
  have HC0_2 := Aside0.mk hc0_2
  clear hr0_2 hc0_2
  have HR1_2 := Aside0.mk hr1_2
  have HC1_2 := Aside0.mk hc1_2
  clear hr1_2 hc1_2
  have HB := Aside0.mk (Below.refl w.heap.size w)
  have H : (if a0_0.toList = a1_0.toList then (if a0_1 = a1_1 then (amalgamref03_Exact.j0 k ((l0_2.length : Int) != (l1_2.length : Int)) a0_0 a0_1 l0_2 a1_0 a1_1 l1_2) else (amalgamref03_Exact.j0 k true a0_0 a0_1 l0_2 a1_0 a1_1 l1_2)) else (amalgamref03_Exact.j0 k true a0_0 a0_1 l0_2 a1_0 a1_1 l1_2)) = some r := h
  clear h
  have HC3 := Aside0.mk H
  clear H
  go_enter Try.func8, Try.ntmps8
  go_upto_region 1 with (first | ((with_reducible refine gate_dst (N := 2) rfl ?_); (try (refine gate_guard (by rfl) ?_; dsimp only)); refine box_event ?hg (N := 2) ?hd (cs := #[.string a0_0, .int .i64 a0_1, .slice A0_2 l0_2.length c0_2]) (t := 27) ?hr ?_; (case hd => rfl); (case hg => rfl); (case hr => first | (go_simp; done) | (go_simp; rfl)); intro gb129 hg w4 hbox hb; have n0_ := Aside0.mk (below_step (by repeat (first | (with_reducible first | exact HB.out | apply below_alloc | apply pw_below_drewN | apply below_drew1) | exact HB.out)) hb); have n1_ := Aside0.mk (hbox); have n2_ := Aside0.mk ((by rw [hg]; exact (below_size (by repeat (first | (with_reducible first | exact HB.out | apply below_alloc | apply pw_below_drewN | apply below_drew1) | exact HB.out))) : w.heap.size ≤ gb129)); have n3_ := Aside0.mk ((by rw [hg]; exact (below_size (by repeat (first | (with_reducible first | exact HB.out | apply below_alloc | apply pw_below_drewN | apply below_drew1) | exact HB.out))) : w.heap.size ≤ gb129)); clear HB; have HB := n0_; have BK129 := n1_; have GW129 := n2_; have GE129 := n3_; clear n0_ n1_ n2_ n3_; clear hb hbox hg) | ((with_reducible refine gate_dst (N := 3) rfl ?_); (try (refine gate_guard (by rfl) ?_; dsimp only)); refine box_event ?hg (N := 3) ?hd (cs := #[.string a1_0, .int .i64 a1_1, .slice A1_2 l1_2.length c1_2]) (t := 27) ?hr ?_; (case hd => rfl); (case hg => rfl); (case hr => first | (go_simp; done) | (go_simp; rfl)); intro gb130 hg w5 hbox hb; have n0_ := Aside0.mk (blk_below (g := gb129) (o := .cells #[.string a0_0, .int .i64 a0_1, .slice A0_2 l0_2.length c0_2] 27 (0, 0)) (by (with_reducible repeat (first | refine blk_drewN ?_ _ | refine blk_drew ?_ | refine blk_alloc ?_ _)); exact BK129.out) hb); have n1_ := Aside0.mk (below_step (by repeat (first | (with_reducible first | exact HB.out | apply below_alloc | apply pw_below_drewN | apply below_drew1 | refine below_set ?_ GE129.out) | exact HB.out)) hb); have n2_ := Aside0.mk (hbox); have n3_ := Aside0.mk ((by rw [hg]; exact (below_size (by repeat (first | (with_reducible first | exact HB.out | apply below_alloc | apply pw_below_drewN | apply below_drew1 | refine below_set ?_ GE129.out) | exact HB.out))) : w.heap.size ≤ gb130)); have n4_ := Aside0.mk ((by rw [hg]; exact (below_size (by repeat (first | (with_reducible first | exact HB.out | apply below_alloc | apply pw_below_drewN | apply below_drew1 | refine below_set ?_ GE129.out) | exact HB.out))) : w.heap.size ≤ gb130)); have n5_ := Aside0.mk ((by rw [hg]; exact Nat.ne_of_lt (blk_lt (g := gb129) (o := .cells #[.string a0_0, .int .i64 a0_1, .slice A0_2 l0_2.length c0_2] 27 (0, 0)) (by (with_reducible repeat (first | refine blk_drewN ?_ _ | refine blk_drew ?_ | refine blk_alloc ?_ _)); exact BK129.out)) : gb129 ≠ gb130)); have n6_ := Aside0.mk ((by rw [hg]; exact Nat.ne_of_gt (blk_lt (g := gb129) (o := .cells #[.string a0_0, .int .i64 a0_1, .slice A0_2 l0_2.length c0_2] 27 (0, 0)) (by (with_reducible repeat (first | refine blk_drewN ?_ _ | refine blk_drew ?_ | refine blk_alloc ?_ _)); exact BK129.out)) : gb130 ≠ gb129)); clear BK129; clear HB; have BK129 := n0_; have HB := n1_; have BK130 := n2_; have GW130 := n3_; have GE130 := n4_; have NB129_130 := n5_; have NB130_129 := n6_; clear n0_ n1_ n2_ n3_ n4_ n5_ n6_; clear hb hbox hg))
  (try simp only [Act.put, List.setIfInBounds_toArray, List.set_cons_zero, List.set_cons_succ])
  go_cut [27] (fun v27 wc => ∃ (kq : Nat) (x27_2 : Bool), v27 = .bool x27_2 ∧ Aside0 (amalgamref03_Exact.j0 kq x27_2 a0_0 a0_1 l0_2 a1_0 a1_1 l1_2 = some r) ∧ Aside0 (kq ≤ k) ∧ Aside0 (wc.heap[gb129]? = some (.cells #[.string a0_0, .int .i64 a0_1, (.slice A0_2 l0_2.length c0_2)] 27 (0, 0))) ∧ Aside0 (wc.heap[gb130]? = some (.cells #[.string a1_0, .int .i64 a1_1, (.slice A1_2 l1_2.length c1_2)] 27 (0, 0))) ∧ Aside0 (Below w.heap.size w wc))
  case first =>
    have H := HC3.out
    clear HC3
    by_cases c6 : a0_0.toList = a1_0.toList
    · rw [if_pos c6] at H
      have c6b0 : (a0_0.toList == a1_0.toList) = true := beq_iff_eq.mpr c6
      have c6b1 : (a0_0.toList != a1_0.toList) = false := bne_eq_false_iff_eq.mpr c6
      clear c6
      (first | rw [c6b0] | (simp only [i64_w, i32_w]; rw [c6b0]) | skip)
      by_cases c7 : a0_1 = a1_1
      · rw [if_pos c7] at H
        have c7b0 : (a0_1 == a1_1) = true := beq_iff_eq.mpr c7
        have c7b1 : (a0_1 != a1_1) = false := bne_eq_false_iff_eq.mpr c7
        clear c7
        have H' := Aside0.mk H
        clear H
        have hnb8 := NB129_130.out
        have hnc8 := NB130_129.out
        have hcz9_0 : w5.cell? ⟨gb129, 0, none⟩ = some (.string a0_0) := (blk_cell BK129.out 0).trans rfl
        have hcz9_1 : w5.cell? ⟨gb129, 1, none⟩ = some (.int .i64 a0_1) := (blk_cell BK129.out 1).trans rfl
        have hcz9_2 : w5.cell? ⟨gb129, 2, none⟩ = some (.slice A0_2 l0_2.length c0_2) := (blk_cell BK129.out 2).trans rfl
        have hfz9_0 := blk_frozen BK129.out 0
        have hfz9_1 := blk_frozen BK129.out 1
        have hfz9_2 := blk_frozen BK129.out 2
        have hcz10_0 : w5.cell? ⟨gb130, 0, none⟩ = some (.string a1_0) := (blk_cell BK130.out 0).trans rfl
        have hcz10_1 : w5.cell? ⟨gb130, 1, none⟩ = some (.int .i64 a1_1) := (blk_cell BK130.out 1).trans rfl
        have hcz10_2 : w5.cell? ⟨gb130, 2, none⟩ = some (.slice A1_2 l1_2.length c1_2) := (blk_cell BK130.out 2).trans rfl
        have hfz10_0 := blk_frozen BK130.out 0
        have hfz10_1 := blk_frozen BK130.out 1
        have hfz10_2 := blk_frozen BK130.out 2
        go_wp2
        go_meet
        case rel => exact ⟨_, (((l0_2.length : Int) != (l1_2.length : Int))), (by first | rfl | (simp; done) | (simp [*]; done)), H', ⟨by first | omega | exact Nat.le_refl _⟩, ⟨by (with_reducible repeat (first | refine blk_drewN ?_ _ | refine blk_drew ?_ | refine blk_alloc ?_ _)); exact BK129.out⟩, ⟨by (with_reducible repeat (first | refine blk_drewN ?_ _ | refine blk_drew ?_ | refine blk_alloc ?_ _)); exact BK130.out⟩, ⟨by repeat (first | (with_reducible first | exact HB.out | apply below_alloc | apply pw_below_drewN | apply below_drew1 | refine below_set ?_ GE129.out | refine below_set ?_ GE130.out) | exact HB.out)⟩⟩
      · rw [if_neg c7] at H
        have c7b0 : (a0_1 == a1_1) = false := beq_eq_false_iff_ne.mpr c7
        have c7b1 : (a0_1 != a1_1) = true := bne_iff_ne.mpr c7
        have H' := Aside0.mk H
        clear H
        have hnb11 := NB129_130.out
        have hnc11 := NB130_129.out
        have hcz12_0 : w5.cell? ⟨gb129, 0, none⟩ = some (.string a0_0) := (blk_cell BK129.out 0).trans rfl
        have hcz12_1 : w5.cell? ⟨gb129, 1, none⟩ = some (.int .i64 a0_1) := (blk_cell BK129.out 1).trans rfl
        have hcz12_2 : w5.cell? ⟨gb129, 2, none⟩ = some (.slice A0_2 l0_2.length c0_2) := (blk_cell BK129.out 2).trans rfl
        have hfz12_0 := blk_frozen BK129.out 0
        have hfz12_1 := blk_frozen BK129.out 1
        have hfz12_2 := blk_frozen BK129.out 2
        have hcz13_0 : w5.cell? ⟨gb130, 0, none⟩ = some (.string a1_0) := (blk_cell BK130.out 0).trans rfl
        have hcz13_1 : w5.cell? ⟨gb130, 1, none⟩ = some (.int .i64 a1_1) := (blk_cell BK130.out 1).trans rfl
        have hcz13_2 : w5.cell? ⟨gb130, 2, none⟩ = some (.slice A1_2 l1_2.length c1_2) := (blk_cell BK130.out 2).trans rfl
        have hfz13_0 := blk_frozen BK130.out 0
        have hfz13_1 := blk_frozen BK130.out 1
        have hfz13_2 := blk_frozen BK130.out 2
        go_wp2
        go_meet
        case rel => exact ⟨_, (true), (by first | rfl | (simp; done) | (simp [*]; done)), H', ⟨by first | omega | exact Nat.le_refl _⟩, ⟨by (with_reducible repeat (first | refine blk_drewN ?_ _ | refine blk_drew ?_ | refine blk_alloc ?_ _)); exact BK129.out⟩, ⟨by (with_reducible repeat (first | refine blk_drewN ?_ _ | refine blk_drew ?_ | refine blk_alloc ?_ _)); exact BK130.out⟩, ⟨by repeat (first | (with_reducible first | exact HB.out | apply below_alloc | apply pw_below_drewN | apply below_drew1 | refine below_set ?_ GE129.out | refine below_set ?_ GE130.out) | exact HB.out)⟩⟩
    · rw [if_neg c6] at H
      have c6b0 : (a0_0.toList == a1_0.toList) = false := beq_eq_false_iff_ne.mpr c6
      have c6b1 : (a0_0.toList != a1_0.toList) = true := bne_iff_ne.mpr c6
      (first | rw [c6b0] | (simp only [i64_w, i32_w]; rw [c6b0]) | skip)
      have H' := Aside0.mk H
      clear H
      have hnb14 := NB129_130.out
      have hnc14 := NB130_129.out
      have hcz15_0 : w5.cell? ⟨gb129, 0, none⟩ = some (.string a0_0) := (blk_cell BK129.out 0).trans rfl
      have hcz15_1 : w5.cell? ⟨gb129, 1, none⟩ = some (.int .i64 a0_1) := (blk_cell BK129.out 1).trans rfl
      have hcz15_2 : w5.cell? ⟨gb129, 2, none⟩ = some (.slice A0_2 l0_2.length c0_2) := (blk_cell BK129.out 2).trans rfl
      have hfz15_0 := blk_frozen BK129.out 0
      have hfz15_1 := blk_frozen BK129.out 1
      have hfz15_2 := blk_frozen BK129.out 2
      have hcz16_0 : w5.cell? ⟨gb130, 0, none⟩ = some (.string a1_0) := (blk_cell BK130.out 0).trans rfl
      have hcz16_1 : w5.cell? ⟨gb130, 1, none⟩ = some (.int .i64 a1_1) := (blk_cell BK130.out 1).trans rfl
      have hcz16_2 : w5.cell? ⟨gb130, 2, none⟩ = some (.slice A1_2 l1_2.length c1_2) := (blk_cell BK130.out 2).trans rfl
      have hfz16_0 := blk_frozen BK130.out 0
      have hfz16_1 := blk_frozen BK130.out 1
      have hfz16_2 := blk_frozen BK130.out 2
      go_wp2
      go_meet
      case rel => exact ⟨_, (true), (by first | rfl | (simp; done) | (simp [*]; done)), H', ⟨by first | omega | exact Nat.le_refl _⟩, ⟨by (with_reducible repeat (first | refine blk_drewN ?_ _ | refine blk_drew ?_ | refine blk_alloc ?_ _)); exact BK129.out⟩, ⟨by (with_reducible repeat (first | refine blk_drewN ?_ _ | refine blk_drew ?_ | refine blk_alloc ?_ _)); exact BK130.out⟩, ⟨by repeat (first | (with_reducible first | exact HB.out | apply below_alloc | apply pw_below_drewN | apply below_drew1 | refine below_set ?_ GE129.out | refine below_set ?_ GE130.out) | exact HB.out)⟩⟩
  case rest =>
    clear HC3
    obtain ⟨kq, x27_2, rfl, HA, HJ2, BK129, BK130, HB⟩ := hcut
    cases kq with
    | zero => exact absurd HA.out (by simp [amalgamref03_Exact.j0])
    | succ kj2 =>
      have H := HA.out
      clear HA
      simp only [amalgamref03_Exact.j0] at H
      by_cases c17 : x27_2 = true
      · subst c17
        have H1 : (some false) = some r := by rw [if_pos rfl] at H; exact H
        clear H
        have H := H1
        clear H1
        obtain rfl := Option.some.inj H
        go_wp2
        go_ret
        exact ⟨by first | rfl | (simp [errW_none, errW_some] <;> rfl) | (simp [*, errW_none, errW_some] <;> rfl), by repeat (first | (with_reducible first | exact HB.out | apply below_alloc | apply pw_below_drewN | apply below_drew1 | refine below_set ?_ GE129.out | refine below_set ?_ GE130.out) | exact HB.out)⟩
      · replace c17 := Bool.eq_false_iff.mpr c17
        subst c17
        have H1 : (amalgamref03_Exact.l0 kj2 0 a0_0 a0_1 l0_2 a1_0 a1_1 l1_2) = some r := by rw [if_neg (show ¬ (false = true) by decide)] at H; exact H
        clear H
        have H := H1
        clear H1
        have H' := Aside0.mk H
        clear H
        go_wp2
        go_loopg [5] kj2 (fun kq v5 w' => ∃ (x5_2 : Int), v5 = .int .i64 x5_2 ∧ Aside0 (amalgamref03_Exact.l0 kq x5_2 a0_0 a0_1 l0_2 a1_0 a1_1 l1_2 = some r) ∧ Aside0 (kq ≤ kj2) ∧ Aside0 (w'.heap[gb129]? = some (.cells #[.string a0_0, .int .i64 a0_1, (.slice A0_2 l0_2.length c0_2)] 27 (0, 0))) ∧ Aside0 (w'.heap[gb130]? = some (.cells #[.string a1_0, .int .i64 a1_1, (.slice A1_2 l1_2.length c1_2)] 27 (0, 0))) ∧ Aside0 (Below w.heap.size w w'))
        case atStart => exact ⟨(0), (by first | rfl | (simp; done) | (simp [*]; done)), H', ⟨Nat.le_refl _⟩, ⟨by (with_reducible repeat (first | refine blk_drewN ?_ _ | refine blk_drew ?_ | refine blk_alloc ?_ _)); exact BK129.out⟩, ⟨by (with_reducible repeat (first | refine blk_drewN ?_ _ | refine blk_drew ?_ | refine blk_alloc ?_ _)); exact BK130.out⟩, ⟨by repeat (first | (with_reducible first | exact HB.out | apply below_alloc | apply pw_below_drewN | apply below_drew1 | refine below_set ?_ GE129.out | refine below_set ?_ GE130.out) | exact HB.out)⟩⟩
        case round =>
          clear H'
          obtain ⟨x5_2, rfl, HA, HK2, BK129, BK130, HB⟩ := hrel
          cases gk with
          | zero => exact absurd HA.out (by simp [amalgamref03_Exact.l0])
          | succ k2 =>
            have H := HA.out
            clear HA
            simp only [amalgamref03_Exact.l0] at H
            by_cases c18 : x5_2 < (l0_2.length : Int)
            · rw [if_pos c18] at H
              have c18b0 : decide (x5_2 < (l0_2.length : Int)) = true := decide_eq_true c18
              clear c18
              by_cases c19 : 0 ≤ x5_2
              · rw [if_pos c19] at H
                have c19b0 : decide (0 ≤ x5_2) = true := decide_eq_true c19
                clear c19
                by_cases c20 : x5_2 < (l1_2.length : Int)
                · rw [if_pos c20] at H
                  have c20b0 : decide (x5_2 < (l1_2.length : Int)) = true := decide_eq_true c20
                  clear c20
                  replace H := Option.bind_eq_some_iff.mp H
                  obtain ⟨t133, A210, H⟩ := H
                  replace H : (if t133 = true then (amalgamref03_Exact.l0 k2 (wrap64 (x5_2 + 1)) a0_0 a0_1 l0_2 a1_0 a1_1 l1_2) else (some false)) = some r := H
                  have A21 := Aside0.mk A210
                  clear A210
                  by_cases c22 : t133 = true
                  · subst c22
                    have H1 : (amalgamref03_Exact.l0 k2 (wrap64 (x5_2 + 1)) a0_0 a0_1 l0_2 a1_0 a1_1 l1_2) = some r := by rw [if_pos rfl] at H; exact H
                    clear H
                    have H := H1
                    clear H1
                    have H' := Aside0.mk H
                    clear H
                    have hnb23 := NB129_130.out
                    have hnc23 := NB130_129.out
                    have hcz24_0 : wr.cell? ⟨gb129, 0, none⟩ = some (.string a0_0) := (blk_cell BK129.out 0).trans rfl
                    have hcz24_1 : wr.cell? ⟨gb129, 1, none⟩ = some (.int .i64 a0_1) := (blk_cell BK129.out 1).trans rfl
                    have hcz24_2 : wr.cell? ⟨gb129, 2, none⟩ = some (.slice A0_2 l0_2.length c0_2) := (blk_cell BK129.out 2).trans rfl
                    have hfz24_0 := blk_frozen BK129.out 0
                    have hfz24_1 := blk_frozen BK129.out 1
                    have hfz24_2 := blk_frozen BK129.out 2
                    try go_wp2
                    have n0_ := Aside0.mk (blk_drew BK129.out)
                    have n1_ := Aside0.mk (blk_drew BK130.out)
                    have n2_ := Aside0.mk (below_drew1 HB.out)
                    clear BK129
                    clear BK130
                    clear HB
                    have BK129 := n0_
                    have BK130 := n1_
                    have HB := n2_
                    clear n0_ n1_ n2_
                    have p131 : 0 ≤ (x5_2 : Int) := of_decide_eq_true (by first | (with_reducible assumption) | assumption)
                    have q131 : x5_2 < (l0_2.length : Int) := of_decide_eq_true (by first | (with_reducible assumption) | assumption)
                    obtain ⟨ad131, A131_2, c131_2, e131, hx131_0, hx131_1, hx131_2, hl131_2, hi131_2⟩ := at_T27 HR0_2.out x5_2 p131 q131
                    have hw131_2 := hx131_2
                    have hw131_1 := hx131_1
                    have hw131_0 := hx131_0
                    cases e131
                    replace hx131_0 := (HB.out.cell (World.block_lt_of_cell? w _ hx131_0)).trans hx131_0
                    replace hx131_1 := (HB.out.cell (World.block_lt_of_cell? w _ hx131_1)).trans hx131_1
                    replace hx131_2 := (HB.out.cell (World.block_lt_of_cell? w _ hx131_2)).trans hx131_2
                    have HR131_2 := Aside0.mk hi131_2
                    have HC131_2 := Aside0.mk hl131_2
                    clear hi131_2 hl131_2
                    replace p131 := eq_true p131
                    replace q131 := eq_true q131
                    have p132 : 0 ≤ (x5_2 : Int) := of_decide_eq_true (by first | (with_reducible assumption) | assumption)
                    have q132 : x5_2 < (l1_2.length : Int) := of_decide_eq_true (by first | (with_reducible assumption) | assumption)
                    obtain ⟨ad132, A132_2, c132_2, e132, hx132_0, hx132_1, hx132_2, hl132_2, hi132_2⟩ := at_T27 HR1_2.out x5_2 p132 q132
                    have hw132_2 := hx132_2
                    have hw132_1 := hx132_1
                    have hw132_0 := hx132_0
                    cases e132
                    replace hx132_0 := (HB.out.cell (World.block_lt_of_cell? w _ hx132_0)).trans hx132_0
                    replace hx132_1 := (HB.out.cell (World.block_lt_of_cell? w _ hx132_1)).trans hx132_1
                    replace hx132_2 := (HB.out.cell (World.block_lt_of_cell? w _ hx132_2)).trans hx132_2
                    have HR132_2 := Aside0.mk hi132_2
                    have HC132_2 := Aside0.mk hl132_2
                    clear hi132_2 hl132_2
                    replace p132 := eq_true p132
                    replace q132 := eq_true q132
                    refine start_ (n := 12) (S := fun w' => w'.cell? ⟨gb129, 0, none⟩ = some (.string a0_0) ∧ w'.cell? ⟨gb129, 1, none⟩ = some (.int .i64 a0_1) ∧ w'.cell? ⟨gb129, 2, none⟩ = some (.slice (some ad131) l0_2.length c0_2) ∧ w'.cell? ⟨gb130, 0, none⟩ = some (.string a1_0) ∧ w'.cell? ⟨gb130, 1, none⟩ = some (.int .i64 a1_1) ∧ w'.cell? ⟨gb130, 2, none⟩ = some (.slice (some ad132) l1_2.length c1_2) ∧ w'.cell? (ad131.add ((x5_2).toNat * 3)) = some (.string ((rd_T27 l0_2 x5_2).f0)) ∧ w'.cell? ⟨(ad131.add ((x5_2).toNat * 3)).block, (ad131.add ((x5_2).toNat * 3)).off + 1, none⟩ = some (.int .i64 ((rd_T27 l0_2 x5_2).f1)) ∧ w'.cell? ⟨(ad131.add ((x5_2).toNat * 3)).block, (ad131.add ((x5_2).toNat * 3)).off + 2, none⟩ = some (.slice A131_2 ((rd_T27 l0_2 x5_2).f2).length c131_2) ∧ w'.cell? (ad132.add ((x5_2).toNat * 3)) = some (.string ((rd_T27 l1_2 x5_2).f0)) ∧ w'.cell? ⟨(ad132.add ((x5_2).toNat * 3)).block, (ad132.add ((x5_2).toNat * 3)).off + 1, none⟩ = some (.int .i64 ((rd_T27 l1_2 x5_2).f1)) ∧ w'.cell? ⟨(ad132.add ((x5_2).toNat * 3)).block, (ad132.add ((x5_2).toNat * 3)).off + 2, none⟩ = some (.slice A132_2 ((rd_T27 l1_2 x5_2).f2).length c132_2)) (ds := []) #[false, false, false, false, false, false, false, false, false, false, false, false] (by kernel_rfl) rfl rfl ⟨(blk_cell BK129.out 0).trans rfl, (blk_cell BK129.out 1).trans rfl, (blk_cell BK129.out 2).trans rfl, (blk_cell BK130.out 0).trans rfl, (blk_cell BK130.out 1).trans rfl, (blk_cell BK130.out 2).trans rfl, ((HB.out.cell (World.block_lt_of_cell? w _ hw131_0)).trans hw131_0), ((HB.out.cell (World.block_lt_of_cell? w _ hw131_1)).trans hw131_1), ((HB.out.cell (World.block_lt_of_cell? w _ hw131_2)).trans hw131_2), ((HB.out.cell (World.block_lt_of_cell? w _ hw132_0)).trans hw132_0), ((HB.out.cell (World.block_lt_of_cell? w _ hw132_1)).trans hw132_1), ((HB.out.cell (World.block_lt_of_cell? w _ hw132_2)).trans hw132_2)⟩ (fun hHeld => ?_); refine with_tabW amalgamref03_Exact.tab6 amalgamref03_Exact.bits6 (fun HT_ HW_ => ?_)
                    generalize wr.drew = w25 at BK129 BK130 HB HR131_2 HR132_2 hx131_0 hx131_1 hx131_2 hx132_0 hx132_1 hx132_2 hHeld ⊢
                    refine pure_ (i := 0) (N := some 35) (v := ?_) (a' := ?_) #[true, false, false, false, false, false, false, false, false, false, false, false] rfl rfl (any_of HT_.out (by kernel_rfl)) (fun _ _ _ h => h) (Or.inl ⟨by rfl, ?_⟩) ?_ ?_
                    rotate_left
                    · intro w'
                      go_simp
                      first | (with_reducible rfl) | (rw [if_neg (by simp only [decide_eq_true_eq, ByteArray.size_append] at *; omega)])
                    rotate_left
                    · simp only [Act.put, List.setIfInBounds_toArray, List.set_cons_zero, List.set_cons_succ, i64_w, i32_w]
                      rfl
                    refine pure_ (i := 2) (N := some 37) (v := ?_) (a' := ?_) #[true, false, true, false, false, false, false, false, false, false, false, false] rfl rfl (any_of HT_.out (by kernel_rfl)) (fun _ _ _ h => h) (Or.inl ⟨by rfl, ?_⟩) ?_ ?_
                    rotate_left
                    · intro w'
                      go_simp
                      first | (with_reducible rfl) | (rw [if_neg (by simp only [decide_eq_true_eq, ByteArray.size_append] at *; omega)])
                    rotate_left
                    · simp only [Act.put, List.setIfInBounds_toArray, List.set_cons_zero, List.set_cons_succ, i64_w, i32_w]
                      rfl
                    refine pure_ (i := 5) (N := some 40) (v := ?_) (a' := ?_) #[true, false, true, false, false, true, false, false, false, false, false, false] rfl rfl (any_of HT_.out (by kernel_rfl)) (fun _ _ _ h => h) (Or.inl ⟨by rfl, ?_⟩) ?_ ?_
                    rotate_left
                    · intro w'
                      go_simp
                      first | (with_reducible rfl) | (rw [if_neg (by simp only [decide_eq_true_eq, ByteArray.size_append] at *; omega)])
                    rotate_left
                    · simp only [Act.put, List.setIfInBounds_toArray, List.set_cons_zero, List.set_cons_succ, i64_w, i32_w]
                      rfl
                    refine pure_ (i := 7) (N := some 42) (v := ?_) (a' := ?_) #[true, false, true, false, false, true, false, true, false, false, false, false] rfl rfl (any_of HT_.out (by kernel_rfl)) (fun _ _ _ h => h) (Or.inl ⟨by rfl, ?_⟩) ?_ ?_
                    rotate_left
                    · intro w'
                      go_simp
                      first | (with_reducible rfl) | (rw [if_neg (by simp only [decide_eq_true_eq, ByteArray.size_append] at *; omega)])
                    rotate_left
                    · simp only [Act.put, List.setIfInBounds_toArray, List.set_cons_zero, List.set_cons_succ, i64_w, i32_w]
                      rfl
                    refine take_ (i := 1) (N := some 36) (v := ?_) (a' := ?_) #[true, true, true, false, false, true, false, true, false, false, false, false] rfl rfl (take_ofW HT_.out HW_.out (by kernel_rfl)) (fun _ _ _ h => h) (Or.inl ⟨by rfl, ?_⟩) hHeld ?_ ?_
                    rotate_left
                    · rintro w' ⟨s0, s1, s2, s3, s4, s5, s6, s7, s8, s9, s10, s11⟩
                      go_simp
                      first | (with_reducible rfl) | (rw [if_neg (by simp only [decide_eq_true_eq, ByteArray.size_append] at *; omega)])
                    rotate_left
                    · simp only [Act.put, List.setIfInBounds_toArray, List.set_cons_zero, List.set_cons_succ, i64_w, i32_w]
                      rfl
                    refine pure_ (i := 3) (N := some 38) (v := ?_) (a' := ?_) #[true, true, true, true, false, true, false, true, false, false, false, false] rfl rfl (any_of HT_.out (by kernel_rfl)) (fun _ _ _ h => h) (Or.inl ⟨by rfl, ?_⟩) ?_ ?_
                    rotate_left
                    · intro w'
                      go_simp
                      first | (with_reducible rfl) | (rw [if_neg (by simp only [decide_eq_true_eq, ByteArray.size_append] at *; omega)])
                    rotate_left
                    · simp only [Act.put, List.setIfInBounds_toArray, List.set_cons_zero, List.set_cons_succ, i64_w, i32_w]
                      rfl
                    refine take_ (i := 4) (N := some 39) (v := ?_) (a' := ?_) #[true, true, true, true, true, true, false, true, false, false, false, false] rfl rfl (take_ofW HT_.out HW_.out (by kernel_rfl)) (fun _ _ _ h => h) (Or.inl ⟨by rfl, ?_⟩) hHeld ?_ ?_
                    rotate_left
                    · rintro w' ⟨s0, s1, s2, s3, s4, s5, s6, s7, s8, s9, s10, s11⟩
                      go_simp
                      first | (with_reducible rfl) | (rw [if_neg (by simp only [decide_eq_true_eq, ByteArray.size_append] at *; omega)])
                    rotate_left
                    · simp only [Act.put, List.setIfInBounds_toArray, List.set_cons_zero, List.set_cons_succ, i64_w, i32_w]
                      rfl
                    refine take_ (i := 6) (N := some 41) (v := ?_) (a' := ?_) #[true, true, true, true, true, true, true, true, false, false, false, false] rfl rfl (take_ofW HT_.out HW_.out (by kernel_rfl)) (fun _ _ _ h => h) (Or.inl ⟨by rfl, ?_⟩) hHeld ?_ ?_
                    rotate_left
                    · rintro w' ⟨s0, s1, s2, s3, s4, s5, s6, s7, s8, s9, s10, s11⟩
                      go_simp
                      first | (with_reducible rfl) | (rw [if_neg (by simp only [decide_eq_true_eq, ByteArray.size_append] at *; omega)])
                    rotate_left
                    · simp only [Act.put, List.setIfInBounds_toArray, List.set_cons_zero, List.set_cons_succ, i64_w, i32_w]
                      rfl
                    refine pure_ (i := 8) (N := some 43) (v := ?_) (a' := ?_) #[true, true, true, true, true, true, true, true, true, false, false, false] rfl rfl (any_of HT_.out (by kernel_rfl)) (fun _ _ _ h => h) (Or.inl ⟨by rfl, ?_⟩) ?_ ?_
                    rotate_left
                    · intro w'
                      go_simp
                      first | (with_reducible rfl) | (rw [if_neg (by simp only [decide_eq_true_eq, ByteArray.size_append] at *; omega)])
                    rotate_left
                    · simp only [Act.put, List.setIfInBounds_toArray, List.set_cons_zero, List.set_cons_succ, i64_w, i32_w]
                      rfl
                    refine take_ (i := 9) (N := some 44) (v := ?_) (a' := ?_) #[true, true, true, true, true, true, true, true, true, true, false, false] rfl rfl (take_ofW HT_.out HW_.out (by kernel_rfl)) (fun _ _ _ h => h) (Or.inl ⟨by rfl, ?_⟩) hHeld ?_ ?_
                    rotate_left
                    · rintro w' ⟨s0, s1, s2, s3, s4, s5, s6, s7, s8, s9, s10, s11⟩
                      go_simp
                      first | (with_reducible rfl) | (rw [if_neg (by simp only [decide_eq_true_eq, ByteArray.size_append] at *; omega)])
                    rotate_left
                    · simp only [Act.put, List.setIfInBounds_toArray, List.set_cons_zero, List.set_cons_succ, i64_w, i32_w]
                      rfl
                    refine one_ (i := 10) (N := some 45) #[true, true, true, true, true, true, true, true, true, true, true, false] rfl rfl (one_of HT_.out (by kernel_rfl)) (by decide) (fun K hK => ?_)
                    refine goes_ Try.func8 (by kernel_rfl) rfl #[.agg #[.string ((rd_T27 l0_2 x5_2).f0), .int .i64 ((rd_T27 l0_2 x5_2).f1), .slice A131_2 ((rd_T27 l0_2 x5_2).f2).length c131_2], .agg #[.string ((rd_T27 l1_2 x5_2).f0), .int .i64 ((rd_T27 l1_2 x5_2).f1), .slice A132_2 ((rd_T27 l1_2 x5_2).f2).length c132_2]] (by rfl) rfl rfl (by (try simp only [List.map_toArray, List.map_cons, List.map_nil]); first | done | rfl | (simp only [List.length_drop, List.length_take]; rfl)) ?_
                    with_reducible refine (ih k2 (by have := HJ2.out; have := HK2.out; omega) ((rd_T27 l0_2 x5_2).f0) ((rd_T27 l0_2 x5_2).f1) _ _ ((rd_T27 l0_2 x5_2).f2) ((rd_T27 l1_2 x5_2).f0) ((rd_T27 l1_2 x5_2).f1) _ _ ((rd_T27 l1_2 x5_2).f2) true _ ?side1 ?side2 ?side3 ?side4 A21.out).mono ?_
                    (case side1 => repeat (first | exact (Kd.C_below HR131_2.out HB.out) | (with_reducible refine Kd.C_alloc ?_ _) | (with_reducible refine Kd.C_drewN ?_ _) | (with_reducible refine Kd.C_drew ?_)))
                    (case side2 => exact HC131_2.out)
                    (case side3 => repeat (first | exact (Kd.C_below HR132_2.out HB.out) | (with_reducible refine Kd.C_alloc ?_ _) | (with_reducible refine Kd.C_drewN ?_ _) | (with_reducible refine Kd.C_drew ?_)))
                    (case side4 => exact HC132_2.out)
                    rintro e w26 ⟨rfl, hb⟩
                    refine ⟨_, rfl, ?_⟩
                    have n0_ := Aside0.mk (blk_below (g := gb129) (o := .cells #[.string a0_0, .int .i64 a0_1, .slice (some ad131) l0_2.length c0_2] 27 (0, 0)) (by (with_reducible repeat (first | refine blk_drewN ?_ _ | refine blk_drew ?_ | refine blk_alloc ?_ _)); exact BK129.out) hb)
                    have n1_ := Aside0.mk (blk_below (g := gb130) (o := .cells #[.string a1_0, .int .i64 a1_1, .slice (some ad132) l1_2.length c1_2] 27 (0, 0)) (by (with_reducible repeat (first | refine blk_drewN ?_ _ | refine blk_drew ?_ | refine blk_alloc ?_ _)); exact BK130.out) hb)
                    have n2_ := Aside0.mk (below_step (by repeat (first | (with_reducible first | exact HB.out | apply below_alloc | apply pw_below_drewN | apply below_drew1 | refine below_set ?_ GE129.out | refine below_set ?_ GE130.out) | exact HB.out)) hb)
                    clear BK129
                    clear BK130
                    clear HB
                    have BK129 := n0_
                    have BK130 := n1_
                    have HB := n2_
                    clear n0_ n1_ n2_
                    (try clear hb)
                    (try clear hb2)
                    (try clear hk)
                    (try clear hi)
                    refine hK.out _ _ ⟨(blk_cell BK129.out 0).trans rfl, (blk_cell BK129.out 1).trans rfl, (blk_cell BK129.out 2).trans rfl, (blk_cell BK130.out 0).trans rfl, (blk_cell BK130.out 1).trans rfl, (blk_cell BK130.out 2).trans rfl, ((HB.out.cell (World.block_lt_of_cell? w _ hw131_0)).trans hw131_0), ((HB.out.cell (World.block_lt_of_cell? w _ hw131_1)).trans hw131_1), ((HB.out.cell (World.block_lt_of_cell? w _ hw131_2)).trans hw131_2), ((HB.out.cell (World.block_lt_of_cell? w _ hw132_0)).trans hw132_0), ((HB.out.cell (World.block_lt_of_cell? w _ hw132_1)).trans hw132_1), ((HB.out.cell (World.block_lt_of_cell? w _ hw132_2)).trans hw132_2)⟩ (fun hHeld => ?_)
                    clear hK K
                    refine norm_ (a' := ?_) ?_ ?_
                    rotate_left
                    · show Act.put _ (some 45) _ = _
                      simp only [Act.put, List.setIfInBounds_toArray, List.set_cons_zero, List.set_cons_succ, i64_w, i32_w]
                      rfl
                    refine pure_ (i := 11) (N := some 6) (v := ?_) (a' := ?_) #[true, true, true, true, true, true, true, true, true, true, true, true] rfl rfl (any_of HT_.out (by kernel_rfl)) (fun _ _ _ h => h) (Or.inl ⟨by rfl, ?_⟩) ?_ ?_
                    rotate_left
                    · intro w'
                      go_simp
                      first | (with_reducible rfl) | (rw [if_neg (by simp only [decide_eq_true_eq, ByteArray.size_append] at *; omega)])
                    rotate_left
                    · simp only [Act.put, List.setIfInBounds_toArray, List.set_cons_zero, List.set_cons_succ, i64_w, i32_w]
                      rfl
                    refine done_ (done_of HT_.out (by kernel_rfl)) ?_
                    try go_wp2
                    go_roundg k2
                    case measure => have := HJ2.out; have := HK2.out; omega
                    case rel => exact ⟨(wrap64 (x5_2 + 1)), (by first | rfl | (simp; done) | (simp [*]; done)), H', ⟨by have := HJ2.out; have := HK2.out; omega⟩, ⟨by (with_reducible repeat (first | refine blk_drewN ?_ _ | refine blk_drew ?_ | refine blk_alloc ?_ _)); exact BK129.out⟩, ⟨by (with_reducible repeat (first | refine blk_drewN ?_ _ | refine blk_drew ?_ | refine blk_alloc ?_ _)); exact BK130.out⟩, ⟨by repeat (first | (with_reducible first | exact HB.out | apply below_alloc | apply pw_below_drewN | apply below_drew1 | refine below_set ?_ GE129.out | refine below_set ?_ GE130.out) | exact HB.out)⟩⟩
                  · replace c22 := Bool.eq_false_iff.mpr c22
                    subst c22
                    have H1 : (some false) = some r := by rw [if_neg (show ¬ (false = true) by decide)] at H; exact H
                    clear H
                    have H := H1
                    clear H1
                    obtain rfl := Option.some.inj H
                    have hnb27 := NB129_130.out
                    have hnc27 := NB130_129.out
                    have hcz28_0 : wr.cell? ⟨gb129, 0, none⟩ = some (.string a0_0) := (blk_cell BK129.out 0).trans rfl
                    have hcz28_1 : wr.cell? ⟨gb129, 1, none⟩ = some (.int .i64 a0_1) := (blk_cell BK129.out 1).trans rfl
                    have hcz28_2 : wr.cell? ⟨gb129, 2, none⟩ = some (.slice A0_2 l0_2.length c0_2) := (blk_cell BK129.out 2).trans rfl
                    have hfz28_0 := blk_frozen BK129.out 0
                    have hfz28_1 := blk_frozen BK129.out 1
                    have hfz28_2 := blk_frozen BK129.out 2
                    try go_wp2
                    have n0_ := Aside0.mk (blk_drew BK129.out)
                    have n1_ := Aside0.mk (blk_drew BK130.out)
                    have n2_ := Aside0.mk (below_drew1 HB.out)
                    clear BK129
                    clear BK130
                    clear HB
                    have BK129 := n0_
                    have BK130 := n1_
                    have HB := n2_
                    clear n0_ n1_ n2_
                    have p131 : 0 ≤ (x5_2 : Int) := of_decide_eq_true (by first | (with_reducible assumption) | assumption)
                    have q131 : x5_2 < (l0_2.length : Int) := of_decide_eq_true (by first | (with_reducible assumption) | assumption)
                    obtain ⟨ad131, A131_2, c131_2, e131, hx131_0, hx131_1, hx131_2, hl131_2, hi131_2⟩ := at_T27 HR0_2.out x5_2 p131 q131
                    have hw131_2 := hx131_2
                    have hw131_1 := hx131_1
                    have hw131_0 := hx131_0
                    cases e131
                    replace hx131_0 := (HB.out.cell (World.block_lt_of_cell? w _ hx131_0)).trans hx131_0
                    replace hx131_1 := (HB.out.cell (World.block_lt_of_cell? w _ hx131_1)).trans hx131_1
                    replace hx131_2 := (HB.out.cell (World.block_lt_of_cell? w _ hx131_2)).trans hx131_2
                    have HR131_2 := Aside0.mk hi131_2
                    have HC131_2 := Aside0.mk hl131_2
                    clear hi131_2 hl131_2
                    replace p131 := eq_true p131
                    replace q131 := eq_true q131
                    have p132 : 0 ≤ (x5_2 : Int) := of_decide_eq_true (by first | (with_reducible assumption) | assumption)
                    have q132 : x5_2 < (l1_2.length : Int) := of_decide_eq_true (by first | (with_reducible assumption) | assumption)
                    obtain ⟨ad132, A132_2, c132_2, e132, hx132_0, hx132_1, hx132_2, hl132_2, hi132_2⟩ := at_T27 HR1_2.out x5_2 p132 q132
                    have hw132_2 := hx132_2
                    have hw132_1 := hx132_1
                    have hw132_0 := hx132_0
                    cases e132
                    replace hx132_0 := (HB.out.cell (World.block_lt_of_cell? w _ hx132_0)).trans hx132_0
                    replace hx132_1 := (HB.out.cell (World.block_lt_of_cell? w _ hx132_1)).trans hx132_1
                    replace hx132_2 := (HB.out.cell (World.block_lt_of_cell? w _ hx132_2)).trans hx132_2
                    have HR132_2 := Aside0.mk hi132_2
                    have HC132_2 := Aside0.mk hl132_2
                    clear hi132_2 hl132_2
                    replace p132 := eq_true p132
                    replace q132 := eq_true q132
                    refine start_ (n := 12) (S := fun w' => w'.cell? ⟨gb129, 0, none⟩ = some (.string a0_0) ∧ w'.cell? ⟨gb129, 1, none⟩ = some (.int .i64 a0_1) ∧ w'.cell? ⟨gb129, 2, none⟩ = some (.slice (some ad131) l0_2.length c0_2) ∧ w'.cell? ⟨gb130, 0, none⟩ = some (.string a1_0) ∧ w'.cell? ⟨gb130, 1, none⟩ = some (.int .i64 a1_1) ∧ w'.cell? ⟨gb130, 2, none⟩ = some (.slice (some ad132) l1_2.length c1_2) ∧ w'.cell? (ad131.add ((x5_2).toNat * 3)) = some (.string ((rd_T27 l0_2 x5_2).f0)) ∧ w'.cell? ⟨(ad131.add ((x5_2).toNat * 3)).block, (ad131.add ((x5_2).toNat * 3)).off + 1, none⟩ = some (.int .i64 ((rd_T27 l0_2 x5_2).f1)) ∧ w'.cell? ⟨(ad131.add ((x5_2).toNat * 3)).block, (ad131.add ((x5_2).toNat * 3)).off + 2, none⟩ = some (.slice A131_2 ((rd_T27 l0_2 x5_2).f2).length c131_2) ∧ w'.cell? (ad132.add ((x5_2).toNat * 3)) = some (.string ((rd_T27 l1_2 x5_2).f0)) ∧ w'.cell? ⟨(ad132.add ((x5_2).toNat * 3)).block, (ad132.add ((x5_2).toNat * 3)).off + 1, none⟩ = some (.int .i64 ((rd_T27 l1_2 x5_2).f1)) ∧ w'.cell? ⟨(ad132.add ((x5_2).toNat * 3)).block, (ad132.add ((x5_2).toNat * 3)).off + 2, none⟩ = some (.slice A132_2 ((rd_T27 l1_2 x5_2).f2).length c132_2)) (ds := []) #[false, false, false, false, false, false, false, false, false, false, false, false] (by kernel_rfl) rfl rfl ⟨(blk_cell BK129.out 0).trans rfl, (blk_cell BK129.out 1).trans rfl, (blk_cell BK129.out 2).trans rfl, (blk_cell BK130.out 0).trans rfl, (blk_cell BK130.out 1).trans rfl, (blk_cell BK130.out 2).trans rfl, ((HB.out.cell (World.block_lt_of_cell? w _ hw131_0)).trans hw131_0), ((HB.out.cell (World.block_lt_of_cell? w _ hw131_1)).trans hw131_1), ((HB.out.cell (World.block_lt_of_cell? w _ hw131_2)).trans hw131_2), ((HB.out.cell (World.block_lt_of_cell? w _ hw132_0)).trans hw132_0), ((HB.out.cell (World.block_lt_of_cell? w _ hw132_1)).trans hw132_1), ((HB.out.cell (World.block_lt_of_cell? w _ hw132_2)).trans hw132_2)⟩ (fun hHeld => ?_); refine with_tabW amalgamref03_Exact.tab6 amalgamref03_Exact.bits6 (fun HT_ HW_ => ?_)
                    generalize wr.drew = w29 at BK129 BK130 HB HR131_2 HR132_2 hx131_0 hx131_1 hx131_2 hx132_0 hx132_1 hx132_2 hHeld ⊢
                    refine pure_ (i := 0) (N := some 35) (v := ?_) (a' := ?_) #[true, false, false, false, false, false, false, false, false, false, false, false] rfl rfl (any_of HT_.out (by kernel_rfl)) (fun _ _ _ h => h) (Or.inl ⟨by rfl, ?_⟩) ?_ ?_
                    rotate_left
                    · intro w'
                      go_simp
                      first | (with_reducible rfl) | (rw [if_neg (by simp only [decide_eq_true_eq, ByteArray.size_append] at *; omega)])
                    rotate_left
                    · simp only [Act.put, List.setIfInBounds_toArray, List.set_cons_zero, List.set_cons_succ, i64_w, i32_w]
                      rfl
                    refine pure_ (i := 2) (N := some 37) (v := ?_) (a' := ?_) #[true, false, true, false, false, false, false, false, false, false, false, false] rfl rfl (any_of HT_.out (by kernel_rfl)) (fun _ _ _ h => h) (Or.inl ⟨by rfl, ?_⟩) ?_ ?_
                    rotate_left
                    · intro w'
                      go_simp
                      first | (with_reducible rfl) | (rw [if_neg (by simp only [decide_eq_true_eq, ByteArray.size_append] at *; omega)])
                    rotate_left
                    · simp only [Act.put, List.setIfInBounds_toArray, List.set_cons_zero, List.set_cons_succ, i64_w, i32_w]
                      rfl
                    refine pure_ (i := 5) (N := some 40) (v := ?_) (a' := ?_) #[true, false, true, false, false, true, false, false, false, false, false, false] rfl rfl (any_of HT_.out (by kernel_rfl)) (fun _ _ _ h => h) (Or.inl ⟨by rfl, ?_⟩) ?_ ?_
                    rotate_left
                    · intro w'
                      go_simp
                      first | (with_reducible rfl) | (rw [if_neg (by simp only [decide_eq_true_eq, ByteArray.size_append] at *; omega)])
                    rotate_left
                    · simp only [Act.put, List.setIfInBounds_toArray, List.set_cons_zero, List.set_cons_succ, i64_w, i32_w]
                      rfl
                    refine pure_ (i := 7) (N := some 42) (v := ?_) (a' := ?_) #[true, false, true, false, false, true, false, true, false, false, false, false] rfl rfl (any_of HT_.out (by kernel_rfl)) (fun _ _ _ h => h) (Or.inl ⟨by rfl, ?_⟩) ?_ ?_
                    rotate_left
                    · intro w'
                      go_simp
                      first | (with_reducible rfl) | (rw [if_neg (by simp only [decide_eq_true_eq, ByteArray.size_append] at *; omega)])
                    rotate_left
                    · simp only [Act.put, List.setIfInBounds_toArray, List.set_cons_zero, List.set_cons_succ, i64_w, i32_w]
                      rfl
                    refine take_ (i := 1) (N := some 36) (v := ?_) (a' := ?_) #[true, true, true, false, false, true, false, true, false, false, false, false] rfl rfl (take_ofW HT_.out HW_.out (by kernel_rfl)) (fun _ _ _ h => h) (Or.inl ⟨by rfl, ?_⟩) hHeld ?_ ?_
                    rotate_left
                    · rintro w' ⟨s0, s1, s2, s3, s4, s5, s6, s7, s8, s9, s10, s11⟩
                      go_simp
                      first | (with_reducible rfl) | (rw [if_neg (by simp only [decide_eq_true_eq, ByteArray.size_append] at *; omega)])
                    rotate_left
                    · simp only [Act.put, List.setIfInBounds_toArray, List.set_cons_zero, List.set_cons_succ, i64_w, i32_w]
                      rfl
                    refine pure_ (i := 3) (N := some 38) (v := ?_) (a' := ?_) #[true, true, true, true, false, true, false, true, false, false, false, false] rfl rfl (any_of HT_.out (by kernel_rfl)) (fun _ _ _ h => h) (Or.inl ⟨by rfl, ?_⟩) ?_ ?_
                    rotate_left
                    · intro w'
                      go_simp
                      first | (with_reducible rfl) | (rw [if_neg (by simp only [decide_eq_true_eq, ByteArray.size_append] at *; omega)])
                    rotate_left
                    · simp only [Act.put, List.setIfInBounds_toArray, List.set_cons_zero, List.set_cons_succ, i64_w, i32_w]
                      rfl
                    refine take_ (i := 4) (N := some 39) (v := ?_) (a' := ?_) #[true, true, true, true, true, true, false, true, false, false, false, false] rfl rfl (take_ofW HT_.out HW_.out (by kernel_rfl)) (fun _ _ _ h => h) (Or.inl ⟨by rfl, ?_⟩) hHeld ?_ ?_
                    rotate_left
                    · rintro w' ⟨s0, s1, s2, s3, s4, s5, s6, s7, s8, s9, s10, s11⟩
                      go_simp
                      first | (with_reducible rfl) | (rw [if_neg (by simp only [decide_eq_true_eq, ByteArray.size_append] at *; omega)])
                    rotate_left
                    · simp only [Act.put, List.setIfInBounds_toArray, List.set_cons_zero, List.set_cons_succ, i64_w, i32_w]
                      rfl
                    refine take_ (i := 6) (N := some 41) (v := ?_) (a' := ?_) #[true, true, true, true, true, true, true, true, false, false, false, false] rfl rfl (take_ofW HT_.out HW_.out (by kernel_rfl)) (fun _ _ _ h => h) (Or.inl ⟨by rfl, ?_⟩) hHeld ?_ ?_
                    rotate_left
                    · rintro w' ⟨s0, s1, s2, s3, s4, s5, s6, s7, s8, s9, s10, s11⟩
                      go_simp
                      first | (with_reducible rfl) | (rw [if_neg (by simp only [decide_eq_true_eq, ByteArray.size_append] at *; omega)])
                    rotate_left
                    · simp only [Act.put, List.setIfInBounds_toArray, List.set_cons_zero, List.set_cons_succ, i64_w, i32_w]
                      rfl
                    refine pure_ (i := 8) (N := some 43) (v := ?_) (a' := ?_) #[true, true, true, true, true, true, true, true, true, false, false, false] rfl rfl (any_of HT_.out (by kernel_rfl)) (fun _ _ _ h => h) (Or.inl ⟨by rfl, ?_⟩) ?_ ?_
                    rotate_left
                    · intro w'
                      go_simp
                      first | (with_reducible rfl) | (rw [if_neg (by simp only [decide_eq_true_eq, ByteArray.size_append] at *; omega)])
                    rotate_left
                    · simp only [Act.put, List.setIfInBounds_toArray, List.set_cons_zero, List.set_cons_succ, i64_w, i32_w]
                      rfl
                    refine take_ (i := 9) (N := some 44) (v := ?_) (a' := ?_) #[true, true, true, true, true, true, true, true, true, true, false, false] rfl rfl (take_ofW HT_.out HW_.out (by kernel_rfl)) (fun _ _ _ h => h) (Or.inl ⟨by rfl, ?_⟩) hHeld ?_ ?_
                    rotate_left
                    · rintro w' ⟨s0, s1, s2, s3, s4, s5, s6, s7, s8, s9, s10, s11⟩
                      go_simp
                      first | (with_reducible rfl) | (rw [if_neg (by simp only [decide_eq_true_eq, ByteArray.size_append] at *; omega)])
                    rotate_left
                    · simp only [Act.put, List.setIfInBounds_toArray, List.set_cons_zero, List.set_cons_succ, i64_w, i32_w]
                      rfl
                    refine one_ (i := 10) (N := some 45) #[true, true, true, true, true, true, true, true, true, true, true, false] rfl rfl (one_of HT_.out (by kernel_rfl)) (by decide) (fun K hK => ?_)
                    refine goes_ Try.func8 (by kernel_rfl) rfl #[.agg #[.string ((rd_T27 l0_2 x5_2).f0), .int .i64 ((rd_T27 l0_2 x5_2).f1), .slice A131_2 ((rd_T27 l0_2 x5_2).f2).length c131_2], .agg #[.string ((rd_T27 l1_2 x5_2).f0), .int .i64 ((rd_T27 l1_2 x5_2).f1), .slice A132_2 ((rd_T27 l1_2 x5_2).f2).length c132_2]] (by rfl) rfl rfl (by (try simp only [List.map_toArray, List.map_cons, List.map_nil]); first | done | rfl | (simp only [List.length_drop, List.length_take]; rfl)) ?_
                    with_reducible refine (ih k2 (by have := HJ2.out; have := HK2.out; omega) ((rd_T27 l0_2 x5_2).f0) ((rd_T27 l0_2 x5_2).f1) _ _ ((rd_T27 l0_2 x5_2).f2) ((rd_T27 l1_2 x5_2).f0) ((rd_T27 l1_2 x5_2).f1) _ _ ((rd_T27 l1_2 x5_2).f2) false _ ?side1 ?side2 ?side3 ?side4 A21.out).mono ?_
                    (case side1 => repeat (first | exact (Kd.C_below HR131_2.out HB.out) | (with_reducible refine Kd.C_alloc ?_ _) | (with_reducible refine Kd.C_drewN ?_ _) | (with_reducible refine Kd.C_drew ?_)))
                    (case side2 => exact HC131_2.out)
                    (case side3 => repeat (first | exact (Kd.C_below HR132_2.out HB.out) | (with_reducible refine Kd.C_alloc ?_ _) | (with_reducible refine Kd.C_drewN ?_ _) | (with_reducible refine Kd.C_drew ?_)))
                    (case side4 => exact HC132_2.out)
                    rintro e w30 ⟨rfl, hb⟩
                    refine ⟨_, rfl, ?_⟩
                    have n0_ := Aside0.mk (blk_below (g := gb129) (o := .cells #[.string a0_0, .int .i64 a0_1, .slice (some ad131) l0_2.length c0_2] 27 (0, 0)) (by (with_reducible repeat (first | refine blk_drewN ?_ _ | refine blk_drew ?_ | refine blk_alloc ?_ _)); exact BK129.out) hb)
                    have n1_ := Aside0.mk (blk_below (g := gb130) (o := .cells #[.string a1_0, .int .i64 a1_1, .slice (some ad132) l1_2.length c1_2] 27 (0, 0)) (by (with_reducible repeat (first | refine blk_drewN ?_ _ | refine blk_drew ?_ | refine blk_alloc ?_ _)); exact BK130.out) hb)
                    have n2_ := Aside0.mk (below_step (by repeat (first | (with_reducible first | exact HB.out | apply below_alloc | apply pw_below_drewN | apply below_drew1 | refine below_set ?_ GE129.out | refine below_set ?_ GE130.out) | exact HB.out)) hb)
                    clear BK129
                    clear BK130
                    clear HB
                    have BK129 := n0_
                    have BK130 := n1_
                    have HB := n2_
                    clear n0_ n1_ n2_
                    (try clear hb)
                    (try clear hb2)
                    (try clear hk)
                    (try clear hi)
                    refine hK.out _ _ ⟨(blk_cell BK129.out 0).trans rfl, (blk_cell BK129.out 1).trans rfl, (blk_cell BK129.out 2).trans rfl, (blk_cell BK130.out 0).trans rfl, (blk_cell BK130.out 1).trans rfl, (blk_cell BK130.out 2).trans rfl, ((HB.out.cell (World.block_lt_of_cell? w _ hw131_0)).trans hw131_0), ((HB.out.cell (World.block_lt_of_cell? w _ hw131_1)).trans hw131_1), ((HB.out.cell (World.block_lt_of_cell? w _ hw131_2)).trans hw131_2), ((HB.out.cell (World.block_lt_of_cell? w _ hw132_0)).trans hw132_0), ((HB.out.cell (World.block_lt_of_cell? w _ hw132_1)).trans hw132_1), ((HB.out.cell (World.block_lt_of_cell? w _ hw132_2)).trans hw132_2)⟩ (fun hHeld => ?_)
                    clear hK K
                    refine norm_ (a' := ?_) ?_ ?_
                    rotate_left
                    · show Act.put _ (some 45) _ = _
                      simp only [Act.put, List.setIfInBounds_toArray, List.set_cons_zero, List.set_cons_succ, i64_w, i32_w]
                      rfl
                    refine pure_ (i := 11) (N := some 6) (v := ?_) (a' := ?_) #[true, true, true, true, true, true, true, true, true, true, true, true] rfl rfl (any_of HT_.out (by kernel_rfl)) (fun _ _ _ h => h) (Or.inl ⟨by rfl, ?_⟩) ?_ ?_
                    rotate_left
                    · intro w'
                      go_simp
                      first | (with_reducible rfl) | (rw [if_neg (by simp only [decide_eq_true_eq, ByteArray.size_append] at *; omega)])
                    rotate_left
                    · simp only [Act.put, List.setIfInBounds_toArray, List.set_cons_zero, List.set_cons_succ, i64_w, i32_w]
                      rfl
                    refine done_ (done_of HT_.out (by kernel_rfl)) ?_
                    try go_wp2
                    go_ret
                    exact ⟨by first | rfl | (simp [errW_none, errW_some] <;> rfl) | (simp [*, errW_none, errW_some] <;> rfl), by repeat (first | (with_reducible first | exact HB.out | apply below_alloc | apply pw_below_drewN | apply below_drew1 | refine below_set ?_ GE129.out | refine below_set ?_ GE130.out) | exact HB.out)⟩
                · rw [if_neg c20] at H
                  exact absurd H (by simp)
              · rw [if_neg c19] at H
                exact absurd H (by simp)
            · rw [if_neg c18] at H
              have c18b0 : decide (x5_2 < (l0_2.length : Int)) = false := decide_eq_false c18
              clear c18
              obtain rfl := Option.some.inj H
              have hnb31 := NB129_130.out
              have hnc31 := NB130_129.out
              have hcz32_0 : wr.cell? ⟨gb129, 0, none⟩ = some (.string a0_0) := (blk_cell BK129.out 0).trans rfl
              have hcz32_1 : wr.cell? ⟨gb129, 1, none⟩ = some (.int .i64 a0_1) := (blk_cell BK129.out 1).trans rfl
              have hcz32_2 : wr.cell? ⟨gb129, 2, none⟩ = some (.slice A0_2 l0_2.length c0_2) := (blk_cell BK129.out 2).trans rfl
              have hfz32_0 := blk_frozen BK129.out 0
              have hfz32_1 := blk_frozen BK129.out 1
              have hfz32_2 := blk_frozen BK129.out 2
              go_wp2
              go_ret
              exact ⟨by first | rfl | (simp [errW_none, errW_some] <;> rfl) | (simp [*, errW_none, errW_some] <;> rfl), by repeat (first | (with_reducible first | exact HB.out | apply below_alloc | apply pw_below_drewN | apply below_drew1 | refine below_set ?_ GE129.out | refine below_set ?_ GE130.out) | exact HB.out)⟩

def amalgamref01_digit.f (a0 : Int) : Option (Bool) := if a0 ≥ 48 then (some (decide (a0 ≤ 57))) else (some false)
set_option maxHeartbeats 8000000 in
set_option maxRecDepth 100000 in
theorem amalgamref01_digit.calls (a0 : Int) (r : Bool) (w : World) (h : amalgamref01_digit.f a0 = some r) :
    Calls Try.prog 30 #[.int .u8 a0] w fun e w' => e = .returned (.bool r) ∧ Drawn0 w w' := by
  have H : (if a0 ≥ 48 then (some (decide (a0 ≤ 57))) else (some false)) = some r := h
  clear h
  by_cases c2 : a0 ≥ 48
  · rw [if_pos c2] at H
    have c2b0 : decide (48 ≤ a0) = true := decide_eq_true c2
    clear c2
    obtain rfl := Option.some.inj H
    go_enter Try.func30, Try.ntmps30
    go_wp2
    go_ret
    exact ⟨by first | rfl | (simp; done) | (simp [*]; done), by repeat (first | exact Drawn0.refl _ | apply Drawn0.step)⟩
  · rw [if_neg c2] at H
    have c2b0 : decide (48 ≤ a0) = false := decide_eq_false c2
    clear c2
    obtain rfl := Option.some.inj H
    go_enter Try.func30, Try.ntmps30
    go_wp2
    go_ret
    exact ⟨by first | rfl | (simp; done) | (simp [*]; done), by repeat (first | exact Drawn0.refl _ | apply Drawn0.step)⟩

def amalgamref01_low.f (a0 : Int) : Option (Bool) := if a0 ≥ 97 then (some (decide (a0 ≤ 122))) else (some false)
set_option maxHeartbeats 8000000 in
set_option maxRecDepth 100000 in
theorem amalgamref01_low.calls (a0 : Int) (r : Bool) (w : World) (h : amalgamref01_low.f a0 = some r) :
    Calls Try.prog 32 #[.int .u8 a0] w fun e w' => e = .returned (.bool r) ∧ Drawn0 w w' := by
  have H : (if a0 ≥ 97 then (some (decide (a0 ≤ 122))) else (some false)) = some r := h
  clear h
  by_cases c2 : a0 ≥ 97
  · rw [if_pos c2] at H
    have c2b0 : decide (97 ≤ a0) = true := decide_eq_true c2
    clear c2
    obtain rfl := Option.some.inj H
    go_enter Try.func32, Try.ntmps32
    go_wp2
    go_ret
    exact ⟨by first | rfl | (simp; done) | (simp [*]; done), by repeat (first | exact Drawn0.refl _ | apply Drawn0.step)⟩
  · rw [if_neg c2] at H
    have c2b0 : decide (97 ≤ a0) = false := decide_eq_false c2
    clear c2
    obtain rfl := Option.some.inj H
    go_enter Try.func32, Try.ntmps32
    go_wp2
    go_ret
    exact ⟨by first | rfl | (simp; done) | (simp [*]; done), by repeat (first | exact Drawn0.refl _ | apply Drawn0.step)⟩

end Go.Proofs.Ytpepjodkahdicaa.PTb
