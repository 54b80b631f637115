-- Written by programs of this session (wip/tools), cut to what the claim uses (wip/tools/prune.py).
import Derived.Test.YtpepjodkahdicaaPTbx0
import Derived.Test.YtpepjodkahdicaaPTbx17
-- Written by a program of this session (wip/tools/myprint.py): functions, contracts, their proofs. Lean checks it.
namespace Go.Proofs.Ytpepjodkahdicaa.PTb
open Go.RowKit Go.Proofs.YtpepjodkahdicaaW.PrintWords Go.Proofs.YtpepjodkahdicaaW.PrintLast Go.Proofs.YtpepjodkahdicaaW.PrintMore
attribute [local go_sem] max2_int min2_int max_two min_two max_three min_three max_four min_four   -- for this text's walks alone
set_option linter.unusedVariables false
set_option linter.unusedSimpArgs false
mutual
def terms_wrong.j0 : Nat → List (S62) → Int → Bool → ByteArray → Int → List (S27) → Option (Int)
  | 0, _, _, _, _, _, _ => none
  | k + 1, x0, x5, x9, x229000, x229001, x229002 => if x9 = true then (some 31) else (if x229000.toList = ([] : List UInt8) then (if x229001 < 0 then (terms_wrong.j1 k x0 x5 true x229000 x229001 x229002) else (terms_wrong.j1 k x0 x5 (decide (x229001 ≥ (x0.length : Int))) x229000 x229001 x229002)) else (some 0))
def terms_wrong.j1 : Nat → List (S62) → Int → Bool → ByteArray → Int → List (S27) → Option (Int)
  | 0, _, _, _, _, _, _ => none
  | k + 1, x0, x5, x32, x229000, x229001, x229002 => if x32 = true then (some 32) else (if 0 ≤ x229001 then (if x229001 < (x0.length : Int) then (if ((rd_T62 x0 x229001).f1) = 1 then (terms_wrong.j2 k x0 x5 (x5 != ((rd_T62 x0 x229001).f2)) x229000 x229001 x229002) else (terms_wrong.j2 k x0 x5 false x229000 x229001 x229002)) else (none)) else (none))
def terms_wrong.j2 : Nat → List (S62) → Int → Bool → ByteArray → Int → List (S27) → Option (Int)
  | 0, _, _, _, _, _, _ => none
  | k + 1, x0, x5, x43, x229000, x229001, x229002 => if x43 = true then (some 33) else (if 0 ≤ x229001 then (if x229001 < (x0.length : Int) then (if ((rd_T62 x0 x229001).f1) = 1 then (some 0) else (if x5 < 2 then (some 33) else (some 0))) else (none)) else (none))
end
def terms_wrong.f (k : Nat) (l0 : List (S62)) (a1_0 : ByteArray) (a1_1 : Int) (l1_2 : List (S27)) : Option (Int) := if a1_0.toList = ([] : List UInt8) then (terms_wrong.j0 k l0 (l1_2.length : Int) false a1_0 a1_1 l1_2) else ((sig_Var.f a1_0).bind fun t229 => (if t229 = true then (if a1_1 = 0 then (terms_wrong.j0 k l0 (l1_2.length : Int) (decide ((l1_2.length : Int) > 0)) a1_0 a1_1 l1_2) else (terms_wrong.j0 k l0 (l1_2.length : Int) true a1_0 a1_1 l1_2)) else (terms_wrong.j0 k l0 (l1_2.length : Int) true a1_0 a1_1 l1_2)))
theorem terms_wrong.mono_l : ∀ k, (∀ y0 y1 y2 y3 y4 y5, LeO (terms_wrong.j0 k y0 y1 y2 y3 y4 y5) (terms_wrong.j0 (k + 1) y0 y1 y2 y3 y4 y5)) ∧ (∀ y0 y1 y2 y3 y4 y5, LeO (terms_wrong.j1 k y0 y1 y2 y3 y4 y5) (terms_wrong.j1 (k + 1) y0 y1 y2 y3 y4 y5)) ∧ (∀ y0 y1 y2 y3 y4 y5, LeO (terms_wrong.j2 k y0 y1 y2 y3 y4 y5) (terms_wrong.j2 (k + 1) y0 y1 y2 y3 y4 y5))
  | 0 => ⟨fun _ _ _ _ _ _ r h => by simp [terms_wrong.j0] at h, fun _ _ _ _ _ _ r h => by simp [terms_wrong.j1] at h, fun _ _ _ _ _ _ r h => by simp [terms_wrong.j2] at h⟩
  | k + 1 => by
    obtain ⟨ih0, ih1, ih2⟩ := terms_wrong.mono_l k
    refine ⟨?_, ?_, ?_⟩
    · intro y0 y1 y2 y3 y4 y5
      unfold terms_wrong.j0
      repeat' first
      | (with_reducible exact ih0 _ _ _ _ _ _)
      | (with_reducible exact ih1 _ _ _ _ _ _)
      | (with_reducible exact ih2 _ _ _ _ _ _)
      | (with_reducible exact LeO.refl _)
      | (with_reducible exact LeO.none _)
      | (with_reducible refine LeO.ite ?_ ?_)
      | (with_reducible refine LeO.bind ?_ (fun _ => ?_))
      | exact ih0 _ _ _ _ _ _
      | exact ih1 _ _ _ _ _ _
      | exact ih2 _ _ _ _ _ _
      | exact LeO.none _
      | refine LeO.ite ?_ ?_
      | refine LeO.bind ?_ (fun _ => ?_)
    · intro y0 y1 y2 y3 y4 y5
      unfold terms_wrong.j1
      repeat' first
      | (with_reducible exact ih0 _ _ _ _ _ _)
      | (with_reducible exact ih1 _ _ _ _ _ _)
      | (with_reducible exact ih2 _ _ _ _ _ _)
      | (with_reducible exact LeO.refl _)
      | (with_reducible exact LeO.none _)
      | (with_reducible refine LeO.ite ?_ ?_)
      | (with_reducible refine LeO.bind ?_ (fun _ => ?_))
      | exact ih0 _ _ _ _ _ _
      | exact ih1 _ _ _ _ _ _
      | exact ih2 _ _ _ _ _ _
      | exact LeO.none _
      | refine LeO.ite ?_ ?_
      | refine LeO.bind ?_ (fun _ => ?_)
    · intro y0 y1 y2 y3 y4 y5
      unfold terms_wrong.j2
      repeat' first
      | (with_reducible exact ih0 _ _ _ _ _ _)
      | (with_reducible exact ih1 _ _ _ _ _ _)
      | (with_reducible exact ih2 _ _ _ _ _ _)
      | (with_reducible exact LeO.refl _)
      | (with_reducible exact LeO.none _)
      | (with_reducible refine LeO.ite ?_ ?_)
      | (with_reducible refine LeO.bind ?_ (fun _ => ?_))
      | exact ih0 _ _ _ _ _ _
      | exact ih1 _ _ _ _ _ _
      | exact ih2 _ _ _ _ _ _
      | exact LeO.none _
      | refine LeO.ite ?_ ?_
      | refine LeO.bind ?_ (fun _ => ?_)
theorem terms_wrong.mono : ∀ a0 a1 a2 a3 k, LeO (terms_wrong.f k a0 a1 a2 a3) (terms_wrong.f (k + 1) a0 a1 a2 a3) := by
  intro a0 a1 a2 a3 k
  obtain ⟨ih0, ih1, ih2⟩ := terms_wrong.mono_l k
  unfold terms_wrong.f
  repeat' first
      | (with_reducible exact ih0 _ _ _ _ _ _)
      | (with_reducible exact ih1 _ _ _ _ _ _)
      | (with_reducible exact ih2 _ _ _ _ _ _)
      | (with_reducible exact LeO.refl _)
      | (with_reducible exact LeO.none _)
      | (with_reducible refine LeO.ite ?_ ?_)
      | (with_reducible refine LeO.bind ?_ (fun _ => ?_))
      | exact ih0 _ _ _ _ _ _
      | exact ih1 _ _ _ _ _ _
      | exact ih2 _ _ _ _ _ _
      | exact LeO.none _
      | refine LeO.ite ?_ ?_
      | refine LeO.bind ?_ (fun _ => ?_)
set_option maxHeartbeats 8000000 in
set_option maxRecDepth 100000 in
theorem terms_wrong.calls (k : Nat) (A0 : Option Addr) (c0 : Nat) (l0 : List (S62)) (a1_0 : ByteArray) (a1_1 : Int) (A1_2 : Option Addr) (c1_2 : Nat) (l1_2 : List (S27)) (r : Int) (w : World) (hr0 : Kd.C k62 w A0 l0.length l0) (hc0 : l0.length ≤ c0) (hr1_2 : Kd.C k27 w A1_2 l1_2.length l1_2) (hc1_2 : l1_2.length ≤ c1_2) (h : terms_wrong.f k l0 a1_0 a1_1 l1_2 = some r) :
    Calls Try.prog 49 #[.slice A0 l0.length c0, .agg #[.string a1_0, .int .i64 a1_1, .slice A1_2 l1_2.length c1_2]] w fun e w' => e = .returned (.int .i64 r) ∧ Below w.heap.size w w' := by
  have hu27 := Try.underlying27
  have HR0 := Aside0.mk hr0
  have HC0 := Aside0.mk hc0
  clear hr0 hc0
  have HR1_2 := Aside0.mk hr1_2
  have HC1_2 := Aside0.mk hc1_2
  clear hr1_2 hc1_2
  have HB := Aside0.mk (Below.refl w.heap.size w)
  have H : (if a1_0.toList = ([] : List UInt8) then (terms_wrong.j0 k l0 (l1_2.length : Int) false a1_0 a1_1 l1_2) else ((sig_Var.f a1_0).bind fun t229 => (if t229 = true then (if a1_1 = 0 then (terms_wrong.j0 k l0 (l1_2.length : Int) (decide ((l1_2.length : Int) > 0)) a1_0 a1_1 l1_2) else (terms_wrong.j0 k l0 (l1_2.length : Int) true a1_0 a1_1 l1_2)) else (terms_wrong.j0 k l0 (l1_2.length : Int) true a1_0 a1_1 l1_2)))) = some r := h
  clear h
  have HC3 := Aside0.mk H
  clear H
  go_enter Try.func49, Try.ntmps49
  go_upto_region 2 with (first | ((with_reducible refine gate_dst (N := 3) rfl ?_); (try (refine gate_guard (by rfl) ?_; dsimp only)); refine box_event ?hg (N := 3) ?hd (cs := #[.string a1_0, .int .i64 a1_1, .slice A1_2 l1_2.length c1_2]) (t := 27) ?hr ?_; (case hd => rfl); (case hg => rfl); (case hr => first | (go_simp; done) | (go_simp; rfl)); intro gb228 hg w4 hbox hb; have n0_ := Aside0.mk (below_step (by repeat (first | (with_reducible first | exact HB.out | apply below_alloc | apply pw_below_drewN | apply below_drew1) | exact HB.out)) hb); have n1_ := Aside0.mk (hbox); have n2_ := Aside0.mk ((by rw [hg]; exact (below_size (by repeat (first | (with_reducible first | exact HB.out | apply below_alloc | apply pw_below_drewN | apply below_drew1) | exact HB.out))) : w.heap.size ≤ gb228)); have n3_ := Aside0.mk ((by rw [hg]; exact (below_size (by repeat (first | (with_reducible first | exact HB.out | apply below_alloc | apply pw_below_drewN | apply below_drew1) | exact HB.out))) : w.heap.size ≤ gb228)); clear HB; have HB := n0_; have BK228 := n1_; have GW228 := n2_; have GE228 := n3_; clear n0_ n1_ n2_ n3_; clear hb hbox hg; have hcz5_0 : w4.cell? ⟨gb228, 0, none⟩ = some (.string a1_0) := (blk_cell BK228.out 0).trans rfl; have hcz5_1 : w4.cell? ⟨gb228, 1, none⟩ = some (.int .i64 a1_1) := (blk_cell BK228.out 1).trans rfl; have hcz5_2 : w4.cell? ⟨gb228, 2, none⟩ = some (.slice A1_2 l1_2.length c1_2) := (blk_cell BK228.out 2).trans rfl; have hfz5_0 := blk_frozen BK228.out 0; have hfz5_1 := blk_frozen BK228.out 1; have hfz5_2 := blk_frozen BK228.out 2))
  (try simp only [Act.put, List.setIfInBounds_toArray, List.set_cons_zero, List.set_cons_succ])
  go_cut [9] (fun v9 wc => ∃ (kq : Nat) (x9_2 : Bool), v9 = .bool x9_2 ∧ Aside0 (terms_wrong.j0 kq l0 (l1_2.length : Int) x9_2 a1_0 a1_1 l1_2 = some r) ∧ Aside0 (kq ≤ k) ∧ Aside0 (wc.heap[gb228]? = some (.cells #[.string a1_0, .int .i64 a1_1, (.slice A1_2 l1_2.length c1_2)] 27 (0, 0))) ∧ Aside0 (Below w.heap.size w wc))
  case first =>
    have H := HC3.out
    clear HC3
    by_cases c6 : a1_0.toList = ([] : List UInt8)
    · rw [if_pos c6] at H
      have c6b0 : (a1_0.toList == ([] : List UInt8)) = true := beq_iff_eq.mpr c6
      have c6b1 : (a1_0.toList != ([] : List UInt8)) = false := bne_eq_false_iff_eq.mpr c6
      clear c6
      (first | rw [c6b0] | (simp only [i64_w, i32_w]; rw [c6b0]) | skip)
      have H' := Aside0.mk H
      clear H
      have hcz7_0 : w4.cell? ⟨gb228, 0, none⟩ = some (.string a1_0) := (blk_cell BK228.out 0).trans rfl
      have hcz7_1 : w4.cell? ⟨gb228, 1, none⟩ = some (.int .i64 a1_1) := (blk_cell BK228.out 1).trans rfl
      have hcz7_2 : w4.cell? ⟨gb228, 2, none⟩ = some (.slice A1_2 l1_2.length c1_2) := (blk_cell BK228.out 2).trans rfl
      have hfz7_0 := blk_frozen BK228.out 0
      have hfz7_1 := blk_frozen BK228.out 1
      have hfz7_2 := blk_frozen BK228.out 2
      go_wp2
      go_meet
      case rel => exact ⟨_, (false), (by first | rfl | (simp; done) | (simp [*]; done)), H', ⟨by first | omega | exact Nat.le_refl _⟩, ⟨by (with_reducible repeat (first | refine blk_drewN ?_ _ | refine blk_drew ?_ | refine blk_alloc ?_ _)); exact BK228.out⟩, ⟨by repeat (first | (with_reducible first | exact HB.out | apply below_alloc | apply pw_below_drewN | apply below_drew1 | refine below_set ?_ GE228.out) | exact HB.out)⟩⟩
    · rw [if_neg c6] at H
      have c6b0 : (a1_0.toList == ([] : List UInt8)) = false := beq_eq_false_iff_ne.mpr c6
      have c6b1 : (a1_0.toList != ([] : List UInt8)) = true := bne_iff_ne.mpr c6
      (first | rw [c6b0] | (simp only [i64_w, i32_w]; rw [c6b0]) | skip)
      replace H := Option.bind_eq_some_iff.mp H
      obtain ⟨t229, A80, H⟩ := H
      replace H : (if t229 = true then (if a1_1 = 0 then (terms_wrong.j0 k l0 (l1_2.length : Int) (decide ((l1_2.length : Int) > 0)) a1_0 a1_1 l1_2) else (terms_wrong.j0 k l0 (l1_2.length : Int) true a1_0 a1_1 l1_2)) else (terms_wrong.j0 k l0 (l1_2.length : Int) true a1_0 a1_1 l1_2)) = some r := H
      have A8 := Aside0.mk A80
      clear A80
      by_cases c9 : t229 = true
      · subst c9
        have H1 : (if a1_1 = 0 then (terms_wrong.j0 k l0 (l1_2.length : Int) (decide ((l1_2.length : Int) > 0)) a1_0 a1_1 l1_2) else (terms_wrong.j0 k l0 (l1_2.length : Int) true a1_0 a1_1 l1_2)) = some r := by rw [if_pos rfl] at H; exact H
        clear H
        have H := H1
        clear H1
        by_cases c10 : a1_1 = 0
        · rw [if_pos c10] at H
          have c10b0 : (a1_1 == 0) = true := beq_iff_eq.mpr c10
          have c10b1 : (a1_1 != 0) = false := bne_eq_false_iff_eq.mpr c10
          clear c10
          have H' := Aside0.mk H
          clear H
          have hcz11_0 : w4.cell? ⟨gb228, 0, none⟩ = some (.string a1_0) := (blk_cell BK228.out 0).trans rfl
          have hcz11_1 : w4.cell? ⟨gb228, 1, none⟩ = some (.int .i64 a1_1) := (blk_cell BK228.out 1).trans rfl
          have hcz11_2 : w4.cell? ⟨gb228, 2, none⟩ = some (.slice A1_2 l1_2.length c1_2) := (blk_cell BK228.out 2).trans rfl
          have hfz11_0 := blk_frozen BK228.out 0
          have hfz11_1 := blk_frozen BK228.out 1
          have hfz11_2 := blk_frozen BK228.out 2
          go_wp2_with (first | (go_at_call 56; (with_reducible refine (sig_Var.calls a1_0 true _ A8.out).mono ?_); rintro e w12 ⟨rfl, hb⟩; have n0_ := Aside0.mk (blk_below (g := gb228) (o := .cells #[.string a1_0, .int .i64 a1_1, .slice A1_2 l1_2.length c1_2] 27 (0, 0)) (by (with_reducible repeat (first | refine blk_drewN ?_ _ | refine blk_drew ?_ | refine blk_alloc ?_ _)); exact BK228.out) hb); have n1_ := Aside0.mk (below_step (by repeat (first | (with_reducible first | exact HB.out | apply below_alloc | apply pw_below_drewN | apply below_drew1 | refine below_set ?_ GE228.out) | exact HB.out)) hb); clear BK228; clear HB; have BK228 := n0_; have HB := n1_; clear n0_ n1_; (try clear hb); (try clear hb2); (try clear hk); (try clear hi); have hcz13_0 : w12.cell? ⟨gb228, 0, none⟩ = some (.string a1_0) := (blk_cell BK228.out 0).trans rfl; have hcz13_1 : w12.cell? ⟨gb228, 1, none⟩ = some (.int .i64 a1_1) := (blk_cell BK228.out 1).trans rfl; have hcz13_2 : w12.cell? ⟨gb228, 2, none⟩ = some (.slice A1_2 l1_2.length c1_2) := (blk_cell BK228.out 2).trans rfl; have hfz13_0 := blk_frozen BK228.out 0; have hfz13_1 := blk_frozen BK228.out 1; have hfz13_2 := blk_frozen BK228.out 2))
          go_meet
          case rel => exact ⟨_, (decide ((l1_2.length : Int) > 0)), (by first | rfl | (simp; done) | (simp [*]; done)), H', ⟨by first | omega | exact Nat.le_refl _⟩, ⟨by (with_reducible repeat (first | refine blk_drewN ?_ _ | refine blk_drew ?_ | refine blk_alloc ?_ _)); exact BK228.out⟩, ⟨by repeat (first | (with_reducible first | exact HB.out | apply below_alloc | apply pw_below_drewN | apply below_drew1 | refine below_set ?_ GE228.out) | exact HB.out)⟩⟩
        · rw [if_neg c10] at H
          have c10b0 : (a1_1 == 0) = false := beq_eq_false_iff_ne.mpr c10
          have c10b1 : (a1_1 != 0) = true := bne_iff_ne.mpr c10
          have H' := Aside0.mk H
          clear H
          have hcz14_0 : w4.cell? ⟨gb228, 0, none⟩ = some (.string a1_0) := (blk_cell BK228.out 0).trans rfl
          have hcz14_1 : w4.cell? ⟨gb228, 1, none⟩ = some (.int .i64 a1_1) := (blk_cell BK228.out 1).trans rfl
          have hcz14_2 : w4.cell? ⟨gb228, 2, none⟩ = some (.slice A1_2 l1_2.length c1_2) := (blk_cell BK228.out 2).trans rfl
          have hfz14_0 := blk_frozen BK228.out 0
          have hfz14_1 := blk_frozen BK228.out 1
          have hfz14_2 := blk_frozen BK228.out 2
          go_wp2_with (first | (go_at_call 56; (with_reducible refine (sig_Var.calls a1_0 true _ A8.out).mono ?_); rintro e w15 ⟨rfl, hb⟩; have n0_ := Aside0.mk (blk_below (g := gb228) (o := .cells #[.string a1_0, .int .i64 a1_1, .slice A1_2 l1_2.length c1_2] 27 (0, 0)) (by (with_reducible repeat (first | refine blk_drewN ?_ _ | refine blk_drew ?_ | refine blk_alloc ?_ _)); exact BK228.out) hb); have n1_ := Aside0.mk (below_step (by repeat (first | (with_reducible first | exact HB.out | apply below_alloc | apply pw_below_drewN | apply below_drew1 | refine below_set ?_ GE228.out) | exact HB.out)) hb); clear BK228; clear HB; have BK228 := n0_; have HB := n1_; clear n0_ n1_; (try clear hb); (try clear hb2); (try clear hk); (try clear hi); have hcz16_0 : w15.cell? ⟨gb228, 0, none⟩ = some (.string a1_0) := (blk_cell BK228.out 0).trans rfl; have hcz16_1 : w15.cell? ⟨gb228, 1, none⟩ = some (.int .i64 a1_1) := (blk_cell BK228.out 1).trans rfl; have hcz16_2 : w15.cell? ⟨gb228, 2, none⟩ = some (.slice A1_2 l1_2.length c1_2) := (blk_cell BK228.out 2).trans rfl; have hfz16_0 := blk_frozen BK228.out 0; have hfz16_1 := blk_frozen BK228.out 1; have hfz16_2 := blk_frozen BK228.out 2))
          go_meet
          case rel => exact ⟨_, (true), (by first | rfl | (simp; done) | (simp [*]; done)), H', ⟨by first | omega | exact Nat.le_refl _⟩, ⟨by (with_reducible repeat (first | refine blk_drewN ?_ _ | refine blk_drew ?_ | refine blk_alloc ?_ _)); exact BK228.out⟩, ⟨by repeat (first | (with_reducible first | exact HB.out | apply below_alloc | apply pw_below_drewN | apply below_drew1 | refine below_set ?_ GE228.out) | exact HB.out)⟩⟩
      · replace c9 := Bool.eq_false_iff.mpr c9
        subst c9
        have H1 : (terms_wrong.j0 k l0 (l1_2.length : Int) true a1_0 a1_1 l1_2) = some r := by rw [if_neg (show ¬ (false = true) by decide)] at H; exact H
        clear H
        have H := H1
        clear H1
        have H' := Aside0.mk H
        clear H
        have hcz17_0 : w4.cell? ⟨gb228, 0, none⟩ = some (.string a1_0) := (blk_cell BK228.out 0).trans rfl
        have hcz17_1 : w4.cell? ⟨gb228, 1, none⟩ = some (.int .i64 a1_1) := (blk_cell BK228.out 1).trans rfl
        have hcz17_2 : w4.cell? ⟨gb228, 2, none⟩ = some (.slice A1_2 l1_2.length c1_2) := (blk_cell BK228.out 2).trans rfl
        have hfz17_0 := blk_frozen BK228.out 0
        have hfz17_1 := blk_frozen BK228.out 1
        have hfz17_2 := blk_frozen BK228.out 2
        go_wp2_with (first | (go_at_call 56; (with_reducible refine (sig_Var.calls a1_0 false _ A8.out).mono ?_); rintro e w18 ⟨rfl, hb⟩; have n0_ := Aside0.mk (blk_below (g := gb228) (o := .cells #[.string a1_0, .int .i64 a1_1, .slice A1_2 l1_2.length c1_2] 27 (0, 0)) (by (with_reducible repeat (first | refine blk_drewN ?_ _ | refine blk_drew ?_ | refine blk_alloc ?_ _)); exact BK228.out) hb); have n1_ := Aside0.mk (below_step (by repeat (first | (with_reducible first | exact HB.out | apply below_alloc | apply pw_below_drewN | apply below_drew1 | refine below_set ?_ GE228.out) | exact HB.out)) hb); clear BK228; clear HB; have BK228 := n0_; have HB := n1_; clear n0_ n1_; (try clear hb); (try clear hb2); (try clear hk); (try clear hi)))
        go_meet
        case rel => exact ⟨_, (true), (by first | rfl | (simp; done) | (simp [*]; done)), H', ⟨by first | omega | exact Nat.le_refl _⟩, ⟨by (with_reducible repeat (first | refine blk_drewN ?_ _ | refine blk_drew ?_ | refine blk_alloc ?_ _)); exact BK228.out⟩, ⟨by repeat (first | (with_reducible first | exact HB.out | apply below_alloc | apply pw_below_drewN | apply below_drew1 | refine below_set ?_ GE228.out) | exact HB.out)⟩⟩
  case rest =>
    clear HC3
    obtain ⟨kq, x9_2, rfl, HA, HJ2, BK228, HB⟩ := hcut
    cases kq with
    | zero => exact absurd HA.out (by simp [terms_wrong.j0])
    | succ kj2 =>
      have H := HA.out
      clear HA
      simp only [terms_wrong.j0] at H
      by_cases c19 : x9_2 = true
      · subst c19
        have H1 : (some 31) = some r := by rw [if_pos rfl] at H; exact H
        clear H
        have H := H1
        clear H1
        obtain rfl := Option.some.inj H
        go_wp2
        go_ret
        exact ⟨by first | rfl | (simp [errW_none, errW_some] <;> rfl) | (simp [*, errW_none, errW_some] <;> rfl), by repeat (first | (with_reducible first | exact HB.out | apply below_alloc | apply pw_below_drewN | apply below_drew1 | refine below_set ?_ GE228.out) | exact HB.out)⟩
      · replace c19 := Bool.eq_false_iff.mpr c19
        subst c19
        have H1 : (if a1_0.toList = ([] : List UInt8) then (if a1_1 < 0 then (terms_wrong.j1 kj2 l0 (l1_2.length : Int) true a1_0 a1_1 l1_2) else (terms_wrong.j1 kj2 l0 (l1_2.length : Int) (decide (a1_1 ≥ (l0.length : Int))) a1_0 a1_1 l1_2)) else (some 0)) = some r := by rw [if_neg (show ¬ (false = true) by decide)] at H; exact H
        clear H
        have H := H1
        clear H1
        by_cases c20 : a1_0.toList = ([] : List UInt8)
        · rw [if_pos c20] at H
          have c20b0 : (a1_0.toList == ([] : List UInt8)) = true := beq_iff_eq.mpr c20
          have c20b1 : (a1_0.toList != ([] : List UInt8)) = false := bne_eq_false_iff_eq.mpr c20
          clear c20
          have HC21 := Aside0.mk H
          clear H
          have hcz22_0 : wc.cell? ⟨gb228, 0, none⟩ = some (.string a1_0) := (blk_cell BK228.out 0).trans rfl
          have hcz22_1 : wc.cell? ⟨gb228, 1, none⟩ = some (.int .i64 a1_1) := (blk_cell BK228.out 1).trans rfl
          have hcz22_2 : wc.cell? ⟨gb228, 2, none⟩ = some (.slice A1_2 l1_2.length c1_2) := (blk_cell BK228.out 2).trans rfl
          have hfz22_0 := blk_frozen BK228.out 0
          have hfz22_1 := blk_frozen BK228.out 1
          have hfz22_2 := blk_frozen BK228.out 2
          go_upto_region 6 with (fail)
          go_cut [32] (fun v32 wc => ∃ (kq : Nat) (x32_20 : Bool), v32 = .bool x32_20 ∧ Aside0 (terms_wrong.j1 kq l0 (l1_2.length : Int) x32_20 a1_0 a1_1 l1_2 = some r) ∧ Aside0 (kq ≤ kj2) ∧ Aside0 (wc.heap[gb228]? = some (.cells #[.string a1_0, .int .i64 a1_1, (.slice A1_2 l1_2.length c1_2)] 27 (0, 0))) ∧ Aside0 (Below w.heap.size w wc))
          case first =>
            have H := HC21.out
            clear HC21
            by_cases c23 : a1_1 < 0
            · rw [if_pos c23] at H
              have c23b0 : decide (a1_1 < 0) = true := decide_eq_true c23
              clear c23
              (first | rw [c23b0] | (simp only [i64_w, i32_w]; rw [c23b0]) | skip)
              have H' := Aside0.mk H
              clear H
              have hcz24_0 : wc.cell? ⟨gb228, 0, none⟩ = some (.string a1_0) := (blk_cell BK228.out 0).trans rfl
              have hcz24_1 : wc.cell? ⟨gb228, 1, none⟩ = some (.int .i64 a1_1) := (blk_cell BK228.out 1).trans rfl
              have hcz24_2 : wc.cell? ⟨gb228, 2, none⟩ = some (.slice A1_2 l1_2.length c1_2) := (blk_cell BK228.out 2).trans rfl
              have hfz24_0 := blk_frozen BK228.out 0
              have hfz24_1 := blk_frozen BK228.out 1
              have hfz24_2 := blk_frozen BK228.out 2
              go_wp2
              go_meet
              case rel => exact ⟨_, (true), (by first | rfl | (simp; done) | (simp [*]; done)), H', ⟨by have := HJ2.out; first | omega | exact Nat.le_refl _⟩, ⟨by (with_reducible repeat (first | refine blk_drewN ?_ _ | refine blk_drew ?_ | refine blk_alloc ?_ _)); exact BK228.out⟩, ⟨by repeat (first | (with_reducible first | exact HB.out | apply below_alloc | apply pw_below_drewN | apply below_drew1 | refine below_set ?_ GE228.out) | exact HB.out)⟩⟩
            · rw [if_neg c23] at H
              have c23b0 : decide (a1_1 < 0) = false := decide_eq_false c23
              clear c23
              (first | rw [c23b0] | (simp only [i64_w, i32_w]; rw [c23b0]) | skip)
              have H' := Aside0.mk H
              clear H
              have hcz25_0 : wc.cell? ⟨gb228, 0, none⟩ = some (.string a1_0) := (blk_cell BK228.out 0).trans rfl
              have hcz25_1 : wc.cell? ⟨gb228, 1, none⟩ = some (.int .i64 a1_1) := (blk_cell BK228.out 1).trans rfl
              have hcz25_2 : wc.cell? ⟨gb228, 2, none⟩ = some (.slice A1_2 l1_2.length c1_2) := (blk_cell BK228.out 2).trans rfl
              have hfz25_0 := blk_frozen BK228.out 0
              have hfz25_1 := blk_frozen BK228.out 1
              have hfz25_2 := blk_frozen BK228.out 2
              go_wp2
              go_meet
              case rel => exact ⟨_, (decide (a1_1 ≥ (l0.length : Int))), (by first | rfl | (simp; done) | (simp [*]; done)), H', ⟨by have := HJ2.out; first | omega | exact Nat.le_refl _⟩, ⟨by (with_reducible repeat (first | refine blk_drewN ?_ _ | refine blk_drew ?_ | refine blk_alloc ?_ _)); exact BK228.out⟩, ⟨by repeat (first | (with_reducible first | exact HB.out | apply below_alloc | apply pw_below_drewN | apply below_drew1 | refine below_set ?_ GE228.out) | exact HB.out)⟩⟩
          case rest =>
            clear HC21
            obtain ⟨kq, x32_20, rfl, HA, HJ20, BK228, HB⟩ := hcut
            cases kq with
            | zero => exact absurd HA.out (by simp [terms_wrong.j1])
            | succ kj20 =>
              have H := HA.out
              clear HA
              simp only [terms_wrong.j1] at H
              by_cases c26 : x32_20 = true
              · subst c26
                have H1 : (some 32) = some r := by rw [if_pos rfl] at H; exact H
                clear H
                have H := H1
                clear H1
                obtain rfl := Option.some.inj H
                go_wp2
                go_ret
                exact ⟨by first | rfl | (simp [errW_none, errW_some] <;> rfl) | (simp [*, errW_none, errW_some] <;> rfl), by repeat (first | (with_reducible first | exact HB.out | apply below_alloc | apply pw_below_drewN | apply below_drew1 | refine below_set ?_ GE228.out) | exact HB.out)⟩
              · replace c26 := Bool.eq_false_iff.mpr c26
                subst c26
                have H1 : (if 0 ≤ a1_1 then (if a1_1 < (l0.length : Int) then (if ((rd_T62 l0 a1_1).f1) = 1 then (terms_wrong.j2 kj20 l0 (l1_2.length : Int) ((l1_2.length : Int) != ((rd_T62 l0 a1_1).f2)) a1_0 a1_1 l1_2) else (terms_wrong.j2 kj20 l0 (l1_2.length : Int) false a1_0 a1_1 l1_2)) else (none)) else (none)) = some r := by rw [if_neg (show ¬ (false = true) by decide)] at H; exact H
                clear H
                have H := H1
                clear H1
                have HC27 := Aside0.mk H
                clear H
                go_upto_region 8 with (fail)
                go_cut [43] (fun v43 wc => ∃ (kq : Nat) (x43_26 : Bool), v43 = .bool x43_26 ∧ Aside0 (terms_wrong.j2 kq l0 (l1_2.length : Int) x43_26 a1_0 a1_1 l1_2 = some r) ∧ Aside0 (kq ≤ kj20) ∧ Aside0 (wc.heap[gb228]? = some (.cells #[.string a1_0, .int .i64 a1_1, (.slice A1_2 l1_2.length c1_2)] 27 (0, 0))) ∧ Aside0 (Below w.heap.size w wc))
                case first =>
                  have H := HC27.out
                  clear HC27
                  by_cases c28 : 0 ≤ a1_1
                  · rw [if_pos c28] at H
                    have c28b0 : decide (0 ≤ a1_1) = true := decide_eq_true c28
                    clear c28
                    (first | rw [c28b0] | (simp only [i64_w, i32_w]; rw [c28b0]) | skip)
                    by_cases c29 : a1_1 < (l0.length : Int)
                    · rw [if_pos c29] at H
                      have c29b0 : decide (a1_1 < (l0.length : Int)) = true := decide_eq_true c29
                      clear c29
                      by_cases c30 : ((rd_T62 l0 a1_1).f1) = 1
                      · rw [if_pos c30] at H
                        have c30b0 : (((rd_T62 l0 a1_1).f1) == 1) = true := beq_iff_eq.mpr c30
                        have c30b1 : (((rd_T62 l0 a1_1).f1) != 1) = false := bne_eq_false_iff_eq.mpr c30
                        clear c30
                        have H' := Aside0.mk H
                        clear H
                        have hcz31_0 : wc.cell? ⟨gb228, 0, none⟩ = some (.string a1_0) := (blk_cell BK228.out 0).trans rfl
                        have hcz31_1 : wc.cell? ⟨gb228, 1, none⟩ = some (.int .i64 a1_1) := (blk_cell BK228.out 1).trans rfl
                        have hcz31_2 : wc.cell? ⟨gb228, 2, none⟩ = some (.slice A1_2 l1_2.length c1_2) := (blk_cell BK228.out 2).trans rfl
                        have hfz31_0 := blk_frozen BK228.out 0
                        have hfz31_1 := blk_frozen BK228.out 1
                        have hfz31_2 := blk_frozen BK228.out 2
                        have p230 : 0 ≤ (a1_1 : Int) := of_decide_eq_true (by first | (with_reducible assumption) | assumption)
                        have q230 : a1_1 < (l0.length : Int) := of_decide_eq_true (by first | (with_reducible assumption) | assumption)
                        obtain ⟨ad230, e230, hx230_0, hx230_1, hx230_2, hx230_3⟩ := at_T62 HR0.out a1_1 p230 q230
                        cases e230
                        replace hx230_0 := (HB.out.cell (World.block_lt_of_cell? w _ hx230_0)).trans hx230_0
                        replace hx230_1 := (HB.out.cell (World.block_lt_of_cell? w _ hx230_1)).trans hx230_1
                        replace hx230_2 := (HB.out.cell (World.block_lt_of_cell? w _ hx230_2)).trans hx230_2
                        replace hx230_3 := (HB.out.cell (World.block_lt_of_cell? w _ hx230_3)).trans hx230_3
                        replace p230 := eq_true p230
                        replace q230 := eq_true q230
                        have p231 : 0 ≤ (a1_1 : Int) := of_decide_eq_true (by first | (with_reducible assumption) | assumption)
                        have q231 : a1_1 < (l0.length : Int) := of_decide_eq_true (by first | (with_reducible assumption) | assumption)
                        obtain ⟨ad231, e231, hx231_0, hx231_1, hx231_2, hx231_3⟩ := at_T62 HR0.out a1_1 p231 q231
                        obtain rfl : ad230 = ad231 := (by injection e231)
                        replace hx231_0 := (HB.out.cell (World.block_lt_of_cell? w _ hx231_0)).trans hx231_0
                        replace hx231_1 := (HB.out.cell (World.block_lt_of_cell? w _ hx231_1)).trans hx231_1
                        replace hx231_2 := (HB.out.cell (World.block_lt_of_cell? w _ hx231_2)).trans hx231_2
                        replace hx231_3 := (HB.out.cell (World.block_lt_of_cell? w _ hx231_3)).trans hx231_3
                        replace p231 := eq_true p231
                        replace q231 := eq_true q231
                        go_wp2
                        go_meet
                        case rel => exact ⟨_, (((l1_2.length : Int) != ((rd_T62 l0 a1_1).f2))), (by first | rfl | (simp; done) | (simp [*]; done)), H', ⟨by have := HJ2.out; have := HJ20.out; first | omega | exact Nat.le_refl _⟩, ⟨by (with_reducible repeat (first | refine blk_drewN ?_ _ | refine blk_drew ?_ | refine blk_alloc ?_ _)); exact BK228.out⟩, ⟨by repeat (first | (with_reducible first | exact HB.out | apply below_alloc | apply pw_below_drewN | apply below_drew1 | refine below_set ?_ GE228.out) | exact HB.out)⟩⟩
                      · rw [if_neg c30] at H
                        have c30b0 : (((rd_T62 l0 a1_1).f1) == 1) = false := beq_eq_false_iff_ne.mpr c30
                        have c30b1 : (((rd_T62 l0 a1_1).f1) != 1) = true := bne_iff_ne.mpr c30
                        have H' := Aside0.mk H
                        clear H
                        have hcz32_0 : wc.cell? ⟨gb228, 0, none⟩ = some (.string a1_0) := (blk_cell BK228.out 0).trans rfl
                        have hcz32_1 : wc.cell? ⟨gb228, 1, none⟩ = some (.int .i64 a1_1) := (blk_cell BK228.out 1).trans rfl
                        have hcz32_2 : wc.cell? ⟨gb228, 2, none⟩ = some (.slice A1_2 l1_2.length c1_2) := (blk_cell BK228.out 2).trans rfl
                        have hfz32_0 := blk_frozen BK228.out 0
                        have hfz32_1 := blk_frozen BK228.out 1
                        have hfz32_2 := blk_frozen BK228.out 2
                        have p230 : 0 ≤ (a1_1 : Int) := of_decide_eq_true (by first | (with_reducible assumption) | assumption)
                        have q230 : a1_1 < (l0.length : Int) := of_decide_eq_true (by first | (with_reducible assumption) | assumption)
                        obtain ⟨ad230, e230, hx230_0, hx230_1, hx230_2, hx230_3⟩ := at_T62 HR0.out a1_1 p230 q230
                        cases e230
                        replace hx230_0 := (HB.out.cell (World.block_lt_of_cell? w _ hx230_0)).trans hx230_0
                        replace hx230_1 := (HB.out.cell (World.block_lt_of_cell? w _ hx230_1)).trans hx230_1
                        replace hx230_2 := (HB.out.cell (World.block_lt_of_cell? w _ hx230_2)).trans hx230_2
                        replace hx230_3 := (HB.out.cell (World.block_lt_of_cell? w _ hx230_3)).trans hx230_3
                        replace p230 := eq_true p230
                        replace q230 := eq_true q230
                        go_wp2
                        go_meet
                        case rel => exact ⟨_, (false), (by first | rfl | (simp; done) | (simp [*]; done)), H', ⟨by have := HJ2.out; have := HJ20.out; first | omega | exact Nat.le_refl _⟩, ⟨by (with_reducible repeat (first | refine blk_drewN ?_ _ | refine blk_drew ?_ | refine blk_alloc ?_ _)); exact BK228.out⟩, ⟨by repeat (first | (with_reducible first | exact HB.out | apply below_alloc | apply pw_below_drewN | apply below_drew1 | refine below_set ?_ GE228.out) | exact HB.out)⟩⟩
                    · rw [if_neg c29] at H
                      exact absurd H (by simp)
                  · rw [if_neg c28] at H
                    exact absurd H (by simp)
                case rest =>
                  clear HC27
                  obtain ⟨kq, x43_26, rfl, HA, HJ26, BK228, HB⟩ := hcut
                  cases kq with
                  | zero => exact absurd HA.out (by simp [terms_wrong.j2])
                  | succ kj26 =>
                    have H := HA.out
                    clear HA
                    simp only [terms_wrong.j2] at H
                    by_cases c33 : x43_26 = true
                    · subst c33
                      have H1 : (some 33) = some r := by rw [if_pos rfl] at H; exact H
                      clear H
                      have H := H1
                      clear H1
                      obtain rfl := Option.some.inj H
                      go_wp2
                      go_ret
                      exact ⟨by first | rfl | (simp [errW_none, errW_some] <;> rfl) | (simp [*, errW_none, errW_some] <;> rfl), by repeat (first | (with_reducible first | exact HB.out | apply below_alloc | apply pw_below_drewN | apply below_drew1 | refine below_set ?_ GE228.out) | exact HB.out)⟩
                    · replace c33 := Bool.eq_false_iff.mpr c33
                      subst c33
                      have H1 : (if 0 ≤ a1_1 then (if a1_1 < (l0.length : Int) then (if ((rd_T62 l0 a1_1).f1) = 1 then (some 0) else (if (l1_2.length : Int) < 2 then (some 33) else (some 0))) else (none)) else (none)) = some r := by rw [if_neg (show ¬ (false = true) by decide)] at H; exact H
                      clear H
                      have H := H1
                      clear H1
                      by_cases c34 : 0 ≤ a1_1
                      · rw [if_pos c34] at H
                        have c34b0 : decide (0 ≤ a1_1) = true := decide_eq_true c34
                        clear c34
                        by_cases c35 : a1_1 < (l0.length : Int)
                        · rw [if_pos c35] at H
                          have c35b0 : decide (a1_1 < (l0.length : Int)) = true := decide_eq_true c35
                          clear c35
                          by_cases c36 : ((rd_T62 l0 a1_1).f1) = 1
                          · rw [if_pos c36] at H
                            have c36b0 : (((rd_T62 l0 a1_1).f1) == 1) = true := beq_iff_eq.mpr c36
                            have c36b1 : (((rd_T62 l0 a1_1).f1) != 1) = false := bne_eq_false_iff_eq.mpr c36
                            clear c36
                            obtain rfl := Option.some.inj H
                            have hcz37_0 : wc.cell? ⟨gb228, 0, none⟩ = some (.string a1_0) := (blk_cell BK228.out 0).trans rfl
                            have hcz37_1 : wc.cell? ⟨gb228, 1, none⟩ = some (.int .i64 a1_1) := (blk_cell BK228.out 1).trans rfl
                            have hcz37_2 : wc.cell? ⟨gb228, 2, none⟩ = some (.slice A1_2 l1_2.length c1_2) := (blk_cell BK228.out 2).trans rfl
                            have hfz37_0 := blk_frozen BK228.out 0
                            have hfz37_1 := blk_frozen BK228.out 1
                            have hfz37_2 := blk_frozen BK228.out 2
                            have p232 : 0 ≤ (a1_1 : Int) := of_decide_eq_true (by first | (with_reducible assumption) | assumption)
                            have q232 : a1_1 < (l0.length : Int) := of_decide_eq_true (by first | (with_reducible assumption) | assumption)
                            obtain ⟨ad232, e232, hx232_0, hx232_1, hx232_2, hx232_3⟩ := at_T62 HR0.out a1_1 p232 q232
                            cases e232
                            replace hx232_0 := (HB.out.cell (World.block_lt_of_cell? w _ hx232_0)).trans hx232_0
                            replace hx232_1 := (HB.out.cell (World.block_lt_of_cell? w _ hx232_1)).trans hx232_1
                            replace hx232_2 := (HB.out.cell (World.block_lt_of_cell? w _ hx232_2)).trans hx232_2
                            replace hx232_3 := (HB.out.cell (World.block_lt_of_cell? w _ hx232_3)).trans hx232_3
                            replace p232 := eq_true p232
                            replace q232 := eq_true q232
                            go_wp2
                            go_ret
                            exact ⟨by first | rfl | (simp [errW_none, errW_some] <;> rfl) | (simp [*, errW_none, errW_some] <;> rfl), by repeat (first | (with_reducible first | exact HB.out | apply below_alloc | apply pw_below_drewN | apply below_drew1 | refine below_set ?_ GE228.out) | exact HB.out)⟩
                          · rw [if_neg c36] at H
                            have c36b0 : (((rd_T62 l0 a1_1).f1) == 1) = false := beq_eq_false_iff_ne.mpr c36
                            have c36b1 : (((rd_T62 l0 a1_1).f1) != 1) = true := bne_iff_ne.mpr c36
                            by_cases c38 : (l1_2.length : Int) < 2
                            · rw [if_pos c38] at H
                              have c38b0 : decide ((l1_2.length : Int) < 2) = true := decide_eq_true c38
                              have c38b1 : decide (l1_2.length < 2) = true := decide_eq_true (by omega)
                              clear c38
                              obtain rfl := Option.some.inj H
                              have hcz39_0 : wc.cell? ⟨gb228, 0, none⟩ = some (.string a1_0) := (blk_cell BK228.out 0).trans rfl
                              have hcz39_1 : wc.cell? ⟨gb228, 1, none⟩ = some (.int .i64 a1_1) := (blk_cell BK228.out 1).trans rfl
                              have hcz39_2 : wc.cell? ⟨gb228, 2, none⟩ = some (.slice A1_2 l1_2.length c1_2) := (blk_cell BK228.out 2).trans rfl
                              have hfz39_0 := blk_frozen BK228.out 0
                              have hfz39_1 := blk_frozen BK228.out 1
                              have hfz39_2 := blk_frozen BK228.out 2
                              have p232 : 0 ≤ (a1_1 : Int) := of_decide_eq_true (by first | (with_reducible assumption) | assumption)
                              have q232 : a1_1 < (l0.length : Int) := of_decide_eq_true (by first | (with_reducible assumption) | assumption)
                              obtain ⟨ad232, e232, hx232_0, hx232_1, hx232_2, hx232_3⟩ := at_T62 HR0.out a1_1 p232 q232
                              cases e232
                              replace hx232_0 := (HB.out.cell (World.block_lt_of_cell? w _ hx232_0)).trans hx232_0
                              replace hx232_1 := (HB.out.cell (World.block_lt_of_cell? w _ hx232_1)).trans hx232_1
                              replace hx232_2 := (HB.out.cell (World.block_lt_of_cell? w _ hx232_2)).trans hx232_2
                              replace hx232_3 := (HB.out.cell (World.block_lt_of_cell? w _ hx232_3)).trans hx232_3
                              replace p232 := eq_true p232
                              replace q232 := eq_true q232
                              go_wp2
                              go_ret
                              exact ⟨by first | rfl | (simp [errW_none, errW_some] <;> rfl) | (simp [*, errW_none, errW_some] <;> rfl), by repeat (first | (with_reducible first | exact HB.out | apply below_alloc | apply pw_below_drewN | apply below_drew1 | refine below_set ?_ GE228.out) | exact HB.out)⟩
                            · rw [if_neg c38] at H
                              have c38b0 : decide ((l1_2.length : Int) < 2) = false := decide_eq_false c38
                              have c38b1 : decide (l1_2.length < 2) = false := decide_eq_false (by omega)
                              clear c38
                              obtain rfl := Option.some.inj H
                              have hcz40_0 : wc.cell? ⟨gb228, 0, none⟩ = some (.string a1_0) := (blk_cell BK228.out 0).trans rfl
                              have hcz40_1 : wc.cell? ⟨gb228, 1, none⟩ = some (.int .i64 a1_1) := (blk_cell BK228.out 1).trans rfl
                              have hcz40_2 : wc.cell? ⟨gb228, 2, none⟩ = some (.slice A1_2 l1_2.length c1_2) := (blk_cell BK228.out 2).trans rfl
                              have hfz40_0 := blk_frozen BK228.out 0
                              have hfz40_1 := blk_frozen BK228.out 1
                              have hfz40_2 := blk_frozen BK228.out 2
                              have p232 : 0 ≤ (a1_1 : Int) := of_decide_eq_true (by first | (with_reducible assumption) | assumption)
                              have q232 : a1_1 < (l0.length : Int) := of_decide_eq_true (by first | (with_reducible assumption) | assumption)
                              obtain ⟨ad232, e232, hx232_0, hx232_1, hx232_2, hx232_3⟩ := at_T62 HR0.out a1_1 p232 q232
                              cases e232
                              replace hx232_0 := (HB.out.cell (World.block_lt_of_cell? w _ hx232_0)).trans hx232_0
                              replace hx232_1 := (HB.out.cell (World.block_lt_of_cell? w _ hx232_1)).trans hx232_1
                              replace hx232_2 := (HB.out.cell (World.block_lt_of_cell? w _ hx232_2)).trans hx232_2
                              replace hx232_3 := (HB.out.cell (World.block_lt_of_cell? w _ hx232_3)).trans hx232_3
                              replace p232 := eq_true p232
                              replace q232 := eq_true q232
                              go_wp2
                              go_ret
                              exact ⟨by first | rfl | (simp [errW_none, errW_some] <;> rfl) | (simp [*, errW_none, errW_some] <;> rfl), by repeat (first | (with_reducible first | exact HB.out | apply below_alloc | apply pw_below_drewN | apply below_drew1 | refine below_set ?_ GE228.out) | exact HB.out)⟩
                        · rw [if_neg c35] at H
                          exact absurd H (by simp)
                      · rw [if_neg c34] at H
                        exact absurd H (by simp)
        · rw [if_neg c20] at H
          have c20b0 : (a1_0.toList == ([] : List UInt8)) = false := beq_eq_false_iff_ne.mpr c20
          have c20b1 : (a1_0.toList != ([] : List UInt8)) = true := bne_iff_ne.mpr c20
          obtain rfl := Option.some.inj H
          have hcz41_0 : wc.cell? ⟨gb228, 0, none⟩ = some (.string a1_0) := (blk_cell BK228.out 0).trans rfl
          have hcz41_1 : wc.cell? ⟨gb228, 1, none⟩ = some (.int .i64 a1_1) := (blk_cell BK228.out 1).trans rfl
          have hcz41_2 : wc.cell? ⟨gb228, 2, none⟩ = some (.slice A1_2 l1_2.length c1_2) := (blk_cell BK228.out 2).trans rfl
          have hfz41_0 := blk_frozen BK228.out 0
          have hfz41_1 := blk_frozen BK228.out 1
          have hfz41_2 := blk_frozen BK228.out 2
          go_wp2
          go_ret
          exact ⟨by first | rfl | (simp [errW_none, errW_some] <;> rfl) | (simp [*, errW_none, errW_some] <;> rfl), by repeat (first | (with_reducible first | exact HB.out | apply below_alloc | apply pw_below_drewN | apply below_drew1 | refine below_set ?_ GE228.out) | exact HB.out)⟩

end Go.Proofs.Ytpepjodkahdicaa.PTb
