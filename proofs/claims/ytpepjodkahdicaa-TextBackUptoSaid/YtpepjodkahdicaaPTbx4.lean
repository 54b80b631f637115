-- Written by programs of this session (wip/tools), cut to what the claim uses (wip/tools/prune.py).
import Derived.Test.YtpepjodkahdicaaPTbx0
import Derived.Test.YtpepjodkahdicaaPTbx2
import Derived.Test.YtpepjodkahdicaaPTbx3
-- Written by a program of this session (wip/tools/myprint.py): functions, contracts, their proofs. Lean checks it.
namespace Go.Proofs.Ytpepjodkahdicaa.PTb
open Go.RowKit Go.Proofs.YtpepjodkahdicaaW.PrintWords Go.Proofs.YtpepjodkahdicaaW.PrintLast Go.Proofs.YtpepjodkahdicaaW.PrintMore
attribute [local go_sem] max2_int min2_int max_two min_two max_three min_three max_four min_four   -- for this text's walks alone
set_option linter.unusedVariables false
set_option linter.unusedSimpArgs false
def amalgamlaw05_head.f (k : Nat)  : Option (Bool) := (amalgamlaw04_Some.f).bind fun t114 => ((text_Term.f k t114 (⟨#[112, 108, 117, 115, 40, 32, 88, 44, 97, 32, 41]⟩ : ByteArray)).bind fun bt117 => (if bt117.2.2.2.1 = 0 then (if bt117.2.2.2.2 = 0 then (if bt117.2.1 = 3 then (if (bt117.2.2.1.length : Int) = 2 then ((amalgamlaw04_Some.f).bind fun t125 => ((text_Show.f k t125 bt117.1 bt117.2.1 bt117.2.2.1).bind fun t128 => (some (t128.toList == ([112, 108, 117, 115, 40, 88, 44, 97, 41] : List UInt8))))) else (some false)) else (some false)) else (some false)) else (some false)))
theorem amalgamlaw05_head.mono : ∀ k, LeO (amalgamlaw05_head.f k ) (amalgamlaw05_head.f (k + 1) ) := by
  intro  k
  unfold amalgamlaw05_head.f
  repeat' first
      | (with_reducible exact text_Show.mono _ _ _ _ _)
      | (with_reducible exact text_Term.mono _ _ _)
      | (with_reducible exact LeO.refl _)
      | (with_reducible exact LeO.none _)
      | (with_reducible refine LeO.ite ?_ ?_)
      | (with_reducible refine LeO.bind ?_ (fun _ => ?_))
      | exact text_Show.mono _ _ _ _ _
      | exact text_Term.mono _ _ _
      | exact LeO.none _
      | refine LeO.ite ?_ ?_
      | refine LeO.bind ?_ (fun _ => ?_)
def amalgamlaw05_head.T2 : Bool × List (List Nat × List Nat) := (true, [([], []), ([0], [0]), ([1], [1]), ([2], [2]), ([3, 2], [2, 3]), ([2, 4], [2, 4]), ([5, 2], [5]), ([6], [6]), ([7, 6], [6, 7]), ([8, 6], [6, 8]), ([6, 9], [6, 9]), ([10, 6], [10]), ([11], [11]), ([12, 11], [11, 12]), ([13, 11], [11, 13]), ([14, 11], [11, 14]), ([11, 15], [11, 15]), ([16, 11], [16]), ([17, 17], [17]), ([17], [17]), ([18, 19, 18, 17], [17, 18, 19]), ([20, 17], [17, 20]), ([17, 21], [17, 21]), ([22, 20, 0, 1, 2, 3, 4, 5, 6, 7, 8, 9, 10, 11, 12, 13, 14, 15, 16, 17, 18, 19, 20, 21, 22], [22])])
def amalgamlaw05_head.B2 : List Nat := [0, 1, 3, 7, 15, 31, 63, 127, 255, 511, 1023, 2047, 4095, 8191, 16383, 32767, 65535, 131071, 262143, 262143, 1048575, 2097151, 4194303, 8388607]
theorem amalgamlaw05_head.tab2 : rtab .any (opsOf Try.f6 2) = amalgamlaw05_head.T2 := by kernel_rfl
theorem amalgamlaw05_head.bits2 : waitsOk amalgamlaw05_head.T2.2 amalgamlaw05_head.B2 = true := by kernel_rfl
set_option maxHeartbeats 8000000 in
set_option maxRecDepth 100000 in
theorem amalgamlaw05_head.callsT (k : Nat) (r : Bool) (w : World) (hrt0 : r = true) (h : amalgamlaw05_head.f k  = some r) :
    Calls Try.prog 6 #[] w fun e w' => e = .returned (.bool r) ∧ Below w.heap.size w w' := by
  have HRT := Aside0.mk hrt0
  clear hrt0
  have hu27 := Try.underlying27
  have HB := Aside0.mk (Below.refl w.heap.size w)
  have H : ((amalgamlaw04_Some.f).bind fun t114 => ((text_Term.f k t114 (⟨#[112, 108, 117, 115, 40, 32, 88, 44, 97, 32, 41]⟩ : ByteArray)).bind fun bt117 => (if bt117.2.2.2.1 = 0 then (if bt117.2.2.2.2 = 0 then (if bt117.2.1 = 3 then (if (bt117.2.2.1.length : Int) = 2 then ((amalgamlaw04_Some.f).bind fun t125 => ((text_Show.f k t125 bt117.1 bt117.2.1 bt117.2.2.1).bind fun t128 => (some (t128.toList == ([112, 108, 117, 115, 40, 88, 44, 97, 41] : List UInt8))))) else (some false)) else (some false)) else (some false)) else (some false)))) = some r := h
  clear h
  replace H := Option.bind_eq_some_iff.mp H
  obtain ⟨t114, A10, H⟩ := H
  replace H : ((text_Term.f k t114 (⟨#[112, 108, 117, 115, 40, 32, 88, 44, 97, 32, 41]⟩ : ByteArray)).bind fun bt117 => (if bt117.2.2.2.1 = 0 then (if bt117.2.2.2.2 = 0 then (if bt117.2.1 = 3 then (if (bt117.2.2.1.length : Int) = 2 then ((amalgamlaw04_Some.f).bind fun t125 => ((text_Show.f k t125 bt117.1 bt117.2.1 bt117.2.2.1).bind fun t128 => (some (t128.toList == ([112, 108, 117, 115, 40, 88, 44, 97, 41] : List UInt8))))) else (some false)) else (some false)) else (some false)) else (some false))) = some r := H
  have A1 := Aside0.mk A10
  clear A10
  replace H := Option.bind_eq_some_iff.mp H
  obtain ⟨⟨t117, t118, t119, t122, t123⟩, A20, H⟩ := H
  replace H : (if t122 = 0 then (if t123 = 0 then (if t118 = 3 then (if (t119.length : Int) = 2 then ((amalgamlaw04_Some.f).bind fun t125 => ((text_Show.f k t125 t117 t118 t119).bind fun t128 => (some (t128.toList == ([112, 108, 117, 115, 40, 88, 44, 97, 41] : List UInt8))))) else (some false)) else (some false)) else (some false)) else (some false)) = some r := H
  have A2 := Aside0.mk A20
  clear A20
  by_cases c3 : t122 = 0
  · rw [if_pos c3] at H
    have c3b0 : (t122 == 0) = true := beq_iff_eq.mpr c3
    have c3b1 : (t122 != 0) = false := bne_eq_false_iff_eq.mpr c3
    clear c3
    by_cases c4 : t123 = 0
    · rw [if_pos c4] at H
      have c4b0 : (t123 == 0) = true := beq_iff_eq.mpr c4
      have c4b1 : (t123 != 0) = false := bne_eq_false_iff_eq.mpr c4
      clear c4
      by_cases c5 : t118 = 3
      · rw [if_pos c5] at H
        have c5b0 : (t118 == 3) = true := beq_iff_eq.mpr c5
        have c5b1 : (t118 != 3) = false := bne_eq_false_iff_eq.mpr c5
        clear c5
        by_cases c6 : (t119.length : Int) = 2
        · rw [if_pos c6] at H
          have c6b0 : ((t119.length : Int) == 2) = true := beq_iff_eq.mpr c6
          have c6b1 : ((t119.length : Int) != 2) = false := bne_eq_false_iff_eq.mpr c6
          clear c6
          replace H := Option.bind_eq_some_iff.mp H
          obtain ⟨t125, A70, H⟩ := H
          replace H : ((text_Show.f k t125 t117 t118 t119).bind fun t128 => (some (t128.toList == ([112, 108, 117, 115, 40, 88, 44, 97, 41] : List UInt8)))) = some r := H
          have A7 := Aside0.mk A70
          clear A70
          replace H := Option.bind_eq_some_iff.mp H
          obtain ⟨t128, A80, H⟩ := H
          replace H : (some (t128.toList == ([112, 108, 117, 115, 40, 88, 44, 97, 41] : List UInt8))) = some r := H
          have A8 := Aside0.mk A80
          clear A80
          obtain rfl := Option.some.inj H
          go_enter Try.func6, Try.ntmps6
          try go_wp2_with (first | ((with_reducible refine gate_callee (f := 18) rfl ?_); refine goesL_ (some 5) rfl rfl Try.func18 (by kernel_rfl) rfl #[] rfl (by (try simp only [List.map_toArray, List.map_cons, List.map_nil]); first | done | rfl | (simp only [List.length_drop, List.length_take]; rfl)) ?_; (with_reducible refine (amalgamlaw04_Some.calls  t114 _ A1.out).mono ?_); rintro e w9 ⟨v115, rfl, ho0, hb⟩; refine ⟨_, rfl, ?_⟩; have n0_ := Aside0.mk (Kd.R_lower ho0 (below_size (by repeat (first | (with_reducible first | exact HB.out | apply below_alloc | apply pw_below_drewN | apply below_drew1) | exact HB.out)))); have n1_ := Aside0.mk (below_step (by repeat (first | (with_reducible first | exact HB.out | apply below_alloc | apply pw_below_drewN | apply below_drew1) | exact HB.out)) hb); clear HB; have HO116 := n0_; have HB := n1_; clear n0_ n1_; (try clear hb); (try clear hb2); (try clear hk); (try clear hi); (try clear ho0); obtain ⟨Ao10, co10, eo10⟩ := Kd.R_slice HO116.out; subst eo10) | ((with_reducible refine gate_callee (f := 7) rfl ?_); refine goesL_ (some 6) rfl rfl Try.func7 (by kernel_rfl) rfl #[.slice Ao10 t114.length co10, .string (⟨#[112, 108, 117, 115, 40, 32, 88, 44, 97, 32, 41]⟩ : ByteArray)] rfl (by (try simp only [List.map_toArray, List.map_cons, List.map_nil]); first | done | rfl | (simp only [List.length_drop, List.length_take]; rfl)) ?_; (with_reducible refine (text_Term.calls k _ _ t114 (⟨#[112, 108, 117, 115, 40, 32, 88, 44, 97, 32, 41]⟩ : ByteArray) t117 t118 t119 t122 t123 _ ?side1 ?side2 A2.out).mono ?_); (case side1 => repeat (first | exact (Kd.R_reads' HO116.out).2.2 | (with_reducible refine Kd.C_alloc ?_ _) | (with_reducible refine Kd.C_drewN ?_ _) | (with_reducible refine Kd.C_drew ?_))); (case side2 => exact (Kd.R_reads' HO116.out).2.1); rintro e w11 ⟨v120, rfl, ho0, hb⟩; refine ⟨_, rfl, ?_⟩; have n0_ := Aside0.mk (Kd.R_below (by (with_reducible repeat (first | apply Kd.R_alloc | apply Kd.R_drewN | apply Kd.R_drew)); exact HO116.out) hb); have n1_ := Aside0.mk (Kd.R_lower ho0 (below_size (by repeat (first | (with_reducible first | exact HB.out | apply below_alloc | apply pw_below_drewN | apply below_drew1) | exact HB.out)))); have n2_ := Aside0.mk (below_step (by repeat (first | (with_reducible first | exact HB.out | apply below_alloc | apply pw_below_drewN | apply below_drew1) | exact HB.out)) hb); clear HO116; clear HB; have HO116 := n0_; have HO121 := n1_; have HB := n2_; clear n0_ n1_ n2_; (try clear hb); (try clear hb2); (try clear hk); (try clear hi); (try clear ho0)) | ((with_reducible refine gate_dst (N := 1) rfl ?_); (try (refine gate_guard (by rfl) ?_; dsimp only)); refine box_event ?hg (N := 1) ?hd (cs := #[.string (⟨#[]⟩ : ByteArray), .int .i64 0, .slice none 0 0]) (t := 27) ?hr ?_; (case hd => rfl); (case hg => rfl); (case hr => first | (go_simp; done) | (go_simp; rfl)); intro gb124 hg w12 hbox hb; have n0_ := Aside0.mk (Kd.R_below (by (with_reducible repeat (first | apply Kd.R_alloc | apply Kd.R_drewN | apply Kd.R_drew)); exact HO116.out) hb); have n1_ := Aside0.mk (Kd.R_below (Kd.R_elderB (by (with_reducible repeat (first | apply Kd.R_alloc | apply Kd.R_drewN | apply Kd.R_drew)); exact HO121.out) gb124 (Nat.le_of_eq hg.symm)) hb); have n2_ := Aside0.mk (below_step (by repeat (first | (with_reducible first | exact HB.out | apply below_alloc | apply pw_below_drewN | apply below_drew1) | exact HB.out)) hb); have n3_ := Aside0.mk (hbox); have n4_ := Aside0.mk ((by rw [hg]; exact (below_size (by repeat (first | (with_reducible first | exact HB.out | apply below_alloc | apply pw_below_drewN | apply below_drew1) | exact HB.out))) : w.heap.size ≤ gb124)); have n5_ := Aside0.mk ((by rw [hg]; exact (below_size (by repeat (first | (with_reducible first | exact HB.out | apply below_alloc | apply pw_below_drewN | apply below_drew1) | exact HB.out))) : w.heap.size ≤ gb124)); clear HO116; clear HO121; clear HB; have HO116 := n0_; have HO121 := n1_; have HB := n2_; have BK124 := n3_; have GW124 := n4_; have GE124 := n5_; clear n0_ n1_ n2_ n3_ n4_ n5_; clear hb hbox hg; have hcz13_0 : w12.cell? ⟨gb124, 0, none⟩ = some (.string (⟨#[]⟩ : ByteArray)) := (blk_cell BK124.out 0).trans rfl; have hcz13_1 : w12.cell? ⟨gb124, 1, none⟩ = some (.int .i64 0) := (blk_cell BK124.out 1).trans rfl; have hcz13_2 : w12.cell? ⟨gb124, 2, none⟩ = some (.slice none 0 0) := (blk_cell BK124.out 2).trans rfl; have hfz13_0 := blk_frozen BK124.out 0; have hfz13_1 := blk_frozen BK124.out 1; have hfz13_2 := blk_frozen BK124.out 2; obtain ⟨Ao14, co14, eo14⟩ := Kd.R_slice HO121.out; subst eo14))
          have n0_ : Aside0 (Kd.R k62 62 (((w12.setCell ⟨gb124, 0, none⟩ (.string t117)).setCell ⟨gb124, 1, none⟩ (.int .i64 t118)).setCell ⟨gb124, 2, none⟩ (.slice Ao14 t119.length co14)) w.heap.size (fun _ => True) (.slice Ao10 t114.length co10) t114) := ⟨by (with_reducible repeat (first | apply Kd.R_alloc | apply Kd.R_drewN | apply Kd.R_drew)); exact Kd.R_mono (Kd.R_far (p := ⟨gb124, 2, none⟩) (Kd.R_far (p := ⟨gb124, 1, none⟩) (Kd.R_far (p := ⟨gb124, 0, none⟩) (Kd.R_types HO116.out BK124.out (by decide)) (fun _ hk => hk.2) (.string t117)) (fun _ hk => hk.2) (.int .i64 t118)) (fun _ hk => hk.2) (.slice Ao14 t119.length co14)) (fun _ hk => trivial)⟩
          have n1_ : Aside0 (Kd.R k27 27 (((w12.setCell ⟨gb124, 0, none⟩ (.string t117)).setCell ⟨gb124, 1, none⟩ (.int .i64 t118)).setCell ⟨gb124, 2, none⟩ (.slice Ao14 t119.length co14)) w.heap.size (fun k_ => k_ ≠ gb124) (.slice Ao14 t119.length co14) t119) := ⟨by (with_reducible repeat (first | apply Kd.R_alloc | apply Kd.R_drewN | apply Kd.R_drew)); exact Kd.R_mono (Kd.R_far (p := ⟨gb124, 2, none⟩) (Kd.R_far (p := ⟨gb124, 1, none⟩) (Kd.R_far (p := ⟨gb124, 0, none⟩) (Kd.R_mono HO121.out (fun k_ hk => (⟨hk, hk.2⟩ : _ ∧ k_ ≠ gb124))) (fun _ hk => hk.2) (.string t117)) (fun _ hk => hk.2) (.int .i64 t118)) (fun _ hk => hk.2) (.slice Ao14 t119.length co14)) (fun _ hk => hk.1.2)⟩
          have n2_ : Aside0 ((((w12.setCell ⟨gb124, 0, none⟩ (.string t117)).setCell ⟨gb124, 1, none⟩ (.int .i64 t118)).setCell ⟨gb124, 2, none⟩ (.slice Ao14 t119.length co14)).heap[gb124]? = some (.cells #[.string t117, .int .i64 t118, .slice Ao14 t119.length co14] 27 (0, 0))) := ⟨by (with_reducible repeat (first | refine blk_drewN ?_ _ | refine blk_drew ?_ | refine blk_alloc ?_ _)); refine blk_put (cs := #[.string t117, .int .i64 t118, .slice none 0 0]) ?_ 2 _ rfl; (with_reducible repeat (first | refine blk_drewN ?_ _ | refine blk_drew ?_ | refine blk_alloc ?_ _)); refine blk_put (cs := #[.string t117, .int .i64 0, .slice none 0 0]) ?_ 1 _ rfl; (with_reducible repeat (first | refine blk_drewN ?_ _ | refine blk_drew ?_ | refine blk_alloc ?_ _)); refine blk_put (cs := #[.string (⟨#[]⟩ : ByteArray), .int .i64 0, .slice none 0 0]) ?_ 0 _ rfl; (with_reducible repeat (first | refine blk_drewN ?_ _ | refine blk_drew ?_ | refine blk_alloc ?_ _)); exact BK124.out⟩
          have n3_ : Aside0 (Below w.heap.size w (((w12.setCell ⟨gb124, 0, none⟩ (.string t117)).setCell ⟨gb124, 1, none⟩ (.int .i64 t118)).setCell ⟨gb124, 2, none⟩ (.slice Ao14 t119.length co14))) := ⟨by repeat (first | (with_reducible first | exact HB.out | apply below_alloc | apply pw_below_drewN | apply below_drew1 | refine below_set ?_ GE124.out) | exact HB.out)⟩
          (try clear HO116)
          (try clear HO121)
          (try clear BK124)
          (try clear HB)
          generalize (((w12.setCell ⟨gb124, 0, none⟩ (.string t117)).setCell ⟨gb124, 1, none⟩ (.int .i64 t118)).setCell ⟨gb124, 2, none⟩ (.slice Ao14 t119.length co14)) = w15 at n0_ n1_ n2_ n3_ ⊢
          have HO116 := n0_
          have HO121 := n1_
          have BK124 := n2_
          have HB := n3_
          clear n0_ n1_ n2_ n3_
          have n0_ := Aside0.mk (Kd.R_drew HO116.out)
          have n1_ := Aside0.mk (Kd.R_drew HO121.out)
          have n2_ := Aside0.mk (blk_drew BK124.out)
          have n3_ := Aside0.mk (below_drew1 HB.out)
          clear HO116
          clear HO121
          clear BK124
          clear HB
          have HO116 := n0_
          have HO121 := n1_
          have BK124 := n2_
          have HB := n3_
          clear n0_ n1_ n2_ n3_
          refine start_ (n := 24) (S := fun w' => w'.cell? ⟨gb124, 0, none⟩ = some (.string t117) ∧ w'.cell? ⟨gb124, 1, none⟩ = some (.int .i64 t118) ∧ w'.cell? ⟨gb124, 2, none⟩ = some (.slice Ao14 t119.length co14)) (ds := []) #[false, false, false, false, false, false, false, false, false, false, false, false, false, false, false, false, false, false, false, false, false, false, false, false] (by kernel_rfl) rfl rfl ⟨(blk_cell BK124.out 0).trans rfl, (blk_cell BK124.out 1).trans rfl, (blk_cell BK124.out 2).trans rfl⟩ (fun hHeld => ?_); refine with_tabW amalgamlaw05_head.tab2 amalgamlaw05_head.bits2 (fun HT_ HW_ => ?_)
          generalize w15.drew = w16 at HO116 HO121 BK124 HB hHeld ⊢
          refine pure_ (i := 0) (N := some 10) (v := ?_) (a' := ?_) #[true, false, false, false, false, false, false, false, false, false, false, false, false, false, false, false, false, false, false, false, false, false, false, false] rfl rfl (any_of HT_.out (by kernel_rfl)) (fun _ _ _ h => h) (Or.inl ⟨by rfl, ?_⟩) ?_ ?_
          rotate_left
          · intro w'
            go_simp
            first | (with_reducible rfl) | (rw [if_neg (by have h0_ : (⟨#[112, 108, 117, 115, 40, 32, 88, 44, 97, 32, 41]⟩ : ByteArray).size = 11 := rfl; simp only [decide_eq_true_eq, ByteArray.size_append, h0_] at *; omega)])
          rotate_left
          · simp only [Act.put, List.setIfInBounds_toArray, List.set_cons_zero, List.set_cons_succ, i64_w, i32_w]
            rfl
          refine pure_ (i := 1) (N := some 11) (v := ?_) (a' := ?_) #[true, true, false, false, false, false, false, false, false, false, false, false, false, false, false, false, false, false, false, false, false, false, false, false] rfl rfl (any_of HT_.out (by kernel_rfl)) (fun _ _ _ h => h) (Or.inl ⟨by rfl, ?_⟩) ?_ ?_
          rotate_left
          · intro w'
            go_simp
            first | (with_reducible rfl) | (rw [if_neg (by have h0_ : (⟨#[112, 108, 117, 115, 40, 32, 88, 44, 97, 32, 41]⟩ : ByteArray).size = 11 := rfl; simp only [decide_eq_true_eq, ByteArray.size_append, h0_] at *; omega)])
          rotate_left
          · simp only [Act.put, List.setIfInBounds_toArray, List.set_cons_zero, List.set_cons_succ, i64_w, i32_w]
            rfl
          refine pure_ (i := 2) (N := some 12) (v := ?_) (a' := ?_) #[true, true, true, false, false, false, false, false, false, false, false, false, false, false, false, false, false, false, false, false, false, false, false, false] rfl rfl (any_of HT_.out (by kernel_rfl)) (fun _ _ _ h => h) (Or.inl ⟨by rfl, ?_⟩) ?_ ?_
          rotate_left
          · intro w'
            go_simp
            first | (with_reducible rfl) | (rw [if_neg (by have h0_ : (⟨#[112, 108, 117, 115, 40, 32, 88, 44, 97, 32, 41]⟩ : ByteArray).size = 11 := rfl; simp only [decide_eq_true_eq, ByteArray.size_append, h0_] at *; omega)])
          rotate_left
          · simp only [Act.put, List.setIfInBounds_toArray, List.set_cons_zero, List.set_cons_succ, i64_w, i32_w]
            rfl
          refine pure_ (i := 3) (N := some 13) (v := ?_) (a' := ?_) #[true, true, true, true, false, false, false, false, false, false, false, false, false, false, false, false, false, false, false, false, false, false, false, false] rfl rfl (any_of HT_.out (by kernel_rfl)) (fun _ _ _ h => h) (Or.inl ⟨by rfl, ?_⟩) ?_ ?_
          rotate_left
          · intro w'
            go_simp
            first | (with_reducible rfl) | (rw [if_neg (by have h0_ : (⟨#[112, 108, 117, 115, 40, 32, 88, 44, 97, 32, 41]⟩ : ByteArray).size = 11 := rfl; simp only [decide_eq_true_eq, ByteArray.size_append, h0_] at *; omega)])
          rotate_left
          · simp only [Act.put, List.setIfInBounds_toArray, List.set_cons_zero, List.set_cons_succ, i64_w, i32_w]
            rfl
          refine pure_ (i := 4) (N := some 14) (v := ?_) (a' := ?_) #[true, true, true, true, true, false, false, false, false, false, false, false, false, false, false, false, false, false, false, false, false, false, false, false] rfl rfl (any_of HT_.out (by kernel_rfl)) (fun _ _ _ h => h) (Or.inl ⟨by rfl, ?_⟩) ?_ ?_
          rotate_left
          · intro w'
            go_simp
            first | (with_reducible rfl) | (rw [if_neg (by have h0_ : (⟨#[112, 108, 117, 115, 40, 32, 88, 44, 97, 32, 41]⟩ : ByteArray).size = 11 := rfl; simp only [decide_eq_true_eq, ByteArray.size_append, h0_] at *; omega)])
          rotate_left
          · simp only [Act.put, List.setIfInBounds_toArray, List.set_cons_zero, List.set_cons_succ, i64_w, i32_w]
            rfl
          refine pure_ (i := 5) (N := some 15) (v := ?_) (a' := ?_) #[true, true, true, true, true, true, false, false, false, false, false, false, false, false, false, false, false, false, false, false, false, false, false, false] rfl rfl (any_of HT_.out (by kernel_rfl)) (fun _ _ _ h => h) (Or.inl ⟨by rfl, ?_⟩) ?_ ?_
          rotate_left
          · intro w'
            go_simp
            first | (with_reducible rfl) | (rw [if_neg (by have h0_ : (⟨#[112, 108, 117, 115, 40, 32, 88, 44, 97, 32, 41]⟩ : ByteArray).size = 11 := rfl; simp only [decide_eq_true_eq, ByteArray.size_append, h0_] at *; omega)])
          rotate_left
          · simp only [Act.put, List.setIfInBounds_toArray, List.set_cons_zero, List.set_cons_succ, i64_w, i32_w]
            rfl
          refine pure_ (i := 6) (N := some 16) (v := ?_) (a' := ?_) #[true, true, true, true, true, true, true, false, false, false, false, false, false, false, false, false, false, false, false, false, false, false, false, false] rfl rfl (any_of HT_.out (by kernel_rfl)) (fun _ _ _ h => h) (Or.inl ⟨by rfl, ?_⟩) ?_ ?_
          rotate_left
          · intro w'
            go_simp
            first | (with_reducible rfl) | (rw [if_neg (by have h0_ : (⟨#[112, 108, 117, 115, 40, 32, 88, 44, 97, 32, 41]⟩ : ByteArray).size = 11 := rfl; simp only [decide_eq_true_eq, ByteArray.size_append, h0_] at *; omega)])
          rotate_left
          · simp only [Act.put, List.setIfInBounds_toArray, List.set_cons_zero, List.set_cons_succ, i64_w, i32_w]
            rfl
          refine pure_ (i := 7) (N := some 17) (v := ?_) (a' := ?_) #[true, true, true, true, true, true, true, true, false, false, false, false, false, false, false, false, false, false, false, false, false, false, false, false] rfl rfl (any_of HT_.out (by kernel_rfl)) (fun _ _ _ h => h) (Or.inl ⟨by rfl, ?_⟩) ?_ ?_
          rotate_left
          · intro w'
            go_simp
            first | (with_reducible rfl) | (rw [if_neg (by have h0_ : (⟨#[112, 108, 117, 115, 40, 32, 88, 44, 97, 32, 41]⟩ : ByteArray).size = 11 := rfl; simp only [decide_eq_true_eq, ByteArray.size_append, h0_] at *; omega)])
          rotate_left
          · simp only [Act.put, List.setIfInBounds_toArray, List.set_cons_zero, List.set_cons_succ, i64_w, i32_w]
            rfl
          refine take_ (i := 8) (N := some 18) (v := ?_) (a' := ?_) #[true, true, true, true, true, true, true, true, true, false, false, false, false, false, false, false, false, false, false, false, false, false, false, false] rfl rfl (take_ofW HT_.out HW_.out (by kernel_rfl)) (fun _ _ _ h => h) (Or.inl ⟨by rfl, ?_⟩) hHeld ?_ ?_
          rotate_left
          · rintro w' ⟨s0, s1, s2⟩
            go_simp
            first | (with_reducible rfl) | (rw [if_neg (by have h0_ : (⟨#[112, 108, 117, 115, 40, 32, 88, 44, 97, 32, 41]⟩ : ByteArray).size = 11 := rfl; simp only [decide_eq_true_eq, ByteArray.size_append, h0_] at *; omega)])
          rotate_left
          · simp only [Act.put, List.setIfInBounds_toArray, List.set_cons_zero, List.set_cons_succ, i64_w, i32_w]
            rfl
          refine pure_ (i := 9) (N := some 19) (v := ?_) (a' := ?_) #[true, true, true, true, true, true, true, true, true, true, false, false, false, false, false, false, false, false, false, false, false, false, false, false] rfl rfl (any_of HT_.out (by kernel_rfl)) (fun _ _ _ h => h) (Or.inl ⟨by rfl, ?_⟩) ?_ ?_
          rotate_left
          · intro w'
            go_simp
            first | (with_reducible rfl) | (rw [if_neg (by have h0_ : (⟨#[112, 108, 117, 115, 40, 32, 88, 44, 97, 32, 41]⟩ : ByteArray).size = 11 := rfl; simp only [decide_eq_true_eq, ByteArray.size_append, h0_] at *; omega)])
          rotate_left
          · simp only [Act.put, List.setIfInBounds_toArray, List.set_cons_zero, List.set_cons_succ, i64_w, i32_w]
            rfl
          refine pure_ (i := 10) (N := some 20) (v := ?_) (a' := ?_) #[true, true, true, true, true, true, true, true, true, true, true, false, false, false, false, false, false, false, false, false, false, false, false, false] rfl rfl (any_of HT_.out (by kernel_rfl)) (fun _ _ _ h => h) (Or.inl ⟨by rfl, ?_⟩) ?_ ?_
          rotate_left
          · intro w'
            go_simp
            first | (with_reducible rfl) | (rw [if_neg (by have h0_ : (⟨#[112, 108, 117, 115, 40, 32, 88, 44, 97, 32, 41]⟩ : ByteArray).size = 11 := rfl; simp only [decide_eq_true_eq, ByteArray.size_append, h0_] at *; omega)])
          rotate_left
          · simp only [Act.put, List.setIfInBounds_toArray, List.set_cons_zero, List.set_cons_succ, i64_w, i32_w]
            rfl
          refine pure_ (i := 11) (N := some 21) (v := ?_) (a' := ?_) #[true, true, true, true, true, true, true, true, true, true, true, true, false, false, false, false, false, false, false, false, false, false, false, false] rfl rfl (any_of HT_.out (by kernel_rfl)) (fun _ _ _ h => h) (Or.inl ⟨by rfl, ?_⟩) ?_ ?_
          rotate_left
          · intro w'
            go_simp
            first | (with_reducible rfl) | (rw [if_neg (by have h0_ : (⟨#[112, 108, 117, 115, 40, 32, 88, 44, 97, 32, 41]⟩ : ByteArray).size = 11 := rfl; simp only [decide_eq_true_eq, ByteArray.size_append, h0_] at *; omega)])
          rotate_left
          · simp only [Act.put, List.setIfInBounds_toArray, List.set_cons_zero, List.set_cons_succ, i64_w, i32_w]
            rfl
          refine pure_ (i := 12) (N := some 22) (v := ?_) (a' := ?_) #[true, true, true, true, true, true, true, true, true, true, true, true, true, false, false, false, false, false, false, false, false, false, false, false] rfl rfl (any_of HT_.out (by kernel_rfl)) (fun _ _ _ h => h) (Or.inl ⟨by rfl, ?_⟩) ?_ ?_
          rotate_left
          · intro w'
            go_simp
            first | (with_reducible rfl) | (rw [if_neg (by have h0_ : (⟨#[112, 108, 117, 115, 40, 32, 88, 44, 97, 32, 41]⟩ : ByteArray).size = 11 := rfl; simp only [decide_eq_true_eq, ByteArray.size_append, h0_] at *; omega)])
          rotate_left
          · simp only [Act.put, List.setIfInBounds_toArray, List.set_cons_zero, List.set_cons_succ, i64_w, i32_w]
            rfl
          refine take_ (i := 13) (N := some 23) (v := ?_) (a' := ?_) #[true, true, true, true, true, true, true, true, true, true, true, true, true, true, false, false, false, false, false, false, false, false, false, false] rfl rfl (take_ofW HT_.out HW_.out (by kernel_rfl)) (fun _ _ _ h => h) (Or.inl ⟨by rfl, ?_⟩) hHeld ?_ ?_
          rotate_left
          · rintro w' ⟨s0, s1, s2⟩
            go_simp
            first | (with_reducible rfl) | (rw [if_neg (by have h0_ : (⟨#[112, 108, 117, 115, 40, 32, 88, 44, 97, 32, 41]⟩ : ByteArray).size = 11 := rfl; simp only [decide_eq_true_eq, ByteArray.size_append, h0_] at *; omega)])
          rotate_left
          · simp only [Act.put, List.setIfInBounds_toArray, List.set_cons_zero, List.set_cons_succ, i64_w, i32_w]
            rfl
          refine pure_ (i := 14) (N := some 24) (v := ?_) (a' := ?_) #[true, true, true, true, true, true, true, true, true, true, true, true, true, true, true, false, false, false, false, false, false, false, false, false] rfl rfl (any_of HT_.out (by kernel_rfl)) (fun _ _ _ h => h) (Or.inl ⟨by rfl, ?_⟩) ?_ ?_
          rotate_left
          · intro w'
            go_simp
            first | (with_reducible rfl) | (rw [if_neg (by have h0_ : (⟨#[112, 108, 117, 115, 40, 32, 88, 44, 97, 32, 41]⟩ : ByteArray).size = 11 := rfl; simp only [decide_eq_true_eq, ByteArray.size_append, h0_] at *; omega)])
          rotate_left
          · simp only [Act.put, List.setIfInBounds_toArray, List.set_cons_zero, List.set_cons_succ, i64_w, i32_w]
            rfl
          refine pure_ (i := 15) (N := some 25) (v := ?_) (a' := ?_) #[true, true, true, true, true, true, true, true, true, true, true, true, true, true, true, true, false, false, false, false, false, false, false, false] rfl rfl (any_of HT_.out (by kernel_rfl)) (fun _ _ _ h => h) (Or.inl ⟨by rfl, ?_⟩) ?_ ?_
          rotate_left
          · intro w'
            go_simp
            first | (with_reducible rfl) | (rw [if_neg (by have h0_ : (⟨#[112, 108, 117, 115, 40, 32, 88, 44, 97, 32, 41]⟩ : ByteArray).size = 11 := rfl; simp only [decide_eq_true_eq, ByteArray.size_append, h0_] at *; omega)])
          rotate_left
          · simp only [Act.put, List.setIfInBounds_toArray, List.set_cons_zero, List.set_cons_succ, i64_w, i32_w]
            rfl
          refine pure_ (i := 16) (N := some 26) (v := ?_) (a' := ?_) #[true, true, true, true, true, true, true, true, true, true, true, true, true, true, true, true, true, false, false, false, false, false, false, false] rfl rfl (any_of HT_.out (by kernel_rfl)) (fun _ _ _ h => h) (Or.inl ⟨by rfl, ?_⟩) ?_ ?_
          rotate_left
          · intro w'
            go_simp
            first | (with_reducible rfl) | (rw [if_neg (by have h0_ : (⟨#[112, 108, 117, 115, 40, 32, 88, 44, 97, 32, 41]⟩ : ByteArray).size = 11 := rfl; simp only [decide_eq_true_eq, ByteArray.size_append, h0_] at *; omega)])
          rotate_left
          · simp only [Act.put, List.setIfInBounds_toArray, List.set_cons_zero, List.set_cons_succ, i64_w, i32_w]
            rfl
          refine pure_ (i := 17) (N := some 27) (v := ?_) (a' := ?_) #[true, true, true, true, true, true, true, true, true, true, true, true, true, true, true, true, true, true, false, false, false, false, false, false] rfl rfl (any_of HT_.out (by kernel_rfl)) (fun _ _ _ h => h) (Or.inl ⟨by rfl, ?_⟩) ?_ ?_
          rotate_left
          · intro w'
            go_simp
            first | (with_reducible rfl) | (rw [if_neg (by have h0_ : (⟨#[112, 108, 117, 115, 40, 32, 88, 44, 97, 32, 41]⟩ : ByteArray).size = 11 := rfl; simp only [decide_eq_true_eq, ByteArray.size_append, h0_] at *; omega)])
          rotate_left
          · simp only [Act.put, List.setIfInBounds_toArray, List.set_cons_zero, List.set_cons_succ, i64_w, i32_w]
            rfl
          refine take_ (i := 19) (N := some 29) (v := ?_) (a' := ?_) #[true, true, true, true, true, true, true, true, true, true, true, true, true, true, true, true, true, true, false, true, false, false, false, false] rfl rfl (take_ofW HT_.out HW_.out (by kernel_rfl)) (fun _ _ _ h => h) (Or.inl ⟨by rfl, ?_⟩) hHeld ?_ ?_
          rotate_left
          · rintro w' ⟨s0, s1, s2⟩
            go_simp
            first | (with_reducible rfl) | (rw [if_neg (by have h0_ : (⟨#[112, 108, 117, 115, 40, 32, 88, 44, 97, 32, 41]⟩ : ByteArray).size = 11 := rfl; simp only [decide_eq_true_eq, ByteArray.size_append, h0_] at *; omega)])
          rotate_left
          · simp only [Act.put, List.setIfInBounds_toArray, List.set_cons_zero, List.set_cons_succ, i64_w, i32_w]
            rfl
          refine one_ (i := 18) (N := some 28) #[true, true, true, true, true, true, true, true, true, true, true, true, true, true, true, true, true, true, true, true, false, false, false, false] rfl rfl (one_of HT_.out (by kernel_rfl)) (by decide) (fun K hK => ?_)
          refine goes_ Try.func18 (by kernel_rfl) rfl #[] (by rfl) rfl rfl (by (try simp only [List.map_toArray, List.map_cons, List.map_nil]); first | done | rfl | (simp only [List.length_drop, List.length_take]; rfl)) ?_
          with_reducible refine (amalgamlaw04_Some.calls  t125 _ A7.out).mono ?_
          rintro e w17 ⟨v126, rfl, ho0, hb⟩
          refine ⟨_, rfl, ?_⟩
          have n0_ := Aside0.mk (Kd.R_elder' (by (with_reducible repeat (first | apply Kd.R_alloc | apply Kd.R_drewN | apply Kd.R_drew)); exact HO116.out) (Kd.R_base ho0) hb)
          have n1_ := Aside0.mk (Kd.R_below (by (with_reducible repeat (first | apply Kd.R_alloc | apply Kd.R_drewN | apply Kd.R_drew)); exact HO121.out) hb)
          have n2_ := Aside0.mk (Kd.R_lower (Kd.R_new' ho0 (Kd.R_lt (by (with_reducible repeat (first | apply Kd.R_alloc | apply Kd.R_drewN | apply Kd.R_drew)); exact HO116.out))) (below_size (by repeat (first | (with_reducible first | exact HB.out | apply below_alloc | apply pw_below_drewN | apply below_drew1 | refine below_set ?_ GE124.out) | exact HB.out))))
          have n3_ := Aside0.mk (blk_below (g := gb124) (o := .cells #[.string t117, .int .i64 t118, .slice Ao14 t119.length co14] 27 (0, 0)) (by (with_reducible repeat (first | refine blk_drewN ?_ _ | refine blk_drew ?_ | refine blk_alloc ?_ _)); exact BK124.out) hb)
          have n4_ := Aside0.mk (below_step (by repeat (first | (with_reducible first | exact HB.out | apply below_alloc | apply pw_below_drewN | apply below_drew1 | refine below_set ?_ GE124.out) | exact HB.out)) hb)
          clear HO116
          clear HO121
          clear BK124
          clear HB
          have HO116 := n0_
          have HO121 := n1_
          have HO127 := n2_
          have BK124 := n3_
          have HB := n4_
          clear n0_ n1_ n2_ n3_ n4_
          (try clear hb)
          (try clear hb2)
          (try clear hk)
          (try clear hi)
          (try clear ho0)
          obtain ⟨Ao18, co18, eo18⟩ := Kd.R_slice HO127.out
          (first | subst eo18 | (injection eo18 with f1_ f2_ f3_; have f4_ := f1_.symm; have f5_ := f3_.symm; clear f1_ f2_ f3_; subst f4_; subst f5_))
          refine hK.out _ _ ⟨(blk_cell BK124.out 0).trans rfl, (blk_cell BK124.out 1).trans rfl, (blk_cell BK124.out 2).trans rfl⟩ (fun hHeld => ?_)
          clear hK K
          refine norm_ (a' := ?_) ?_ ?_
          rotate_left
          · show Act.put _ (some 28) _ = _
            simp only [Act.put, List.setIfInBounds_toArray, List.set_cons_zero, List.set_cons_succ, i64_w, i32_w]
            rfl
          refine one_ (i := 20) (N := some 30) #[true, true, true, true, true, true, true, true, true, true, true, true, true, true, true, true, true, true, true, true, true, false, false, false] rfl rfl (one_of HT_.out (by kernel_rfl)) (by decide) (fun K hK => ?_)
          refine goes_ Try.func9 (by kernel_rfl) rfl #[.slice Ao18 t125.length co18, .agg #[.string t117, .int .i64 t118, .slice Ao14 t119.length co14]] (by rfl) rfl rfl (by (try simp only [List.map_toArray, List.map_cons, List.map_nil]); first | done | rfl | (simp only [List.length_drop, List.length_take]; rfl)) ?_
          with_reducible refine (text_Show.calls k _ _ t125 t117 t118 _ _ t119 t128 _ ?side1 ?side2 ?side3 ?side4 A8.out).mono ?_
          (case side1 => repeat (first | exact (Kd.R_reads' HO127.out).2.2 | (with_reducible refine Kd.C_alloc ?_ _) | (with_reducible refine Kd.C_drewN ?_ _) | (with_reducible refine Kd.C_drew ?_)))
          (case side2 => exact (Kd.R_reads' HO127.out).2.1)
          (case side3 => repeat (first | exact (Kd.R_reads' HO121.out).2.2 | (with_reducible refine Kd.C_alloc ?_ _) | (with_reducible refine Kd.C_drewN ?_ _) | (with_reducible refine Kd.C_drew ?_)))
          (case side4 => exact (Kd.R_reads' HO121.out).2.1)
          rintro e w19 ⟨rfl, hb⟩
          refine ⟨_, rfl, ?_⟩
          have n0_ := Aside0.mk (Kd.R_below (by (with_reducible repeat (first | apply Kd.R_alloc | apply Kd.R_drewN | apply Kd.R_drew)); exact HO116.out) hb)
          have n1_ := Aside0.mk (Kd.R_below (by (with_reducible repeat (first | apply Kd.R_alloc | apply Kd.R_drewN | apply Kd.R_drew)); exact HO121.out) hb)
          have n2_ := Aside0.mk (Kd.R_below (by (with_reducible repeat (first | apply Kd.R_alloc | apply Kd.R_drewN | apply Kd.R_drew)); exact HO127.out) hb)
          have n3_ := Aside0.mk (blk_below (g := gb124) (o := .cells #[.string t117, .int .i64 t118, .slice Ao14 t119.length co14] 27 (0, 0)) (by (with_reducible repeat (first | refine blk_drewN ?_ _ | refine blk_drew ?_ | refine blk_alloc ?_ _)); exact BK124.out) hb)
          have n4_ := Aside0.mk (below_step (by repeat (first | (with_reducible first | exact HB.out | apply below_alloc | apply pw_below_drewN | apply below_drew1 | refine below_set ?_ GE124.out) | exact HB.out)) hb)
          clear HO116
          clear HO121
          clear HO127
          clear BK124
          clear HB
          have HO116 := n0_
          have HO121 := n1_
          have HO127 := n2_
          have BK124 := n3_
          have HB := n4_
          clear n0_ n1_ n2_ n3_ n4_
          (try clear hb)
          (try clear hb2)
          (try clear hk)
          (try clear hi)
          refine hK.out _ _ ⟨(blk_cell BK124.out 0).trans rfl, (blk_cell BK124.out 1).trans rfl, (blk_cell BK124.out 2).trans rfl⟩ (fun hHeld => ?_)
          clear hK K
          refine norm_ (a' := ?_) ?_ ?_
          rotate_left
          · show Act.put _ (some 30) _ = _
            simp only [Act.put, List.setIfInBounds_toArray, List.set_cons_zero, List.set_cons_succ, i64_w, i32_w]
            rfl
          refine pure_ (i := 21) (N := some 31) (v := ?_) (a' := ?_) #[true, true, true, true, true, true, true, true, true, true, true, true, true, true, true, true, true, true, true, true, true, true, false, false] rfl rfl (any_of HT_.out (by kernel_rfl)) (fun _ _ _ h => h) (Or.inl ⟨by rfl, ?_⟩) ?_ ?_
          rotate_left
          · intro w'
            go_simp
            first | (with_reducible rfl) | (rw [if_neg (by have h0_ : (⟨#[112, 108, 117, 115, 40, 32, 88, 44, 97, 32, 41]⟩ : ByteArray).size = 11 := rfl; simp only [decide_eq_true_eq, ByteArray.size_append, h0_] at *; omega)])
          rotate_left
          · simp only [Act.put, List.setIfInBounds_toArray, List.set_cons_zero, List.set_cons_succ, i64_w, i32_w]
            rfl
          refine pure_ (i := 22) (N := some 32) (v := ?_) (a' := ?_) #[true, true, true, true, true, true, true, true, true, true, true, true, true, true, true, true, true, true, true, true, true, true, true, false] rfl rfl (any_of HT_.out (by kernel_rfl)) (fun _ _ _ h => h) (Or.inl ⟨by rfl, ?_⟩) ?_ ?_
          rotate_left
          · intro w'
            go_simp
            first | (with_reducible rfl) | (rw [if_neg (by have h0_ : (⟨#[112, 108, 117, 115, 40, 32, 88, 44, 97, 32, 41]⟩ : ByteArray).size = 11 := rfl; simp only [decide_eq_true_eq, ByteArray.size_append, h0_] at *; omega)])
          rotate_left
          · simp only [Act.put, List.setIfInBounds_toArray, List.set_cons_zero, List.set_cons_succ, i64_w, i32_w]
            rfl
          refine pure_ (i := 23) (N := some 0) (v := ?_) (a' := ?_) #[true, true, true, true, true, true, true, true, true, true, true, true, true, true, true, true, true, true, true, true, true, true, true, true] rfl rfl (any_of HT_.out (by kernel_rfl)) (fun _ _ _ h => h) (Or.inl ⟨by rfl, ?_⟩) ?_ ?_
          rotate_left
          · intro w'
            go_simp
            first | (with_reducible rfl) | (rw [if_neg (by have h0_ : (⟨#[112, 108, 117, 115, 40, 32, 88, 44, 97, 32, 41]⟩ : ByteArray).size = 11 := rfl; simp only [decide_eq_true_eq, ByteArray.size_append, h0_] at *; omega)])
          rotate_left
          · simp only [Act.put, List.setIfInBounds_toArray, List.set_cons_zero, List.set_cons_succ, i64_w, i32_w]
            rfl
          refine done_ (done_of HT_.out (by kernel_rfl)) ?_
          try go_wp2
          go_ret
          exact ⟨by first | rfl | (simp [errW_none, errW_some] <;> rfl) | (simp [*, errW_none, errW_some] <;> rfl), by repeat (first | (with_reducible first | exact HB.out | apply below_alloc | apply pw_below_drewN | apply below_drew1 | refine below_set ?_ GE124.out) | exact HB.out)⟩
        · rw [if_neg c6] at H
          have c6b0 : ((t119.length : Int) == 2) = false := beq_eq_false_iff_ne.mpr c6
          have c6b1 : ((t119.length : Int) != 2) = true := bne_iff_ne.mpr c6
          exact absurd ((Option.some.inj H).trans HRT.out) (by decide)
      · rw [if_neg c5] at H
        have c5b0 : (t118 == 3) = false := beq_eq_false_iff_ne.mpr c5
        have c5b1 : (t118 != 3) = true := bne_iff_ne.mpr c5
        exact absurd ((Option.some.inj H).trans HRT.out) (by decide)
    · rw [if_neg c4] at H
      have c4b0 : (t123 == 0) = false := beq_eq_false_iff_ne.mpr c4
      have c4b1 : (t123 != 0) = true := bne_iff_ne.mpr c4
      exact absurd ((Option.some.inj H).trans HRT.out) (by decide)
  · rw [if_neg c3] at H
    have c3b0 : (t122 == 0) = false := beq_eq_false_iff_ne.mpr c3
    have c3b1 : (t122 != 0) = true := bne_iff_ne.mpr c3
    exact absurd ((Option.some.inj H).trans HRT.out) (by decide)
theorem amalgamlaw05_head.at60 : amalgamlaw05_head.f 60 = some true := by decide +kernel
theorem amalgamlaw05_head.val (k : Nat) (r : Bool) (h : amalgamlaw05_head.f k = some r) : r = true := by
  have h1 := at_rounds (fun k => amalgamlaw05_head.mono k) (Nat.le_max_left k 60) h
  have h2 := at_rounds (fun k => amalgamlaw05_head.mono k) (Nat.le_max_right k 60) amalgamlaw05_head.at60
  exact Option.some.inj (h1.symm.trans h2)
theorem amalgamlaw05_head.calls (k : Nat) (r : Bool) (w : World) (h : amalgamlaw05_head.f k = some r) :
    Calls Try.prog 6 #[] w fun e w' => e = .returned (.bool r) ∧ Below w.heap.size w w' := amalgamlaw05_head.callsT k r w (amalgamlaw05_head.val k r h) h
end Go.Proofs.Ytpepjodkahdicaa.PTb
