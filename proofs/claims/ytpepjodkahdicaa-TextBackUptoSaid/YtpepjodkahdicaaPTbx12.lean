-- Written by programs of this session (wip/tools), cut to what the claim uses (wip/tools/prune.py).
import Derived.Test.YtpepjodkahdicaaPTbx0
import Derived.Test.YtpepjodkahdicaaPTbx3
-- Written by a program of this session (wip/tools/myprint.py): functions, contracts, their proofs. Lean checks it.
namespace Go.Proofs.Ytpepjodkahdicaa.PTb
open Go.RowKit Go.Proofs.YtpepjodkahdicaaW.PrintWords Go.Proofs.YtpepjodkahdicaaW.PrintLast Go.Proofs.YtpepjodkahdicaaW.PrintMore
attribute [local go_sem] max2_int min2_int max_two min_two max_three min_three max_four min_four   -- for this text's walks alone
set_option linter.unusedVariables false
set_option linter.unusedSimpArgs false
def text_ShowBinds.l0 : Nat → List (S62) → List ByteArray → List (S46) → Int → Int → Option (ByteArray)
  | 0, _, _, _, _, _ => none
  | k + 1, x0, x5, x8, x9, x10 => if x10 < x9 then (if 0 ≤ x10 then (if x10 < (x8.length : Int) then (if ((rd_T46 x8 x10).f0).size + 4 ≤ 9223372036854775807 then ((text_Show.f k x0 ((rd_T46 x8 x10).f1.f0) ((rd_T46 x8 x10).f1.f1) ((rd_T46 x8 x10).f1.f2)).bind fun t173 => (if (((rd_T46 x8 x10).f0) ++ (⟨#[32, 45, 62, 32]⟩ : ByteArray)).size + t173.size ≤ 9223372036854775807 then (if x5.length < 8796093022208 then (text_ShowBinds.l0 k x0 (x5 ++ [(((rd_T46 x8 x10).f0) ++ (⟨#[32, 45, 62, 32]⟩ : ByteArray)) ++ t173]) x8 x9 (wrap64 (x10 + 1))) else (none)) else (none))) else (none)) else (none)) else (none)) else ((strings_Join.f x5 (⟨#[44, 32]⟩ : ByteArray)).bind fun t177 => (some t177))
def text_ShowBinds.f (k : Nat) (l0 : List (S62)) (l1 : List (S46)) : Option (ByteArray) := text_ShowBinds.l0 k l0 ([] : List ByteArray) l1 (l1.length : Int) 0
def text_ShowBinds.T5 : Bool × List (List Nat × List Nat) := (true, [([], []), ([], []), ([1], [1]), ([2], [2]), ([], []), ([], []), ([5], [5]), ([4, 6], [4, 6]), ([3, 7], [3, 7]), ([8], [8]), ([0, 9, 7], [0, 9]), ([10, 10, 0, 1, 2, 3, 4, 5, 6, 7, 8, 9, 10], [0, 10])])
def text_ShowBinds.B5 : List Nat := [0, 0, 2, 6, 0, 0, 32, 112, 254, 510, 1023, 2047]
theorem text_ShowBinds.tab5 : rtab .any (opsOf Try.f15 5) = text_ShowBinds.T5 := by kernel_rfl
theorem text_ShowBinds.bits5 : waitsOk text_ShowBinds.T5.2 text_ShowBinds.B5 = true := by kernel_rfl
set_option maxHeartbeats 8000000 in
set_option maxRecDepth 100000 in
theorem text_ShowBinds.calls (k : Nat) (A0 : Option Addr) (c0 : Nat) (l0 : List (S62)) (A1 : Option Addr) (c1 : Nat) (l1 : List (S46)) (r : ByteArray) (w : World) (hr0 : Kd.C k62 w A0 l0.length l0) (hc0 : l0.length ≤ c0) (hr1 : Kd.C k46 w A1 l1.length l1) (hc1 : l1.length ≤ c1) (h : text_ShowBinds.f k l0 l1 = some r) :
    Calls Try.prog 15 #[.slice A0 l0.length c0, .slice A1 l1.length c1] w fun e w' => e = .returned (.string r) ∧ Below w.heap.size w w' := by
  have hu46 := Try.underlying46
  have hu27 := Try.underlying27
  have HR0 := Aside0.mk hr0
  have HC0 := Aside0.mk hc0
  clear hr0 hc0
  have HR1 := Aside0.mk hr1
  have HC1 := Aside0.mk hc1
  clear hr1 hc1
  have HB := Aside0.mk (Below.refl w.heap.size w)
  have H : (text_ShowBinds.l0 k l0 ([] : List ByteArray) l1 (l1.length : Int) 0) = some r := h
  clear h
  have H' := Aside0.mk H
  clear H
  go_enter Try.func15, Try.ntmps15
  go_wp2
  go_loopg [5, 10] k (fun kq v5 v10 w' => ∃ (x5_1 : List ByteArray) (x10_1 : Int), v10 = .int .i64 x10_1 ∧ Aside0 (text_ShowBinds.l0 kq l0 x5_1 l1 (l1.length : Int) x10_1 = some r) ∧ Aside0 (kq ≤ k) ∧ Aside0 (Kd.R Kd.string 9 w' w.heap.size (fun _ => True) v5 x5_1) ∧ Aside0 (Below w.heap.size w w'))
  case atStart => exact ⟨(([] : List ByteArray)), (0), (by first | rfl | (simp; done) | (simp [*]; done)), H', ⟨Nat.le_refl _⟩, ⟨by first | exact Kd.R_nil _ _ _ _ _ | exact Kd.N_nil _ _ _ _ _ | exact Kd.V_nil _ _ _ _ _ | exact Kd.Q_nil _ _ _ _ _ | exact Kd.S_nil _ _ _ _ _⟩, ⟨by repeat (first | (with_reducible first | exact HB.out | apply below_alloc | apply pw_below_drewN | apply below_drew1) | exact HB.out)⟩⟩
  case round =>
    clear H'
    obtain ⟨x5_1, x10_1, rfl, HA, HK1, HO_5, HB⟩ := hrel
    cases gk with
    | zero => exact absurd HA.out (by simp [text_ShowBinds.l0])
    | succ k1 =>
      have H := HA.out
      clear HA
      simp only [text_ShowBinds.l0] at H
      by_cases c3 : x10_1 < (l1.length : Int)
      · rw [if_pos c3] at H
        have c3b0 : decide (x10_1 < (l1.length : Int)) = true := decide_eq_true c3
        clear c3
        by_cases c4 : 0 ≤ x10_1
        · rw [if_pos c4] at H
          have c4b0 : decide (0 ≤ x10_1) = true := decide_eq_true c4
          clear c4
          by_cases c5 : x10_1 < (l1.length : Int)
          · rw [if_pos c5] at H
            have c5b0 : decide (x10_1 < (l1.length : Int)) = true := decide_eq_true c5
            clear c5
            by_cases c6 : ((rd_T46 l1 x10_1).f0).size + 4 ≤ 9223372036854775807
            · rw [if_pos c6] at H
              have c6b0 := eq_true c6
              have c6b1 : decide (((rd_T46 l1 x10_1).f0).size + 4 ≤ 9223372036854775807) = true := decide_eq_true c6
              try have c6b2 : (9223372036854775807 < ((rd_T46 l1 x10_1).f0).size + 4) = False := eq_false (Nat.not_lt.2 c6)
              replace H := Option.bind_eq_some_iff.mp H
              obtain ⟨t173, A70, H⟩ := H
              replace H : (if (((rd_T46 l1 x10_1).f0) ++ (⟨#[32, 45, 62, 32]⟩ : ByteArray)).size + t173.size ≤ 9223372036854775807 then (if x5_1.length < 8796093022208 then (text_ShowBinds.l0 k1 l0 (x5_1 ++ [(((rd_T46 l1 x10_1).f0) ++ (⟨#[32, 45, 62, 32]⟩ : ByteArray)) ++ t173]) l1 (l1.length : Int) (wrap64 (x10_1 + 1))) else (none)) else (none)) = some r := H
              have A7 := Aside0.mk A70
              clear A70
              by_cases c8 : (((rd_T46 l1 x10_1).f0) ++ (⟨#[32, 45, 62, 32]⟩ : ByteArray)).size + t173.size ≤ 9223372036854775807
              · rw [if_pos c8] at H
                have c8b0 := eq_true c8
                have c8b1 : decide ((((rd_T46 l1 x10_1).f0) ++ (⟨#[32, 45, 62, 32]⟩ : ByteArray)).size + t173.size ≤ 9223372036854775807) = true := decide_eq_true c8
                try have c8b2 : (9223372036854775807 < (((rd_T46 l1 x10_1).f0) ++ (⟨#[32, 45, 62, 32]⟩ : ByteArray)).size + t173.size) = False := eq_false (Nat.not_lt.2 c8)
                by_cases c9 : x5_1.length < 8796093022208
                · rw [if_pos c9] at H
                  have LMc9 := Aside0.mk c9
                  clear c9
                  obtain ⟨y174, hy174⟩ : ∃ y_ : List ByteArray, y_ = (x5_1 ++ [(((rd_T46 l1 x10_1).f0) ++ (⟨#[32, 45, 62, 32]⟩ : ByteArray)) ++ t173]) := ⟨_, rfl⟩
                  replace H : (text_ShowBinds.l0 k1 l0 y174 l1 (l1.length : Int) (wrap64 (x10_1 + 1))) = some r := by first | (rw [hy174]; with_reducible exact H) | (have H2_ := (Option.bind_some _ _).symm.trans H; rw [hy174]; with_reducible exact H2_) | (have H2_ := (Option.bind_some _ _).symm.trans H; with_reducible exact H2_) | with_reducible exact H | (rw [hy174]; exact H) | exact H
                  have Ny174 := Aside0.mk hy174
                  clear hy174
                  have H' := Aside0.mk H
                  clear H
                  have p171 : 0 ≤ (x10_1 : Int) := of_decide_eq_true (by first | (with_reducible assumption) | assumption)
                  have q171 : x10_1 < (l1.length : Int) := of_decide_eq_true (by first | (with_reducible assumption) | assumption)
                  obtain ⟨ad171, A171_3, c171_3, e171, hx171_0, hx171_1, hx171_2, hx171_3, hl171_3, hi171_3⟩ := at_T46 HR1.out x10_1 p171 q171
                  cases e171
                  replace hx171_0 := (HB.out.cell (World.block_lt_of_cell? w _ hx171_0)).trans hx171_0
                  replace hx171_1 := (HB.out.cell (World.block_lt_of_cell? w _ hx171_1)).trans hx171_1
                  replace hx171_2 := (HB.out.cell (World.block_lt_of_cell? w _ hx171_2)).trans hx171_2
                  replace hx171_3 := (HB.out.cell (World.block_lt_of_cell? w _ hx171_3)).trans hx171_3
                  have HR171_3 := Aside0.mk hi171_3
                  have HC171_3 := Aside0.mk hl171_3
                  clear hi171_3 hl171_3
                  replace p171 := eq_true p171
                  replace q171 := eq_true q171
                  try go_wp2_with (first | ((with_reducible refine gate_dst (N := 7) rfl ?_); refine box_event ?hg (N := 7) ?hd (cs := #[.string (⟨#[]⟩ : ByteArray), .string (⟨#[]⟩ : ByteArray), .int .i64 0, .slice none 0 0]) (t := 46) ?hr ?_; (case hd => rfl); (case hg => rfl); (case hr => first | (go_simp; done) | (go_simp; rfl)); intro gb172 hg w10 hbox hb; have n0_ := Aside0.mk (Kd.R_below (by (with_reducible repeat (first | apply Kd.R_alloc | apply Kd.R_drewN | apply Kd.R_drew)); exact HO_5.out) hb); have n1_ := Aside0.mk (below_step (by repeat (first | (with_reducible first | exact HB.out | apply below_alloc | apply pw_below_drewN | apply below_drew1) | exact HB.out)) hb); have n2_ := Aside0.mk (hbox); have n3_ := Aside0.mk ((by rw [hg]; exact (below_size (by repeat (first | (with_reducible first | exact HB.out | apply below_alloc | apply pw_below_drewN | apply below_drew1) | exact HB.out))) : w.heap.size ≤ gb172)); have n4_ := Aside0.mk ((by rw [hg]; exact (below_size (by repeat (first | (with_reducible first | exact HB.out | apply below_alloc | apply pw_below_drewN | apply below_drew1) | exact HB.out))) : w.heap.size ≤ gb172)); clear HO_5; clear HB; have HO_5 := n0_; have HB := n1_; have BK172 := n2_; have GW172 := n3_; have GE172 := n4_; clear n0_ n1_ n2_ n3_ n4_; clear hb hbox hg; have hcz11_0 : w10.cell? ⟨gb172, 0, none⟩ = some (.string (⟨#[]⟩ : ByteArray)) := (blk_cell BK172.out 0).trans rfl; have hcz11_1 : w10.cell? ⟨gb172, 1, none⟩ = some (.string (⟨#[]⟩ : ByteArray)) := (blk_cell BK172.out 1).trans rfl; have hcz11_2 : w10.cell? ⟨gb172, 2, none⟩ = some (.int .i64 0) := (blk_cell BK172.out 2).trans rfl; have hcz11_3 : w10.cell? ⟨gb172, 3, none⟩ = some (.slice none 0 0) := (blk_cell BK172.out 3).trans rfl; have hfz11_0 := blk_frozen BK172.out 0; have hfz11_1 := blk_frozen BK172.out 1; have hfz11_2 := blk_frozen BK172.out 2; have hfz11_3 := blk_frozen BK172.out 3))
                  have n0_ : Aside0 (Kd.R Kd.string 9 ((((w10.setCell ⟨gb172, 0, none⟩ (.string ((rd_T46 l1 x10_1).f0))).setCell ⟨gb172, 1, none⟩ (.string ((rd_T46 l1 x10_1).f1.f0))).setCell ⟨gb172, 2, none⟩ (.int .i64 ((rd_T46 l1 x10_1).f1.f1))).setCell ⟨gb172, 3, none⟩ (.slice A171_3 ((rd_T46 l1 x10_1).f1.f2).length c171_3)) w.heap.size (fun _ => True) u5 x5_1) := ⟨by (with_reducible repeat (first | apply Kd.R_alloc | apply Kd.R_drewN | apply Kd.R_drew)); exact Kd.R_mono (Kd.R_far (p := ⟨gb172, 3, none⟩) (Kd.R_far (p := ⟨gb172, 2, none⟩) (Kd.R_far (p := ⟨gb172, 1, none⟩) (Kd.R_far (p := ⟨gb172, 0, none⟩) (Kd.R_types HO_5.out BK172.out (by decide)) (fun _ hk => hk.2) (.string ((rd_T46 l1 x10_1).f0))) (fun _ hk => hk.2) (.string ((rd_T46 l1 x10_1).f1.f0))) (fun _ hk => hk.2) (.int .i64 ((rd_T46 l1 x10_1).f1.f1))) (fun _ hk => hk.2) (.slice A171_3 ((rd_T46 l1 x10_1).f1.f2).length c171_3)) (fun _ hk => trivial)⟩
                  have n1_ : Aside0 (((((w10.setCell ⟨gb172, 0, none⟩ (.string ((rd_T46 l1 x10_1).f0))).setCell ⟨gb172, 1, none⟩ (.string ((rd_T46 l1 x10_1).f1.f0))).setCell ⟨gb172, 2, none⟩ (.int .i64 ((rd_T46 l1 x10_1).f1.f1))).setCell ⟨gb172, 3, none⟩ (.slice A171_3 ((rd_T46 l1 x10_1).f1.f2).length c171_3)).heap[gb172]? = some (.cells #[.string ((rd_T46 l1 x10_1).f0), .string ((rd_T46 l1 x10_1).f1.f0), .int .i64 ((rd_T46 l1 x10_1).f1.f1), .slice A171_3 ((rd_T46 l1 x10_1).f1.f2).length c171_3] 46 (0, 0))) := ⟨by (with_reducible repeat (first | refine blk_drewN ?_ _ | refine blk_drew ?_ | refine blk_alloc ?_ _)); refine blk_put (cs := #[.string ((rd_T46 l1 x10_1).f0), .string ((rd_T46 l1 x10_1).f1.f0), .int .i64 ((rd_T46 l1 x10_1).f1.f1), .slice none 0 0]) ?_ 3 _ rfl; (with_reducible repeat (first | refine blk_drewN ?_ _ | refine blk_drew ?_ | refine blk_alloc ?_ _)); refine blk_put (cs := #[.string ((rd_T46 l1 x10_1).f0), .string ((rd_T46 l1 x10_1).f1.f0), .int .i64 0, .slice none 0 0]) ?_ 2 _ rfl; (with_reducible repeat (first | refine blk_drewN ?_ _ | refine blk_drew ?_ | refine blk_alloc ?_ _)); refine blk_put (cs := #[.string ((rd_T46 l1 x10_1).f0), .string (⟨#[]⟩ : ByteArray), .int .i64 0, .slice none 0 0]) ?_ 1 _ rfl; (with_reducible repeat (first | refine blk_drewN ?_ _ | refine blk_drew ?_ | refine blk_alloc ?_ _)); refine blk_put (cs := #[.string (⟨#[]⟩ : ByteArray), .string (⟨#[]⟩ : ByteArray), .int .i64 0, .slice none 0 0]) ?_ 0 _ rfl; (with_reducible repeat (first | refine blk_drewN ?_ _ | refine blk_drew ?_ | refine blk_alloc ?_ _)); exact BK172.out⟩
                  have n2_ : Aside0 (Below w.heap.size w ((((w10.setCell ⟨gb172, 0, none⟩ (.string ((rd_T46 l1 x10_1).f0))).setCell ⟨gb172, 1, none⟩ (.string ((rd_T46 l1 x10_1).f1.f0))).setCell ⟨gb172, 2, none⟩ (.int .i64 ((rd_T46 l1 x10_1).f1.f1))).setCell ⟨gb172, 3, none⟩ (.slice A171_3 ((rd_T46 l1 x10_1).f1.f2).length c171_3))) := ⟨by repeat (first | (with_reducible first | exact HB.out | apply below_alloc | apply pw_below_drewN | apply below_drew1 | refine below_set ?_ GE172.out) | exact HB.out)⟩
                  (try clear HO_5)
                  (try clear BK172)
                  (try clear HB)
                  generalize ((((w10.setCell ⟨gb172, 0, none⟩ (.string ((rd_T46 l1 x10_1).f0))).setCell ⟨gb172, 1, none⟩ (.string ((rd_T46 l1 x10_1).f1.f0))).setCell ⟨gb172, 2, none⟩ (.int .i64 ((rd_T46 l1 x10_1).f1.f1))).setCell ⟨gb172, 3, none⟩ (.slice A171_3 ((rd_T46 l1 x10_1).f1.f2).length c171_3)) = w12 at n0_ n1_ n2_ ⊢
                  have HO_5 := n0_
                  have BK172 := n1_
                  have HB := n2_
                  clear n0_ n1_ n2_
                  have n0_ := Aside0.mk (Kd.R_drew HO_5.out)
                  have n1_ := Aside0.mk (blk_drew BK172.out)
                  have n2_ := Aside0.mk (below_drew1 HB.out)
                  clear HO_5
                  clear BK172
                  clear HB
                  have HO_5 := n0_
                  have BK172 := n1_
                  have HB := n2_
                  clear n0_ n1_ n2_
                  refine start_ (n := 12) (S := fun w' => w'.cell? ⟨gb172, 0, none⟩ = some (.string ((rd_T46 l1 x10_1).f0)) ∧ w'.cell? ⟨gb172, 1, none⟩ = some (.string ((rd_T46 l1 x10_1).f1.f0)) ∧ w'.cell? ⟨gb172, 2, none⟩ = some (.int .i64 ((rd_T46 l1 x10_1).f1.f1)) ∧ w'.cell? ⟨gb172, 3, none⟩ = some (.slice A171_3 ((rd_T46 l1 x10_1).f1.f2).length c171_3)) (ds := []) #[false, false, false, false, false, false, false, false, false, false, false, false] (by kernel_rfl) rfl rfl ⟨(blk_cell BK172.out 0).trans rfl, (blk_cell BK172.out 1).trans rfl, (blk_cell BK172.out 2).trans rfl, (blk_cell BK172.out 3).trans rfl⟩ (fun hHeld => ?_); refine with_tabW text_ShowBinds.tab5 text_ShowBinds.bits5 (fun HT_ HW_ => ?_)
                  generalize w12.drew = w13 at HO_5 BK172 HB hHeld ⊢
                  refine pure_ (i := 0) (N := some 14) (v := ?_) (a' := ?_) #[true, false, false, false, false, false, false, false, false, false, false, false] rfl rfl (any_of HT_.out (by kernel_rfl)) (fun _ _ _ h => h) (Or.inl ⟨by rfl, ?_⟩) ?_ ?_
                  rotate_left
                  · intro w'
                    go_simp
                    first | (with_reducible rfl) | (rw [if_neg (by have h0_ : (⟨#[32, 45, 62, 32]⟩ : ByteArray).size = 4 := rfl; have h1_ : (⟨#[44, 32]⟩ : ByteArray).size = 2 := rfl; simp only [decide_eq_true_eq, ByteArray.size_append, h0_, h1_] at *; omega)])
                  rotate_left
                  · simp only [Act.put, List.setIfInBounds_toArray, List.set_cons_zero, List.set_cons_succ, i64_w, i32_w]
                    rfl
                  refine pure_ (i := 1) (N := some 15) (v := ?_) (a' := ?_) #[true, true, false, false, false, false, false, false, false, false, false, false] rfl rfl (any_of HT_.out (by kernel_rfl)) (fun _ _ _ h => h) (Or.inl ⟨by rfl, ?_⟩) ?_ ?_
                  rotate_left
                  · intro w'
                    go_simp
                    first | (with_reducible rfl) | (rw [if_neg (by have h0_ : (⟨#[32, 45, 62, 32]⟩ : ByteArray).size = 4 := rfl; have h1_ : (⟨#[44, 32]⟩ : ByteArray).size = 2 := rfl; simp only [decide_eq_true_eq, ByteArray.size_append, h0_, h1_] at *; omega)])
                  rotate_left
                  · simp only [Act.put, List.setIfInBounds_toArray, List.set_cons_zero, List.set_cons_succ, i64_w, i32_w]
                    rfl
                  refine pure_ (i := 4) (N := some 18) (v := ?_) (a' := ?_) #[true, true, false, false, true, false, false, false, false, false, false, false] rfl rfl (any_of HT_.out (by kernel_rfl)) (fun _ _ _ h => h) (Or.inl ⟨by rfl, ?_⟩) ?_ ?_
                  rotate_left
                  · intro w'
                    go_simp
                    first | (with_reducible rfl) | (rw [if_neg (by have h0_ : (⟨#[32, 45, 62, 32]⟩ : ByteArray).size = 4 := rfl; have h1_ : (⟨#[44, 32]⟩ : ByteArray).size = 2 := rfl; simp only [decide_eq_true_eq, ByteArray.size_append, h0_, h1_] at *; omega)])
                  rotate_left
                  · simp only [Act.put, List.setIfInBounds_toArray, List.set_cons_zero, List.set_cons_succ, i64_w, i32_w]
                    rfl
                  refine pure_ (i := 5) (N := some 19) (v := ?_) (a' := ?_) #[true, true, false, false, true, true, false, false, false, false, false, false] rfl rfl (any_of HT_.out (by kernel_rfl)) (fun _ _ _ h => h) (Or.inl ⟨by rfl, ?_⟩) ?_ ?_
                  rotate_left
                  · intro w'
                    go_simp
                    first | (with_reducible rfl) | (rw [if_neg (by have h0_ : (⟨#[32, 45, 62, 32]⟩ : ByteArray).size = 4 := rfl; have h1_ : (⟨#[44, 32]⟩ : ByteArray).size = 2 := rfl; simp only [decide_eq_true_eq, ByteArray.size_append, h0_, h1_] at *; omega)])
                  rotate_left
                  · simp only [Act.put, List.setIfInBounds_toArray, List.set_cons_zero, List.set_cons_succ, i64_w, i32_w]
                    rfl
                  refine take_ (i := 2) (N := some 16) (v := ?_) (a' := ?_) #[true, true, true, false, true, true, false, false, false, false, false, false] rfl rfl (take_ofW HT_.out HW_.out (by kernel_rfl)) (fun _ _ _ h => h) (Or.inl ⟨by rfl, ?_⟩) hHeld ?_ ?_
                  rotate_left
                  · rintro w' ⟨s0, s1, s2, s3⟩
                    go_simp
                    first | (with_reducible rfl) | (rw [if_neg (by have h0_ : (⟨#[32, 45, 62, 32]⟩ : ByteArray).size = 4 := rfl; have h1_ : (⟨#[44, 32]⟩ : ByteArray).size = 2 := rfl; simp only [decide_eq_true_eq, ByteArray.size_append, h0_, h1_] at *; omega)])
                  rotate_left
                  · simp only [Act.put, List.setIfInBounds_toArray, List.set_cons_zero, List.set_cons_succ, i64_w, i32_w]
                    rfl
                  refine pure_ (i := 3) (N := some 17) (v := ?_) (a' := ?_) #[true, true, true, true, true, true, false, false, false, false, false, false] rfl rfl (any_of HT_.out (by kernel_rfl)) (fun _ _ _ h => h) (Or.inl ⟨by rfl, ?_⟩) ?_ ?_
                  rotate_left
                  · intro w'
                    go_simp
                    first | (with_reducible rfl) | (rw [if_neg (by have h0_ : (⟨#[32, 45, 62, 32]⟩ : ByteArray).size = 4 := rfl; have h1_ : (⟨#[44, 32]⟩ : ByteArray).size = 2 := rfl; simp only [decide_eq_true_eq, ByteArray.size_append, h0_, h1_] at *; omega)])
                  rotate_left
                  · simp only [Act.put, List.setIfInBounds_toArray, List.set_cons_zero, List.set_cons_succ, i64_w, i32_w]
                    rfl
                  refine take_ (i := 6) (N := some 20) (v := ?_) (a' := ?_) #[true, true, true, true, true, true, true, false, false, false, false, false] rfl rfl (take_ofW HT_.out HW_.out (by kernel_rfl)) (fun _ _ _ h => h) (Or.inl ⟨by rfl, ?_⟩) hHeld ?_ ?_
                  rotate_left
                  · rintro w' ⟨s0, s1, s2, s3⟩
                    go_simp
                    first | (with_reducible rfl) | (rw [if_neg (by have h0_ : (⟨#[32, 45, 62, 32]⟩ : ByteArray).size = 4 := rfl; have h1_ : (⟨#[44, 32]⟩ : ByteArray).size = 2 := rfl; simp only [decide_eq_true_eq, ByteArray.size_append, h0_, h1_] at *; omega)])
                  rotate_left
                  · simp only [Act.put, List.setIfInBounds_toArray, List.set_cons_zero, List.set_cons_succ, i64_w, i32_w]
                    rfl
                  refine one_ (i := 7) (N := some 21) #[true, true, true, true, true, true, true, true, false, false, false, false] rfl rfl (one_of HT_.out (by kernel_rfl)) (by decide) (fun K hK => ?_)
                  refine goes_ Try.func9 (by kernel_rfl) rfl #[.slice A0 l0.length c0, .agg #[.string ((rd_T46 l1 x10_1).f1.f0), .int .i64 ((rd_T46 l1 x10_1).f1.f1), .slice A171_3 ((rd_T46 l1 x10_1).f1.f2).length c171_3]] (by rfl) rfl rfl (by (try simp only [List.map_toArray, List.map_cons, List.map_nil]); first | done | rfl | (simp only [List.length_drop, List.length_take]; rfl)) ?_
                  with_reducible refine (text_Show.calls k1 _ _ l0 ((rd_T46 l1 x10_1).f1.f0) ((rd_T46 l1 x10_1).f1.f1) _ _ ((rd_T46 l1 x10_1).f1.f2) t173 _ ?side1 ?side2 ?side3 ?side4 A7.out).mono ?_
                  (case side1 => repeat (first | exact (Kd.C_below HR0.out HB.out) | (with_reducible refine Kd.C_alloc ?_ _) | (with_reducible refine Kd.C_drewN ?_ _) | (with_reducible refine Kd.C_drew ?_)))
                  (case side2 => exact HC0.out)
                  (case side3 => repeat (first | exact (Kd.C_below HR171_3.out HB.out) | (with_reducible refine Kd.C_alloc ?_ _) | (with_reducible refine Kd.C_drewN ?_ _) | (with_reducible refine Kd.C_drew ?_)))
                  (case side4 => exact HC171_3.out)
                  rintro e w14 ⟨rfl, hb⟩
                  refine ⟨_, rfl, ?_⟩
                  have n0_ := Aside0.mk (Kd.R_below (by (with_reducible repeat (first | apply Kd.R_alloc | apply Kd.R_drewN | apply Kd.R_drew)); exact HO_5.out) hb)
                  have n1_ := Aside0.mk (blk_below (g := gb172) (o := .cells #[.string ((rd_T46 l1 x10_1).f0), .string ((rd_T46 l1 x10_1).f1.f0), .int .i64 ((rd_T46 l1 x10_1).f1.f1), .slice A171_3 ((rd_T46 l1 x10_1).f1.f2).length c171_3] 46 (0, 0)) (by (with_reducible repeat (first | refine blk_drewN ?_ _ | refine blk_drew ?_ | refine blk_alloc ?_ _)); exact BK172.out) hb)
                  have n2_ := Aside0.mk (below_step (by repeat (first | (with_reducible first | exact HB.out | apply below_alloc | apply pw_below_drewN | apply below_drew1 | refine below_set ?_ GE172.out) | exact HB.out)) hb)
                  clear HO_5
                  clear BK172
                  clear HB
                  have HO_5 := n0_
                  have BK172 := n1_
                  have HB := n2_
                  clear n0_ n1_ n2_
                  (try clear hb)
                  (try clear hb2)
                  (try clear hk)
                  (try clear hi)
                  refine hK.out _ _ ⟨(blk_cell BK172.out 0).trans rfl, (blk_cell BK172.out 1).trans rfl, (blk_cell BK172.out 2).trans rfl, (blk_cell BK172.out 3).trans rfl⟩ (fun hHeld => ?_)
                  clear hK K
                  refine norm_ (a' := ?_) ?_ ?_
                  rotate_left
                  · show Act.put _ (some 21) _ = _
                    simp only [Act.put, List.setIfInBounds_toArray, List.set_cons_zero, List.set_cons_succ, i64_w, i32_w]
                    rfl
                  refine pure_ (i := 8) (N := some 22) (v := ?_) (a' := ?_) #[true, true, true, true, true, true, true, true, true, false, false, false] rfl rfl (any_of HT_.out (by kernel_rfl)) (fun _ _ _ h => h) (Or.inl ⟨by rfl, ?_⟩) ?_ ?_
                  rotate_left
                  · intro w'
                    go_simp
                    first | (with_reducible rfl) | (rw [if_neg (by have h0_ : (⟨#[32, 45, 62, 32]⟩ : ByteArray).size = 4 := rfl; have h1_ : (⟨#[44, 32]⟩ : ByteArray).size = 2 := rfl; simp only [decide_eq_true_eq, ByteArray.size_append, h0_, h1_] at *; omega)])
                  rotate_left
                  · simp only [Act.put, List.setIfInBounds_toArray, List.set_cons_zero, List.set_cons_succ, i64_w, i32_w]
                    rfl
                  refine one_ (i := 9) (N := some 23) #[true, true, true, true, true, true, true, true, true, true, false, false] rfl rfl (one_of HT_.out (by kernel_rfl)) (by decide) (fun K hK => ?_)
                  refine value_ (w1 := ?_) (v := ?_) (by rfl) rfl ?_ ?_
                  rotate_left 2
                  · go_simp
                    constructor
                    · rfl
                    · rfl
                  refine hK.out _ _ ⟨(blk_cell (blk_alloc BK172.out _) 0).trans rfl, (blk_cell (blk_alloc BK172.out _) 1).trans rfl, (blk_cell (blk_alloc BK172.out _) 2).trans rfl, (blk_cell (blk_alloc BK172.out _) 3).trans rfl⟩ (fun hHeld => ?_)
                  clear hK K
                  refine norm_ (a' := ?_) ?_ ?_
                  rotate_left
                  · show Act.put _ (some 23) _ = _
                    simp only [Act.put, List.setIfInBounds_toArray, List.set_cons_zero, List.set_cons_succ, i64_w, i32_w]
                    rfl
                  refine one_ (i := 10) (N := some 24) #[true, true, true, true, true, true, true, true, true, true, true, false] rfl rfl (one_of HT_.out (by kernel_rfl)) (by decide) (fun K hK => ?_)
                  refine Kd.R_append_step Kd.string (w0 := w) w.heap.size (by rfl) (.tmp 14) (.tmp 23) 59 9 (.string ⟨#[]⟩) 16 rfl Try.underlying59 info9 rfl (by decide) (by omega) u5 x5_1 ((((rd_T46 l1 x10_1).f0) ++ (⟨#[32, 45, 62, 32]⟩ : ByteArray)) ++ t173) [.string ((((rd_T46 l1 x10_1).f0) ++ (⟨#[32, 45, 62, 32]⟩ : ByteArray)) ++ t173)] (fun _ => True) (fun _ => False) rfl rfl ?aP (fun _ hk => hk.elim) ?aF ?aO ?aB ?aS ?aL ?_
                  (case aP => exact rfl)
                  (case aB => exact (by repeat (first | (with_reducible first | exact HB.out | apply below_alloc | apply pw_below_drewN | apply below_drew1 | refine below_set ?_ GE172.out) | exact HB.out)))
                  (case aF => exact (fun _ _ => trivial))
                  (case aO => exact (by (with_reducible repeat (first | apply Kd.R_alloc | apply Kd.R_drewN | apply Kd.R_drew)); exact HO_5.out))
                  (case aS => exact (below_size (by repeat (first | (with_reducible first | exact HB.out | apply below_alloc | apply pw_below_drewN | apply below_drew1 | refine below_set ?_ GE172.out) | exact HB.out))))
                  (case aL => have := LMc9.out; omega)
                  intro v175 w15 ho hb hg hat
                  rw [← Ny174.out] at ho
                  have n0_ := Aside0.mk (blk_grown (g := gb172) (o := .cells #[.string ((rd_T46 l1 x10_1).f0), .string ((rd_T46 l1 x10_1).f1.f0), .int .i64 ((rd_T46 l1 x10_1).f1.f1), .slice A171_3 ((rd_T46 l1 x10_1).f1.f2).length c171_3] 46 (0, 0)) (by (with_reducible repeat (first | refine blk_drewN ?_ _ | refine blk_drew ?_ | refine blk_alloc ?_ _)); exact BK172.out) hg (Kd.R_ne HO_5.out BK172.out (by decide)))
                  have n1_ := Aside0.mk (hb)
                  have n2_ := Aside0.mk (ho)
                  clear BK172
                  clear HB
                  clear HO_5
                  have BK172 := n0_
                  have HB := n1_
                  have HO176 := n2_
                  clear n0_ n1_ n2_
                  clear ho hb hg hat
                  refine hK.out _ _ ⟨(blk_cell BK172.out 0).trans rfl, (blk_cell BK172.out 1).trans rfl, (blk_cell BK172.out 2).trans rfl, (blk_cell BK172.out 3).trans rfl⟩ (fun hHeld => ?_)
                  clear hK K
                  refine norm_ (a' := ?_) ?_ ?_
                  rotate_left
                  · show Act.put _ (some 24) _ = _
                    simp only [Act.put, List.setIfInBounds_toArray, List.set_cons_zero, List.set_cons_succ, i64_w, i32_w]
                    rfl
                  refine pure_ (i := 11) (N := some 5) (v := ?_) (a' := ?_) #[true, true, true, true, true, true, true, true, true, true, true, true] rfl rfl (any_of HT_.out (by kernel_rfl)) (fun _ _ _ h => h) (Or.inl ⟨by rfl, ?_⟩) ?_ ?_
                  rotate_left
                  · intro w'
                    go_simp
                    first | (with_reducible rfl) | (rw [if_neg (by have h0_ : (⟨#[32, 45, 62, 32]⟩ : ByteArray).size = 4 := rfl; have h1_ : (⟨#[44, 32]⟩ : ByteArray).size = 2 := rfl; simp only [decide_eq_true_eq, ByteArray.size_append, h0_, h1_] at *; omega)])
                  rotate_left
                  · simp only [Act.put, List.setIfInBounds_toArray, List.set_cons_zero, List.set_cons_succ, i64_w, i32_w]
                    rfl
                  refine done_ (done_of HT_.out (by kernel_rfl)) ?_
                  try go_wp2
                  go_roundg k1
                  case measure => have := HK1.out; omega
                  case rel => exact ⟨(y174), (wrap64 (x10_1 + 1)), (by first | rfl | (simp; done) | (simp [*]; done)), H', ⟨by have := HK1.out; omega⟩, ⟨by (with_reducible repeat (first | apply Kd.R_alloc | apply Kd.R_drewN | apply Kd.R_drew)); exact HO176.out⟩, ⟨by repeat (first | (with_reducible first | exact HB.out | apply below_alloc | apply pw_below_drewN | apply below_drew1 | refine below_set ?_ GE172.out) | exact HB.out)⟩⟩
                · rw [if_neg c9] at H
                  exact absurd H (by simp)
              · rw [if_neg c8] at H
                exact absurd H (by simp)
            · rw [if_neg c6] at H
              exact absurd H (by simp)
          · rw [if_neg c5] at H
            exact absurd H (by simp)
        · rw [if_neg c4] at H
          exact absurd H (by simp)
      · rw [if_neg c3] at H
        have c3b0 : decide (x10_1 < (l1.length : Int)) = false := decide_eq_false c3
        clear c3
        replace H := Option.bind_eq_some_iff.mp H
        obtain ⟨t177, A160, H⟩ := H
        replace H : (some t177) = some r := H
        have A16 := Aside0.mk A160
        clear A160
        obtain rfl := Option.some.inj H
        obtain ⟨Ao17, co17, eo17⟩ := Kd.R_slice HO_5.out
        subst eo17
        go_wp2_with (first | ((with_reducible refine gate_callee (f := 24) rfl ?_); refine goesL_ (some 27) rfl rfl Try.func24 (by kernel_rfl) rfl #[.slice Ao17 x5_1.length co17, .string (⟨#[44, 32]⟩ : ByteArray)] rfl (by (try simp only [List.map_toArray, List.map_cons, List.map_nil]); first | done | rfl | (simp only [List.length_drop, List.length_take]; rfl)) ?_; (with_reducible refine (strings_Join.calls _ _ x5_1 (⟨#[44, 32]⟩ : ByteArray) t177 _ ?side1 ?side2 A16.out).mono ?_); (case side1 => repeat (first | exact (Kd.R_reads' HO_5.out).2.2 | (with_reducible refine Kd.C_alloc ?_ _) | (with_reducible refine Kd.C_drewN ?_ _) | (with_reducible refine Kd.C_drew ?_))); (case side2 => exact (Kd.R_reads' HO_5.out).2.1); rintro e w18 ⟨rfl, hb⟩; refine ⟨_, rfl, ?_⟩; have n0_ := Aside0.mk (Kd.R_below (by (with_reducible repeat (first | apply Kd.R_alloc | apply Kd.R_drewN | apply Kd.R_drew)); exact HO_5.out) hb); have n1_ := Aside0.mk (below_step (by repeat (first | (with_reducible first | exact HB.out | apply below_alloc | apply pw_below_drewN | apply below_drew1) | exact HB.out)) hb); clear HO_5; clear HB; have HO_5 := n0_; have HB := n1_; clear n0_ n1_; (try clear hb); (try clear hb2); (try clear hk); (try clear hi)))
        go_ret
        exact ⟨by first | rfl | (simp [errW_none, errW_some] <;> rfl) | (simp [*, errW_none, errW_some] <;> rfl), by repeat (first | (with_reducible first | exact HB.out | apply below_alloc | apply pw_below_drewN | apply below_drew1) | exact HB.out)⟩

end Go.Proofs.Ytpepjodkahdicaa.PTb
