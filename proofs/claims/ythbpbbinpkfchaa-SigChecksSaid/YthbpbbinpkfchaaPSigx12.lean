-- Written by a program of this session (wip/tools/myprint.py): functions, contracts, their proofs. Lean checks it.
import Derived.Test.YthbpbbinpkfchaaPSigx0
import Derived.Test.YthbpbbinpkfchaaPSigx4
import Derived.Test.YthbpbbinpkfchaaPSigx8
import Derived.Test.YthbpbbinpkfchaaPSigx10
namespace Go.Proofs.Ythbpbbinpkfchaa.PSig
open Go.RowKit Go.Proofs.YthbpbbinpkfchaaW.PrintWords Go.Proofs.YthbpbbinpkfchaaW.PrintLast Go.Proofs.YthbpbbinpkfchaaW.PrintMore
attribute [local go_sem] max2_int min2_int max_two min_two max_three min_three max_four min_four   -- for this text's walks alone
set_option linter.unusedVariables false
set_option linter.unusedSimpArgs false

/-! ### sig_Plain: function 20 -/
def sig_Plain.l0 : Nat → List (S36) → List (S36) → Int → Int → Option ((List (S36)))
  | 0, _, _, _, _ => none
  | k + 1, x3, x6, x7, x8 => if x8 < x7 then (if 0 ≤ x8 then (if x8 < (x6.length : Int) then (if ((rd_T36 x6 x8).f1) = 3 then (if x3.length < 2932031007402 then (sig_Plain.l0 k (x3 ++ [(⟨(rd_T36 x6 x8).f0, 2, (rd_T36 x6 x8).f2, (⟨#[]⟩ : ByteArray)⟩ : S36)]) x6 x7 (wrap64 (x8 + 1))) else (none)) else (if x3.length < 2932031007402 then (sig_Plain.l0 k (x3 ++ [(⟨(rd_T36 x6 x8).f0, (rd_T36 x6 x8).f1, (rd_T36 x6 x8).f2, (rd_T36 x6 x8).f3⟩ : S36)]) x6 x7 (wrap64 (x8 + 1))) else (none))) else (none)) else (none)) else (some x3)
def sig_Plain.f (k : Nat) (l0 : List (S36)) : Option ((List (S36))) := sig_Plain.l0 k ([] : List (S36)) l0 (l0.length : Int) 0
theorem sig_Plain.mono_l : ∀ k, (∀ y0 y1 y2 y3, LeO (sig_Plain.l0 k y0 y1 y2 y3) (sig_Plain.l0 (k + 1) y0 y1 y2 y3))
  | 0 => fun _ _ _ _ r h => by simp [sig_Plain.l0] at h
  | k + 1 => by
    have ih0 := sig_Plain.mono_l k
    · intro y0 y1 y2 y3
      unfold sig_Plain.l0
      repeat' first
      | (with_reducible exact ih0 _ _ _ _)
      | (with_reducible exact LeO.refl _)
      | (with_reducible exact LeO.none _)
      | (with_reducible refine LeO.ite ?_ ?_)
      | (with_reducible refine LeO.bind ?_ (fun _ => ?_))
      | exact ih0 _ _ _ _
      | exact LeO.none _
      | refine LeO.ite ?_ ?_
      | refine LeO.bind ?_ (fun _ => ?_)
theorem sig_Plain.mono : ∀ a0 k, LeO (sig_Plain.f k a0) (sig_Plain.f (k + 1) a0) := by
  intro a0 k
  have ih0 := sig_Plain.mono_l k
  unfold sig_Plain.f
  repeat' first
      | (with_reducible exact ih0 _ _ _ _)
      | (with_reducible exact LeO.refl _)
      | (with_reducible exact LeO.none _)
      | (with_reducible refine LeO.ite ?_ ?_)
      | (with_reducible refine LeO.bind ?_ (fun _ => ?_))
      | exact ih0 _ _ _ _
      | exact LeO.none _
      | refine LeO.ite ?_ ?_
      | refine LeO.bind ?_ (fun _ => ?_)
set_option maxHeartbeats 2000000 in
set_option maxRecDepth 100000 in
theorem sig_Plain.calls (k : Nat) (A0 : Option Addr) (c0 : Nat) (l0 : List (S36)) (r : List (S36)) (w : World) (hr0 : Kd.C k36 w A0 l0.length l0) (hc0 : l0.length ≤ c0) (h : sig_Plain.f k l0 = some r) :
    Calls Try.prog 20 #[.slice A0 l0.length c0] w fun e w' => ∃ v0_ : Value, e = .returned (v0_) ∧ Kd.R k36 36 w' w.heap.size (fun _ => True) v0_ r ∧ Below w.heap.size w w' := by
  have hu36 := Try.underlying36
  have HR0 := Aside0.mk hr0
  have HC0 := Aside0.mk hc0
  clear hr0 hc0
  have HB := Aside0.mk (Below.refl w.heap.size w)
  have H : (sig_Plain.l0 k ([] : List (S36)) l0 (l0.length : Int) 0) = some r := h
  clear h
  have H' := Aside0.mk H
  clear H
  go_enter Try.func20, Try.ntmps20
  go_wp2
  go_loopg [3, 8] k (fun kq v3 v8 w' => ∃ (x3_1 : List (S36)) (x8_1 : Int), v8 = .int .i64 x8_1 ∧ Aside0 (sig_Plain.l0 kq x3_1 l0 (l0.length : Int) x8_1 = some r) ∧ Aside0 (kq ≤ k) ∧ Aside0 (Kd.R k36 36 w' w.heap.size (fun _ => True) v3 x3_1) ∧ Aside0 (Below w.heap.size w w'))
  case atStart => exact ⟨(([] : List (S36))), (0), (by first | rfl | (simp; done) | (simp [*]; done)), H', ⟨Nat.le_refl _⟩, ⟨by first | exact Kd.R_nil _ _ _ _ _ | exact Kd.N_nil _ _ _ _ _ | exact Kd.V_nil _ _ _ _ _ | exact Kd.Q_nil _ _ _ _ _ | exact Kd.S_nil _ _ _ _ _⟩, ⟨by repeat (first | (with_reducible first | exact HB.out | apply below_alloc | apply pw_below_drewN | apply below_drew1) | exact HB.out)⟩⟩
  case round =>
    clear H'
    obtain ⟨x3_1, x8_1, rfl, HA, HK1, HO_3, HB⟩ := hrel
    cases gk with
    | zero => exact absurd HA.out (by simp [sig_Plain.l0])
    | succ k1 =>
      have H := HA.out
      clear HA
      simp only [sig_Plain.l0] at H
      by_cases c2 : x8_1 < (l0.length : Int)
      · rw [if_pos c2] at H
        have c2b0 : decide (x8_1 < (l0.length : Int)) = true := decide_eq_true c2
        clear c2
        by_cases c3 : 0 ≤ x8_1
        · rw [if_pos c3] at H
          have c3b0 : decide (0 ≤ x8_1) = true := decide_eq_true c3
          clear c3
          by_cases c4 : x8_1 < (l0.length : Int)
          · rw [if_pos c4] at H
            have c4b0 : decide (x8_1 < (l0.length : Int)) = true := decide_eq_true c4
            clear c4
            by_cases c5 : ((rd_T36 l0 x8_1).f1) = 3
            · rw [if_pos c5] at H
              have c5b0 : (((rd_T36 l0 x8_1).f1) == 3) = true := beq_iff_eq.mpr c5
              have c5b1 : (((rd_T36 l0 x8_1).f1) != 3) = false := bne_eq_false_iff_eq.mpr c5
              clear c5
              by_cases c6 : x3_1.length < 2932031007402
              · rw [if_pos c6] at H
                have LMc6 := Aside0.mk c6
                clear c6
                obtain ⟨y103, hy103⟩ : ∃ y_ : List (S36), y_ = (x3_1 ++ [(⟨(rd_T36 l0 x8_1).f0, 2, (rd_T36 l0 x8_1).f2, (⟨#[]⟩ : ByteArray)⟩ : S36)]) := ⟨_, rfl⟩
                replace H : (sig_Plain.l0 k1 y103 l0 (l0.length : Int) (wrap64 (x8_1 + 1))) = some r := by first | (rw [hy103]; with_reducible exact H) | (have H2_ := (Option.bind_some _ _).symm.trans H; rw [hy103]; with_reducible exact H2_) | (have H2_ := (Option.bind_some _ _).symm.trans H; with_reducible exact H2_) | with_reducible exact H | (rw [hy103]; exact H) | exact H
                have Ny103 := Aside0.mk hy103
                clear hy103
                have H' := Aside0.mk H
                clear H
                have p101 : 0 ≤ (x8_1 : Int) := of_decide_eq_true (by first | (with_reducible assumption) | assumption)
                have q101 : x8_1 < (l0.length : Int) := of_decide_eq_true (by first | (with_reducible assumption) | assumption)
                obtain ⟨ad101, e101, hx101_0, hx101_1, hx101_2, hx101_3⟩ := at_T36 HR0.out x8_1 p101 q101
                cases e101
                replace hx101_0 := (HB.out.cell (World.block_lt_of_cell? w _ hx101_0)).trans hx101_0
                replace hx101_1 := (HB.out.cell (World.block_lt_of_cell? w _ hx101_1)).trans hx101_1
                replace hx101_2 := (HB.out.cell (World.block_lt_of_cell? w _ hx101_2)).trans hx101_2
                replace hx101_3 := (HB.out.cell (World.block_lt_of_cell? w _ hx101_3)).trans hx101_3
                replace p101 := eq_true p101
                replace q101 := eq_true q101
                go_upto_region 6 with (first | ((with_reducible refine gate_dst (N := 5) rfl ?_); refine box_event ?hg (N := 5) ?hd (cs := #[.string (⟨#[]⟩ : ByteArray), .int .i64 0, .int .i64 0, .string (⟨#[]⟩ : ByteArray)]) (t := 36) ?hr ?_; (case hd => rfl); (case hg => rfl); (case hr => first | (go_simp; done) | (go_simp; rfl)); intro gb102 hg w7 hbox hb; have n0_ := Aside0.mk (Kd.R_below (Kd.R_elderB (by (with_reducible repeat (first | apply Kd.R_alloc | apply Kd.R_drewN | apply Kd.R_drew)); exact HO_3.out) gb102 (Nat.le_of_eq hg.symm)) hb); have n1_ := Aside0.mk (below_step (by repeat (first | (with_reducible first | exact HB.out | apply below_alloc | apply pw_below_drewN | apply below_drew1) | exact HB.out)) hb); have n2_ := Aside0.mk (hbox); have n3_ := Aside0.mk ((by rw [hg]; exact (below_size (by repeat (first | (with_reducible first | exact HB.out | apply below_alloc | apply pw_below_drewN | apply below_drew1) | exact HB.out))) : w.heap.size ≤ gb102)); have n4_ := Aside0.mk ((by rw [hg]; exact (below_size (by repeat (first | (with_reducible first | exact HB.out | apply below_alloc | apply pw_below_drewN | apply below_drew1) | exact HB.out))) : w.heap.size ≤ gb102)); clear HO_3; clear HB; have HO_3 := n0_; have HB := n1_; have BK102 := n2_; have GW102 := n3_; have GE102 := n4_; clear n0_ n1_ n2_ n3_ n4_; clear hb hbox hg; have hcz8_0 : w7.cell? ⟨gb102, 0, none⟩ = some (.string (⟨#[]⟩ : ByteArray)) := (blk_cell BK102.out 0).trans rfl; have hcz8_1 : w7.cell? ⟨gb102, 1, none⟩ = some (.int .i64 0) := (blk_cell BK102.out 1).trans rfl; have hcz8_2 : w7.cell? ⟨gb102, 2, none⟩ = some (.int .i64 0) := (blk_cell BK102.out 2).trans rfl; have hcz8_3 : w7.cell? ⟨gb102, 3, none⟩ = some (.string (⟨#[]⟩ : ByteArray)) := (blk_cell BK102.out 3).trans rfl; have hfz8_0 := blk_frozen BK102.out 0; have hfz8_1 := blk_frozen BK102.out 1; have hfz8_2 := blk_frozen BK102.out 2; have hfz8_3 := blk_frozen BK102.out 3))
                have BK := Aside0.mk (blk_put (cs' := #[.string ((rd_T36 l0 x8_1).f0), .int .i64 ((rd_T36 l0 x8_1).f1), .int .i64 ((rd_T36 l0 x8_1).f2), .string ((rd_T36 l0 x8_1).f3)]) (blk_put (cs' := #[.string ((rd_T36 l0 x8_1).f0), .int .i64 ((rd_T36 l0 x8_1).f1), .int .i64 ((rd_T36 l0 x8_1).f2), .string (⟨#[]⟩ : ByteArray)]) (blk_put (cs' := #[.string ((rd_T36 l0 x8_1).f0), .int .i64 ((rd_T36 l0 x8_1).f1), .int .i64 0, .string (⟨#[]⟩ : ByteArray)]) (blk_put (cs' := #[.string ((rd_T36 l0 x8_1).f0), .int .i64 0, .int .i64 0, .string (⟨#[]⟩ : ByteArray)]) BK102.out 0 (.string ((rd_T36 l0 x8_1).f0)) rfl) 1 (.int .i64 ((rd_T36 l0 x8_1).f1)) rfl) 2 (.int .i64 ((rd_T36 l0 x8_1).f2)) rfl) 3 (.string ((rd_T36 l0 x8_1).f3)) rfl)
                have HOx := Aside0.mk (Kd.R_far (p := ⟨gb102, 3, none⟩) (Kd.R_far (p := ⟨gb102, 2, none⟩) (Kd.R_far (p := ⟨gb102, 1, none⟩) (Kd.R_far (p := ⟨gb102, 0, none⟩) HO_3.out (fun _ hk => hk.2) (.string ((rd_T36 l0 x8_1).f0))) (fun _ hk => hk.2) (.int .i64 ((rd_T36 l0 x8_1).f1))) (fun _ hk => hk.2) (.int .i64 ((rd_T36 l0 x8_1).f2))) (fun _ hk => hk.2) (.string ((rd_T36 l0 x8_1).f3)))
                have HBx := Aside0.mk (below_set (j := 3) (v := .string ((rd_T36 l0 x8_1).f3)) (below_set (j := 2) (v := .int .i64 ((rd_T36 l0 x8_1).f2)) (below_set (j := 1) (v := .int .i64 ((rd_T36 l0 x8_1).f1)) (below_set (j := 0) (v := .string ((rd_T36 l0 x8_1).f0)) HB.out GE102.out) GE102.out) GE102.out) GE102.out)
                generalize hW0 : (((w7.setCell ⟨gb102, 0, none⟩ (.string ((rd_T36 l0 x8_1).f0))).setCell ⟨gb102, 1, none⟩ (.int .i64 ((rd_T36 l0 x8_1).f1))).setCell ⟨gb102, 2, none⟩ (.int .i64 ((rd_T36 l0 x8_1).f2))).setCell ⟨gb102, 3, none⟩ (.string ((rd_T36 l0 x8_1).f3)) = W at BK HOx HBx ⊢
                clear hW0
                clear hcz8_0 hcz8_1 hcz8_2 hcz8_3 hfz8_0 hfz8_1 hfz8_2 hfz8_3 BK102 HO_3 HB hx101_0 hx101_1 hx101_2 hx101_3
                have hc_0 : W.cell? ⟨gb102, 0, none⟩ = some (.string ((rd_T36 l0 x8_1).f0)) := (blk_cell BK.out 0).trans rfl
                have hf_0 := blk_frozen BK.out 0
                have hc_1 : W.cell? ⟨gb102, 1, none⟩ = some (.int .i64 ((rd_T36 l0 x8_1).f1)) := (blk_cell BK.out 1).trans rfl
                have hf_1 := blk_frozen BK.out 1
                have hc_2 : W.cell? ⟨gb102, 2, none⟩ = some (.int .i64 ((rd_T36 l0 x8_1).f2)) := (blk_cell BK.out 2).trans rfl
                have hf_2 := blk_frozen BK.out 2
                have hc_3 : W.cell? ⟨gb102, 3, none⟩ = some (.string ((rd_T36 l0 x8_1).f3)) := (blk_cell BK.out 3).trans rfl
                have hf_3 := blk_frozen BK.out 3
                go_wp2_with ((with_reducible refine gate_builtin (b := .append) (xs := #[.tmp 17, .tmp 19]) rfl ?_); at_builtin; refine Kd.R_append k36 (w0 := w) w.heap.size rfl (.tmp 17) (.tmp 19) 27 36 (.agg #[(.string ⟨#[]⟩), (.int .i64 0), (.int .i64 0), (.string ⟨#[]⟩)]) 48 rfl Try.underlying27 info36 rfl (by decide) (by omega) u3 x3_1 (⟨(rd_T36 l0 x8_1).f0, 2, (rd_T36 l0 x8_1).f2, (⟨#[]⟩ : ByteArray)⟩ : S36) [.string ((rd_T36 l0 x8_1).f0), .int .i64 2, .int .i64 ((rd_T36 l0 x8_1).f2), .string (⟨#[]⟩ : ByteArray)] (fun k_ => k_ ≠ gb102) (fun _ => False) rfl (by first | (go_simp; done) | (go_simp; rfl)) ?aP (fun _ hk => hk.elim) ?aF ?aO ?aB ?aS ?aL ?_; (case aP => exact k36_mkM _ _ _ (⟨(rd_T36 l0 x8_1).f0, 2, (rd_T36 l0 x8_1).f2, (⟨#[]⟩ : ByteArray)⟩ : S36)); (case aB => exact (by repeat (first | (with_reducible first | exact HBx.out | apply below_alloc | apply pw_below_drewN | apply below_drew1 | refine below_set ?_ GE102.out) | exact HBx.out))); (case aF => exact (fun k_ hk => Kd.freshB (g := gb102) (o := .cells #[.string ((rd_T36 l0 x8_1).f0), .int .i64 2, .int .i64 ((rd_T36 l0 x8_1).f2), .string (⟨#[]⟩ : ByteArray)] 36 (0, 0)) (by (with_reducible repeat (first | refine blk_drewN ?_ _ | refine blk_drew ?_ | refine blk_alloc ?_ _)); refine blk_put (cs := #[.string ((rd_T36 l0 x8_1).f0), .int .i64 2, .int .i64 ((rd_T36 l0 x8_1).f2), .string ((rd_T36 l0 x8_1).f3)]) ?_ 3 _ rfl; (with_reducible repeat (first | refine blk_drewN ?_ _ | refine blk_drew ?_ | refine blk_alloc ?_ _)); refine blk_put (cs := #[.string ((rd_T36 l0 x8_1).f0), .int .i64 ((rd_T36 l0 x8_1).f1), .int .i64 ((rd_T36 l0 x8_1).f2), .string ((rd_T36 l0 x8_1).f3)]) ?_ 1 _ rfl; (with_reducible repeat (first | refine blk_drewN ?_ _ | refine blk_drew ?_ | refine blk_alloc ?_ _)); exact BK.out) k_ hk)); (case aO => exact (by (with_reducible repeat (first | apply Kd.R_alloc | apply Kd.R_drewN | apply Kd.R_drew)); exact Kd.R_mono (Kd.R_far (p := ⟨gb102, 3, none⟩) (Kd.R_far (p := ⟨gb102, 1, none⟩) (Kd.R_mono HOx.out (fun k_ hk => (⟨hk, hk.2⟩ : _ ∧ k_ ≠ gb102))) (fun _ hk => hk.2) (.int .i64 2)) (fun _ hk => hk.2) (.string (⟨#[]⟩ : ByteArray))) (fun _ hk => hk.1.2))); (case aS => exact (below_size (by repeat (first | (with_reducible first | exact HBx.out | apply below_alloc | apply pw_below_drewN | apply below_drew1 | refine below_set ?_ GE102.out) | exact HBx.out)))); (case aL => have := LMc6.out; omega); intro v104 w9 ho hb hg hat; rw [← Ny103.out] at ho; have n0_ := Aside0.mk (blk_grown (g := gb102) (o := .cells #[.string ((rd_T36 l0 x8_1).f0), .int .i64 2, .int .i64 ((rd_T36 l0 x8_1).f2), .string (⟨#[]⟩ : ByteArray)] 36 (0, 0)) (by (with_reducible repeat (first | refine blk_drewN ?_ _ | refine blk_drew ?_ | refine blk_alloc ?_ _)); refine blk_put (cs := #[.string ((rd_T36 l0 x8_1).f0), .int .i64 2, .int .i64 ((rd_T36 l0 x8_1).f2), .string ((rd_T36 l0 x8_1).f3)]) ?_ 3 _ rfl; (with_reducible repeat (first | refine blk_drewN ?_ _ | refine blk_drew ?_ | refine blk_alloc ?_ _)); refine blk_put (cs := #[.string ((rd_T36 l0 x8_1).f0), .int .i64 ((rd_T36 l0 x8_1).f1), .int .i64 ((rd_T36 l0 x8_1).f2), .string ((rd_T36 l0 x8_1).f3)]) ?_ 1 _ rfl; (with_reducible repeat (first | refine blk_drewN ?_ _ | refine blk_drew ?_ | refine blk_alloc ?_ _)); exact BK.out) hg (Kd.R_away HOx.out (fun _ hk => hk.2))); have n1_ := Aside0.mk (hb); have n2_ := Aside0.mk (ho); clear BK; clear HBx; clear HOx; have BK102 := n0_; have HB := n1_; have HO105 := n2_; clear n0_ n1_ n2_; clear ho hb hg hat)
                go_roundg k1
                case measure => have := HK1.out; omega
                case rel => exact ⟨(y103), (wrap64 (x8_1 + 1)), (by first | rfl | (simp; done) | (simp [*]; done)), H', ⟨by have := HK1.out; omega⟩, ⟨by (with_reducible repeat (first | apply Kd.R_alloc | apply Kd.R_drewN | apply Kd.R_drew)); exact Kd.R_mono HO105.out (fun _ hk => trivial)⟩, ⟨by repeat (first | (with_reducible first | exact HB.out | apply below_alloc | apply pw_below_drewN | apply below_drew1 | refine below_set ?_ GE102.out) | exact HB.out)⟩⟩
              · rw [if_neg c6] at H
                exact absurd H (by simp)
            · rw [if_neg c5] at H
              have c5b0 : (((rd_T36 l0 x8_1).f1) == 3) = false := beq_eq_false_iff_ne.mpr c5
              have c5b1 : (((rd_T36 l0 x8_1).f1) != 3) = true := bne_iff_ne.mpr c5
              by_cases c10 : x3_1.length < 2932031007402
              · rw [if_pos c10] at H
                have LMc10 := Aside0.mk c10
                clear c10
                obtain ⟨y106, hy106⟩ : ∃ y_ : List (S36), y_ = (x3_1 ++ [(⟨(rd_T36 l0 x8_1).f0, (rd_T36 l0 x8_1).f1, (rd_T36 l0 x8_1).f2, (rd_T36 l0 x8_1).f3⟩ : S36)]) := ⟨_, rfl⟩
                replace H : (sig_Plain.l0 k1 y106 l0 (l0.length : Int) (wrap64 (x8_1 + 1))) = some r := by first | (rw [hy106]; with_reducible exact H) | (have H2_ := (Option.bind_some _ _).symm.trans H; rw [hy106]; with_reducible exact H2_) | (have H2_ := (Option.bind_some _ _).symm.trans H; with_reducible exact H2_) | with_reducible exact H | (rw [hy106]; exact H) | exact H
                have Ny106 := Aside0.mk hy106
                clear hy106
                have H' := Aside0.mk H
                clear H
                have p101 : 0 ≤ (x8_1 : Int) := of_decide_eq_true (by first | (with_reducible assumption) | assumption)
                have q101 : x8_1 < (l0.length : Int) := of_decide_eq_true (by first | (with_reducible assumption) | assumption)
                obtain ⟨ad101, e101, hx101_0, hx101_1, hx101_2, hx101_3⟩ := at_T36 HR0.out x8_1 p101 q101
                cases e101
                replace hx101_0 := (HB.out.cell (World.block_lt_of_cell? w _ hx101_0)).trans hx101_0
                replace hx101_1 := (HB.out.cell (World.block_lt_of_cell? w _ hx101_1)).trans hx101_1
                replace hx101_2 := (HB.out.cell (World.block_lt_of_cell? w _ hx101_2)).trans hx101_2
                replace hx101_3 := (HB.out.cell (World.block_lt_of_cell? w _ hx101_3)).trans hx101_3
                replace p101 := eq_true p101
                replace q101 := eq_true q101
                go_wp2_with (first | ((with_reducible refine gate_dst (N := 5) rfl ?_); refine box_event ?hg (N := 5) ?hd (cs := #[.string (⟨#[]⟩ : ByteArray), .int .i64 0, .int .i64 0, .string (⟨#[]⟩ : ByteArray)]) (t := 36) ?hr ?_; (case hd => rfl); (case hg => rfl); (case hr => first | (go_simp; done) | (go_simp; rfl)); intro gb102 hg w11 hbox hb; have n0_ := Aside0.mk (Kd.R_below (Kd.R_elderB (by (with_reducible repeat (first | apply Kd.R_alloc | apply Kd.R_drewN | apply Kd.R_drew)); exact HO_3.out) gb102 (Nat.le_of_eq hg.symm)) hb); have n1_ := Aside0.mk (below_step (by repeat (first | (with_reducible first | exact HB.out | apply below_alloc | apply pw_below_drewN | apply below_drew1) | exact HB.out)) hb); have n2_ := Aside0.mk (hbox); have n3_ := Aside0.mk ((by rw [hg]; exact (below_size (by repeat (first | (with_reducible first | exact HB.out | apply below_alloc | apply pw_below_drewN | apply below_drew1) | exact HB.out))) : w.heap.size ≤ gb102)); have n4_ := Aside0.mk ((by rw [hg]; exact (below_size (by repeat (first | (with_reducible first | exact HB.out | apply below_alloc | apply pw_below_drewN | apply below_drew1) | exact HB.out))) : w.heap.size ≤ gb102)); clear HO_3; clear HB; have HO_3 := n0_; have HB := n1_; have BK102 := n2_; have GW102 := n3_; have GE102 := n4_; clear n0_ n1_ n2_ n3_ n4_; clear hb hbox hg; have hcz12_0 : w11.cell? ⟨gb102, 0, none⟩ = some (.string (⟨#[]⟩ : ByteArray)) := (blk_cell BK102.out 0).trans rfl; have hcz12_1 : w11.cell? ⟨gb102, 1, none⟩ = some (.int .i64 0) := (blk_cell BK102.out 1).trans rfl; have hcz12_2 : w11.cell? ⟨gb102, 2, none⟩ = some (.int .i64 0) := (blk_cell BK102.out 2).trans rfl; have hcz12_3 : w11.cell? ⟨gb102, 3, none⟩ = some (.string (⟨#[]⟩ : ByteArray)) := (blk_cell BK102.out 3).trans rfl; have hfz12_0 := blk_frozen BK102.out 0; have hfz12_1 := blk_frozen BK102.out 1; have hfz12_2 := blk_frozen BK102.out 2; have hfz12_3 := blk_frozen BK102.out 3) | ((with_reducible refine gate_builtin (b := .append) (xs := #[.tmp 17, .tmp 19]) rfl ?_); at_builtin; refine Kd.R_append k36 (w0 := w) w.heap.size rfl (.tmp 17) (.tmp 19) 27 36 (.agg #[(.string ⟨#[]⟩), (.int .i64 0), (.int .i64 0), (.string ⟨#[]⟩)]) 48 rfl Try.underlying27 info36 rfl (by decide) (by omega) u3 x3_1 (⟨(rd_T36 l0 x8_1).f0, (rd_T36 l0 x8_1).f1, (rd_T36 l0 x8_1).f2, (rd_T36 l0 x8_1).f3⟩ : S36) [.string ((rd_T36 l0 x8_1).f0), .int .i64 ((rd_T36 l0 x8_1).f1), .int .i64 ((rd_T36 l0 x8_1).f2), .string ((rd_T36 l0 x8_1).f3)] (fun k_ => k_ ≠ gb102) (fun _ => False) rfl (by first | (go_simp; done) | (go_simp; rfl)) ?aP (fun _ hk => hk.elim) ?aF ?aO ?aB ?aS ?aL ?_; (case aP => exact k36_mkM _ _ _ (⟨(rd_T36 l0 x8_1).f0, (rd_T36 l0 x8_1).f1, (rd_T36 l0 x8_1).f2, (rd_T36 l0 x8_1).f3⟩ : S36)); (case aB => exact (by repeat (first | (with_reducible first | exact HB.out | apply below_alloc | apply pw_below_drewN | apply below_drew1 | refine below_set ?_ GE102.out) | exact HB.out))); (case aF => exact (fun k_ hk => Kd.freshB (g := gb102) (o := .cells #[.string ((rd_T36 l0 x8_1).f0), .int .i64 ((rd_T36 l0 x8_1).f1), .int .i64 ((rd_T36 l0 x8_1).f2), .string ((rd_T36 l0 x8_1).f3)] 36 (0, 0)) (by (with_reducible repeat (first | refine blk_drewN ?_ _ | refine blk_drew ?_ | refine blk_alloc ?_ _)); refine blk_put (cs := #[.string ((rd_T36 l0 x8_1).f0), .int .i64 ((rd_T36 l0 x8_1).f1), .int .i64 ((rd_T36 l0 x8_1).f2), .string (⟨#[]⟩ : ByteArray)]) ?_ 3 _ rfl; (with_reducible repeat (first | refine blk_drewN ?_ _ | refine blk_drew ?_ | refine blk_alloc ?_ _)); refine blk_put (cs := #[.string ((rd_T36 l0 x8_1).f0), .int .i64 ((rd_T36 l0 x8_1).f1), .int .i64 0, .string (⟨#[]⟩ : ByteArray)]) ?_ 2 _ rfl; (with_reducible repeat (first | refine blk_drewN ?_ _ | refine blk_drew ?_ | refine blk_alloc ?_ _)); refine blk_put (cs := #[.string ((rd_T36 l0 x8_1).f0), .int .i64 0, .int .i64 0, .string (⟨#[]⟩ : ByteArray)]) ?_ 1 _ rfl; (with_reducible repeat (first | refine blk_drewN ?_ _ | refine blk_drew ?_ | refine blk_alloc ?_ _)); refine blk_put (cs := #[.string (⟨#[]⟩ : ByteArray), .int .i64 0, .int .i64 0, .string (⟨#[]⟩ : ByteArray)]) ?_ 0 _ rfl; (with_reducible repeat (first | refine blk_drewN ?_ _ | refine blk_drew ?_ | refine blk_alloc ?_ _)); exact BK102.out) k_ hk)); (case aO => exact (by (with_reducible repeat (first | apply Kd.R_alloc | apply Kd.R_drewN | apply Kd.R_drew)); exact Kd.R_mono (Kd.R_far (p := ⟨gb102, 3, none⟩) (Kd.R_far (p := ⟨gb102, 2, none⟩) (Kd.R_far (p := ⟨gb102, 1, none⟩) (Kd.R_far (p := ⟨gb102, 0, none⟩) (Kd.R_mono HO_3.out (fun k_ hk => (⟨hk, hk.2⟩ : _ ∧ k_ ≠ gb102))) (fun _ hk => hk.2) (.string ((rd_T36 l0 x8_1).f0))) (fun _ hk => hk.2) (.int .i64 ((rd_T36 l0 x8_1).f1))) (fun _ hk => hk.2) (.int .i64 ((rd_T36 l0 x8_1).f2))) (fun _ hk => hk.2) (.string ((rd_T36 l0 x8_1).f3))) (fun _ hk => hk.1.2))); (case aS => exact (below_size (by repeat (first | (with_reducible first | exact HB.out | apply below_alloc | apply pw_below_drewN | apply below_drew1 | refine below_set ?_ GE102.out) | exact HB.out)))); (case aL => have := LMc10.out; omega); intro v107 w13 ho hb hg hat; rw [← Ny106.out] at ho; have n0_ := Aside0.mk (blk_grown (g := gb102) (o := .cells #[.string ((rd_T36 l0 x8_1).f0), .int .i64 ((rd_T36 l0 x8_1).f1), .int .i64 ((rd_T36 l0 x8_1).f2), .string ((rd_T36 l0 x8_1).f3)] 36 (0, 0)) (by (with_reducible repeat (first | refine blk_drewN ?_ _ | refine blk_drew ?_ | refine blk_alloc ?_ _)); refine blk_put (cs := #[.string ((rd_T36 l0 x8_1).f0), .int .i64 ((rd_T36 l0 x8_1).f1), .int .i64 ((rd_T36 l0 x8_1).f2), .string (⟨#[]⟩ : ByteArray)]) ?_ 3 _ rfl; (with_reducible repeat (first | refine blk_drewN ?_ _ | refine blk_drew ?_ | refine blk_alloc ?_ _)); refine blk_put (cs := #[.string ((rd_T36 l0 x8_1).f0), .int .i64 ((rd_T36 l0 x8_1).f1), .int .i64 0, .string (⟨#[]⟩ : ByteArray)]) ?_ 2 _ rfl; (with_reducible repeat (first | refine blk_drewN ?_ _ | refine blk_drew ?_ | refine blk_alloc ?_ _)); refine blk_put (cs := #[.string ((rd_T36 l0 x8_1).f0), .int .i64 0, .int .i64 0, .string (⟨#[]⟩ : ByteArray)]) ?_ 1 _ rfl; (with_reducible repeat (first | refine blk_drewN ?_ _ | refine blk_drew ?_ | refine blk_alloc ?_ _)); refine blk_put (cs := #[.string (⟨#[]⟩ : ByteArray), .int .i64 0, .int .i64 0, .string (⟨#[]⟩ : ByteArray)]) ?_ 0 _ rfl; (with_reducible repeat (first | refine blk_drewN ?_ _ | refine blk_drew ?_ | refine blk_alloc ?_ _)); exact BK102.out) hg (Kd.R_away HO_3.out (fun _ hk => hk.2))); have n1_ := Aside0.mk (hb); have n2_ := Aside0.mk (ho); clear BK102; clear HB; clear HO_3; have BK102 := n0_; have HB := n1_; have HO108 := n2_; clear n0_ n1_ n2_; clear ho hb hg hat))
                go_roundg k1
                case measure => have := HK1.out; omega
                case rel => exact ⟨(y106), (wrap64 (x8_1 + 1)), (by first | rfl | (simp; done) | (simp [*]; done)), H', ⟨by have := HK1.out; omega⟩, ⟨by (with_reducible repeat (first | apply Kd.R_alloc | apply Kd.R_drewN | apply Kd.R_drew)); exact Kd.R_mono HO108.out (fun _ hk => trivial)⟩, ⟨by repeat (first | (with_reducible first | exact HB.out | apply below_alloc | apply pw_below_drewN | apply below_drew1 | refine below_set ?_ GE102.out) | exact HB.out)⟩⟩
              · rw [if_neg c10] at H
                exact absurd H (by simp)
          · rw [if_neg c4] at H
            exact absurd H (by simp)
        · rw [if_neg c3] at H
          exact absurd H (by simp)
      · rw [if_neg c2] at H
        have c2b0 : decide (x8_1 < (l0.length : Int)) = false := decide_eq_false c2
        clear c2
        obtain rfl := Option.some.inj H
        go_wp2
        go_ret
        exact ⟨_, by first | rfl | (simp [errW_none, errW_some] <;> rfl) | (simp [*, errW_none, errW_some] <;> rfl), by (with_reducible repeat (first | apply Kd.R_alloc | apply Kd.R_drewN | apply Kd.R_drew)); exact HO_3.out, by repeat (first | (with_reducible first | exact HB.out | apply below_alloc | apply pw_below_drewN | apply below_drew1) | exact HB.out)⟩


/-! ### amalgamref01_Plain: function 22 -/
def amalgamref01_Plain.l0 : Nat → List (S36) → List (S36) → Int → Option ((List (S36)))
  | 0, _, _, _ => none
  | k + 1, x0, x3, x4 => if x4 < (x0.length : Int) then (if 0 ≤ x4 then (if ((rd_T36 x0 x4).f1) = 3 then (if x3.length < 2932031007402 then (amalgamref01_Plain.l0 k x0 (x3 ++ [(⟨(rd_T36 x0 x4).f0, 2, (rd_T36 x0 x4).f2, (⟨#[]⟩ : ByteArray)⟩ : S36)]) (wrap64 (x4 + 1))) else (none)) else (if x3.length < 2932031007402 then (amalgamref01_Plain.l0 k x0 (x3 ++ [(⟨(rd_T36 x0 x4).f0, (rd_T36 x0 x4).f1, (rd_T36 x0 x4).f2, (rd_T36 x0 x4).f3⟩ : S36)]) (wrap64 (x4 + 1))) else (none))) else (none)) else (some x3)
def amalgamref01_Plain.f (k : Nat) (l0 : List (S36)) : Option ((List (S36))) := amalgamref01_Plain.l0 k l0 ([] : List (S36)) 0
theorem amalgamref01_Plain.mono_l : ∀ k, (∀ y0 y1 y2, LeO (amalgamref01_Plain.l0 k y0 y1 y2) (amalgamref01_Plain.l0 (k + 1) y0 y1 y2))
  | 0 => fun _ _ _ r h => by simp [amalgamref01_Plain.l0] at h
  | k + 1 => by
    have ih0 := amalgamref01_Plain.mono_l k
    · intro y0 y1 y2
      unfold amalgamref01_Plain.l0
      repeat' first
      | (with_reducible exact ih0 _ _ _)
      | (with_reducible exact LeO.refl _)
      | (with_reducible exact LeO.none _)
      | (with_reducible refine LeO.ite ?_ ?_)
      | (with_reducible refine LeO.bind ?_ (fun _ => ?_))
      | exact ih0 _ _ _
      | exact LeO.none _
      | refine LeO.ite ?_ ?_
      | refine LeO.bind ?_ (fun _ => ?_)
theorem amalgamref01_Plain.mono : ∀ a0 k, LeO (amalgamref01_Plain.f k a0) (amalgamref01_Plain.f (k + 1) a0) := by
  intro a0 k
  have ih0 := amalgamref01_Plain.mono_l k
  unfold amalgamref01_Plain.f
  repeat' first
      | (with_reducible exact ih0 _ _ _)
      | (with_reducible exact LeO.refl _)
      | (with_reducible exact LeO.none _)
      | (with_reducible refine LeO.ite ?_ ?_)
      | (with_reducible refine LeO.bind ?_ (fun _ => ?_))
      | exact ih0 _ _ _
      | exact LeO.none _
      | refine LeO.ite ?_ ?_
      | refine LeO.bind ?_ (fun _ => ?_)
set_option maxHeartbeats 2000000 in
set_option maxRecDepth 100000 in
theorem amalgamref01_Plain.calls (k : Nat) (A0 : Option Addr) (c0 : Nat) (l0 : List (S36)) (r : List (S36)) (w : World) (hr0 : Kd.C k36 w A0 l0.length l0) (hc0 : l0.length ≤ c0) (h : amalgamref01_Plain.f k l0 = some r) :
    Calls Try.prog 22 #[.slice A0 l0.length c0] w fun e w' => ∃ v0_ : Value, e = .returned (v0_) ∧ Kd.R k36 36 w' w.heap.size (fun _ => True) v0_ r ∧ Below w.heap.size w w' := by
  have hu36 := Try.underlying36
  have HR0 := Aside0.mk hr0
  have HC0 := Aside0.mk hc0
  clear hr0 hc0
  have HB := Aside0.mk (Below.refl w.heap.size w)
  have H : (amalgamref01_Plain.l0 k l0 ([] : List (S36)) 0) = some r := h
  clear h
  have H' := Aside0.mk H
  clear H
  go_enter Try.func22, Try.ntmps22
  go_wp2
  go_loopg [3, 4] k (fun kq v3 v4 w' => ∃ (x3_1 : List (S36)) (x4_1 : Int), v4 = .int .i64 x4_1 ∧ Aside0 (amalgamref01_Plain.l0 kq l0 x3_1 x4_1 = some r) ∧ Aside0 (kq ≤ k) ∧ Aside0 (Kd.R k36 36 w' w.heap.size (fun _ => True) v3 x3_1) ∧ Aside0 (Below w.heap.size w w'))
  case atStart => exact ⟨(([] : List (S36))), (0), (by first | rfl | (simp; done) | (simp [*]; done)), H', ⟨Nat.le_refl _⟩, ⟨by first | exact Kd.R_nil _ _ _ _ _ | exact Kd.N_nil _ _ _ _ _ | exact Kd.V_nil _ _ _ _ _ | exact Kd.Q_nil _ _ _ _ _ | exact Kd.S_nil _ _ _ _ _⟩, ⟨by repeat (first | (with_reducible first | exact HB.out | apply below_alloc | apply pw_below_drewN | apply below_drew1) | exact HB.out)⟩⟩
  case round =>
    clear H'
    obtain ⟨x3_1, x4_1, rfl, HA, HK1, HO_3, HB⟩ := hrel
    cases gk with
    | zero => exact absurd HA.out (by simp [amalgamref01_Plain.l0])
    | succ k1 =>
      have H := HA.out
      clear HA
      simp only [amalgamref01_Plain.l0] at H
      by_cases c2 : x4_1 < (l0.length : Int)
      · rw [if_pos c2] at H
        have c2b0 : decide (x4_1 < (l0.length : Int)) = true := decide_eq_true c2
        clear c2
        by_cases c3 : 0 ≤ x4_1
        · rw [if_pos c3] at H
          have c3b0 : decide (0 ≤ x4_1) = true := decide_eq_true c3
          clear c3
          by_cases c4 : ((rd_T36 l0 x4_1).f1) = 3
          · rw [if_pos c4] at H
            have c4b0 : (((rd_T36 l0 x4_1).f1) == 3) = true := beq_iff_eq.mpr c4
            have c4b1 : (((rd_T36 l0 x4_1).f1) != 3) = false := bne_eq_false_iff_eq.mpr c4
            clear c4
            by_cases c5 : x3_1.length < 2932031007402
            · rw [if_pos c5] at H
              have LMc5 := Aside0.mk c5
              clear c5
              obtain ⟨y103, hy103⟩ : ∃ y_ : List (S36), y_ = (x3_1 ++ [(⟨(rd_T36 l0 x4_1).f0, 2, (rd_T36 l0 x4_1).f2, (⟨#[]⟩ : ByteArray)⟩ : S36)]) := ⟨_, rfl⟩
              replace H : (amalgamref01_Plain.l0 k1 l0 y103 (wrap64 (x4_1 + 1))) = some r := by first | (rw [hy103]; with_reducible exact H) | (have H2_ := (Option.bind_some _ _).symm.trans H; rw [hy103]; with_reducible exact H2_) | (have H2_ := (Option.bind_some _ _).symm.trans H; with_reducible exact H2_) | with_reducible exact H | (rw [hy103]; exact H) | exact H
              have Ny103 := Aside0.mk hy103
              clear hy103
              have H' := Aside0.mk H
              clear H
              have p101 : 0 ≤ (x4_1 : Int) := of_decide_eq_true (by first | (with_reducible assumption) | assumption)
              have q101 : x4_1 < (l0.length : Int) := of_decide_eq_true (by first | (with_reducible assumption) | assumption)
              obtain ⟨ad101, e101, hx101_0, hx101_1, hx101_2, hx101_3⟩ := at_T36 HR0.out x4_1 p101 q101
              cases e101
              replace hx101_0 := (HB.out.cell (World.block_lt_of_cell? w _ hx101_0)).trans hx101_0
              replace hx101_1 := (HB.out.cell (World.block_lt_of_cell? w _ hx101_1)).trans hx101_1
              replace hx101_2 := (HB.out.cell (World.block_lt_of_cell? w _ hx101_2)).trans hx101_2
              replace hx101_3 := (HB.out.cell (World.block_lt_of_cell? w _ hx101_3)).trans hx101_3
              replace p101 := eq_true p101
              replace q101 := eq_true q101
              go_upto_region 7 with (first | ((with_reducible refine gate_dst (N := 5) rfl ?_); refine box_event ?hg (N := 5) ?hd (cs := #[.string (⟨#[]⟩ : ByteArray), .int .i64 0, .int .i64 0, .string (⟨#[]⟩ : ByteArray)]) (t := 36) ?hr ?_; (case hd => rfl); (case hg => rfl); (case hr => first | (go_simp; done) | (go_simp; rfl)); intro gb102 hg w6 hbox hb; have n0_ := Aside0.mk (Kd.R_below (Kd.R_elderB (by (with_reducible repeat (first | apply Kd.R_alloc | apply Kd.R_drewN | apply Kd.R_drew)); exact HO_3.out) gb102 (Nat.le_of_eq hg.symm)) hb); have n1_ := Aside0.mk (below_step (by repeat (first | (with_reducible first | exact HB.out | apply below_alloc | apply pw_below_drewN | apply below_drew1) | exact HB.out)) hb); have n2_ := Aside0.mk (hbox); have n3_ := Aside0.mk ((by rw [hg]; exact (below_size (by repeat (first | (with_reducible first | exact HB.out | apply below_alloc | apply pw_below_drewN | apply below_drew1) | exact HB.out))) : w.heap.size ≤ gb102)); have n4_ := Aside0.mk ((by rw [hg]; exact (below_size (by repeat (first | (with_reducible first | exact HB.out | apply below_alloc | apply pw_below_drewN | apply below_drew1) | exact HB.out))) : w.heap.size ≤ gb102)); clear HO_3; clear HB; have HO_3 := n0_; have HB := n1_; have BK102 := n2_; have GW102 := n3_; have GE102 := n4_; clear n0_ n1_ n2_ n3_ n4_; clear hb hbox hg; have hcz7_0 : w6.cell? ⟨gb102, 0, none⟩ = some (.string (⟨#[]⟩ : ByteArray)) := (blk_cell BK102.out 0).trans rfl; have hcz7_1 : w6.cell? ⟨gb102, 1, none⟩ = some (.int .i64 0) := (blk_cell BK102.out 1).trans rfl; have hcz7_2 : w6.cell? ⟨gb102, 2, none⟩ = some (.int .i64 0) := (blk_cell BK102.out 2).trans rfl; have hcz7_3 : w6.cell? ⟨gb102, 3, none⟩ = some (.string (⟨#[]⟩ : ByteArray)) := (blk_cell BK102.out 3).trans rfl; have hfz7_0 := blk_frozen BK102.out 0; have hfz7_1 := blk_frozen BK102.out 1; have hfz7_2 := blk_frozen BK102.out 2; have hfz7_3 := blk_frozen BK102.out 3))
              have BK := Aside0.mk (blk_put (cs' := #[.string ((rd_T36 l0 x4_1).f0), .int .i64 ((rd_T36 l0 x4_1).f1), .int .i64 ((rd_T36 l0 x4_1).f2), .string ((rd_T36 l0 x4_1).f3)]) (blk_put (cs' := #[.string ((rd_T36 l0 x4_1).f0), .int .i64 ((rd_T36 l0 x4_1).f1), .int .i64 ((rd_T36 l0 x4_1).f2), .string (⟨#[]⟩ : ByteArray)]) (blk_put (cs' := #[.string ((rd_T36 l0 x4_1).f0), .int .i64 ((rd_T36 l0 x4_1).f1), .int .i64 0, .string (⟨#[]⟩ : ByteArray)]) (blk_put (cs' := #[.string ((rd_T36 l0 x4_1).f0), .int .i64 0, .int .i64 0, .string (⟨#[]⟩ : ByteArray)]) BK102.out 0 (.string ((rd_T36 l0 x4_1).f0)) rfl) 1 (.int .i64 ((rd_T36 l0 x4_1).f1)) rfl) 2 (.int .i64 ((rd_T36 l0 x4_1).f2)) rfl) 3 (.string ((rd_T36 l0 x4_1).f3)) rfl)
              have HOx := Aside0.mk (Kd.R_far (p := ⟨gb102, 3, none⟩) (Kd.R_far (p := ⟨gb102, 2, none⟩) (Kd.R_far (p := ⟨gb102, 1, none⟩) (Kd.R_far (p := ⟨gb102, 0, none⟩) HO_3.out (fun _ hk => hk.2) (.string ((rd_T36 l0 x4_1).f0))) (fun _ hk => hk.2) (.int .i64 ((rd_T36 l0 x4_1).f1))) (fun _ hk => hk.2) (.int .i64 ((rd_T36 l0 x4_1).f2))) (fun _ hk => hk.2) (.string ((rd_T36 l0 x4_1).f3)))
              have HBx := Aside0.mk (below_set (j := 3) (v := .string ((rd_T36 l0 x4_1).f3)) (below_set (j := 2) (v := .int .i64 ((rd_T36 l0 x4_1).f2)) (below_set (j := 1) (v := .int .i64 ((rd_T36 l0 x4_1).f1)) (below_set (j := 0) (v := .string ((rd_T36 l0 x4_1).f0)) HB.out GE102.out) GE102.out) GE102.out) GE102.out)
              generalize hW0 : (((w6.setCell ⟨gb102, 0, none⟩ (.string ((rd_T36 l0 x4_1).f0))).setCell ⟨gb102, 1, none⟩ (.int .i64 ((rd_T36 l0 x4_1).f1))).setCell ⟨gb102, 2, none⟩ (.int .i64 ((rd_T36 l0 x4_1).f2))).setCell ⟨gb102, 3, none⟩ (.string ((rd_T36 l0 x4_1).f3)) = W at BK HOx HBx ⊢
              clear hW0
              clear hcz7_0 hfz7_0 hcz7_1 hfz7_1 hcz7_2 hfz7_2 hcz7_3 hfz7_3 BK102 HO_3 HB hx101_0 hx101_1 hx101_2 hx101_3
              have hc_0 : W.cell? ⟨gb102, 0, none⟩ = some (.string ((rd_T36 l0 x4_1).f0)) := (blk_cell BK.out 0).trans rfl
              have hf_0 := blk_frozen BK.out 0
              have hc_1 : W.cell? ⟨gb102, 1, none⟩ = some (.int .i64 ((rd_T36 l0 x4_1).f1)) := (blk_cell BK.out 1).trans rfl
              have hf_1 := blk_frozen BK.out 1
              have hc_2 : W.cell? ⟨gb102, 2, none⟩ = some (.int .i64 ((rd_T36 l0 x4_1).f2)) := (blk_cell BK.out 2).trans rfl
              have hf_2 := blk_frozen BK.out 2
              have hc_3 : W.cell? ⟨gb102, 3, none⟩ = some (.string ((rd_T36 l0 x4_1).f3)) := (blk_cell BK.out 3).trans rfl
              have hf_3 := blk_frozen BK.out 3
              go_wp2_with ((with_reducible refine gate_builtin (b := .append) (xs := #[.tmp 21, .tmp 23]) rfl ?_); at_builtin; refine Kd.R_append k36 (w0 := w) w.heap.size rfl (.tmp 21) (.tmp 23) 27 36 (.agg #[(.string ⟨#[]⟩), (.int .i64 0), (.int .i64 0), (.string ⟨#[]⟩)]) 48 rfl Try.underlying27 info36 rfl (by decide) (by omega) u3 x3_1 (⟨(rd_T36 l0 x4_1).f0, 2, (rd_T36 l0 x4_1).f2, (⟨#[]⟩ : ByteArray)⟩ : S36) [.string ((rd_T36 l0 x4_1).f0), .int .i64 2, .int .i64 ((rd_T36 l0 x4_1).f2), .string (⟨#[]⟩ : ByteArray)] (fun k_ => k_ ≠ gb102) (fun _ => False) rfl (by first | (go_simp; done) | (go_simp; rfl)) ?aP (fun _ hk => hk.elim) ?aF ?aO ?aB ?aS ?aL ?_; (case aP => exact k36_mkM _ _ _ (⟨(rd_T36 l0 x4_1).f0, 2, (rd_T36 l0 x4_1).f2, (⟨#[]⟩ : ByteArray)⟩ : S36)); (case aB => exact (by repeat (first | (with_reducible first | exact HBx.out | apply below_alloc | apply pw_below_drewN | apply below_drew1 | refine below_set ?_ GE102.out) | exact HBx.out))); (case aF => exact (fun k_ hk => Kd.freshB (g := gb102) (o := .cells #[.string ((rd_T36 l0 x4_1).f0), .int .i64 2, .int .i64 ((rd_T36 l0 x4_1).f2), .string (⟨#[]⟩ : ByteArray)] 36 (0, 0)) (by (with_reducible repeat (first | refine blk_drewN ?_ _ | refine blk_drew ?_ | refine blk_alloc ?_ _)); refine blk_put (cs := #[.string ((rd_T36 l0 x4_1).f0), .int .i64 2, .int .i64 ((rd_T36 l0 x4_1).f2), .string ((rd_T36 l0 x4_1).f3)]) ?_ 3 _ rfl; (with_reducible repeat (first | refine blk_drewN ?_ _ | refine blk_drew ?_ | refine blk_alloc ?_ _)); refine blk_put (cs := #[.string ((rd_T36 l0 x4_1).f0), .int .i64 ((rd_T36 l0 x4_1).f1), .int .i64 ((rd_T36 l0 x4_1).f2), .string ((rd_T36 l0 x4_1).f3)]) ?_ 1 _ rfl; (with_reducible repeat (first | refine blk_drewN ?_ _ | refine blk_drew ?_ | refine blk_alloc ?_ _)); exact BK.out) k_ hk)); (case aO => exact (by (with_reducible repeat (first | apply Kd.R_alloc | apply Kd.R_drewN | apply Kd.R_drew)); exact Kd.R_mono (Kd.R_far (p := ⟨gb102, 3, none⟩) (Kd.R_far (p := ⟨gb102, 1, none⟩) (Kd.R_mono HOx.out (fun k_ hk => (⟨hk, hk.2⟩ : _ ∧ k_ ≠ gb102))) (fun _ hk => hk.2) (.int .i64 2)) (fun _ hk => hk.2) (.string (⟨#[]⟩ : ByteArray))) (fun _ hk => hk.1.2))); (case aS => exact (below_size (by repeat (first | (with_reducible first | exact HBx.out | apply below_alloc | apply pw_below_drewN | apply below_drew1 | refine below_set ?_ GE102.out) | exact HBx.out)))); (case aL => have := LMc5.out; omega); intro v104 w8 ho hb hg hat; rw [← Ny103.out] at ho; have n0_ := Aside0.mk (blk_grown (g := gb102) (o := .cells #[.string ((rd_T36 l0 x4_1).f0), .int .i64 2, .int .i64 ((rd_T36 l0 x4_1).f2), .string (⟨#[]⟩ : ByteArray)] 36 (0, 0)) (by (with_reducible repeat (first | refine blk_drewN ?_ _ | refine blk_drew ?_ | refine blk_alloc ?_ _)); refine blk_put (cs := #[.string ((rd_T36 l0 x4_1).f0), .int .i64 2, .int .i64 ((rd_T36 l0 x4_1).f2), .string ((rd_T36 l0 x4_1).f3)]) ?_ 3 _ rfl; (with_reducible repeat (first | refine blk_drewN ?_ _ | refine blk_drew ?_ | refine blk_alloc ?_ _)); refine blk_put (cs := #[.string ((rd_T36 l0 x4_1).f0), .int .i64 ((rd_T36 l0 x4_1).f1), .int .i64 ((rd_T36 l0 x4_1).f2), .string ((rd_T36 l0 x4_1).f3)]) ?_ 1 _ rfl; (with_reducible repeat (first | refine blk_drewN ?_ _ | refine blk_drew ?_ | refine blk_alloc ?_ _)); exact BK.out) hg (Kd.R_away HOx.out (fun _ hk => hk.2))); have n1_ := Aside0.mk (hb); have n2_ := Aside0.mk (ho); clear BK; clear HBx; clear HOx; have BK102 := n0_; have HB := n1_; have HO105 := n2_; clear n0_ n1_ n2_; clear ho hb hg hat)
              go_roundg k1
              case measure => have := HK1.out; omega
              case rel => exact ⟨(y103), (wrap64 (x4_1 + 1)), (by first | rfl | (simp; done) | (simp [*]; done)), H', ⟨by have := HK1.out; omega⟩, ⟨by (with_reducible repeat (first | apply Kd.R_alloc | apply Kd.R_drewN | apply Kd.R_drew)); exact Kd.R_mono HO105.out (fun _ hk => trivial)⟩, ⟨by repeat (first | (with_reducible first | exact HB.out | apply below_alloc | apply pw_below_drewN | apply below_drew1 | refine below_set ?_ GE102.out) | exact HB.out)⟩⟩
            · rw [if_neg c5] at H
              exact absurd H (by simp)
          · rw [if_neg c4] at H
            have c4b0 : (((rd_T36 l0 x4_1).f1) == 3) = false := beq_eq_false_iff_ne.mpr c4
            have c4b1 : (((rd_T36 l0 x4_1).f1) != 3) = true := bne_iff_ne.mpr c4
            by_cases c9 : x3_1.length < 2932031007402
            · rw [if_pos c9] at H
              have LMc9 := Aside0.mk c9
              clear c9
              obtain ⟨y106, hy106⟩ : ∃ y_ : List (S36), y_ = (x3_1 ++ [(⟨(rd_T36 l0 x4_1).f0, (rd_T36 l0 x4_1).f1, (rd_T36 l0 x4_1).f2, (rd_T36 l0 x4_1).f3⟩ : S36)]) := ⟨_, rfl⟩
              replace H : (amalgamref01_Plain.l0 k1 l0 y106 (wrap64 (x4_1 + 1))) = some r := by first | (rw [hy106]; with_reducible exact H) | (have H2_ := (Option.bind_some _ _).symm.trans H; rw [hy106]; with_reducible exact H2_) | (have H2_ := (Option.bind_some _ _).symm.trans H; with_reducible exact H2_) | with_reducible exact H | (rw [hy106]; exact H) | exact H
              have Ny106 := Aside0.mk hy106
              clear hy106
              have H' := Aside0.mk H
              clear H
              have p101 : 0 ≤ (x4_1 : Int) := of_decide_eq_true (by first | (with_reducible assumption) | assumption)
              have q101 : x4_1 < (l0.length : Int) := of_decide_eq_true (by first | (with_reducible assumption) | assumption)
              obtain ⟨ad101, e101, hx101_0, hx101_1, hx101_2, hx101_3⟩ := at_T36 HR0.out x4_1 p101 q101
              cases e101
              replace hx101_0 := (HB.out.cell (World.block_lt_of_cell? w _ hx101_0)).trans hx101_0
              replace hx101_1 := (HB.out.cell (World.block_lt_of_cell? w _ hx101_1)).trans hx101_1
              replace hx101_2 := (HB.out.cell (World.block_lt_of_cell? w _ hx101_2)).trans hx101_2
              replace hx101_3 := (HB.out.cell (World.block_lt_of_cell? w _ hx101_3)).trans hx101_3
              replace p101 := eq_true p101
              replace q101 := eq_true q101
              go_wp2_with (first | ((with_reducible refine gate_dst (N := 5) rfl ?_); refine box_event ?hg (N := 5) ?hd (cs := #[.string (⟨#[]⟩ : ByteArray), .int .i64 0, .int .i64 0, .string (⟨#[]⟩ : ByteArray)]) (t := 36) ?hr ?_; (case hd => rfl); (case hg => rfl); (case hr => first | (go_simp; done) | (go_simp; rfl)); intro gb102 hg w10 hbox hb; have n0_ := Aside0.mk (Kd.R_below (Kd.R_elderB (by (with_reducible repeat (first | apply Kd.R_alloc | apply Kd.R_drewN | apply Kd.R_drew)); exact HO_3.out) gb102 (Nat.le_of_eq hg.symm)) hb); have n1_ := Aside0.mk (below_step (by repeat (first | (with_reducible first | exact HB.out | apply below_alloc | apply pw_below_drewN | apply below_drew1) | exact HB.out)) hb); have n2_ := Aside0.mk (hbox); have n3_ := Aside0.mk ((by rw [hg]; exact (below_size (by repeat (first | (with_reducible first | exact HB.out | apply below_alloc | apply pw_below_drewN | apply below_drew1) | exact HB.out))) : w.heap.size ≤ gb102)); have n4_ := Aside0.mk ((by rw [hg]; exact (below_size (by repeat (first | (with_reducible first | exact HB.out | apply below_alloc | apply pw_below_drewN | apply below_drew1) | exact HB.out))) : w.heap.size ≤ gb102)); clear HO_3; clear HB; have HO_3 := n0_; have HB := n1_; have BK102 := n2_; have GW102 := n3_; have GE102 := n4_; clear n0_ n1_ n2_ n3_ n4_; clear hb hbox hg; have hcz11_0 : w10.cell? ⟨gb102, 0, none⟩ = some (.string (⟨#[]⟩ : ByteArray)) := (blk_cell BK102.out 0).trans rfl; have hcz11_1 : w10.cell? ⟨gb102, 1, none⟩ = some (.int .i64 0) := (blk_cell BK102.out 1).trans rfl; have hcz11_2 : w10.cell? ⟨gb102, 2, none⟩ = some (.int .i64 0) := (blk_cell BK102.out 2).trans rfl; have hcz11_3 : w10.cell? ⟨gb102, 3, none⟩ = some (.string (⟨#[]⟩ : ByteArray)) := (blk_cell BK102.out 3).trans rfl; have hfz11_0 := blk_frozen BK102.out 0; have hfz11_1 := blk_frozen BK102.out 1; have hfz11_2 := blk_frozen BK102.out 2; have hfz11_3 := blk_frozen BK102.out 3) | ((with_reducible refine gate_builtin (b := .append) (xs := #[.tmp 21, .tmp 23]) rfl ?_); at_builtin; refine Kd.R_append k36 (w0 := w) w.heap.size rfl (.tmp 21) (.tmp 23) 27 36 (.agg #[(.string ⟨#[]⟩), (.int .i64 0), (.int .i64 0), (.string ⟨#[]⟩)]) 48 rfl Try.underlying27 info36 rfl (by decide) (by omega) u3 x3_1 (⟨(rd_T36 l0 x4_1).f0, (rd_T36 l0 x4_1).f1, (rd_T36 l0 x4_1).f2, (rd_T36 l0 x4_1).f3⟩ : S36) [.string ((rd_T36 l0 x4_1).f0), .int .i64 ((rd_T36 l0 x4_1).f1), .int .i64 ((rd_T36 l0 x4_1).f2), .string ((rd_T36 l0 x4_1).f3)] (fun k_ => k_ ≠ gb102) (fun _ => False) rfl (by first | (go_simp; done) | (go_simp; rfl)) ?aP (fun _ hk => hk.elim) ?aF ?aO ?aB ?aS ?aL ?_; (case aP => exact k36_mkM _ _ _ (⟨(rd_T36 l0 x4_1).f0, (rd_T36 l0 x4_1).f1, (rd_T36 l0 x4_1).f2, (rd_T36 l0 x4_1).f3⟩ : S36)); (case aB => exact (by repeat (first | (with_reducible first | exact HB.out | apply below_alloc | apply pw_below_drewN | apply below_drew1 | refine below_set ?_ GE102.out) | exact HB.out))); (case aF => exact (fun k_ hk => Kd.freshB (g := gb102) (o := .cells #[.string ((rd_T36 l0 x4_1).f0), .int .i64 ((rd_T36 l0 x4_1).f1), .int .i64 ((rd_T36 l0 x4_1).f2), .string ((rd_T36 l0 x4_1).f3)] 36 (0, 0)) (by (with_reducible repeat (first | refine blk_drewN ?_ _ | refine blk_drew ?_ | refine blk_alloc ?_ _)); refine blk_put (cs := #[.string ((rd_T36 l0 x4_1).f0), .int .i64 ((rd_T36 l0 x4_1).f1), .int .i64 ((rd_T36 l0 x4_1).f2), .string (⟨#[]⟩ : ByteArray)]) ?_ 3 _ rfl; (with_reducible repeat (first | refine blk_drewN ?_ _ | refine blk_drew ?_ | refine blk_alloc ?_ _)); refine blk_put (cs := #[.string ((rd_T36 l0 x4_1).f0), .int .i64 ((rd_T36 l0 x4_1).f1), .int .i64 0, .string (⟨#[]⟩ : ByteArray)]) ?_ 2 _ rfl; (with_reducible repeat (first | refine blk_drewN ?_ _ | refine blk_drew ?_ | refine blk_alloc ?_ _)); refine blk_put (cs := #[.string ((rd_T36 l0 x4_1).f0), .int .i64 0, .int .i64 0, .string (⟨#[]⟩ : ByteArray)]) ?_ 1 _ rfl; (with_reducible repeat (first | refine blk_drewN ?_ _ | refine blk_drew ?_ | refine blk_alloc ?_ _)); refine blk_put (cs := #[.string (⟨#[]⟩ : ByteArray), .int .i64 0, .int .i64 0, .string (⟨#[]⟩ : ByteArray)]) ?_ 0 _ rfl; (with_reducible repeat (first | refine blk_drewN ?_ _ | refine blk_drew ?_ | refine blk_alloc ?_ _)); exact BK102.out) k_ hk)); (case aO => exact (by (with_reducible repeat (first | apply Kd.R_alloc | apply Kd.R_drewN | apply Kd.R_drew)); exact Kd.R_mono (Kd.R_far (p := ⟨gb102, 3, none⟩) (Kd.R_far (p := ⟨gb102, 2, none⟩) (Kd.R_far (p := ⟨gb102, 1, none⟩) (Kd.R_far (p := ⟨gb102, 0, none⟩) (Kd.R_mono HO_3.out (fun k_ hk => (⟨hk, hk.2⟩ : _ ∧ k_ ≠ gb102))) (fun _ hk => hk.2) (.string ((rd_T36 l0 x4_1).f0))) (fun _ hk => hk.2) (.int .i64 ((rd_T36 l0 x4_1).f1))) (fun _ hk => hk.2) (.int .i64 ((rd_T36 l0 x4_1).f2))) (fun _ hk => hk.2) (.string ((rd_T36 l0 x4_1).f3))) (fun _ hk => hk.1.2))); (case aS => exact (below_size (by repeat (first | (with_reducible first | exact HB.out | apply below_alloc | apply pw_below_drewN | apply below_drew1 | refine below_set ?_ GE102.out) | exact HB.out)))); (case aL => have := LMc9.out; omega); intro v107 w12 ho hb hg hat; rw [← Ny106.out] at ho; have n0_ := Aside0.mk (blk_grown (g := gb102) (o := .cells #[.string ((rd_T36 l0 x4_1).f0), .int .i64 ((rd_T36 l0 x4_1).f1), .int .i64 ((rd_T36 l0 x4_1).f2), .string ((rd_T36 l0 x4_1).f3)] 36 (0, 0)) (by (with_reducible repeat (first | refine blk_drewN ?_ _ | refine blk_drew ?_ | refine blk_alloc ?_ _)); refine blk_put (cs := #[.string ((rd_T36 l0 x4_1).f0), .int .i64 ((rd_T36 l0 x4_1).f1), .int .i64 ((rd_T36 l0 x4_1).f2), .string (⟨#[]⟩ : ByteArray)]) ?_ 3 _ rfl; (with_reducible repeat (first | refine blk_drewN ?_ _ | refine blk_drew ?_ | refine blk_alloc ?_ _)); refine blk_put (cs := #[.string ((rd_T36 l0 x4_1).f0), .int .i64 ((rd_T36 l0 x4_1).f1), .int .i64 0, .string (⟨#[]⟩ : ByteArray)]) ?_ 2 _ rfl; (with_reducible repeat (first | refine blk_drewN ?_ _ | refine blk_drew ?_ | refine blk_alloc ?_ _)); refine blk_put (cs := #[.string ((rd_T36 l0 x4_1).f0), .int .i64 0, .int .i64 0, .string (⟨#[]⟩ : ByteArray)]) ?_ 1 _ rfl; (with_reducible repeat (first | refine blk_drewN ?_ _ | refine blk_drew ?_ | refine blk_alloc ?_ _)); refine blk_put (cs := #[.string (⟨#[]⟩ : ByteArray), .int .i64 0, .int .i64 0, .string (⟨#[]⟩ : ByteArray)]) ?_ 0 _ rfl; (with_reducible repeat (first | refine blk_drewN ?_ _ | refine blk_drew ?_ | refine blk_alloc ?_ _)); exact BK102.out) hg (Kd.R_away HO_3.out (fun _ hk => hk.2))); have n1_ := Aside0.mk (hb); have n2_ := Aside0.mk (ho); clear BK102; clear HB; clear HO_3; have BK102 := n0_; have HB := n1_; have HO108 := n2_; clear n0_ n1_ n2_; clear ho hb hg hat))
              go_roundg k1
              case measure => have := HK1.out; omega
              case rel => exact ⟨(y106), (wrap64 (x4_1 + 1)), (by first | rfl | (simp; done) | (simp [*]; done)), H', ⟨by have := HK1.out; omega⟩, ⟨by (with_reducible repeat (first | apply Kd.R_alloc | apply Kd.R_drewN | apply Kd.R_drew)); exact Kd.R_mono HO108.out (fun _ hk => trivial)⟩, ⟨by repeat (first | (with_reducible first | exact HB.out | apply below_alloc | apply pw_below_drewN | apply below_drew1 | refine below_set ?_ GE102.out) | exact HB.out)⟩⟩
            · rw [if_neg c9] at H
              exact absurd H (by simp)
        · rw [if_neg c3] at H
          exact absurd H (by simp)
      · rw [if_neg c2] at H
        have c2b0 : decide (x4_1 < (l0.length : Int)) = false := decide_eq_false c2
        clear c2
        obtain rfl := Option.some.inj H
        go_wp2
        go_ret
        exact ⟨_, by first | rfl | (simp [errW_none, errW_some] <;> rfl) | (simp [*, errW_none, errW_some] <;> rfl), by (with_reducible repeat (first | apply Kd.R_alloc | apply Kd.R_drewN | apply Kd.R_drew)); exact HO_3.out, by repeat (first | (with_reducible first | exact HB.out | apply below_alloc | apply pw_below_drewN | apply below_drew1) | exact HB.out)⟩


/-! ### amalgamlaw01_SigPlain: function 6 -/
def amalgamlaw01_SigPlain.l0 : Nat → List (S36) → Bool → List (S36) → List (S36) → Bool → Int → Option (Bool)
  | 0, _, _, _, _, _, _ => none
  | k + 1, x0, x3, x4, x5, x6, x7 => if x7 < (x5.length : Int) then (if 0 ≤ x7 then (amalgamlaw01_SigPlain.l0 k x0 x3 x4 (x5.set (x7 : Int).toNat (⟨(⟨#[115, 112, 111, 105, 108, 116]⟩ : ByteArray), (rd_T36 x5 x7).f1, (rd_T36 x5 x7).f2, (rd_T36 x5 x7).f3⟩ : S36)) x6 (wrap64 (x7 + 1))) else (none)) else ((amalgamlaw01_kept.f k x4 x0).bind fun t237 => (if x3 = true then (if x6 = true then (some t237) else (some false)) else (some false)))
def amalgamlaw01_SigPlain.f (k : Nat) (l0 : List (S36)) : Option (Bool) := (amalgamlaw01_head.f k).bind fun t225 => ((amalgamlaw01_lent.f l0).bind fun t226 => ((sig_Plain.f k t226).bind fun t229 => ((amalgamref01_Plain.f k l0).bind fun t232 => ((amalgamref01_Same.f k t229 t232).bind fun t235 => (amalgamlaw01_SigPlain.l0 k l0 t225 t226 t229 t235 0)))))
theorem amalgamlaw01_SigPlain.mono_l : ∀ k, (∀ y0 y1 y2 y3 y4 y5, LeO (amalgamlaw01_SigPlain.l0 k y0 y1 y2 y3 y4 y5) (amalgamlaw01_SigPlain.l0 (k + 1) y0 y1 y2 y3 y4 y5))
  | 0 => fun _ _ _ _ _ _ r h => by simp [amalgamlaw01_SigPlain.l0] at h
  | k + 1 => by
    have ih0 := amalgamlaw01_SigPlain.mono_l k
    · intro y0 y1 y2 y3 y4 y5
      unfold amalgamlaw01_SigPlain.l0
      repeat' first
      | (with_reducible exact ih0 _ _ _ _ _ _)
      | (with_reducible exact amalgamlaw01_head.mono _)
      | (with_reducible exact amalgamlaw01_kept.mono _ _ _)
      | (with_reducible exact amalgamref01_Plain.mono _ _)
      | (with_reducible exact amalgamref01_Same.mono _ _ _)
      | (with_reducible exact sig_Plain.mono _ _)
      | (with_reducible exact LeO.refl _)
      | (with_reducible exact LeO.none _)
      | (with_reducible refine LeO.ite ?_ ?_)
      | (with_reducible refine LeO.bind ?_ (fun _ => ?_))
      | exact ih0 _ _ _ _ _ _
      | exact amalgamlaw01_head.mono _
      | exact amalgamlaw01_kept.mono _ _ _
      | exact amalgamref01_Plain.mono _ _
      | exact amalgamref01_Same.mono _ _ _
      | exact sig_Plain.mono _ _
      | exact LeO.none _
      | refine LeO.ite ?_ ?_
      | refine LeO.bind ?_ (fun _ => ?_)
theorem amalgamlaw01_SigPlain.mono : ∀ a0 k, LeO (amalgamlaw01_SigPlain.f k a0) (amalgamlaw01_SigPlain.f (k + 1) a0) := by
  intro a0 k
  have ih0 := amalgamlaw01_SigPlain.mono_l k
  unfold amalgamlaw01_SigPlain.f
  repeat' first
      | (with_reducible exact ih0 _ _ _ _ _ _)
      | (with_reducible exact amalgamlaw01_head.mono _)
      | (with_reducible exact amalgamlaw01_kept.mono _ _ _)
      | (with_reducible exact amalgamref01_Plain.mono _ _)
      | (with_reducible exact amalgamref01_Same.mono _ _ _)
      | (with_reducible exact sig_Plain.mono _ _)
      | (with_reducible exact LeO.refl _)
      | (with_reducible exact LeO.none _)
      | (with_reducible refine LeO.ite ?_ ?_)
      | (with_reducible refine LeO.bind ?_ (fun _ => ?_))
      | exact ih0 _ _ _ _ _ _
      | exact amalgamlaw01_head.mono _
      | exact amalgamlaw01_kept.mono _ _ _
      | exact amalgamref01_Plain.mono _ _
      | exact amalgamref01_Same.mono _ _ _
      | exact sig_Plain.mono _ _
      | exact LeO.none _
      | refine LeO.ite ?_ ?_
      | refine LeO.bind ?_ (fun _ => ?_)
set_option maxHeartbeats 4000000 in
set_option maxRecDepth 100000 in
theorem amalgamlaw01_SigPlain.calls (k : Nat) (A0 : Option Addr) (c0 : Nat) (l0 : List (S36)) (r : Bool) (w : World) (hr0 : Kd.C k36 w A0 l0.length l0) (hc0 : l0.length ≤ c0) (h : amalgamlaw01_SigPlain.f k l0 = some r) :
    Calls Try.prog 6 #[.slice A0 l0.length c0] w fun e w' => e = .returned (.bool r) ∧ Below w.heap.size w w' := by
  have HR0 := Aside0.mk hr0
  have HC0 := Aside0.mk hc0
  clear hr0 hc0
  have HB := Aside0.mk (Below.refl w.heap.size w)
  have H : ((amalgamlaw01_head.f k).bind fun t225 => ((amalgamlaw01_lent.f l0).bind fun t226 => ((sig_Plain.f k t226).bind fun t229 => ((amalgamref01_Plain.f k l0).bind fun t232 => ((amalgamref01_Same.f k t229 t232).bind fun t235 => (amalgamlaw01_SigPlain.l0 k l0 t225 t226 t229 t235 0)))))) = some r := h
  clear h
  replace H := Option.bind_eq_some_iff.mp H
  obtain ⟨t225, A20, H⟩ := H
  replace H : ((amalgamlaw01_lent.f l0).bind fun t226 => ((sig_Plain.f k t226).bind fun t229 => ((amalgamref01_Plain.f k l0).bind fun t232 => ((amalgamref01_Same.f k t229 t232).bind fun t235 => (amalgamlaw01_SigPlain.l0 k l0 t225 t226 t229 t235 0))))) = some r := H
  have A2 := Aside0.mk A20
  clear A20
  replace H := Option.bind_eq_some_iff.mp H
  obtain ⟨t226, A30, H⟩ := H
  replace H : ((sig_Plain.f k t226).bind fun t229 => ((amalgamref01_Plain.f k l0).bind fun t232 => ((amalgamref01_Same.f k t229 t232).bind fun t235 => (amalgamlaw01_SigPlain.l0 k l0 t225 t226 t229 t235 0)))) = some r := H
  have A3 := Aside0.mk A30
  clear A30
  replace H := Option.bind_eq_some_iff.mp H
  obtain ⟨t229, A40, H⟩ := H
  replace H : ((amalgamref01_Plain.f k l0).bind fun t232 => ((amalgamref01_Same.f k t229 t232).bind fun t235 => (amalgamlaw01_SigPlain.l0 k l0 t225 t226 t229 t235 0))) = some r := H
  have A4 := Aside0.mk A40
  clear A40
  replace H := Option.bind_eq_some_iff.mp H
  obtain ⟨t232, A50, H⟩ := H
  replace H : ((amalgamref01_Same.f k t229 t232).bind fun t235 => (amalgamlaw01_SigPlain.l0 k l0 t225 t226 t229 t235 0)) = some r := H
  have A5 := Aside0.mk A50
  clear A50
  replace H := Option.bind_eq_some_iff.mp H
  obtain ⟨t235, A60, H⟩ := H
  replace H : (amalgamlaw01_SigPlain.l0 k l0 t225 t226 t229 t235 0) = some r := H
  have A6 := Aside0.mk A60
  clear A60
  have H' := Aside0.mk H
  clear H
  go_enter Try.func6, Try.ntmps6
  go_wp2_with (first | ((with_reducible refine gate_callee (f := 9) rfl ?_); refine goesL_ (some 9) rfl rfl Try.func9 (by kernel_rfl) rfl #[] rfl (by (try simp only [List.map_toArray, List.map_cons, List.map_nil]); first | done | rfl | (simp only [List.length_drop, List.length_take]; rfl)) ?_; (with_reducible refine (amalgamlaw01_head.calls k  t225 _ A2.out).mono ?_); rintro e w7 ⟨rfl, hb⟩; refine ⟨_, rfl, ?_⟩; have n0_ := Aside0.mk (below_step (by repeat (first | (with_reducible first | exact HB.out | apply below_alloc | apply pw_below_drewN | apply below_drew1) | exact HB.out)) hb); clear HB; have HB := n0_; clear n0_; (try clear hb); (try clear hb2); (try clear hk); (try clear hi)) | ((with_reducible refine gate_callee (f := 14) rfl ?_); refine goesL_ (some 11) rfl rfl Try.func14 (by kernel_rfl) rfl #[.slice A0 l0.length c0] rfl (by (try simp only [List.map_toArray, List.map_cons, List.map_nil]); first | done | rfl | (simp only [List.length_drop, List.length_take]; rfl)) ?_; (with_reducible refine (amalgamlaw01_lent.calls _ _ l0 t226 _ ?side1 ?side2 A3.out).mono ?_); (case side1 => repeat (first | exact (Kd.C_below HR0.out HB.out) | (with_reducible refine Kd.C_alloc ?_ _) | (with_reducible refine Kd.C_drewN ?_ _) | (with_reducible refine Kd.C_drew ?_))); (case side2 => exact HC0.out); rintro e w8 ⟨v227, rfl, ho0, hb⟩; refine ⟨_, rfl, ?_⟩; have n0_ := Aside0.mk (Kd.R_lower ho0 (below_size (by repeat (first | (with_reducible first | exact HB.out | apply below_alloc | apply pw_below_drewN | apply below_drew1) | exact HB.out)))); have n1_ := Aside0.mk (below_step (by repeat (first | (with_reducible first | exact HB.out | apply below_alloc | apply pw_below_drewN | apply below_drew1) | exact HB.out)) hb); clear HB; have HO228 := n0_; have HB := n1_; clear n0_ n1_; (try clear hb); (try clear hb2); (try clear hk); (try clear hi); (try clear ho0); obtain ⟨Ao9, co9, eo9⟩ := Kd.R_slice HO228.out; subst eo9) | ((with_reducible refine gate_callee (f := 20) rfl ?_); refine goesL_ (some 13) rfl rfl Try.func20 (by kernel_rfl) rfl #[.slice Ao9 t226.length co9] rfl (by (try simp only [List.map_toArray, List.map_cons, List.map_nil]); first | done | rfl | (simp only [List.length_drop, List.length_take]; rfl)) ?_; (with_reducible refine (sig_Plain.calls k _ _ t226 t229 _ ?side1 ?side2 A4.out).mono ?_); (case side1 => repeat (first | exact (Kd.R_reads' HO228.out).2.2 | (with_reducible refine Kd.C_alloc ?_ _) | (with_reducible refine Kd.C_drewN ?_ _) | (with_reducible refine Kd.C_drew ?_))); (case side2 => exact (Kd.R_reads' HO228.out).2.1); rintro e w10 ⟨v230, rfl, ho0, hb⟩; refine ⟨_, rfl, ?_⟩; have n0_ := Aside0.mk (Kd.R_elder' (by (with_reducible repeat (first | apply Kd.R_alloc | apply Kd.R_drewN | apply Kd.R_drew)); exact HO228.out) (Kd.R_base ho0) hb); have n1_ := Aside0.mk (Kd.R_lower (Kd.R_new' ho0 (Kd.R_lt (by (with_reducible repeat (first | apply Kd.R_alloc | apply Kd.R_drewN | apply Kd.R_drew)); exact HO228.out))) (below_size (by repeat (first | (with_reducible first | exact HB.out | apply below_alloc | apply pw_below_drewN | apply below_drew1) | exact HB.out)))); have n2_ := Aside0.mk (below_step (by repeat (first | (with_reducible first | exact HB.out | apply below_alloc | apply pw_below_drewN | apply below_drew1) | exact HB.out)) hb); clear HO228; clear HB; have HO228 := n0_; have HO231 := n1_; have HB := n2_; clear n0_ n1_ n2_; (try clear hb); (try clear hb2); (try clear hk); (try clear hi); (try clear ho0)) | ((with_reducible refine gate_callee (f := 22) rfl ?_); refine goesL_ (some 16) rfl rfl Try.func22 (by kernel_rfl) rfl #[.slice A0 l0.length c0] rfl (by (try simp only [List.map_toArray, List.map_cons, List.map_nil]); first | done | rfl | (simp only [List.length_drop, List.length_take]; rfl)) ?_; (with_reducible refine (amalgamref01_Plain.calls k _ _ l0 t232 _ ?side1 ?side2 A5.out).mono ?_); (case side1 => repeat (first | exact (Kd.C_below HR0.out HB.out) | (with_reducible refine Kd.C_alloc ?_ _) | (with_reducible refine Kd.C_drewN ?_ _) | (with_reducible refine Kd.C_drew ?_))); (case side2 => exact HC0.out); rintro e w11 ⟨v233, rfl, ho0, hb⟩; refine ⟨_, rfl, ?_⟩; have n0_ := Aside0.mk (Kd.R_elder' (by (with_reducible repeat (first | apply Kd.R_alloc | apply Kd.R_drewN | apply Kd.R_drew)); exact HO228.out) (Kd.R_base ho0) hb); have n1_ := Aside0.mk (Kd.R_elder' (by (with_reducible repeat (first | apply Kd.R_alloc | apply Kd.R_drewN | apply Kd.R_drew)); exact HO231.out) (Kd.R_base ho0) hb); have n2_ := Aside0.mk (Kd.R_lower (Kd.R_new' (Kd.R_new' ho0 (Kd.R_lt (by (with_reducible repeat (first | apply Kd.R_alloc | apply Kd.R_drewN | apply Kd.R_drew)); exact HO228.out))) (Kd.R_lt (by (with_reducible repeat (first | apply Kd.R_alloc | apply Kd.R_drewN | apply Kd.R_drew)); exact HO231.out))) (below_size (by repeat (first | (with_reducible first | exact HB.out | apply below_alloc | apply pw_below_drewN | apply below_drew1) | exact HB.out)))); have n3_ := Aside0.mk (below_step (by repeat (first | (with_reducible first | exact HB.out | apply below_alloc | apply pw_below_drewN | apply below_drew1) | exact HB.out)) hb); clear HO228; clear HO231; clear HB; have HO228 := n0_; have HO231 := n1_; have HO234 := n2_; have HB := n3_; clear n0_ n1_ n2_ n3_; (try clear hb); (try clear hb2); (try clear hk); (try clear hi); (try clear ho0); obtain ⟨Ao12, co12, eo12⟩ := Kd.R_slice HO231.out; subst eo12; obtain ⟨Ao13, co13, eo13⟩ := Kd.R_slice HO234.out; subst eo13) | ((with_reducible refine gate_callee (f := 21) rfl ?_); refine goesL_ (some 17) rfl rfl Try.func21 (by kernel_rfl) rfl #[.slice Ao12 t229.length co12, .slice Ao13 t232.length co13] rfl (by (try simp only [List.map_toArray, List.map_cons, List.map_nil]); first | done | rfl | (simp only [List.length_drop, List.length_take]; rfl)) ?_; (with_reducible refine (amalgamref01_Same.calls k _ _ t229 _ _ t232 t235 _ ?side1 ?side2 ?side3 ?side4 A6.out).mono ?_); (case side1 => repeat (first | exact (Kd.R_reads' HO231.out).2.2 | (with_reducible refine Kd.C_alloc ?_ _) | (with_reducible refine Kd.C_drewN ?_ _) | (with_reducible refine Kd.C_drew ?_))); (case side2 => exact (Kd.R_reads' HO231.out).2.1); (case side3 => repeat (first | exact (Kd.R_reads' HO234.out).2.2 | (with_reducible refine Kd.C_alloc ?_ _) | (with_reducible refine Kd.C_drewN ?_ _) | (with_reducible refine Kd.C_drew ?_))); (case side4 => exact (Kd.R_reads' HO234.out).2.1); rintro e w' ⟨rfl, ⟨nd, rfl⟩⟩; refine ⟨_, rfl, ?_⟩))
  go_loopg [7] k (fun kq v7 w' => ∃ (x5_1 : List (S36)) (x7_1 : Int), v7 = .int .i64 x7_1 ∧ Aside0 (amalgamlaw01_SigPlain.l0 kq l0 t225 t226 x5_1 t235 x7_1 = some r) ∧ Aside0 (kq ≤ k) ∧ Aside0 (Kd.R k36 36 w' w.heap.size (fun k_ => some k_ ≠ ((.slice Ao12 t229.length co12) : Value).ownBlock) (.slice Ao9 t226.length co9) t226) ∧ Aside0 (Kd.R k36 36 w' w.heap.size (fun k_ => some k_ ≠ ((.slice Ao9 t226.length co9) : Value).ownBlock) (.slice Ao12 t229.length co12) x5_1) ∧ Aside0 (Below w.heap.size w w'))
  case atStart => exact ⟨(t229), (0), (by first | rfl | (simp; done) | (simp [*]; done)), H', ⟨Nat.le_refl _⟩, ⟨by (with_reducible repeat (first | apply Kd.R_alloc | apply Kd.R_drewN | apply Kd.R_drew)); exact Kd.R_mono HO228.out (fun _ hk => hk.1.2)⟩, ⟨by (with_reducible repeat (first | apply Kd.R_alloc | apply Kd.R_drewN | apply Kd.R_drew)); exact Kd.R_mono HO231.out (fun _ hk => hk.1.2)⟩, ⟨by repeat (first | (with_reducible first | exact HB.out | apply below_alloc | apply pw_below_drewN | apply below_drew1) | exact HB.out)⟩⟩
  case round =>
    clear H'
    try clear c1
    try clear c2
    try clear p2
    try clear c6
    try clear c9
    obtain ⟨x5_1, x7_1, rfl, HA, HK1, HO_4, HO_5, HB⟩ := hrel
    have hl5_1 := (Kd.R_reads' HO_5.out).1
    rw [hl5_1] at HO_5
    (try simp only [hl5_1])
    (try simp only [hl5_1] at HO_4)
    cases gk with
    | zero => exact absurd HA.out (by simp [amalgamlaw01_SigPlain.l0])
    | succ k1 =>
      have H := HA.out
      clear HA
      simp only [amalgamlaw01_SigPlain.l0] at H
      by_cases c14 : x7_1 < (x5_1.length : Int)
      · rw [if_pos c14] at H
        have c14b0 : decide (x7_1 < (x5_1.length : Int)) = true := decide_eq_true c14
        clear c14
        by_cases c15 : 0 ≤ x7_1
        · rw [if_pos c15] at H
          have c15b0 : decide (0 ≤ x7_1) = true := decide_eq_true c15
          clear c15
          obtain ⟨y236, hy236⟩ : ∃ y_ : List (S36), y_ = (x5_1.set (x7_1 : Int).toNat (⟨(⟨#[115, 112, 111, 105, 108, 116]⟩ : ByteArray), (rd_T36 x5_1 x7_1).f1, (rd_T36 x5_1 x7_1).f2, (rd_T36 x5_1 x7_1).f3⟩ : S36)) := ⟨_, rfl⟩
          replace H : (amalgamlaw01_SigPlain.l0 k1 l0 t225 t226 y236 t235 (wrap64 (x7_1 + 1))) = some r := by first | (rw [hy236]; with_reducible exact H) | (have H2_ := (Option.bind_some _ _).symm.trans H; rw [hy236]; with_reducible exact H2_) | (have H2_ := (Option.bind_some _ _).symm.trans H; with_reducible exact H2_) | with_reducible exact H | (rw [hy236]; exact H) | exact H
          have Ny236 := Aside0.mk hy236
          clear hy236
          have H' := Aside0.mk H
          clear H
          have p16 : 0 ≤ (x7_1 : Int) := of_decide_eq_true (by first | (with_reducible assumption) | assumption)
          have q16 : (x7_1 : Int) < ((x5_1.length : Int) : Int) := of_decide_eq_true (by first | (with_reducible assumption) | assumption)
          obtain ⟨go16, co16, eo16, gb16, gl16, cl16, HG16⟩ := Kd.R_form HO_5.out (by omega)
          (first | cases eo16 | (injection eo16 with ea_ en_ ec_; (first | subst ea_ | (injection ea_ with ea_; subst ea_)); subst ec_; clear en_))
          have GB16 := Aside0.mk gb16
          have GG16 := Aside0.mk HG16
          clear gb16 gl16 HG16
          obtain ⟨ce16, hcl16, hM16, hcc16, hfr16⟩ := Kd.R_elem HO_5.out z36 (x7_1 : Int) p16 q16
          obtain rfl := k36_openM hM16
          have hx16_0 : wr.cell? ⟨go16, (x7_1 : Int).toNat * 4, none⟩ = some (.string ((rd_T36 x5_1 x7_1).f0)) := hcc16 0 _ rfl
          have hx16_1 : wr.cell? ⟨go16, (x7_1 : Int).toNat * 4 + 1, none⟩ = some (.int .i64 ((rd_T36 x5_1 x7_1).f1)) := hcc16 1 _ rfl
          have hx16_2 : wr.cell? ⟨go16, (x7_1 : Int).toNat * 4 + 2, none⟩ = some (.int .i64 ((rd_T36 x5_1 x7_1).f2)) := hcc16 2 _ rfl
          have hx16_3 : wr.cell? ⟨go16, (x7_1 : Int).toNat * 4 + 3, none⟩ = some (.string ((rd_T36 x5_1 x7_1).f3)) := hcc16 3 _ rfl
          have hf16_0 : wr.frozen? ⟨go16, (x7_1 : Int).toNat * 4, none⟩ = false := hfr16 0
          have hf16_1 : wr.frozen? ⟨go16, (x7_1 : Int).toNat * 4 + 1, none⟩ = false := hfr16 1
          have hf16_2 : wr.frozen? ⟨go16, (x7_1 : Int).toNat * 4 + 2, none⟩ = false := hfr16 2
          have hf16_3 : wr.frozen? ⟨go16, (x7_1 : Int).toNat * 4 + 3, none⟩ = false := hfr16 3
          clear hcl16 hcc16 hfr16 hM16
          replace p16 := eq_true p16
          replace q16 := eq_true q16
          have HX17 := Aside0.mk (show Kd.R k36 36 wr w.heap.size (fun k_ => some k_ ≠ (.slice Ao9 t226.length co9 : Value).ownBlock) (.slice (some ⟨go16, 0, none⟩) x5_1.length co12) x5_1 from (by (with_reducible repeat (first | apply Kd.R_alloc | apply Kd.R_drewN | apply Kd.R_drew)); exact HO_5.out))
          obtain ⟨ce17, hcl17, hM17, hcc17, hfr17⟩ := Kd.R_elem HX17.out z36 (x7_1 : Int) (of_decide_eq_true (by first | (with_reducible assumption) | assumption)) (by have h_ : (x7_1 : Int) < ((x5_1.length : Int) : Int) := of_decide_eq_true (by first | (with_reducible assumption) | assumption); first | exact h_ | (have e_ := (Kd.R_reads' HO_5.out).1; omega) | simpa using h_)
          obtain rfl := k36_openM hM17
          have HP17 := Kd.R_seg HX17.out (x7_1 : Int) (of_decide_eq_true (by first | (with_reducible assumption) | assumption)) (by have h_ : (x7_1 : Int) < ((x5_1.length : Int) : Int) := of_decide_eq_true (by first | (with_reducible assumption) | assumption); first | exact h_ | (have e_ := (Kd.R_reads' HO_5.out).1; omega) | simpa using h_) (seg := [.string (⟨#[115, 112, 111, 105, 108, 116]⟩ : ByteArray)]) (j := 0) hcl17 hcc17 (show 1 ≤ 4 from by decide) (x' := (⟨(⟨#[115, 112, 111, 105, 108, 116]⟩ : ByteArray), (rd_T36 x5_1 x7_1).f1, (rd_T36 x5_1 x7_1).f2, (rd_T36 x5_1 x7_1).f3⟩ : S36)) (k36_mkM _ _ _ (⟨(⟨#[115, 112, 111, 105, 108, 116]⟩ : ByteArray), (rd_T36 x5_1 x7_1).f1, (rd_T36 x5_1 x7_1).f2, (rd_T36 x5_1 x7_1).f3⟩ : S36) ) (fun _ hk => hk)
          have hx17_0 := hcc17 0 _ rfl
          (try simp only [show (k36).sz = 4 from rfl, Nat.mul_one, Nat.add_zero] at hx17_0)
          have hf17_0 := hfr17 0
          (try simp only [show (k36).sz = 4 from rfl, Nat.mul_one, Nat.add_zero] at hf17_0)
          clear hcl17 hcc17 hfr17 hM17
          go_wp2_with (first | ((with_reducible refine gate_store (t := 9) (p := 27) rfl ?_); refine store_event (t := 9) (p := 27) (v := ?vo_w18) (w1 := (wr.setCell ⟨go16, (x7_1 : Int).toNat * 4, none⟩ (.string (⟨#[115, 112, 111, 105, 108, 116]⟩ : ByteArray)))) ?hg ?ho ?hn ?hr ?_; (case ho => rfl); (case hg => rfl); (case hn => rfl); (case hr => first | (go_simp; done) | (go_simp; rfl)); intro w18 hw; have hg : wr.grownBy w18 (some go16) := (by rw [hw]; exact HP17.2); have hp_ : Kd.R k36 36 w18 w.heap.size (fun k_ => some k_ ≠ (.slice Ao9 t226.length co9 : Value).ownBlock) (.slice (some ⟨go16, 0, none⟩) x5_1.length co12) y236 := (by rw [hw, Ny236.out]; exact HP17.1); clear HP17; have n0_ := Aside0.mk (Kd.R_after (v := (.slice (some ⟨go16, 0, none⟩) x5_1.length co12)) (v1 := (.slice (some ⟨go16, 0, none⟩) x5_1.length co12)) (ok := (fun _ => True)) (by (with_reducible repeat (first | apply Kd.R_alloc | apply Kd.R_drewN | apply Kd.R_drew)); exact Kd.R_mono HO_4.out (fun _ hk => ⟨trivial, hk⟩)) hg (.inl rfl)); have n1_ := Aside0.mk (hp_); have n2_ := Aside0.mk ((by rw [hw]; exact below_set (HB.out) GB16.out : Below w.heap.size w w18)); clear HO_4; clear HO_5; clear HB; have HO_4 := n0_; have HO_5 := n1_; have HB := n2_; clear n0_ n1_ n2_; clear hg hw hp_))
          (try simp only [← hl5_1])
          go_roundg k1
          case measure => have := HK1.out; omega
          case rel => exact ⟨(y236), (wrap64 (x7_1 + 1)), (by first | rfl | (simp; done) | (simp [*]; done)), H', ⟨by have := HK1.out; omega⟩, ⟨by (try simp only [hl5_1]); (with_reducible repeat (first | apply Kd.R_alloc | apply Kd.R_drewN | apply Kd.R_drew)); exact Kd.R_mono HO_4.out (fun _ hk => hk.2)⟩, ⟨by (try simp only [hl5_1]); (with_reducible repeat (first | apply Kd.R_alloc | apply Kd.R_drewN | apply Kd.R_drew)); exact HO_5.out⟩, ⟨by repeat (first | (with_reducible first | exact HB.out | apply below_alloc | apply pw_below_drewN | apply below_drew1) | exact HB.out)⟩⟩
        · rw [if_neg c15] at H
          exact absurd H (by simp)
      · rw [if_neg c14] at H
        have c14b0 : decide (x7_1 < (x5_1.length : Int)) = false := decide_eq_false c14
        clear c14
        replace H := Option.bind_eq_some_iff.mp H
        obtain ⟨t237, A190, H⟩ := H
        replace H : (if t225 = true then (if t235 = true then (some t237) else (some false)) else (some false)) = some r := H
        have A19 := Aside0.mk A190
        clear A190
        by_cases c20 : t225 = true
        · subst c20
          have H1 : (if t235 = true then (some t237) else (some false)) = some r := by rw [if_pos rfl] at H; exact H
          clear H
          have H := H1
          clear H1
          by_cases c21 : t235 = true
          · subst c21
            have H1 : (some t237) = some r := by rw [if_pos rfl] at H; exact H
            clear H
            have H := H1
            clear H1
            obtain rfl := Option.some.inj H
            go_wp2_with (first | ((with_reducible refine gate_callee (f := 17) rfl ?_); refine goesL_ (some 30) rfl rfl Try.func17 (by kernel_rfl) rfl #[.slice Ao9 t226.length co9, .slice A0 l0.length c0] rfl (by (try simp only [List.map_toArray, List.map_cons, List.map_nil]); first | done | rfl | (simp only [List.length_drop, List.length_take]; rfl)) ?_; (with_reducible refine (amalgamlaw01_kept.calls k1 _ _ t226 _ _ l0 t237 _ ?side1 ?side2 ?side3 ?side4 A19.out).mono ?_); (case side1 => repeat (first | exact (Kd.R_reads' HO_4.out).2.2 | (with_reducible refine Kd.C_alloc ?_ _) | (with_reducible refine Kd.C_drewN ?_ _) | (with_reducible refine Kd.C_drew ?_))); (case side2 => exact (Kd.R_reads' HO_4.out).2.1); (case side3 => repeat (first | exact (Kd.C_below HR0.out HB.out) | (with_reducible refine Kd.C_alloc ?_ _) | (with_reducible refine Kd.C_drewN ?_ _) | (with_reducible refine Kd.C_drew ?_))); (case side4 => exact HC0.out); rintro e w' ⟨rfl, ⟨nd, rfl⟩⟩; refine ⟨_, rfl, ?_⟩))
            go_ret
            exact ⟨by first | rfl | (simp [errW_none, errW_some] <;> rfl) | (simp [*, errW_none, errW_some] <;> rfl), by repeat (first | (with_reducible first | exact HB.out | apply below_alloc | apply pw_below_drewN | apply below_drew1) | exact HB.out)⟩
          · replace c21 := Bool.eq_false_iff.mpr c21
            subst c21
            have H1 : (some false) = some r := by rw [if_neg (show ¬ (false = true) by decide)] at H; exact H
            clear H
            have H := H1
            clear H1
            obtain rfl := Option.some.inj H
            go_wp2_with (first | ((with_reducible refine gate_callee (f := 17) rfl ?_); refine goesL_ (some 30) rfl rfl Try.func17 (by kernel_rfl) rfl #[.slice Ao9 t226.length co9, .slice A0 l0.length c0] rfl (by (try simp only [List.map_toArray, List.map_cons, List.map_nil]); first | done | rfl | (simp only [List.length_drop, List.length_take]; rfl)) ?_; (with_reducible refine (amalgamlaw01_kept.calls k1 _ _ t226 _ _ l0 t237 _ ?side1 ?side2 ?side3 ?side4 A19.out).mono ?_); (case side1 => repeat (first | exact (Kd.R_reads' HO_4.out).2.2 | (with_reducible refine Kd.C_alloc ?_ _) | (with_reducible refine Kd.C_drewN ?_ _) | (with_reducible refine Kd.C_drew ?_))); (case side2 => exact (Kd.R_reads' HO_4.out).2.1); (case side3 => repeat (first | exact (Kd.C_below HR0.out HB.out) | (with_reducible refine Kd.C_alloc ?_ _) | (with_reducible refine Kd.C_drewN ?_ _) | (with_reducible refine Kd.C_drew ?_))); (case side4 => exact HC0.out); rintro e w' ⟨rfl, ⟨nd, rfl⟩⟩; refine ⟨_, rfl, ?_⟩))
            go_ret
            exact ⟨by first | rfl | (simp [errW_none, errW_some] <;> rfl) | (simp [*, errW_none, errW_some] <;> rfl), by repeat (first | (with_reducible first | exact HB.out | apply below_alloc | apply pw_below_drewN | apply below_drew1) | exact HB.out)⟩
        · replace c20 := Bool.eq_false_iff.mpr c20
          subst c20
          have H1 : (some false) = some r := by rw [if_neg (show ¬ (false = true) by decide)] at H; exact H
          clear H
          have H := H1
          clear H1
          obtain rfl := Option.some.inj H
          go_wp2_with (first | ((with_reducible refine gate_callee (f := 17) rfl ?_); refine goesL_ (some 30) rfl rfl Try.func17 (by kernel_rfl) rfl #[.slice Ao9 t226.length co9, .slice A0 l0.length c0] rfl (by (try simp only [List.map_toArray, List.map_cons, List.map_nil]); first | done | rfl | (simp only [List.length_drop, List.length_take]; rfl)) ?_; (with_reducible refine (amalgamlaw01_kept.calls k1 _ _ t226 _ _ l0 t237 _ ?side1 ?side2 ?side3 ?side4 A19.out).mono ?_); (case side1 => repeat (first | exact (Kd.R_reads' HO_4.out).2.2 | (with_reducible refine Kd.C_alloc ?_ _) | (with_reducible refine Kd.C_drewN ?_ _) | (with_reducible refine Kd.C_drew ?_))); (case side2 => exact (Kd.R_reads' HO_4.out).2.1); (case side3 => repeat (first | exact (Kd.C_below HR0.out HB.out) | (with_reducible refine Kd.C_alloc ?_ _) | (with_reducible refine Kd.C_drewN ?_ _) | (with_reducible refine Kd.C_drew ?_))); (case side4 => exact HC0.out); rintro e w' ⟨rfl, ⟨nd, rfl⟩⟩; refine ⟨_, rfl, ?_⟩))
          go_ret
          exact ⟨by first | rfl | (simp [errW_none, errW_some] <;> rfl) | (simp [*, errW_none, errW_some] <;> rfl), by repeat (first | (with_reducible first | exact HB.out | apply below_alloc | apply pw_below_drewN | apply below_drew1) | exact HB.out)⟩

/-! ### amalgamref01_Find: function 23 -/
def amalgamref01_Find.l0 : Nat → List (S36) → ByteArray → Int → Option (Int × Bool)
  | 0, _, _, _ => none
  | k + 1, x0, x1, x6 => if x6 < (x0.length : Int) then (if 0 ≤ x6 then (if ((rd_T36 x0 x6).f0).toList = x1.toList then (some (x6, true)) else (amalgamref01_Find.l0 k x0 x1 (wrap64 (x6 + 1)))) else (none)) else (some (0, false))
def amalgamref01_Find.f (k : Nat) (l0 : List (S36)) (a1 : ByteArray) : Option (Int × Bool) := amalgamref01_Find.l0 k l0 a1 0
theorem amalgamref01_Find.mono_l : ∀ k, (∀ y0 y1 y2, LeO (amalgamref01_Find.l0 k y0 y1 y2) (amalgamref01_Find.l0 (k + 1) y0 y1 y2))
  | 0 => fun _ _ _ r h => by simp [amalgamref01_Find.l0] at h
  | k + 1 => by
    have ih0 := amalgamref01_Find.mono_l k
    · intro y0 y1 y2
      unfold amalgamref01_Find.l0
      repeat' first
      | (with_reducible exact ih0 _ _ _)
      | (with_reducible exact LeO.refl _)
      | (with_reducible exact LeO.none _)
      | (with_reducible refine LeO.ite ?_ ?_)
      | (with_reducible refine LeO.bind ?_ (fun _ => ?_))
      | exact ih0 _ _ _
      | exact LeO.none _
      | refine LeO.ite ?_ ?_
      | refine LeO.bind ?_ (fun _ => ?_)
theorem amalgamref01_Find.mono : ∀ a0 a1 k, LeO (amalgamref01_Find.f k a0 a1) (amalgamref01_Find.f (k + 1) a0 a1) := by
  intro a0 a1 k
  have ih0 := amalgamref01_Find.mono_l k
  unfold amalgamref01_Find.f
  repeat' first
      | (with_reducible exact ih0 _ _ _)
      | (with_reducible exact LeO.refl _)
      | (with_reducible exact LeO.none _)
      | (with_reducible refine LeO.ite ?_ ?_)
      | (with_reducible refine LeO.bind ?_ (fun _ => ?_))
      | exact ih0 _ _ _
      | exact LeO.none _
      | refine LeO.ite ?_ ?_
      | refine LeO.bind ?_ (fun _ => ?_)
set_option maxHeartbeats 4000000 in
set_option maxRecDepth 100000 in
theorem amalgamref01_Find.calls (k : Nat) (A0 : Option Addr) (c0 : Nat) (l0 : List (S36)) (a1 : ByteArray) (r1 : Int) (r2 : Bool) (w : World) (hr0 : Kd.C k36 w A0 l0.length l0) (hc0 : l0.length ≤ c0) (h : amalgamref01_Find.f k l0 a1 = some (r1, r2)) :
    Calls Try.prog 23 #[.slice A0 l0.length c0, .string a1] w fun e w' => e = .returned (.tuple #[.int .i64 r1, .bool r2]) ∧ Drawn0 w w' := by
  have HR0 := Aside0.mk hr0
  have HC0 := Aside0.mk hc0
  clear hr0 hc0
  have H : (amalgamref01_Find.l0 k l0 a1 0) = some (r1, r2) := h
  clear h
  have H' := Aside0.mk H
  clear H
  go_enter Try.func23, Try.ntmps23
  go_wp2
  go_loopg [6] k (fun kq v6 w' => ∃ (x6_1 : Int), v6 = .int .i64 x6_1 ∧ Aside0 (amalgamref01_Find.l0 kq l0 a1 x6_1 = some (r1, r2)) ∧ Aside0 (kq ≤ k) ∧ Drawn0 w w')
  case atStart => exact ⟨(0), (by first | rfl | (simp; done) | (simp [*]; done)), H', ⟨Nat.le_refl _⟩, by repeat (first | exact Drawn0.refl _ | apply Drawn0.step)⟩
  case round =>
    clear H'
    try clear c2
    try clear p2
    obtain ⟨x6_1, rfl, HA, HK1, ⟨m1, rfl⟩⟩ := hrel
    cases gk with
    | zero => exact absurd HA.out (by simp [amalgamref01_Find.l0])
    | succ k1 =>
      have H := HA.out
      clear HA
      simp only [amalgamref01_Find.l0] at H
      by_cases c3 : x6_1 < (l0.length : Int)
      · rw [if_pos c3] at H
        have c3b0 : decide (x6_1 < (l0.length : Int)) = true := decide_eq_true c3
        clear c3
        by_cases c4 : 0 ≤ x6_1
        · rw [if_pos c4] at H
          have c4b0 : decide (0 ≤ x6_1) = true := decide_eq_true c4
          clear c4
          by_cases c5 : ((rd_T36 l0 x6_1).f0).toList = a1.toList
          · rw [if_pos c5] at H
            have c5b0 : (((rd_T36 l0 x6_1).f0).toList == a1.toList) = true := beq_iff_eq.mpr c5
            have c5b1 : (((rd_T36 l0 x6_1).f0).toList != a1.toList) = false := bne_eq_false_iff_eq.mpr c5
            clear c5
            simp only [Option.some.injEq, Prod.mk.injEq] at H
            obtain ⟨rfl, rfl⟩ := H
            have p238 : 0 ≤ (x6_1 : Int) := of_decide_eq_true (by first | (with_reducible assumption) | assumption)
            have q238 : x6_1 < (l0.length : Int) := of_decide_eq_true (by first | (with_reducible assumption) | assumption)
            obtain ⟨ad238, e238, hx238_0, hx238_1, hx238_2, hx238_3⟩ := at_T36 HR0.out x6_1 p238 q238
            cases e238
            replace p238 := eq_true p238
            replace q238 := eq_true q238
            go_wp2
            go_ret2
            exact ⟨by first | rfl | (simp; done) | (simp [*]; done), by repeat (first | exact Drawn0.refl _ | apply Drawn0.step)⟩
          · rw [if_neg c5] at H
            have c5b0 : (((rd_T36 l0 x6_1).f0).toList == a1.toList) = false := beq_eq_false_iff_ne.mpr c5
            have c5b1 : (((rd_T36 l0 x6_1).f0).toList != a1.toList) = true := bne_iff_ne.mpr c5
            have H' := Aside0.mk H
            clear H
            have p238 : 0 ≤ (x6_1 : Int) := of_decide_eq_true (by first | (with_reducible assumption) | assumption)
            have q238 : x6_1 < (l0.length : Int) := of_decide_eq_true (by first | (with_reducible assumption) | assumption)
            obtain ⟨ad238, e238, hx238_0, hx238_1, hx238_2, hx238_3⟩ := at_T36 HR0.out x6_1 p238 q238
            cases e238
            replace p238 := eq_true p238
            replace q238 := eq_true q238
            go_wp2
            go_roundg k1
            case measure => have := HK1.out; omega
            case rel => exact ⟨(wrap64 (x6_1 + 1)), (by first | rfl | (simp; done) | (simp [*]; done)), H', ⟨by have := HK1.out; omega⟩, by repeat (first | exact Drawn0.refl _ | apply Drawn0.step)⟩
        · rw [if_neg c4] at H
          exact absurd H (by simp)
      · rw [if_neg c3] at H
        have c3b0 : decide (x6_1 < (l0.length : Int)) = false := decide_eq_false c3
        clear c3
        simp only [Option.some.injEq, Prod.mk.injEq] at H
        obtain ⟨rfl, rfl⟩ := H
        go_wp2
        go_ret2
        exact ⟨by first | rfl | (simp; done) | (simp [*]; done), by repeat (first | exact Drawn0.refl _ | apply Drawn0.step)⟩

/-! ### amalgamref01_Unit: function 24 -/
def amalgamref01_Unit.f (k : Nat) (l0 : List (S36)) (a1 : Int) : Option (Int × Bool) := if a1 < 0 then (some (0, false)) else (if a1 ≥ (l0.length : Int) then (some (0, false)) else (if 0 ≤ a1 then (if a1 < (l0.length : Int) then (if ((rd_T36 l0 a1).f1) = 3 then ((amalgamref01_Find.f k l0 ((rd_T36 l0 a1).f3)).bind fun bt241 => (some (bt241.1, bt241.2))) else (some (0, false))) else (none)) else (none)))
theorem amalgamref01_Unit.mono : ∀ a0 a1 k, LeO (amalgamref01_Unit.f k a0 a1) (amalgamref01_Unit.f (k + 1) a0 a1) := by
  intro a0 a1 k
  unfold amalgamref01_Unit.f
  repeat' first
      | (with_reducible exact amalgamref01_Find.mono _ _ _)
      | (with_reducible exact LeO.refl _)
      | (with_reducible exact LeO.none _)
      | (with_reducible refine LeO.ite ?_ ?_)
      | (with_reducible refine LeO.bind ?_ (fun _ => ?_))
      | exact amalgamref01_Find.mono _ _ _
      | exact LeO.none _
      | refine LeO.ite ?_ ?_
      | refine LeO.bind ?_ (fun _ => ?_)
set_option maxHeartbeats 4000000 in
set_option maxRecDepth 100000 in
theorem amalgamref01_Unit.calls (k : Nat) (A0 : Option Addr) (c0 : Nat) (l0 : List (S36)) (a1 : Int) (r1 : Int) (r2 : Bool) (w : World) (hr0 : Kd.C k36 w A0 l0.length l0) (hc0 : l0.length ≤ c0) (h : amalgamref01_Unit.f k l0 a1 = some (r1, r2)) :
    Calls Try.prog 24 #[.slice A0 l0.length c0, .int .i64 a1] w fun e w' => e = .returned (.tuple #[.int .i64 r1, .bool r2]) ∧ Drawn0 w w' := by
  have HR0 := Aside0.mk hr0
  have HC0 := Aside0.mk hc0
  clear hr0 hc0
  have H : (if a1 < 0 then (some (0, false)) else (if a1 ≥ (l0.length : Int) then (some (0, false)) else (if 0 ≤ a1 then (if a1 < (l0.length : Int) then (if ((rd_T36 l0 a1).f1) = 3 then ((amalgamref01_Find.f k l0 ((rd_T36 l0 a1).f3)).bind fun bt241 => (some (bt241.1, bt241.2))) else (some (0, false))) else (none)) else (none)))) = some (r1, r2) := h
  clear h
  by_cases c3 : a1 < 0
  · rw [if_pos c3] at H
    have c3b0 : decide (a1 < 0) = true := decide_eq_true c3
    clear c3
    simp only [Option.some.injEq, Prod.mk.injEq] at H
    obtain ⟨rfl, rfl⟩ := H
    go_enter Try.func24, Try.ntmps24
    go_wp2
    go_ret2
    exact ⟨by first | rfl | (simp; done) | (simp [*]; done), by repeat (first | exact Drawn0.refl _ | apply Drawn0.step)⟩
  · rw [if_neg c3] at H
    have c3b0 : decide (a1 < 0) = false := decide_eq_false c3
    clear c3
    by_cases c4 : a1 ≥ (l0.length : Int)
    · rw [if_pos c4] at H
      have c4b0 : decide ((l0.length : Int) ≤ a1) = true := decide_eq_true c4
      clear c4
      simp only [Option.some.injEq, Prod.mk.injEq] at H
      obtain ⟨rfl, rfl⟩ := H
      go_enter Try.func24, Try.ntmps24
      go_wp2
      go_ret2
      exact ⟨by first | rfl | (simp; done) | (simp [*]; done), by repeat (first | exact Drawn0.refl _ | apply Drawn0.step)⟩
    · rw [if_neg c4] at H
      have c4b0 : decide ((l0.length : Int) ≤ a1) = false := decide_eq_false c4
      clear c4
      by_cases c5 : 0 ≤ a1
      · rw [if_pos c5] at H
        have c5b0 : decide (0 ≤ a1) = true := decide_eq_true c5
        clear c5
        by_cases c6 : a1 < (l0.length : Int)
        · rw [if_pos c6] at H
          have c6b0 : decide (a1 < (l0.length : Int)) = true := decide_eq_true c6
          clear c6
          by_cases c7 : ((rd_T36 l0 a1).f1) = 3
          · rw [if_pos c7] at H
            have c7b0 : (((rd_T36 l0 a1).f1) == 3) = true := beq_iff_eq.mpr c7
            have c7b1 : (((rd_T36 l0 a1).f1) != 3) = false := bne_eq_false_iff_eq.mpr c7
            clear c7
            replace H := Option.bind_eq_some_iff.mp H
            obtain ⟨⟨t241, t242⟩, A80, H⟩ := H
            replace H : (some (t241, t242)) = some (r1, r2) := H
            have A8 := Aside0.mk A80
            clear A80
            simp only [Option.some.injEq, Prod.mk.injEq] at H
            obtain ⟨rfl, rfl⟩ := H
            have p239 : 0 ≤ (a1 : Int) := of_decide_eq_true (by first | (with_reducible assumption) | assumption)
            have q239 : a1 < (l0.length : Int) := of_decide_eq_true (by first | (with_reducible assumption) | assumption)
            obtain ⟨ad239, e239, hx239_0, hx239_1, hx239_2, hx239_3⟩ := at_T36 HR0.out a1 p239 q239
            cases e239
            replace p239 := eq_true p239
            replace q239 := eq_true q239
            have p240 : 0 ≤ (a1 : Int) := of_decide_eq_true (by first | (with_reducible assumption) | assumption)
            have q240 : a1 < (l0.length : Int) := of_decide_eq_true (by first | (with_reducible assumption) | assumption)
            obtain ⟨ad240, e240, hx240_0, hx240_1, hx240_2, hx240_3⟩ := at_T36 HR0.out a1 p240 q240
            obtain rfl : ad239 = ad240 := (by injection e240)
            replace p240 := eq_true p240
            replace q240 := eq_true q240
            go_enter Try.func24, Try.ntmps24
            go_wp2_with (first | ((with_reducible refine gate_callee (f := 23) rfl ?_); refine goesL_ (some 28) rfl rfl Try.func23 (by kernel_rfl) rfl #[.slice (some ad239) l0.length c0, .string ((rd_T36 l0 a1).f3)] rfl (by (try simp only [List.map_toArray, List.map_cons, List.map_nil]); first | done | rfl | (simp only [List.length_drop, List.length_take]; rfl)) ?_; (with_reducible refine (amalgamref01_Find.calls k _ _ l0 ((rd_T36 l0 a1).f3) t241 t242 _ ?side1 ?side2 A8.out).mono ?_); (case side1 => repeat (first | exact HR0.out | (with_reducible refine Kd.C_alloc ?_ _) | (with_reducible refine Kd.C_drewN ?_ _) | (with_reducible refine Kd.C_drew ?_))); (case side2 => exact HC0.out); rintro e w' ⟨rfl, ⟨nd, rfl⟩⟩; refine ⟨_, rfl, ?_⟩))
            go_ret2
            exact ⟨by first | rfl | (simp; done) | (simp [*]; done), by repeat (first | exact Drawn0.refl _ | apply Drawn0.step)⟩
          · rw [if_neg c7] at H
            have c7b0 : (((rd_T36 l0 a1).f1) == 3) = false := beq_eq_false_iff_ne.mpr c7
            have c7b1 : (((rd_T36 l0 a1).f1) != 3) = true := bne_iff_ne.mpr c7
            simp only [Option.some.injEq, Prod.mk.injEq] at H
            obtain ⟨rfl, rfl⟩ := H
            have p239 : 0 ≤ (a1 : Int) := of_decide_eq_true (by first | (with_reducible assumption) | assumption)
            have q239 : a1 < (l0.length : Int) := of_decide_eq_true (by first | (with_reducible assumption) | assumption)
            obtain ⟨ad239, e239, hx239_0, hx239_1, hx239_2, hx239_3⟩ := at_T36 HR0.out a1 p239 q239
            cases e239
            replace p239 := eq_true p239
            replace q239 := eq_true q239
            go_enter Try.func24, Try.ntmps24
            go_wp2
            go_ret2
            exact ⟨by first | rfl | (simp; done) | (simp [*]; done), by repeat (first | exact Drawn0.refl _ | apply Drawn0.step)⟩
        · rw [if_neg c6] at H
          exact absurd H (by simp)
      · rw [if_neg c5] at H
        exact absurd H (by simp)

end Go.Proofs.Ythbpbbinpkfchaa.PSig
