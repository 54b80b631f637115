-- Written by a program of this session (wip/tools/myprint.py): functions, contracts, their proofs. Lean checks it.
import Derived.Test.YtbfcfmobogmfhaaPWdx0
namespace Go.Proofs.Ytbfcfmobogmfhaa.PWd
open Go.RowKit Go.Proofs.YtbfcfmobogmfhaaW.PrintWords Go.Proofs.YtbfcfmobogmfhaaW.PrintLast Go.Proofs.YtbfcfmobogmfhaaW.PrintMore
attribute [local go_sem] max2_int min2_int max_two min_two max_three min_three max_four min_four   -- for this text's walks alone
set_option linter.unusedVariables false
set_option linter.unusedSimpArgs false

/-! ### amalgamref02_run: function 21 -/
def amalgamref02_run.l0 : Nat → ByteArray → Int → Bool → Bool → Option (Int)
  | 0, _, _, _, _ => none
  | k + 1, x0, x1, x2, x3 => if x1 < (x0.size : Int) then (if 0 ≤ x1 then (if (bt x0 x1) ≥ 48 then (if (bt x0 x1) ≤ 57 then (amalgamref02_run.l0 k x0 (wrap64 (x1 + 1)) x2 x3) else (if x2 = true then (if (bt x0 x1) ≥ 97 then (if (bt x0 x1) ≤ 122 then (amalgamref02_run.l0 k x0 (wrap64 (x1 + 1)) x2 x3) else (if x3 = true then (if (bt x0 x1) ≥ 65 then (if ((bt x0 x1) ≤ 90) then (amalgamref02_run.l0 k x0 (wrap64 (x1 + 1)) x2 x3) else (some x1)) else (some x1)) else (some x1))) else (if x3 = true then (if (bt x0 x1) ≥ 65 then (if ((bt x0 x1) ≤ 90) then (amalgamref02_run.l0 k x0 (wrap64 (x1 + 1)) x2 x3) else (some x1)) else (some x1)) else (some x1))) else (if x3 = true then (if (bt x0 x1) ≥ 65 then (if ((bt x0 x1) ≤ 90) then (amalgamref02_run.l0 k x0 (wrap64 (x1 + 1)) x2 x3) else (some x1)) else (some x1)) else (some x1)))) else (if x2 = true then (if (bt x0 x1) ≥ 97 then (if (bt x0 x1) ≤ 122 then (amalgamref02_run.l0 k x0 (wrap64 (x1 + 1)) x2 x3) else (if x3 = true then (if (bt x0 x1) ≥ 65 then (if ((bt x0 x1) ≤ 90) then (amalgamref02_run.l0 k x0 (wrap64 (x1 + 1)) x2 x3) else (some x1)) else (some x1)) else (some x1))) else (if x3 = true then (if (bt x0 x1) ≥ 65 then (if ((bt x0 x1) ≤ 90) then (amalgamref02_run.l0 k x0 (wrap64 (x1 + 1)) x2 x3) else (some x1)) else (some x1)) else (some x1))) else (if x3 = true then (if (bt x0 x1) ≥ 65 then (if ((bt x0 x1) ≤ 90) then (amalgamref02_run.l0 k x0 (wrap64 (x1 + 1)) x2 x3) else (some x1)) else (some x1)) else (some x1)))) else (none)) else (some x1)
def amalgamref02_run.f (k : Nat) (a0 : ByteArray) (a1 : Int) (a2 : Bool) (a3 : Bool) : Option (Int) := amalgamref02_run.l0 k a0 a1 a2 a3
theorem amalgamref02_run.mono_l : ∀ k, (∀ y0 y1 y2 y3, LeO (amalgamref02_run.l0 k y0 y1 y2 y3) (amalgamref02_run.l0 (k + 1) y0 y1 y2 y3))
  | 0 => fun _ _ _ _ r h => by simp [amalgamref02_run.l0] at h
  | k + 1 => by
    have ih0 := amalgamref02_run.mono_l k
    · intro y0 y1 y2 y3
      unfold amalgamref02_run.l0
      repeat' first
      | (with_reducible exact ih0 _ _ _ _)
      | (with_reducible exact LeO.refl _)
      | (with_reducible exact LeO.none _)
      | (with_reducible refine LeO.ite ?_ ?_)
      | (with_reducible refine LeO.bind ?_ (fun _ => ?_))
      | exact ih0 _ _ _ _
      | exact LeO.none _
      | refine LeO.ite ?_ ?_
      | refine LeO.bind ?_ (fun _ => ?_)
theorem amalgamref02_run.mono : ∀ a0 a1 a2 a3 k, LeO (amalgamref02_run.f k a0 a1 a2 a3) (amalgamref02_run.f (k + 1) a0 a1 a2 a3) := by
  intro a0 a1 a2 a3 k
  have ih0 := amalgamref02_run.mono_l k
  unfold amalgamref02_run.f
  repeat' first
      | (with_reducible exact ih0 _ _ _ _)
      | (with_reducible exact LeO.refl _)
      | (with_reducible exact LeO.none _)
      | (with_reducible refine LeO.ite ?_ ?_)
      | (with_reducible refine LeO.bind ?_ (fun _ => ?_))
      | exact ih0 _ _ _ _
      | exact LeO.none _
      | refine LeO.ite ?_ ?_
      | refine LeO.bind ?_ (fun _ => ?_)
set_option maxHeartbeats 4000000 in
set_option maxRecDepth 100000 in
theorem amalgamref02_run.calls (k : Nat) (a0 : ByteArray) (a1 : Int) (a2 : Bool) (a3 : Bool) (r : Int) (w : World) (h : amalgamref02_run.f k a0 a1 a2 a3 = some r) :
    Calls Try.prog 21 #[.string a0, .int .i64 a1, .bool a2, .bool a3] w fun e w' => e = .returned (.int .i64 r) ∧ Drawn0 w w' := by
  have H : (amalgamref02_run.l0 k a0 a1 a2 a3) = some r := h
  clear h
  have H' := Aside0.mk H
  clear H
  go_enter Try.func21, Try.ntmps21
  go_wp2
  go_loopg [1] k (fun kq v1 w' => ∃ (x1_1 : Int), v1 = .int .i64 x1_1 ∧ Aside0 (amalgamref02_run.l0 kq a0 x1_1 a2 a3 = some r) ∧ Aside0 (kq ≤ k) ∧ Drawn0 w w')
  case atStart => exact ⟨(a1), (by first | rfl | (simp; done) | (simp [*]; done)), H', ⟨Nat.le_refl _⟩, by repeat (first | exact Drawn0.refl _ | apply Drawn0.step)⟩
  case round =>
    clear H'
    try clear c2
    try clear p2
    obtain ⟨x1_1, rfl, HA, HK1, ⟨m1, rfl⟩⟩ := hrel
    cases gk with
    | zero => exact absurd HA.out (by simp [amalgamref02_run.l0])
    | succ k1 =>
      have H := HA.out
      clear HA
      simp only [amalgamref02_run.l0] at H
      by_cases c5 : x1_1 < (a0.size : Int)
      · rw [if_pos c5] at H
        have c5b0 : decide (x1_1 < (a0.size : Int)) = true := decide_eq_true c5
        clear c5
        by_cases c6 : 0 ≤ x1_1
        · rw [if_pos c6] at H
          have c6b0 : decide (0 ≤ x1_1) = true := decide_eq_true c6
          clear c6
          by_cases c8 : (bt a0 x1_1) ≥ 48
          · rw [if_pos c8] at H
            have c8b0 : decide (48 ≤ (bt a0 x1_1)) = true := decide_eq_true c8
            clear c8
            by_cases c9 : (bt a0 x1_1) ≤ 57
            · rw [if_pos c9] at H
              have c9b0 : decide ((bt a0 x1_1) ≤ 57) = true := decide_eq_true c9
              clear c9
              have H' := Aside0.mk H
              clear H
              have p7 : 0 ≤ (x1_1 : Int) := of_decide_eq_true (by first | (with_reducible assumption) | assumption)
              have q7 : x1_1 < (a0.size : Int) := of_decide_eq_true (by first | (with_reducible assumption) | assumption)
              have hx7 := bt_at a0 x1_1
              replace p7 := eq_true p7
              replace q7 := eq_true q7
              go_wp2
              go_roundg k1
              case measure => have := HK1.out; omega
              case rel => exact ⟨(wrap64 (x1_1 + 1)), (by first | rfl | (simp; done) | (simp [*]; done)), H', ⟨by have := HK1.out; omega⟩, by repeat (first | exact Drawn0.refl _ | apply Drawn0.step)⟩
            · rw [if_neg c9] at H
              have c9b0 : decide ((bt a0 x1_1) ≤ 57) = false := decide_eq_false c9
              clear c9
              by_cases c10 : a2 = true
              · subst c10
                have H1 : (if (bt a0 x1_1) ≥ 97 then (if (bt a0 x1_1) ≤ 122 then (amalgamref02_run.l0 k1 a0 (wrap64 (x1_1 + 1)) true a3) else (if a3 = true then (if (bt a0 x1_1) ≥ 65 then (if ((bt a0 x1_1) ≤ 90) then (amalgamref02_run.l0 k1 a0 (wrap64 (x1_1 + 1)) true a3) else (some x1_1)) else (some x1_1)) else (some x1_1))) else (if a3 = true then (if (bt a0 x1_1) ≥ 65 then (if ((bt a0 x1_1) ≤ 90) then (amalgamref02_run.l0 k1 a0 (wrap64 (x1_1 + 1)) true a3) else (some x1_1)) else (some x1_1)) else (some x1_1))) = some r := by rw [if_pos rfl] at H; exact H
                clear H
                have H := H1
                clear H1
                by_cases c11 : (bt a0 x1_1) ≥ 97
                · rw [if_pos c11] at H
                  have c11b0 : decide (97 ≤ (bt a0 x1_1)) = true := decide_eq_true c11
                  clear c11
                  by_cases c12 : (bt a0 x1_1) ≤ 122
                  · rw [if_pos c12] at H
                    have c12b0 : decide ((bt a0 x1_1) ≤ 122) = true := decide_eq_true c12
                    clear c12
                    have H' := Aside0.mk H
                    clear H
                    have p7 : 0 ≤ (x1_1 : Int) := of_decide_eq_true (by first | (with_reducible assumption) | assumption)
                    have q7 : x1_1 < (a0.size : Int) := of_decide_eq_true (by first | (with_reducible assumption) | assumption)
                    have hx7 := bt_at a0 x1_1
                    replace p7 := eq_true p7
                    replace q7 := eq_true q7
                    go_wp2
                    go_roundg k1
                    case measure => have := HK1.out; omega
                    case rel => exact ⟨(wrap64 (x1_1 + 1)), (by first | rfl | (simp; done) | (simp [*]; done)), H', ⟨by have := HK1.out; omega⟩, by repeat (first | exact Drawn0.refl _ | apply Drawn0.step)⟩
                  · rw [if_neg c12] at H
                    have c12b0 : decide ((bt a0 x1_1) ≤ 122) = false := decide_eq_false c12
                    clear c12
                    by_cases c13 : a3 = true
                    · subst c13
                      have H1 : (if (bt a0 x1_1) ≥ 65 then (if ((bt a0 x1_1) ≤ 90) then (amalgamref02_run.l0 k1 a0 (wrap64 (x1_1 + 1)) true true) else (some x1_1)) else (some x1_1)) = some r := by rw [if_pos rfl] at H; exact H
                      clear H
                      have H := H1
                      clear H1
                      by_cases c14 : (bt a0 x1_1) ≥ 65
                      · rw [if_pos c14] at H
                        have c14b0 : decide (65 ≤ (bt a0 x1_1)) = true := decide_eq_true c14
                        clear c14
                        by_cases c15 : ((bt a0 x1_1) ≤ 90)
                        · rw [if_pos c15] at H
                          have c15b0 : decide ((bt a0 x1_1) ≤ 90) = true := decide_eq_true c15
                          clear c15
                          have H' := Aside0.mk H
                          clear H
                          have p7 : 0 ≤ (x1_1 : Int) := of_decide_eq_true (by first | (with_reducible assumption) | assumption)
                          have q7 : x1_1 < (a0.size : Int) := of_decide_eq_true (by first | (with_reducible assumption) | assumption)
                          have hx7 := bt_at a0 x1_1
                          replace p7 := eq_true p7
                          replace q7 := eq_true q7
                          go_wp2
                          go_roundg k1
                          case measure => have := HK1.out; omega
                          case rel => exact ⟨(wrap64 (x1_1 + 1)), (by first | rfl | (simp; done) | (simp [*]; done)), H', ⟨by have := HK1.out; omega⟩, by repeat (first | exact Drawn0.refl _ | apply Drawn0.step)⟩
                        · rw [if_neg c15] at H
                          have c15b0 : decide ((bt a0 x1_1) ≤ 90) = false := decide_eq_false c15
                          clear c15
                          obtain rfl := Option.some.inj H
                          have p7 : 0 ≤ (x1_1 : Int) := of_decide_eq_true (by first | (with_reducible assumption) | assumption)
                          have q7 : x1_1 < (a0.size : Int) := of_decide_eq_true (by first | (with_reducible assumption) | assumption)
                          have hx7 := bt_at a0 x1_1
                          replace p7 := eq_true p7
                          replace q7 := eq_true q7
                          go_wp2
                          go_ret
                          exact ⟨by first | rfl | (simp; done) | (simp [*]; done), by repeat (first | exact Drawn0.refl _ | apply Drawn0.step)⟩
                      · rw [if_neg c14] at H
                        have c14b0 : decide (65 ≤ (bt a0 x1_1)) = false := decide_eq_false c14
                        clear c14
                        obtain rfl := Option.some.inj H
                        have p7 : 0 ≤ (x1_1 : Int) := of_decide_eq_true (by first | (with_reducible assumption) | assumption)
                        have q7 : x1_1 < (a0.size : Int) := of_decide_eq_true (by first | (with_reducible assumption) | assumption)
                        have hx7 := bt_at a0 x1_1
                        replace p7 := eq_true p7
                        replace q7 := eq_true q7
                        go_wp2
                        go_ret
                        exact ⟨by first | rfl | (simp; done) | (simp [*]; done), by repeat (first | exact Drawn0.refl _ | apply Drawn0.step)⟩
                    · replace c13 := Bool.eq_false_iff.mpr c13
                      subst c13
                      have H1 : (some x1_1) = some r := by rw [if_neg (show ¬ (false = true) by decide)] at H; exact H
                      clear H
                      have H := H1
                      clear H1
                      obtain rfl := Option.some.inj H
                      have p7 : 0 ≤ (x1_1 : Int) := of_decide_eq_true (by first | (with_reducible assumption) | assumption)
                      have q7 : x1_1 < (a0.size : Int) := of_decide_eq_true (by first | (with_reducible assumption) | assumption)
                      have hx7 := bt_at a0 x1_1
                      replace p7 := eq_true p7
                      replace q7 := eq_true q7
                      go_wp2
                      go_ret
                      exact ⟨by first | rfl | (simp; done) | (simp [*]; done), by repeat (first | exact Drawn0.refl _ | apply Drawn0.step)⟩
                · rw [if_neg c11] at H
                  have c11b0 : decide (97 ≤ (bt a0 x1_1)) = false := decide_eq_false c11
                  clear c11
                  by_cases c16 : a3 = true
                  · subst c16
                    have H1 : (if (bt a0 x1_1) ≥ 65 then (if ((bt a0 x1_1) ≤ 90) then (amalgamref02_run.l0 k1 a0 (wrap64 (x1_1 + 1)) true true) else (some x1_1)) else (some x1_1)) = some r := by rw [if_pos rfl] at H; exact H
                    clear H
                    have H := H1
                    clear H1
                    by_cases c17 : (bt a0 x1_1) ≥ 65
                    · rw [if_pos c17] at H
                      have c17b0 : decide (65 ≤ (bt a0 x1_1)) = true := decide_eq_true c17
                      clear c17
                      by_cases c18 : ((bt a0 x1_1) ≤ 90)
                      · rw [if_pos c18] at H
                        have c18b0 : decide ((bt a0 x1_1) ≤ 90) = true := decide_eq_true c18
                        clear c18
                        have H' := Aside0.mk H
                        clear H
                        have p7 : 0 ≤ (x1_1 : Int) := of_decide_eq_true (by first | (with_reducible assumption) | assumption)
                        have q7 : x1_1 < (a0.size : Int) := of_decide_eq_true (by first | (with_reducible assumption) | assumption)
                        have hx7 := bt_at a0 x1_1
                        replace p7 := eq_true p7
                        replace q7 := eq_true q7
                        go_wp2
                        go_roundg k1
                        case measure => have := HK1.out; omega
                        case rel => exact ⟨(wrap64 (x1_1 + 1)), (by first | rfl | (simp; done) | (simp [*]; done)), H', ⟨by have := HK1.out; omega⟩, by repeat (first | exact Drawn0.refl _ | apply Drawn0.step)⟩
                      · rw [if_neg c18] at H
                        have c18b0 : decide ((bt a0 x1_1) ≤ 90) = false := decide_eq_false c18
                        clear c18
                        obtain rfl := Option.some.inj H
                        have p7 : 0 ≤ (x1_1 : Int) := of_decide_eq_true (by first | (with_reducible assumption) | assumption)
                        have q7 : x1_1 < (a0.size : Int) := of_decide_eq_true (by first | (with_reducible assumption) | assumption)
                        have hx7 := bt_at a0 x1_1
                        replace p7 := eq_true p7
                        replace q7 := eq_true q7
                        go_wp2
                        go_ret
                        exact ⟨by first | rfl | (simp; done) | (simp [*]; done), by repeat (first | exact Drawn0.refl _ | apply Drawn0.step)⟩
                    · rw [if_neg c17] at H
                      have c17b0 : decide (65 ≤ (bt a0 x1_1)) = false := decide_eq_false c17
                      clear c17
                      obtain rfl := Option.some.inj H
                      have p7 : 0 ≤ (x1_1 : Int) := of_decide_eq_true (by first | (with_reducible assumption) | assumption)
                      have q7 : x1_1 < (a0.size : Int) := of_decide_eq_true (by first | (with_reducible assumption) | assumption)
                      have hx7 := bt_at a0 x1_1
                      replace p7 := eq_true p7
                      replace q7 := eq_true q7
                      go_wp2
                      go_ret
                      exact ⟨by first | rfl | (simp; done) | (simp [*]; done), by repeat (first | exact Drawn0.refl _ | apply Drawn0.step)⟩
                  · replace c16 := Bool.eq_false_iff.mpr c16
                    subst c16
                    have H1 : (some x1_1) = some r := by rw [if_neg (show ¬ (false = true) by decide)] at H; exact H
                    clear H
                    have H := H1
                    clear H1
                    obtain rfl := Option.some.inj H
                    have p7 : 0 ≤ (x1_1 : Int) := of_decide_eq_true (by first | (with_reducible assumption) | assumption)
                    have q7 : x1_1 < (a0.size : Int) := of_decide_eq_true (by first | (with_reducible assumption) | assumption)
                    have hx7 := bt_at a0 x1_1
                    replace p7 := eq_true p7
                    replace q7 := eq_true q7
                    go_wp2
                    go_ret
                    exact ⟨by first | rfl | (simp; done) | (simp [*]; done), by repeat (first | exact Drawn0.refl _ | apply Drawn0.step)⟩
              · replace c10 := Bool.eq_false_iff.mpr c10
                subst c10
                have H1 : (if a3 = true then (if (bt a0 x1_1) ≥ 65 then (if ((bt a0 x1_1) ≤ 90) then (amalgamref02_run.l0 k1 a0 (wrap64 (x1_1 + 1)) false a3) else (some x1_1)) else (some x1_1)) else (some x1_1)) = some r := by rw [if_neg (show ¬ (false = true) by decide)] at H; exact H
                clear H
                have H := H1
                clear H1
                by_cases c19 : a3 = true
                · subst c19
                  have H1 : (if (bt a0 x1_1) ≥ 65 then (if ((bt a0 x1_1) ≤ 90) then (amalgamref02_run.l0 k1 a0 (wrap64 (x1_1 + 1)) false true) else (some x1_1)) else (some x1_1)) = some r := by rw [if_pos rfl] at H; exact H
                  clear H
                  have H := H1
                  clear H1
                  by_cases c20 : (bt a0 x1_1) ≥ 65
                  · rw [if_pos c20] at H
                    have c20b0 : decide (65 ≤ (bt a0 x1_1)) = true := decide_eq_true c20
                    clear c20
                    by_cases c21 : ((bt a0 x1_1) ≤ 90)
                    · rw [if_pos c21] at H
                      have c21b0 : decide ((bt a0 x1_1) ≤ 90) = true := decide_eq_true c21
                      clear c21
                      have H' := Aside0.mk H
                      clear H
                      have p7 : 0 ≤ (x1_1 : Int) := of_decide_eq_true (by first | (with_reducible assumption) | assumption)
                      have q7 : x1_1 < (a0.size : Int) := of_decide_eq_true (by first | (with_reducible assumption) | assumption)
                      have hx7 := bt_at a0 x1_1
                      replace p7 := eq_true p7
                      replace q7 := eq_true q7
                      go_wp2
                      go_roundg k1
                      case measure => have := HK1.out; omega
                      case rel => exact ⟨(wrap64 (x1_1 + 1)), (by first | rfl | (simp; done) | (simp [*]; done)), H', ⟨by have := HK1.out; omega⟩, by repeat (first | exact Drawn0.refl _ | apply Drawn0.step)⟩
                    · rw [if_neg c21] at H
                      have c21b0 : decide ((bt a0 x1_1) ≤ 90) = false := decide_eq_false c21
                      clear c21
                      obtain rfl := Option.some.inj H
                      have p7 : 0 ≤ (x1_1 : Int) := of_decide_eq_true (by first | (with_reducible assumption) | assumption)
                      have q7 : x1_1 < (a0.size : Int) := of_decide_eq_true (by first | (with_reducible assumption) | assumption)
                      have hx7 := bt_at a0 x1_1
                      replace p7 := eq_true p7
                      replace q7 := eq_true q7
                      go_wp2
                      go_ret
                      exact ⟨by first | rfl | (simp; done) | (simp [*]; done), by repeat (first | exact Drawn0.refl _ | apply Drawn0.step)⟩
                  · rw [if_neg c20] at H
                    have c20b0 : decide (65 ≤ (bt a0 x1_1)) = false := decide_eq_false c20
                    clear c20
                    obtain rfl := Option.some.inj H
                    have p7 : 0 ≤ (x1_1 : Int) := of_decide_eq_true (by first | (with_reducible assumption) | assumption)
                    have q7 : x1_1 < (a0.size : Int) := of_decide_eq_true (by first | (with_reducible assumption) | assumption)
                    have hx7 := bt_at a0 x1_1
                    replace p7 := eq_true p7
                    replace q7 := eq_true q7
                    go_wp2
                    go_ret
                    exact ⟨by first | rfl | (simp; done) | (simp [*]; done), by repeat (first | exact Drawn0.refl _ | apply Drawn0.step)⟩
                · replace c19 := Bool.eq_false_iff.mpr c19
                  subst c19
                  have H1 : (some x1_1) = some r := by rw [if_neg (show ¬ (false = true) by decide)] at H; exact H
                  clear H
                  have H := H1
                  clear H1
                  obtain rfl := Option.some.inj H
                  have p7 : 0 ≤ (x1_1 : Int) := of_decide_eq_true (by first | (with_reducible assumption) | assumption)
                  have q7 : x1_1 < (a0.size : Int) := of_decide_eq_true (by first | (with_reducible assumption) | assumption)
                  have hx7 := bt_at a0 x1_1
                  replace p7 := eq_true p7
                  replace q7 := eq_true q7
                  go_wp2
                  go_ret
                  exact ⟨by first | rfl | (simp; done) | (simp [*]; done), by repeat (first | exact Drawn0.refl _ | apply Drawn0.step)⟩
          · rw [if_neg c8] at H
            have c8b0 : decide (48 ≤ (bt a0 x1_1)) = false := decide_eq_false c8
            clear c8
            by_cases c22 : a2 = true
            · subst c22
              have H1 : (if (bt a0 x1_1) ≥ 97 then (if (bt a0 x1_1) ≤ 122 then (amalgamref02_run.l0 k1 a0 (wrap64 (x1_1 + 1)) true a3) else (if a3 = true then (if (bt a0 x1_1) ≥ 65 then (if ((bt a0 x1_1) ≤ 90) then (amalgamref02_run.l0 k1 a0 (wrap64 (x1_1 + 1)) true a3) else (some x1_1)) else (some x1_1)) else (some x1_1))) else (if a3 = true then (if (bt a0 x1_1) ≥ 65 then (if ((bt a0 x1_1) ≤ 90) then (amalgamref02_run.l0 k1 a0 (wrap64 (x1_1 + 1)) true a3) else (some x1_1)) else (some x1_1)) else (some x1_1))) = some r := by rw [if_pos rfl] at H; exact H
              clear H
              have H := H1
              clear H1
              by_cases c23 : (bt a0 x1_1) ≥ 97
              · rw [if_pos c23] at H
                have c23b0 : decide (97 ≤ (bt a0 x1_1)) = true := decide_eq_true c23
                clear c23
                by_cases c24 : (bt a0 x1_1) ≤ 122
                · rw [if_pos c24] at H
                  have c24b0 : decide ((bt a0 x1_1) ≤ 122) = true := decide_eq_true c24
                  clear c24
                  have H' := Aside0.mk H
                  clear H
                  have p7 : 0 ≤ (x1_1 : Int) := of_decide_eq_true (by first | (with_reducible assumption) | assumption)
                  have q7 : x1_1 < (a0.size : Int) := of_decide_eq_true (by first | (with_reducible assumption) | assumption)
                  have hx7 := bt_at a0 x1_1
                  replace p7 := eq_true p7
                  replace q7 := eq_true q7
                  go_wp2
                  go_roundg k1
                  case measure => have := HK1.out; omega
                  case rel => exact ⟨(wrap64 (x1_1 + 1)), (by first | rfl | (simp; done) | (simp [*]; done)), H', ⟨by have := HK1.out; omega⟩, by repeat (first | exact Drawn0.refl _ | apply Drawn0.step)⟩
                · rw [if_neg c24] at H
                  have c24b0 : decide ((bt a0 x1_1) ≤ 122) = false := decide_eq_false c24
                  clear c24
                  by_cases c25 : a3 = true
                  · subst c25
                    have H1 : (if (bt a0 x1_1) ≥ 65 then (if ((bt a0 x1_1) ≤ 90) then (amalgamref02_run.l0 k1 a0 (wrap64 (x1_1 + 1)) true true) else (some x1_1)) else (some x1_1)) = some r := by rw [if_pos rfl] at H; exact H
                    clear H
                    have H := H1
                    clear H1
                    by_cases c26 : (bt a0 x1_1) ≥ 65
                    · rw [if_pos c26] at H
                      have c26b0 : decide (65 ≤ (bt a0 x1_1)) = true := decide_eq_true c26
                      clear c26
                      by_cases c27 : ((bt a0 x1_1) ≤ 90)
                      · rw [if_pos c27] at H
                        have c27b0 : decide ((bt a0 x1_1) ≤ 90) = true := decide_eq_true c27
                        clear c27
                        have H' := Aside0.mk H
                        clear H
                        have p7 : 0 ≤ (x1_1 : Int) := of_decide_eq_true (by first | (with_reducible assumption) | assumption)
                        have q7 : x1_1 < (a0.size : Int) := of_decide_eq_true (by first | (with_reducible assumption) | assumption)
                        have hx7 := bt_at a0 x1_1
                        replace p7 := eq_true p7
                        replace q7 := eq_true q7
                        go_wp2
                        go_roundg k1
                        case measure => have := HK1.out; omega
                        case rel => exact ⟨(wrap64 (x1_1 + 1)), (by first | rfl | (simp; done) | (simp [*]; done)), H', ⟨by have := HK1.out; omega⟩, by repeat (first | exact Drawn0.refl _ | apply Drawn0.step)⟩
                      · rw [if_neg c27] at H
                        have c27b0 : decide ((bt a0 x1_1) ≤ 90) = false := decide_eq_false c27
                        clear c27
                        obtain rfl := Option.some.inj H
                        have p7 : 0 ≤ (x1_1 : Int) := of_decide_eq_true (by first | (with_reducible assumption) | assumption)
                        have q7 : x1_1 < (a0.size : Int) := of_decide_eq_true (by first | (with_reducible assumption) | assumption)
                        have hx7 := bt_at a0 x1_1
                        replace p7 := eq_true p7
                        replace q7 := eq_true q7
                        go_wp2
                        go_ret
                        exact ⟨by first | rfl | (simp; done) | (simp [*]; done), by repeat (first | exact Drawn0.refl _ | apply Drawn0.step)⟩
                    · rw [if_neg c26] at H
                      have c26b0 : decide (65 ≤ (bt a0 x1_1)) = false := decide_eq_false c26
                      clear c26
                      obtain rfl := Option.some.inj H
                      have p7 : 0 ≤ (x1_1 : Int) := of_decide_eq_true (by first | (with_reducible assumption) | assumption)
                      have q7 : x1_1 < (a0.size : Int) := of_decide_eq_true (by first | (with_reducible assumption) | assumption)
                      have hx7 := bt_at a0 x1_1
                      replace p7 := eq_true p7
                      replace q7 := eq_true q7
                      go_wp2
                      go_ret
                      exact ⟨by first | rfl | (simp; done) | (simp [*]; done), by repeat (first | exact Drawn0.refl _ | apply Drawn0.step)⟩
                  · replace c25 := Bool.eq_false_iff.mpr c25
                    subst c25
                    have H1 : (some x1_1) = some r := by rw [if_neg (show ¬ (false = true) by decide)] at H; exact H
                    clear H
                    have H := H1
                    clear H1
                    obtain rfl := Option.some.inj H
                    have p7 : 0 ≤ (x1_1 : Int) := of_decide_eq_true (by first | (with_reducible assumption) | assumption)
                    have q7 : x1_1 < (a0.size : Int) := of_decide_eq_true (by first | (with_reducible assumption) | assumption)
                    have hx7 := bt_at a0 x1_1
                    replace p7 := eq_true p7
                    replace q7 := eq_true q7
                    go_wp2
                    go_ret
                    exact ⟨by first | rfl | (simp; done) | (simp [*]; done), by repeat (first | exact Drawn0.refl _ | apply Drawn0.step)⟩
              · rw [if_neg c23] at H
                have c23b0 : decide (97 ≤ (bt a0 x1_1)) = false := decide_eq_false c23
                clear c23
                by_cases c28 : a3 = true
                · subst c28
                  have H1 : (if (bt a0 x1_1) ≥ 65 then (if ((bt a0 x1_1) ≤ 90) then (amalgamref02_run.l0 k1 a0 (wrap64 (x1_1 + 1)) true true) else (some x1_1)) else (some x1_1)) = some r := by rw [if_pos rfl] at H; exact H
                  clear H
                  have H := H1
                  clear H1
                  by_cases c29 : (bt a0 x1_1) ≥ 65
                  · rw [if_pos c29] at H
                    have c29b0 : decide (65 ≤ (bt a0 x1_1)) = true := decide_eq_true c29
                    clear c29
                    by_cases c30 : ((bt a0 x1_1) ≤ 90)
                    · rw [if_pos c30] at H
                      have c30b0 : decide ((bt a0 x1_1) ≤ 90) = true := decide_eq_true c30
                      clear c30
                      have H' := Aside0.mk H
                      clear H
                      have p7 : 0 ≤ (x1_1 : Int) := of_decide_eq_true (by first | (with_reducible assumption) | assumption)
                      have q7 : x1_1 < (a0.size : Int) := of_decide_eq_true (by first | (with_reducible assumption) | assumption)
                      have hx7 := bt_at a0 x1_1
                      replace p7 := eq_true p7
                      replace q7 := eq_true q7
                      go_wp2
                      go_roundg k1
                      case measure => have := HK1.out; omega
                      case rel => exact ⟨(wrap64 (x1_1 + 1)), (by first | rfl | (simp; done) | (simp [*]; done)), H', ⟨by have := HK1.out; omega⟩, by repeat (first | exact Drawn0.refl _ | apply Drawn0.step)⟩
                    · rw [if_neg c30] at H
                      have c30b0 : decide ((bt a0 x1_1) ≤ 90) = false := decide_eq_false c30
                      clear c30
                      obtain rfl := Option.some.inj H
                      have p7 : 0 ≤ (x1_1 : Int) := of_decide_eq_true (by first | (with_reducible assumption) | assumption)
                      have q7 : x1_1 < (a0.size : Int) := of_decide_eq_true (by first | (with_reducible assumption) | assumption)
                      have hx7 := bt_at a0 x1_1
                      replace p7 := eq_true p7
                      replace q7 := eq_true q7
                      go_wp2
                      go_ret
                      exact ⟨by first | rfl | (simp; done) | (simp [*]; done), by repeat (first | exact Drawn0.refl _ | apply Drawn0.step)⟩
                  · rw [if_neg c29] at H
                    have c29b0 : decide (65 ≤ (bt a0 x1_1)) = false := decide_eq_false c29
                    clear c29
                    obtain rfl := Option.some.inj H
                    have p7 : 0 ≤ (x1_1 : Int) := of_decide_eq_true (by first | (with_reducible assumption) | assumption)
                    have q7 : x1_1 < (a0.size : Int) := of_decide_eq_true (by first | (with_reducible assumption) | assumption)
                    have hx7 := bt_at a0 x1_1
                    replace p7 := eq_true p7
                    replace q7 := eq_true q7
                    go_wp2
                    go_ret
                    exact ⟨by first | rfl | (simp; done) | (simp [*]; done), by repeat (first | exact Drawn0.refl _ | apply Drawn0.step)⟩
                · replace c28 := Bool.eq_false_iff.mpr c28
                  subst c28
                  have H1 : (some x1_1) = some r := by rw [if_neg (show ¬ (false = true) by decide)] at H; exact H
                  clear H
                  have H := H1
                  clear H1
                  obtain rfl := Option.some.inj H
                  have p7 : 0 ≤ (x1_1 : Int) := of_decide_eq_true (by first | (with_reducible assumption) | assumption)
                  have q7 : x1_1 < (a0.size : Int) := of_decide_eq_true (by first | (with_reducible assumption) | assumption)
                  have hx7 := bt_at a0 x1_1
                  replace p7 := eq_true p7
                  replace q7 := eq_true q7
                  go_wp2
                  go_ret
                  exact ⟨by first | rfl | (simp; done) | (simp [*]; done), by repeat (first | exact Drawn0.refl _ | apply Drawn0.step)⟩
            · replace c22 := Bool.eq_false_iff.mpr c22
              subst c22
              have H1 : (if a3 = true then (if (bt a0 x1_1) ≥ 65 then (if ((bt a0 x1_1) ≤ 90) then (amalgamref02_run.l0 k1 a0 (wrap64 (x1_1 + 1)) false a3) else (some x1_1)) else (some x1_1)) else (some x1_1)) = some r := by rw [if_neg (show ¬ (false = true) by decide)] at H; exact H
              clear H
              have H := H1
              clear H1
              by_cases c31 : a3 = true
              · subst c31
                have H1 : (if (bt a0 x1_1) ≥ 65 then (if ((bt a0 x1_1) ≤ 90) then (amalgamref02_run.l0 k1 a0 (wrap64 (x1_1 + 1)) false true) else (some x1_1)) else (some x1_1)) = some r := by rw [if_pos rfl] at H; exact H
                clear H
                have H := H1
                clear H1
                by_cases c32 : (bt a0 x1_1) ≥ 65
                · rw [if_pos c32] at H
                  have c32b0 : decide (65 ≤ (bt a0 x1_1)) = true := decide_eq_true c32
                  clear c32
                  by_cases c33 : ((bt a0 x1_1) ≤ 90)
                  · rw [if_pos c33] at H
                    have c33b0 : decide ((bt a0 x1_1) ≤ 90) = true := decide_eq_true c33
                    clear c33
                    have H' := Aside0.mk H
                    clear H
                    have p7 : 0 ≤ (x1_1 : Int) := of_decide_eq_true (by first | (with_reducible assumption) | assumption)
                    have q7 : x1_1 < (a0.size : Int) := of_decide_eq_true (by first | (with_reducible assumption) | assumption)
                    have hx7 := bt_at a0 x1_1
                    replace p7 := eq_true p7
                    replace q7 := eq_true q7
                    go_wp2
                    go_roundg k1
                    case measure => have := HK1.out; omega
                    case rel => exact ⟨(wrap64 (x1_1 + 1)), (by first | rfl | (simp; done) | (simp [*]; done)), H', ⟨by have := HK1.out; omega⟩, by repeat (first | exact Drawn0.refl _ | apply Drawn0.step)⟩
                  · rw [if_neg c33] at H
                    have c33b0 : decide ((bt a0 x1_1) ≤ 90) = false := decide_eq_false c33
                    clear c33
                    obtain rfl := Option.some.inj H
                    have p7 : 0 ≤ (x1_1 : Int) := of_decide_eq_true (by first | (with_reducible assumption) | assumption)
                    have q7 : x1_1 < (a0.size : Int) := of_decide_eq_true (by first | (with_reducible assumption) | assumption)
                    have hx7 := bt_at a0 x1_1
                    replace p7 := eq_true p7
                    replace q7 := eq_true q7
                    go_wp2
                    go_ret
                    exact ⟨by first | rfl | (simp; done) | (simp [*]; done), by repeat (first | exact Drawn0.refl _ | apply Drawn0.step)⟩
                · rw [if_neg c32] at H
                  have c32b0 : decide (65 ≤ (bt a0 x1_1)) = false := decide_eq_false c32
                  clear c32
                  obtain rfl := Option.some.inj H
                  have p7 : 0 ≤ (x1_1 : Int) := of_decide_eq_true (by first | (with_reducible assumption) | assumption)
                  have q7 : x1_1 < (a0.size : Int) := of_decide_eq_true (by first | (with_reducible assumption) | assumption)
                  have hx7 := bt_at a0 x1_1
                  replace p7 := eq_true p7
                  replace q7 := eq_true q7
                  go_wp2
                  go_ret
                  exact ⟨by first | rfl | (simp; done) | (simp [*]; done), by repeat (first | exact Drawn0.refl _ | apply Drawn0.step)⟩
              · replace c31 := Bool.eq_false_iff.mpr c31
                subst c31
                have H1 : (some x1_1) = some r := by rw [if_neg (show ¬ (false = true) by decide)] at H; exact H
                clear H
                have H := H1
                clear H1
                obtain rfl := Option.some.inj H
                have p7 : 0 ≤ (x1_1 : Int) := of_decide_eq_true (by first | (with_reducible assumption) | assumption)
                have q7 : x1_1 < (a0.size : Int) := of_decide_eq_true (by first | (with_reducible assumption) | assumption)
                have hx7 := bt_at a0 x1_1
                replace p7 := eq_true p7
                replace q7 := eq_true q7
                go_wp2
                go_ret
                exact ⟨by first | rfl | (simp; done) | (simp [*]; done), by repeat (first | exact Drawn0.refl _ | apply Drawn0.step)⟩
        · rw [if_neg c6] at H
          exact absurd H (by simp)
      · rw [if_neg c5] at H
        have c5b0 : decide (x1_1 < (a0.size : Int)) = false := decide_eq_false c5
        clear c5
        obtain rfl := Option.some.inj H
        go_wp2
        go_ret
        exact ⟨by first | rfl | (simp; done) | (simp [*]; done), by repeat (first | exact Drawn0.refl _ | apply Drawn0.step)⟩

end Go.Proofs.Ytbfcfmobogmfhaa.PWd
