-- Written by programs of this session (wip/tools), cut to what the claim uses (wip/tools/prune.py).
import Derived.Test.YtpepjodkahdicaaPTbx0
import Derived.Test.YtpepjodkahdicaaPTbx5
import Derived.Test.YtpepjodkahdicaaPTbx8
-- Written by a program of this session (wip/tools/myprint.py): functions, contracts, their proofs. Lean checks it.
namespace Go.Proofs.Ytpepjodkahdicaa.PTb
open Go.RowKit Go.Proofs.YtpepjodkahdicaaW.PrintWords Go.Proofs.YtpepjodkahdicaaW.PrintLast Go.Proofs.YtpepjodkahdicaaW.PrintMore
attribute [local go_sem] max2_int min2_int max_two min_two max_three min_three max_four min_four   -- for this text's walks alone
set_option linter.unusedVariables false
set_option linter.unusedSimpArgs false
mutual
def amalgamref01_Var.j0 : Nat → ByteArray → Bool → Option (Bool)
  | 0, _, _ => none
  | k + 1, x0, x12 => if x12 = true then (some false) else (if 0 < (x0.size : Int) then (if (bt x0 0) = 95 then (if (x0.size : Int) < 2 then (amalgamref01_Var.j1 k x0 true) else (if 1 < (x0.size : Int) then (amalgamref01_Var.j1 k x0 ((bt x0 1) == 48)) else (none))) else ((amalgamref01_up.f (bt x0 0)).bind fun t153 => (if t153 = true then (amalgamref01_Var.l1 k x0 1) else (some false)))) else (none))
def amalgamref01_Var.j1 : Nat → ByteArray → Bool → Option (Bool)
  | 0, _, _ => none
  | k + 1, x0, x23 => if x23 = true then (some false) else (amalgamref01_Var.l0 k x0 1)
def amalgamref01_Var.l0 : Nat → ByteArray → Int → Option (Bool)
  | 0, _, _ => none
  | k + 1, x0, x3 => if x3 < (x0.size : Int) then (if 0 ≤ x3 then ((amalgamref01_digit.f (bt x0 x3)).bind fun t152 => (if t152 = true then (amalgamref01_Var.l0 k x0 (wrap64 (x3 + 1))) else (some false))) else (none)) else (some true)
def amalgamref01_Var.l1 : Nat → ByteArray → Int → Option (Bool)
  | 0, _, _ => none
  | k + 1, x0, x4 => if x4 < (x0.size : Int) then (if 0 ≤ x4 then ((amalgamref01_low.f (bt x0 x4)).bind fun t154 => (if t154 = true then (amalgamref01_Var.l1 k x0 (wrap64 (x4 + 1))) else ((amalgamref01_up.f (bt x0 x4)).bind fun t155 => (if t155 = true then (amalgamref01_Var.l1 k x0 (wrap64 (x4 + 1))) else ((amalgamref01_digit.f (bt x0 x4)).bind fun t156 => (if t156 = true then (amalgamref01_Var.l1 k x0 (wrap64 (x4 + 1))) else (some false))))))) else (none)) else (some true)
end
def amalgamref01_Var.f (k : Nat) (a0 : ByteArray) : Option (Bool) := if (a0.size : Int) < 1 then (amalgamref01_Var.j0 k a0 true) else (amalgamref01_Var.j0 k a0 (decide ((a0.size : Int) > 12)))
set_option maxHeartbeats 8000000 in
set_option maxRecDepth 100000 in
theorem amalgamref01_Var.calls (k : Nat) (a0 : ByteArray) (r : Bool) (w : World) (h : amalgamref01_Var.f k a0 = some r) :
    Calls Try.prog 14 #[.string a0] w fun e w' => e = .returned (.bool r) ∧ Drawn0 w w' := by
  have H : (if (a0.size : Int) < 1 then (amalgamref01_Var.j0 k a0 true) else (amalgamref01_Var.j0 k a0 (decide ((a0.size : Int) > 12)))) = some r := h
  clear h
  have HC2 := Aside0.mk H
  clear H
  go_enter Try.func14, Try.ntmps14
  go_upto_region 1 with (fail)
  go_cut [12] (fun v12 wc => ∃ (kq : Nat) (x12_1 : Bool), v12 = .bool x12_1 ∧ Aside0 (amalgamref01_Var.j0 kq a0 x12_1 = some r) ∧ Aside0 (kq ≤ k) ∧ Drawn0 w wc)
  case first =>
    have H := HC2.out
    clear HC2
    by_cases c3 : (a0.size : Int) < 1
    · rw [if_pos c3] at H
      have c3b0 : decide ((a0.size : Int) < 1) = true := decide_eq_true c3
      have c3b1 : decide (a0.size < 1) = true := decide_eq_true (by omega)
      clear c3
      (first | rw [c3b0] | (simp only [i64_w, i32_w]; rw [c3b0]) | skip)
      have H' := Aside0.mk H
      clear H
      go_wp2
      go_meet
      case rel => exact ⟨_, (true), (by first | rfl | (simp; done) | (simp [*]; done)), H', ⟨by first | omega | exact Nat.le_refl _⟩, by repeat (first | exact Drawn0.refl _ | apply Drawn0.step)⟩
    · rw [if_neg c3] at H
      have c3b0 : decide ((a0.size : Int) < 1) = false := decide_eq_false c3
      have c3b1 : decide (a0.size < 1) = false := decide_eq_false (by omega)
      clear c3
      (first | rw [c3b0] | (simp only [i64_w, i32_w]; rw [c3b0]) | skip)
      have H' := Aside0.mk H
      clear H
      go_wp2
      go_meet
      case rel => exact ⟨_, (decide ((a0.size : Int) > 12)), (by first | rfl | (simp; done) | (simp [*]; done)), H', ⟨by first | omega | exact Nat.le_refl _⟩, by repeat (first | exact Drawn0.refl _ | apply Drawn0.step)⟩
  case rest =>
    clear HC2
    obtain ⟨kq, x12_1, rfl, HA, HJ1, ⟨mc1, rfl⟩⟩ := hcut
    cases kq with
    | zero => exact absurd HA.out (by simp [amalgamref01_Var.j0])
    | succ kj1 =>
      have H := HA.out
      clear HA
      simp only [amalgamref01_Var.j0] at H
      by_cases c4 : x12_1 = true
      · subst c4
        have H1 : (some false) = some r := by rw [if_pos rfl] at H; exact H
        clear H
        have H := H1
        clear H1
        obtain rfl := Option.some.inj H
        go_wp2
        go_ret
        exact ⟨by first | rfl | (simp; done) | (simp [*]; done), by repeat (first | exact Drawn0.refl _ | apply Drawn0.step)⟩
      · replace c4 := Bool.eq_false_iff.mpr c4
        subst c4
        have H1 : (if 0 < (a0.size : Int) then (if (bt a0 0) = 95 then (if (a0.size : Int) < 2 then (amalgamref01_Var.j1 kj1 a0 true) else (if 1 < (a0.size : Int) then (amalgamref01_Var.j1 kj1 a0 ((bt a0 1) == 48)) else (none))) else ((amalgamref01_up.f (bt a0 0)).bind fun t153 => (if t153 = true then (amalgamref01_Var.l1 kj1 a0 1) else (some false)))) else (none)) = some r := by rw [if_neg (show ¬ (false = true) by decide)] at H; exact H
        clear H
        have H := H1
        clear H1
        by_cases c5 : 0 < (a0.size : Int)
        · rw [if_pos c5] at H
          have c5b0 : decide (0 < (a0.size : Int)) = true := decide_eq_true c5
          have c5b1 : decide (0 < a0.size) = true := decide_eq_true (by omega)
          clear c5
          by_cases c7 : (bt a0 0) = 95
          · rw [if_pos c7] at H
            have c7b0 : ((bt a0 0) == 95) = true := beq_iff_eq.mpr c7
            have c7b1 : ((bt a0 0) != 95) = false := bne_eq_false_iff_eq.mpr c7
            clear c7
            have HC8 := Aside0.mk H
            clear H
            have p6 : 0 ≤ (0 : Int) := (by omega)
            have q6 : 0 < a0.size := (by have : (0 : Int) < (a0.size : Int) := of_decide_eq_true (by first | (with_reducible assumption) | assumption); omega)
            have hx6 : ∀ h : 0 < a0.size, ((a0[0]'h).toNat : Int) = bt a0 0 := bt_at a0 0
            clear p6
            have qi6 : (0 < (a0.size : Int)) = True := eq_true (of_decide_eq_true (by first | (with_reducible assumption) | assumption))
            replace q6 := eq_true q6
            go_upto_region 4 with (fail)
            go_cut [23] (fun v23 wc => ∃ (kq : Nat) (x23_7 : Bool), v23 = .bool x23_7 ∧ Aside0 (amalgamref01_Var.j1 kq a0 x23_7 = some r) ∧ Aside0 (kq ≤ kj1) ∧ Drawn0 w wc)
            case first =>
              have H := HC8.out
              clear HC8
              by_cases c9 : (a0.size : Int) < 2
              · rw [if_pos c9] at H
                have c9b0 : decide ((a0.size : Int) < 2) = true := decide_eq_true c9
                have c9b1 : decide (a0.size < 2) = true := decide_eq_true (by omega)
                clear c9
                (first | rw [c9b0] | (simp only [i64_w, i32_w]; rw [c9b0]) | skip)
                have H' := Aside0.mk H
                clear H
                go_wp2
                go_meet
                case rel => exact ⟨_, (true), (by first | rfl | (simp; done) | (simp [*]; done)), H', ⟨by have := HJ1.out; first | omega | exact Nat.le_refl _⟩, by repeat (first | exact Drawn0.refl _ | apply Drawn0.step)⟩
              · rw [if_neg c9] at H
                have c9b0 : decide ((a0.size : Int) < 2) = false := decide_eq_false c9
                have c9b1 : decide (a0.size < 2) = false := decide_eq_false (by omega)
                clear c9
                (first | rw [c9b0] | (simp only [i64_w, i32_w]; rw [c9b0]) | skip)
                by_cases c10 : 1 < (a0.size : Int)
                · rw [if_pos c10] at H
                  have c10b0 : decide (1 < (a0.size : Int)) = true := decide_eq_true c10
                  have c10b1 : decide (1 < a0.size) = true := decide_eq_true (by omega)
                  clear c10
                  have H' := Aside0.mk H
                  clear H
                  have p11 : 0 ≤ (1 : Int) := (by omega)
                  have q11 : 1 < a0.size := (by have : (1 : Int) < (a0.size : Int) := of_decide_eq_true (by first | (with_reducible assumption) | assumption); omega)
                  have hx11 : ∀ h : 1 < a0.size, ((a0[1]'h).toNat : Int) = bt a0 1 := bt_at a0 1
                  clear p11
                  have qi11 : (1 < (a0.size : Int)) = True := eq_true (of_decide_eq_true (by first | (with_reducible assumption) | assumption))
                  replace q11 := eq_true q11
                  go_wp2
                  go_meet
                  case rel => exact ⟨_, (((bt a0 1) == 48)), (by first | rfl | (simp; done) | (simp [*]; done)), H', ⟨by have := HJ1.out; first | omega | exact Nat.le_refl _⟩, by repeat (first | exact Drawn0.refl _ | apply Drawn0.step)⟩
                · rw [if_neg c10] at H
                  exact absurd H (by simp)
            case rest =>
              clear HC8
              obtain ⟨kq, x23_7, rfl, HA, HJ7, ⟨mc7, rfl⟩⟩ := hcut
              cases kq with
              | zero => exact absurd HA.out (by simp [amalgamref01_Var.j1])
              | succ kj7 =>
                have H := HA.out
                clear HA
                simp only [amalgamref01_Var.j1] at H
                by_cases c12 : x23_7 = true
                · subst c12
                  have H1 : (some false) = some r := by rw [if_pos rfl] at H; exact H
                  clear H
                  have H := H1
                  clear H1
                  obtain rfl := Option.some.inj H
                  go_wp2
                  go_ret
                  exact ⟨by first | rfl | (simp; done) | (simp [*]; done), by repeat (first | exact Drawn0.refl _ | apply Drawn0.step)⟩
                · replace c12 := Bool.eq_false_iff.mpr c12
                  subst c12
                  have H1 : (amalgamref01_Var.l0 kj7 a0 1) = some r := by rw [if_neg (show ¬ (false = true) by decide)] at H; exact H
                  clear H
                  have H := H1
                  clear H1
                  have H' := Aside0.mk H
                  clear H
                  go_wp2
                  go_loopg [3] kj7 (fun kq v3 w' => ∃ (x3_3 : Int), v3 = .int .i64 x3_3 ∧ Aside0 (amalgamref01_Var.l0 kq a0 x3_3 = some r) ∧ Aside0 (kq ≤ kj7) ∧ Drawn0 w w')
                  case atStart => exact ⟨(1), (by first | rfl | (simp; done) | (simp [*]; done)), H', ⟨Nat.le_refl _⟩, by repeat (first | exact Drawn0.refl _ | apply Drawn0.step)⟩
                  case round =>
                    clear H'
                    obtain ⟨x3_3, rfl, HA, HK3, ⟨m3, rfl⟩⟩ := hrel
                    cases gk with
                    | zero => exact absurd HA.out (by simp [amalgamref01_Var.l0])
                    | succ k3 =>
                      have H := HA.out
                      clear HA
                      simp only [amalgamref01_Var.l0] at H
                      by_cases c13 : x3_3 < (a0.size : Int)
                      · rw [if_pos c13] at H
                        have c13b0 : decide (x3_3 < (a0.size : Int)) = true := decide_eq_true c13
                        clear c13
                        by_cases c14 : 0 ≤ x3_3
                        · rw [if_pos c14] at H
                          have c14b0 : decide (0 ≤ x3_3) = true := decide_eq_true c14
                          clear c14
                          replace H := Option.bind_eq_some_iff.mp H
                          obtain ⟨t152, A160, H⟩ := H
                          replace H : (if t152 = true then (amalgamref01_Var.l0 k3 a0 (wrap64 (x3_3 + 1))) else (some false)) = some r := H
                          have A16 := Aside0.mk A160
                          clear A160
                          by_cases c17 : t152 = true
                          · subst c17
                            have H1 : (amalgamref01_Var.l0 k3 a0 (wrap64 (x3_3 + 1))) = some r := by rw [if_pos rfl] at H; exact H
                            clear H
                            have H := H1
                            clear H1
                            have H' := Aside0.mk H
                            clear H
                            have p15 : 0 ≤ (x3_3 : Int) := of_decide_eq_true (by first | (with_reducible assumption) | assumption)
                            have q15 : x3_3 < (a0.size : Int) := of_decide_eq_true (by first | (with_reducible assumption) | assumption)
                            have hx15 := bt_at a0 x3_3
                            replace p15 := eq_true p15
                            replace q15 := eq_true q15
                            go_wp2_with (first | ((with_reducible refine gate_callee (f := 30) rfl ?_); refine goesL_ (some 33) rfl rfl Try.func30 (by kernel_rfl) rfl #[.int .u8 (bt a0 x3_3)] rfl (by (try simp only [List.map_toArray, List.map_cons, List.map_nil]); first | done | rfl | (simp only [List.length_drop, List.length_take]; rfl)) ?_; (with_reducible refine (amalgamref01_digit.calls (bt a0 x3_3) true _ A16.out).mono ?_); rintro e w' ⟨rfl, ⟨nd, rfl⟩⟩; refine ⟨_, rfl, ?_⟩))
                            go_roundg k3
                            case measure => have := HJ1.out; have := HJ7.out; have := HK3.out; omega
                            case rel => exact ⟨(wrap64 (x3_3 + 1)), (by first | rfl | (simp; done) | (simp [*]; done)), H', ⟨by have := HJ1.out; have := HJ7.out; have := HK3.out; omega⟩, by repeat (first | exact Drawn0.refl _ | apply Drawn0.step)⟩
                          · replace c17 := Bool.eq_false_iff.mpr c17
                            subst c17
                            have H1 : (some false) = some r := by rw [if_neg (show ¬ (false = true) by decide)] at H; exact H
                            clear H
                            have H := H1
                            clear H1
                            obtain rfl := Option.some.inj H
                            have p15 : 0 ≤ (x3_3 : Int) := of_decide_eq_true (by first | (with_reducible assumption) | assumption)
                            have q15 : x3_3 < (a0.size : Int) := of_decide_eq_true (by first | (with_reducible assumption) | assumption)
                            have hx15 := bt_at a0 x3_3
                            replace p15 := eq_true p15
                            replace q15 := eq_true q15
                            go_wp2_with (first | ((with_reducible refine gate_callee (f := 30) rfl ?_); refine goesL_ (some 33) rfl rfl Try.func30 (by kernel_rfl) rfl #[.int .u8 (bt a0 x3_3)] rfl (by (try simp only [List.map_toArray, List.map_cons, List.map_nil]); first | done | rfl | (simp only [List.length_drop, List.length_take]; rfl)) ?_; (with_reducible refine (amalgamref01_digit.calls (bt a0 x3_3) false _ A16.out).mono ?_); rintro e w' ⟨rfl, ⟨nd, rfl⟩⟩; refine ⟨_, rfl, ?_⟩))
                            go_ret
                            exact ⟨by first | rfl | (simp; done) | (simp [*]; done), by repeat (first | exact Drawn0.refl _ | apply Drawn0.step)⟩
                        · rw [if_neg c14] at H
                          exact absurd H (by simp)
                      · rw [if_neg c13] at H
                        have c13b0 : decide (x3_3 < (a0.size : Int)) = false := decide_eq_false c13
                        clear c13
                        obtain rfl := Option.some.inj H
                        go_wp2
                        go_ret
                        exact ⟨by first | rfl | (simp; done) | (simp [*]; done), by repeat (first | exact Drawn0.refl _ | apply Drawn0.step)⟩
          · rw [if_neg c7] at H
            have c7b0 : ((bt a0 0) == 95) = false := beq_eq_false_iff_ne.mpr c7
            have c7b1 : ((bt a0 0) != 95) = true := bne_iff_ne.mpr c7
            replace H := Option.bind_eq_some_iff.mp H
            obtain ⟨t153, A190, H⟩ := H
            replace H : (if t153 = true then (amalgamref01_Var.l1 kj1 a0 1) else (some false)) = some r := H
            have A19 := Aside0.mk A190
            clear A190
            by_cases c20 : t153 = true
            · subst c20
              have H1 : (amalgamref01_Var.l1 kj1 a0 1) = some r := by rw [if_pos rfl] at H; exact H
              clear H
              have H := H1
              clear H1
              have H' := Aside0.mk H
              clear H
              have p6 : 0 ≤ (0 : Int) := (by omega)
              have q6 : 0 < a0.size := (by have : (0 : Int) < (a0.size : Int) := of_decide_eq_true (by first | (with_reducible assumption) | assumption); omega)
              have hx6 : ∀ h : 0 < a0.size, ((a0[0]'h).toNat : Int) = bt a0 0 := bt_at a0 0
              clear p6
              have qi6 : (0 < (a0.size : Int)) = True := eq_true (of_decide_eq_true (by first | (with_reducible assumption) | assumption))
              replace q6 := eq_true q6
              have p18 : 0 ≤ (0 : Int) := (by omega)
              have q18 : 0 < a0.size := (by have : (0 : Int) < (a0.size : Int) := of_decide_eq_true (by first | (with_reducible assumption) | assumption); omega)
              have hx18 : ∀ h : 0 < a0.size, ((a0[0]'h).toNat : Int) = bt a0 0 := bt_at a0 0
              clear p18
              have qi18 : (0 < (a0.size : Int)) = True := eq_true (of_decide_eq_true (by first | (with_reducible assumption) | assumption))
              replace q18 := eq_true q18
              go_wp2_with (first | ((with_reducible refine gate_callee (f := 31) rfl ?_); refine goesL_ (some 37) rfl rfl Try.func31 (by kernel_rfl) rfl #[.int .u8 (bt a0 0)] rfl (by (try simp only [List.map_toArray, List.map_cons, List.map_nil]); first | done | rfl | (simp only [List.length_drop, List.length_take]; rfl)) ?_; (with_reducible refine (amalgamref01_up.calls (bt a0 0) true _ A19.out).mono ?_); rintro e w' ⟨rfl, ⟨nd, rfl⟩⟩; refine ⟨_, rfl, ?_⟩))
              go_loopg [4] kj1 (fun kq v4 w' => ∃ (x4_2 : Int), v4 = .int .i64 x4_2 ∧ Aside0 (amalgamref01_Var.l1 kq a0 x4_2 = some r) ∧ Aside0 (kq ≤ kj1) ∧ Drawn0 w w')
              case atStart => exact ⟨(1), (by first | rfl | (simp; done) | (simp [*]; done)), H', ⟨Nat.le_refl _⟩, by repeat (first | exact Drawn0.refl _ | apply Drawn0.step)⟩
              case round =>
                clear H'
                obtain ⟨x4_2, rfl, HA, HK2, ⟨m2, rfl⟩⟩ := hrel
                cases gk with
                | zero => exact absurd HA.out (by simp [amalgamref01_Var.l1])
                | succ k2 =>
                  have H := HA.out
                  clear HA
                  simp only [amalgamref01_Var.l1] at H
                  by_cases c21 : x4_2 < (a0.size : Int)
                  · rw [if_pos c21] at H
                    have c21b0 : decide (x4_2 < (a0.size : Int)) = true := decide_eq_true c21
                    clear c21
                    by_cases c22 : 0 ≤ x4_2
                    · rw [if_pos c22] at H
                      have c22b0 : decide (0 ≤ x4_2) = true := decide_eq_true c22
                      clear c22
                      replace H := Option.bind_eq_some_iff.mp H
                      obtain ⟨t154, A240, H⟩ := H
                      replace H : (if t154 = true then (amalgamref01_Var.l1 k2 a0 (wrap64 (x4_2 + 1))) else ((amalgamref01_up.f (bt a0 x4_2)).bind fun t155 => (if t155 = true then (amalgamref01_Var.l1 k2 a0 (wrap64 (x4_2 + 1))) else ((amalgamref01_digit.f (bt a0 x4_2)).bind fun t156 => (if t156 = true then (amalgamref01_Var.l1 k2 a0 (wrap64 (x4_2 + 1))) else (some false)))))) = some r := H
                      have A24 := Aside0.mk A240
                      clear A240
                      by_cases c25 : t154 = true
                      · subst c25
                        have H1 : (amalgamref01_Var.l1 k2 a0 (wrap64 (x4_2 + 1))) = some r := by rw [if_pos rfl] at H; exact H
                        clear H
                        have H := H1
                        clear H1
                        have H' := Aside0.mk H
                        clear H
                        have p23 : 0 ≤ (x4_2 : Int) := of_decide_eq_true (by first | (with_reducible assumption) | assumption)
                        have q23 : x4_2 < (a0.size : Int) := of_decide_eq_true (by first | (with_reducible assumption) | assumption)
                        have hx23 := bt_at a0 x4_2
                        replace p23 := eq_true p23
                        replace q23 := eq_true q23
                        go_wp2_with (first | ((with_reducible refine gate_callee (f := 32) rfl ?_); refine goesL_ (some 48) rfl rfl Try.func32 (by kernel_rfl) rfl #[.int .u8 (bt a0 x4_2)] rfl (by (try simp only [List.map_toArray, List.map_cons, List.map_nil]); first | done | rfl | (simp only [List.length_drop, List.length_take]; rfl)) ?_; (with_reducible refine (amalgamref01_low.calls (bt a0 x4_2) true _ A24.out).mono ?_); rintro e w' ⟨rfl, ⟨nd, rfl⟩⟩; refine ⟨_, rfl, ?_⟩))
                        go_roundg k2
                        case measure => have := HJ1.out; have := HK2.out; omega
                        case rel => exact ⟨(wrap64 (x4_2 + 1)), (by first | rfl | (simp; done) | (simp [*]; done)), H', ⟨by have := HJ1.out; have := HK2.out; omega⟩, by repeat (first | exact Drawn0.refl _ | apply Drawn0.step)⟩
                      · replace c25 := Bool.eq_false_iff.mpr c25
                        subst c25
                        have H1 : ((amalgamref01_up.f (bt a0 x4_2)).bind fun t155 => (if t155 = true then (amalgamref01_Var.l1 k2 a0 (wrap64 (x4_2 + 1))) else ((amalgamref01_digit.f (bt a0 x4_2)).bind fun t156 => (if t156 = true then (amalgamref01_Var.l1 k2 a0 (wrap64 (x4_2 + 1))) else (some false))))) = some r := by rw [if_neg (show ¬ (false = true) by decide)] at H; exact H
                        clear H
                        have H := H1
                        clear H1
                        replace H := Option.bind_eq_some_iff.mp H
                        obtain ⟨t155, A270, H⟩ := H
                        replace H : (if t155 = true then (amalgamref01_Var.l1 k2 a0 (wrap64 (x4_2 + 1))) else ((amalgamref01_digit.f (bt a0 x4_2)).bind fun t156 => (if t156 = true then (amalgamref01_Var.l1 k2 a0 (wrap64 (x4_2 + 1))) else (some false)))) = some r := H
                        have A27 := Aside0.mk A270
                        clear A270
                        by_cases c28 : t155 = true
                        · subst c28
                          have H1 : (amalgamref01_Var.l1 k2 a0 (wrap64 (x4_2 + 1))) = some r := by rw [if_pos rfl] at H; exact H
                          clear H
                          have H := H1
                          clear H1
                          have H' := Aside0.mk H
                          clear H
                          have p23 : 0 ≤ (x4_2 : Int) := of_decide_eq_true (by first | (with_reducible assumption) | assumption)
                          have q23 : x4_2 < (a0.size : Int) := of_decide_eq_true (by first | (with_reducible assumption) | assumption)
                          have hx23 := bt_at a0 x4_2
                          replace p23 := eq_true p23
                          replace q23 := eq_true q23
                          go_wp2_with (first | ((with_reducible refine gate_callee (f := 32) rfl ?_); refine goesL_ (some 48) rfl rfl Try.func32 (by kernel_rfl) rfl #[.int .u8 (bt a0 x4_2)] rfl (by (try simp only [List.map_toArray, List.map_cons, List.map_nil]); first | done | rfl | (simp only [List.length_drop, List.length_take]; rfl)) ?_; (with_reducible refine (amalgamref01_low.calls (bt a0 x4_2) false _ A24.out).mono ?_); rintro e w' ⟨rfl, ⟨nd, rfl⟩⟩; refine ⟨_, rfl, ?_⟩; have p26 : 0 ≤ (x4_2 : Int) := of_decide_eq_true (by first | (with_reducible assumption) | assumption); have q26 : x4_2 < (a0.size : Int) := of_decide_eq_true (by first | (with_reducible assumption) | assumption); have hx26 := bt_at a0 x4_2; replace p26 := eq_true p26; replace q26 := eq_true q26) | (go_at_call 31; (with_reducible refine (amalgamref01_up.calls (bt a0 x4_2) true _ A27.out).mono ?_); rintro e w' ⟨rfl, ⟨nd, rfl⟩⟩))
                          go_roundg k2
                          case measure => have := HJ1.out; have := HK2.out; omega
                          case rel => exact ⟨(wrap64 (x4_2 + 1)), (by first | rfl | (simp; done) | (simp [*]; done)), H', ⟨by have := HJ1.out; have := HK2.out; omega⟩, by repeat (first | exact Drawn0.refl _ | apply Drawn0.step)⟩
                        · replace c28 := Bool.eq_false_iff.mpr c28
                          subst c28
                          have H1 : ((amalgamref01_digit.f (bt a0 x4_2)).bind fun t156 => (if t156 = true then (amalgamref01_Var.l1 k2 a0 (wrap64 (x4_2 + 1))) else (some false))) = some r := by rw [if_neg (show ¬ (false = true) by decide)] at H; exact H
                          clear H
                          have H := H1
                          clear H1
                          replace H := Option.bind_eq_some_iff.mp H
                          obtain ⟨t156, A300, H⟩ := H
                          replace H : (if t156 = true then (amalgamref01_Var.l1 k2 a0 (wrap64 (x4_2 + 1))) else (some false)) = some r := H
                          have A30 := Aside0.mk A300
                          clear A300
                          by_cases c31 : t156 = true
                          · subst c31
                            have H1 : (amalgamref01_Var.l1 k2 a0 (wrap64 (x4_2 + 1))) = some r := by rw [if_pos rfl] at H; exact H
                            clear H
                            have H := H1
                            clear H1
                            have H' := Aside0.mk H
                            clear H
                            have p23 : 0 ≤ (x4_2 : Int) := of_decide_eq_true (by first | (with_reducible assumption) | assumption)
                            have q23 : x4_2 < (a0.size : Int) := of_decide_eq_true (by first | (with_reducible assumption) | assumption)
                            have hx23 := bt_at a0 x4_2
                            replace p23 := eq_true p23
                            replace q23 := eq_true q23
                            go_wp2_with (first | ((with_reducible refine gate_callee (f := 32) rfl ?_); refine goesL_ (some 48) rfl rfl Try.func32 (by kernel_rfl) rfl #[.int .u8 (bt a0 x4_2)] rfl (by (try simp only [List.map_toArray, List.map_cons, List.map_nil]); first | done | rfl | (simp only [List.length_drop, List.length_take]; rfl)) ?_; (with_reducible refine (amalgamref01_low.calls (bt a0 x4_2) false _ A24.out).mono ?_); rintro e w' ⟨rfl, ⟨nd, rfl⟩⟩; refine ⟨_, rfl, ?_⟩; have p26 : 0 ≤ (x4_2 : Int) := of_decide_eq_true (by first | (with_reducible assumption) | assumption); have q26 : x4_2 < (a0.size : Int) := of_decide_eq_true (by first | (with_reducible assumption) | assumption); have hx26 := bt_at a0 x4_2; replace p26 := eq_true p26; replace q26 := eq_true q26) | (go_at_call 31; (with_reducible refine (amalgamref01_up.calls (bt a0 x4_2) false _ A27.out).mono ?_); rintro e w' ⟨rfl, ⟨nd, rfl⟩⟩; have p29 : 0 ≤ (x4_2 : Int) := of_decide_eq_true (by first | (with_reducible assumption) | assumption); have q29 : x4_2 < (a0.size : Int) := of_decide_eq_true (by first | (with_reducible assumption) | assumption); have hx29 := bt_at a0 x4_2; replace p29 := eq_true p29; replace q29 := eq_true q29) | (go_at_call 30; (with_reducible refine (amalgamref01_digit.calls (bt a0 x4_2) true _ A30.out).mono ?_); rintro e w' ⟨rfl, ⟨nd, rfl⟩⟩))
                            go_roundg k2
                            case measure => have := HJ1.out; have := HK2.out; omega
                            case rel => exact ⟨(wrap64 (x4_2 + 1)), (by first | rfl | (simp; done) | (simp [*]; done)), H', ⟨by have := HJ1.out; have := HK2.out; omega⟩, by repeat (first | exact Drawn0.refl _ | apply Drawn0.step)⟩
                          · replace c31 := Bool.eq_false_iff.mpr c31
                            subst c31
                            have H1 : (some false) = some r := by rw [if_neg (show ¬ (false = true) by decide)] at H; exact H
                            clear H
                            have H := H1
                            clear H1
                            obtain rfl := Option.some.inj H
                            have p23 : 0 ≤ (x4_2 : Int) := of_decide_eq_true (by first | (with_reducible assumption) | assumption)
                            have q23 : x4_2 < (a0.size : Int) := of_decide_eq_true (by first | (with_reducible assumption) | assumption)
                            have hx23 := bt_at a0 x4_2
                            replace p23 := eq_true p23
                            replace q23 := eq_true q23
                            go_wp2_with (first | ((with_reducible refine gate_callee (f := 32) rfl ?_); refine goesL_ (some 48) rfl rfl Try.func32 (by kernel_rfl) rfl #[.int .u8 (bt a0 x4_2)] rfl (by (try simp only [List.map_toArray, List.map_cons, List.map_nil]); first | done | rfl | (simp only [List.length_drop, List.length_take]; rfl)) ?_; (with_reducible refine (amalgamref01_low.calls (bt a0 x4_2) false _ A24.out).mono ?_); rintro e w' ⟨rfl, ⟨nd, rfl⟩⟩; refine ⟨_, rfl, ?_⟩; have p26 : 0 ≤ (x4_2 : Int) := of_decide_eq_true (by first | (with_reducible assumption) | assumption); have q26 : x4_2 < (a0.size : Int) := of_decide_eq_true (by first | (with_reducible assumption) | assumption); have hx26 := bt_at a0 x4_2; replace p26 := eq_true p26; replace q26 := eq_true q26) | (go_at_call 31; (with_reducible refine (amalgamref01_up.calls (bt a0 x4_2) false _ A27.out).mono ?_); rintro e w' ⟨rfl, ⟨nd, rfl⟩⟩; have p29 : 0 ≤ (x4_2 : Int) := of_decide_eq_true (by first | (with_reducible assumption) | assumption); have q29 : x4_2 < (a0.size : Int) := of_decide_eq_true (by first | (with_reducible assumption) | assumption); have hx29 := bt_at a0 x4_2; replace p29 := eq_true p29; replace q29 := eq_true q29) | (go_at_call 30; (with_reducible refine (amalgamref01_digit.calls (bt a0 x4_2) false _ A30.out).mono ?_); rintro e w' ⟨rfl, ⟨nd, rfl⟩⟩))
                            go_ret
                            exact ⟨by first | rfl | (simp; done) | (simp [*]; done), by repeat (first | exact Drawn0.refl _ | apply Drawn0.step)⟩
                    · rw [if_neg c22] at H
                      exact absurd H (by simp)
                  · rw [if_neg c21] at H
                    have c21b0 : decide (x4_2 < (a0.size : Int)) = false := decide_eq_false c21
                    clear c21
                    obtain rfl := Option.some.inj H
                    go_wp2
                    go_ret
                    exact ⟨by first | rfl | (simp; done) | (simp [*]; done), by repeat (first | exact Drawn0.refl _ | apply Drawn0.step)⟩
            · replace c20 := Bool.eq_false_iff.mpr c20
              subst c20
              have H1 : (some false) = some r := by rw [if_neg (show ¬ (false = true) by decide)] at H; exact H
              clear H
              have H := H1
              clear H1
              obtain rfl := Option.some.inj H
              have p6 : 0 ≤ (0 : Int) := (by omega)
              have q6 : 0 < a0.size := (by have : (0 : Int) < (a0.size : Int) := of_decide_eq_true (by first | (with_reducible assumption) | assumption); omega)
              have hx6 : ∀ h : 0 < a0.size, ((a0[0]'h).toNat : Int) = bt a0 0 := bt_at a0 0
              clear p6
              have qi6 : (0 < (a0.size : Int)) = True := eq_true (of_decide_eq_true (by first | (with_reducible assumption) | assumption))
              replace q6 := eq_true q6
              have p18 : 0 ≤ (0 : Int) := (by omega)
              have q18 : 0 < a0.size := (by have : (0 : Int) < (a0.size : Int) := of_decide_eq_true (by first | (with_reducible assumption) | assumption); omega)
              have hx18 : ∀ h : 0 < a0.size, ((a0[0]'h).toNat : Int) = bt a0 0 := bt_at a0 0
              clear p18
              have qi18 : (0 < (a0.size : Int)) = True := eq_true (of_decide_eq_true (by first | (with_reducible assumption) | assumption))
              replace q18 := eq_true q18
              go_wp2_with (first | ((with_reducible refine gate_callee (f := 31) rfl ?_); refine goesL_ (some 37) rfl rfl Try.func31 (by kernel_rfl) rfl #[.int .u8 (bt a0 0)] rfl (by (try simp only [List.map_toArray, List.map_cons, List.map_nil]); first | done | rfl | (simp only [List.length_drop, List.length_take]; rfl)) ?_; (with_reducible refine (amalgamref01_up.calls (bt a0 0) false _ A19.out).mono ?_); rintro e w' ⟨rfl, ⟨nd, rfl⟩⟩; refine ⟨_, rfl, ?_⟩))
              go_ret
              exact ⟨by first | rfl | (simp; done) | (simp [*]; done), by repeat (first | exact Drawn0.refl _ | apply Drawn0.step)⟩
        · rw [if_neg c5] at H
          exact absurd H (by simp)

end Go.Proofs.Ytpepjodkahdicaa.PTb
