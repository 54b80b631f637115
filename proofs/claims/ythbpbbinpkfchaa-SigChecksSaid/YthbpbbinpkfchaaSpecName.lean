/-
  Names and variables: what the program's tests of a name and the document's come to; they are the same. Conditions: each theorem's own.
-/
import Derived.Test.YthbpbbinpkfchaaSpec
import Derived.Test.YthbpbbinpkfchaaPSigx5
import Derived.Test.YthbpbbinpkfchaaPSigx6
import Derived.Test.YthbpbbinpkfchaaPSigx2
import Derived.Test.YthbpbbinpkfchaaPSigx2
namespace Go.Proofs.Ythbpbbinpkfchaa.Sp
open Go.RowKit Go.Proofs.YthbpbbinpkfchaaW.PrintWords Go.Proofs.Ythbpbbinpkfchaa.PSig
theorem r_low (c : Int) : amalgamref01_low.f c = some (decide (97 ≤ c ∧ c ≤ 122)) := by
  unfold amalgamref01_low.f
  by_cases h : 97 ≤ c <;> simp [h]
theorem r_up (c : Int) : amalgamref01_up.f c = some (decide (65 ≤ c ∧ c ≤ 90)) := by
  unfold amalgamref01_up.f
  by_cases h : 65 ≤ c <;> simp [h]
theorem r_digit (c : Int) : amalgamref01_digit.f c = some (decide (48 ≤ c ∧ c ≤ 57)) := by
  unfold amalgamref01_digit.f
  by_cases h : 48 ≤ c <;> simp [h]

theorem r_name_l0 (s : ByteArray) (hs : s.size ≤ 140737488351232) : ∀ (d i k : Nat), 1 ≤ i → i + d = s.size → d < k → amalgamref01_Name.l0 k s i = some (nmAll s d i) := by
  intro d
  induction d with
  | zero =>
    intro i k h1 hi hk
    obtain ⟨k, rfl, _⟩ := k_succ hk
    simp only [amalgamref01_Name.l0]
    rw [if_neg (by omega)]
    rfl
  | succ d ih =>
    intro i k h1 hi hk
    obtain ⟨k, rfl, hk⟩ := k_succ hk
    simp only [amalgamref01_Name.l0]
    rw [if_pos (by omega), if_pos (by omega), r_low, r_digit, wrap_nat (show i < s.size by omega) (by omega), ih (i + 1) k (by omega) (by omega) (by omega)]
    simp only [Option.bind_some, nmAll, nmB]
    have h0 : decide (0 < i) = true := by simp; omega
    rw [h0]
    cases decide (97 ≤ bt s i ∧ bt s i ≤ 122) <;> cases decide (48 ≤ bt s i ∧ bt s i ≤ 57) <;> simp
theorem r_name (s : ByteArray) (hs : s.size ≤ 140737488351232) (k : Nat) (hk : s.size < k) : amalgamref01_Name.f k s = some (nameB s) := by
  obtain ⟨k, rfl, hk⟩ := k_succ hk
  unfold amalgamref01_Name.f
  by_cases h1 : (s.size : Int) < 1
  · rw [if_pos h1]
    simp only [amalgamref01_Name.j0, if_true, nameB]
    have : decide (1 ≤ s.size) = false := decide_eq_false (by omega)
    simp [this]
  · rw [if_neg h1]
    by_cases h2 : (s.size : Int) > 12
    · rw [if_pos h2]
      simp only [amalgamref01_Name.j0, if_true, nameB]
      have : decide (s.size ≤ 12) = false := by simp; omega
      simp [this]
    · rw [if_neg h2, if_pos (by omega), r_low]
      simp only [Option.bind_some, amalgamref01_Name.j0, nameB]
      have e1 : decide (1 ≤ s.size) = true := by simp; omega
      have e2 : decide (s.size ≤ 12) = true := by simp; omega
      obtain ⟨d, hd⟩ : ∃ d, s.size = d + 1 := ⟨s.size - 1, by omega⟩
      have e3 : nmAll s s.size 0 = (nmB s 0 && nmAll s d 1) := by rw [hd]; rfl
      have e4 : nmB s 0 = decide (97 ≤ bt s 0 ∧ bt s 0 ≤ 122) := by simp [nmB]
      have e5 := r_name_l0 s hs d 1 k (by omega) (by omega) (by omega)
      rw [e1, e2, e3, e4]
      cases decide (97 ≤ bt s 0 ∧ bt s 0 ≤ 122)
      · simp
      · simp only [Bool.not_true, Bool.false_eq_true, if_false]
        rw [show ((1 : Nat) : Int) = 1 from rfl] at e5
        rw [e5]
        simp

theorem r_var_l1 (s : ByteArray) (hs : s.size ≤ 140737488351232) : ∀ (d i k : Nat), 1 ≤ i → i + d = s.size → d < k → amalgamref01_Var.l1 k s i = some (vrAll s false d i) := by
  intro d
  induction d with
  | zero =>
    intro i k h1 hi hk
    obtain ⟨k, rfl, _⟩ := k_succ hk
    simp only [amalgamref01_Var.l1]
    rw [if_neg (by omega)]
    rfl
  | succ d ih =>
    intro i k h1 hi hk
    obtain ⟨k, rfl, hk⟩ := k_succ hk
    simp only [amalgamref01_Var.l1]
    rw [if_pos (by omega), if_pos (by omega), r_low, r_digit, r_up, wrap_nat (show i < s.size by omega) (by omega), ih (i + 1) k (by omega) (by omega) (by omega)]
    simp only [Option.bind_some, vrAll, vrB]
    rw [if_neg (show ¬ i = 0 by omega)]
    cases decide (97 ≤ bt s i ∧ bt s i ≤ 122) <;> cases decide (48 ≤ bt s i ∧ bt s i ≤ 57) <;> cases decide (65 ≤ bt s i ∧ bt s i ≤ 90) <;> simp
theorem r_var_l0 (s : ByteArray) (hs : s.size ≤ 140737488351232) (h0 : bt s 1 ≠ 48) : ∀ (d i k : Nat), 1 ≤ i → i + d = s.size → d < k → amalgamref01_Var.l0 k s i = some (vrAll s true d i) := by
  intro d
  induction d with
  | zero =>
    intro i k h1 hi hk
    obtain ⟨k, rfl, _⟩ := k_succ hk
    simp only [amalgamref01_Var.l0]
    rw [if_neg (by omega)]
    rfl
  | succ d ih =>
    intro i k h1 hi hk
    obtain ⟨k, rfl, hk⟩ := k_succ hk
    simp only [amalgamref01_Var.l0]
    rw [if_pos (by omega), if_pos (by omega), r_digit, wrap_nat (show i < s.size by omega) (by omega), ih (i + 1) k (by omega) (by omega) (by omega)]
    simp only [Option.bind_some, vrAll, vrB]
    rw [if_neg (show ¬ i = 0 by omega)]
    have h2 : (decide (i = 1) && true && decide (bt s i = 48)) = false := by
      by_cases h3 : i = 1
      · subst h3
        simp only [Bool.and_eq_false_iff, decide_eq_false_iff_not]
        exact .inr h0
      · simp [h3]
    rw [h2]
    cases decide (48 ≤ bt s i ∧ bt s i ≤ 57) <;> simp
theorem r_var (s : ByteArray) (hs : s.size ≤ 140737488351232) (k : Nat) (hk : s.size + 2 < k) : amalgamref01_Var.f k s = some (varB s) := by
  obtain ⟨k, rfl, hk⟩ := k_succ hk
  unfold amalgamref01_Var.f
  by_cases h1 : (s.size : Int) < 1
  · rw [if_pos h1]
    simp only [amalgamref01_Var.j0, if_true, varB]
    have : decide (1 ≤ s.size) = false := decide_eq_false (by omega)
    simp [this]
  · rw [if_neg h1]
    by_cases h2 : (s.size : Int) > 12
    · rw [decide_eq_true h2]
      simp only [amalgamref01_Var.j0, if_true, varB]
      have : decide (s.size ≤ 12) = false := by simp; omega
      simp [this]
    · rw [decide_eq_false h2]
      simp only [amalgamref01_Var.j0, varB]
      have e1 : decide (1 ≤ s.size) = true := by simp; omega
      have e2 : decide (s.size ≤ 12) = true := by simp; omega
      obtain ⟨d, hd⟩ : ∃ d, s.size = d + 1 := ⟨s.size - 1, by omega⟩
      rw [if_neg (by simp), if_pos (by omega), e1, e2]
      by_cases h95 : bt s 0 = 95
      · rw [if_pos h95, decide_eq_true h95]
        by_cases h3 : (s.size : Int) < 2
        · rw [if_pos h3]
          obtain ⟨k, rfl, hk⟩ := k_succ (show 0 < k by omega)
          simp only [amalgamref01_Var.j1, if_true]
          have : decide (1 < s.size) = false := by simp; omega
          simp [this]
        · rw [if_neg h3, if_pos (by omega)]
          obtain ⟨k, rfl, hk'⟩ := k_succ (show 0 < k by omega)
          simp only [amalgamref01_Var.j1]
          have e3 : decide (1 < s.size) = true := by simp; omega
          have e4 : vrAll s true s.size 0 = vrAll s true d 1 := by rw [hd]; simp [vrAll, vrB]
          rw [e3, e4]
          by_cases h48 : bt s 1 = 48
          · rw [show (bt s 1 == 48) = true from by simp [h48], if_pos rfl]
            obtain ⟨d', rfl⟩ : ∃ d', d = d' + 1 := ⟨d - 1, by omega⟩
            simp [vrAll, vrB, h48]
          · rw [show (bt s 1 == 48) = false from by simp [h48], if_neg (by simp)]
            have e5 := r_var_l0 s hs h48 d 1 k (by omega) (by omega) (by omega)
            rw [show ((1 : Nat) : Int) = 1 from rfl] at e5
            rw [e5]
            simp
      · rw [if_neg h95, decide_eq_false h95, r_up]
        simp only [Option.bind_some]
        have e4 : vrAll s false s.size 0 = (decide (65 ≤ bt s 0 ∧ bt s 0 ≤ 90) && vrAll s false d 1) := by rw [hd]; simp [vrAll, vrB]
        rw [e4]
        have e5 := r_var_l1 s hs d 1 k (by omega) (by omega) (by omega)
        rw [show ((1 : Nat) : Int) = 1 from rfl] at e5
        rw [e5]
        cases decide (65 ≤ bt s 0 ∧ bt s 0 ≤ 90) <;> simp
end Go.Proofs.Ythbpbbinpkfchaa.Sp
