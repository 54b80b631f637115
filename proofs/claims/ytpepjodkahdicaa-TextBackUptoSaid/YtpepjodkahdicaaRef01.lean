/-
  The document's names, variables and signatures, plainly: what a right signature is. Conditions: each theorem's own.
-/
-- Written by programs of this session (wip/tools), cut to what the claim uses (wip/tools/prune.py).
import Derived.Test.YtpepjodkahdicaaTok
import Derived.Test.YtpepjodkahdicaaPTbx6
import Derived.Test.YtpepjodkahdicaaPTbx9
import Derived.Test.YtpepjodkahdicaaPTbx8
import Derived.Test.YtpepjodkahdicaaPTbx7
import Derived.Test.YtpepjodkahdicaaPTbx17
namespace Go.Proofs.Ytpepjodkahdicaa.Sw
open Go.RowKit Go.Proofs.YtpepjodkahdicaaW.PrintWords Go.Proofs.Ytpepjodkahdicaa.PTb
abbrev Sym := S62
theorem toList_inj {a b : ByteArray} (h : a.toList = b.toList) : a = b := by
  rw [ByteArray.toList_eq, ByteArray.toList_eq] at h
  exact ByteArray.ext (Array.ext' h)
theorem toList_nil {a : ByteArray} : a.toList = ([] : List UInt8) ↔ a.size = 0 := by
  rw [ByteArray.toList_eq]
  constructor
  · intro h
    have := congrArg List.length h
    simpa [Array.length_toList] using this
  · intro h
    exact List.length_eq_zero_iff.1 (by rw [Array.length_toList]; exact h)
theorem rd_nat {α : Type} (l : List α) (z : α) (i : Nat) (h : i < l.length) : l.getD (i : Int).toNat z = l[i] := by
  rw [Int.toNat_natCast, List.getD_eq_getElem?_getD, List.getElem?_eq_getElem h]
  rfl
theorem rd_sym (l : List Sym) (i : Nat) (h : i < l.length) : rd_T62 l i = l[i] := rd_nat l _ i h
def nmB (s : ByteArray) (i : Nat) : Bool := decide (97 ≤ bt s i ∧ bt s i ≤ 122) || (decide (0 < i) && decide (48 ≤ bt s i ∧ bt s i ≤ 57))
def nmAll (s : ByteArray) : Nat → Nat → Bool
  | 0, _ => true
  | d + 1, i => nmB s i && nmAll s d (i + 1)
def nameB (s : ByteArray) : Bool := decide (1 ≤ s.size) && decide (s.size ≤ 12) && nmAll s s.size 0
def arityBad (x : Sym) : Prop := if x.f1 = 1 then (x.f2 < 0 ∨ x.f2 > 4) else x.f2 ≠ 2
instance (x : Sym) : Decidable (arityBad x) := by unfold arityBad; exact inferInstance
theorem r_low (c : Int) : amalgamref01_low.f c = some (decide (97 ≤ c ∧ c ≤ 122)) := by
  unfold amalgamref01_low.f
  by_cases h : 97 ≤ c <;> simp [h]
theorem r_up (c : Int) : amalgamref01_up.f c = some (decide (65 ≤ c ∧ c ≤ 90)) := by
  unfold amalgamref01_up.f
  by_cases h : 65 ≤ c <;> simp [h]
theorem r_digit (c : Int) : amalgamref01_digit.f c = some (decide (48 ≤ c ∧ c ≤ 57)) := by
  unfold amalgamref01_digit.f
  by_cases h : 48 ≤ c <;> simp [h]

theorem r_name_l0 (s : ByteArray) (hs : s.size ≤ 140737488351232) : ∀ (d i k : Nat), 1 ≤ i → i + d = s.size → d < k → amalgamref01_Name.l0 k s i = some (nmAll s d i) := by
  intro d
  induction d with
  | zero =>
    intro i k h1 hi hk
    obtain ⟨k, rfl, _⟩ := k_succ hk
    simp only [amalgamref01_Name.l0]
    rw [if_neg (by omega)]
    rfl
  | succ d ih =>
    intro i k h1 hi hk
    obtain ⟨k, rfl, hk⟩ := k_succ hk
    simp only [amalgamref01_Name.l0]
    rw [if_pos (by omega), if_pos (by omega), r_low, r_digit, wrap_nat (show i < s.size by omega) (by omega), ih (i + 1) k (by omega) (by omega) (by omega)]
    simp only [Option.bind_some, nmAll, nmB]
    have h0 : decide (0 < i) = true := by simp; omega
    rw [h0]
    cases decide (97 ≤ bt s i ∧ bt s i ≤ 122) <;> cases decide (48 ≤ bt s i ∧ bt s i ≤ 57) <;> simp
theorem r_name (s : ByteArray) (k : Nat) (hk : s.size < k) : amalgamref01_Name.f k s = some (nameB s) := by
  obtain ⟨k, rfl, hk⟩ := k_succ hk
  unfold amalgamref01_Name.f
  by_cases h1 : (s.size : Int) < 1
  · rw [if_pos h1]
    simp only [amalgamref01_Name.j0, if_true, nameB]
    have : decide (1 ≤ s.size) = false := decide_eq_false (by omega)
    simp [this]
  · rw [if_neg h1]
    by_cases h2 : (s.size : Int) > 12
    · rw [if_pos h2]
      simp only [amalgamref01_Name.j0, if_true, nameB]
      have : decide (s.size ≤ 12) = false := by simp; omega
      simp [this]
    · rw [if_neg h2, if_pos (by omega), r_low]
      simp only [Option.bind_some, amalgamref01_Name.j0, nameB]
      have e1 : decide (1 ≤ s.size) = true := by simp; omega
      have e2 : decide (s.size ≤ 12) = true := by simp; omega
      obtain ⟨d, hd⟩ : ∃ d, s.size = d + 1 := ⟨s.size - 1, by omega⟩
      have e3 : nmAll s s.size 0 = (nmB s 0 && nmAll s d 1) := by rw [hd]; rfl
      have e4 : nmB s 0 = decide (97 ≤ bt s 0 ∧ bt s 0 ≤ 122) := by simp [nmB]
      have e5 := r_name_l0 s (by omega) d 1 k (by omega) (by omega) (by omega)
      rw [e1, e2, e3, e4]
      cases decide (97 ≤ bt s 0 ∧ bt s 0 ≤ 122)
      · simp
      · simp only [Bool.not_true, Bool.false_eq_true, if_false]
        rw [show ((1 : Nat) : Int) = 1 from rfl] at e5
        rw [e5]
        simp

theorem r_var_l1 (s : ByteArray) (hs : s.size ≤ 140737488351232) : ∀ (d i k : Nat), 1 ≤ i → i + d = s.size → d < k → amalgamref01_Var.l1 k s i = some (vrAll s false d i) := by
  intro d
  induction d with
  | zero =>
    intro i k h1 hi hk
    obtain ⟨k, rfl, _⟩ := k_succ hk
    simp only [amalgamref01_Var.l1]
    rw [if_neg (by omega)]
    rfl
  | succ d ih =>
    intro i k h1 hi hk
    obtain ⟨k, rfl, hk⟩ := k_succ hk
    simp only [amalgamref01_Var.l1]
    rw [if_pos (by omega), if_pos (by omega), r_low, r_digit, r_up, wrap_nat (show i < s.size by omega) (by omega), ih (i + 1) k (by omega) (by omega) (by omega)]
    simp only [Option.bind_some, vrAll, vrB]
    rw [if_neg (show ¬ i = 0 by omega)]
    cases decide (97 ≤ bt s i ∧ bt s i ≤ 122) <;> cases decide (48 ≤ bt s i ∧ bt s i ≤ 57) <;> cases decide (65 ≤ bt s i ∧ bt s i ≤ 90) <;> simp
theorem r_var_l0 (s : ByteArray) (hs : s.size ≤ 140737488351232) (h0 : bt s 1 ≠ 48) : ∀ (d i k : Nat), 1 ≤ i → i + d = s.size → d < k → amalgamref01_Var.l0 k s i = some (vrAll s true d i) := by
  intro d
  induction d with
  | zero =>
    intro i k h1 hi hk
    obtain ⟨k, rfl, _⟩ := k_succ hk
    simp only [amalgamref01_Var.l0]
    rw [if_neg (by omega)]
    rfl
  | succ d ih =>
    intro i k h1 hi hk
    obtain ⟨k, rfl, hk⟩ := k_succ hk
    simp only [amalgamref01_Var.l0]
    rw [if_pos (by omega), if_pos (by omega), r_digit, wrap_nat (show i < s.size by omega) (by omega), ih (i + 1) k (by omega) (by omega) (by omega)]
    simp only [Option.bind_some, vrAll, vrB]
    rw [if_neg (show ¬ i = 0 by omega)]
    have h2 : (decide (i = 1) && true && decide (bt s i = 48)) = false := by
      by_cases h3 : i = 1
      · subst h3
        simp only [Bool.and_eq_false_iff, decide_eq_false_iff_not]
        exact .inr h0
      · simp [h3]
    rw [h2]
    cases decide (48 ≤ bt s i ∧ bt s i ≤ 57) <;> simp
theorem r_var (s : ByteArray) (k : Nat) (hk : s.size + 2 < k) : amalgamref01_Var.f k s = some (varB s) := by
  obtain ⟨k, rfl, hk⟩ := k_succ hk
  unfold amalgamref01_Var.f
  by_cases h1 : (s.size : Int) < 1
  · rw [if_pos h1]
    simp only [amalgamref01_Var.j0, if_true, varB]
    have : decide (1 ≤ s.size) = false := decide_eq_false (by omega)
    simp [this]
  · rw [if_neg h1]
    by_cases h2 : (s.size : Int) > 12
    · rw [decide_eq_true h2]
      simp only [amalgamref01_Var.j0, if_true, varB]
      have : decide (s.size ≤ 12) = false := by simp; omega
      simp [this]
    · rw [decide_eq_false h2]
      simp only [amalgamref01_Var.j0, varB]
      have e1 : decide (1 ≤ s.size) = true := by simp; omega
      have e2 : decide (s.size ≤ 12) = true := by simp; omega
      obtain ⟨d, hd⟩ : ∃ d, s.size = d + 1 := ⟨s.size - 1, by omega⟩
      rw [if_neg (by simp), if_pos (by omega), e1, e2]
      by_cases h95 : bt s 0 = 95
      · rw [if_pos h95, decide_eq_true h95]
        by_cases h3 : (s.size : Int) < 2
        · rw [if_pos h3]
          obtain ⟨k, rfl, hk⟩ := k_succ (show 0 < k by omega)
          simp only [amalgamref01_Var.j1, if_true]
          have : decide (1 < s.size) = false := by simp; omega
          simp [this]
        · rw [if_neg h3, if_pos (by omega)]
          obtain ⟨k, rfl, hk'⟩ := k_succ (show 0 < k by omega)
          simp only [amalgamref01_Var.j1]
          have e3 : decide (1 < s.size) = true := by simp; omega
          have e4 : vrAll s true s.size 0 = vrAll s true d 1 := by rw [hd]; simp [vrAll, vrB]
          rw [e3, e4]
          by_cases h48 : bt s 1 = 48
          · rw [show (bt s 1 == 48) = true from by simp [h48], if_pos rfl]
            obtain ⟨d', rfl⟩ : ∃ d', d = d' + 1 := ⟨d - 1, by omega⟩
            simp [vrAll, vrB, h48]
          · rw [show (bt s 1 == 48) = false from by simp [h48], if_neg (by simp)]
            have e5 := r_var_l0 s (by omega) h48 d 1 k (by omega) (by omega) (by omega)
            rw [show ((1 : Nat) : Int) = 1 from rfl] at e5
            rw [e5]
            simp
      · rw [if_neg h95, decide_eq_false h95, r_up]
        simp only [Option.bind_some]
        have e4 : vrAll s false s.size 0 = (decide (65 ≤ bt s 0 ∧ bt s 0 ≤ 90) && vrAll s false d 1) := by rw [hd]; simp [vrAll, vrB]
        rw [e4]
        have e5 := r_var_l1 s (by omega) d 1 k (by omega) (by omega) (by omega)
        rw [show ((1 : Nat) : Int) = 1 from rfl] at e5
        rw [e5]
        cases decide (65 ≤ bt s 0 ∧ bt s 0 ≤ 90) <;> simp
def neS (l : List Sym) (nm : ByteArray) : Nat → Nat → Bool
  | 0, _ => true
  | d + 1, j => decide ((rd_T62 l (j : Int)).f0 ≠ nm) && neS l nm d (j + 1)
def exS (l : List Sym) (u : ByteArray) : Nat → Nat → Bool
  | 0, _ => false
  | d + 1, j => decide ((rd_T62 l (j : Int)).f1 = 1 ∧ (rd_T62 l (j : Int)).f2 = 0 ∧ (rd_T62 l (j : Int)).f0 = u) || exS l u d (j + 1)
def tailS (l : List Sym) (i : Nat) (x : Sym) : Int :=
  if x.f1 ≠ 1 ∧ x.f1 ≠ 2 ∧ x.f1 ≠ 3 then 12 else if arityBad x then 13 else if x.f1 = 3 then (if exS l x.f3 i 0 = true then 0 else 14) else (if x.f3.size = 0 then 0 else 14)
theorem r_sym_l1 (l : List Sym) (hl : l.length ≤ 4611686018427387904) (i : Nat) (hi : i ≤ l.length) (f0 : ByteArray) (f1 f2 : Int) (f3 : ByteArray) : ∀ (d j k : Nat), j + d = i → d < k →
    amalgamref01_symbol.l1 k l (i : Int) j f0 f1 f2 f3 = some (if exS l f3 d j = true then 0 else 14) := by
  intro d
  induction d with
  | zero =>
    intro j k hj hk
    obtain ⟨k, rfl, _⟩ := k_succ hk
    simp only [amalgamref01_symbol.l1]
    rw [if_neg (by omega)]
    simp [exS]
  | succ d ih =>
    intro j k hj hk
    obtain ⟨k, rfl, _⟩ := k_succ hk
    simp only [amalgamref01_symbol.l1]
    rw [if_pos (show (j : Int) < (i : Int) by omega), if_pos (show (0 : Int) ≤ (j : Int) by omega), if_pos (show (j : Int) < (l.length : Int) by omega), wrap_nat (show j < l.length by omega) hl, ih (j + 1) k (by omega) (by omega)]
    have hn : ¬ ((rd_T62 l (j : Int)).f1 = 1 ∧ (rd_T62 l (j : Int)).f2 = 0 ∧ (rd_T62 l (j : Int)).f0 = f3) → exS l f3 (d + 1) j = exS l f3 d (j + 1) := fun h => by
      simp only [exS, decide_eq_false h, Bool.false_or]
    by_cases h1 : (rd_T62 l (j : Int)).f1 = 1
    · rw [if_pos h1]
      by_cases h2 : (rd_T62 l (j : Int)).f2 = 0
      · rw [if_pos h2]
        by_cases h3 : (rd_T62 l (j : Int)).f0.toList = f3.toList
        · have e : exS l f3 (d + 1) j = true := by
            simp only [exS, decide_eq_true (show (rd_T62 l (j : Int)).f1 = 1 ∧ (rd_T62 l (j : Int)).f2 = 0 ∧ (rd_T62 l (j : Int)).f0 = f3 from ⟨h1, h2, toList_inj h3⟩), Bool.true_or]
          rw [if_pos h3, if_pos e]
        · rw [if_neg h3, hn (fun h => h3 (by rw [h.2.2]))]
      · rw [if_neg h2, hn (fun h => h2 h.2.1)]
    · rw [if_neg h1, hn (fun h => h1 h.1)]
theorem r_sym_j2 (l : List Sym) (hl : l.length ≤ 4611686018427387904) (i : Nat) (hi : i ≤ l.length) (x : Sym) (k : Nat) (hk : i + 1 < k) (b : Bool) :
    amalgamref01_symbol.j2 k l (i : Int) b x.f0 x.f1 x.f2 x.f3 = some (if b = true then 13 else if x.f1 = 3 then (if exS l x.f3 i 0 = true then 0 else 14) else (if x.f3.size = 0 then 0 else 14)) := by
  obtain ⟨k, rfl, _⟩ := k_succ hk
  simp only [amalgamref01_symbol.j2]
  cases b with
  | true => simp
  | false =>
    have h := r_sym_l1 l hl i hi x.f0 x.f1 x.f2 x.f3 i 0 k (by omega) (by omega)
    rw [show amalgamref01_symbol.l1 k l (i : Int) 0 x.f0 x.f1 x.f2 x.f3 = _ from h]
    simp only [Bool.false_eq_true, if_false]
    by_cases h3 : x.f1 = 3
    · rw [if_pos h3, if_pos h3]
    · rw [if_neg h3, if_neg h3]
      by_cases h4 : x.f3.size = 0
      · rw [if_pos (toList_nil.2 h4), if_pos h4]
      · rw [if_neg (fun h => h4 (toList_nil.1 h)), if_neg h4]
theorem r_sym_j1 (l : List Sym) (hl : l.length ≤ 4611686018427387904) (i : Nat) (hi : i ≤ l.length) (x : Sym) (k : Nat) (hk : i + 2 < k) :
    amalgamref01_symbol.j1 k l (i : Int) (decide (x.f1 ≠ 1 ∧ x.f1 ≠ 2 ∧ x.f1 ≠ 3)) x.f0 x.f1 x.f2 x.f3 = some (tailS l i x) := by
  obtain ⟨k, rfl, _⟩ := k_succ hk
  simp only [amalgamref01_symbol.j1]
  unfold tailS
  by_cases h : x.f1 ≠ 1 ∧ x.f1 ≠ 2 ∧ x.f1 ≠ 3
  · rw [decide_eq_true h, if_pos rfl, if_pos h]
  · rw [decide_eq_false h, if_neg (by simp), if_neg h]
    have hj := r_sym_j2 l hl i hi x k (by omega)
    by_cases h1 : x.f1 = 1
    · rw [if_pos h1]
      by_cases h2 : x.f2 < 0
      · rw [if_pos h2, hj, if_pos (show arityBad x by unfold arityBad; rw [if_pos h1]; exact .inl h2)]
        simp
      · rw [if_neg h2]
        by_cases h3 : x.f2 > 4
        · rw [if_pos h3, hj, if_pos (show arityBad x by unfold arityBad; rw [if_pos h1]; exact .inr h3)]
          simp
        · rw [if_neg h3, hj, if_neg (show ¬ arityBad x by unfold arityBad; rw [if_pos h1]; omega)]
          simp
    · rw [if_neg h1, hj]
      by_cases h2 : x.f2 = 2
      · rw [if_neg (show ¬ arityBad x by unfold arityBad; rw [if_neg h1]; omega), if_neg (by simp [h2])]
      · rw [if_pos (show arityBad x by unfold arityBad; rw [if_neg h1]; exact h2), if_pos (by simpa using h2)]
theorem r_sym_l0 (l : List Sym) (hl : l.length ≤ 4611686018427387904) (i : Nat) (hi : i ≤ l.length) (x : Sym) : ∀ (d j k : Nat) (b : Bool), j + d = i → d + i + 3 < k →
    amalgamref01_symbol.l0 k l (i : Int) b j x.f0 x.f1 x.f2 x.f3 = some (if (b && neS l x.f0 d j) = true then tailS l i x else 11) := by
  intro d
  induction d with
  | zero =>
    intro j k b hj hk
    obtain ⟨k, rfl, _⟩ := k_succ hk
    simp only [amalgamref01_symbol.l0]
    rw [if_neg (by omega)]
    have h := r_sym_j1 l hl i hi x k (by omega)
    cases b with
    | false => simp
    | true =>
      rw [if_pos rfl, if_pos (show (true && neS l x.f0 0 j) = true from rfl)]
      by_cases h1 : x.f1 = 1
      · rw [if_pos h1, ← h, decide_eq_false (show ¬ (x.f1 ≠ 1 ∧ x.f1 ≠ 2 ∧ x.f1 ≠ 3) from fun h => h.1 h1)]
      · rw [if_neg h1]
        by_cases h2 : x.f1 = 2
        · rw [if_pos h2, ← h, decide_eq_false (show ¬ (x.f1 ≠ 1 ∧ x.f1 ≠ 2 ∧ x.f1 ≠ 3) from fun h => h.2.1 h2)]
        · rw [if_neg h2, ← h]
          congr 1
          by_cases h3 : x.f1 = 3
          · rw [decide_eq_false (show ¬ (x.f1 ≠ 1 ∧ x.f1 ≠ 2 ∧ x.f1 ≠ 3) from fun h => h.2.2 h3)]; simp [h3]
          · rw [decide_eq_true (show x.f1 ≠ 1 ∧ x.f1 ≠ 2 ∧ x.f1 ≠ 3 from ⟨h1, h2, h3⟩)]; simp [h3]
  | succ d ih =>
    intro j k b hj hk
    obtain ⟨k, rfl, _⟩ := k_succ hk
    simp only [amalgamref01_symbol.l0]
    rw [if_pos (show (j : Int) < (i : Int) by omega), wrap_nat (show j < l.length by omega) hl]
    cases b with
    | false =>
      rw [if_neg (by simp), ih (j + 1) k false (by omega) (by omega)]
      simp
    | true =>
      rw [if_pos rfl, if_pos (show (0 : Int) ≤ (j : Int) by omega), if_pos (show (j : Int) < (l.length : Int) by omega), ih (j + 1) k _ (by omega) (by omega)]
      simp only [neS, Bool.true_and]
      congr 4
      by_cases h : (rd_T62 l (j : Int)).f0 = x.f0
      · rw [decide_eq_false (fun h' => h' h), h]; simp
      · rw [decide_eq_true h]; simp only [bne_iff_ne, ne_eq]; exact fun h' => h (toList_inj h')
theorem r_symbol (l : List Sym) (hl : l.length ≤ 4611686018427387904) (i : Nat) (hi : i < l.length) (k : Nat) (hk : 2 * i + 3 < k) (hk2 : (l[i]).f0.size < k) :
    amalgamref01_symbol.f k l (i : Int) = some (if (nameB (l[i]).f0 && neS l (l[i]).f0 i 0) = true then tailS l i l[i] else 11) := by
  unfold amalgamref01_symbol.f
  rw [if_pos (by omega), if_pos (by omega), rd_sym l i hi, r_name _ k hk2]
  exact r_sym_l0 l hl i (by omega) l[i] i 0 k _ (by omega) (by omega)
theorem neS_iff (l : List Sym) (nm : ByteArray) : ∀ (d j : Nat), j + d ≤ l.length → (neS l nm d j = true ↔ ∀ q (h : q < l.length), j ≤ q → q < j + d → (l[q]).f0 ≠ nm)
  | 0, j, h => by simp [neS]; intro q _ h1 h2; omega
  | d + 1, j, h => by
    simp only [neS, Bool.and_eq_true, decide_eq_true_eq, neS_iff l nm d (j + 1) (by omega)]
    rw [rd_sym l j (by omega)]
    constructor
    · rintro ⟨h1, h2⟩ q hq h3 h4
      rcases Nat.eq_or_lt_of_le h3 with rfl | h5
      · exact h1
      · exact h2 q hq (by omega) (by omega)
    · intro h1
      exact ⟨h1 j (by omega) (Nat.le_refl _) (by omega), fun q hq h2 h3 => h1 q hq (by omega) (by omega)⟩
theorem right_l0 (g : List Sym) (hg : g.length ≤ 16) : ∀ (d i : Nat), i + d = g.length → ∃ r K, (∀ k, K ≤ k → amalgamref01_Check.l0 k g (i : Int) = some r) ∧ (r.1 = 0 → ∀ j (h : j < g.length), i ≤ j → nameB (g[j]).f0 = true ∧ ∀ q (hq : q < j), (g[q]'(by omega)).f0 ≠ (g[j]).f0) := by
  intro d
  induction d with
  | zero =>
    intro i hi
    refine ⟨(0, 0), 1, fun k hk => ?_, fun _ j h1 h2 => by omega⟩
    obtain ⟨k, rfl, _⟩ := k_succ (show 0 < k by omega)
    rw [amalgamref01_Check.l0, if_neg (by omega)]
  | succ d ih =>
    intro i hi
    have hlt : i < g.length := by omega
    have hsym := r_symbol g (by omega) i hlt
    obtain ⟨r, K, h1, h2⟩ := ih (i + 1) (by omega)
    by_cases hn : (nameB (g[i]).f0 && neS g (g[i]).f0 i 0) = true
    · by_cases ht : tailS g i g[i] = 0
      · refine ⟨r, K + 2 * i + (g[i]).f0.size + 5, fun k hk => ?_, fun hr j hj hij => ?_⟩
        · obtain ⟨k, rfl, _⟩ := k_succ (show 0 < k by omega)
          rw [amalgamref01_Check.l0, if_pos (by omega), hsym k (by omega) (by omega), if_pos hn, Option.bind_some, if_pos ht, wrap_nat hlt (by omega)]
          exact h1 k (by omega)
        · rcases Nat.eq_or_lt_of_le hij with rfl | h3
          · simp only [Bool.and_eq_true] at hn
            refine ⟨hn.1, fun q hq => ?_⟩
            exact (neS_iff g (g[i]).f0 i 0 (by omega)).1 hn.2 q (by omega) (by omega) (by omega)
          · exact h2 hr j hj h3
      · refine ⟨(tailS g i g[i], (i : Int)), 2 * i + (g[i]).f0.size + 5, fun k hk => ?_, fun hr => absurd hr ht⟩
        obtain ⟨k, rfl, _⟩ := k_succ (show 0 < k by omega)
        rw [amalgamref01_Check.l0, if_pos (by omega), hsym k (by omega) (by omega), if_pos hn, Option.bind_some, if_neg ht]
    · refine ⟨(11, (i : Int)), 2 * i + (g[i]).f0.size + 5, fun k hk => ?_, fun hr => absurd hr (show ¬ ((11 : Int) = 0) by decide)⟩
      obtain ⟨k, rfl, _⟩ := k_succ (show 0 < k by omega)
      rw [amalgamref01_Check.l0, if_pos (by omega), hsym k (by omega) (by omega), if_neg hn, Option.bind_some, if_neg (show ¬ ((11 : Int) = 0) by decide)]
theorem right_ex (g : List Sym) : ∃ b K, (∀ k, K ≤ k → amalgamref01_Right.f k g = some b) ∧ (b = true → g.length ≤ 16 ∧ ∀ j (h : j < g.length), nameB (g[j]).f0 = true ∧ ∀ q (hq : q < j), (g[q]'(by omega)).f0 ≠ (g[j]).f0) := by
  by_cases hg : (g.length : Int) > 16
  · refine ⟨false, 0, fun k _ => ?_, fun h => by cases h⟩
    unfold amalgamref01_Right.f amalgamref01_Check.f
    rw [if_pos hg]
    rfl
  · obtain ⟨r, K, h1, h2⟩ := right_l0 g (by omega) g.length 0 (by omega)
    refine ⟨r.1 == 0, K, fun k hk => ?_, fun h => ⟨by omega, fun j hj => h2 (by simpa using h) j hj (by omega)⟩⟩
    unfold amalgamref01_Right.f amalgamref01_Check.f
    rw [if_neg hg]
    have h3 := h1 k hk
    rw [show ((0 : Nat) : Int) = 0 from rfl] at h3
    rw [h3]
    rfl
end Go.Proofs.Ytpepjodkahdicaa.Sw
