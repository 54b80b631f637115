/-
  The document's Check, plainly: it tells what the program's Check tells. Conditions: each theorem's own.
-/
import Derived.Test.YthbpbbinpkfchaaSpecUnits
import Derived.Test.YthbpbbinpkfchaaPSigx10
import Derived.Test.YthbpbbinpkfchaaPSigx9
import Derived.Test.YthbpbbinpkfchaaPSigx10
namespace Go.Proofs.Ythbpbbinpkfchaa.Sp
open Go.RowKit Go.Proofs.YthbpbbinpkfchaaW.PrintWords Go.Proofs.Ythbpbbinpkfchaa.PSig
def neS (l : List Sym) (nm : ByteArray) : Nat → Nat → Bool
  | 0, _ => true
  | d + 1, j => decide ((rd_T36 l (j : Int)).f0 ≠ nm) && neS l nm d (j + 1)
def exS (l : List Sym) (u : ByteArray) : Nat → Nat → Bool
  | 0, _ => false
  | d + 1, j => decide ((rd_T36 l (j : Int)).f1 = 1 ∧ (rd_T36 l (j : Int)).f2 = 0 ∧ (rd_T36 l (j : Int)).f0 = u) || exS l u d (j + 1)
def tailS (l : List Sym) (i : Nat) (x : Sym) : Int :=
  if x.f1 ≠ 1 ∧ x.f1 ≠ 2 ∧ x.f1 ≠ 3 then 12 else if arityBad x then 13 else if x.f1 = 3 then (if exS l x.f3 i 0 = true then 0 else 14) else (if x.f3.size = 0 then 0 else 14)
theorem r_sym_l1 (l : List Sym) (hl : l.length ≤ 4611686018427387904) (i : Nat) (hi : i ≤ l.length) (f0 : ByteArray) (f1 f2 : Int) (f3 : ByteArray) : ∀ (d j k : Nat), j + d = i → d < k →
    amalgamref01_symbol.l1 k l (i : Int) j f0 f1 f2 f3 = some (if exS l f3 d j = true then 0 else 14) := by
  intro d
  induction d with
  | zero =>
    intro j k hj hk
    obtain ⟨k, rfl, _⟩ := k_succ hk
    simp only [amalgamref01_symbol.l1]
    rw [if_neg (by omega)]
    simp [exS]
  | succ d ih =>
    intro j k hj hk
    obtain ⟨k, rfl, _⟩ := k_succ hk
    simp only [amalgamref01_symbol.l1]
    rw [if_pos (show (j : Int) < (i : Int) by omega), if_pos (show (0 : Int) ≤ (j : Int) by omega), if_pos (show (j : Int) < (l.length : Int) by omega), wrap_nat (show j < l.length by omega) hl, ih (j + 1) k (by omega) (by omega)]
    have hn : ¬ ((rd_T36 l (j : Int)).f1 = 1 ∧ (rd_T36 l (j : Int)).f2 = 0 ∧ (rd_T36 l (j : Int)).f0 = f3) → exS l f3 (d + 1) j = exS l f3 d (j + 1) := fun h => by
      simp only [exS, decide_eq_false h, Bool.false_or]
    by_cases h1 : (rd_T36 l (j : Int)).f1 = 1
    · rw [if_pos h1]
      by_cases h2 : (rd_T36 l (j : Int)).f2 = 0
      · rw [if_pos h2]
        by_cases h3 : (rd_T36 l (j : Int)).f0.toList = f3.toList
        · have e : exS l f3 (d + 1) j = true := by
            simp only [exS, decide_eq_true (show (rd_T36 l (j : Int)).f1 = 1 ∧ (rd_T36 l (j : Int)).f2 = 0 ∧ (rd_T36 l (j : Int)).f0 = f3 from ⟨h1, h2, toList_inj h3⟩), Bool.true_or]
          rw [if_pos h3, if_pos e]
        · rw [if_neg h3, hn (fun h => h3 (by rw [h.2.2]))]
      · rw [if_neg h2, hn (fun h => h2 h.2.1)]
    · rw [if_neg h1, hn (fun h => h1 h.1)]
theorem r_sym_j2 (l : List Sym) (hl : l.length ≤ 4611686018427387904) (i : Nat) (hi : i ≤ l.length) (x : Sym) (k : Nat) (hk : i + 1 < k) (b : Bool) :
    amalgamref01_symbol.j2 k l (i : Int) b x.f0 x.f1 x.f2 x.f3 = some (if b = true then 13 else if x.f1 = 3 then (if exS l x.f3 i 0 = true then 0 else 14) else (if x.f3.size = 0 then 0 else 14)) := by
  obtain ⟨k, rfl, _⟩ := k_succ hk
  simp only [amalgamref01_symbol.j2]
  cases b with
  | true => simp
  | false =>
    have h := r_sym_l1 l hl i hi x.f0 x.f1 x.f2 x.f3 i 0 k (by omega) (by omega)
    rw [show amalgamref01_symbol.l1 k l (i : Int) 0 x.f0 x.f1 x.f2 x.f3 = _ from h]
    simp only [Bool.false_eq_true, if_false]
    by_cases h3 : x.f1 = 3
    · rw [if_pos h3, if_pos h3]
    · rw [if_neg h3, if_neg h3]
      by_cases h4 : x.f3.size = 0
      · rw [if_pos (toList_nil.2 h4), if_pos h4]
      · rw [if_neg (fun h => h4 (toList_nil.1 h)), if_neg h4]
theorem r_sym_j1 (l : List Sym) (hl : l.length ≤ 4611686018427387904) (i : Nat) (hi : i ≤ l.length) (x : Sym) (k : Nat) (hk : i + 2 < k) :
    amalgamref01_symbol.j1 k l (i : Int) (decide (x.f1 ≠ 1 ∧ x.f1 ≠ 2 ∧ x.f1 ≠ 3)) x.f0 x.f1 x.f2 x.f3 = some (tailS l i x) := by
  obtain ⟨k, rfl, _⟩ := k_succ hk
  simp only [amalgamref01_symbol.j1]
  unfold tailS
  by_cases h : x.f1 ≠ 1 ∧ x.f1 ≠ 2 ∧ x.f1 ≠ 3
  · rw [decide_eq_true h, if_pos rfl, if_pos h]
  · rw [decide_eq_false h, if_neg (by simp), if_neg h]
    have hj := r_sym_j2 l hl i hi x k (by omega)
    by_cases h1 : x.f1 = 1
    · rw [if_pos h1]
      by_cases h2 : x.f2 < 0
      · rw [if_pos h2, hj, if_pos (show arityBad x by unfold arityBad; rw [if_pos h1]; exact .inl h2)]
        simp
      · rw [if_neg h2]
        by_cases h3 : x.f2 > 4
        · rw [if_pos h3, hj, if_pos (show arityBad x by unfold arityBad; rw [if_pos h1]; exact .inr h3)]
          simp
        · rw [if_neg h3, hj, if_neg (show ¬ arityBad x by unfold arityBad; rw [if_pos h1]; omega)]
          simp
    · rw [if_neg h1, hj]
      by_cases h2 : x.f2 = 2
      · rw [if_neg (show ¬ arityBad x by unfold arityBad; rw [if_neg h1]; omega), if_neg (by simp [h2])]
      · rw [if_pos (show arityBad x by unfold arityBad; rw [if_neg h1]; exact h2), if_pos (by simpa using h2)]
theorem r_sym_l0 (l : List Sym) (hl : l.length ≤ 4611686018427387904) (i : Nat) (hi : i ≤ l.length) (x : Sym) : ∀ (d j k : Nat) (b : Bool), j + d = i → d + i + 3 < k →
    amalgamref01_symbol.l0 k l (i : Int) b j x.f0 x.f1 x.f2 x.f3 = some (if (b && neS l x.f0 d j) = true then tailS l i x else 11) := by
  intro d
  induction d with
  | zero =>
    intro j k b hj hk
    obtain ⟨k, rfl, _⟩ := k_succ hk
    simp only [amalgamref01_symbol.l0]
    rw [if_neg (by omega)]
    have h := r_sym_j1 l hl i hi x k (by omega)
    cases b with
    | false => simp
    | true =>
      rw [if_pos rfl, if_pos (show (true && neS l x.f0 0 j) = true from rfl)]
      by_cases h1 : x.f1 = 1
      · rw [if_pos h1, ← h, decide_eq_false (show ¬ (x.f1 ≠ 1 ∧ x.f1 ≠ 2 ∧ x.f1 ≠ 3) from fun h => h.1 h1)]
      · rw [if_neg h1]
        by_cases h2 : x.f1 = 2
        · rw [if_pos h2, ← h, decide_eq_false (show ¬ (x.f1 ≠ 1 ∧ x.f1 ≠ 2 ∧ x.f1 ≠ 3) from fun h => h.2.1 h2)]
        · rw [if_neg h2, ← h]
          congr 1
          by_cases h3 : x.f1 = 3
          · rw [decide_eq_false (show ¬ (x.f1 ≠ 1 ∧ x.f1 ≠ 2 ∧ x.f1 ≠ 3) from fun h => h.2.2 h3)]; simp [h3]
          · rw [decide_eq_true (show x.f1 ≠ 1 ∧ x.f1 ≠ 2 ∧ x.f1 ≠ 3 from ⟨h1, h2, h3⟩)]; simp [h3]
  | succ d ih =>
    intro j k b hj hk
    obtain ⟨k, rfl, _⟩ := k_succ hk
    simp only [amalgamref01_symbol.l0]
    rw [if_pos (show (j : Int) < (i : Int) by omega), wrap_nat (show j < l.length by omega) hl]
    cases b with
    | false =>
      rw [if_neg (by simp), ih (j + 1) k false (by omega) (by omega)]
      simp
    | true =>
      rw [if_pos rfl, if_pos (show (0 : Int) ≤ (j : Int) by omega), if_pos (show (j : Int) < (l.length : Int) by omega), ih (j + 1) k _ (by omega) (by omega)]
      simp only [neS, Bool.true_and]
      congr 4
      by_cases h : (rd_T36 l (j : Int)).f0 = x.f0
      · rw [decide_eq_false (fun h' => h' h), h]; simp
      · rw [decide_eq_true h]; simp only [bne_iff_ne, ne_eq]; exact fun h' => h (toList_inj h')
theorem r_symbol (l : List Sym) (hl : l.length ≤ 4611686018427387904) (i : Nat) (hi : i < l.length) (hs : (l[i]).f0.size ≤ 140737488351232) (k : Nat) (hk : 2 * i + 3 < k) (hk2 : (l[i]).f0.size < k) :
    amalgamref01_symbol.f k l (i : Int) = some (if (nameB (l[i]).f0 && neS l (l[i]).f0 i 0) = true then tailS l i l[i] else 11) := by
  unfold amalgamref01_symbol.f
  rw [if_pos (by omega), if_pos (by omega), rd_sym l i hi, r_name _ hs k hk2]
  exact r_sym_l0 l hl i (by omega) l[i] i 0 k _ (by omega) (by omega)
theorem neS_iff (l : List Sym) (nm : ByteArray) : ∀ (d j : Nat), j + d ≤ l.length → (neS l nm d j = true ↔ ∀ q (h : q < l.length), j ≤ q → q < j + d → (l[q]).f0 ≠ nm)
  | 0, j, h => by simp [neS]; intro q _ h1 h2; omega
  | d + 1, j, h => by
    simp only [neS, Bool.and_eq_true, decide_eq_true_eq, neS_iff l nm d (j + 1) (by omega)]
    rw [rd_sym l j (by omega)]
    constructor
    · rintro ⟨h1, h2⟩ q hq h3 h4
      rcases Nat.eq_or_lt_of_le h3 with rfl | h5
      · exact h1
      · exact h2 q hq (by omega) (by omega)
    · intro h1
      exact ⟨h1 j (by omega) (Nat.le_refl _) (by omega), fun q hq h2 h3 => h1 q hq (by omega) (by omega)⟩
theorem exS_iff (l : List Sym) (u : ByteArray) : ∀ (d j : Nat), j + d ≤ l.length → (exS l u d j = true ↔ ∃ q, ∃ h : q < l.length, j ≤ q ∧ q < j + d ∧ (l[q]).f1 = 1 ∧ (l[q]).f2 = 0 ∧ (l[q]).f0 = u)
  | 0, j, h => by simp [exS]; intro q _ h1 h2; omega
  | d + 1, j, h => by
    simp only [exS, Bool.or_eq_true, decide_eq_true_eq, exS_iff l u d (j + 1) (by omega)]
    rw [rd_sym l j (by omega)]
    constructor
    · rintro (h1 | ⟨q, hq, h2, h3, h4⟩)
      · exact ⟨j, by omega, Nat.le_refl _, by omega, h1⟩
      · exact ⟨q, hq, by omega, by omega, h4⟩
    · rintro ⟨q, hq, h2, h3, h4⟩
      rcases Nat.eq_or_lt_of_le h2 with rfl | h5
      · exact .inl h4
      · exact .inr ⟨q, hq, by omega, by omega, h4⟩
/-- one symbol, those ahead of it being right: the same error -/
theorem r_wrong (l : List Sym) (i : Nat) (hi : i < l.length) (hr : ∀ j (h : j < i), wrong (l.take j) (l[j]'(by omega)) = 0) :
    (if (nameB (l[i]).f0 && neS l (l[i]).f0 i 0) = true then tailS l i l[i] else 11) = wrong (l.take i) l[i] := by
  have h1 : (find (l.take i) l[i].f0).2 = !(neS l (l[i]).f0 i 0) := by
    cases hn : neS l (l[i]).f0 i 0 with
    | true =>
      have hn := (neS_iff l _ i 0 (by omega)).1 hn
      cases hf : (find (l.take i) l[i].f0).2 with
      | false => rfl
      | true =>
        obtain ⟨j, hj, _, e, _⟩ := find_true hf
        have hj' : j < i := by simp at hj; omega
        rw [List.getElem_take] at e
        exact absurd e (hn j (by omega) (by omega) (by omega))
    | false =>
      have : ¬ ∀ q (h : q < l.length), 0 ≤ q → q < 0 + i → (l[q]).f0 ≠ l[i].f0 := fun h => by
        rw [(neS_iff l _ i 0 (by omega)).2 h] at hn; cases hn
      simp only [Classical.not_forall] at this
      obtain ⟨q, hq, _, h2, h3⟩ := this
      refine find_of_mem (x := l[q]) (by rw [List.mem_take_iff_getElem]; exact ⟨q, by omega, rfl⟩) (Classical.not_not.1 h3)
  unfold wrong
  rw [h1]
  by_cases h2 : (nameB (l[i]).f0 && neS l (l[i]).f0 i 0) = true
  · rw [if_pos h2]
    simp only [Bool.and_eq_true] at h2
    rw [h2.1, h2.2, if_neg (by simp)]
    unfold tailS
    by_cases h3 : l[i].f1 ≠ 1 ∧ l[i].f1 ≠ 2 ∧ l[i].f1 ≠ 3
    · rw [if_pos h3, if_pos h3]
    · rw [if_neg h3, if_neg h3]
      by_cases h4 : arityBad l[i]
      · rw [if_pos h4, if_pos h4]
      · rw [if_neg h4, if_neg h4]
        by_cases h5 : l[i].f1 = 3
        · have eu : unitOk (l.take i) l[i] = exS l l[i].f3 i 0 := by
            cases h6 : exS l l[i].f3 i 0 with
            | true =>
              obtain ⟨q, hq, _, h7, h8, h9, h10⟩ := (exS_iff l _ i 0 (by omega)).1 h6
              have hu : ∀ p (hp : p < q), (l[p]'(by omega)).f0 ≠ l[i].f3 := by
                intro p hp e
                have := (wrong_zero (hr q (by omega))).1
                rw [find_of_mem (x := l[p]'(by omega)) (by rw [List.mem_take_iff_getElem]; exact ⟨p, by omega, rfl⟩) (by rw [e, h10])] at this
                cases this
              have hf : find (l.take i) l[i].f3 = ((q : Int), true) := find_at (by simp; omega) (by rw [List.getElem_take]; exact h10) (fun p hp => by rw [List.getElem_take]; exact hu p hp)
              have h11 := (wrong_zero (hr q (by omega))).2.2.2.2
              unfold unitOk at h11 ⊢
              rw [if_neg (by omega)] at h11
              rw [if_pos h5, hf]
              dsimp only
              rw [rd_sym (l.take i) q (by simp; omega), List.getElem_take]
              exact decide_eq_true ⟨h10, h8, h9, of_decide_eq_true h11⟩
            | false =>
              unfold unitOk
              rw [if_pos h5]
              cases hf : (find (l.take i) l[i].f3).2 with
              | false => rw [(find_false hf).1]
              | true =>
                obtain ⟨j, hj, e, h7, _⟩ := find_true hf
                rw [e]
                dsimp only
                rw [rd_sym (l.take i) j hj]
                refine decide_eq_false ?_
                rintro ⟨g1, g2, g3, _⟩
                have hj' : j < i := by simp at hj; omega
                rw [List.getElem_take] at g1 g2 g3
                rw [(exS_iff l _ i 0 (by omega)).2 ⟨j, by omega, by omega, by omega, g2, g3, g1⟩] at h6
                cases h6
          rw [if_pos h5, eu]
          cases exS l l[i].f3 i 0 <;> simp
        · have eu : unitOk (l.take i) l[i] = decide (l[i].f3.size = 0) := by unfold unitOk; rw [if_neg h5]
          rw [if_neg h5, eu]
          by_cases h6 : l[i].f3.size = 0
          · rw [if_pos h6, if_neg (by simp [h6])]
          · rw [if_neg h6, if_pos (by simp [h6])]
  · rw [if_neg h2, if_pos]
    simp only [Bool.and_eq_true, not_and, Bool.not_eq_true] at h2
    cases hb : nameB l[i].f0 with
    | false => exact .inr rfl
    | true => rw [h2 hb]; exact .inl rfl
theorem r_check_l0 (l : List Sym) (hl : l.length ≤ 16) (hs : ∀ x ∈ l, x.f0.size ≤ 140737488351232) (M : Nat) (hM : ∀ x ∈ l, x.f0.size ≤ M) : ∀ (d i k : Nat), i + d = l.length → (∀ j (h : j < l.length), j < i → wrong (l.take j) l[j] = 0) → d + M + 40 < k →
    amalgamref01_Check.l0 k l i = some (checkFrom l d i) := by
  intro d
  induction d with
  | zero =>
    intro i k hi _ hk
    obtain ⟨k, rfl, _⟩ := k_succ hk
    simp only [amalgamref01_Check.l0]
    rw [if_neg (by omega)]
    rfl
  | succ d ih =>
    intro i k hi hr hk
    obtain ⟨k, rfl, _⟩ := k_succ hk
    have hil : i < l.length := by omega
    have hm := hM _ (List.getElem_mem hil)
    simp only [amalgamref01_Check.l0]
    rw [if_pos (by omega), r_symbol l (by omega) i hil (hs _ (List.getElem_mem hil)) k (by omega) (by omega), r_wrong l i hil (fun j h => hr j (by omega) h), wrap_nat hil (by omega)]
    simp only [Option.bind_some, checkFrom]
    rw [rd_sym l i hil]
    by_cases e : wrong (l.take i) l[i] = 0
    · rw [if_pos e, if_pos e]
      refine ih (i + 1) k (by omega) (fun j hj' hj => ?_) (by omega)
      rcases Nat.lt_or_ge j i with h | h
      · exact hr j hj' h
      · have : j = i := by omega
        subst this; exact e
    · rw [if_neg e, if_neg e]
theorem r_check_f (l : List Sym) (hs : ∀ x ∈ l, x.f0.size ≤ 140737488351232) (M : Nat) (hM : ∀ x ∈ l, x.f0.size ≤ M) (k : Nat) (hk : l.length + M + 40 < k) : amalgamref01_Check.f k l = some (check l) := by
  unfold amalgamref01_Check.f check
  by_cases h : (l.length : Int) > 16
  · rw [if_pos h, if_pos h]
  · rw [if_neg h, if_neg h]
    exact r_check_l0 l (by omega) hs M hM l.length 0 k (by omega) (fun j _ h => by omega) (by omega)
theorem r_same_l0 (l : List Sym) (hl : l.length ≤ 4611686018427387904) : ∀ (d i k : Nat), i + d = l.length → d < k → amalgamref01_Same.l0 k l l i = some true := by
  intro d
  induction d with
  | zero =>
    intro i k hi hk
    obtain ⟨k, rfl, _⟩ := k_succ hk
    simp only [amalgamref01_Same.l0]
    rw [if_neg (by omega)]
  | succ d ih =>
    intro i k hi hk
    obtain ⟨k, rfl, _⟩ := k_succ hk
    simp only [amalgamref01_Same.l0]
    rw [if_pos (by omega), if_pos (by omega), if_pos (by omega), wrap_nat (show i < l.length by omega) hl]
    simp only [if_true]
    exact ih (i + 1) k (by omega) (by omega)
theorem r_same (l : List Sym) (hl : l.length ≤ 4611686018427387904) (k : Nat) (hk : l.length < k) : amalgamref01_Same.f k l l = some true := by
  unfold amalgamref01_Same.f
  rw [if_pos rfl]
  exact r_same_l0 l hl l.length 0 k (by omega) hk
theorem max_name (l : List Sym) : ∃ M, ∀ x ∈ l, x.f0.size ≤ M := by
  induction l with
  | nil => exact ⟨0, fun s h => by cases h⟩
  | cons x r ih =>
    obtain ⟨M, hM⟩ := ih
    refine ⟨x.f0.size + M, fun s h => ?_⟩
    rcases List.mem_cons.1 h with rfl | h
    · omega
    · have := hM s h; omega
end Go.Proofs.Ythbpbbinpkfchaa.Sp
