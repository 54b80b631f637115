/-
  Signatures, plainly: Find, Unit, Check of the program and of the document, each as a plain function. Conditions: each theorem's own.
-/
import Derived.Test.YthbpbbinpkfchaaSpecName
import Derived.Test.YthbpbbinpkfchaaPSigx2
import Derived.Test.YthbpbbinpkfchaaPSigx4
import Derived.Test.YthbpbbinpkfchaaPSigx4
import Derived.Test.YthbpbbinpkfchaaPSigx3
namespace Go.Proofs.Ythbpbbinpkfchaa.Sp
open Go.RowKit Go.Proofs.YthbpbbinpkfchaaW.PrintWords Go.Proofs.Ythbpbbinpkfchaa.PSig
abbrev Sym := S36
/-- the first symbol of this name, from place i on -/
def findFrom (nm : ByteArray) : List Sym → Nat → Int × Bool
  | [], _ => (0, false)
  | x :: r, i => if x.f0.toList = nm.toList then ((i : Int), true) else findFrom nm r (i + 1)
def find (l : List Sym) (nm : ByteArray) : Int × Bool := findFrom nm l 0
theorem rd_sym (l : List Sym) (i : Nat) (h : i < l.length) : rd_T36 l i = l[i] := rd_nat l _ i h

theorem find_l0 (l : List Sym) (nm : ByteArray) (hl : l.length ≤ 4611686018427387904) : ∀ (d i k : Nat), i + d = l.length → d < k → sig_Find.l0 k l nm (l.length : Int) i = some (findFrom nm (l.drop i) i) := by
  intro d
  induction d with
  | zero =>
    intro i k hi hk
    obtain ⟨k, rfl, _⟩ := k_succ hk
    simp only [sig_Find.l0]
    rw [if_neg (by omega), List.drop_eq_nil_of_le (by omega)]
    rfl
  | succ d ih =>
    intro i k hi hk
    obtain ⟨k, rfl, _⟩ := k_succ hk
    have hil : i < l.length := by omega
    simp only [sig_Find.l0]
    rw [if_pos (by omega), if_pos (by omega), if_pos (by omega), rd_sym l i hil, wrap_nat hil hl, ih (i + 1) k (by omega) (by omega), List.drop_eq_getElem_cons hil]
    simp only [findFrom]
    split <;> rfl
theorem find_f (l : List Sym) (nm : ByteArray) (hl : l.length ≤ 4611686018427387904) (k : Nat) (hk : l.length < k) : sig_Find.f k l nm = some (find l nm) := by
  unfold sig_Find.f
  exact find_l0 l nm hl l.length 0 k (by omega) hk
theorem findFrom_false {nm : ByteArray} : ∀ {l : List Sym} {i : Nat}, (findFrom nm l i).2 = false → (findFrom nm l i) = (0, false) ∧ ∀ x ∈ l, x.f0 ≠ nm
  | [], _, _ => ⟨rfl, fun x h => by cases h⟩
  | x :: r, i, h => by
    unfold findFrom at h ⊢
    by_cases e : x.f0.toList = nm.toList
    · rw [if_pos e] at h; cases h
    · rw [if_neg e] at h ⊢
      obtain ⟨h1, h2⟩ := findFrom_false h
      refine ⟨h1, fun y hy => ?_⟩
      rcases List.mem_cons.1 hy with rfl | hy
      · exact fun h => e (by rw [h])
      · exact h2 y hy
theorem findFrom_true {nm : ByteArray} : ∀ {l : List Sym} {i : Nat}, (findFrom nm l i).2 = true → ∃ j : Nat, ∃ h : j < l.length, findFrom nm l i = (((i + j : Nat) : Int), true) ∧ (l[j]).f0 = nm ∧ ∀ q (hq : q < j), (l[q]'(by omega)).f0 ≠ nm
  | [], _, h => by cases h
  | x :: r, i, h => by
    unfold findFrom at h ⊢
    by_cases e : x.f0.toList = nm.toList
    · rw [if_pos e]
      exact ⟨0, by simp, rfl, toList_inj e, fun q hq => by omega⟩
    · rw [if_neg e] at h ⊢
      obtain ⟨j, hj, h1, h2, h3⟩ := findFrom_true h
      refine ⟨j + 1, by simp; omega, by rw [h1, show i + 1 + j = i + (j + 1) by omega], h2, fun q hq => ?_⟩
      cases q with
      | zero => exact fun h => e (by rw [← h]; rfl)
      | succ q => exact h3 q (by omega)
/-- what Find tells, in words -/
theorem find_false {l : List Sym} {nm : ByteArray} (h : (find l nm).2 = false) : find l nm = (0, false) ∧ ∀ x ∈ l, x.f0 ≠ nm := findFrom_false h
theorem find_true {l : List Sym} {nm : ByteArray} (h : (find l nm).2 = true) : ∃ j : Nat, ∃ h : j < l.length, find l nm = ((j : Int), true) ∧ (l[j]).f0 = nm ∧ ∀ q (hq : q < j), (l[q]'(by omega)).f0 ≠ nm := by
  obtain ⟨j, hj, h1, h2, h3⟩ := findFrom_true h
  exact ⟨j, hj, by rw [find, h1, Nat.zero_add], h2, h3⟩
theorem find_of_mem {l : List Sym} {nm : ByteArray} {x : Sym} (h : x ∈ l) (e : x.f0 = nm) : (find l nm).2 = true := by
  cases hf : (find l nm).2 with
  | true => rfl
  | false => exact absurd e ((find_false hf).2 x h)
/-- Find of a list whose names are not met ahead of place j -/
theorem find_at {l : List Sym} {nm : ByteArray} {j : Nat} (hj : j < l.length) (e : (l[j]).f0 = nm) (h : ∀ q (hq : q < j), (l[q]'(by omega)).f0 ≠ nm) : find l nm = ((j : Int), true) := by
  obtain ⟨j', hj', h1, h2, h3⟩ := find_true (find_of_mem (List.getElem_mem hj) e)
  have : j' = j := by
    rcases Nat.lt_trichotomy j' j with hlt | heq | hgt
    · exact absurd h2 (h j' hlt)
    · exact heq
    · exact absurd e (h3 j hgt)
  rw [h1, this]
theorem find_append {l m : List Sym} {nm : ByteArray} (h : (find l nm).2 = true) : find (l ++ m) nm = find l nm := by
  obtain ⟨j, hj, h1, h2, h3⟩ := find_true h
  rw [h1]
  refine find_at (by simp; omega) (by rw [List.getElem_append_left hj]; exact h2) (fun q hq => ?_)
  rw [List.getElem_append_left (by omega)]
  exact h3 q hq

/-- Unit -/
def unit (l : List Sym) (i : Int) : Int × Bool := if h : 0 ≤ i ∧ i < (l.length : Int) then (let x := l[i.toNat]'(by omega); if x.f1 = 3 then find l x.f3 else (0, false)) else (0, false)
theorem unit_f (l : List Sym) (i : Int) (hl : l.length ≤ 4611686018427387904) (k : Nat) (hk : l.length < k) : sig_Unit.f k l i = some (unit l i) := by
  unfold sig_Unit.f unit
  by_cases h0 : i < 0
  · rw [if_pos h0, dif_neg (by omega)]
  · rw [if_neg h0]
    by_cases h1 : i ≥ (l.length : Int)
    · rw [if_pos h1, dif_neg (by omega)]
    · rw [if_neg h1, if_pos (by omega), if_pos (by omega), dif_pos (by omega), find_f l _ hl k hk]
      have e : rd_T36 l i = l[i.toNat]'(by omega) := by
        have := rd_sym l i.toNat (by omega)
        rwa [Int.toNat_of_nonneg (by omega)] at this
      rw [e]
      simp only [Option.bind_some]
      split <;> rfl

/-! Check -/
def arityBad (x : Sym) : Prop := if x.f1 = 1 then (x.f2 < 0 ∨ 4 < x.f2) else x.f2 ≠ 2
instance (x : Sym) : Decidable (arityBad x) := by unfold arityBad; infer_instance
/-- the program's test of a unit -/
def unitOk (ahead : List Sym) (x : Sym) : Bool :=
  if x.f1 = 3 then (match (find ahead x.f3) with | (at_, true) => (let y := rd_T36 ahead at_; decide (y.f0 = x.f3 ∧ y.f1 = 1 ∧ y.f2 = 0 ∧ y.f3.size = 0)) | _ => false) else decide (x.f3.size = 0)
/-- what is wrong with a symbol, those ahead of it being given -/
def wrong (ahead : List Sym) (x : Sym) : Int :=
  if (find ahead x.f0).2 = true ∨ nameB x.f0 = false then 11
  else if x.f1 ≠ 1 ∧ x.f1 ≠ 2 ∧ x.f1 ≠ 3 then 12
  else if arityBad x then 13
  else if unitOk ahead x = false then 14 else 0

theorem wrong_j1 (k : Nat) (most least : Int) (b : Bool) (f0 : ByteArray) (f1 f2 : Int) (f3 : ByteArray) :
    sig_wrong.j1 (k + 2) most least b f0 f1 f2 f3 = some (if f2 < least ∨ most < f2 then 13 else if b = false then 14 else 0) := by
  simp only [sig_wrong.j1]
  by_cases h1 : f2 < least
  · rw [if_pos h1, if_pos (.inl h1)]
    simp [sig_wrong.j2]
  · rw [if_neg h1]
    by_cases h2 : f2 > most
    · rw [decide_eq_true h2, if_pos (.inr h2)]
      simp [sig_wrong.j2]
    · rw [decide_eq_false h2, if_neg (by omega)]
      cases b <;> simp [sig_wrong.j2]
theorem wrong_f (ahead : List Sym) (x : Sym) (hl : ahead.length ≤ 4611686018427387904) (k : Nat) (hk : ahead.length + 4 ≤ k) : sig_wrong.f k ahead x.f0 x.f1 x.f2 x.f3 = some (wrong ahead x) := by
  obtain ⟨k, rfl⟩ : ∃ m, k = m + 3 := ⟨k - 3, by omega⟩
  unfold sig_wrong.f
  rw [find_f ahead _ hl (k + 3) (by omega)]
  have key : ∀ b : Bool, sig_wrong.j0 (k + 3) ahead b x.f0 x.f1 x.f2 x.f3 = some (if b = true then 11 else if x.f1 ≠ 1 ∧ x.f1 ≠ 2 ∧ x.f1 ≠ 3 then 12 else if arityBad x then 13 else if unitOk ahead x = false then 14 else 0) := by
    intro b
    simp only [sig_wrong.j0]
    cases b with
    | true => simp
    | false =>
      simp only [Bool.false_eq_true, if_false]
      by_cases h1 : x.f1 = 1
      · rw [if_pos h1, wrong_j1, if_neg (show ¬ (x.f1 ≠ 1 ∧ x.f1 ≠ 2 ∧ x.f1 ≠ 3) from fun h => h.1 h1)]
        have e1 : (x.f2 < 0 ∨ 4 < x.f2) ↔ arityBad x := by unfold arityBad; rw [if_pos h1]
        have e2 : (x.f3.toList == ([] : List UInt8)) = unitOk ahead x := by
          unfold unitOk
          rw [if_neg (by omega)]
          by_cases h3 : x.f3.size = 0
          · rw [decide_eq_true h3, beq_iff_eq]; exact toList_nil.2 h3
          · rw [decide_eq_false h3, beq_eq_false_iff_ne]; exact fun h => h3 (toList_nil.1 h)
        rw [e2]
        simp only [e1]
      · rw [if_neg h1]
        by_cases h2 : x.f1 = 2
        · rw [if_pos h2, wrong_j1, if_neg (show ¬ (x.f1 ≠ 1 ∧ x.f1 ≠ 2 ∧ x.f1 ≠ 3) from fun h => h.2.1 h2)]
          have e1 : (x.f2 < 2 ∨ 2 < x.f2) ↔ arityBad x := by unfold arityBad; rw [if_neg h1]; omega
          have e2 : (x.f3.toList == ([] : List UInt8)) = unitOk ahead x := by
            unfold unitOk
            rw [if_neg (by omega)]
            by_cases h3 : x.f3.size = 0
            · rw [decide_eq_true h3, beq_iff_eq]; exact toList_nil.2 h3
            · rw [decide_eq_false h3, beq_eq_false_iff_ne]; exact fun h => h3 (toList_nil.1 h)
          rw [e2]
          simp only [e1]
        · rw [if_neg h2]
          by_cases h3 : x.f1 = 3
          · have e1 : (x.f2 < 2 ∨ 2 < x.f2) ↔ arityBad x := by unfold arityBad; rw [if_neg h1]; omega
            rw [if_pos h3, find_f ahead _ hl (k + 2) (by omega), if_neg (show ¬ (x.f1 ≠ 1 ∧ x.f1 ≠ 2 ∧ x.f1 ≠ 3) from fun h => h.2.2 h3)]
            simp only [Option.bind_some]
            have eu : unitOk ahead x = (match (find ahead x.f3) with | (at_, true) => (let y := rd_T36 ahead at_; decide (y.f0 = x.f3 ∧ y.f1 = 1 ∧ y.f2 = 0 ∧ y.f3.size = 0)) | _ => false) := by
              unfold unitOk; rw [if_pos h3]
            cases hf : (find ahead x.f3).2 with
            | false =>
              have e := (find_false hf).1
              rw [e] at eu ⊢
              rw [if_neg (by simp), wrong_j1, eu]
              simp only [e1]
            | true =>
              obtain ⟨j, hj, e, _, _⟩ := find_true hf
              rw [e] at eu ⊢
              simp only [if_true]
              rw [if_pos (by omega), if_pos (by omega)]
              simp only [sig_constant.f, Option.bind_some]
              rw [wrong_j1, eu]
              have e4 : ((rd_T36 ahead (j : Int)).f0.toList == x.f3.toList && ((rd_T36 ahead (j : Int)).f1 == 1 && ((rd_T36 ahead (j : Int)).f2 == 0 && ((rd_T36 ahead (j : Int)).f3.toList == (⟨#[]⟩ : ByteArray).toList)))) =
                  decide ((rd_T36 ahead (j : Int)).f0 = x.f3 ∧ (rd_T36 ahead (j : Int)).f1 = 1 ∧ (rd_T36 ahead (j : Int)).f2 = 0 ∧ (rd_T36 ahead (j : Int)).f3.size = 0) := by
                rw [show (⟨#[]⟩ : ByteArray).toList = ([] : List UInt8) from toList_nil.2 rfl]
                rw [Bool.eq_iff_iff]
                simp only [Bool.and_eq_true, beq_iff_eq, decide_eq_true_eq, toList_iff, toList_nil]
              rw [e4]
              simp only [e1]
          · rw [if_neg h3, if_pos ⟨h1, h2, h3⟩]
  simp only [Option.bind_some, key]
  unfold wrong
  cases hf : (find ahead x.f0).2 with
  | true => simp
  | false =>
    simp only [Bool.false_eq_true, if_false, false_or, sig_Name.f, Option.bind_some]
    cases nameB x.f0 <;> simp
theorem wrong_zero {ahead : List Sym} {x : Sym} (h : wrong ahead x = 0) : (find ahead x.f0).2 = false ∧ nameB x.f0 = true ∧ (x.f1 = 1 ∨ x.f1 = 2 ∨ x.f1 = 3) ∧ ¬ arityBad x ∧ unitOk ahead x = true := by
  unfold wrong at h
  by_cases h1 : (find ahead x.f0).2 = true ∨ nameB x.f0 = false
  · rw [if_pos h1] at h; cases h
  · rw [if_neg h1] at h
    by_cases h2 : x.f1 ≠ 1 ∧ x.f1 ≠ 2 ∧ x.f1 ≠ 3
    · rw [if_pos h2] at h; cases h
    · rw [if_neg h2] at h
      by_cases h3 : arityBad x
      · rw [if_pos h3] at h; cases h
      · rw [if_neg h3] at h
        by_cases h4 : unitOk ahead x = false
        · rw [if_pos h4] at h; cases h
        · simp only [not_or, Bool.not_eq_true, Bool.not_eq_false] at h1 h4
          exact ⟨h1.1, h1.2, by omega, h3, h4⟩
/-- the first error from place i on -/
def checkFrom (l : List Sym) : Nat → Nat → Int × Int
  | 0, _ => (0, 0)
  | d + 1, i => let e := wrong (l.take i) (rd_T36 l (i : Int)); if e = 0 then checkFrom l d (i + 1) else (e, (i : Int))
def check (l : List Sym) : Int × Int := if (l.length : Int) > 16 then (15, 0) else checkFrom l l.length 0
theorem check_l0 (l : List Sym) (hl : l.length ≤ 16) : ∀ (d i k : Nat), i + d = l.length → d + l.length + 4 < k → sig_Check.l0 k l l (l.length : Int) i = some (checkFrom l d i) := by
  intro d
  induction d with
  | zero =>
    intro i k hi hk
    obtain ⟨k, rfl, _⟩ := k_succ hk
    simp only [sig_Check.l0]
    rw [if_neg (by omega)]
    rfl
  | succ d ih =>
    intro i k hi hk
    obtain ⟨k, rfl, _⟩ := k_succ hk
    have hil : i < l.length := by omega
    simp only [sig_Check.l0]
    rw [if_pos (by omega), if_pos (by omega), if_pos (by omega), if_pos (by omega), Int.toNat_natCast, wrong_f (l.take i) (rd_T36 l (i : Int)) (by simp; omega) k (by simp; omega), wrap_nat hil (by omega), ih (i + 1) k (by omega) (by omega)]
    simp only [Option.bind_some, checkFrom]
    split <;> rfl
theorem check_f (l : List Sym) (k : Nat) (hk : 2 * l.length + 4 < k) : sig_Check.f k l = some (check l) := by
  unfold sig_Check.f check
  by_cases h : (l.length : Int) > 16
  · rw [if_pos h, if_pos h]
  · rw [if_neg h, if_neg h]
    exact check_l0 l (by omega) l.length 0 k (by omega) (by omega)
/-- a right signature: each symbol is right by those ahead of it -/
def Right (l : List Sym) : Prop := l.length ≤ 16 ∧ ∀ i (h : i < l.length), wrong (l.take i) l[i] = 0
theorem checkFrom_ok (l : List Sym) : ∀ (d i : Nat), i + d = l.length → ((checkFrom l d i).1 = 0 ↔ ∀ j (h : j < l.length), i ≤ j → wrong (l.take j) l[j] = 0)
  | 0, i, hi => ⟨fun _ j h hij => by omega, fun _ => rfl⟩
  | d + 1, i, hi => by
    have hil : i < l.length := by omega
    simp only [checkFrom]
    rw [rd_sym l i hil]
    by_cases e : wrong (l.take i) l[i] = 0
    · rw [if_pos e, checkFrom_ok l d (i + 1) (by omega)]
      constructor
      · intro h j hj hij
        rcases Nat.eq_or_lt_of_le hij with rfl | hlt
        · exact e
        · exact h j hj hlt
      · intro h j hj hij
        exact h j hj (by omega)
    · rw [if_neg e]
      constructor
      · intro h; exact absurd h e
      · intro h; exact absurd (h i hil (Nat.le_refl _)) e
theorem check_ok (l : List Sym) : (check l).1 = 0 ↔ Right l := by
  unfold check Right
  by_cases h : (l.length : Int) > 16
  · rw [if_pos h]
    constructor
    · intro h; cases h
    · intro h'; omega
  · rw [if_neg h, checkFrom_ok l l.length 0 (by omega)]
    constructor
    · intro h'; exact ⟨by omega, fun i hi => h' i hi (by omega)⟩
    · intro h' j hj _; exact h'.2 j hj
theorem checkFrom_at (l : List Sym) : ∀ (d i : Nat), i + d = l.length → (checkFrom l d i = (0, 0)) ∨ ∃ j : Nat, i ≤ j ∧ ∃ h : j < l.length, checkFrom l d i = (wrong (l.take j) l[j], (j : Int)) ∧ wrong (l.take j) l[j] ≠ 0 ∧ ∀ q (_ : q < j), i ≤ q → wrong (l.take q) (l[q]'(by omega)) = 0
  | 0, i, hi => .inl rfl
  | d + 1, i, hi => by
    have hil : i < l.length := by omega
    simp only [checkFrom]
    rw [rd_sym l i hil]
    by_cases e : wrong (l.take i) l[i] = 0
    · rw [if_pos e]
      rcases checkFrom_at l d (i + 1) (by omega) with h | ⟨j, hj, hl, h1, h2, h3⟩
      · exact .inl h
      · refine .inr ⟨j, by omega, hl, h1, h2, fun q hq hiq => ?_⟩
        rcases Nat.eq_or_lt_of_le hiq with rfl | hlt
        · exact e
        · exact h3 q hq hlt
    · rw [if_neg e]
      exact .inr ⟨i, Nat.le_refl _, hil, rfl, e, fun q hq hiq => by omega⟩
end Go.Proofs.Ythbpbbinpkfchaa.Sp
