/-
  SigStays, plainly: what is right stays right without its last symbol, and plain; each symbol is found by its name; plain ones have no units. Conditions: none beyond what an argument's reading gives.
-/
import Derived.Test.YthbpbbinpkfchaaSpecUnits
import Derived.Test.YthbpbbinpkfchaaSpecHead
import Derived.Test.YthbpbbinpkfchaaOpenSym
import Derived.Test.YthbpbbinpkfchaaPSigx15
namespace Go.Proofs.Ythbpbbinpkfchaa.Pure
open Go.RowKit Go.Proofs.YthbpbbinpkfchaaW.PrintWords Go.Proofs.Ythbpbbinpkfchaa.PSig Go.Proofs.Ythbpbbinpkfchaa.Sp
theorem right_take {l : List Sym} (h : Right l) (n : Nat) (hn : n ≤ l.length) : Right (l.take n) := by
  refine ⟨by have := h.1; simp; omega, fun i hi => ?_⟩
  have hi' : i < n := by simp at hi; omega
  have := h.2 i (by omega)
  rw [List.take_take, Nat.min_eq_left (by omega), List.getElem_take]
  exact this
theorem right_find {l : List Sym} (h : Right l) (i : Nat) (hi : i < l.length) : find l (l[i]).f0 = ((i : Int), true) := by
  refine find_at hi rfl (fun q hq e => ?_)
  have : (find (l.take i) l[i].f0).2 = true := find_of_mem (x := l[q]'(by omega)) (by
    rw [List.mem_take_iff_getElem]
    exact ⟨q, by omega, rfl⟩) e
  rw [(wrong_zero (h.2 i hi)).1] at this
  cases this
theorem plain1_f0 (x : Sym) : (plain1 x).f0 = x.f0 := by unfold plain1; split <;> rfl
theorem right_plain {l : List Sym} (h : Right l) : Right (l.map plain1) := by
  refine ⟨by rw [List.length_map]; exact h.1, fun i hi => ?_⟩
  have hi' : i < l.length := by rwa [List.length_map] at hi
  obtain ⟨h1, h2, h3, h4, h5⟩ := wrong_zero (h.2 i hi')
  rw [List.getElem_map, ← List.map_take]
  have g1 : (find ((l.take i).map plain1) (plain1 l[i]).f0).2 = false := by
    cases hf : (find ((l.take i).map plain1) (plain1 l[i]).f0).2 with
    | false => rfl
    | true =>
      obtain ⟨j, hj, _, e, _⟩ := find_true hf
      rw [List.getElem_map, plain1_f0, plain1_f0] at e
      rw [find_of_mem (List.getElem_mem (by rwa [List.length_map] at hj)) e] at h1
      cases h1
  unfold wrong
  rw [plain1_f0] at g1 ⊢
  rw [if_neg (by rw [g1, h2]; simp)]
  have a1 : ¬ arityBad (plain1 l[i]) := by
    unfold plain1
    split
    · rename_i h6
      unfold arityBad at h4 ⊢
      rw [if_neg (by omega)] at h4
      simpa using h4
    · exact h4
  have a2 : unitOk ((l.take i).map plain1) (plain1 l[i]) = true := by
    unfold plain1
    split
    · unfold unitOk
      rw [if_neg (by simp)]
      rfl
    · rename_i h6
      unfold unitOk at h5 ⊢
      rw [if_neg h6] at h5 ⊢
      exact h5
  have a3 : (plain1 l[i]).f1 = 1 ∨ (plain1 l[i]).f1 = 2 := by
    unfold plain1
    split
    · exact .inr rfl
    · omega
  rw [if_neg (by omega), if_neg a1, if_neg (by rw [a2]; simp)]
theorem units_plain (l : List Sym) : units (l.map plain1) = [] := by
  have : ∀ i, isUnit (l.map plain1) i = false := by
    intro i
    cases h : isUnit (l.map plain1) i with
    | false => rfl
    | true =>
      obtain ⟨m, _, _, hu⟩ := (anyFrom_iff _ _ _ _).1 h
      unfold unit at hu
      split at hu
      · dsimp only at hu
        rw [List.getElem_map] at hu
        rw [if_neg (by unfold plain1; split <;> simp_all)] at hu
        cases hu
      · cases hu
  have h2 : ∀ d i, sel (isUnit (l.map plain1)) d i = [] := by
    intro d
    induction d with
    | zero => intro i; rfl
    | succ d ih => intro i; unfold sel; rw [this i, ih]; simp
  exact h2 _ _
theorem stays_l0 (l : List Sym) (hr : Right l) : ∀ (d i k : Nat), i + d = l.length → d + 60 < k → amalgamlaw01_SigStays.l0 k l i = some true := by
  intro d
  have h16 := hr.1
  induction d with
  | zero =>
    intro i k hi hk
    obtain ⟨k, rfl, _⟩ := k_succ hk
    simp only [amalgamlaw01_SigStays.l0]
    rw [if_neg (by omega), plain_f l (by omega) k (by omega)]
    simp only [Option.bind_some]
    rw [check_f _ k (by simp; omega)]
    simp only [Option.bind_some]
    rw [if_pos ((check_ok _).2 (right_plain hr)), if_pos (by simp), units_f _ (by simp; omega) k (by simp; omega), units_plain]
    rfl
  | succ d ih =>
    intro i k hi hk
    obtain ⟨k, rfl, _⟩ := k_succ hk
    have hil : i < l.length := by omega
    simp only [amalgamlaw01_SigStays.l0]
    rw [if_pos (by omega), if_pos (by omega), if_pos (by omega), Int.toNat_natCast, check_f _ k (by simp; omega), rd_sym l i hil, find_f l _ (by omega) k (by omega), right_find hr i hil]
    simp only [Option.bind_some]
    rw [if_pos ((check_ok _).2 (right_take hr i (by omega))), if_pos True.intro, if_pos True.intro, wrap_nat hil (by omega)]
    exact ih (i + 1) k (by omega) (by omega)
theorem SigStays (l : List Sym) (_h : l.length * 48 ≤ 140737488351232 ∧ ∀ x ∈ l, Rd.OkSym x) : ∃ k, amalgamlaw01_SigStays.f k l = some true := by
  refine ⟨2 * l.length + 100, ?_⟩
  unfold amalgamlaw01_SigStays.f
  rw [head_true (2 * l.length + 100) (by omega), check_f l (2 * l.length + 100) (by omega)]
  simp only [Option.bind_some, if_true]
  have hj : ∀ k, amalgamlaw01_SigStays.j0 (k + 1) l true (check l).2 ((check l).1 != 0) = if ((check l).1 != 0) = true then (if (check l).2 ≥ 0 then (if (check l).2 < (l.length : Int) then some true else some ((check l).2 == 0)) else some false) else amalgamlaw01_SigStays.l0 k l 0 := by
    intro k
    simp only [amalgamlaw01_SigStays.j0, if_true]
  refine (hj (2 * l.length + 99)).trans ?_
  by_cases hc : (check l).1 = 0
  · rw [hc, if_neg (by simp)]
    have hr := (check_ok l).1 hc
    have h16 := hr.1
    have := stays_l0 l hr l.length 0 (2 * l.length + 99) (by omega) (by omega)
    simpa using this
  · rw [if_pos (by simpa using hc)]
    have hat : 0 ≤ (check l).2 ∧ ((check l).2 < (l.length : Int) ∨ (check l).2 = 0) := by
      unfold check
      split
      · exact ⟨by simp, .inr rfl⟩
      · rcases checkFrom_at l l.length 0 (by omega) with e | ⟨j, _, hj, e, _⟩
        · rw [e]; exact ⟨by simp, .inr rfl⟩
        · rw [e]; exact ⟨by simp, .inl (by simpa using hj)⟩
    rw [if_pos hat.1]
    split
    · rfl
    · rename_i h6
      rcases hat.2 with h7 | h7
      · exact absurd h7 h6
      · rw [h7]; rfl
end Go.Proofs.Ythbpbbinpkfchaa.Pure
