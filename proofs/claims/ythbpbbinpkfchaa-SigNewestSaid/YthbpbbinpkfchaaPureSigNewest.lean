/-
  SigNewest, plainly: a symbol that comes behind a right signature changes nothing of what was found. Conditions: none beyond what an argument's reading gives.
-/
import Derived.Test.YthbpbbinpkfchaaSpecSig
import Derived.Test.YthbpbbinpkfchaaSpecHead
import Derived.Test.YthbpbbinpkfchaaPSigx11
import Derived.Test.YthbpbbinpkfchaaOpenSym
namespace Go.Proofs.Ythbpbbinpkfchaa.Pure
open Go.RowKit Go.Proofs.YthbpbbinpkfchaaW.PrintWords Go.Proofs.Ythbpbbinpkfchaa.PSig Go.Proofs.Ythbpbbinpkfchaa.Sp
/-- In a right signature a unit that is named is there. -/
theorem unit_append {l : List Sym} {x : Sym} (hr : Right l) (i : Nat) (hi : i < l.length) : unit (l ++ [x]) i = unit l i := by
  unfold unit
  rw [dif_pos (by simp; omega), dif_pos (by omega)]
  simp only [Int.toNat_natCast]
  have e : (l ++ [x])[i]'(by simp; omega) = l[i]'hi := List.getElem_append_left hi
  simp only [e]
  by_cases h3 : l[i].f1 = 3
  · rw [if_pos h3, if_pos h3]
    refine find_append ?_
    have hw := hr.2 i hi
    have hu := (wrong_zero hw).2.2.2.2
    unfold unitOk at hu
    rw [if_pos h3] at hu
    cases hf : (find (l.take i) l[i].f3).2 with
    | false => rw [(find_false hf).1] at hu; cases hu
    | true =>
      obtain ⟨j, hj, _, h2, _⟩ := find_true hf
      exact find_of_mem (List.mem_of_mem_take (List.getElem_mem hj)) h2
  · rw [if_neg h3, if_neg h3]
theorem newest_l0 (l : List Sym) (x : Sym) (hr : Right l) (hn : l.length < 16) : ∀ (d i k : Nat), i + d = l.length → d + 20 < k → amalgamlaw01_SigNewest.l0 k l (l ++ [x]) i = some true := by
  intro d
  induction d with
  | zero =>
    intro i k hi hk
    obtain ⟨k, rfl, _⟩ := k_succ hk
    simp only [amalgamlaw01_SigNewest.l0]
    rw [if_neg (by omega)]
  | succ d ih =>
    intro i k hi hk
    obtain ⟨k, rfl, _⟩ := k_succ hk
    have hil : i < l.length := by omega
    have hf : find (l ++ [x]) (l[i]).f0 = ((i : Int), true) := by
      refine find_at (by simp; omega) (by rw [List.getElem_append_left hil]) (fun q hq => ?_)
      rw [List.getElem_append_left (by omega)]
      intro e
      have hw := hr.2 i hil
      have : (find (l.take i) l[i].f0).2 = true := find_of_mem (x := l[q]'(by omega)) (by
        rw [List.mem_take_iff_getElem]
        exact ⟨q, by omega, rfl⟩) e
      rw [(wrong_zero hw).1] at this
      cases this
    simp only [amalgamlaw01_SigNewest.l0]
    rw [if_pos (by omega), if_pos (by omega), rd_sym l i hil, find_f _ _ (by simp; omega) k (by simp; omega), unit_f l _ (by omega) k (by omega), unit_f (l ++ [x]) _ (by simp; omega) k (by simp; omega), unit_append hr i hil, hf, wrap_nat hil (by omega), ih (i + 1) k (by omega) (by omega)]
    simp
theorem newest_check {l : List Sym} {x : Sym} (hr : Right l) : (check (l ++ [x])).1 = 0 ∨ (check (l ++ [x])).2 = (l.length : Int) ∨ check (l ++ [x]) = (15, 0) := by
  unfold check
  by_cases h : ((l ++ [x]).length : Int) > 16
  · rw [if_pos h]; exact .inr (.inr rfl)
  · rw [if_neg h]
    rcases checkFrom_at (l ++ [x]) (l ++ [x]).length 0 (by omega) with e | ⟨j, _, hj, e, hne, _⟩
    · rw [e]; exact .inl rfl
    · rw [e]
      right; left
      have hj' : j < l.length + 1 := by simpa using hj
      rcases Nat.lt_or_ge j l.length with hlt | hge
      · exfalso
        apply hne
        have := hr.2 j hlt
        rw [List.take_append_of_le_length (by omega), List.getElem_append_left hlt]
        exact this
      · show (j : Int) = _
        omega
theorem right_of_append {l : List Sym} {x : Sym} (h : Right (l ++ [x])) : Right l := by
  refine ⟨by have := h.1; simp at this; omega, fun i hi => ?_⟩
  have := h.2 i (by simp; omega)
  rwa [List.take_append_of_le_length (by omega), List.getElem_append_left hi] at this
theorem SigNewest (l : List Sym) (x : Sym) (h : l.length * 48 ≤ 140737488351232 ∧ ∀ x ∈ l, Rd.OkSym x) (_hx : Rd.OkSym x) : ∃ k, amalgamlaw01_SigNewest.f k l x.f0 x.f1 x.f2 x.f3 = some true := by
  refine ⟨2 * l.length + 60, ?_⟩
  unfold amalgamlaw01_SigNewest.f
  rw [head_true (2 * l.length + 60) (by omega), check_f l (2 * l.length + 60) (by omega)]
  simp only [Option.bind_some, List.length_nil, List.nil_append]
  rw [if_pos (by have := h.1; omega)]
  simp only [List.length_singleton]
  rw [if_pos (by have := h.1; omega), check_f (l ++ [x]) (2 * l.length + 60) (by simp; omega)]
  simp only [Option.bind_some, if_true]
  have hj : ∀ k, amalgamlaw01_SigNewest.j0 (k + 1) l true (l ++ [x]) (check (l ++ [x])).1 (check (l ++ [x])).2 ((check l).1 != 0) = if ((check l).1 != 0) = true then (if (check (l ++ [x])).1 = 0 then some (decide (((l ++ [x]).length : Int) > 16)) else some true) else (if (check (l ++ [x])).1 = 0 then amalgamlaw01_SigNewest.l0 k l (l ++ [x]) 0 else if (check (l ++ [x])).2 = (l.length : Int) then some true else if (check (l ++ [x])).1 = 15 then some ((check (l ++ [x])).2 == 0) else some false) := by
    intro k
    simp only [amalgamlaw01_SigNewest.j0, if_true]
  refine (hj (2 * l.length + 59)).trans ?_
  by_cases hc : (check l).1 = 0
  · have hr := (check_ok l).1 hc
    rw [hc, if_neg (by simp)]
    by_cases hm : (check (l ++ [x])).1 = 0
    · rw [if_pos hm]
      have hr2 := (check_ok _).1 hm
      have := newest_l0 l x hr (by have := hr2.1; simp at this; omega) l.length 0 (2 * l.length + 59) (by omega) (by omega)
      simpa using this
    · rw [if_neg hm]
      rcases newest_check (x := x) hr with e | e | e
      · exact absurd e hm
      · rw [if_pos e]
      · rw [e]
        split <;> simp
  · rw [if_pos (by simpa using hc)]
    by_cases hm : (check (l ++ [x])).1 = 0
    · exact absurd ((check_ok l).2 (right_of_append ((check_ok _).1 hm))) hc
    · rw [if_neg hm]
end Go.Proofs.Ythbpbbinpkfchaa.Pure
