/-
  SigNames, plainly: of every list of texts the program's Name and Var answer as the document's. Conditions: none beyond what an argument's reading gives.
-/
import Derived.Test.YthbpbbinpkfchaaSpecName
import Derived.Test.YthbpbbinpkfchaaSpecHead
namespace Go.Proofs.Ythbpbbinpkfchaa.Pure
open Go.RowKit Go.Proofs.YthbpbbinpkfchaaW.PrintWords Go.Proofs.Ythbpbbinpkfchaa.PSig Go.Proofs.Ythbpbbinpkfchaa.Sp
theorem names_l0 (l : List ByteArray) (hl : l.length ≤ 4611686018427387904) (hs : ∀ s ∈ l, s.size ≤ 140737488351232) (M : Nat) (hM : ∀ s ∈ l, s.size ≤ M) :
    ∀ (d i k : Nat), i + d = l.length → M + 4 + d < k → amalgamlaw01_SigNames.l0 k l true i = some true := by
  intro d
  induction d with
  | zero =>
    intro i k hi hk
    obtain ⟨k, rfl, _⟩ := k_succ hk
    simp only [amalgamlaw01_SigNames.l0]
    rw [if_neg (by omega)]
  | succ d ih =>
    intro i k hi hk
    obtain ⟨k, rfl, hk⟩ := k_succ hk
    have hil : i < l.length := by omega
    have hm := List.getElem_mem hil
    have h1 := hs _ hm
    have h2 := hM _ hm
    simp only [amalgamlaw01_SigNames.l0]
    rw [if_pos (by omega), if_pos (by omega), show rdOf ByteArray.empty l i = l[i] from rd_nat l _ i hil, r_name _ h1 k (by omega), r_var _ h1 k (by omega), wrap_nat hil hl, ih (i + 1) k (by omega) (by omega)]
    simp [sig_Name.f, sig_Var.f]
theorem max_size (l : List ByteArray) : ∃ M, ∀ s ∈ l, s.size ≤ M := by
  induction l with
  | nil => exact ⟨0, fun s h => by cases h⟩
  | cons x r ih =>
    obtain ⟨M, hM⟩ := ih
    refine ⟨x.size + M, fun s h => ?_⟩
    rcases List.mem_cons.1 h with rfl | h
    · omega
    · have := hM s h; omega
theorem SigNames (l : List ByteArray) (h : l.length * 16 ≤ 140737488351232 ∧ ∀ s ∈ l, s.size ≤ 140737488351232) : ∃ k, amalgamlaw01_SigNames.f k l = some true := by
  obtain ⟨M, hM⟩ := max_size l
  refine ⟨M + 40 + l.length, ?_⟩
  unfold amalgamlaw01_SigNames.f
  rw [head_true (M + 40 + l.length) (by omega)]
  have := names_l0 l (by omega) h.2 M hM l.length 0 (M + 40 + l.length) (by omega) (by omega)
  simpa using this
end Go.Proofs.Ythbpbbinpkfchaa.Pure
