/-
  SigFinds, plainly: the program's Find, Unit, Units tell what the document's tell. Conditions: none beyond what an argument's reading gives.
-/
import Derived.Test.YthbpbbinpkfchaaSpecCheck
import Derived.Test.YthbpbbinpkfchaaSpecHead
import Derived.Test.YthbpbbinpkfchaaOpenSym
import Derived.Test.YthbpbbinpkfchaaKeptFinds
namespace Go.Proofs.Ythbpbbinpkfchaa.Pure
open Go.RowKit Go.Proofs.YthbpbbinpkfchaaW.PrintWords Go.Proofs.Ythbpbbinpkfchaa.PSig Go.Proofs.Ythbpbbinpkfchaa.Sp
theorem SigFinds (l : List Sym) (names : List ByteArray) (places : List Int) (h : l.length * 48 ≤ 140737488351232 ∧ ∀ x ∈ l, Rd.OkSym x) (_h1 : names.length * 16 ≤ 140737488351232 ∧ ∀ s ∈ names, s.size ≤ 140737488351232)
    (_h2 : places.length * 8 ≤ 140737488351232 ∧ ∀ n ∈ places, (Lit.int .i64 n).wf = true) : ∃ k, Kp.FindsP k l names places := by
  obtain ⟨K, hK⟩ := r_units_f l (by omega)
  refine ⟨K + 2 * l.length + 60, by omega, head_true _ (by omega), fun nm => ⟨_, _, find_f l nm (by omega) _ (by omega), r_find_f l nm (by omega) _ (by omega)⟩, fun q => ⟨_, _, unit_f l q (by omega) _ (by omega), r_unit_f l q (by omega) _ (by omega)⟩,
    ⟨units l, units_f l (by omega) _ (by omega), hK _ (by omega)⟩, r_same l (by omega) _ (by omega)⟩
end Go.Proofs.Ythbpbbinpkfchaa.Pure
