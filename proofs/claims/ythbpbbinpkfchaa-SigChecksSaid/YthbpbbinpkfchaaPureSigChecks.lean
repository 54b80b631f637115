/-
  SigChecks, plainly: the program's Check tells what the document's tells. Conditions: none beyond what an argument's reading gives.
-/
import Derived.Test.YthbpbbinpkfchaaSpecCheck
import Derived.Test.YthbpbbinpkfchaaSpecHead
import Derived.Test.YthbpbbinpkfchaaOpenSym
import Derived.Test.YthbpbbinpkfchaaKept
namespace Go.Proofs.Ythbpbbinpkfchaa.Pure
open Go.RowKit Go.Proofs.YthbpbbinpkfchaaW.PrintWords Go.Proofs.Ythbpbbinpkfchaa.PSig Go.Proofs.Ythbpbbinpkfchaa.Sp
theorem SigChecks (l : List Sym) (h : l.length * 48 ≤ 140737488351232 ∧ ∀ x ∈ l, Rd.OkSym x) : ∃ k, Kp.ChecksP k l := by
  obtain ⟨M, hM⟩ := max_name l
  refine ⟨2 * l.length + M + 60, by omega, head_true _ (by omega), ⟨(check l).1, (check l).2, ?_, ?_⟩, r_same l (by omega) _ (by omega)⟩
  · exact check_f l _ (by omega)
  · exact r_check_f l (fun x hx => (h.2 x hx).1) M hM _ (by omega)
end Go.Proofs.Ythbpbbinpkfchaa.Pure
