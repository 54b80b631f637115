/-
  SigPlain, plainly: the program's Plain makes what the document's makes. Conditions: none beyond what an argument's reading gives.
-/
import Derived.Test.YthbpbbinpkfchaaSpecCheck
import Derived.Test.YthbpbbinpkfchaaSpecHead
import Derived.Test.YthbpbbinpkfchaaOpenSym
import Derived.Test.YthbpbbinpkfchaaKept
namespace Go.Proofs.Ythbpbbinpkfchaa.Pure
open Go.RowKit Go.Proofs.YthbpbbinpkfchaaW.PrintWords Go.Proofs.Ythbpbbinpkfchaa.PSig Go.Proofs.Ythbpbbinpkfchaa.Sp
theorem SigPlain (l : List Sym) (h : l.length * 48 ≤ 140737488351232 ∧ ∀ x ∈ l, Rd.OkSym x) : ∃ k, Kp.PlainP k l := by
  refine ⟨l.length + 60, by omega, head_true _ (by omega), ⟨l.map plain1, plain_f l (by omega) _ (by omega), r_plain_f l (by omega) _ (by omega), r_same _ (by simp; omega) _ (by simp)⟩, r_same l (by omega) _ (by omega)⟩
end Go.Proofs.Ythbpbbinpkfchaa.Pure
