/-
  The laws' live question has its answer. Conditions: enough rounds.
-/
import Derived.Test.YthbpbbinpkfchaaSpecName
import Derived.Test.YthbpbbinpkfchaaPSigx4
namespace Go.Proofs.Ythbpbbinpkfchaa.Sp
open Go.RowKit Go.Proofs.YthbpbbinpkfchaaW.PrintWords Go.Proofs.Ythbpbbinpkfchaa.PSig
theorem head_20 : amalgamlaw01_head.f 20 = some true := by decide +kernel
theorem head_true (k : Nat) (hk : 20 ≤ k) : amalgamlaw01_head.f k = some true := at_rounds (fun k => amalgamlaw01_head.mono k) hk head_20
end Go.Proofs.Ythbpbbinpkfchaa.Sp
