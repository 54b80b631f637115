/-
  No cell of these rows narrows 'for every input' (looked for: loops, veiled, ifaces, maps, wideKeys, modest, calm, conditions, laid).
  DERIVED. THE GIVEN ROWS OF THIS SEAT. 6 by the template 'for every input the law returns true; each argument reads behind the call as it read before'; 0 by the template 'total and deterministic' (their statements: YthbpbbinpkfchaaTotals.lean).
  GIVEN WITH THE SEED: the statements are not yours to turn. If you find one false, say at which input.
  Laid BY PROGRAM, IN A SANDBOX (cutbox-rows.mjs): the forced cells as the released guide's own fill.sh prints them over the translation e3f5933e8ea70880… (all of the seat's roots in one cut). By AI agents, Wed Nov 11 2026. No macro, syntax, notation, axiom, sorry.
-/
import Derived.Test.YthbpbbinpkfchaaChecked
import GoSem.Claim
import GoSem.ClaimJoined
import GoSem.ClaimMapViews
import Derived.JoinedTies
import Derived.KernelRfl
namespace Go.Proofs.Ythbpbbinpkfchaa
/- THE CELL 'sum', in the pinned program and in every row, IS THE sha256 OF THE DUMP (.gsa) THAT YthbpbbinpkfchaaProg.lean LOADS. Nothing in Lean hashes anything: it is a label: what it is worth is what the hold of that sum in a sandbox is worth. -/
noncomputable def Try.pinned : Pinned := { name := "ythbpbbinpkfchaa", sum := "e3f5933e8ea70880b67dce4aab967065dc3cc2a4ca158d905cc6efb88068a700", checked := Try.checked }
namespace Rows
def none {H : Type} : Left H := { results := [], args := [] }

/-- 'amalgamlaw01.SigNames': WHATEVER THE INPUT: true; the input reads as it did. -/
def sigNamesSpec : ChangeSpec := { name := "sigNames", fn := fun _ => fun
  | [d] => { results := [.lit (.bool true)], args := [d] }
  | _ => none }
def sigNamesRow : OpenClaim := { program := "ythbpbbinpkfchaa", sum := "e3f5933e8ea70880b67dce4aab967065dc3cc2a4ca158d905cc6efb88068a700", func := "amalgam/amalgamlaw01.SigNames", spec := "sigNames", apart := false }
def SigNamesSaid : Prop := sigNamesRow.holds Try.pinned (OpenSpec.ofChange sigNamesSpec)

/-- ITS FALSE NEIGHBOUR: 'it returns false'. Refute it at one input. -/
def sigNamesWrong : ChangeSpec := { name := "sigNames", fn := fun _ => fun
  | [d] => { results := [.lit (.bool false)], args := [d] }
  | _ => none }
def SigNamesWrongFalsely : Prop := sigNamesRow.holds Try.pinned (OpenSpec.ofChange sigNamesWrong)

/-- 'amalgamlaw01.SigChecks': WHATEVER THE INPUT: true; the input reads as it did. -/
def sigChecksSpec : ChangeSpec := { name := "sigChecks", fn := fun _ => fun
  | [d] => { results := [.lit (.bool true)], args := [d] }
  | _ => none }
def sigChecksRow : OpenClaim := { program := "ythbpbbinpkfchaa", sum := "e3f5933e8ea70880b67dce4aab967065dc3cc2a4ca158d905cc6efb88068a700", func := "amalgam/amalgamlaw01.SigChecks", spec := "sigChecks", apart := false }
def SigChecksSaid : Prop := sigChecksRow.holds Try.pinned (OpenSpec.ofChange sigChecksSpec)

/-- ITS FALSE NEIGHBOUR: 'it returns false'. Refute it at one input. -/
def sigChecksWrong : ChangeSpec := { name := "sigChecks", fn := fun _ => fun
  | [d] => { results := [.lit (.bool false)], args := [d] }
  | _ => none }
def SigChecksWrongFalsely : Prop := sigChecksRow.holds Try.pinned (OpenSpec.ofChange sigChecksWrong)

/-- 'amalgamlaw01.SigNewest': WHATEVER THE INPUT: true; the input reads as it did. -/
def sigNewestSpec : ChangeSpec := { name := "sigNewest", fn := fun _ => fun
  | [d1, d2] => { results := [.lit (.bool true)], args := [d1, d2] }
  | _ => none }
def sigNewestRow : OpenClaim := { program := "ythbpbbinpkfchaa", sum := "e3f5933e8ea70880b67dce4aab967065dc3cc2a4ca158d905cc6efb88068a700", func := "amalgam/amalgamlaw01.SigNewest", spec := "sigNewest", apart := false }
def SigNewestSaid : Prop := sigNewestRow.holds Try.pinned (OpenSpec.ofChange sigNewestSpec)

/-- ITS FALSE NEIGHBOUR: 'it returns false'. Refute it at one input. -/
def sigNewestWrong : ChangeSpec := { name := "sigNewest", fn := fun _ => fun
  | [d1, d2] => { results := [.lit (.bool false)], args := [d1, d2] }
  | _ => none }
def SigNewestWrongFalsely : Prop := sigNewestRow.holds Try.pinned (OpenSpec.ofChange sigNewestWrong)

/-- 'amalgamlaw01.SigPlain': WHATEVER THE INPUT: true; the input reads as it did. -/
def sigPlainSpec : ChangeSpec := { name := "sigPlain", fn := fun _ => fun
  | [d] => { results := [.lit (.bool true)], args := [d] }
  | _ => none }
def sigPlainRow : OpenClaim := { program := "ythbpbbinpkfchaa", sum := "e3f5933e8ea70880b67dce4aab967065dc3cc2a4ca158d905cc6efb88068a700", func := "amalgam/amalgamlaw01.SigPlain", spec := "sigPlain", apart := false }
def SigPlainSaid : Prop := sigPlainRow.holds Try.pinned (OpenSpec.ofChange sigPlainSpec)

/-- ITS FALSE NEIGHBOUR: 'it returns false'. Refute it at one input. -/
def sigPlainWrong : ChangeSpec := { name := "sigPlain", fn := fun _ => fun
  | [d] => { results := [.lit (.bool false)], args := [d] }
  | _ => none }
def SigPlainWrongFalsely : Prop := sigPlainRow.holds Try.pinned (OpenSpec.ofChange sigPlainWrong)

/-- 'amalgamlaw01.SigFinds': WHATEVER THE INPUT: true; the input reads as it did. -/
def sigFindsSpec : ChangeSpec := { name := "sigFinds", fn := fun _ => fun
  | [d1, d2, d3] => { results := [.lit (.bool true)], args := [d1, d2, d3] }
  | _ => none }
def sigFindsRow : OpenClaim := { program := "ythbpbbinpkfchaa", sum := "e3f5933e8ea70880b67dce4aab967065dc3cc2a4ca158d905cc6efb88068a700", func := "amalgam/amalgamlaw01.SigFinds", spec := "sigFinds", apart := false }
def SigFindsSaid : Prop := sigFindsRow.holds Try.pinned (OpenSpec.ofChange sigFindsSpec)

/-- ITS FALSE NEIGHBOUR: 'it returns false'. Refute it at one input. -/
def sigFindsWrong : ChangeSpec := { name := "sigFinds", fn := fun _ => fun
  | [d1, d2, d3] => { results := [.lit (.bool false)], args := [d1, d2, d3] }
  | _ => none }
def SigFindsWrongFalsely : Prop := sigFindsRow.holds Try.pinned (OpenSpec.ofChange sigFindsWrong)

/-- 'amalgamlaw01.SigStays': WHATEVER THE INPUT: true; the input reads as it did. -/
def sigStaysSpec : ChangeSpec := { name := "sigStays", fn := fun _ => fun
  | [d] => { results := [.lit (.bool true)], args := [d] }
  | _ => none }
def sigStaysRow : OpenClaim := { program := "ythbpbbinpkfchaa", sum := "e3f5933e8ea70880b67dce4aab967065dc3cc2a4ca158d905cc6efb88068a700", func := "amalgam/amalgamlaw01.SigStays", spec := "sigStays", apart := false }
def SigStaysSaid : Prop := sigStaysRow.holds Try.pinned (OpenSpec.ofChange sigStaysSpec)

/-- ITS FALSE NEIGHBOUR: 'it returns false'. Refute it at one input. -/
def sigStaysWrong : ChangeSpec := { name := "sigStays", fn := fun _ => fun
  | [d] => { results := [.lit (.bool false)], args := [d] }
  | _ => none }
def SigStaysWrongFalsely : Prop := sigStaysRow.holds Try.pinned (OpenSpec.ofChange sigStaysWrong)

/- THE SECOND FORM. 'bulk': how many values and letters a reading holds, each counted each time it is reached (what is shared counts as often as it is met; a slice's spare places count too). A statement '..UptoSaid' is the law's where the arguments, and the package variables that the reading takes, are together of bulk at most 1048576: NARROWER than '..Said'. Prove '..Said' where nothing that the law and all that it calls make is longer than what came in: it says more and counts as full. Else prove '..UptoSaid'. A law counts once. -/
mutual
def uptoBulk {H : Type} : DataW H → Nat
  | .lit (.string bytes) => bytes.length + 1
  | .lit _ => 1
  | .nil => 1
  | .ptr d => uptoBulk d + 1
  | .slice elems spare => uptoBulkAll elems + uptoBulkAll spare + 1
  | .agg parts => uptoBulkAll parts + 1
  | .iface _ d => uptoBulk d + 1
  | .map entries => uptoBulkEntries entries + 1
  | .held _ => 1
def uptoBulkAll {H : Type} : List (DataW H) → Nat
  | [] => 0
  | d :: r => uptoBulk d + uptoBulkAll r
def uptoBulkEntries {H : Type} : List (Lit × DataW H) → Nat
  | [] => 0
  | x :: r => uptoBulkEntry x + uptoBulkEntries r
def uptoBulkEntry {H : Type} : Lit × DataW H → Nat
  | (.string bytes, d) => bytes.length + uptoBulk d + 1
  | (_, d) => uptoBulk d + 1
 end
def uptoSmall : (H : Type) → List (DataW H) → Bool := fun _ ds => decide (uptoBulkAll ds ≤ 1048576)
def OpenSpec.upto (s : _root_.Go.ChangeSpec) : _root_.Go.OpenSpec := { _root_.Go.OpenSpec.ofChange s with cond := some uptoSmall }

/-- 'amalgamlaw01.SigNames', WHERE WHAT IT READS IS OF BULK AT MOST 1048576: true; the input reads as it did. -/
def sigNamesUptoRow : OpenClaim := { program := "ythbpbbinpkfchaa", sum := "e3f5933e8ea70880b67dce4aab967065dc3cc2a4ca158d905cc6efb88068a700", func := "amalgam/amalgamlaw01.SigNames", spec := "sigNames", apart := false, narrowed := true }
def SigNamesUptoSaid : Prop := sigNamesUptoRow.holds Try.pinned (OpenSpec.upto sigNamesSpec)

/-- 'amalgamlaw01.SigChecks', WHERE WHAT IT READS IS OF BULK AT MOST 1048576: true; the input reads as it did. -/
def sigChecksUptoRow : OpenClaim := { program := "ythbpbbinpkfchaa", sum := "e3f5933e8ea70880b67dce4aab967065dc3cc2a4ca158d905cc6efb88068a700", func := "amalgam/amalgamlaw01.SigChecks", spec := "sigChecks", apart := false, narrowed := true }
def SigChecksUptoSaid : Prop := sigChecksUptoRow.holds Try.pinned (OpenSpec.upto sigChecksSpec)

/-- 'amalgamlaw01.SigNewest', WHERE WHAT IT READS IS OF BULK AT MOST 1048576: true; the input reads as it did. -/
def sigNewestUptoRow : OpenClaim := { program := "ythbpbbinpkfchaa", sum := "e3f5933e8ea70880b67dce4aab967065dc3cc2a4ca158d905cc6efb88068a700", func := "amalgam/amalgamlaw01.SigNewest", spec := "sigNewest", apart := false, narrowed := true }
def SigNewestUptoSaid : Prop := sigNewestUptoRow.holds Try.pinned (OpenSpec.upto sigNewestSpec)

/-- 'amalgamlaw01.SigPlain', WHERE WHAT IT READS IS OF BULK AT MOST 1048576: true; the input reads as it did. -/
def sigPlainUptoRow : OpenClaim := { program := "ythbpbbinpkfchaa", sum := "e3f5933e8ea70880b67dce4aab967065dc3cc2a4ca158d905cc6efb88068a700", func := "amalgam/amalgamlaw01.SigPlain", spec := "sigPlain", apart := false, narrowed := true }
def SigPlainUptoSaid : Prop := sigPlainUptoRow.holds Try.pinned (OpenSpec.upto sigPlainSpec)

/-- 'amalgamlaw01.SigFinds', WHERE WHAT IT READS IS OF BULK AT MOST 1048576: true; the input reads as it did. -/
def sigFindsUptoRow : OpenClaim := { program := "ythbpbbinpkfchaa", sum := "e3f5933e8ea70880b67dce4aab967065dc3cc2a4ca158d905cc6efb88068a700", func := "amalgam/amalgamlaw01.SigFinds", spec := "sigFinds", apart := false, narrowed := true }
def SigFindsUptoSaid : Prop := sigFindsUptoRow.holds Try.pinned (OpenSpec.upto sigFindsSpec)

/-- 'amalgamlaw01.SigStays', WHERE WHAT IT READS IS OF BULK AT MOST 1048576: true; the input reads as it did. -/
def sigStaysUptoRow : OpenClaim := { program := "ythbpbbinpkfchaa", sum := "e3f5933e8ea70880b67dce4aab967065dc3cc2a4ca158d905cc6efb88068a700", func := "amalgam/amalgamlaw01.SigStays", spec := "sigStays", apart := false, narrowed := true }
def SigStaysUptoSaid : Prop := sigStaysUptoRow.holds Try.pinned (OpenSpec.upto sigStaysSpec)

end Rows
end Go.Proofs.Ythbpbbinpkfchaa
