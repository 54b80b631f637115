/-
  No cell of these rows narrows 'for every input' (looked for: loops, veiled, ifaces, maps, wideKeys, modest, calm, conditions, laid).
  DERIVED. THE GIVEN ROWS OF THIS SEAT. 5 by the template 'for every input the law returns true; each argument reads behind the call as it read before'; 0 by the template 'total and deterministic' (their statements: YtbfcfmobogmfhaaTotals.lean).
  GIVEN WITH THE SEED: the statements are not yours to turn. If you find one false, say at which input.
  Laid BY PROGRAM, IN A SANDBOX (cutbox-rows.mjs): the forced cells as the released guide's own fill.sh prints them over the translation 5ddc28616bcf6f13… (all of the seat's roots in one cut). By AI agents, Wed Nov 11 2026. No macro, syntax, notation, axiom, sorry.
-/
import Derived.Test.YtbfcfmobogmfhaaChecked
import GoSem.Claim
import GoSem.ClaimJoined
import GoSem.ClaimMapViews
import Derived.JoinedTies
import Derived.KernelRfl
namespace Go.Proofs.Ytbfcfmobogmfhaa
/- THE CELL 'sum', in the pinned program and in every row, IS THE sha256 OF THE DUMP (.gsa) THAT YtbfcfmobogmfhaaProg.lean LOADS. Nothing in Lean hashes anything: it is a label: what it is worth is what the hold of that sum in a sandbox is worth. -/
noncomputable def Try.pinned : Pinned := { name := "ytbfcfmobogmfhaa", sum := "5ddc28616bcf6f13d0e8d3709c62da635104ddce5e8fb6c9b4801d02af3ba289", checked := Try.checked }
namespace Rows
def none {H : Type} : Left H := { results := [], args := [] }

/-- 'amalgamlaw02.WordsNext': WHATEVER THE INPUT: true; the input reads as it did. -/
def wordsNextSpec : ChangeSpec := { name := "wordsNext", fn := fun _ => fun
  | [d1, d2] => { results := [.lit (.bool true)], args := [d1, d2] }
  | _ => none }
def wordsNextRow : OpenClaim := { program := "ytbfcfmobogmfhaa", sum := "5ddc28616bcf6f13d0e8d3709c62da635104ddce5e8fb6c9b4801d02af3ba289", func := "amalgam/amalgamlaw02.WordsNext", spec := "wordsNext", inPlace := ["internal/bytealg.IndexByteString"], unfollowed := true, recurses := true, apart := false }
def WordsNextSaid : Prop := wordsNextRow.holds Try.pinned (OpenSpec.ofChange wordsNextSpec)

/-- ITS FALSE NEIGHBOUR: 'it returns false'. Refute it at one input. -/
def wordsNextWrong : ChangeSpec := { name := "wordsNext", fn := fun _ => fun
  | [d1, d2] => { results := [.lit (.bool false)], args := [d1, d2] }
  | _ => none }
def WordsNextWrongFalsely : Prop := wordsNextRow.holds Try.pinned (OpenSpec.ofChange wordsNextWrong)

/-- 'amalgamlaw02.WordsLists': WHATEVER THE INPUT: true; the input reads as it did. -/
def wordsListsSpec : ChangeSpec := { name := "wordsLists", fn := fun _ => fun
  | [d] => { results := [.lit (.bool true)], args := [d] }
  | _ => none }
def wordsListsRow : OpenClaim := { program := "ytbfcfmobogmfhaa", sum := "5ddc28616bcf6f13d0e8d3709c62da635104ddce5e8fb6c9b4801d02af3ba289", func := "amalgam/amalgamlaw02.WordsLists", spec := "wordsLists", inPlace := ["internal/bytealg.IndexByteString"], unfollowed := true, recurses := true, apart := false }
def WordsListsSaid : Prop := wordsListsRow.holds Try.pinned (OpenSpec.ofChange wordsListsSpec)

/-- ITS FALSE NEIGHBOUR: 'it returns false'. Refute it at one input. -/
def wordsListsWrong : ChangeSpec := { name := "wordsLists", fn := fun _ => fun
  | [d] => { results := [.lit (.bool false)], args := [d] }
  | _ => none }
def WordsListsWrongFalsely : Prop := wordsListsRow.holds Try.pinned (OpenSpec.ofChange wordsListsWrong)

/-- 'amalgamlaw02.WordsGoes': WHATEVER THE INPUT: true; the input reads as it did. -/
def wordsGoesSpec : ChangeSpec := { name := "wordsGoes", fn := fun _ => fun
  | [d1, d2] => { results := [.lit (.bool true)], args := [d1, d2] }
  | _ => none }
def wordsGoesRow : OpenClaim := { program := "ytbfcfmobogmfhaa", sum := "5ddc28616bcf6f13d0e8d3709c62da635104ddce5e8fb6c9b4801d02af3ba289", func := "amalgam/amalgamlaw02.WordsGoes", spec := "wordsGoes", inPlace := ["internal/bytealg.IndexByteString"], unfollowed := true, recurses := true, apart := false }
def WordsGoesSaid : Prop := wordsGoesRow.holds Try.pinned (OpenSpec.ofChange wordsGoesSpec)

/-- ITS FALSE NEIGHBOUR: 'it returns false'. Refute it at one input. -/
def wordsGoesWrong : ChangeSpec := { name := "wordsGoes", fn := fun _ => fun
  | [d1, d2] => { results := [.lit (.bool false)], args := [d1, d2] }
  | _ => none }
def WordsGoesWrongFalsely : Prop := wordsGoesRow.holds Try.pinned (OpenSpec.ofChange wordsGoesWrong)

/-- 'amalgamlaw02.WordsStand': WHATEVER THE INPUT: true; the input reads as it did. -/
def wordsStandSpec : ChangeSpec := { name := "wordsStand", fn := fun _ => fun
  | [d] => { results := [.lit (.bool true)], args := [d] }
  | _ => none }
def wordsStandRow : OpenClaim := { program := "ytbfcfmobogmfhaa", sum := "5ddc28616bcf6f13d0e8d3709c62da635104ddce5e8fb6c9b4801d02af3ba289", func := "amalgam/amalgamlaw02.WordsStand", spec := "wordsStand", inPlace := ["internal/bytealg.IndexByteString"], unfollowed := true, recurses := true, apart := false }
def WordsStandSaid : Prop := wordsStandRow.holds Try.pinned (OpenSpec.ofChange wordsStandSpec)

/-- ITS FALSE NEIGHBOUR: 'it returns false'. Refute it at one input. -/
def wordsStandWrong : ChangeSpec := { name := "wordsStand", fn := fun _ => fun
  | [d] => { results := [.lit (.bool false)], args := [d] }
  | _ => none }
def WordsStandWrongFalsely : Prop := wordsStandRow.holds Try.pinned (OpenSpec.ofChange wordsStandWrong)

/-- 'amalgamlaw02.WordsApart': WHATEVER THE INPUT: true; the input reads as it did. -/
def wordsApartSpec : ChangeSpec := { name := "wordsApart", fn := fun _ => fun
  | [d1, d2] => { results := [.lit (.bool true)], args := [d1, d2] }
  | _ => none }
def wordsApartRow : OpenClaim := { program := "ytbfcfmobogmfhaa", sum := "5ddc28616bcf6f13d0e8d3709c62da635104ddce5e8fb6c9b4801d02af3ba289", func := "amalgam/amalgamlaw02.WordsApart", spec := "wordsApart", inPlace := ["internal/bytealg.IndexByteString"], unfollowed := true, recurses := true, apart := false }
def WordsApartSaid : Prop := wordsApartRow.holds Try.pinned (OpenSpec.ofChange wordsApartSpec)

/-- ITS FALSE NEIGHBOUR: 'it returns false'. Refute it at one input. -/
def wordsApartWrong : ChangeSpec := { name := "wordsApart", fn := fun _ => fun
  | [d1, d2] => { results := [.lit (.bool false)], args := [d1, d2] }
  | _ => none }
def WordsApartWrongFalsely : Prop := wordsApartRow.holds Try.pinned (OpenSpec.ofChange wordsApartWrong)

/- THE SECOND FORM. 'bulk': how many values and letters a reading holds, each counted each time it is reached (what is shared counts as often as it is met; a slice's spare places count too). A statement '..UptoSaid' is the law's where the arguments, and the package variables that the reading takes, are together of bulk at most 1048576: NARROWER than '..Said'. Prove '..Said' where nothing that the law and all that it calls make is longer than what came in: it says more and counts as full. Else prove '..UptoSaid'. A law counts once. -/
mutual
def uptoBulk {H : Type} : DataW H → Nat
  | .lit (.string bytes) => bytes.length + 1
  | .lit _ => 1
  | .nil => 1
  | .ptr d => uptoBulk d + 1
  | .slice elems spare => uptoBulkAll elems + uptoBulkAll spare + 1
  | .agg parts => uptoBulkAll parts + 1
  | .iface _ d => uptoBulk d + 1
  | .map entries => uptoBulkEntries entries + 1
  | .held _ => 1
def uptoBulkAll {H : Type} : List (DataW H) → Nat
  | [] => 0
  | d :: r => uptoBulk d + uptoBulkAll r
def uptoBulkEntries {H : Type} : List (Lit × DataW H) → Nat
  | [] => 0
  | x :: r => uptoBulkEntry x + uptoBulkEntries r
def uptoBulkEntry {H : Type} : Lit × DataW H → Nat
  | (.string bytes, d) => bytes.length + uptoBulk d + 1
  | (_, d) => uptoBulk d + 1
 end
def uptoSmall : (H : Type) → List (DataW H) → Bool := fun _ ds => decide (uptoBulkAll ds ≤ 1048576)
def OpenSpec.upto (s : _root_.Go.ChangeSpec) : _root_.Go.OpenSpec := { _root_.Go.OpenSpec.ofChange s with cond := some uptoSmall }

/-- 'amalgamlaw02.WordsNext', WHERE WHAT IT READS IS OF BULK AT MOST 1048576: true; the input reads as it did. -/
def wordsNextUptoRow : OpenClaim := { program := "ytbfcfmobogmfhaa", sum := "5ddc28616bcf6f13d0e8d3709c62da635104ddce5e8fb6c9b4801d02af3ba289", func := "amalgam/amalgamlaw02.WordsNext", spec := "wordsNext", inPlace := ["internal/bytealg.IndexByteString"], unfollowed := true, recurses := true, apart := false, narrowed := true }
def WordsNextUptoSaid : Prop := wordsNextUptoRow.holds Try.pinned (OpenSpec.upto wordsNextSpec)

/-- 'amalgamlaw02.WordsLists', WHERE WHAT IT READS IS OF BULK AT MOST 1048576: true; the input reads as it did. -/
def wordsListsUptoRow : OpenClaim := { program := "ytbfcfmobogmfhaa", sum := "5ddc28616bcf6f13d0e8d3709c62da635104ddce5e8fb6c9b4801d02af3ba289", func := "amalgam/amalgamlaw02.WordsLists", spec := "wordsLists", inPlace := ["internal/bytealg.IndexByteString"], unfollowed := true, recurses := true, apart := false, narrowed := true }
def WordsListsUptoSaid : Prop := wordsListsUptoRow.holds Try.pinned (OpenSpec.upto wordsListsSpec)

/-- 'amalgamlaw02.WordsGoes', WHERE WHAT IT READS IS OF BULK AT MOST 1048576: true; the input reads as it did. -/
def wordsGoesUptoRow : OpenClaim := { program := "ytbfcfmobogmfhaa", sum := "5ddc28616bcf6f13d0e8d3709c62da635104ddce5e8fb6c9b4801d02af3ba289", func := "amalgam/amalgamlaw02.WordsGoes", spec := "wordsGoes", inPlace := ["internal/bytealg.IndexByteString"], unfollowed := true, recurses := true, apart := false, narrowed := true }
def WordsGoesUptoSaid : Prop := wordsGoesUptoRow.holds Try.pinned (OpenSpec.upto wordsGoesSpec)

/-- 'amalgamlaw02.WordsStand', WHERE WHAT IT READS IS OF BULK AT MOST 1048576: true; the input reads as it did. -/
def wordsStandUptoRow : OpenClaim := { program := "ytbfcfmobogmfhaa", sum := "5ddc28616bcf6f13d0e8d3709c62da635104ddce5e8fb6c9b4801d02af3ba289", func := "amalgam/amalgamlaw02.WordsStand", spec := "wordsStand", inPlace := ["internal/bytealg.IndexByteString"], unfollowed := true, recurses := true, apart := false, narrowed := true }
def WordsStandUptoSaid : Prop := wordsStandUptoRow.holds Try.pinned (OpenSpec.upto wordsStandSpec)

/-- 'amalgamlaw02.WordsApart', WHERE WHAT IT READS IS OF BULK AT MOST 1048576: true; the input reads as it did. -/
def wordsApartUptoRow : OpenClaim := { program := "ytbfcfmobogmfhaa", sum := "5ddc28616bcf6f13d0e8d3709c62da635104ddce5e8fb6c9b4801d02af3ba289", func := "amalgam/amalgamlaw02.WordsApart", spec := "wordsApart", inPlace := ["internal/bytealg.IndexByteString"], unfollowed := true, recurses := true, apart := false, narrowed := true }
def WordsApartUptoSaid : Prop := wordsApartUptoRow.holds Try.pinned (OpenSpec.upto wordsApartSpec)

end Rows
end Go.Proofs.Ytbfcfmobogmfhaa
