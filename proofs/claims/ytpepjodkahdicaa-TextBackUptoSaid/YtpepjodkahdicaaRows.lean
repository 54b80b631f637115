/-
  NARROWER THAN 'FOR EVERY INPUT', by the rows' own cells (each row's printed sentence says how): TextBack: loops.
  DERIVED. THE GIVEN ROWS OF THIS SEAT. 3 by the template 'for every input the law returns true; each argument reads behind the call as it read before'; 0 by the template 'total and deterministic' (their statements: YtpepjodkahdicaaTotals.lean).
  GIVEN WITH THE SEED: the statements are not yours to turn. If you find one false, say at which input.
  Laid BY PROGRAM, IN A SANDBOX (cutbox-rows.mjs): the forced cells as the released guide's own fill.sh prints them over the translation 959681f1c5e79405… (all of the seat's roots in one cut). By AI agents, Wed Nov 11 2026. No macro, syntax, notation, axiom, sorry.
-/
import Derived.Test.YtpepjodkahdicaaChecked
import GoSem.Claim
import GoSem.ClaimJoined
import GoSem.ClaimMapViews
import Derived.JoinedTies
import Derived.KernelRfl
namespace Go.Proofs.Ytpepjodkahdicaa
/- THE CELL 'sum', in the pinned program and in every row, IS THE sha256 OF THE DUMP (.gsa) THAT YtpepjodkahdicaaProg.lean LOADS. Nothing in Lean hashes anything: it is a label: what it is worth is what the hold of that sum in a sandbox is worth. -/
noncomputable def Try.pinned : Pinned := { name := "ytpepjodkahdicaa", sum := "959681f1c5e7940594a9d8350c634b5d230601c9c0c0ec1003927062dca074b8", checked := Try.checked }
namespace Rows
def none {H : Type} : Left H := { results := [], args := [] }

/-- 'amalgamlaw05.TextBlanks': WHATEVER THE INPUT: true; the input reads as it did. -/
def textBlanksSpec : ChangeSpec := { name := "textBlanks", fn := fun _ => fun
  | [d1, d2] => { results := [.lit (.bool true)], args := [d1, d2] }
  | _ => none }
def textBlanksRow : OpenClaim := { program := "ytpepjodkahdicaa", sum := "959681f1c5e7940594a9d8350c634b5d230601c9c0c0ec1003927062dca074b8", func := "amalgam/amalgamlaw05.TextBlanks", spec := "textBlanks", inPlace := ["internal/bytealg.IndexByteString", "internal/abi.NoEscape", "internal/bytealg.MakeNoZero"], unfollowed := true, recurses := true, apart := false }
def TextBlanksSaid : Prop := textBlanksRow.holds Try.pinned (OpenSpec.ofChange textBlanksSpec)

/-- ITS FALSE NEIGHBOUR: 'it returns false'. Refute it at one input. -/
def textBlanksWrong : ChangeSpec := { name := "textBlanks", fn := fun _ => fun
  | [d1, d2] => { results := [.lit (.bool false)], args := [d1, d2] }
  | _ => none }
def TextBlanksWrongFalsely : Prop := textBlanksRow.holds Try.pinned (OpenSpec.ofChange textBlanksWrong)

/-- 'amalgamlaw05.TextAgain': WHATEVER THE INPUT: true; the input reads as it did. -/
def textAgainSpec : ChangeSpec := { name := "textAgain", fn := fun _ => fun
  | [d1, d2] => { results := [.lit (.bool true)], args := [d1, d2] }
  | _ => none }
def textAgainRow : OpenClaim := { program := "ytpepjodkahdicaa", sum := "959681f1c5e7940594a9d8350c634b5d230601c9c0c0ec1003927062dca074b8", func := "amalgam/amalgamlaw05.TextAgain", spec := "textAgain", inPlace := ["internal/bytealg.IndexByteString", "internal/abi.NoEscape", "internal/bytealg.MakeNoZero"], unfollowed := true, recurses := true, apart := false }
def TextAgainSaid : Prop := textAgainRow.holds Try.pinned (OpenSpec.ofChange textAgainSpec)

/-- ITS FALSE NEIGHBOUR: 'it returns false'. Refute it at one input. -/
def textAgainWrong : ChangeSpec := { name := "textAgain", fn := fun _ => fun
  | [d1, d2] => { results := [.lit (.bool false)], args := [d1, d2] }
  | _ => none }
def TextAgainWrongFalsely : Prop := textAgainRow.holds Try.pinned (OpenSpec.ofChange textAgainWrong)

/-- 'amalgamlaw05.TextBack': WHATEVER THE INPUT: true; the input reads as it did. -/
def textBackSpec : ChangeSpec := { name := "textBack", fn := fun _ => fun
  | [d] => { results := [.lit (.bool true)], args := [d] }
  | _ => none }
def textBackRow : OpenClaim := { program := "ytpepjodkahdicaa", sum := "959681f1c5e7940594a9d8350c634b5d230601c9c0c0ec1003927062dca074b8", func := "amalgam/amalgamlaw05.TextBack", spec := "textBack", inPlace := ["internal/bytealg.IndexByteString", "internal/abi.NoEscape", "internal/bytealg.MakeNoZero"], unfollowed := true, recurses := true, loops := true, apart := false }
def TextBackSaid : Prop := textBackRow.holds Try.pinned (OpenSpec.ofChange textBackSpec)

/-- ITS FALSE NEIGHBOUR: 'it returns false'. Refute it at one input. -/
def textBackWrong : ChangeSpec := { name := "textBack", fn := fun _ => fun
  | [d] => { results := [.lit (.bool false)], args := [d] }
  | _ => none }
def TextBackWrongFalsely : Prop := textBackRow.holds Try.pinned (OpenSpec.ofChange textBackWrong)

/- THE SECOND FORM. 'bulk': how many values and letters a reading holds, each counted each time it is reached (what is shared counts as often as it is met; a slice's spare places count too). A statement '..UptoSaid' is the law's where the arguments, and the package variables that the reading takes, are together of bulk at most 1048576: NARROWER than '..Said'. Prove '..Said' where nothing that the law and all that it calls make is longer than what came in: it says more and counts as full. Else prove '..UptoSaid'. A law counts once. -/
mutual
def uptoBulk {H : Type} : DataW H → Nat
  | .lit (.string bytes) => bytes.length + 1
  | .lit _ => 1
  | .nil => 1
  | .ptr d => uptoBulk d + 1
  | .slice elems spare => uptoBulkAll elems + uptoBulkAll spare + 1
  | .agg parts => uptoBulkAll parts + 1
  | .iface _ d => uptoBulk d + 1
  | .map entries => uptoBulkEntries entries + 1
  | .held _ => 1
def uptoBulkAll {H : Type} : List (DataW H) → Nat
  | [] => 0
  | d :: r => uptoBulk d + uptoBulkAll r
def uptoBulkEntries {H : Type} : List (Lit × DataW H) → Nat
  | [] => 0
  | x :: r => uptoBulkEntry x + uptoBulkEntries r
def uptoBulkEntry {H : Type} : Lit × DataW H → Nat
  | (.string bytes, d) => bytes.length + uptoBulk d + 1
  | (_, d) => uptoBulk d + 1
 end
def uptoSmall : (H : Type) → List (DataW H) → Bool := fun _ ds => decide (uptoBulkAll ds ≤ 1048576)
def OpenSpec.upto (s : _root_.Go.ChangeSpec) : _root_.Go.OpenSpec := { _root_.Go.OpenSpec.ofChange s with cond := some uptoSmall }

/-- 'amalgamlaw05.TextBlanks', WHERE WHAT IT READS IS OF BULK AT MOST 1048576: true; the input reads as it did. -/
def textBlanksUptoRow : OpenClaim := { program := "ytpepjodkahdicaa", sum := "959681f1c5e7940594a9d8350c634b5d230601c9c0c0ec1003927062dca074b8", func := "amalgam/amalgamlaw05.TextBlanks", spec := "textBlanks", inPlace := ["internal/bytealg.IndexByteString", "internal/abi.NoEscape", "internal/bytealg.MakeNoZero"], unfollowed := true, recurses := true, apart := false, narrowed := true }
def TextBlanksUptoSaid : Prop := textBlanksUptoRow.holds Try.pinned (OpenSpec.upto textBlanksSpec)

/-- 'amalgamlaw05.TextAgain', WHERE WHAT IT READS IS OF BULK AT MOST 1048576: true; the input reads as it did. -/
def textAgainUptoRow : OpenClaim := { program := "ytpepjodkahdicaa", sum := "959681f1c5e7940594a9d8350c634b5d230601c9c0c0ec1003927062dca074b8", func := "amalgam/amalgamlaw05.TextAgain", spec := "textAgain", inPlace := ["internal/bytealg.IndexByteString", "internal/abi.NoEscape", "internal/bytealg.MakeNoZero"], unfollowed := true, recurses := true, apart := false, narrowed := true }
def TextAgainUptoSaid : Prop := textAgainUptoRow.holds Try.pinned (OpenSpec.upto textAgainSpec)

/-- 'amalgamlaw05.TextBack', WHERE WHAT IT READS IS OF BULK AT MOST 1048576: true; the input reads as it did. -/
def textBackUptoRow : OpenClaim := { program := "ytpepjodkahdicaa", sum := "959681f1c5e7940594a9d8350c634b5d230601c9c0c0ec1003927062dca074b8", func := "amalgam/amalgamlaw05.TextBack", spec := "textBack", inPlace := ["internal/bytealg.IndexByteString", "internal/abi.NoEscape", "internal/bytealg.MakeNoZero"], unfollowed := true, recurses := true, loops := true, apart := false, narrowed := true }
def TextBackUptoSaid : Prop := textBackUptoRow.holds Try.pinned (OpenSpec.upto textBackSpec)

end Rows
end Go.Proofs.Ytpepjodkahdicaa
