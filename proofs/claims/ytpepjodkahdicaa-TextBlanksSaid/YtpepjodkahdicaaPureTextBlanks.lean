/-
  TextBlanks, plainly, in the row's own words: whatever the signature and the text, the law answers true. Conditions: none beyond what an argument's reading gives.
-/
import Derived.Test.YtpepjodkahdicaaPureText
import Derived.Test.YtpepjodkahdicaaOpenSym
namespace Go.Proofs.Ytpepjodkahdicaa.Pure
open Go.RowKit Go.Proofs.YtpepjodkahdicaaW.PrintWords Go.Proofs.Ytpepjodkahdicaa.PTx
theorem TextBlanks (g : List S62) (l : ByteArray) (hg : g.length * 48 ≤ 140737488351232 ∧ ∀ x ∈ g, Rd.OkSym x) (hl : l.size ≤ 140737488351232) : ∃ k, amalgamlaw05_TextBlanks.f k g l = some true :=
  Sw.TextBlanks g l (by omega) hl
end Go.Proofs.Ytpepjodkahdicaa.Pure
