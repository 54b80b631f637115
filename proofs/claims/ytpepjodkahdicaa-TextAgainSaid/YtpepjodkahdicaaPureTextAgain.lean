/-
  TextAgain, plainly, in the row's own words: whatever the signature and the text, the law answers true. Conditions: none beyond what an argument's reading gives.
-/
import Derived.Test.YtpepjodkahdicaaPureAgain
import Derived.Test.YtpepjodkahdicaaOpenSym
namespace Go.Proofs.Ytpepjodkahdicaa.Pure
open Go.RowKit Go.Proofs.YtpepjodkahdicaaW.PrintWords Go.Proofs.Ytpepjodkahdicaa.PTx
theorem TextAgain (g : List S62) (l : ByteArray) (hg : g.length * 48 ≤ 140737488351232 ∧ ∀ x ∈ g, Rd.OkSym x) (_hl : l.size ≤ 140737488351232) : ∃ k, amalgamlaw05_TextAgain.f k g l = some true :=
  Sw.TextAgain g l (by omega)
end Go.Proofs.Ytpepjodkahdicaa.Pure
