-- Laid for this claim by the kit's print.sh (OWN=1), then cut to what the claim uses by a program of this session (wip/tools/prune.py).
import Derived.Test.YtpepjodkahdicaaWWords
import Derived.Test.YtpepjodkahdicaaWLast
namespace Go.Proofs.YtpepjodkahdicaaW.PrintWords
open Go.RowKit
namespace Kd
/-- What a kind reads lies in the blocks: nothing else of the world is looked at. -/
structure Heap {α : Type} (d : Kd α) : Prop where
  K : ∀ {w w1 : World} {x : α} {cs : List Value}, (∀ k, k < w.heap.size → w1.heap[k]? = w.heap[k]?) → d.K w x cs → d.K w1 x cs
section
variable {α : Type} {d : Kd α} {e base g n c : Nat} {ok : Nat → Prop} {w w0 W : World} {A : Option Addr} {xs : List α}
end
end Kd
end Go.Proofs.YtpepjodkahdicaaW.PrintWords
