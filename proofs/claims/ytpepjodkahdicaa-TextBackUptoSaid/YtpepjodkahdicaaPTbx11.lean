-- Written by programs of this session (wip/tools), cut to what the claim uses (wip/tools/prune.py).
import Derived.Test.YtpepjodkahdicaaPTbx0
import Derived.Test.YtpepjodkahdicaaRdP
-- Written by a program of this session (wip/tools/myprint.py): functions, contracts, their proofs. Lean checks it.
namespace Go.Proofs.Ytpepjodkahdicaa.PTb
open Go.RowKit Go.Proofs.YtpepjodkahdicaaW.PrintWords Go.Proofs.YtpepjodkahdicaaW.PrintLast Go.Proofs.YtpepjodkahdicaaW.PrintMore
attribute [local go_sem] max2_int min2_int max_two min_two max_three min_three max_four min_four   -- for this text's walks alone
set_option linter.unusedVariables false
set_option linter.unusedSimpArgs false
-- OWNFILE
-- IMPORTS RdP
def text_Equation.f (k : Nat) (l0 : List (S62)) (a1 : ByteArray) : Option (ByteArray × Int × (List (S27)) × ByteArray × Int × (List (S27)) × Int × Int) := rdEqF k l0 a1
theorem text_Equation.calls (k : Nat) (A0 : Option Addr) (c0 : Nat) (l0 : List (S62)) (a1 : ByteArray) (r1 : ByteArray) (r2 : Int) (r3 : List (S27)) (r4 : ByteArray) (r5 : Int) (r6 : List (S27)) (r7 : Int) (r8 : Int) (w : World) (hr0 : Kd.C k62 w A0 l0.length l0) (hc0 : l0.length ≤ c0) (h : text_Equation.f k l0 a1 = some (r1, r2, r3, r4, r5, r6, r7, r8)) :
    Calls Try.prog 13 #[.slice A0 l0.length c0, .string a1] w fun e w' => ∃ v2_ v5_ : Value, e = .returned (.tuple #[.agg #[.string r1, .int .i64 r2, v2_, .string r4, .int .i64 r5, v5_], .int .i64 r7, .int .i64 r8]) ∧ Kd.R k27 27 w' w.heap.size (fun k_ => some k_ ≠ (v5_ : Value).ownBlock) v2_ r3 ∧ Kd.R k27 27 w' w.heap.size (fun k_ => some k_ ≠ (v2_ : Value).ownBlock) v5_ r6 ∧ Below w.heap.size w w' :=
  Equation_calls k A0 c0 l0 a1 r1 r2 r3 r4 r5 r6 r7 r8 w hr0 hc0 h

end Go.Proofs.Ytpepjodkahdicaa.PTb
