/- The row of the law amalgam/amalgamlaw05.TextBack, where what it reads is of bulk at most 1048576: the call returns true and the input reads as before; out of the plain statement and the walk. Conditions: none. -/
-- Written by programs of this session (wip/tools), cut to what the claim uses (wip/tools/prune.py).
import Derived.Test.YtpepjodkahdicaaRows
import Derived.Test.YtpepjodkahdicaaOpenAll
import Derived.Test.YtpepjodkahdicaaBackB
import Derived.JoinedCond
import Derived.WalkKit
import Derived.ProofKit
import Derived.OpenShut
import Derived.ShutString
import Derived.ChangeOld
import Derived.Below
import Derived.SizedLaws
import Derived.Lib.SmallJoins
import Derived.WideShapes
import Derived.Carry
namespace Go.Proofs.Ytpepjodkahdicaa.textBackUpto
open Go.ChangeShapes Go.WideShapes Go.ChangeAt Go.RowKit
set_option linter.unusedVariables false
set_option linter.unusedSimpArgs false
theorem own : ownKnob Try.prog.godebug = none := by kernel_rfl
theorem laidOut : laidOutB Try.prog = true := by kernel_rfl
set_option maxRecDepth 100000 in
theorem lifted (os : Os) (started : os.Started) (H : Type) (enc : TypeId × Value → H) (F : Stop.Interp) :
    ReturnsInHanded {} Try.checked os 5 .any ((Rows.OpenSpec.upto Rows.textBackSpec).pre6 enc Try.prog Try.f5 Rows.textBackUptoRow.domain false) (((Rows.OpenSpec.upto Rows.textBackSpec).at F).post enc Try.prog Try.f5 false true false false) := by
  refine returnsInHanded_of_cond (C := Try.checked) (s := Rows.OpenSpec.upto Rows.textBackSpec) (k := Rows.uptoSmall) rfl own started (by kernel_rfl) Try.func5
    (OpenSpec.witness (enc := enc) (C := Try.checked) (s := Rows.OpenSpec.upto Rows.textBackSpec) (k := Rows.uptoSmall) rfl false ⟨#[], #[.agg #[.slice none 0 0, .string ByteArray.empty, .int .i64 0, .slice none 0 0, .string ByteArray.empty, .int .i64 0, .slice none 0 0, .slice none 0 0]], []⟩ 8 (by kernel_rfl) (by kernel_rfl) (by kernel_rfl)
      (x := ([.agg [.nil, .agg [.lit (.string []), .lit (.int .i64 0), .nil], .agg [.lit (.string []), .lit (.int .i64 0), .nil], .nil]], [], [])) (by kernel_rfl) rfl (by kernel_rfl)) ?_
  intro W base args ds gs before hval0 hW hcnd hk0 _
  have hval : ∀ (j : Nat) t v, Try.f5.params[j]? = some t → args[j]? = some v → Value.okWide Try.prog W .any base t v := hval0
  have hW' := hW
  obtain ⟨p, q, hA0, hV, rfl, hfz, hnd⟩ := hW
  have hA : DataW.TrodAll enc Try.prog W 0 (fun _ => true) true Try.f5.params.toList args.toList ds p := hA0
  rw [Try.params5] at hA hval
  obtain ⟨v0, vs0, d0, ds0, p0, q0, hargs, rfl, rfl, h0, r0⟩ := trodAll_cons hA
  obtain ⟨rfl, rfl, rfl⟩ := trodAll_nil r0
  obtain rfl : args = #[v0] := by cases args; simp_all
  obtain ⟨rfl, rfl⟩ := trodVars_none hV
  have k0 := h0
  have lt0 : ∀ x ∈ p0, x.block < W.heap.size := by obtain ⟨m, hm⟩ := k0; exact DataW.trod_lt m _ _ _ hm
  obtain ⟨A0, c0, g, L, R, A1, c1, A2, c2, A3, c3, B, e0, g0, l0, g1, l1, g2, l2, g3, l3, hB⟩ := Rd.opens_all h0
  obtain ⟨cs0, rfl, _⟩ := okWide_struct Try.underlying36 (hval 0 36 v0 rfl rfl)
  obtain rfl := Array.ext' (show cs0.toList = #[.slice A0 g.length c0, .string L.f0, .int .i64 L.f1, .slice A1 L.f2.length c1, .string R.f0, .int .i64 R.f1, .slice A2 R.f2.length c2, .slice A3 B.length c3].toList from e0)
  clear hA0 hval0
  have hk1 := of_decide_eq_true hk0
  simp only [List.nil_append, List.append_nil, List.cons_append, Rows.uptoBulkAll] at hk1
  have hb : B.length ≤ 1048576 := by omega
  obtain ⟨k, hf⟩ := Sw.TextBack g L R B hb
  refine (PTb.amalgamlaw05_TextBack.calls k A0 c0 g L.f0 L.f1 A1 c1 L.f2 R.f0 R.f1 A2 c2 R.f2 A3 c3 B true W g0 l0 g1 l1 g2 l2 g3 l3 rfl hf).mono fun e W' ⟨he, bel⟩ => ?_
  subst he
  exact ⟨_, rfl, _, _, _, [], _, [], hW', trodAll_mk1 (shut_bool Try.underlying4 _), (trodAll_cons_mk (Below.trod laidOut (by kernel_rfl) (of_decide_eq_true (by kernel_rfl)) k0 bel lt0) trodAll_mk0), rfl, bel.frame _, fun h => by cases h⟩
theorem over : Rows.textBackUptoRow.holds Try.pinned (Rows.OpenSpec.upto Rows.textBackSpec) :=
  OpenClaim.holds_of_cond 5 Try.f5 rfl rfl rfl rfl rfl rfl rfl ⟨rfl, rfl, rfl, rfl, rfl⟩ rfl rfl rfl rfl rfl (by kernel_rfl) Try.func5 (by kernel_rfl)
    (of_decide_eq_true (by kernel_rfl)) (by unfold Func.isWrapper; first | (rw [if_pos (by decide +kernel)]; kernel_rfl) | (rw [if_neg (by decide +kernel)]; exact ⟨rfl, rfl⟩))
    (fun os started H enc _ F => lifted os started H enc F)
theorem proved : Rows.TextBackUptoSaid := over
#print axioms proved
end Go.Proofs.Ytpepjodkahdicaa.textBackUpto
namespace Go.Proofs.Ytpepjodkahdicaa
/-- The row, under a short name, for the claim. -/
theorem textBackUpto_holds : Rows.TextBackUptoSaid := textBackUpto.proved
end Go.Proofs.Ytpepjodkahdicaa
