/- The row of the law amalgam/amalgamlaw01.SigNewest: for every input the call returns true and the input reads as before; out of the plain statement (Pure) and the walk. Conditions: none. -/
import Derived.Test.YthbpbbinpkfchaaRows
import Derived.Test.YthbpbbinpkfchaaOpen
import Derived.Test.YthbpbbinpkfchaaPureSigNewest
import Derived.Test.YthbpbbinpkfchaaOpenSym
import Derived.WalkKit
import Derived.ProofKit
import Derived.OpenShut
import Derived.ShutString
import Derived.ChangeOld
import Derived.Below
import Derived.SizedLaws
import Derived.Lib.SmallJoins
import Derived.WideShapes
import Derived.Carry
namespace Go.Proofs.Ythbpbbinpkfchaa.sigNewest
open Go.ChangeShapes Go.WideShapes Go.ChangeAt Go.RowKit
open Go.ChangeMaps (open_string shut_string)
set_option linter.unusedVariables false
theorem own : ownKnob Try.prog.godebug = none := by kernel_rfl
theorem laidOut : laidOutB Try.prog = true := by kernel_rfl
set_option maxRecDepth 100000 in
theorem lifted (os : Os) (started : os.Started) (H : Type) (enc : TypeId × Value → H) :
    ReturnsInHanded {} Try.checked os 5 .any (Rows.sigNewestSpec.pre6 enc Try.prog Try.f5 Rows.sigNewestRow.domain false) (Rows.sigNewestSpec.post enc Try.prog Try.f5 false true false false) := by
  refine returnsInHanded_of_change_sized (C := Try.checked) own started (by kernel_rfl) Try.func5
    (ChangeSpec.witness6 (enc := enc) (C := Try.checked) false ⟨#[], #[.slice none 0 0, .agg #[.string ByteArray.empty, .int .i64 0, .int .i64 0, .string ByteArray.empty]], []⟩ 8 (by kernel_rfl) (by kernel_rfl) (by kernel_rfl) (by kernel_rfl)) ?_
  intro W base args ds gs before hval0 hW hcnd hsz0 _
  have hsz : (DataW.weightsEach Try.prog (Try.f5.params.toList ++ Rows.sigNewestSpec.plain.varTypes Try.prog) (ds ++ gs)).all (· ≤ reachBytes) = true := hsz0
  have hval : ∀ (j : Nat) t v, Try.f5.params[j]? = some t → args[j]? = some v → Value.okWide Try.prog W .any base t v := hval0
  have hW' := hW
  obtain ⟨p, q, hA0, hV, rfl, hfz, hnd⟩ := hW
  have hA : DataW.TrodAll enc Try.prog W 0 (fun _ => true) true Try.f5.params.toList args.toList ds p := hA0
  rw [Try.params5] at hA hval hsz
  obtain ⟨v0, vs0, d0, ds0, p0, q0, hargs, rfl, rfl, h0, r0⟩ := trodAll_cons hA
  obtain ⟨v1, vs1, d1, ds1, p1, q1, rfl, rfl, rfl, h1, r1⟩ := trodAll_cons r0
  obtain ⟨rfl, rfl, rfl⟩ := trodAll_nil r1
  obtain rfl : args = #[v0, v1] := by cases args; simp_all
  obtain ⟨rfl, rfl⟩ := trodVars_none hV
  obtain ⟨wt0, hz0⟩ := Rd.weights_cons (show (DataW.weightsEach Try.prog (27 :: _) (_ :: _)).all (· ≤ reachBytes) = true from hsz)
  have k0 := h0
  have lt0 : ∀ x ∈ p0, x.block < W.heap.size := by obtain ⟨m, hm⟩ := k0; exact DataW.trod_lt m _ _ _ hm
  obtain ⟨l0, K0, V0⟩ := Rd.opens_arg Rd.opens_sig h0 wt0
  obtain ⟨A0, c0, rfl, hc0, hr0⟩ := Rd.slice_value K0 (okWide_slice Try.underlying27 (hval 0 27 v0 rfl rfl))
  obtain ⟨wt1, hz1⟩ := Rd.weights_cons (show (DataW.weightsEach Try.prog (36 :: _) (_ :: _)).all (· ≤ reachBytes) = true from hz0)
  have k1 := h1
  have lt1 : ∀ x ∈ p1, x.block < W.heap.size := by obtain ⟨m, hm⟩ := k1; exact DataW.trod_lt m _ _ _ hm
  obtain ⟨l1, K1, V1⟩ := Rd.opens_arg Rd.opens_sym h1 wt1
  obtain ⟨cs1, rfl, _⟩ := okWide_struct Try.underlying36 (hval 1 36 v1 rfl rfl)
  obtain rfl := Array.ext' (show cs1.toList = #[.string l1.f0, .int .i64 l1.f1, .int .i64 l1.f2, .string l1.f3].toList from PSig.k36_open K1)
  clear hA0 hval0 hsz0 hsz
  obtain ⟨k, hk⟩ := Pure.SigNewest l0 l1 V0 V1
  refine (PSig.amalgamlaw01_SigNewest.calls k _ _ l0 l1.f0 l1.f1 l1.f2 l1.f3 true W hr0 hc0 hk).mono fun e W' ⟨he, bel⟩ => ?_
  subst he
  exact ⟨_, rfl, _, _, _, [], _, [], hW', trodAll_mk1 (shut_bool Try.underlying4 _), (trodAll_cons_mk (Below.trod laidOut (by kernel_rfl) (of_decide_eq_true (by kernel_rfl)) k0 bel lt0) (trodAll_cons_mk (Below.trod laidOut (by kernel_rfl) (of_decide_eq_true (by kernel_rfl)) k1 bel lt1) trodAll_mk0)), rfl, bel.frame _, fun h => by cases h⟩
theorem over : Rows.sigNewestRow.holds Try.pinned (OpenSpec.ofChange Rows.sigNewestSpec) :=
  OpenClaim.holds_of_wide 5 Try.f5 rfl rfl rfl rfl rfl rfl rfl ⟨rfl, rfl, rfl, rfl, rfl⟩ rfl rfl rfl rfl rfl (by kernel_rfl) Try.func5 (by kernel_rfl)
    (of_decide_eq_true (by kernel_rfl)) (by unfold Func.isWrapper; first | (rw [if_pos (by decide +kernel)]; kernel_rfl) | (rw [if_neg (by decide +kernel)]; exact ⟨rfl, rfl⟩))
    (fun os started H enc _ => lifted os started H enc)
theorem proved : Rows.SigNewestSaid := over
#print axioms proved
end Go.Proofs.Ythbpbbinpkfchaa.sigNewest
namespace Go.Proofs.Ythbpbbinpkfchaa
/-- The row, under a short name, for the claim. -/
theorem sigNewest_holds : Rows.SigNewestSaid := sigNewest.proved
end Go.Proofs.Ythbpbbinpkfchaa
