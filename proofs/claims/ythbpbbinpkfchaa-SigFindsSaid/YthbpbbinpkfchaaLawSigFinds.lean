/- The row of the law amalgam/amalgamlaw01.SigFinds: for every input the call returns true and the input reads as before; out of the plain statement (Pure) and the walk. Conditions: none. -/
import Derived.Test.YthbpbbinpkfchaaRows
import Derived.Test.YthbpbbinpkfchaaOpen
import Derived.Test.YthbpbbinpkfchaaPureSigFinds
import Derived.Test.YthbpbbinpkfchaaOpenSym
import Derived.Test.YthbpbbinpkfchaaOpenStrs
import Derived.Test.YthbpbbinpkfchaaKeptFinds
import Derived.WalkKit
import Derived.ProofKit
import Derived.OpenShut
import Derived.ShutString
import Derived.ChangeOld
import Derived.Below
import Derived.SizedLaws
import Derived.Lib.SmallJoins
import Derived.WideShapes
import Derived.Carry
namespace Go.Proofs.Ythbpbbinpkfchaa.sigFinds
open Go.ChangeShapes Go.WideShapes Go.ChangeAt Go.RowKit
open Go.ChangeMaps (open_string shut_string)
set_option linter.unusedVariables false
theorem own : ownKnob Try.prog.godebug = none := by kernel_rfl
theorem laidOut : laidOutB Try.prog = true := by kernel_rfl
set_option maxRecDepth 100000 in
theorem lifted (os : Os) (started : os.Started) (H : Type) (enc : TypeId × Value → H) :
    ReturnsInHanded {} Try.checked os 7 .any (Rows.sigFindsSpec.pre6 enc Try.prog Try.f7 Rows.sigFindsRow.domain false) (Rows.sigFindsSpec.post enc Try.prog Try.f7 false true false false) := by
  refine returnsInHanded_of_change_sized (C := Try.checked) own started (by kernel_rfl) Try.func7
    (ChangeSpec.witness6 (enc := enc) (C := Try.checked) false ⟨#[], #[.slice none 0 0, .slice none 0 0, .slice none 0 0], []⟩ 8 (by kernel_rfl) (by kernel_rfl) (by kernel_rfl) (by kernel_rfl)) ?_
  intro W base args ds gs before hval0 hW hcnd hsz0 _
  have hsz : (DataW.weightsEach Try.prog (Try.f7.params.toList ++ Rows.sigFindsSpec.plain.varTypes Try.prog) (ds ++ gs)).all (· ≤ reachBytes) = true := hsz0
  have hval : ∀ (j : Nat) t v, Try.f7.params[j]? = some t → args[j]? = some v → Value.okWide Try.prog W .any base t v := hval0
  have hW' := hW
  obtain ⟨p, q, hA0, hV, rfl, hfz, hnd⟩ := hW
  have hA : DataW.TrodAll enc Try.prog W 0 (fun _ => true) true Try.f7.params.toList args.toList ds p := hA0
  rw [Try.params7] at hA hval hsz
  obtain ⟨v0, vs0, d0, ds0, p0, q0, hargs, rfl, rfl, h0, r0⟩ := trodAll_cons hA
  obtain ⟨v1, vs1, d1, ds1, p1, q1, rfl, rfl, rfl, h1, r1⟩ := trodAll_cons r0
  obtain ⟨v2, vs2, d2, ds2, p2, q2, rfl, rfl, rfl, h2, r2⟩ := trodAll_cons r1
  obtain ⟨rfl, rfl, rfl⟩ := trodAll_nil r2
  obtain rfl : args = #[v0, v1, v2] := by cases args; simp_all
  obtain ⟨rfl, rfl⟩ := trodVars_none hV
  obtain ⟨wt0, hz0⟩ := Rd.weights_cons (show (DataW.weightsEach Try.prog (27 :: _) (_ :: _)).all (· ≤ reachBytes) = true from hsz)
  have k0 := h0
  have lt0 : ∀ x ∈ p0, x.block < W.heap.size := by obtain ⟨m, hm⟩ := k0; exact DataW.trod_lt m _ _ _ hm
  obtain ⟨l0, K0, V0⟩ := Rd.opens_arg Rd.opens_sig h0 wt0
  obtain ⟨A0, c0, rfl, hc0, hr0⟩ := Rd.slice_value K0 (okWide_slice Try.underlying27 (hval 0 27 v0 rfl rfl))
  obtain ⟨wt1, hz1⟩ := Rd.weights_cons (show (DataW.weightsEach Try.prog (22 :: _) (_ :: _)).all (· ≤ reachBytes) = true from hz0)
  have k1 := h1
  have lt1 : ∀ x ∈ p1, x.block < W.heap.size := by obtain ⟨m, hm⟩ := k1; exact DataW.trod_lt m _ _ _ hm
  obtain ⟨l1, K1, V1⟩ := Rd.opens_arg Rd.opens_strs h1 wt1
  obtain ⟨A1, c1, rfl, hc1, hr1⟩ := Rd.slice_value K1 (okWide_slice Try.underlying22 (hval 1 22 v1 rfl rfl))
  obtain ⟨wt2, hz2⟩ := Rd.weights_cons (show (DataW.weightsEach Try.prog (41 :: _) (_ :: _)).all (· ≤ reachBytes) = true from hz1)
  have k2 := h2
  have lt2 : ∀ x ∈ p2, x.block < W.heap.size := by obtain ⟨m, hm⟩ := k2; exact DataW.trod_lt m _ _ _ hm
  obtain ⟨l2, K2, V2⟩ := Rd.opens_arg Rd.opens_ints h2 wt2
  obtain ⟨A2, c2, rfl, hc2, hr2⟩ := Rd.slice_value K2 (okWide_slice Try.underlying41 (hval 2 41 v2 rfl rfl))
  clear hA0 hval0 hsz0 hsz
  obtain ⟨k, hk⟩ := Pure.SigFinds l0 l1 l2 V0 V1 V2
  refine (Kp.SigFinds_calls k _ _ l0 _ _ l1 _ _ l2 true W hr0 hc0 hr1 hc1 hr2 hc2 hk).mono fun e W' ⟨he, bel⟩ => ?_
  subst he
  exact ⟨_, rfl, _, _, _, [], _, [], hW', trodAll_mk1 (shut_bool Try.underlying4 _), (trodAll_cons_mk (Below.trod laidOut (by kernel_rfl) (of_decide_eq_true (by kernel_rfl)) k0 bel lt0) (trodAll_cons_mk (Below.trod laidOut (by kernel_rfl) (of_decide_eq_true (by kernel_rfl)) k1 bel lt1) (trodAll_cons_mk (Below.trod laidOut (by kernel_rfl) (of_decide_eq_true (by kernel_rfl)) k2 bel lt2) trodAll_mk0))), rfl, bel.frame _, fun h => by cases h⟩
theorem over : Rows.sigFindsRow.holds Try.pinned (OpenSpec.ofChange Rows.sigFindsSpec) :=
  OpenClaim.holds_of_wide 7 Try.f7 rfl rfl rfl rfl rfl rfl rfl ⟨rfl, rfl, rfl, rfl, rfl⟩ rfl rfl rfl rfl rfl (by kernel_rfl) Try.func7 (by kernel_rfl)
    (of_decide_eq_true (by kernel_rfl)) (by unfold Func.isWrapper; first | (rw [if_pos (by decide +kernel)]; kernel_rfl) | (rw [if_neg (by decide +kernel)]; exact ⟨rfl, rfl⟩))
    (fun os started H enc _ => lifted os started H enc)
theorem proved : Rows.SigFindsSaid := over
#print axioms proved
end Go.Proofs.Ythbpbbinpkfchaa.sigFinds
namespace Go.Proofs.Ythbpbbinpkfchaa
/-- The row, under a short name, for the claim. -/
theorem sigFinds_holds : Rows.SigFindsSaid := sigFinds.proved
end Go.Proofs.Ythbpbbinpkfchaa
