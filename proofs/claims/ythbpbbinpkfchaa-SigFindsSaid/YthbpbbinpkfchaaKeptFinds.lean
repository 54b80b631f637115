/-
  The law SigFinds walked. Conditions: the theorem's own.
-/
import Derived.Test.YthbpbbinpkfchaaKept
import Derived.Test.YthbpbbinpkfchaaPSigx13
import Derived.Test.YthbpbbinpkfchaaPSigx13
import Derived.Test.YthbpbbinpkfchaaPSigx4
import Derived.Test.YthbpbbinpkfchaaPSigx4
namespace Go.Proofs.Ythbpbbinpkfchaa.Kp
open Go.RowKit Go.Proofs.YthbpbbinpkfchaaW.PrintWords Go.Proofs.YthbpbbinpkfchaaW.PrintLast Go.Proofs.YthbpbbinpkfchaaW.PrintMore Go.Proofs.Ythbpbbinpkfchaa.PSig
attribute [local go_sem] max2_int min2_int max_two min_two max_three min_three max_four min_four
set_option linter.unusedVariables false
set_option linter.unusedSimpArgs false
/-- What the law SigFinds asks of its parts. -/
def FindsP (k : Nat) (l : List S36) (names : List ByteArray) (places : List Int) : Prop :=
  l.length < 2932031007401 ∧ amalgamlaw01_head.f k = some true ∧ (∀ nm, ∃ a ok, sig_Find.f k l nm = some (a, ok) ∧ amalgamref01_Find.f k l nm = some (a, ok)) ∧
  (∀ q, ∃ a ok, sig_Unit.f k l q = some (a, ok) ∧ amalgamref01_Unit.f k l q = some (a, ok)) ∧ (∃ us, sig_Units.f k l = some us ∧ amalgamref01_Units.f k l = some us) ∧ amalgamref01_Same.f k l l = some true
theorem str_cell {w : World} {A : Option Addr} {n : Nat} {xs : List ByteArray} (h : Kd.C Kd.string w A n xs) (i : Nat) (hi : i < n) : ∃ ad, A = some ad ∧ w.cell? (ad.add i) = some (.string (xs.getD i ByteArray.empty)) := by
  obtain ⟨ad, c, e, _, hK, hc⟩ := Kd.C_get h ByteArray.empty (i : Int) (by omega) (by omega)
  refine ⟨ad, e, ?_⟩
  have hK' : c = [.string (xs.getD (i : Int).toNat ByteArray.empty)] := hK
  subst hK'
  have := hc 0 _ rfl
  simpa [show Kd.string.sz = 1 from rfl] using this
theorem int_cell {w : World} {A : Option Addr} {n : Nat} {xs : List Int} (h : Kd.C (Kd.int .i64) w A n xs) (i : Nat) (hi : i < n) : ∃ ad, A = some ad ∧ w.cell? (ad.add i) = some (.int .i64 (xs.getD i 0)) := by
  obtain ⟨ad, c, e, _, hK, hc⟩ := Kd.C_get h 0 (i : Int) (by omega) (by omega)
  refine ⟨ad, e, ?_⟩
  have hK' : c = [.int .i64 (xs.getD (i : Int).toNat 0)] := hK
  subst hK'
  have := hc 0 _ rfl
  simpa [show (Kd.int .i64).sz = 1 from rfl] using this
set_option maxHeartbeats 2000000 in
set_option maxRecDepth 100000 in
theorem SigFinds_calls (k : Nat) (A0 : Option Addr) (c0 : Nat) (l0 : List S36) (A1 : Option Addr) (c1 : Nat) (l1 : List ByteArray) (A2 : Option Addr) (c2 : Nat) (l2 : List Int) (_r : Bool) (w : World)
    (hr0 : Kd.C k36 w A0 l0.length l0) (hc0 : l0.length ≤ c0) (hr1 : Kd.C Kd.string w A1 l1.length l1) (hc1 : l1.length ≤ c1) (hr2 : Kd.C (Kd.int .i64) w A2 l2.length l2) (hc2 : l2.length ≤ c2) (h : FindsP k l0 l1 l2) :
    Calls Try.prog 7 #[.slice A0 l0.length c0, .slice A1 l1.length c1, .slice A2 l2.length c2] w fun e w' => e = .returned (.bool true) ∧ Below w.heap.size w w' := by
  obtain ⟨hl, hh, hfi, hun, ⟨us, hu1, hu2⟩, h3⟩ := h
  have HFI := Aside0.mk hfi
  have HUN := Aside0.mk hun
  have HU1 := Aside0.mk hu1
  have HU2 := Aside0.mk hu2
  have H3 := Aside0.mk h3
  have HR0 := Aside0.mk hr0
  have HR1 := Aside0.mk hr1
  have HR2 := Aside0.mk hr2
  have hn1 : l1.length ≤ 9223372036854775807 := hr1.2.1
  have hn2 : l2.length ≤ 9223372036854775807 := hr2.2.1
  clear hfi hun hu1 hu2 h3 hr0 hr1 hr2
  go_enter Try.func7, Try.ntmps7
  go_wp2_with fail
  refine (amalgamlaw01_head.calls k true _ hh).mono ?_
  rintro e w1 ⟨rfl, hb1⟩
  go_wp2_with fail
  refine (lent_calls A0 c0 l0 w1 (Kd.C_below HR0.out hb1) hc0 hl).mono ?_
  rintro e w2 ⟨v, rfl, ⟨A, c, rfl, hR⟩, hb2⟩
  have hX := Kd.R_reads' hR
  rw [List.length_append] at hX
  obtain ⟨_, hXc, hXC⟩ := hX
  have HX : Aside0 (Kd.C k36 w2 A (l0.length + 1) (l0 ++ [mark])) := ⟨hXC⟩
  have HXc := Aside0.mk hXc
  have HB2 := Aside0.mk (Below.join hb1 hb2)
  clear hXc hXC hR hb1 hb2 hh
  go_wp2
  go_loopw [9, 10, 11, 12, 13] (fun v9 v10 v11 v12 v13 w' => ∃ (i : Nat), v9 = .int .i64 i ∧ i ≤ l1.length ∧ Aside0 (Below w2.heap.size w2 w')) (fun v9 _ _ _ _ _ => l1.length - (intOf v9).toNat)
  case atStart => exact ⟨0, rfl, Nat.zero_le _, ⟨Below.refl _ _⟩⟩
  case round =>
    obtain ⟨i, rfl, hi, HBr⟩ := hrel
    by_cases hlt : i < l1.length
    · obtain ⟨ad, rfl, hcell⟩ := str_cell (Kd.C_below (Kd.C_below HR1.out HB2.out) HBr.out) i hlt
      obtain ⟨a, ok, hf1, hf2⟩ := HFI.out (l1.getD i ByteArray.empty)
      have C1 := Aside0.mk (sig_Find.calls k A c l0 _ a ok wr (C_prefix (Kd.C_below HX.out HBr.out)) (by have := HXc.out; omega) hf1)
      have C2 := fun m => Aside0.mk (amalgamref01_Find.calls k A0 c0 l0 _ a ok (wr.drewN m) (Kd.C_drewN (Kd.C_below HR0.out (Below.join HB2.out HBr.out)) m) hc0 hf2)
      have C2 := Aside0.mk C2
      generalize l1.getD i ByteArray.empty = nm at hcell C1 C2 hf1 hf2
      clear hf1 hf2
      go_wp2_with fail
      refine C1.out.mono ?_
      rintro e w3 ⟨rfl, ⟨m3, rfl⟩⟩
      have hcell2 : (wr.drewN m3).cell? (ad.add i) = some (.string nm) := hcell
      go_wp2_with fail
      refine (C2.out m3).out.mono ?_
      rintro e w4 ⟨rfl, ⟨m4, rfl⟩⟩
      clear C1 C2 hcell hcell2
      go_wp2
      go_roundw
      case rel => exact ⟨i + 1, by go_num, by omega, ⟨by repeat (first | exact HBr.out | apply pw_below_drewN)⟩⟩
      case measure => simp [intOf]; omega
    · go_wp2
      go_loopw [14, 15, 16, 17, 18] (fun v9 v10 v11 v12 v13 w' => ∃ (i : Nat), v9 = .int .i64 i ∧ i ≤ l2.length ∧ Aside0 (Below w2.heap.size w2 w')) (fun v9 _ _ _ _ _ => l2.length - (intOf v9).toNat)
      case atStart => exact ⟨0, rfl, Nat.zero_le _, HBr⟩
      case round =>
        clear hi hlt HBr
        obtain ⟨i, rfl, hi, HBr⟩ := hrel
        by_cases hlt : i < l2.length
        · obtain ⟨ad, rfl, hcell⟩ := int_cell (Kd.C_below (Kd.C_below HR2.out HB2.out) HBr.out) i hlt
          obtain ⟨a, ok, hf1, hf2⟩ := HUN.out (l2.getD i 0)
          have C1 := Aside0.mk (sig_Unit.calls k A c l0 _ a ok wr (C_prefix (Kd.C_below HX.out HBr.out)) (by have := HXc.out; omega) hf1)
          have C2 := fun m => Aside0.mk (amalgamref01_Unit.calls k A0 c0 l0 _ a ok (wr.drewN m) (Kd.C_drewN (Kd.C_below HR0.out (Below.join HB2.out HBr.out)) m) hc0 hf2)
          have C2 := Aside0.mk C2
          generalize l2.getD i 0 = nm at hcell C1 C2 hf1 hf2
          clear hf1 hf2
          go_wp2_with fail
          refine C1.out.mono ?_
          rintro e w3 ⟨rfl, ⟨m3, rfl⟩⟩
          have hcell2 : (wr.drewN m3).cell? (ad.add i) = some (.int .i64 nm) := hcell
          go_wp2_with fail
          refine (C2.out m3).out.mono ?_
          rintro e w4 ⟨rfl, ⟨m4, rfl⟩⟩
          clear C1 C2 hcell hcell2
          go_wp2
          go_roundw
          case rel => exact ⟨i + 1, by go_num, by omega, ⟨by repeat (first | exact HBr.out | apply pw_below_drewN)⟩⟩
          case measure => simp [intOf]; omega
        · go_wp2_with fail
          refine (sig_Units.calls k A c l0 us wr (C_prefix (Kd.C_below HX.out HBr.out)) (by have := HXc.out; omega) HU1.out).mono ?_
          rintro e w3 ⟨vl, rfl, hRl, hb3⟩
          obtain ⟨Al, cl, rfl⟩ := Kd.R_slice hRl
          have HB3 := Aside0.mk (Below.join HBr.out hb3)
          go_wp2_with fail
          refine (amalgamref01_Units.calls k A0 c0 l0 us w3 (Kd.C_below HR0.out (Below.join HB2.out HB3.out)) hc0 HU2.out).mono ?_
          rintro e w4 ⟨vm, rfl, hRm, hb4⟩
          obtain ⟨Am, cm, rfl⟩ := Kd.R_slice hRm
          have HB4 := Aside0.mk (Below.join HB3.out hb4)
          have HL := Aside0.mk (Kd.R_lower (Kd.R_below hRl hb4) HBr.out.size)
          have HL3 := Aside0.mk hRl
          have HM := Aside0.mk hRm
          have hul : us.length ≤ 9223372036854775807 := (Kd.R_reads' hRl).2.2.2.1
          have heq : (us.length : Int) = (us.length : Int) := rfl
          have HSZ := Aside0.mk HBr.out.size
          clear hRl hRm hb3 hb4 HB3 hi hlt heq
          go_wp2
          go_loopw [21] (fun v21 w' => ∃ (i : Nat) (xs : List Int), v21 = .int .i64 i ∧ i ≤ us.length ∧ Aside0 (∀ j, i ≤ j → xs.getD j 0 = us.getD j 0) ∧ Aside0 (Kd.R (Kd.int .i64) 3 w' w2.heap.size (fun _ => True) (.slice Al us.length cl) xs) ∧ Aside0 (Kd.R (Kd.int .i64) 3 w' w3.heap.size (fun _ => True) (.slice Am us.length cm) us) ∧ Aside0 (Below w2.heap.size w2 w')) (fun v21 _ => us.length - (intOf v21).toNat)
          case atStart => exact ⟨0, us, rfl, Nat.zero_le _, ⟨fun _ _ => rfl⟩, HL, HM, HB4⟩
          case round =>
            clear HB4 HBr HL HM
            obtain ⟨i, xs, rfl, hi, HXS, HL, HM, HBr⟩ := hrel
            by_cases hlt : i < us.length
            · have hxl := (Kd.R_reads' HL.out).1
              obtain ⟨g, cap, eq, gb, gl, _⟩ := Kd.R_form HL3.out (by omega)
              injection eq with ea en ec
              subst ea
              clear ec en
              obtain ⟨ce, hcl, hM, hcc, hfr⟩ := Kd.R_elem HL.out 0 (i : Int) (by omega) (by omega)
              have hM' : ce = [.int .i64 (xs.getD (i : Int).toNat 0)] := hM
              subst hM'
              have hS := fun m => (Kd.R_seg (Kd.R_drewN HL.out m) (i : Int) (by omega) (by omega) (seg := [.int .i64 (-1)]) (j := 0) hcl hcc (show 1 ≤ 1 from by decide) (x' := (-1 : Int)) (show (Kd.int .i64).M _ _ (fun k_ => True ∧ k_ ≠ g) (-1) [.int .i64 (-1)] from rfl) (fun _ hk => hk)).1
              simp only [show (Kd.int .i64).sz = 1 from rfl, Nat.mul_one, Nat.add_zero, Int.toNat_natCast] at hS
              have HS := Aside0.mk hS
              clear hS
              have hc0' : wr.cell? ⟨g, i, none⟩ = some (.int .i64 (us.getD i 0)) := by
                have := hcc 0 _ rfl
                rw [Int.toNat_natCast, HXS.out i (Nat.le_refl _)] at this
                simpa [show (Kd.int .i64).sz = 1 from rfl] using this
              have hf0 : wr.frozen? ⟨g, i, none⟩ = false := by
                have := hfr 0
                simpa [show (Kd.int .i64).sz = 1 from rfl] using this
              obtain ⟨am, rfl, hcm⟩ := int_cell (Kd.R_reads' HM.out).2.2 i hlt
              have hi1 : (i : Int) < (us.length : Int) := by omega
              have HG := Aside0.mk (Nat.le_trans HB2.out.size (Nat.le_refl _))
              have HGL := Aside0.mk gl
              have HGB := Aside0.mk gb
              have HXL := Aside0.mk hxl
              clear hcl hM hcc hfr hxl gb gl
              generalize us.getD i 0 = uv at hc0' hcm
              go_wp2_with fail
              have hi2 : 0 ≤ (i : Int) := by omega
              go_quiet (fail)
              go_wp2
              go_roundw
              case rel =>
                refine ⟨i + 1, xs.set i (-1), by go_num, by omega, ⟨fun j hj => ?_⟩, ⟨?_⟩, ⟨?_⟩, ⟨?_⟩⟩
                · rw [List.getD_eq_getElem?_getD, List.getElem?_set_ne (by omega), ← List.getD_eq_getElem?_getD]
                  exact HXS.out j (by omega)
                · exact HS.out nq
                · (with_reducible repeat (first | apply Kd.R_alloc | apply Kd.R_drewN | apply Kd.R_drew))
                  refine Kd.R_mono (Kd.R_far (Kd.R_drewN (Kd.R_mono (Kd.R_bound HM.out) (ok' := fun k => k ≠ g) (fun q hq => ?_)) _) (fun q hq => hq) _) (fun _ _ => trivial)
                  have := hq.2.1
                  have := HGL.out
                  omega
                · exact below_set (pw_below_drewN HBr.out nq) (Nat.le_trans HSZ.out HGB.out)
              case measure => simp [intOf]; omega
            · go_wp2_with fail
              refine (kept_calls k A c l0 A0 c0 l0 _ (Kd.C_below HX.out HBr.out) HXc.out (Kd.C_below HR0.out (Below.join HB2.out HBr.out)) hc0 H3.out rfl).mono ?_
              rintro e w6 ⟨rfl, ⟨m6, rfl⟩⟩
              go_wp2
              go_ret
              exact ⟨by first | rfl | (simp; done), by repeat (first | exact Below.join HB2.out HBr.out | apply pw_below_drewN)⟩
end Go.Proofs.Ythbpbbinpkfchaa.Kp
