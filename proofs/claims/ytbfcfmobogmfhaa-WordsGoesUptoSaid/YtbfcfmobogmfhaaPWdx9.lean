-- Written by a program of this session (wip/tools/myprint.py): functions, contracts, their proofs. Lean checks it.
import Derived.Test.YtbfcfmobogmfhaaPWdx0
import Derived.Test.YtbfcfmobogmfhaaPWdx2
import Derived.Test.YtbfcfmobogmfhaaPWdx5
namespace Go.Proofs.Ytbfcfmobogmfhaa.PWd
open Go.RowKit Go.Proofs.YtbfcfmobogmfhaaW.PrintWords Go.Proofs.YtbfcfmobogmfhaaW.PrintLast Go.Proofs.YtbfcfmobogmfhaaW.PrintMore
attribute [local go_sem] max2_int min2_int max_two min_two max_three min_three max_four min_four   -- for this text's walks alone
set_option linter.unusedVariables false
set_option linter.unusedSimpArgs false

/-! ### amalgamlaw02_WordsApart: function 7 -/
mutual
def amalgamlaw02_WordsApart.j0 : Nat → ByteArray → ByteArray → Bool → List (S26) → List (S26) → Bool → Option (Bool)
  | 0, _, _, _, _, _, _ => none
  | k + 1, x0, x1, x5, x6, x9, x38 => if x38 = true then (some x5) else (if x0.size + 1 ≤ 9223372036854775807 then (if (x0 ++ (⟨#[32]⟩ : ByteArray)).size + x1.size ≤ 9223372036854775807 then ((words_List.f k ((x0 ++ (⟨#[32]⟩ : ByteArray)) ++ x1)).bind fun bt201 => (if bt201.2.1 = 0 then (amalgamlaw02_WordsApart.j1 k x0 x6 x9 bt201.1 ((bt201.1.length : Int) != (wrap64 ((x6.length : Int) + (x9.length : Int))))) else (amalgamlaw02_WordsApart.j1 k x0 x6 x9 bt201.1 true))) else (none)) else (none))
def amalgamlaw02_WordsApart.j1 : Nat → ByteArray → List (S26) → List (S26) → List (S26) → Bool → Option (Bool)
  | 0, _, _, _, _, _ => none
  | k + 1, x0, x6, x9, x12, x60 => if x60 = true then (some false) else (amalgamlaw02_WordsApart.l0 k x0 x6 x9 x12 0)
def amalgamlaw02_WordsApart.l0 : Nat → ByteArray → List (S26) → List (S26) → List (S26) → Int → Option (Bool)
  | 0, _, _, _, _, _ => none
  | k + 1, x0, x6, x9, x12, x15 => if x15 < (x9.length : Int) then (if 0 ≤ x15 then (amalgamlaw02_WordsApart.l0 k x0 x6 (x9.set (x15 : Int).toNat (⟨(rd_T26 x9 x15).f0, (rd_T26 x9 x15).f1, wrap64 ((wrap64 (((rd_T26 x9 x15).f2) + (x0.size : Int))) + 1)⟩ : S26)) x12 (wrap64 (x15 + 1))) else (none)) else (if 0 ≤ (x6.length : Int) then (if (x6.length : Int) ≤ (x12.length : Int) then ((amalgamlaw02_same.f k (x12.take ((x6.length : Int) : Int).toNat) x6).bind fun t212 => (if t212 = true then ((amalgamlaw02_same.f k (x12.drop ((x6.length : Int) : Int).toNat) x9).bind fun t217 => (some t217)) else (some false))) else (none)) else (none))
end
def amalgamlaw02_WordsApart.f (k : Nat) (a0 : ByteArray) (a1 : ByteArray) : Option (Bool) := (amalgamlaw02_head.f k).bind fun t190 => ((words_List.f k a0).bind fun bt191 => ((words_List.f k a1).bind fun bt196 => (if t190 = true then (if bt191.2.1 = 0 then (amalgamlaw02_WordsApart.j0 k a0 a1 t190 bt191.1 bt196.1 (bt196.2.1 != 0)) else (amalgamlaw02_WordsApart.j0 k a0 a1 t190 bt191.1 bt196.1 true)) else (amalgamlaw02_WordsApart.j0 k a0 a1 t190 bt191.1 bt196.1 true))))
theorem amalgamlaw02_WordsApart.mono_l : ∀ k, (∀ y0 y1 y2 y3 y4 y5, LeO (amalgamlaw02_WordsApart.j0 k y0 y1 y2 y3 y4 y5) (amalgamlaw02_WordsApart.j0 (k + 1) y0 y1 y2 y3 y4 y5)) ∧ (∀ y0 y1 y2 y3 y4, LeO (amalgamlaw02_WordsApart.j1 k y0 y1 y2 y3 y4) (amalgamlaw02_WordsApart.j1 (k + 1) y0 y1 y2 y3 y4)) ∧ (∀ y0 y1 y2 y3 y4, LeO (amalgamlaw02_WordsApart.l0 k y0 y1 y2 y3 y4) (amalgamlaw02_WordsApart.l0 (k + 1) y0 y1 y2 y3 y4))
  | 0 => ⟨fun _ _ _ _ _ _ r h => by simp [amalgamlaw02_WordsApart.j0] at h, fun _ _ _ _ _ r h => by simp [amalgamlaw02_WordsApart.j1] at h, fun _ _ _ _ _ r h => by simp [amalgamlaw02_WordsApart.l0] at h⟩
  | k + 1 => by
    obtain ⟨ih0, ih1, ih2⟩ := amalgamlaw02_WordsApart.mono_l k
    refine ⟨?_, ?_, ?_⟩
    · intro y0 y1 y2 y3 y4 y5
      unfold amalgamlaw02_WordsApart.j0
      repeat' first
      | (with_reducible exact ih0 _ _ _ _ _ _)
      | (with_reducible exact ih1 _ _ _ _ _)
      | (with_reducible exact ih2 _ _ _ _ _)
      | (with_reducible exact amalgamlaw02_head.mono _)
      | (with_reducible exact amalgamlaw02_same.mono _ _ _)
      | (with_reducible exact words_List.mono _ _)
      | (with_reducible exact LeO.refl _)
      | (with_reducible exact LeO.none _)
      | (with_reducible refine LeO.ite ?_ ?_)
      | (with_reducible refine LeO.bind ?_ (fun _ => ?_))
      | exact ih0 _ _ _ _ _ _
      | exact ih1 _ _ _ _ _
      | exact ih2 _ _ _ _ _
      | exact amalgamlaw02_head.mono _
      | exact amalgamlaw02_same.mono _ _ _
      | exact words_List.mono _ _
      | exact LeO.none _
      | refine LeO.ite ?_ ?_
      | refine LeO.bind ?_ (fun _ => ?_)
    · intro y0 y1 y2 y3 y4
      unfold amalgamlaw02_WordsApart.j1
      repeat' first
      | (with_reducible exact ih0 _ _ _ _ _ _)
      | (with_reducible exact ih1 _ _ _ _ _)
      | (with_reducible exact ih2 _ _ _ _ _)
      | (with_reducible exact amalgamlaw02_head.mono _)
      | (with_reducible exact amalgamlaw02_same.mono _ _ _)
      | (with_reducible exact words_List.mono _ _)
      | (with_reducible exact LeO.refl _)
      | (with_reducible exact LeO.none _)
      | (with_reducible refine LeO.ite ?_ ?_)
      | (with_reducible refine LeO.bind ?_ (fun _ => ?_))
      | exact ih0 _ _ _ _ _ _
      | exact ih1 _ _ _ _ _
      | exact ih2 _ _ _ _ _
      | exact amalgamlaw02_head.mono _
      | exact amalgamlaw02_same.mono _ _ _
      | exact words_List.mono _ _
      | exact LeO.none _
      | refine LeO.ite ?_ ?_
      | refine LeO.bind ?_ (fun _ => ?_)
    · intro y0 y1 y2 y3 y4
      unfold amalgamlaw02_WordsApart.l0
      repeat' first
      | (with_reducible exact ih0 _ _ _ _ _ _)
      | (with_reducible exact ih1 _ _ _ _ _)
      | (with_reducible exact ih2 _ _ _ _ _)
      | (with_reducible exact amalgamlaw02_head.mono _)
      | (with_reducible exact amalgamlaw02_same.mono _ _ _)
      | (with_reducible exact words_List.mono _ _)
      | (with_reducible exact LeO.refl _)
      | (with_reducible exact LeO.none _)
      | (with_reducible refine LeO.ite ?_ ?_)
      | (with_reducible refine LeO.bind ?_ (fun _ => ?_))
      | exact ih0 _ _ _ _ _ _
      | exact ih1 _ _ _ _ _
      | exact ih2 _ _ _ _ _
      | exact amalgamlaw02_head.mono _
      | exact amalgamlaw02_same.mono _ _ _
      | exact words_List.mono _ _
      | exact LeO.none _
      | refine LeO.ite ?_ ?_
      | refine LeO.bind ?_ (fun _ => ?_)
theorem amalgamlaw02_WordsApart.mono : ∀ a0 a1 k, LeO (amalgamlaw02_WordsApart.f k a0 a1) (amalgamlaw02_WordsApart.f (k + 1) a0 a1) := by
  intro a0 a1 k
  obtain ⟨ih0, ih1, ih2⟩ := amalgamlaw02_WordsApart.mono_l k
  unfold amalgamlaw02_WordsApart.f
  repeat' first
      | (with_reducible exact ih0 _ _ _ _ _ _)
      | (with_reducible exact ih1 _ _ _ _ _)
      | (with_reducible exact ih2 _ _ _ _ _)
      | (with_reducible exact amalgamlaw02_head.mono _)
      | (with_reducible exact amalgamlaw02_same.mono _ _ _)
      | (with_reducible exact words_List.mono _ _)
      | (with_reducible exact LeO.refl _)
      | (with_reducible exact LeO.none _)
      | (with_reducible refine LeO.ite ?_ ?_)
      | (with_reducible refine LeO.bind ?_ (fun _ => ?_))
      | exact ih0 _ _ _ _ _ _
      | exact ih1 _ _ _ _ _
      | exact ih2 _ _ _ _ _
      | exact amalgamlaw02_head.mono _
      | exact amalgamlaw02_same.mono _ _ _
      | exact words_List.mono _ _
      | exact LeO.none _
      | refine LeO.ite ?_ ?_
      | refine LeO.bind ?_ (fun _ => ?_)
set_option maxHeartbeats 4000000 in
set_option maxRecDepth 100000 in
theorem amalgamlaw02_WordsApart.calls (k : Nat) (a0 : ByteArray) (a1 : ByteArray) (r : Bool) (w : World) (h : amalgamlaw02_WordsApart.f k a0 a1 = some r) :
    Calls Try.prog 7 #[.string a0, .string a1] w fun e w' => e = .returned (.bool r) ∧ Below w.heap.size w w' := by
  have HB := Aside0.mk (Below.refl w.heap.size w)
  have H : ((amalgamlaw02_head.f k).bind fun t190 => ((words_List.f k a0).bind fun bt191 => ((words_List.f k a1).bind fun bt196 => (if t190 = true then (if bt191.2.1 = 0 then (amalgamlaw02_WordsApart.j0 k a0 a1 t190 bt191.1 bt196.1 (bt196.2.1 != 0)) else (amalgamlaw02_WordsApart.j0 k a0 a1 t190 bt191.1 bt196.1 true)) else (amalgamlaw02_WordsApart.j0 k a0 a1 t190 bt191.1 bt196.1 true))))) = some r := h
  clear h
  replace H := Option.bind_eq_some_iff.mp H
  obtain ⟨t190, A30, H⟩ := H
  replace H : ((words_List.f k a0).bind fun bt191 => ((words_List.f k a1).bind fun bt196 => (if t190 = true then (if bt191.2.1 = 0 then (amalgamlaw02_WordsApart.j0 k a0 a1 t190 bt191.1 bt196.1 (bt196.2.1 != 0)) else (amalgamlaw02_WordsApart.j0 k a0 a1 t190 bt191.1 bt196.1 true)) else (amalgamlaw02_WordsApart.j0 k a0 a1 t190 bt191.1 bt196.1 true)))) = some r := H
  have A3 := Aside0.mk A30
  clear A30
  replace H := Option.bind_eq_some_iff.mp H
  obtain ⟨⟨t191, t192, t193⟩, A40, H⟩ := H
  replace H : ((words_List.f k a1).bind fun bt196 => (if t190 = true then (if t192 = 0 then (amalgamlaw02_WordsApart.j0 k a0 a1 t190 t191 bt196.1 (bt196.2.1 != 0)) else (amalgamlaw02_WordsApart.j0 k a0 a1 t190 t191 bt196.1 true)) else (amalgamlaw02_WordsApart.j0 k a0 a1 t190 t191 bt196.1 true))) = some r := H
  have A4 := Aside0.mk A40
  clear A40
  replace H := Option.bind_eq_some_iff.mp H
  obtain ⟨⟨t196, t197, t198⟩, A50, H⟩ := H
  replace H : (if t190 = true then (if t192 = 0 then (amalgamlaw02_WordsApart.j0 k a0 a1 t190 t191 t196 (t197 != 0)) else (amalgamlaw02_WordsApart.j0 k a0 a1 t190 t191 t196 true)) else (amalgamlaw02_WordsApart.j0 k a0 a1 t190 t191 t196 true)) = some r := H
  have A5 := Aside0.mk A50
  clear A50
  have HC6 := Aside0.mk H
  clear H
  go_enter Try.func7, Try.ntmps7
  go_upto_region 4 with (first | ((with_reducible refine gate_callee (f := 8) rfl ?_); refine goesL_ (some 16) rfl rfl Try.func8 (by kernel_rfl) rfl #[] rfl (by (try simp only [List.map_toArray, List.map_cons, List.map_nil]); first | done | rfl | (simp only [List.length_drop, List.length_take]; rfl)) ?_; (with_reducible refine (amalgamlaw02_head.calls k  t190 _ A3.out).mono ?_); rintro e w7 ⟨rfl, hb⟩; refine ⟨_, rfl, ?_⟩; have n0_ := Aside0.mk (below_step (by repeat (first | (with_reducible first | exact HB.out | apply below_alloc | apply pw_below_drewN | apply below_drew1) | exact HB.out)) hb); clear HB; have HB := n0_; clear n0_; (try clear hb); (try clear hb2); (try clear hk); (try clear hi)) | ((with_reducible refine gate_callee (f := 11) rfl ?_); refine goesL_ (some 19) rfl rfl Try.func11 (by kernel_rfl) rfl #[.string a0] rfl (by (try simp only [List.map_toArray, List.map_cons, List.map_nil]); first | done | rfl | (simp only [List.length_drop, List.length_take]; rfl)) ?_; (with_reducible refine (words_List.calls k a0 t191 t192 t193 _ A4.out).mono ?_); rintro e w8 ⟨v194, rfl, ho0, hb⟩; refine ⟨_, rfl, ?_⟩; have n0_ := Aside0.mk (Kd.R_lower ho0 (below_size (by repeat (first | (with_reducible first | exact HB.out | apply below_alloc | apply pw_below_drewN | apply below_drew1) | exact HB.out)))); have n1_ := Aside0.mk (below_step (by repeat (first | (with_reducible first | exact HB.out | apply below_alloc | apply pw_below_drewN | apply below_drew1) | exact HB.out)) hb); clear HB; have HO195 := n0_; have HB := n1_; clear n0_ n1_; (try clear hb); (try clear hb2); (try clear hk); (try clear hi); (try clear ho0)) | ((with_reducible refine gate_callee (f := 11) rfl ?_); refine goesL_ (some 25) rfl rfl Try.func11 (by kernel_rfl) rfl #[.string a1] rfl (by (try simp only [List.map_toArray, List.map_cons, List.map_nil]); first | done | rfl | (simp only [List.length_drop, List.length_take]; rfl)) ?_; (with_reducible refine (words_List.calls k a1 t196 t197 t198 _ A5.out).mono ?_); rintro e w9 ⟨v199, rfl, ho0, hb⟩; refine ⟨_, rfl, ?_⟩; have n0_ := Aside0.mk (Kd.R_elder' (by (with_reducible repeat (first | apply Kd.R_alloc | apply Kd.R_drewN | apply Kd.R_drew)); exact HO195.out) (Kd.R_base ho0) hb); have n1_ := Aside0.mk (Kd.R_lower (Kd.R_new' ho0 (Kd.R_lt (by (with_reducible repeat (first | apply Kd.R_alloc | apply Kd.R_drewN | apply Kd.R_drew)); exact HO195.out))) (below_size (by repeat (first | (with_reducible first | exact HB.out | apply below_alloc | apply pw_below_drewN | apply below_drew1) | exact HB.out)))); have n2_ := Aside0.mk (below_step (by repeat (first | (with_reducible first | exact HB.out | apply below_alloc | apply pw_below_drewN | apply below_drew1) | exact HB.out)) hb); clear HO195; clear HB; have HO195 := n0_; have HO200 := n1_; have HB := n2_; clear n0_ n1_ n2_; (try clear hb); (try clear hb2); (try clear hk); (try clear hi); (try clear ho0)))
  (try simp only [Act.put, List.setIfInBounds_toArray, List.set_cons_zero, List.set_cons_succ])
  go_cut [38] (fun v38 wc => ∃ (kq : Nat) (x38_5 : Bool), v38 = .bool x38_5 ∧ Aside0 (amalgamlaw02_WordsApart.j0 kq a0 a1 t190 t191 t196 x38_5 = some r) ∧ Aside0 (kq ≤ k) ∧ Aside0 (Kd.R k26 26 wc w.heap.size (fun k_ => some k_ ≠ (v199 : Value).ownBlock) v194 t191) ∧ Aside0 (Kd.R k26 26 wc w.heap.size (fun k_ => some k_ ≠ (v194 : Value).ownBlock) v199 t196) ∧ Aside0 (Below w.heap.size w wc))
  case first =>
    have H := HC6.out
    clear HC6
    by_cases c10 : t190 = true
    · subst c10
      have H1 : (if t192 = 0 then (amalgamlaw02_WordsApart.j0 k a0 a1 true t191 t196 (t197 != 0)) else (amalgamlaw02_WordsApart.j0 k a0 a1 true t191 t196 true)) = some r := by rw [if_pos rfl] at H; exact H
      clear H
      have H := H1
      clear H1
      by_cases c11 : t192 = 0
      · rw [if_pos c11] at H
        have c11b0 : (t192 == 0) = true := beq_iff_eq.mpr c11
        have c11b1 : (t192 != 0) = false := bne_eq_false_iff_eq.mpr c11
        clear c11
        (first | rw [c11b0] | (simp only [i64_w, i32_w]; rw [c11b0]) | skip)
        have H' := Aside0.mk H
        clear H
        go_wp2
        go_meet
        case rel => exact ⟨_, ((t197 != 0)), (by first | rfl | (simp; done) | (simp [*]; done)), H', ⟨by first | omega | exact Nat.le_refl _⟩, ⟨by (with_reducible repeat (first | apply Kd.R_alloc | apply Kd.R_drewN | apply Kd.R_drew)); exact Kd.R_mono HO195.out (fun _ hk => hk.2)⟩, ⟨by (with_reducible repeat (first | apply Kd.R_alloc | apply Kd.R_drewN | apply Kd.R_drew)); exact Kd.R_mono HO200.out (fun _ hk => hk.2)⟩, ⟨by repeat (first | (with_reducible first | exact HB.out | apply below_alloc | apply pw_below_drewN | apply below_drew1) | exact HB.out)⟩⟩
      · rw [if_neg c11] at H
        have c11b0 : (t192 == 0) = false := beq_eq_false_iff_ne.mpr c11
        have c11b1 : (t192 != 0) = true := bne_iff_ne.mpr c11
        (first | rw [c11b0] | (simp only [i64_w, i32_w]; rw [c11b0]) | skip)
        have H' := Aside0.mk H
        clear H
        go_wp2
        go_meet
        case rel => exact ⟨_, (true), (by first | rfl | (simp; done) | (simp [*]; done)), H', ⟨by first | omega | exact Nat.le_refl _⟩, ⟨by (with_reducible repeat (first | apply Kd.R_alloc | apply Kd.R_drewN | apply Kd.R_drew)); exact Kd.R_mono HO195.out (fun _ hk => hk.2)⟩, ⟨by (with_reducible repeat (first | apply Kd.R_alloc | apply Kd.R_drewN | apply Kd.R_drew)); exact Kd.R_mono HO200.out (fun _ hk => hk.2)⟩, ⟨by repeat (first | (with_reducible first | exact HB.out | apply below_alloc | apply pw_below_drewN | apply below_drew1) | exact HB.out)⟩⟩
    · replace c10 := Bool.eq_false_iff.mpr c10
      subst c10
      have H1 : (amalgamlaw02_WordsApart.j0 k a0 a1 false t191 t196 true) = some r := by rw [if_neg (show ¬ (false = true) by decide)] at H; exact H
      clear H
      have H := H1
      clear H1
      have H' := Aside0.mk H
      clear H
      go_wp2
      go_meet
      case rel => exact ⟨_, (true), (by first | rfl | (simp; done) | (simp [*]; done)), H', ⟨by first | omega | exact Nat.le_refl _⟩, ⟨by (with_reducible repeat (first | apply Kd.R_alloc | apply Kd.R_drewN | apply Kd.R_drew)); exact Kd.R_mono HO195.out (fun _ hk => hk.2)⟩, ⟨by (with_reducible repeat (first | apply Kd.R_alloc | apply Kd.R_drewN | apply Kd.R_drew)); exact Kd.R_mono HO200.out (fun _ hk => hk.2)⟩, ⟨by repeat (first | (with_reducible first | exact HB.out | apply below_alloc | apply pw_below_drewN | apply below_drew1) | exact HB.out)⟩⟩
  case rest =>
    clear HC6
    try clear c1
    try clear p2
    try clear c7
    try clear c8
    try clear c10
    try clear c11
    try clear c11b0
    try clear c11b1
    obtain ⟨kq, x38_5, rfl, HA, HJ5, HO_6, HO_9, HB⟩ := hcut
    cases kq with
    | zero => exact absurd HA.out (by simp [amalgamlaw02_WordsApart.j0])
    | succ kj5 =>
      have H := HA.out
      clear HA
      simp only [amalgamlaw02_WordsApart.j0] at H
      by_cases c12 : x38_5 = true
      · subst c12
        have H1 : (some t190) = some r := by rw [if_pos rfl] at H; exact H
        clear H
        have H := H1
        clear H1
        obtain rfl := Option.some.inj H
        go_wp2
        go_ret
        exact ⟨by first | rfl | (simp [errW_none, errW_some] <;> rfl) | (simp [*, errW_none, errW_some] <;> rfl), by repeat (first | (with_reducible first | exact HB.out | apply below_alloc | apply pw_below_drewN | apply below_drew1) | exact HB.out)⟩
      · replace c12 := Bool.eq_false_iff.mpr c12
        subst c12
        have H1 : (if a0.size + 1 ≤ 9223372036854775807 then (if (a0 ++ (⟨#[32]⟩ : ByteArray)).size + a1.size ≤ 9223372036854775807 then ((words_List.f kj5 ((a0 ++ (⟨#[32]⟩ : ByteArray)) ++ a1)).bind fun bt201 => (if bt201.2.1 = 0 then (amalgamlaw02_WordsApart.j1 kj5 a0 t191 t196 bt201.1 ((bt201.1.length : Int) != (wrap64 ((t191.length : Int) + (t196.length : Int))))) else (amalgamlaw02_WordsApart.j1 kj5 a0 t191 t196 bt201.1 true))) else (none)) else (none)) = some r := by rw [if_neg (show ¬ (false = true) by decide)] at H; exact H
        clear H
        have H := H1
        clear H1
        by_cases c13 : a0.size + 1 ≤ 9223372036854775807
        · rw [if_pos c13] at H
          have c13b0 := eq_true c13
          have c13b1 : decide (a0.size + 1 ≤ 9223372036854775807) = true := decide_eq_true c13
          try have c13b2 : (9223372036854775807 < a0.size + 1) = False := eq_false (Nat.not_lt.2 c13)
          by_cases c14 : (a0 ++ (⟨#[32]⟩ : ByteArray)).size + a1.size ≤ 9223372036854775807
          · rw [if_pos c14] at H
            have c14b0 := eq_true c14
            have c14b1 : decide ((a0 ++ (⟨#[32]⟩ : ByteArray)).size + a1.size ≤ 9223372036854775807) = true := decide_eq_true c14
            try have c14b2 : (9223372036854775807 < (a0 ++ (⟨#[32]⟩ : ByteArray)).size + a1.size) = False := eq_false (Nat.not_lt.2 c14)
            replace H := Option.bind_eq_some_iff.mp H
            obtain ⟨⟨t201, t202, t203⟩, A150, H⟩ := H
            replace H : (if t202 = 0 then (amalgamlaw02_WordsApart.j1 kj5 a0 t191 t196 t201 ((t201.length : Int) != (wrap64 ((t191.length : Int) + (t196.length : Int))))) else (amalgamlaw02_WordsApart.j1 kj5 a0 t191 t196 t201 true)) = some r := H
            have A15 := Aside0.mk A150
            clear A150
            have HC16 := Aside0.mk H
            clear H
            go_upto_region 7 with (first | ((with_reducible refine gate_callee (f := 11) rfl ?_); refine goesL_ (some 45) rfl rfl Try.func11 (by kernel_rfl) rfl #[.string ((a0 ++ (⟨#[32]⟩ : ByteArray)) ++ a1)] rfl (by (try simp only [List.map_toArray, List.map_cons, List.map_nil]); first | done | rfl | (simp only [List.length_drop, List.length_take]; rfl)) ?_; (with_reducible refine (words_List.calls kj5 ((a0 ++ (⟨#[32]⟩ : ByteArray)) ++ a1) t201 t202 t203 _ A15.out).mono ?_); rintro e w17 ⟨v204, rfl, ho0, hb⟩; refine ⟨_, rfl, ?_⟩; have n0_ := Aside0.mk (Kd.R_elder' (by (with_reducible repeat (first | apply Kd.R_alloc | apply Kd.R_drewN | apply Kd.R_drew)); exact HO_6.out) (Kd.R_base ho0) hb); have n1_ := Aside0.mk (Kd.R_elder' (by (with_reducible repeat (first | apply Kd.R_alloc | apply Kd.R_drewN | apply Kd.R_drew)); exact HO_9.out) (Kd.R_base ho0) hb); have n2_ := Aside0.mk (Kd.R_lower (Kd.R_new' (Kd.R_new' ho0 (Kd.R_lt (by (with_reducible repeat (first | apply Kd.R_alloc | apply Kd.R_drewN | apply Kd.R_drew)); exact HO_6.out))) (Kd.R_lt (by (with_reducible repeat (first | apply Kd.R_alloc | apply Kd.R_drewN | apply Kd.R_drew)); exact HO_9.out))) (below_size (by repeat (first | (with_reducible first | exact HB.out | apply below_alloc | apply pw_below_drewN | apply below_drew1) | exact HB.out)))); have n3_ := Aside0.mk (below_step (by repeat (first | (with_reducible first | exact HB.out | apply below_alloc | apply pw_below_drewN | apply below_drew1) | exact HB.out)) hb); clear HO_6; clear HO_9; clear HB; have HO_6 := n0_; have HO_9 := n1_; have HO205 := n2_; have HB := n3_; clear n0_ n1_ n2_ n3_; (try clear hb); (try clear hb2); (try clear hk); (try clear hi); (try clear ho0)))
            (try simp only [Act.put, List.setIfInBounds_toArray, List.set_cons_zero, List.set_cons_succ])
            go_cut [60] (fun v60 wc => ∃ (kq : Nat) (x60_15 : Bool), v60 = .bool x60_15 ∧ Aside0 (amalgamlaw02_WordsApart.j1 kq a0 t191 t196 t201 x60_15 = some r) ∧ Aside0 (kq ≤ kj5) ∧ Aside0 (Kd.R k26 26 wc w.heap.size (fun k_ => some k_ ≠ (v199 : Value).ownBlock ∧ some k_ ≠ (v204 : Value).ownBlock) v194 t191) ∧ Aside0 (Kd.R k26 26 wc w.heap.size (fun k_ => some k_ ≠ (v194 : Value).ownBlock ∧ some k_ ≠ (v204 : Value).ownBlock) v199 t196) ∧ Aside0 (Kd.R k26 26 wc w.heap.size (fun k_ => some k_ ≠ (v194 : Value).ownBlock ∧ some k_ ≠ (v199 : Value).ownBlock) v204 t201) ∧ Aside0 (Below w.heap.size w wc))
            case first =>
              have H := HC16.out
              clear HC16
              by_cases c18 : t202 = 0
              · rw [if_pos c18] at H
                have c18b0 : (t202 == 0) = true := beq_iff_eq.mpr c18
                have c18b1 : (t202 != 0) = false := bne_eq_false_iff_eq.mpr c18
                clear c18
                (first | rw [c18b0] | (simp only [i64_w, i32_w]; rw [c18b0]) | skip)
                have H' := Aside0.mk H
                clear H
                obtain ⟨Ao19, co19, eo19⟩ := Kd.R_slice HO205.out
                subst eo19
                obtain ⟨Ao20, co20, eo20⟩ := Kd.R_slice HO_6.out
                subst eo20
                obtain ⟨Ao21, co21, eo21⟩ := Kd.R_slice HO_9.out
                subst eo21
                go_wp2
                go_meet
                case rel => exact ⟨_, (((t201.length : Int) != (wrap64 ((t191.length : Int) + (t196.length : Int))))), (by first | rfl | (simp; done) | (simp [*]; done)), H', ⟨by have := HJ5.out; first | omega | exact Nat.le_refl _⟩, ⟨by (with_reducible repeat (first | apply Kd.R_alloc | apply Kd.R_drewN | apply Kd.R_drew)); exact HO_6.out⟩, ⟨by (with_reducible repeat (first | apply Kd.R_alloc | apply Kd.R_drewN | apply Kd.R_drew)); exact HO_9.out⟩, ⟨by (with_reducible repeat (first | apply Kd.R_alloc | apply Kd.R_drewN | apply Kd.R_drew)); exact Kd.R_mono HO205.out (fun _ hk => ⟨hk.1.2, hk.2⟩)⟩, ⟨by repeat (first | (with_reducible first | exact HB.out | apply below_alloc | apply pw_below_drewN | apply below_drew1) | exact HB.out)⟩⟩
              · rw [if_neg c18] at H
                have c18b0 : (t202 == 0) = false := beq_eq_false_iff_ne.mpr c18
                have c18b1 : (t202 != 0) = true := bne_iff_ne.mpr c18
                (first | rw [c18b0] | (simp only [i64_w, i32_w]; rw [c18b0]) | skip)
                have H' := Aside0.mk H
                clear H
                go_wp2
                go_meet
                case rel => exact ⟨_, (true), (by first | rfl | (simp; done) | (simp [*]; done)), H', ⟨by have := HJ5.out; first | omega | exact Nat.le_refl _⟩, ⟨by (with_reducible repeat (first | apply Kd.R_alloc | apply Kd.R_drewN | apply Kd.R_drew)); exact HO_6.out⟩, ⟨by (with_reducible repeat (first | apply Kd.R_alloc | apply Kd.R_drewN | apply Kd.R_drew)); exact HO_9.out⟩, ⟨by (with_reducible repeat (first | apply Kd.R_alloc | apply Kd.R_drewN | apply Kd.R_drew)); exact Kd.R_mono HO205.out (fun _ hk => ⟨hk.1.2, hk.2⟩)⟩, ⟨by repeat (first | (with_reducible first | exact HB.out | apply below_alloc | apply pw_below_drewN | apply below_drew1) | exact HB.out)⟩⟩
            case rest =>
              clear HC16
              try clear c1
              try clear p2
              try clear p6
              try clear c7
              try clear c8
              try clear c10
              try clear c11
              try clear c11b0
              try clear c11b1
              try clear c12
              try clear c13
              try clear c13b0
              try clear c13b1
              try clear c13b2
              try clear c14
              try clear c14b0
              try clear c14b1
              try clear c14b2
              try clear c18
              try clear c18b0
              try clear c18b1
              try clear p2
              obtain ⟨kq, x60_15, rfl, HA, HJ15, HO_6, HO_9, HO_12, HB⟩ := hcut
              cases kq with
              | zero => exact absurd HA.out (by simp [amalgamlaw02_WordsApart.j1])
              | succ kj15 =>
                have H := HA.out
                clear HA
                simp only [amalgamlaw02_WordsApart.j1] at H
                by_cases c22 : x60_15 = true
                · subst c22
                  have H1 : (some false) = some r := by rw [if_pos rfl] at H; exact H
                  clear H
                  have H := H1
                  clear H1
                  obtain rfl := Option.some.inj H
                  go_wp2
                  go_ret
                  exact ⟨by first | rfl | (simp [errW_none, errW_some] <;> rfl) | (simp [*, errW_none, errW_some] <;> rfl), by repeat (first | (with_reducible first | exact HB.out | apply below_alloc | apply pw_below_drewN | apply below_drew1) | exact HB.out)⟩
                · replace c22 := Bool.eq_false_iff.mpr c22
                  subst c22
                  have H1 : (amalgamlaw02_WordsApart.l0 kj15 a0 t191 t196 t201 0) = some r := by rw [if_neg (show ¬ (false = true) by decide)] at H; exact H
                  clear H
                  have H := H1
                  clear H1
                  have H' := Aside0.mk H
                  clear H
                  go_wp2
                  go_loopg [15] kj15 (fun kq v15 w' => ∃ (x9_3 : List (S26)) (x15_3 : Int), v15 = .int .i64 x15_3 ∧ Aside0 (amalgamlaw02_WordsApart.l0 kq a0 t191 x9_3 t201 x15_3 = some r) ∧ Aside0 (kq ≤ kj15) ∧ Aside0 (Kd.R k26 26 w' w.heap.size (fun k_ => some k_ ≠ (v199 : Value).ownBlock ∧ some k_ ≠ (v204 : Value).ownBlock) v194 t191) ∧ Aside0 (Kd.R k26 26 w' w.heap.size (fun k_ => some k_ ≠ (v194 : Value).ownBlock ∧ some k_ ≠ (v204 : Value).ownBlock) v199 x9_3) ∧ Aside0 (Kd.R k26 26 w' w.heap.size (fun k_ => some k_ ≠ (v194 : Value).ownBlock ∧ some k_ ≠ (v199 : Value).ownBlock) v204 t201) ∧ Aside0 (Below w.heap.size w w'))
                  case atStart => exact ⟨(t196), (0), (by first | rfl | (simp; done) | (simp [*]; done)), H', ⟨Nat.le_refl _⟩, ⟨by (with_reducible repeat (first | apply Kd.R_alloc | apply Kd.R_drewN | apply Kd.R_drew)); exact HO_6.out⟩, ⟨by (with_reducible repeat (first | apply Kd.R_alloc | apply Kd.R_drewN | apply Kd.R_drew)); exact HO_9.out⟩, ⟨by (with_reducible repeat (first | apply Kd.R_alloc | apply Kd.R_drewN | apply Kd.R_drew)); exact HO_12.out⟩, ⟨by repeat (first | (with_reducible first | exact HB.out | apply below_alloc | apply pw_below_drewN | apply below_drew1) | exact HB.out)⟩⟩
                  case round =>
                    clear H'
                    try clear c1
                    try clear c2
                    try clear p2
                    try clear p6
                    try clear c7
                    try clear c8
                    try clear c10
                    try clear c11
                    try clear c11b0
                    try clear c11b1
                    try clear c12
                    try clear c13
                    try clear c13b0
                    try clear c13b1
                    try clear c13b2
                    try clear c14
                    try clear c14b0
                    try clear c14b1
                    try clear c14b2
                    try clear c18
                    try clear c18b0
                    try clear c18b1
                    try clear c22
                    try clear p2
                    try clear p6
                    obtain ⟨x9_3, x15_3, rfl, HA, HK3, HO_6, HO_9, HO_12, HB⟩ := hrel
                    cases gk with
                    | zero => exact absurd HA.out (by simp [amalgamlaw02_WordsApart.l0])
                    | succ k3 =>
                      have H := HA.out
                      clear HA
                      simp only [amalgamlaw02_WordsApart.l0] at H
                      by_cases c23 : x15_3 < (x9_3.length : Int)
                      · rw [if_pos c23] at H
                        have c23b0 : decide (x15_3 < (x9_3.length : Int)) = true := decide_eq_true c23
                        clear c23
                        by_cases c24 : 0 ≤ x15_3
                        · rw [if_pos c24] at H
                          have c24b0 : decide (0 ≤ x15_3) = true := decide_eq_true c24
                          clear c24
                          obtain ⟨y207, hy207⟩ : ∃ y_ : List (S26), y_ = (x9_3.set (x15_3 : Int).toNat (⟨(rd_T26 x9_3 x15_3).f0, (rd_T26 x9_3 x15_3).f1, wrap64 ((wrap64 (((rd_T26 x9_3 x15_3).f2) + (a0.size : Int))) + 1)⟩ : S26)) := ⟨_, rfl⟩
                          replace H : (amalgamlaw02_WordsApart.l0 k3 a0 t191 y207 t201 (wrap64 (x15_3 + 1))) = some r := by first | (rw [hy207]; with_reducible exact H) | (have H2_ := (Option.bind_some _ _).symm.trans H; rw [hy207]; with_reducible exact H2_) | (have H2_ := (Option.bind_some _ _).symm.trans H; with_reducible exact H2_) | with_reducible exact H | (rw [hy207]; exact H) | exact H
                          have Ny207 := Aside0.mk hy207
                          clear hy207
                          have H' := Aside0.mk H
                          clear H
                          obtain ⟨Ao26, co26, eo26⟩ := Kd.R_slice HO_9.out
                          subst eo26
                          have p206 : 0 ≤ (x15_3 : Int) := of_decide_eq_true (by first | (with_reducible assumption) | assumption)
                          have q206 : x15_3 < (x9_3.length : Int) := of_decide_eq_true (by first | (with_reducible assumption) | assumption)
                          obtain ⟨ad206, e206, hx206_0, hx206_1, hx206_2⟩ := at_T26 (Kd.R_reads' HO_9.out).2.2 x15_3 p206 q206
                          cases e206
                          replace p206 := eq_true p206
                          replace q206 := eq_true q206
                          have p25 : 0 ≤ (x15_3 : Int) := of_decide_eq_true (by first | (with_reducible assumption) | assumption)
                          have q25 : (x15_3 : Int) < ((x9_3.length : Int) : Int) := of_decide_eq_true (by first | (with_reducible assumption) | assumption)
                          obtain ⟨go25, co25, eo25, gb25, gl25, cl25, HG25⟩ := Kd.R_form HO_9.out (by omega)
                          (first | cases eo25 | (injection eo25 with ea_ en_ ec_; (first | subst ea_ | (injection ea_ with ea_; subst ea_)); subst ec_; clear en_))
                          have GB25 := Aside0.mk gb25
                          have GG25 := Aside0.mk HG25
                          clear gb25 gl25 HG25
                          (first | simp only [add_plain] at hx206_0 | skip)
                          (first | simp only [add_plain] at hx206_1 | skip)
                          (first | simp only [add_plain] at hx206_2 | skip)
                          obtain ⟨ce25, hcl25, hM25, hcc25, hfr25⟩ := Kd.R_elem HO_9.out z26 (x15_3 : Int) p25 q25
                          obtain rfl := k26_openM hM25
                          have hx25_0 : wr.cell? ⟨go25, (x15_3 : Int).toNat * 3, none⟩ = some (.int .i64 ((rd_T26 x9_3 x15_3).f0)) := hcc25 0 _ rfl
                          have hx25_1 : wr.cell? ⟨go25, (x15_3 : Int).toNat * 3 + 1, none⟩ = some (.string ((rd_T26 x9_3 x15_3).f1)) := hcc25 1 _ rfl
                          have hx25_2 : wr.cell? ⟨go25, (x15_3 : Int).toNat * 3 + 2, none⟩ = some (.int .i64 ((rd_T26 x9_3 x15_3).f2)) := hcc25 2 _ rfl
                          have hf25_0 : wr.frozen? ⟨go25, (x15_3 : Int).toNat * 3, none⟩ = false := hfr25 0
                          have hf25_1 : wr.frozen? ⟨go25, (x15_3 : Int).toNat * 3 + 1, none⟩ = false := hfr25 1
                          have hf25_2 : wr.frozen? ⟨go25, (x15_3 : Int).toNat * 3 + 2, none⟩ = false := hfr25 2
                          clear hcl25 hcc25 hfr25 hM25
                          replace p25 := eq_true p25
                          replace q25 := eq_true q25
                          have HX27 := Aside0.mk (show Kd.R k26 26 wr w.heap.size (fun k_ => some k_ ≠ (v194 : Value).ownBlock ∧ some k_ ≠ (v204 : Value).ownBlock) (.slice (some ⟨go25, 0, none⟩) x9_3.length co26) x9_3 from (by (with_reducible repeat (first | apply Kd.R_alloc | apply Kd.R_drewN | apply Kd.R_drew)); exact HO_9.out))
                          obtain ⟨ce27, hcl27, hM27, hcc27, hfr27⟩ := Kd.R_elem HX27.out z26 (x15_3 : Int) (of_decide_eq_true (by first | (with_reducible assumption) | assumption)) (by have h_ : (x15_3 : Int) < ((x9_3.length : Int) : Int) := of_decide_eq_true (by first | (with_reducible assumption) | assumption); first | exact h_ | (have e_ := (Kd.R_reads' HO_9.out).1; omega) | simpa using h_)
                          obtain rfl := k26_openM hM27
                          have HP27 := Kd.R_seg HX27.out (x15_3 : Int) (of_decide_eq_true (by first | (with_reducible assumption) | assumption)) (by have h_ : (x15_3 : Int) < ((x9_3.length : Int) : Int) := of_decide_eq_true (by first | (with_reducible assumption) | assumption); first | exact h_ | (have e_ := (Kd.R_reads' HO_9.out).1; omega) | simpa using h_) (seg := [.int .i64 (wrap64 ((wrap64 (((rd_T26 x9_3 x15_3).f2) + (a0.size : Int))) + 1))]) (j := 2) hcl27 hcc27 (show 3 ≤ 3 from by decide) (x' := (⟨(rd_T26 x9_3 x15_3).f0, (rd_T26 x9_3 x15_3).f1, wrap64 ((wrap64 (((rd_T26 x9_3 x15_3).f2) + (a0.size : Int))) + 1)⟩ : S26)) (k26_mkM _ _ _ (⟨(rd_T26 x9_3 x15_3).f0, (rd_T26 x9_3 x15_3).f1, wrap64 ((wrap64 (((rd_T26 x9_3 x15_3).f2) + (a0.size : Int))) + 1)⟩ : S26) ) (fun _ hk => hk)
                          have hx27_2 := hcc27 2 _ rfl
                          (try simp only [show (k26).sz = 3 from rfl, Nat.mul_one, Nat.add_zero] at hx27_2)
                          have hf27_2 := hfr27 2
                          (try simp only [show (k26).sz = 3 from rfl, Nat.mul_one, Nat.add_zero] at hf27_2)
                          clear hcl27 hcc27 hfr27 hM27
                          go_wp2_with (first | ((with_reducible refine gate_store (t := 3) (p := 79) rfl ?_); refine store_event (t := 3) (p := 79) (v := ?vo_w28) (w1 := (wr.setCell ⟨go25, (x15_3 : Int).toNat * 3 + 2, none⟩ (.int .i64 (wrap64 ((wrap64 (((rd_T26 x9_3 x15_3).f2) + (a0.size : Int))) + 1))))) ?hg ?ho ?hn ?hr ?_; (case ho => rfl); (case hg => rfl); (case hn => rfl); (case hr => first | (go_simp; done) | (go_simp; rfl)); intro w28 hw; have hg : wr.grownBy w28 (some go25) := (by rw [hw]; exact HP27.2); have hp_ : Kd.R k26 26 w28 w.heap.size (fun k_ => some k_ ≠ (v194 : Value).ownBlock ∧ some k_ ≠ (v204 : Value).ownBlock) (.slice (some ⟨go25, 0, none⟩) x9_3.length co26) y207 := (by rw [hw, Ny207.out]; exact HP27.1); clear HP27; have n0_ := Aside0.mk (Kd.R_after (v := (.slice (some ⟨go25, 0, none⟩) x9_3.length co26)) (v1 := (.slice (some ⟨go25, 0, none⟩) x9_3.length co26)) (ok := (fun k_ => some k_ ≠ (v204 : Value).ownBlock)) (by (with_reducible repeat (first | apply Kd.R_alloc | apply Kd.R_drewN | apply Kd.R_drew)); exact Kd.R_mono HO_6.out (fun _ hk => ⟨hk.2, hk.1⟩)) hg (.inl rfl)); have n1_ := Aside0.mk (hp_); have n2_ := Aside0.mk (Kd.R_after (v := (.slice (some ⟨go25, 0, none⟩) x9_3.length co26)) (v1 := (.slice (some ⟨go25, 0, none⟩) x9_3.length co26)) (ok := (fun k_ => some k_ ≠ (v194 : Value).ownBlock)) (by (with_reducible repeat (first | apply Kd.R_alloc | apply Kd.R_drewN | apply Kd.R_drew)); exact HO_12.out) hg (.inl rfl)); have n3_ := Aside0.mk ((by rw [hw]; exact below_set (HB.out) GB25.out : Below w.heap.size w w28)); clear HO_6; clear HO_9; clear HO_12; clear HB; have HO_6 := n0_; have HO_9 := n1_; have HO_12 := n2_; have HB := n3_; clear n0_ n1_ n2_ n3_; clear hg hw hp_))
                          go_roundg k3
                          case measure => have := HJ5.out; have := HJ15.out; have := HK3.out; omega
                          case rel => exact ⟨(y207), (wrap64 (x15_3 + 1)), (by first | rfl | (simp; done) | (simp [*]; done)), H', ⟨by have := HJ5.out; have := HJ15.out; have := HK3.out; omega⟩, ⟨by (with_reducible repeat (first | apply Kd.R_alloc | apply Kd.R_drewN | apply Kd.R_drew)); exact Kd.R_mono HO_6.out (fun _ hk => ⟨hk.2, hk.1⟩)⟩, ⟨by (with_reducible repeat (first | apply Kd.R_alloc | apply Kd.R_drewN | apply Kd.R_drew)); exact HO_9.out⟩, ⟨by (with_reducible repeat (first | apply Kd.R_alloc | apply Kd.R_drewN | apply Kd.R_drew)); exact HO_12.out⟩, ⟨by repeat (first | (with_reducible first | exact HB.out | apply below_alloc | apply pw_below_drewN | apply below_drew1) | exact HB.out)⟩⟩
                        · rw [if_neg c24] at H
                          exact absurd H (by simp)
                      · rw [if_neg c23] at H
                        have c23b0 : decide (x15_3 < (x9_3.length : Int)) = false := decide_eq_false c23
                        clear c23
                        by_cases c29 : 0 ≤ (t191.length : Int)
                        · rw [if_pos c29] at H
                          have c29b0 := eq_true c29
                          have c29b1 : decide (0 ≤ (t191.length : Int)) = true := decide_eq_true c29
                          clear c29
                          by_cases c30 : (t191.length : Int) ≤ (t201.length : Int)
                          · rw [if_pos c30] at H
                            have c30b0 := eq_true c30
                            have c30b1 : decide ((t191.length : Int) ≤ (t201.length : Int)) = true := decide_eq_true c30
                            clear c30
                            obtain ⟨y208, hy208⟩ : ∃ y_ : List (S26), y_ = (t201.take ((t191.length : Int) : Int).toNat) := ⟨_, rfl⟩
                            replace H : ((amalgamlaw02_same.f k3 y208 t191).bind fun t212 => (if t212 = true then ((amalgamlaw02_same.f k3 (t201.drop ((t191.length : Int) : Int).toNat) x9_3).bind fun t217 => (some t217)) else (some false))) = some r := by first | (rw [hy208]; with_reducible exact H) | (have H2_ := (Option.bind_some _ _).symm.trans H; rw [hy208]; with_reducible exact H2_) | (have H2_ := (Option.bind_some _ _).symm.trans H; with_reducible exact H2_) | with_reducible exact H | (rw [hy208]; exact H) | exact H
                            have Ny208 := Aside0.mk hy208
                            clear hy208
                            replace H := Option.bind_eq_some_iff.mp H
                            obtain ⟨t212, A310, H⟩ := H
                            replace H : (if t212 = true then ((amalgamlaw02_same.f k3 (t201.drop ((t191.length : Int) : Int).toNat) x9_3).bind fun t217 => (some t217)) else (some false)) = some r := H
                            have A31 := Aside0.mk A310
                            clear A310
                            by_cases c32 : t212 = true
                            · subst c32
                              have H1 : ((amalgamlaw02_same.f k3 (t201.drop ((t191.length : Int) : Int).toNat) x9_3).bind fun t217 => (some t217)) = some r := by rw [if_pos rfl] at H; exact H
                              clear H
                              have H := H1
                              clear H1
                              have c33b0 := eq_true (of_decide_eq_true (by first | (with_reducible assumption) | assumption) : 0 ≤ (t191.length : Int))
                              have c34b0 := eq_true (of_decide_eq_true (by first | (with_reducible assumption) | assumption) : (t191.length : Int) ≤ (t201.length : Int))
                              obtain ⟨y213, hy213⟩ : ∃ y_ : List (S26), y_ = (t201.drop ((t191.length : Int) : Int).toNat) := ⟨_, rfl⟩
                              replace H : ((amalgamlaw02_same.f k3 y213 x9_3).bind fun t217 => (some t217)) = some r := by first | (rw [hy213]; with_reducible exact H) | (have H2_ := (Option.bind_some _ _).symm.trans H; rw [hy213]; with_reducible exact H2_) | (have H2_ := (Option.bind_some _ _).symm.trans H; with_reducible exact H2_) | with_reducible exact H | (rw [hy213]; exact H) | exact H
                              have Ny213 := Aside0.mk hy213
                              clear hy213
                              replace H := Option.bind_eq_some_iff.mp H
                              obtain ⟨t217, A350, H⟩ := H
                              replace H : (some t217) = some r := H
                              have A35 := Aside0.mk A350
                              clear A350
                              obtain rfl := Option.some.inj H
                              obtain ⟨Ao36, co36, eo36⟩ := Kd.R_slice HO_9.out
                              subst eo36
                              obtain ⟨Ao37, co37, eo37⟩ := Kd.R_slice HO_6.out
                              subst eo37
                              obtain ⟨Ao39, co39, eo39⟩ := Kd.R_slice HO_12.out
                              subst eo39
                              have q38 : ((t191.length : Int) : Int) ≤ ((t201.length : Int) : Int) := of_decide_eq_true (by first | (with_reducible assumption) | assumption)
                              obtain ⟨i038, hi038, _, hsz38, _⟩ := info_parts info26
                              have hroom38 : t201.length ≤ co39 := (Kd.R_reads' HO_12.out).2.1
                              have hC38 : Kd.C k26 _ Ao39 t201.length t201 := (Kd.R_reads' HO_12.out).2.2
                              have hcut38 := cut_to (P := Try.prog) 31 26 .i64 Try.underlying31 hi038 Ao39 t201.length co39 (t191.length : Int) (of_decide_eq_true (by first | (with_reducible assumption) | assumption)) q38 hroom38
                              have hr38 := Kd.C_take (m := ((t191.length : Int) : Int).toNat) hC38 (by omega)
                              have hy38 : y208.length = ((t191.length : Int) : Int).toNat := (by rw [Ny208.out, List.length_take]; omega)
                              rw [← Ny208.out] at hr38
                              rw [← hy38] at hcut38
                              have HR211 := Aside0.mk hr38
                              have HC211 := Aside0.mk (show y208.length ≤ co39 from by omega)
                              clear hr38 hC38 hroom38 hi038 hsz38
                              have KY38 := Aside0.mk hy38
                              clear hy38
                              have KL38 := Aside0.mk (show ((t191.length : Int) : Int).toNat ≤ t201.length from by omega)
                              replace q38 := eq_true q38
                              go_wp2_with (first | ((with_reducible refine gate_callee (f := 13) rfl ?_); refine goesL_ (some 85) rfl rfl Try.func13 (by kernel_rfl) rfl #[.slice Ao39 y208.length co39, .slice Ao37 t191.length co37] rfl (by (try simp only [List.map_toArray, List.map_cons, List.map_nil]); first | done | rfl | (simp only [List.length_drop, List.length_take]; rfl)) ?_; (with_reducible refine (amalgamlaw02_same.calls k3 _ _ y208 _ _ t191 true _ ?side1 ?side2 ?side3 ?side4 A31.out).mono ?_); (case side1 => repeat (first | exact (by repeat (first | (with_reducible exact HR211.out) | (with_reducible refine Kd.C_alloc ?_ _) | (with_reducible refine Kd.C_drewN ?_ _) | (with_reducible refine Kd.C_drew ?_) | exact HR211.out)) | (with_reducible refine Kd.C_alloc ?_ _) | (with_reducible refine Kd.C_drewN ?_ _) | (with_reducible refine Kd.C_drew ?_))); (case side2 => exact HC211.out); (case side3 => repeat (first | exact (Kd.R_reads' HO_6.out).2.2 | (with_reducible refine Kd.C_alloc ?_ _) | (with_reducible refine Kd.C_drewN ?_ _) | (with_reducible refine Kd.C_drew ?_))); (case side4 => exact (Kd.R_reads' HO_6.out).2.1); rintro e w' ⟨rfl, ⟨nd, rfl⟩⟩; refine ⟨_, rfl, ?_⟩; have q40 : ((t191.length : Int) : Int) ≤ ((t201.length : Int) : Int) := of_decide_eq_true (by first | (with_reducible assumption) | assumption); obtain ⟨i040, hi040, _, hsz40, _⟩ := info_parts info26; have hroom40 : t201.length ≤ co39 := (Kd.R_reads' HO_12.out).2.1; have hC40 : Kd.C k26 _ Ao39 t201.length t201 := (Kd.R_reads' HO_12.out).2.2; have q040 : (0 : Int) ≤ ((t191.length : Int) : Int) := of_decide_eq_true (by first | (with_reducible assumption) | assumption); have hcut40 := cut_from (P := Try.prog) 31 26 .i64 Try.underlying31 hi040 3 hsz40 Ao39 t201.length co39 (t191.length : Int) q040 q40; have hr40 := Kd.C_drop (m := ((t191.length : Int) : Int).toNat) (c := co39) hC40 (by omega) hroom40; obtain ⟨A40, hA40⟩ : ∃ A1, A1 = (if co39 = ((t191.length : Int) : Int).toNat then Ao39 else (Ao39 : Option Addr).map (·.add (((t191.length : Int) : Int).toNat * 3))) := ⟨_, rfl⟩; obtain ⟨c40, hc40⟩ : ∃ c1, c1 = co39 - ((t191.length : Int) : Int).toNat := ⟨_, rfl⟩; have hy40 : y213.length = t201.length - ((t191.length : Int) : Int).toNat := (by rw [Ny213.out, List.length_drop] <;> omega); rw [show (t201).drop ((t191.length : Int) : Int).toNat = y213 from Ny213.out.symm] at hr40; replace hr40 : Kd.C k26 _ A40 y213.length y213 := (by rw [hA40]; exact hr40); rw [← hy40, ← hA40, ← hc40] at hcut40; have HR216 := Aside0.mk hr40; have HC216 := Aside0.mk (show y213.length ≤ c40 from by rw [hy40, hc40]; exact Nat.sub_le_sub_right hroom40 _); clear hr40 hC40 hroom40 hi040 hsz40 hc40; have KY40 := Aside0.mk hy40; have KA40 := Aside0.mk hA40; clear hy40 hA40; have KL40 := Aside0.mk (show ((t191.length : Int) : Int).toNat ≤ t201.length from by omega); replace q40 := eq_true q40) | (go_at_call 13; (with_reducible refine (amalgamlaw02_same.calls k3 _ _ y213 _ _ x9_3 t217 _ ?side1 ?side2 ?side3 ?side4 A35.out).mono ?_); (case side1 => repeat (first | exact (by repeat (first | (with_reducible exact HR216.out) | (with_reducible refine Kd.C_alloc ?_ _) | (with_reducible refine Kd.C_drewN ?_ _) | (with_reducible refine Kd.C_drew ?_) | exact HR216.out)) | (with_reducible refine Kd.C_alloc ?_ _) | (with_reducible refine Kd.C_drewN ?_ _) | (with_reducible refine Kd.C_drew ?_))); (case side2 => exact HC216.out); (case side3 => repeat (first | exact (Kd.R_reads' HO_9.out).2.2 | (with_reducible refine Kd.C_alloc ?_ _) | (with_reducible refine Kd.C_drewN ?_ _) | (with_reducible refine Kd.C_drew ?_))); (case side4 => exact (Kd.R_reads' HO_9.out).2.1); rintro e w' ⟨rfl, ⟨nd, rfl⟩⟩))
                              go_ret
                              exact ⟨by first | rfl | (simp [errW_none, errW_some] <;> rfl) | (simp [*, errW_none, errW_some] <;> rfl), by repeat (first | (with_reducible first | exact HB.out | apply below_alloc | apply pw_below_drewN | apply below_drew1) | exact HB.out)⟩
                            · replace c32 := Bool.eq_false_iff.mpr c32
                              subst c32
                              have H1 : (some false) = some r := by rw [if_neg (show ¬ (false = true) by decide)] at H; exact H
                              clear H
                              have H := H1
                              clear H1
                              obtain rfl := Option.some.inj H
                              obtain ⟨Ao41, co41, eo41⟩ := Kd.R_slice HO_9.out
                              subst eo41
                              obtain ⟨Ao42, co42, eo42⟩ := Kd.R_slice HO_6.out
                              subst eo42
                              obtain ⟨Ao44, co44, eo44⟩ := Kd.R_slice HO_12.out
                              subst eo44
                              have q43 : ((t191.length : Int) : Int) ≤ ((t201.length : Int) : Int) := of_decide_eq_true (by first | (with_reducible assumption) | assumption)
                              obtain ⟨i043, hi043, _, hsz43, _⟩ := info_parts info26
                              have hroom43 : t201.length ≤ co44 := (Kd.R_reads' HO_12.out).2.1
                              have hC43 : Kd.C k26 _ Ao44 t201.length t201 := (Kd.R_reads' HO_12.out).2.2
                              have hcut43 := cut_to (P := Try.prog) 31 26 .i64 Try.underlying31 hi043 Ao44 t201.length co44 (t191.length : Int) (of_decide_eq_true (by first | (with_reducible assumption) | assumption)) q43 hroom43
                              have hr43 := Kd.C_take (m := ((t191.length : Int) : Int).toNat) hC43 (by omega)
                              have hy43 : y208.length = ((t191.length : Int) : Int).toNat := (by rw [Ny208.out, List.length_take]; omega)
                              rw [← Ny208.out] at hr43
                              rw [← hy43] at hcut43
                              have HR211 := Aside0.mk hr43
                              have HC211 := Aside0.mk (show y208.length ≤ co44 from by omega)
                              clear hr43 hC43 hroom43 hi043 hsz43
                              have KY43 := Aside0.mk hy43
                              clear hy43
                              have KL43 := Aside0.mk (show ((t191.length : Int) : Int).toNat ≤ t201.length from by omega)
                              replace q43 := eq_true q43
                              go_wp2_with (first | ((with_reducible refine gate_callee (f := 13) rfl ?_); refine goesL_ (some 85) rfl rfl Try.func13 (by kernel_rfl) rfl #[.slice Ao44 y208.length co44, .slice Ao42 t191.length co42] rfl (by (try simp only [List.map_toArray, List.map_cons, List.map_nil]); first | done | rfl | (simp only [List.length_drop, List.length_take]; rfl)) ?_; (with_reducible refine (amalgamlaw02_same.calls k3 _ _ y208 _ _ t191 false _ ?side1 ?side2 ?side3 ?side4 A31.out).mono ?_); (case side1 => repeat (first | exact (by repeat (first | (with_reducible exact HR211.out) | (with_reducible refine Kd.C_alloc ?_ _) | (with_reducible refine Kd.C_drewN ?_ _) | (with_reducible refine Kd.C_drew ?_) | exact HR211.out)) | (with_reducible refine Kd.C_alloc ?_ _) | (with_reducible refine Kd.C_drewN ?_ _) | (with_reducible refine Kd.C_drew ?_))); (case side2 => exact HC211.out); (case side3 => repeat (first | exact (Kd.R_reads' HO_6.out).2.2 | (with_reducible refine Kd.C_alloc ?_ _) | (with_reducible refine Kd.C_drewN ?_ _) | (with_reducible refine Kd.C_drew ?_))); (case side4 => exact (Kd.R_reads' HO_6.out).2.1); rintro e w' ⟨rfl, ⟨nd, rfl⟩⟩; refine ⟨_, rfl, ?_⟩))
                              go_ret
                              exact ⟨by first | rfl | (simp [errW_none, errW_some] <;> rfl) | (simp [*, errW_none, errW_some] <;> rfl), by repeat (first | (with_reducible first | exact HB.out | apply below_alloc | apply pw_below_drewN | apply below_drew1) | exact HB.out)⟩
                          · rw [if_neg c30] at H
                            exact absurd H (by simp)
                        · rw [if_neg c29] at H
                          exact absurd H (by simp)
          · rw [if_neg c14] at H
            exact absurd H (by simp)
        · rw [if_neg c13] at H
          exact absurd H (by simp)

/-- THE ONE PURE STATEMENT of amalgamlaw02_WordsApart: yours. -/
def amalgamlaw02_WordsApart.Pure : Prop := ∀ (a0 : ByteArray) (a1 : ByteArray), a0.size ≤ 140737488351232 → a1.size ≤ 140737488351232 → ∃ k, amalgamlaw02_WordsApart.f k a0 a1 = some true
theorem amalgamlaw02_WordsApart.walk (P : amalgamlaw02_WordsApart.Pure) (a0 : ByteArray) (a1 : ByteArray) (w : World) (w0 : a0.size ≤ 140737488351232) (w1 : a1.size ≤ 140737488351232) :
    Calls Try.prog 7 #[.string a0, .string a1] w fun e w' => e = .returned (.bool true) ∧ Below w.heap.size w w' := by
  obtain ⟨k, h⟩ := P a0 a1 w0 w1
  refine (amalgamlaw02_WordsApart.calls k a0 a1 true w h).mono ?_
  rintro e w' ⟨rfl, hd⟩
  exact ⟨rfl, hd⟩

end Go.Proofs.Ytbfcfmobogmfhaa.PWd
