-- Written by a program of this session (wip/tools/myprint.py): functions, contracts, their proofs. Lean checks it.
import Derived.Test.YthbpbbinpkfchaaPSigx0
import Derived.Test.YthbpbbinpkfchaaPSigx2
import Derived.Test.YthbpbbinpkfchaaPSigx4
namespace Go.Proofs.Ythbpbbinpkfchaa.PSig
open Go.RowKit Go.Proofs.YthbpbbinpkfchaaW.PrintWords Go.Proofs.YthbpbbinpkfchaaW.PrintLast Go.Proofs.YthbpbbinpkfchaaW.PrintMore
attribute [local go_sem] max2_int min2_int max_two min_two max_three min_three max_four min_four   -- for this text's walks alone
set_option linter.unusedVariables false
set_option linter.unusedSimpArgs false

/-! ### amalgamlaw01_SigNewest: function 5 -/
mutual
def amalgamlaw01_SigNewest.j0 : Nat → List (S36) → Bool → List (S36) → Int → Int → Bool → Option (Bool)
  | 0, _, _, _, _, _, _ => none
  | k + 1, x0, x5, x8, x9, x10, x40 => if x40 = true then (if x5 = true then (if x9 = 0 then (some (decide ((x8.length : Int) > 16))) else (some true)) else (some false)) else (if x9 = 0 then (amalgamlaw01_SigNewest.l0 k x0 x8 0) else (if x10 = (x0.length : Int) then (some true) else (if x9 = 15 then (some (x10 == 0)) else (some false))))
def amalgamlaw01_SigNewest.l0 : Nat → List (S36) → List (S36) → Int → Option (Bool)
  | 0, _, _, _ => none
  | k + 1, x0, x8, x11 => if x11 < (x0.length : Int) then (if 0 ≤ x11 then ((sig_Find.f k x8 ((rd_T36 x0 x11).f0)).bind fun bt219 => ((sig_Unit.f k x0 x11).bind fun bt221 => ((sig_Unit.f k x8 x11).bind fun bt223 => (if bt219.2 = true then (if bt219.1 = x11 then (if bt221.1 = bt223.1 then (if (bt221.2 != bt223.2) = true then (some false) else (amalgamlaw01_SigNewest.l0 k x0 x8 (wrap64 (x11 + 1)))) else (some false)) else (some false)) else (some false))))) else (none)) else (some true)
end
def amalgamlaw01_SigNewest.f (k : Nat) (l0 : List (S36)) (a1_0 : ByteArray) (a1_1 : Int) (a1_2 : Int) (a1_3 : ByteArray) : Option (Bool) := (amalgamlaw01_head.f k).bind fun t201 => ((sig_Check.f k l0).bind fun bt202 => ((some (([] : List (S36)) : List (S36))).bind fun y204 => (if y204.length + l0.length < 2932031007402 then ((some (y204 ++ l0 : List (S36))).bind fun y207 => ((some (([(⟨a1_0, a1_1, a1_2, a1_3⟩ : S36)] : List (S36)) : List (S36))).bind fun y210 => (if y207.length + y210.length < 2932031007402 then ((some (y207 ++ y210 : List (S36))).bind fun y213 => ((sig_Check.f k y213).bind fun bt216 => (if t201 = true then (amalgamlaw01_SigNewest.j0 k l0 t201 y213 bt216.1 bt216.2 (bt202.1 != 0)) else (amalgamlaw01_SigNewest.j0 k l0 t201 y213 bt216.1 bt216.2 true)))) else (none)))) else (none))))
theorem amalgamlaw01_SigNewest.mono_l : ∀ k, (∀ y0 y1 y2 y3 y4 y5, LeO (amalgamlaw01_SigNewest.j0 k y0 y1 y2 y3 y4 y5) (amalgamlaw01_SigNewest.j0 (k + 1) y0 y1 y2 y3 y4 y5)) ∧ (∀ y0 y1 y2, LeO (amalgamlaw01_SigNewest.l0 k y0 y1 y2) (amalgamlaw01_SigNewest.l0 (k + 1) y0 y1 y2))
  | 0 => ⟨fun _ _ _ _ _ _ r h => by simp [amalgamlaw01_SigNewest.j0] at h, fun _ _ _ r h => by simp [amalgamlaw01_SigNewest.l0] at h⟩
  | k + 1 => by
    obtain ⟨ih0, ih1⟩ := amalgamlaw01_SigNewest.mono_l k
    refine ⟨?_, ?_⟩
    · intro y0 y1 y2 y3 y4 y5
      unfold amalgamlaw01_SigNewest.j0
      repeat' first
      | (with_reducible exact ih0 _ _ _ _ _ _)
      | (with_reducible exact ih1 _ _ _)
      | (with_reducible exact amalgamlaw01_head.mono _)
      | (with_reducible exact sig_Check.mono _ _)
      | (with_reducible exact sig_Find.mono _ _ _)
      | (with_reducible exact sig_Unit.mono _ _ _)
      | (with_reducible exact LeO.refl _)
      | (with_reducible exact LeO.none _)
      | (with_reducible refine LeO.ite ?_ ?_)
      | (with_reducible refine LeO.bind ?_ (fun _ => ?_))
      | exact ih0 _ _ _ _ _ _
      | exact ih1 _ _ _
      | exact amalgamlaw01_head.mono _
      | exact sig_Check.mono _ _
      | exact sig_Find.mono _ _ _
      | exact sig_Unit.mono _ _ _
      | exact LeO.none _
      | refine LeO.ite ?_ ?_
      | refine LeO.bind ?_ (fun _ => ?_)
    · intro y0 y1 y2
      unfold amalgamlaw01_SigNewest.l0
      repeat' first
      | (with_reducible exact ih0 _ _ _ _ _ _)
      | (with_reducible exact ih1 _ _ _)
      | (with_reducible exact amalgamlaw01_head.mono _)
      | (with_reducible exact sig_Check.mono _ _)
      | (with_reducible exact sig_Find.mono _ _ _)
      | (with_reducible exact sig_Unit.mono _ _ _)
      | (with_reducible exact LeO.refl _)
      | (with_reducible exact LeO.none _)
      | (with_reducible refine LeO.ite ?_ ?_)
      | (with_reducible refine LeO.bind ?_ (fun _ => ?_))
      | exact ih0 _ _ _ _ _ _
      | exact ih1 _ _ _
      | exact amalgamlaw01_head.mono _
      | exact sig_Check.mono _ _
      | exact sig_Find.mono _ _ _
      | exact sig_Unit.mono _ _ _
      | exact LeO.none _
      | refine LeO.ite ?_ ?_
      | refine LeO.bind ?_ (fun _ => ?_)
theorem amalgamlaw01_SigNewest.mono : ∀ a0 a1 a2 a3 a4 k, LeO (amalgamlaw01_SigNewest.f k a0 a1 a2 a3 a4) (amalgamlaw01_SigNewest.f (k + 1) a0 a1 a2 a3 a4) := by
  intro a0 a1 a2 a3 a4 k
  obtain ⟨ih0, ih1⟩ := amalgamlaw01_SigNewest.mono_l k
  unfold amalgamlaw01_SigNewest.f
  repeat' first
      | (with_reducible exact ih0 _ _ _ _ _ _)
      | (with_reducible exact ih1 _ _ _)
      | (with_reducible exact amalgamlaw01_head.mono _)
      | (with_reducible exact sig_Check.mono _ _)
      | (with_reducible exact sig_Find.mono _ _ _)
      | (with_reducible exact sig_Unit.mono _ _ _)
      | (with_reducible exact LeO.refl _)
      | (with_reducible exact LeO.none _)
      | (with_reducible refine LeO.ite ?_ ?_)
      | (with_reducible refine LeO.bind ?_ (fun _ => ?_))
      | exact ih0 _ _ _ _ _ _
      | exact ih1 _ _ _
      | exact amalgamlaw01_head.mono _
      | exact sig_Check.mono _ _
      | exact sig_Find.mono _ _ _
      | exact sig_Unit.mono _ _ _
      | exact LeO.none _
      | refine LeO.ite ?_ ?_
      | refine LeO.bind ?_ (fun _ => ?_)
set_option maxHeartbeats 4000000 in
set_option maxRecDepth 100000 in
theorem amalgamlaw01_SigNewest.calls (k : Nat) (A0 : Option Addr) (c0 : Nat) (l0 : List (S36)) (a1_0 : ByteArray) (a1_1 : Int) (a1_2 : Int) (a1_3 : ByteArray) (r : Bool) (w : World) (hr0 : Kd.C k36 w A0 l0.length l0) (hc0 : l0.length ≤ c0) (h : amalgamlaw01_SigNewest.f k l0 a1_0 a1_1 a1_2 a1_3 = some r) :
    Calls Try.prog 5 #[.slice A0 l0.length c0, .agg #[.string a1_0, .int .i64 a1_1, .int .i64 a1_2, .string a1_3]] w fun e w' => e = .returned (.bool r) ∧ Below w.heap.size w w' := by
  have hu36 := Try.underlying36
  have HR0 := Aside0.mk hr0
  have HC0 := Aside0.mk hc0
  clear hr0 hc0
  have HB := Aside0.mk (Below.refl w.heap.size w)
  have H : ((amalgamlaw01_head.f k).bind fun t201 => ((sig_Check.f k l0).bind fun bt202 => ((some (([] : List (S36)) : List (S36))).bind fun y204 => (if y204.length + l0.length < 2932031007402 then ((some (y204 ++ l0 : List (S36))).bind fun y207 => ((some (([(⟨a1_0, a1_1, a1_2, a1_3⟩ : S36)] : List (S36)) : List (S36))).bind fun y210 => (if y207.length + y210.length < 2932031007402 then ((some (y207 ++ y210 : List (S36))).bind fun y213 => ((sig_Check.f k y213).bind fun bt216 => (if t201 = true then (amalgamlaw01_SigNewest.j0 k l0 t201 y213 bt216.1 bt216.2 (bt202.1 != 0)) else (amalgamlaw01_SigNewest.j0 k l0 t201 y213 bt216.1 bt216.2 true)))) else (none)))) else (none))))) = some r := h
  clear h
  replace H := Option.bind_eq_some_iff.mp H
  obtain ⟨t201, A30, H⟩ := H
  replace H : ((sig_Check.f k l0).bind fun bt202 => ((some (([] : List (S36)) : List (S36))).bind fun y204 => (if y204.length + l0.length < 2932031007402 then ((some (y204 ++ l0 : List (S36))).bind fun y207 => ((some (([(⟨a1_0, a1_1, a1_2, a1_3⟩ : S36)] : List (S36)) : List (S36))).bind fun y210 => (if y207.length + y210.length < 2932031007402 then ((some (y207 ++ y210 : List (S36))).bind fun y213 => ((sig_Check.f k y213).bind fun bt216 => (if t201 = true then (amalgamlaw01_SigNewest.j0 k l0 t201 y213 bt216.1 bt216.2 (bt202.1 != 0)) else (amalgamlaw01_SigNewest.j0 k l0 t201 y213 bt216.1 bt216.2 true)))) else (none)))) else (none)))) = some r := H
  have A3 := Aside0.mk A30
  clear A30
  replace H := Option.bind_eq_some_iff.mp H
  obtain ⟨⟨t202, t203⟩, A40, H⟩ := H
  replace H : ((some (([] : List (S36)) : List (S36))).bind fun y204 => (if y204.length + l0.length < 2932031007402 then ((some (y204 ++ l0 : List (S36))).bind fun y207 => ((some (([(⟨a1_0, a1_1, a1_2, a1_3⟩ : S36)] : List (S36)) : List (S36))).bind fun y210 => (if y207.length + y210.length < 2932031007402 then ((some (y207 ++ y210 : List (S36))).bind fun y213 => ((sig_Check.f k y213).bind fun bt216 => (if t201 = true then (amalgamlaw01_SigNewest.j0 k l0 t201 y213 bt216.1 bt216.2 (t202 != 0)) else (amalgamlaw01_SigNewest.j0 k l0 t201 y213 bt216.1 bt216.2 true)))) else (none)))) else (none))) = some r := H
  have A4 := Aside0.mk A40
  clear A40
  obtain ⟨y204, hy204⟩ : ∃ y_ : List (S36), y_ = (([] : List (S36))) := ⟨_, rfl⟩
  replace H : (if y204.length + l0.length < 2932031007402 then ((some (y204 ++ l0 : List (S36))).bind fun y207 => ((some (([(⟨a1_0, a1_1, a1_2, a1_3⟩ : S36)] : List (S36)) : List (S36))).bind fun y210 => (if y207.length + y210.length < 2932031007402 then ((some (y207 ++ y210 : List (S36))).bind fun y213 => ((sig_Check.f k y213).bind fun bt216 => (if t201 = true then (amalgamlaw01_SigNewest.j0 k l0 t201 y213 bt216.1 bt216.2 (t202 != 0)) else (amalgamlaw01_SigNewest.j0 k l0 t201 y213 bt216.1 bt216.2 true)))) else (none)))) else (none)) = some r := by first | (rw [hy204]; with_reducible exact H) | (have H2_ := (Option.bind_some _ _).symm.trans H; rw [hy204]; with_reducible exact H2_) | (have H2_ := (Option.bind_some _ _).symm.trans H; with_reducible exact H2_) | with_reducible exact H | (rw [hy204]; exact H) | exact H
  have Ny204 := Aside0.mk hy204
  clear hy204
  by_cases c5 : y204.length + l0.length < 2932031007402
  · rw [if_pos c5] at H
    have LMc5 := Aside0.mk c5
    clear c5
    obtain ⟨y207, hy207⟩ : ∃ y_ : List (S36), y_ = (y204 ++ l0) := ⟨_, rfl⟩
    replace H : ((some (([(⟨a1_0, a1_1, a1_2, a1_3⟩ : S36)] : List (S36)) : List (S36))).bind fun y210 => (if y207.length + y210.length < 2932031007402 then ((some (y207 ++ y210 : List (S36))).bind fun y213 => ((sig_Check.f k y213).bind fun bt216 => (if t201 = true then (amalgamlaw01_SigNewest.j0 k l0 t201 y213 bt216.1 bt216.2 (t202 != 0)) else (amalgamlaw01_SigNewest.j0 k l0 t201 y213 bt216.1 bt216.2 true)))) else (none))) = some r := by first | (rw [hy207]; with_reducible exact H) | (have H2_ := (Option.bind_some _ _).symm.trans H; rw [hy207]; with_reducible exact H2_) | (have H2_ := (Option.bind_some _ _).symm.trans H; with_reducible exact H2_) | with_reducible exact H | (rw [hy207]; exact H) | exact H
    have Ny207 := Aside0.mk hy207
    clear hy207
    obtain ⟨y210, hy210⟩ : ∃ y_ : List (S36), y_ = (([(⟨a1_0, a1_1, a1_2, a1_3⟩ : S36)] : List (S36))) := ⟨_, rfl⟩
    replace H : (if y207.length + y210.length < 2932031007402 then ((some (y207 ++ y210 : List (S36))).bind fun y213 => ((sig_Check.f k y213).bind fun bt216 => (if t201 = true then (amalgamlaw01_SigNewest.j0 k l0 t201 y213 bt216.1 bt216.2 (t202 != 0)) else (amalgamlaw01_SigNewest.j0 k l0 t201 y213 bt216.1 bt216.2 true)))) else (none)) = some r := by first | (rw [hy210]; with_reducible exact H) | (have H2_ := (Option.bind_some _ _).symm.trans H; rw [hy210]; with_reducible exact H2_) | (have H2_ := (Option.bind_some _ _).symm.trans H; with_reducible exact H2_) | with_reducible exact H | (rw [hy210]; exact H) | exact H
    have Ny210 := Aside0.mk hy210
    clear hy210
    by_cases c6 : y207.length + y210.length < 2932031007402
    · rw [if_pos c6] at H
      have LMc6 := Aside0.mk c6
      clear c6
      obtain ⟨y213, hy213⟩ : ∃ y_ : List (S36), y_ = (y207 ++ y210) := ⟨_, rfl⟩
      replace H : ((sig_Check.f k y213).bind fun bt216 => (if t201 = true then (amalgamlaw01_SigNewest.j0 k l0 t201 y213 bt216.1 bt216.2 (t202 != 0)) else (amalgamlaw01_SigNewest.j0 k l0 t201 y213 bt216.1 bt216.2 true))) = some r := by first | (rw [hy213]; with_reducible exact H) | (have H2_ := (Option.bind_some _ _).symm.trans H; rw [hy213]; with_reducible exact H2_) | (have H2_ := (Option.bind_some _ _).symm.trans H; with_reducible exact H2_) | with_reducible exact H | (rw [hy213]; exact H) | exact H
      have Ny213 := Aside0.mk hy213
      clear hy213
      replace H := Option.bind_eq_some_iff.mp H
      obtain ⟨⟨t216, t217⟩, A70, H⟩ := H
      replace H : (if t201 = true then (amalgamlaw01_SigNewest.j0 k l0 t201 y213 t216 t217 (t202 != 0)) else (amalgamlaw01_SigNewest.j0 k l0 t201 y213 t216 t217 true)) = some r := H
      have A7 := Aside0.mk A70
      clear A70
      have HC8 := Aside0.mk H
      clear H
      go_enter Try.func5, Try.ntmps5
      try go_wp2_with (first | ((with_reducible refine gate_dst (N := 3) rfl ?_); (try (refine gate_guard (by rfl) ?_; dsimp only)); refine box_event ?hg (N := 3) ?hd (cs := #[.string a1_0, .int .i64 a1_1, .int .i64 a1_2, .string a1_3]) (t := 36) ?hr ?_; (case hd => rfl); (case hg => rfl); (case hr => first | (go_simp; done) | (go_simp; rfl)); intro gb200 hg w9 hbox hb; have n0_ := Aside0.mk (below_step (by repeat (first | (with_reducible first | exact HB.out | apply below_alloc | apply pw_below_drewN | apply below_drew1) | exact HB.out)) hb); have n1_ := Aside0.mk (hbox); have n2_ := Aside0.mk ((by rw [hg]; exact (below_size (by repeat (first | (with_reducible first | exact HB.out | apply below_alloc | apply pw_below_drewN | apply below_drew1) | exact HB.out))) : w.heap.size ≤ gb200)); have n3_ := Aside0.mk ((by rw [hg]; exact (below_size (by repeat (first | (with_reducible first | exact HB.out | apply below_alloc | apply pw_below_drewN | apply below_drew1) | exact HB.out))) : w.heap.size ≤ gb200)); clear HB; have HB := n0_; have BK200 := n1_; have GW200 := n2_; have GE200 := n3_; clear n0_ n1_ n2_ n3_; clear hb hbox hg) | ((with_reducible refine gate_callee (f := 9) rfl ?_); refine goesL_ (some 18) rfl rfl Try.func9 (by kernel_rfl) rfl #[] rfl (by (try simp only [List.map_toArray, List.map_cons, List.map_nil]); first | done | rfl | (simp only [List.length_drop, List.length_take]; rfl)) ?_; (with_reducible refine (amalgamlaw01_head.calls k  t201 _ A3.out).mono ?_); rintro e w10 ⟨rfl, hb⟩; refine ⟨_, rfl, ?_⟩; have n0_ := Aside0.mk (blk_below (g := gb200) (o := .cells #[.string a1_0, .int .i64 a1_1, .int .i64 a1_2, .string a1_3] 36 (0, 0)) (by (with_reducible repeat (first | refine blk_drewN ?_ _ | refine blk_drew ?_ | refine blk_alloc ?_ _)); exact BK200.out) hb); have n1_ := Aside0.mk (below_step (by repeat (first | (with_reducible first | exact HB.out | apply below_alloc | apply pw_below_drewN | apply below_drew1 | refine below_set ?_ GE200.out) | exact HB.out)) hb); clear BK200; clear HB; have BK200 := n0_; have HB := n1_; clear n0_ n1_; (try clear hb); (try clear hb2); (try clear hk); (try clear hi)) | ((with_reducible refine gate_callee (f := 15) rfl ?_); refine goesL_ (some 21) rfl rfl Try.func15 (by kernel_rfl) rfl #[.slice A0 l0.length c0] rfl (by (try simp only [List.map_toArray, List.map_cons, List.map_nil]); first | done | rfl | (simp only [List.length_drop, List.length_take]; rfl)) ?_; (with_reducible refine (sig_Check.calls k _ _ l0 t202 t203 _ ?side1 ?side2 A4.out).mono ?_); (case side1 => repeat (first | exact (Kd.C_below HR0.out HB.out) | (with_reducible refine Kd.C_alloc ?_ _) | (with_reducible refine Kd.C_drewN ?_ _) | (with_reducible refine Kd.C_drew ?_))); (case side2 => exact HC0.out); rintro e w11 ⟨rfl, hb⟩; refine ⟨_, rfl, ?_⟩; have n0_ := Aside0.mk (blk_below (g := gb200) (o := .cells #[.string a1_0, .int .i64 a1_1, .int .i64 a1_2, .string a1_3] 36 (0, 0)) (by (with_reducible repeat (first | refine blk_drewN ?_ _ | refine blk_drew ?_ | refine blk_alloc ?_ _)); exact BK200.out) hb); have n1_ := Aside0.mk (below_step (by repeat (first | (with_reducible first | exact HB.out | apply below_alloc | apply pw_below_drewN | apply below_drew1 | refine below_set ?_ GE200.out) | exact HB.out)) hb); clear BK200; clear HB; have BK200 := n0_; have HB := n1_; clear n0_ n1_; (try clear hb); (try clear hb2); (try clear hk); (try clear hi)))
      have n0_ := Aside0.mk (blk_drew BK200.out)
      have n1_ := Aside0.mk (below_drew1 HB.out)
      clear BK200
      clear HB
      have BK200 := n0_
      have HB := n1_
      clear n0_ n1_
      refine start_ (n := 7) (S := fun w' => w'.cell? ⟨gb200, 0, none⟩ = some (.string a1_0) ∧ w'.cell? ⟨gb200, 1, none⟩ = some (.int .i64 a1_1) ∧ w'.cell? ⟨gb200, 2, none⟩ = some (.int .i64 a1_2) ∧ w'.cell? ⟨gb200, 3, none⟩ = some (.string a1_3)) (ds := []) #[false, false, false, false, false, false, false] (by kernel_rfl) rfl rfl ⟨(blk_cell BK200.out 0).trans rfl, (blk_cell BK200.out 1).trans rfl, (blk_cell BK200.out 2).trans rfl, (blk_cell BK200.out 3).trans rfl⟩ (fun hHeld => ?_)
      generalize w11.drew = w12 at BK200 HB hHeld ⊢
      refine pure_ (i := 1) (N := some 25) (v := ?_) (a' := ?_) #[false, true, false, false, false, false, false] rfl rfl (by kernel_rfl) (fun _ _ _ h => h) (Or.inl ⟨by rfl, ?_⟩) ?_ ?_
      rotate_left
      · intro w'
        go_simp
        with_reducible rfl
      rotate_left
      · simp only [Act.put, List.setIfInBounds_toArray, List.set_cons_zero, List.set_cons_succ, i64_w, i32_w]
        rfl
      refine take_ (i := 3) (N := some 27) (v := ?_) (a' := ?_) #[false, true, false, true, false, false, false] rfl rfl (by kernel_rfl) (fun _ _ _ h => h) (Or.inl ⟨by rfl, ?_⟩) hHeld ?_ ?_
      rotate_left
      · rintro w' ⟨s0, s1, s2, s3⟩
        go_simp
        with_reducible rfl
      rotate_left
      · simp only [Act.put, List.setIfInBounds_toArray, List.set_cons_zero, List.set_cons_succ, i64_w, i32_w]
        rfl
      refine join_ (σ := Value × Value × Value) 2 #[true, true, true, true, true, false, false] (fun s_ => [(24, s_.1), (26, s_.2.1), (28, s_.2.2)]) (fun s_ w' => (w'.cell? ⟨gb200, 0, none⟩ = some (.string a1_0) ∧ w'.cell? ⟨gb200, 1, none⟩ = some (.int .i64 a1_1) ∧ w'.cell? ⟨gb200, 2, none⟩ = some (.int .i64 a1_2) ∧ w'.cell? ⟨gb200, 3, none⟩ = some (.string a1_3)) ∧ (Kd.R k36 36 w' w.heap.size (fun k_ => some k_ ≠ (s_.2.2 : Value).ownBlock ∧ k_ ≠ gb200) s_.2.1 y207) ∧ (Kd.R k36 36 w' w.heap.size (fun k_ => some k_ ≠ (s_.2.1 : Value).ownBlock ∧ k_ ≠ gb200) s_.2.2 y210) ∧ (w'.heap[gb200]? = some (.cells #[.string a1_0, .int .i64 a1_1, .int .i64 a1_2, .string a1_3] 36 (0, 0))) ∧ (Below w.heap.size w w')) ?_ ?_
      rotate_left
      · intro hCont
        refine two_ (i := 0) (j := 4) (Ni := some 24) (Nj := some 28) #[true, true, false, true, false, false, false] #[false, true, false, true, true, false, false] rfl rfl rfl rfl (by kernel_rfl) (by decide) (by decide) (fun K hK => ?_) (fun K hK => ?_)
        · skip
          refine Kd.R_lit_step k36 _ 36 ?hg (N := 24) ?hd (xs := ([] : List (S36))) (inner := []) (ok := fun _ => True) (okp := fun _ => True) ?hr ?hp (fun _ hk => hk) trivial (Below.refl _ _) (Nat.le_refl _) (by simp) ?_; (case hd => rfl); (case hg => rfl); (case hr => first | (go_simp; done) | (go_simp; rfl)); (case hp => exact (Reps.none _ _))
          intro v205 w13 ho14 hb hg_ hnew_
          clear hg_ hnew_
          (first | rw [← Ny204.out] at ho14 | (simp only [Int.reduceToNat] at ho14; rw [← Ny204.out] at ho14))
          have n0_ := Aside0.mk (Kd.R_lower (Kd.R_newB ho14 (g := gb200) (o := .cells #[.string a1_0, .int .i64 a1_1, .int .i64 a1_2, .string a1_3] 36 (0, 0)) (by (with_reducible repeat (first | refine blk_drewN ?_ _ | refine blk_drew ?_ | refine blk_alloc ?_ _)); exact BK200.out)) (below_size (by repeat (first | (with_reducible first | exact HB.out | apply below_alloc | apply pw_below_drewN | apply below_drew1 | refine below_set ?_ GE200.out) | exact HB.out))))
          have n1_ := Aside0.mk (blk_below (g := gb200) (o := .cells #[.string a1_0, .int .i64 a1_1, .int .i64 a1_2, .string a1_3] 36 (0, 0)) (by (with_reducible repeat (first | refine blk_drewN ?_ _ | refine blk_drew ?_ | refine blk_alloc ?_ _)); exact BK200.out) hb)
          have n2_ := Aside0.mk (below_step (by repeat (first | (with_reducible first | exact HB.out | apply below_alloc | apply pw_below_drewN | apply below_drew1 | refine below_set ?_ GE200.out) | exact HB.out)) hb)
          clear BK200
          clear HB
          have HO206 := n0_
          have BK200 := n1_
          have HB := n2_
          clear n0_ n1_ n2_
          clear hb ho14
          refine hK.out _ _ ⟨(blk_cell BK200.out 0).trans rfl, (blk_cell BK200.out 1).trans rfl, (blk_cell BK200.out 2).trans rfl, (blk_cell BK200.out 3).trans rfl⟩ (fun hHeld => ?_)
          clear hK K
          refine norm_ (a' := ?_) ?_ ?_
          rotate_left
          · show Act.put _ (some 24) _ = _
            simp only [Act.put, List.setIfInBounds_toArray, List.set_cons_zero, List.set_cons_succ, i64_w, i32_w]
            rfl
          refine two_ (i := 2) (j := 4) (Ni := some 26) (Nj := some 28) #[true, true, true, true, false, false, false] #[true, true, false, true, true, false, false] rfl rfl rfl rfl (by kernel_rfl) (by decide) (by decide) (fun K hK => ?_) (fun K hK => ?_)
          · skip
            refine Kd.R_append_rows_step k36 (w0 := w) w.heap.size (by rfl) (.tmp 24) (.tmp 25) 27 36 (.agg #[(.string ⟨#[]⟩), (.int .i64 0), (.int .i64 0), (.string ⟨#[]⟩)]) 48 rfl Try.underlying27 info36 rfl (by decide) (by omega) v205 y204 l0 _ _ _ (fun k_ => k_ ≠ gb200) (fun _ => False) rfl rfl ?aO ?aR (fun _ _ h => h) (fun _ h => h.elim) ?aF ?aB ?aS ?aL ?_
            (case aR => repeat (first | exact (Kd.C_below HR0.out HB.out) | (with_reducible refine Kd.C_alloc ?_ _) | (with_reducible refine Kd.C_drewN ?_ _) | (with_reducible refine Kd.C_drew ?_)))
            (case aB => exact (by repeat (first | (with_reducible first | exact HB.out | apply below_alloc | apply pw_below_drewN | apply below_drew1 | refine below_set ?_ GE200.out) | exact HB.out)))
            (case aF => exact (fun k_ hk => Kd.freshB (g := gb200) (o := .cells #[.string a1_0, .int .i64 a1_1, .int .i64 a1_2, .string a1_3] 36 (0, 0)) (by (with_reducible repeat (first | refine blk_drewN ?_ _ | refine blk_drew ?_ | refine blk_alloc ?_ _)); exact BK200.out) k_ hk))
            (case aO => exact (by (with_reducible repeat (first | apply Kd.R_alloc | apply Kd.R_drewN | apply Kd.R_drew)); exact Kd.R_mono HO206.out (fun _ hk => hk.2)))
            (case aS => exact (below_size (by repeat (first | (with_reducible first | exact HB.out | apply below_alloc | apply pw_below_drewN | apply below_drew1 | refine below_set ?_ GE200.out) | exact HB.out))))
            (case aL => have := LMc5.out; omega)
            intro v208 w15 ho hb hg hat
            rw [← Ny207.out] at ho
            have n0_ := Aside0.mk (blk_grown (g := gb200) (o := .cells #[.string a1_0, .int .i64 a1_1, .int .i64 a1_2, .string a1_3] 36 (0, 0)) (by (with_reducible repeat (first | refine blk_drewN ?_ _ | refine blk_drew ?_ | refine blk_alloc ?_ _)); exact BK200.out) hg (Kd.R_away HO206.out (fun _ hk => hk.2)))
            have n1_ := Aside0.mk (hb)
            have n2_ := Aside0.mk (ho)
            clear BK200
            clear HB
            clear HO206
            have BK200 := n0_
            have HB := n1_
            have HO209 := n2_
            clear n0_ n1_ n2_
            clear ho hb hg hat
            refine hK.out _ _ ⟨(blk_cell BK200.out 0).trans rfl, (blk_cell BK200.out 1).trans rfl, (blk_cell BK200.out 2).trans rfl, (blk_cell BK200.out 3).trans rfl⟩ (fun hHeld => ?_)
            clear hK K
            refine norm_ (a' := ?_) ?_ ?_
            rotate_left
            · show Act.put _ (some 26) _ = _
              simp only [Act.put, List.setIfInBounds_toArray, List.set_cons_zero, List.set_cons_succ, i64_w, i32_w]
              rfl
            refine one_ (i := 4) (N := some 28) #[true, true, true, true, true, false, false] rfl rfl (by kernel_rfl) (by decide) (fun K hK => ?_)
            refine Kd.R_lit_step k36 _ 36 ?hg (N := 28) ?hd (xs := ([(⟨a1_0, a1_1, a1_2, a1_3⟩ : S36)] : List (S36))) (inner := [.string a1_0, .int .i64 a1_1, .int .i64 a1_2, .string a1_3]) (ok := fun _ => True) (okp := fun _ => True) ?hr ?hp (fun _ hk => hk) trivial (Below.refl _ _) (Nat.le_refl _) (by simp) ?_; (case hd => rfl); (case hg => rfl); (case hr => first | (go_simp; done) | (go_simp; rfl)); (case hp => exact (Reps.c4 (show Kd.M k36 _ _ _ (⟨a1_0, a1_1, a1_2, a1_3⟩ : S36) [.string a1_0, .int .i64 a1_1, .int .i64 a1_2, .string a1_3] from (k36_mkM _ _ _ (⟨a1_0, a1_1, a1_2, a1_3⟩ : S36) )) (Reps.none _ _)))
            intro v211 w16 ho17 hb hg_ hnew_
            clear hg_ hnew_
            (first | rw [← Ny210.out] at ho17 | (simp only [Int.reduceToNat] at ho17; rw [← Ny210.out] at ho17))
            have n0_ := Aside0.mk (Kd.R_elder' (by (with_reducible repeat (first | apply Kd.R_alloc | apply Kd.R_drewN | apply Kd.R_drew)); exact HO209.out) (Kd.R_base ho17) hb)
            have n1_ := Aside0.mk (Kd.R_lower (Kd.R_newB (Kd.R_new' ho17 (Kd.R_lt (by (with_reducible repeat (first | apply Kd.R_alloc | apply Kd.R_drewN | apply Kd.R_drew)); exact HO209.out))) (g := gb200) (o := .cells #[.string a1_0, .int .i64 a1_1, .int .i64 a1_2, .string a1_3] 36 (0, 0)) (by (with_reducible repeat (first | refine blk_drewN ?_ _ | refine blk_drew ?_ | refine blk_alloc ?_ _)); exact BK200.out)) (below_size (by repeat (first | (with_reducible first | exact HB.out | apply below_alloc | apply pw_below_drewN | apply below_drew1 | refine below_set ?_ GE200.out) | exact HB.out))))
            have n2_ := Aside0.mk (blk_below (g := gb200) (o := .cells #[.string a1_0, .int .i64 a1_1, .int .i64 a1_2, .string a1_3] 36 (0, 0)) (by (with_reducible repeat (first | refine blk_drewN ?_ _ | refine blk_drew ?_ | refine blk_alloc ?_ _)); exact BK200.out) hb)
            have n3_ := Aside0.mk (below_step (by repeat (first | (with_reducible first | exact HB.out | apply below_alloc | apply pw_below_drewN | apply below_drew1 | refine below_set ?_ GE200.out) | exact HB.out)) hb)
            clear HO209
            clear BK200
            clear HB
            have HO209 := n0_
            have HO212 := n1_
            have BK200 := n2_
            have HB := n3_
            clear n0_ n1_ n2_ n3_
            clear hb ho17
            refine hK.out _ _ ⟨(blk_cell BK200.out 0).trans rfl, (blk_cell BK200.out 1).trans rfl, (blk_cell BK200.out 2).trans rfl, (blk_cell BK200.out 3).trans rfl⟩ (fun hHeld => ?_)
            clear hK K
            refine norm_ (a' := ?_) ?_ ?_
            rotate_left
            · show Act.put _ (some 28) _ = _
              simp only [Act.put, List.setIfInBounds_toArray, List.set_cons_zero, List.set_cons_succ, i64_w, i32_w]
              rfl
            exact norm_ (by simp only [putAll, Act.put, List.setIfInBounds_toArray, List.set_cons_zero, List.set_cons_succ]) (hCont (v205, v208, v211) _ ⟨hHeld, (by (with_reducible repeat (first | apply Kd.R_alloc | apply Kd.R_drewN | apply Kd.R_drew)); exact Kd.R_mono HO209.out (fun _ hk => ⟨hk.2, hk.1⟩)), (by (with_reducible repeat (first | apply Kd.R_alloc | apply Kd.R_drewN | apply Kd.R_drew)); exact Kd.R_mono HO212.out (fun _ hk => ⟨hk.1.2, hk.2⟩)), (by (with_reducible repeat (first | refine blk_drewN ?_ _ | refine blk_drew ?_ | refine blk_alloc ?_ _)); exact BK200.out), (by repeat (first | (with_reducible first | exact HB.out | apply below_alloc | apply pw_below_drewN | apply below_drew1 | refine below_set ?_ GE200.out) | exact HB.out))⟩)
          · skip
            refine Kd.R_lit_step k36 _ 36 ?hg (N := 28) ?hd (xs := ([(⟨a1_0, a1_1, a1_2, a1_3⟩ : S36)] : List (S36))) (inner := [.string a1_0, .int .i64 a1_1, .int .i64 a1_2, .string a1_3]) (ok := fun _ => True) (okp := fun _ => True) ?hr ?hp (fun _ hk => hk) trivial (Below.refl _ _) (Nat.le_refl _) (by simp) ?_; (case hd => rfl); (case hg => rfl); (case hr => first | (go_simp; done) | (go_simp; rfl)); (case hp => exact (Reps.c4 (show Kd.M k36 _ _ _ (⟨a1_0, a1_1, a1_2, a1_3⟩ : S36) [.string a1_0, .int .i64 a1_1, .int .i64 a1_2, .string a1_3] from (k36_mkM _ _ _ (⟨a1_0, a1_1, a1_2, a1_3⟩ : S36) )) (Reps.none _ _)))
            intro v211 w15 ho16 hb hg_ hnew_
            clear hg_ hnew_
            (first | rw [← Ny210.out] at ho16 | (simp only [Int.reduceToNat] at ho16; rw [← Ny210.out] at ho16))
            have n0_ := Aside0.mk (Kd.R_elder' (by (with_reducible repeat (first | apply Kd.R_alloc | apply Kd.R_drewN | apply Kd.R_drew)); exact HO206.out) (Kd.R_base ho16) hb)
            have n1_ := Aside0.mk (Kd.R_lower (Kd.R_newB (Kd.R_new' ho16 (Kd.R_lt (by (with_reducible repeat (first | apply Kd.R_alloc | apply Kd.R_drewN | apply Kd.R_drew)); exact HO206.out))) (g := gb200) (o := .cells #[.string a1_0, .int .i64 a1_1, .int .i64 a1_2, .string a1_3] 36 (0, 0)) (by (with_reducible repeat (first | refine blk_drewN ?_ _ | refine blk_drew ?_ | refine blk_alloc ?_ _)); exact BK200.out)) (below_size (by repeat (first | (with_reducible first | exact HB.out | apply below_alloc | apply pw_below_drewN | apply below_drew1 | refine below_set ?_ GE200.out) | exact HB.out))))
            have n2_ := Aside0.mk (blk_below (g := gb200) (o := .cells #[.string a1_0, .int .i64 a1_1, .int .i64 a1_2, .string a1_3] 36 (0, 0)) (by (with_reducible repeat (first | refine blk_drewN ?_ _ | refine blk_drew ?_ | refine blk_alloc ?_ _)); exact BK200.out) hb)
            have n3_ := Aside0.mk (below_step (by repeat (first | (with_reducible first | exact HB.out | apply below_alloc | apply pw_below_drewN | apply below_drew1 | refine below_set ?_ GE200.out) | exact HB.out)) hb)
            clear HO206
            clear BK200
            clear HB
            have HO206 := n0_
            have HO212 := n1_
            have BK200 := n2_
            have HB := n3_
            clear n0_ n1_ n2_ n3_
            clear hb ho16
            refine hK.out _ _ ⟨(blk_cell BK200.out 0).trans rfl, (blk_cell BK200.out 1).trans rfl, (blk_cell BK200.out 2).trans rfl, (blk_cell BK200.out 3).trans rfl⟩ (fun hHeld => ?_)
            clear hK K
            refine norm_ (a' := ?_) ?_ ?_
            rotate_left
            · show Act.put _ (some 28) _ = _
              simp only [Act.put, List.setIfInBounds_toArray, List.set_cons_zero, List.set_cons_succ, i64_w, i32_w]
              rfl
            refine one_ (i := 2) (N := some 26) #[true, true, true, true, true, false, false] rfl rfl (by kernel_rfl) (by decide) (fun K hK => ?_)
            refine Kd.R_append_rows_step k36 (w0 := w) w.heap.size (by rfl) (.tmp 24) (.tmp 25) 27 36 (.agg #[(.string ⟨#[]⟩), (.int .i64 0), (.int .i64 0), (.string ⟨#[]⟩)]) 48 rfl Try.underlying27 info36 rfl (by decide) (by omega) v205 y204 l0 _ _ _ (fun k_ => some k_ ≠ (v211 : Value).ownBlock ∧ k_ ≠ gb200) (fun _ => False) rfl rfl ?aO ?aR (fun _ _ h => h) (fun _ h => h.elim) ?aF ?aB ?aS ?aL ?_
            (case aR => repeat (first | exact (Kd.C_below HR0.out HB.out) | (with_reducible refine Kd.C_alloc ?_ _) | (with_reducible refine Kd.C_drewN ?_ _) | (with_reducible refine Kd.C_drew ?_)))
            (case aB => exact (by repeat (first | (with_reducible first | exact HB.out | apply below_alloc | apply pw_below_drewN | apply below_drew1 | refine below_set ?_ GE200.out) | exact HB.out)))
            (case aF => exact (fun k_ hk => ⟨Kd.fresh' (Kd.R_lt (by (with_reducible repeat (first | apply Kd.R_alloc | apply Kd.R_drewN | apply Kd.R_drew)); exact HO212.out)) k_ hk, Kd.freshB (g := gb200) (o := .cells #[.string a1_0, .int .i64 a1_1, .int .i64 a1_2, .string a1_3] 36 (0, 0)) (by (with_reducible repeat (first | refine blk_drewN ?_ _ | refine blk_drew ?_ | refine blk_alloc ?_ _)); exact BK200.out) k_ hk⟩))
            (case aO => exact (by (with_reducible repeat (first | apply Kd.R_alloc | apply Kd.R_drewN | apply Kd.R_drew)); exact Kd.R_mono HO206.out (fun _ hk => ⟨hk.2, hk.1.2⟩)))
            (case aS => exact (below_size (by repeat (first | (with_reducible first | exact HB.out | apply below_alloc | apply pw_below_drewN | apply below_drew1 | refine below_set ?_ GE200.out) | exact HB.out))))
            (case aL => have := LMc5.out; omega)
            intro v208 w17 ho hb hg hat
            rw [← Ny207.out] at ho
            have n0_ := Aside0.mk (blk_grown (g := gb200) (o := .cells #[.string a1_0, .int .i64 a1_1, .int .i64 a1_2, .string a1_3] 36 (0, 0)) (by (with_reducible repeat (first | refine blk_drewN ?_ _ | refine blk_drew ?_ | refine blk_alloc ?_ _)); exact BK200.out) hg (Kd.R_away HO206.out (fun _ hk => hk.1.2)))
            have n1_ := Aside0.mk (Kd.R_after (ok := (fun k_ => k_ ≠ gb200)) (by (with_reducible repeat (first | apply Kd.R_alloc | apply Kd.R_drewN | apply Kd.R_drew)); exact Kd.R_mono HO212.out (fun _ hk => ⟨hk.2, hk.1.2⟩)) hg hat)
            have n2_ := Aside0.mk (hb)
            have n3_ := Aside0.mk (ho)
            clear BK200
            clear HO212
            clear HB
            clear HO206
            have BK200 := n0_
            have HO212 := n1_
            have HB := n2_
            have HO209 := n3_
            clear n0_ n1_ n2_ n3_
            clear ho hb hg hat
            refine hK.out _ _ ⟨(blk_cell BK200.out 0).trans rfl, (blk_cell BK200.out 1).trans rfl, (blk_cell BK200.out 2).trans rfl, (blk_cell BK200.out 3).trans rfl⟩ (fun hHeld => ?_)
            clear hK K
            refine norm_ (a' := ?_) ?_ ?_
            rotate_left
            · show Act.put _ (some 26) _ = _
              simp only [Act.put, List.setIfInBounds_toArray, List.set_cons_zero, List.set_cons_succ, i64_w, i32_w]
              rfl
            exact norm_ (by simp only [putAll, Act.put, List.setIfInBounds_toArray, List.set_cons_zero, List.set_cons_succ]) (hCont (v205, v208, v211) _ ⟨hHeld, (by (with_reducible repeat (first | apply Kd.R_alloc | apply Kd.R_drewN | apply Kd.R_drew)); exact HO209.out), (by (with_reducible repeat (first | apply Kd.R_alloc | apply Kd.R_drewN | apply Kd.R_drew)); exact Kd.R_mono HO212.out (fun _ hk => ⟨hk.2, hk.1⟩)), (by (with_reducible repeat (first | refine blk_drewN ?_ _ | refine blk_drew ?_ | refine blk_alloc ?_ _)); exact BK200.out), (by repeat (first | (with_reducible first | exact HB.out | apply below_alloc | apply pw_below_drewN | apply below_drew1 | refine below_set ?_ GE200.out) | exact HB.out))⟩)
        · skip
          refine Kd.R_lit_step k36 _ 36 ?hg (N := 28) ?hd (xs := ([(⟨a1_0, a1_1, a1_2, a1_3⟩ : S36)] : List (S36))) (inner := [.string a1_0, .int .i64 a1_1, .int .i64 a1_2, .string a1_3]) (ok := fun _ => True) (okp := fun _ => True) ?hr ?hp (fun _ hk => hk) trivial (Below.refl _ _) (Nat.le_refl _) (by simp) ?_; (case hd => rfl); (case hg => rfl); (case hr => first | (go_simp; done) | (go_simp; rfl)); (case hp => exact (Reps.c4 (show Kd.M k36 _ _ _ (⟨a1_0, a1_1, a1_2, a1_3⟩ : S36) [.string a1_0, .int .i64 a1_1, .int .i64 a1_2, .string a1_3] from (k36_mkM _ _ _ (⟨a1_0, a1_1, a1_2, a1_3⟩ : S36) )) (Reps.none _ _)))
          intro v211 w13 ho14 hb hg_ hnew_
          clear hg_ hnew_
          (first | rw [← Ny210.out] at ho14 | (simp only [Int.reduceToNat] at ho14; rw [← Ny210.out] at ho14))
          have n0_ := Aside0.mk (Kd.R_lower (Kd.R_newB ho14 (g := gb200) (o := .cells #[.string a1_0, .int .i64 a1_1, .int .i64 a1_2, .string a1_3] 36 (0, 0)) (by (with_reducible repeat (first | refine blk_drewN ?_ _ | refine blk_drew ?_ | refine blk_alloc ?_ _)); exact BK200.out)) (below_size (by repeat (first | (with_reducible first | exact HB.out | apply below_alloc | apply pw_below_drewN | apply below_drew1 | refine below_set ?_ GE200.out) | exact HB.out))))
          have n1_ := Aside0.mk (blk_below (g := gb200) (o := .cells #[.string a1_0, .int .i64 a1_1, .int .i64 a1_2, .string a1_3] 36 (0, 0)) (by (with_reducible repeat (first | refine blk_drewN ?_ _ | refine blk_drew ?_ | refine blk_alloc ?_ _)); exact BK200.out) hb)
          have n2_ := Aside0.mk (below_step (by repeat (first | (with_reducible first | exact HB.out | apply below_alloc | apply pw_below_drewN | apply below_drew1 | refine below_set ?_ GE200.out) | exact HB.out)) hb)
          clear BK200
          clear HB
          have HO212 := n0_
          have BK200 := n1_
          have HB := n2_
          clear n0_ n1_ n2_
          clear hb ho14
          refine hK.out _ _ ⟨(blk_cell BK200.out 0).trans rfl, (blk_cell BK200.out 1).trans rfl, (blk_cell BK200.out 2).trans rfl, (blk_cell BK200.out 3).trans rfl⟩ (fun hHeld => ?_)
          clear hK K
          refine norm_ (a' := ?_) ?_ ?_
          rotate_left
          · show Act.put _ (some 28) _ = _
            simp only [Act.put, List.setIfInBounds_toArray, List.set_cons_zero, List.set_cons_succ, i64_w, i32_w]
            rfl
          refine one_ (i := 0) (N := some 24) #[true, true, false, true, true, false, false] rfl rfl (by kernel_rfl) (by decide) (fun K hK => ?_)
          refine Kd.R_lit_step k36 _ 36 ?hg (N := 24) ?hd (xs := ([] : List (S36))) (inner := []) (ok := fun _ => True) (okp := fun _ => True) ?hr ?hp (fun _ hk => hk) trivial (Below.refl _ _) (Nat.le_refl _) (by simp) ?_; (case hd => rfl); (case hg => rfl); (case hr => first | (go_simp; done) | (go_simp; rfl)); (case hp => exact (Reps.none _ _))
          intro v205 w15 ho16 hb hg_ hnew_
          clear hg_ hnew_
          (first | rw [← Ny204.out] at ho16 | (simp only [Int.reduceToNat] at ho16; rw [← Ny204.out] at ho16))
          have n0_ := Aside0.mk (Kd.R_elder' (by (with_reducible repeat (first | apply Kd.R_alloc | apply Kd.R_drewN | apply Kd.R_drew)); exact HO212.out) (Kd.R_base ho16) hb)
          have n1_ := Aside0.mk (Kd.R_lower (Kd.R_newB (Kd.R_new' ho16 (Kd.R_lt (by (with_reducible repeat (first | apply Kd.R_alloc | apply Kd.R_drewN | apply Kd.R_drew)); exact HO212.out))) (g := gb200) (o := .cells #[.string a1_0, .int .i64 a1_1, .int .i64 a1_2, .string a1_3] 36 (0, 0)) (by (with_reducible repeat (first | refine blk_drewN ?_ _ | refine blk_drew ?_ | refine blk_alloc ?_ _)); exact BK200.out)) (below_size (by repeat (first | (with_reducible first | exact HB.out | apply below_alloc | apply pw_below_drewN | apply below_drew1 | refine below_set ?_ GE200.out) | exact HB.out))))
          have n2_ := Aside0.mk (blk_below (g := gb200) (o := .cells #[.string a1_0, .int .i64 a1_1, .int .i64 a1_2, .string a1_3] 36 (0, 0)) (by (with_reducible repeat (first | refine blk_drewN ?_ _ | refine blk_drew ?_ | refine blk_alloc ?_ _)); exact BK200.out) hb)
          have n3_ := Aside0.mk (below_step (by repeat (first | (with_reducible first | exact HB.out | apply below_alloc | apply pw_below_drewN | apply below_drew1 | refine below_set ?_ GE200.out) | exact HB.out)) hb)
          clear HO212
          clear BK200
          clear HB
          have HO212 := n0_
          have HO206 := n1_
          have BK200 := n2_
          have HB := n3_
          clear n0_ n1_ n2_ n3_
          clear hb ho16
          refine hK.out _ _ ⟨(blk_cell BK200.out 0).trans rfl, (blk_cell BK200.out 1).trans rfl, (blk_cell BK200.out 2).trans rfl, (blk_cell BK200.out 3).trans rfl⟩ (fun hHeld => ?_)
          clear hK K
          refine norm_ (a' := ?_) ?_ ?_
          rotate_left
          · show Act.put _ (some 24) _ = _
            simp only [Act.put, List.setIfInBounds_toArray, List.set_cons_zero, List.set_cons_succ, i64_w, i32_w]
            rfl
          refine one_ (i := 2) (N := some 26) #[true, true, true, true, true, false, false] rfl rfl (by kernel_rfl) (by decide) (fun K hK => ?_)
          refine Kd.R_append_rows_step k36 (w0 := w) w.heap.size (by rfl) (.tmp 24) (.tmp 25) 27 36 (.agg #[(.string ⟨#[]⟩), (.int .i64 0), (.int .i64 0), (.string ⟨#[]⟩)]) 48 rfl Try.underlying27 info36 rfl (by decide) (by omega) v205 y204 l0 _ _ _ (fun k_ => some k_ ≠ (v211 : Value).ownBlock ∧ k_ ≠ gb200) (fun _ => False) rfl rfl ?aO ?aR (fun _ _ h => h) (fun _ h => h.elim) ?aF ?aB ?aS ?aL ?_
          (case aR => repeat (first | exact (Kd.C_below HR0.out HB.out) | (with_reducible refine Kd.C_alloc ?_ _) | (with_reducible refine Kd.C_drewN ?_ _) | (with_reducible refine Kd.C_drew ?_)))
          (case aB => exact (by repeat (first | (with_reducible first | exact HB.out | apply below_alloc | apply pw_below_drewN | apply below_drew1 | refine below_set ?_ GE200.out) | exact HB.out)))
          (case aF => exact (fun k_ hk => ⟨Kd.fresh' (Kd.R_lt (by (with_reducible repeat (first | apply Kd.R_alloc | apply Kd.R_drewN | apply Kd.R_drew)); exact HO212.out)) k_ hk, Kd.freshB (g := gb200) (o := .cells #[.string a1_0, .int .i64 a1_1, .int .i64 a1_2, .string a1_3] 36 (0, 0)) (by (with_reducible repeat (first | refine blk_drewN ?_ _ | refine blk_drew ?_ | refine blk_alloc ?_ _)); exact BK200.out) k_ hk⟩))
          (case aO => exact (by (with_reducible repeat (first | apply Kd.R_alloc | apply Kd.R_drewN | apply Kd.R_drew)); exact Kd.R_mono HO206.out (fun _ hk => ⟨hk.1.2, hk.2⟩)))
          (case aS => exact (below_size (by repeat (first | (with_reducible first | exact HB.out | apply below_alloc | apply pw_below_drewN | apply below_drew1 | refine below_set ?_ GE200.out) | exact HB.out))))
          (case aL => have := LMc5.out; omega)
          intro v208 w17 ho hb hg hat
          rw [← Ny207.out] at ho
          have n0_ := Aside0.mk (blk_grown (g := gb200) (o := .cells #[.string a1_0, .int .i64 a1_1, .int .i64 a1_2, .string a1_3] 36 (0, 0)) (by (with_reducible repeat (first | refine blk_drewN ?_ _ | refine blk_drew ?_ | refine blk_alloc ?_ _)); exact BK200.out) hg (Kd.R_away HO206.out (fun _ hk => hk.2)))
          have n1_ := Aside0.mk (Kd.R_after (ok := (fun k_ => k_ ≠ gb200)) (by (with_reducible repeat (first | apply Kd.R_alloc | apply Kd.R_drewN | apply Kd.R_drew)); exact Kd.R_mono HO212.out (fun _ hk => ⟨hk.1.2, hk.2⟩)) hg hat)
          have n2_ := Aside0.mk (hb)
          have n3_ := Aside0.mk (ho)
          clear BK200
          clear HO212
          clear HB
          clear HO206
          have BK200 := n0_
          have HO212 := n1_
          have HB := n2_
          have HO209 := n3_
          clear n0_ n1_ n2_ n3_
          clear ho hb hg hat
          refine hK.out _ _ ⟨(blk_cell BK200.out 0).trans rfl, (blk_cell BK200.out 1).trans rfl, (blk_cell BK200.out 2).trans rfl, (blk_cell BK200.out 3).trans rfl⟩ (fun hHeld => ?_)
          clear hK K
          refine norm_ (a' := ?_) ?_ ?_
          rotate_left
          · show Act.put _ (some 26) _ = _
            simp only [Act.put, List.setIfInBounds_toArray, List.set_cons_zero, List.set_cons_succ, i64_w, i32_w]
            rfl
          exact norm_ (by simp only [putAll, Act.put, List.setIfInBounds_toArray, List.set_cons_zero, List.set_cons_succ]) (hCont (v205, v208, v211) _ ⟨hHeld, (by (with_reducible repeat (first | apply Kd.R_alloc | apply Kd.R_drewN | apply Kd.R_drew)); exact HO209.out), (by (with_reducible repeat (first | apply Kd.R_alloc | apply Kd.R_drewN | apply Kd.R_drew)); exact Kd.R_mono HO212.out (fun _ hk => ⟨hk.2, hk.1⟩)), (by (with_reducible repeat (first | refine blk_drewN ?_ _ | refine blk_drew ?_ | refine blk_alloc ?_ _)); exact BK200.out), (by repeat (first | (with_reducible first | exact HB.out | apply below_alloc | apply pw_below_drewN | apply below_drew1 | refine below_set ?_ GE200.out) | exact HB.out))⟩)
      rintro ⟨v205, v208, v211⟩ w18 ⟨hS_, h0_, h1_, h2_, h3_⟩
      have n0_ : Aside0 (Kd.R k36 36 w18 w.heap.size (fun k_ => some k_ ≠ (v211 : Value).ownBlock ∧ k_ ≠ gb200) v208 y207) := ⟨h0_⟩
      have n1_ : Aside0 (Kd.R k36 36 w18 w.heap.size (fun k_ => some k_ ≠ (v208 : Value).ownBlock ∧ k_ ≠ gb200) v211 y210) := ⟨h1_⟩
      have n2_ : Aside0 (w18.heap[gb200]? = some (.cells #[.string a1_0, .int .i64 a1_1, .int .i64 a1_2, .string a1_3] 36 (0, 0))) := ⟨h2_⟩
      have n3_ : Aside0 (Below w.heap.size w w18) := ⟨h3_⟩
      clear BK200
      clear HB
      clear h0_ h1_ h2_ h3_
      have HO209 := n0_
      have HO212 := n1_
      have BK200 := n2_
      have HB := n3_
      clear n0_ n1_ n2_ n3_
      have hHeld : w18.cell? ⟨gb200, 0, none⟩ = some (.string a1_0) ∧ w18.cell? ⟨gb200, 1, none⟩ = some (.int .i64 a1_1) ∧ w18.cell? ⟨gb200, 2, none⟩ = some (.int .i64 a1_2) ∧ w18.cell? ⟨gb200, 3, none⟩ = some (.string a1_3) := hS_
      obtain ⟨Ao20, co20, eo20⟩ := Kd.R_slice HO212.out
      (first | subst eo20 | (injection eo20 with f1_ f2_ f3_; have f4_ := f1_.symm; have f5_ := f3_.symm; clear f1_ f2_ f3_; subst f4_; subst f5_))
      refine norm_ (a' := ?_) ?_ ?_
      rotate_left
      · simp only [putAll, Act.put, List.setIfInBounds_toArray, List.set_cons_zero, List.set_cons_succ]
        rfl
      refine one_ (i := 5) (N := some 29) #[true, true, true, true, true, true, false] rfl rfl (by kernel_rfl) (by decide) (fun K hK => ?_)
      refine Kd.R_append_rows_step k36 (w0 := w) w.heap.size (by rfl) (.tmp 26) (.tmp 28) 27 36 (.agg #[(.string ⟨#[]⟩), (.int .i64 0), (.int .i64 0), (.string ⟨#[]⟩)]) 48 rfl Try.underlying27 info36 rfl (by decide) (by omega) v208 y207 y210 _ _ _ (fun k_ => some k_ ≠ (.slice Ao20 y210.length co20 : Value).ownBlock ∧ k_ ≠ gb200) (fun _ => False) rfl rfl ?aO ?aR (fun _ _ h => h) (fun _ h => h.elim) ?aF ?aB ?aS ?aL ?_
      (case aR => repeat (first | exact (Kd.R_reads' HO212.out).2.2 | (with_reducible refine Kd.C_alloc ?_ _) | (with_reducible refine Kd.C_drewN ?_ _) | (with_reducible refine Kd.C_drew ?_)))
      (case aB => exact (by repeat (first | (with_reducible first | exact HB.out | apply below_alloc | apply pw_below_drewN | apply below_drew1 | refine below_set ?_ GE200.out) | exact HB.out)))
      (case aF => exact (fun k_ hk => ⟨Kd.fresh' (Kd.R_lt (by (with_reducible repeat (first | apply Kd.R_alloc | apply Kd.R_drewN | apply Kd.R_drew)); exact HO212.out)) k_ hk, Kd.freshB (g := gb200) (o := .cells #[.string a1_0, .int .i64 a1_1, .int .i64 a1_2, .string a1_3] 36 (0, 0)) (by (with_reducible repeat (first | refine blk_drewN ?_ _ | refine blk_drew ?_ | refine blk_alloc ?_ _)); exact BK200.out) k_ hk⟩))
      (case aO => exact (by (with_reducible repeat (first | apply Kd.R_alloc | apply Kd.R_drewN | apply Kd.R_drew)); exact HO209.out))
      (case aS => exact (below_size (by repeat (first | (with_reducible first | exact HB.out | apply below_alloc | apply pw_below_drewN | apply below_drew1 | refine below_set ?_ GE200.out) | exact HB.out))))
      (case aL => have := LMc6.out; omega)
      intro v214 w19 ho hb hg hat
      rw [← Ny213.out] at ho
      have n0_ := Aside0.mk (blk_grown (g := gb200) (o := .cells #[.string a1_0, .int .i64 a1_1, .int .i64 a1_2, .string a1_3] 36 (0, 0)) (by (with_reducible repeat (first | refine blk_drewN ?_ _ | refine blk_drew ?_ | refine blk_alloc ?_ _)); exact BK200.out) hg (Kd.R_away HO209.out (fun _ hk => hk.2)))
      have n1_ := Aside0.mk (Kd.R_after (ok := (fun k_ => k_ ≠ gb200)) (by (with_reducible repeat (first | apply Kd.R_alloc | apply Kd.R_drewN | apply Kd.R_drew)); exact Kd.R_mono HO212.out (fun _ hk => ⟨hk.2, hk.1⟩)) hg hat)
      have n2_ := Aside0.mk (hb)
      have n3_ := Aside0.mk (ho)
      clear BK200
      clear HO212
      clear HB
      clear HO209
      have BK200 := n0_
      have HO212 := n1_
      have HB := n2_
      have HO215 := n3_
      clear n0_ n1_ n2_ n3_
      clear ho hb hg hat
      refine hK.out _ _ ⟨(blk_cell BK200.out 0).trans rfl, (blk_cell BK200.out 1).trans rfl, (blk_cell BK200.out 2).trans rfl, (blk_cell BK200.out 3).trans rfl⟩ (fun hHeld => ?_)
      clear hK K
      refine norm_ (a' := ?_) ?_ ?_
      rotate_left
      · show Act.put _ (some 29) _ = _
        simp only [Act.put, List.setIfInBounds_toArray, List.set_cons_zero, List.set_cons_succ, i64_w, i32_w]
        rfl
      refine pure_ (i := 6) (N := some 8) (v := ?_) (a' := ?_) #[true, true, true, true, true, true, true] rfl rfl (by kernel_rfl) (fun _ _ _ h => h) (Or.inl ⟨by rfl, ?_⟩) ?_ ?_
      rotate_left
      · intro w'
        go_simp
        with_reducible rfl
      rotate_left
      · simp only [Act.put, List.setIfInBounds_toArray, List.set_cons_zero, List.set_cons_succ, i64_w, i32_w]
        rfl
      refine done_ (by kernel_rfl) ?_
      obtain ⟨Ao21, co21, eo21⟩ := Kd.R_slice HO215.out
      subst eo21
      go_upto_region 5 with (first | ((with_reducible refine gate_callee (f := 15) rfl ?_); refine goesL_ (some 32) rfl rfl Try.func15 (by kernel_rfl) rfl #[.slice Ao21 y213.length co21] rfl (by (try simp only [List.map_toArray, List.map_cons, List.map_nil]); first | done | rfl | (simp only [List.length_drop, List.length_take]; rfl)) ?_; (with_reducible refine (sig_Check.calls k _ _ y213 t216 t217 _ ?side1 ?side2 A7.out).mono ?_); (case side1 => repeat (first | exact (Kd.R_reads' HO215.out).2.2 | (with_reducible refine Kd.C_alloc ?_ _) | (with_reducible refine Kd.C_drewN ?_ _) | (with_reducible refine Kd.C_drew ?_))); (case side2 => exact (Kd.R_reads' HO215.out).2.1); rintro e w22 ⟨rfl, hb⟩; refine ⟨_, rfl, ?_⟩; have n0_ := Aside0.mk (Kd.R_below (by (with_reducible repeat (first | apply Kd.R_alloc | apply Kd.R_drewN | apply Kd.R_drew)); exact HO212.out) hb); have n1_ := Aside0.mk (Kd.R_below (by (with_reducible repeat (first | apply Kd.R_alloc | apply Kd.R_drewN | apply Kd.R_drew)); exact HO215.out) hb); have n2_ := Aside0.mk (blk_below (g := gb200) (o := .cells #[.string a1_0, .int .i64 a1_1, .int .i64 a1_2, .string a1_3] 36 (0, 0)) (by (with_reducible repeat (first | refine blk_drewN ?_ _ | refine blk_drew ?_ | refine blk_alloc ?_ _)); exact BK200.out) hb); have n3_ := Aside0.mk (below_step (by repeat (first | (with_reducible first | exact HB.out | apply below_alloc | apply pw_below_drewN | apply below_drew1 | refine below_set ?_ GE200.out) | exact HB.out)) hb); clear HO212; clear HO215; clear BK200; clear HB; have HO212 := n0_; have HO215 := n1_; have BK200 := n2_; have HB := n3_; clear n0_ n1_ n2_ n3_; (try clear hb); (try clear hb2); (try clear hk); (try clear hi)))
      (try simp only [Act.put, List.setIfInBounds_toArray, List.set_cons_zero, List.set_cons_succ])
      go_cut [40] (fun v40 wc => ∃ (kq : Nat) (x40_7 : Bool), v40 = .bool x40_7 ∧ Aside0 (amalgamlaw01_SigNewest.j0 kq l0 t201 y213 t216 t217 x40_7 = some r) ∧ Aside0 (kq ≤ k) ∧ Aside0 (Kd.R k36 36 wc w.heap.size (fun k_ => k_ ≠ gb200) (.slice Ao21 y213.length co21) y213) ∧ Aside0 (wc.heap[gb200]? = some (.cells #[.string a1_0, .int .i64 a1_1, .int .i64 a1_2, .string a1_3] 36 (0, 0))) ∧ Aside0 (Below w.heap.size w wc))
      case first =>
        have H := HC8.out
        clear HC8
        by_cases c23 : t201 = true
        · subst c23
          have H1 : (amalgamlaw01_SigNewest.j0 k l0 true y213 t216 t217 (t202 != 0)) = some r := by rw [if_pos rfl] at H; exact H
          clear H
          have H := H1
          clear H1
          have H' := Aside0.mk H
          clear H
          go_wp2
          go_meet
          case rel => exact ⟨_, ((t202 != 0)), (by first | rfl | (simp; done) | (simp [*]; done)), H', ⟨by first | omega | exact Nat.le_refl _⟩, ⟨by (with_reducible repeat (first | apply Kd.R_alloc | apply Kd.R_drewN | apply Kd.R_drew)); exact Kd.R_mono HO215.out (fun _ hk => hk.2)⟩, ⟨by (with_reducible repeat (first | refine blk_drewN ?_ _ | refine blk_drew ?_ | refine blk_alloc ?_ _)); exact BK200.out⟩, ⟨by repeat (first | (with_reducible first | exact HB.out | apply below_alloc | apply pw_below_drewN | apply below_drew1 | refine below_set ?_ GE200.out) | exact HB.out)⟩⟩
        · replace c23 := Bool.eq_false_iff.mpr c23
          subst c23
          have H1 : (amalgamlaw01_SigNewest.j0 k l0 false y213 t216 t217 true) = some r := by rw [if_neg (show ¬ (false = true) by decide)] at H; exact H
          clear H
          have H := H1
          clear H1
          have H' := Aside0.mk H
          clear H
          go_wp2
          go_meet
          case rel => exact ⟨_, (true), (by first | rfl | (simp; done) | (simp [*]; done)), H', ⟨by first | omega | exact Nat.le_refl _⟩, ⟨by (with_reducible repeat (first | apply Kd.R_alloc | apply Kd.R_drewN | apply Kd.R_drew)); exact Kd.R_mono HO215.out (fun _ hk => hk.2)⟩, ⟨by (with_reducible repeat (first | refine blk_drewN ?_ _ | refine blk_drew ?_ | refine blk_alloc ?_ _)); exact BK200.out⟩, ⟨by repeat (first | (with_reducible first | exact HB.out | apply below_alloc | apply pw_below_drewN | apply below_drew1 | refine below_set ?_ GE200.out) | exact HB.out)⟩⟩
      case rest =>
        clear HC8
        try clear c1
        try clear c2
        try clear p2
        try clear c4
        try clear c5
        try clear c6
        try clear c9
        try clear c15
        try clear c23
        obtain ⟨kq, x40_7, rfl, HA, HJ7, HO_8, BK200, HB⟩ := hcut
        cases kq with
        | zero => exact absurd HA.out (by simp [amalgamlaw01_SigNewest.j0])
        | succ kj7 =>
          have H := HA.out
          clear HA
          simp only [amalgamlaw01_SigNewest.j0] at H
          by_cases c24 : x40_7 = true
          · subst c24
            have H1 : (if t201 = true then (if t216 = 0 then (some (decide ((y213.length : Int) > 16))) else (some true)) else (some false)) = some r := by rw [if_pos rfl] at H; exact H
            clear H
            have H := H1
            clear H1
            by_cases c25 : t201 = true
            · subst c25
              have H1 : (if t216 = 0 then (some (decide ((y213.length : Int) > 16))) else (some true)) = some r := by rw [if_pos rfl] at H; exact H
              clear H
              have H := H1
              clear H1
              by_cases c26 : t216 = 0
              · rw [if_pos c26] at H
                have c26b0 : (t216 == 0) = true := beq_iff_eq.mpr c26
                have c26b1 : (t216 != 0) = false := bne_eq_false_iff_eq.mpr c26
                clear c26
                obtain rfl := Option.some.inj H
                go_wp2
                go_ret
                exact ⟨by first | rfl | (simp [errW_none, errW_some] <;> rfl) | (simp [*, errW_none, errW_some] <;> rfl), by repeat (first | (with_reducible first | exact HB.out | apply below_alloc | apply pw_below_drewN | apply below_drew1 | refine below_set ?_ GE200.out) | exact HB.out)⟩
              · rw [if_neg c26] at H
                have c26b0 : (t216 == 0) = false := beq_eq_false_iff_ne.mpr c26
                have c26b1 : (t216 != 0) = true := bne_iff_ne.mpr c26
                obtain rfl := Option.some.inj H
                go_wp2
                go_ret
                exact ⟨by first | rfl | (simp [errW_none, errW_some] <;> rfl) | (simp [*, errW_none, errW_some] <;> rfl), by repeat (first | (with_reducible first | exact HB.out | apply below_alloc | apply pw_below_drewN | apply below_drew1 | refine below_set ?_ GE200.out) | exact HB.out)⟩
            · replace c25 := Bool.eq_false_iff.mpr c25
              subst c25
              have H1 : (some false) = some r := by rw [if_neg (show ¬ (false = true) by decide)] at H; exact H
              clear H
              have H := H1
              clear H1
              obtain rfl := Option.some.inj H
              go_wp2
              go_ret
              exact ⟨by first | rfl | (simp [errW_none, errW_some] <;> rfl) | (simp [*, errW_none, errW_some] <;> rfl), by repeat (first | (with_reducible first | exact HB.out | apply below_alloc | apply pw_below_drewN | apply below_drew1 | refine below_set ?_ GE200.out) | exact HB.out)⟩
          · replace c24 := Bool.eq_false_iff.mpr c24
            subst c24
            have H1 : (if t216 = 0 then (amalgamlaw01_SigNewest.l0 kj7 l0 y213 0) else (if t217 = (l0.length : Int) then (some true) else (if t216 = 15 then (some (t217 == 0)) else (some false)))) = some r := by rw [if_neg (show ¬ (false = true) by decide)] at H; exact H
            clear H
            have H := H1
            clear H1
            by_cases c27 : t216 = 0
            · rw [if_pos c27] at H
              have c27b0 : (t216 == 0) = true := beq_iff_eq.mpr c27
              have c27b1 : (t216 != 0) = false := bne_eq_false_iff_eq.mpr c27
              clear c27
              have H' := Aside0.mk H
              clear H
              go_wp2
              go_loopg [11] kj7 (fun kq v11 w' => ∃ (x11_2 : Int), v11 = .int .i64 x11_2 ∧ Aside0 (amalgamlaw01_SigNewest.l0 kq l0 y213 x11_2 = some r) ∧ Aside0 (kq ≤ kj7) ∧ Aside0 (Kd.R k36 36 w' w.heap.size (fun k_ => k_ ≠ gb200) (.slice Ao21 y213.length co21) y213) ∧ Aside0 (w'.heap[gb200]? = some (.cells #[.string a1_0, .int .i64 a1_1, .int .i64 a1_2, .string a1_3] 36 (0, 0))) ∧ Aside0 (Below w.heap.size w w'))
              case atStart => exact ⟨(0), (by first | rfl | (simp; done) | (simp [*]; done)), H', ⟨Nat.le_refl _⟩, ⟨by (with_reducible repeat (first | apply Kd.R_alloc | apply Kd.R_drewN | apply Kd.R_drew)); exact HO_8.out⟩, ⟨by (with_reducible repeat (first | refine blk_drewN ?_ _ | refine blk_drew ?_ | refine blk_alloc ?_ _)); exact BK200.out⟩, ⟨by repeat (first | (with_reducible first | exact HB.out | apply below_alloc | apply pw_below_drewN | apply below_drew1 | refine below_set ?_ GE200.out) | exact HB.out)⟩⟩
              case round =>
                clear H'
                try clear c1
                try clear c2
                try clear p2
                try clear c4
                try clear c5
                try clear c6
                try clear c9
                try clear c15
                try clear c23
                try clear c24
                try clear c25
                try clear c26
                try clear c26b0
                try clear c26b1
                try clear c27
                try clear c27b0
                try clear c27b1
                try clear p2
                obtain ⟨x11_2, rfl, HA, HK2, HO_8, BK200, HB⟩ := hrel
                cases gk with
                | zero => exact absurd HA.out (by simp [amalgamlaw01_SigNewest.l0])
                | succ k2 =>
                  have H := HA.out
                  clear HA
                  simp only [amalgamlaw01_SigNewest.l0] at H
                  by_cases c28 : x11_2 < (l0.length : Int)
                  · rw [if_pos c28] at H
                    have c28b0 : decide (x11_2 < (l0.length : Int)) = true := decide_eq_true c28
                    clear c28
                    by_cases c29 : 0 ≤ x11_2
                    · rw [if_pos c29] at H
                      have c29b0 : decide (0 ≤ x11_2) = true := decide_eq_true c29
                      clear c29
                      replace H := Option.bind_eq_some_iff.mp H
                      obtain ⟨⟨t219, t220⟩, A300, H⟩ := H
                      replace H : ((sig_Unit.f k2 l0 x11_2).bind fun bt221 => ((sig_Unit.f k2 y213 x11_2).bind fun bt223 => (if t220 = true then (if t219 = x11_2 then (if bt221.1 = bt223.1 then (if (bt221.2 != bt223.2) = true then (some false) else (amalgamlaw01_SigNewest.l0 k2 l0 y213 (wrap64 (x11_2 + 1)))) else (some false)) else (some false)) else (some false)))) = some r := H
                      have A30 := Aside0.mk A300
                      clear A300
                      replace H := Option.bind_eq_some_iff.mp H
                      obtain ⟨⟨t221, t222⟩, A310, H⟩ := H
                      replace H : ((sig_Unit.f k2 y213 x11_2).bind fun bt223 => (if t220 = true then (if t219 = x11_2 then (if t221 = bt223.1 then (if (t222 != bt223.2) = true then (some false) else (amalgamlaw01_SigNewest.l0 k2 l0 y213 (wrap64 (x11_2 + 1)))) else (some false)) else (some false)) else (some false))) = some r := H
                      have A31 := Aside0.mk A310
                      clear A310
                      replace H := Option.bind_eq_some_iff.mp H
                      obtain ⟨⟨t223, t224⟩, A320, H⟩ := H
                      replace H : (if t220 = true then (if t219 = x11_2 then (if t221 = t223 then (if (t222 != t224) = true then (some false) else (amalgamlaw01_SigNewest.l0 k2 l0 y213 (wrap64 (x11_2 + 1)))) else (some false)) else (some false)) else (some false)) = some r := H
                      have A32 := Aside0.mk A320
                      clear A320
                      by_cases c33 : t220 = true
                      · subst c33
                        have H1 : (if t219 = x11_2 then (if t221 = t223 then (if (t222 != t224) = true then (some false) else (amalgamlaw01_SigNewest.l0 k2 l0 y213 (wrap64 (x11_2 + 1)))) else (some false)) else (some false)) = some r := by rw [if_pos rfl] at H; exact H
                        clear H
                        have H := H1
                        clear H1
                        by_cases c34 : t219 = x11_2
                        · rw [if_pos c34] at H
                          have c34b0 : (t219 == x11_2) = true := beq_iff_eq.mpr c34
                          have c34b1 : (t219 != x11_2) = false := bne_eq_false_iff_eq.mpr c34
                          clear c34
                          by_cases c35 : t221 = t223
                          · rw [if_pos c35] at H
                            have c35b0 : (t221 == t223) = true := beq_iff_eq.mpr c35
                            have c35b1 : (t221 != t223) = false := bne_eq_false_iff_eq.mpr c35
                            clear c35
                            by_cases c36 : (t222 != t224) = true
                            · rw [if_pos c36] at H
                              have c36b0 : (t222 != t224) = true := c36
                              (try (have c36b1 : decide (t222 = t224) = false := by simpa using c36))
                              (try (have c36b2 : (t222 == t224) = false := by simpa using c36))
                              (try (have c36b3 : ¬ (t222 = t224) := by simpa using c36))
                              clear c36
                              obtain rfl := Option.some.inj H
                              have p218 : 0 ≤ (x11_2 : Int) := of_decide_eq_true (by first | (with_reducible assumption) | assumption)
                              have q218 : x11_2 < (l0.length : Int) := of_decide_eq_true (by first | (with_reducible assumption) | assumption)
                              obtain ⟨ad218, e218, hx218_0, hx218_1, hx218_2, hx218_3⟩ := at_T36 HR0.out x11_2 p218 q218
                              cases e218
                              replace hx218_0 := (HB.out.cell (World.block_lt_of_cell? w _ hx218_0)).trans hx218_0
                              replace hx218_1 := (HB.out.cell (World.block_lt_of_cell? w _ hx218_1)).trans hx218_1
                              replace hx218_2 := (HB.out.cell (World.block_lt_of_cell? w _ hx218_2)).trans hx218_2
                              replace hx218_3 := (HB.out.cell (World.block_lt_of_cell? w _ hx218_3)).trans hx218_3
                              replace p218 := eq_true p218
                              replace q218 := eq_true q218
                              go_wp2_with (first | ((with_reducible refine gate_callee (f := 18) rfl ?_); refine goesL_ (some 78) rfl rfl Try.func18 (by kernel_rfl) rfl #[.slice Ao21 y213.length co21, .string ((rd_T36 l0 x11_2).f0)] rfl (by (try simp only [List.map_toArray, List.map_cons, List.map_nil]); first | done | rfl | (simp only [List.length_drop, List.length_take]; rfl)) ?_; (with_reducible refine (sig_Find.calls k2 _ _ y213 ((rd_T36 l0 x11_2).f0) t219 true _ ?side1 ?side2 A30.out).mono ?_); (case side1 => repeat (first | exact (Kd.R_reads' HO_8.out).2.2 | (with_reducible refine Kd.C_alloc ?_ _) | (with_reducible refine Kd.C_drewN ?_ _) | (with_reducible refine Kd.C_drew ?_))); (case side2 => exact (Kd.R_reads' HO_8.out).2.1); rintro e w' ⟨rfl, ⟨nd, rfl⟩⟩; refine ⟨_, rfl, ?_⟩) | ((with_reducible refine gate_callee (f := 19) rfl ?_); refine goesL_ (some 84) rfl rfl Try.func19 (by kernel_rfl) rfl #[.slice (some ad218) l0.length c0, .int .i64 x11_2] rfl (by (try simp only [List.map_toArray, List.map_cons, List.map_nil]); first | done | rfl | (simp only [List.length_drop, List.length_take]; rfl)) ?_; (with_reducible refine (sig_Unit.calls k2 _ _ l0 x11_2 t221 t222 _ ?side1 ?side2 A31.out).mono ?_); (case side1 => repeat (first | exact (Kd.C_below HR0.out (by repeat (first | (with_reducible first | exact HB.out | apply below_alloc | apply pw_below_drewN | apply below_drew1 | refine below_set ?_ GE200.out) | exact HB.out))) | (with_reducible refine Kd.C_alloc ?_ _) | (with_reducible refine Kd.C_drewN ?_ _) | (with_reducible refine Kd.C_drew ?_))); (case side2 => exact HC0.out); rintro e w' ⟨rfl, ⟨nd, rfl⟩⟩; refine ⟨_, rfl, ?_⟩) | ((with_reducible refine gate_callee (f := 19) rfl ?_); refine goesL_ (some 90) rfl rfl Try.func19 (by kernel_rfl) rfl #[.slice Ao21 y213.length co21, .int .i64 x11_2] rfl (by (try simp only [List.map_toArray, List.map_cons, List.map_nil]); first | done | rfl | (simp only [List.length_drop, List.length_take]; rfl)) ?_; (with_reducible refine (sig_Unit.calls k2 _ _ y213 x11_2 t223 t224 _ ?side1 ?side2 A32.out).mono ?_); (case side1 => repeat (first | exact (Kd.R_reads' HO_8.out).2.2 | (with_reducible refine Kd.C_alloc ?_ _) | (with_reducible refine Kd.C_drewN ?_ _) | (with_reducible refine Kd.C_drew ?_))); (case side2 => exact (Kd.R_reads' HO_8.out).2.1); rintro e w' ⟨rfl, ⟨nd, rfl⟩⟩; refine ⟨_, rfl, ?_⟩))
                              go_ret
                              exact ⟨by first | rfl | (simp [errW_none, errW_some] <;> rfl) | (simp [*, errW_none, errW_some] <;> rfl), by repeat (first | (with_reducible first | exact HB.out | apply below_alloc | apply pw_below_drewN | apply below_drew1 | refine below_set ?_ GE200.out) | exact HB.out)⟩
                            · rw [if_neg c36] at H
                              have c36b0 : (t222 != t224) = false := by simpa using c36
                              (try (have c36b1 : decide (t222 = t224) = true := by simpa using c36))
                              (try (have c36b2 : (t222 == t224) = true := by simpa using c36))
                              clear c36
                              have H' := Aside0.mk H
                              clear H
                              have p218 : 0 ≤ (x11_2 : Int) := of_decide_eq_true (by first | (with_reducible assumption) | assumption)
                              have q218 : x11_2 < (l0.length : Int) := of_decide_eq_true (by first | (with_reducible assumption) | assumption)
                              obtain ⟨ad218, e218, hx218_0, hx218_1, hx218_2, hx218_3⟩ := at_T36 HR0.out x11_2 p218 q218
                              cases e218
                              replace hx218_0 := (HB.out.cell (World.block_lt_of_cell? w _ hx218_0)).trans hx218_0
                              replace hx218_1 := (HB.out.cell (World.block_lt_of_cell? w _ hx218_1)).trans hx218_1
                              replace hx218_2 := (HB.out.cell (World.block_lt_of_cell? w _ hx218_2)).trans hx218_2
                              replace hx218_3 := (HB.out.cell (World.block_lt_of_cell? w _ hx218_3)).trans hx218_3
                              replace p218 := eq_true p218
                              replace q218 := eq_true q218
                              go_wp2_with (first | ((with_reducible refine gate_callee (f := 18) rfl ?_); refine goesL_ (some 78) rfl rfl Try.func18 (by kernel_rfl) rfl #[.slice Ao21 y213.length co21, .string ((rd_T36 l0 x11_2).f0)] rfl (by (try simp only [List.map_toArray, List.map_cons, List.map_nil]); first | done | rfl | (simp only [List.length_drop, List.length_take]; rfl)) ?_; (with_reducible refine (sig_Find.calls k2 _ _ y213 ((rd_T36 l0 x11_2).f0) t219 true _ ?side1 ?side2 A30.out).mono ?_); (case side1 => repeat (first | exact (Kd.R_reads' HO_8.out).2.2 | (with_reducible refine Kd.C_alloc ?_ _) | (with_reducible refine Kd.C_drewN ?_ _) | (with_reducible refine Kd.C_drew ?_))); (case side2 => exact (Kd.R_reads' HO_8.out).2.1); rintro e w' ⟨rfl, ⟨nd, rfl⟩⟩; refine ⟨_, rfl, ?_⟩) | ((with_reducible refine gate_callee (f := 19) rfl ?_); refine goesL_ (some 84) rfl rfl Try.func19 (by kernel_rfl) rfl #[.slice (some ad218) l0.length c0, .int .i64 x11_2] rfl (by (try simp only [List.map_toArray, List.map_cons, List.map_nil]); first | done | rfl | (simp only [List.length_drop, List.length_take]; rfl)) ?_; (with_reducible refine (sig_Unit.calls k2 _ _ l0 x11_2 t221 t222 _ ?side1 ?side2 A31.out).mono ?_); (case side1 => repeat (first | exact (Kd.C_below HR0.out (by repeat (first | (with_reducible first | exact HB.out | apply below_alloc | apply pw_below_drewN | apply below_drew1 | refine below_set ?_ GE200.out) | exact HB.out))) | (with_reducible refine Kd.C_alloc ?_ _) | (with_reducible refine Kd.C_drewN ?_ _) | (with_reducible refine Kd.C_drew ?_))); (case side2 => exact HC0.out); rintro e w' ⟨rfl, ⟨nd, rfl⟩⟩; refine ⟨_, rfl, ?_⟩) | ((with_reducible refine gate_callee (f := 19) rfl ?_); refine goesL_ (some 90) rfl rfl Try.func19 (by kernel_rfl) rfl #[.slice Ao21 y213.length co21, .int .i64 x11_2] rfl (by (try simp only [List.map_toArray, List.map_cons, List.map_nil]); first | done | rfl | (simp only [List.length_drop, List.length_take]; rfl)) ?_; (with_reducible refine (sig_Unit.calls k2 _ _ y213 x11_2 t223 t224 _ ?side1 ?side2 A32.out).mono ?_); (case side1 => repeat (first | exact (Kd.R_reads' HO_8.out).2.2 | (with_reducible refine Kd.C_alloc ?_ _) | (with_reducible refine Kd.C_drewN ?_ _) | (with_reducible refine Kd.C_drew ?_))); (case side2 => exact (Kd.R_reads' HO_8.out).2.1); rintro e w' ⟨rfl, ⟨nd, rfl⟩⟩; refine ⟨_, rfl, ?_⟩))
                              go_roundg k2
                              case measure => have := HJ7.out; have := HK2.out; omega
                              case rel => exact ⟨(wrap64 (x11_2 + 1)), (by first | rfl | (simp; done) | (simp [*]; done)), H', ⟨by have := HJ7.out; have := HK2.out; omega⟩, ⟨by (with_reducible repeat (first | apply Kd.R_alloc | apply Kd.R_drewN | apply Kd.R_drew)); exact HO_8.out⟩, ⟨by (with_reducible repeat (first | refine blk_drewN ?_ _ | refine blk_drew ?_ | refine blk_alloc ?_ _)); exact BK200.out⟩, ⟨by repeat (first | (with_reducible first | exact HB.out | apply below_alloc | apply pw_below_drewN | apply below_drew1 | refine below_set ?_ GE200.out) | exact HB.out)⟩⟩
                          · rw [if_neg c35] at H
                            have c35b0 : (t221 == t223) = false := beq_eq_false_iff_ne.mpr c35
                            have c35b1 : (t221 != t223) = true := bne_iff_ne.mpr c35
                            obtain rfl := Option.some.inj H
                            have p218 : 0 ≤ (x11_2 : Int) := of_decide_eq_true (by first | (with_reducible assumption) | assumption)
                            have q218 : x11_2 < (l0.length : Int) := of_decide_eq_true (by first | (with_reducible assumption) | assumption)
                            obtain ⟨ad218, e218, hx218_0, hx218_1, hx218_2, hx218_3⟩ := at_T36 HR0.out x11_2 p218 q218
                            cases e218
                            replace hx218_0 := (HB.out.cell (World.block_lt_of_cell? w _ hx218_0)).trans hx218_0
                            replace hx218_1 := (HB.out.cell (World.block_lt_of_cell? w _ hx218_1)).trans hx218_1
                            replace hx218_2 := (HB.out.cell (World.block_lt_of_cell? w _ hx218_2)).trans hx218_2
                            replace hx218_3 := (HB.out.cell (World.block_lt_of_cell? w _ hx218_3)).trans hx218_3
                            replace p218 := eq_true p218
                            replace q218 := eq_true q218
                            go_wp2_with (first | ((with_reducible refine gate_callee (f := 18) rfl ?_); refine goesL_ (some 78) rfl rfl Try.func18 (by kernel_rfl) rfl #[.slice Ao21 y213.length co21, .string ((rd_T36 l0 x11_2).f0)] rfl (by (try simp only [List.map_toArray, List.map_cons, List.map_nil]); first | done | rfl | (simp only [List.length_drop, List.length_take]; rfl)) ?_; (with_reducible refine (sig_Find.calls k2 _ _ y213 ((rd_T36 l0 x11_2).f0) t219 true _ ?side1 ?side2 A30.out).mono ?_); (case side1 => repeat (first | exact (Kd.R_reads' HO_8.out).2.2 | (with_reducible refine Kd.C_alloc ?_ _) | (with_reducible refine Kd.C_drewN ?_ _) | (with_reducible refine Kd.C_drew ?_))); (case side2 => exact (Kd.R_reads' HO_8.out).2.1); rintro e w' ⟨rfl, ⟨nd, rfl⟩⟩; refine ⟨_, rfl, ?_⟩) | ((with_reducible refine gate_callee (f := 19) rfl ?_); refine goesL_ (some 84) rfl rfl Try.func19 (by kernel_rfl) rfl #[.slice (some ad218) l0.length c0, .int .i64 x11_2] rfl (by (try simp only [List.map_toArray, List.map_cons, List.map_nil]); first | done | rfl | (simp only [List.length_drop, List.length_take]; rfl)) ?_; (with_reducible refine (sig_Unit.calls k2 _ _ l0 x11_2 t221 t222 _ ?side1 ?side2 A31.out).mono ?_); (case side1 => repeat (first | exact (Kd.C_below HR0.out (by repeat (first | (with_reducible first | exact HB.out | apply below_alloc | apply pw_below_drewN | apply below_drew1 | refine below_set ?_ GE200.out) | exact HB.out))) | (with_reducible refine Kd.C_alloc ?_ _) | (with_reducible refine Kd.C_drewN ?_ _) | (with_reducible refine Kd.C_drew ?_))); (case side2 => exact HC0.out); rintro e w' ⟨rfl, ⟨nd, rfl⟩⟩; refine ⟨_, rfl, ?_⟩) | ((with_reducible refine gate_callee (f := 19) rfl ?_); refine goesL_ (some 90) rfl rfl Try.func19 (by kernel_rfl) rfl #[.slice Ao21 y213.length co21, .int .i64 x11_2] rfl (by (try simp only [List.map_toArray, List.map_cons, List.map_nil]); first | done | rfl | (simp only [List.length_drop, List.length_take]; rfl)) ?_; (with_reducible refine (sig_Unit.calls k2 _ _ y213 x11_2 t223 t224 _ ?side1 ?side2 A32.out).mono ?_); (case side1 => repeat (first | exact (Kd.R_reads' HO_8.out).2.2 | (with_reducible refine Kd.C_alloc ?_ _) | (with_reducible refine Kd.C_drewN ?_ _) | (with_reducible refine Kd.C_drew ?_))); (case side2 => exact (Kd.R_reads' HO_8.out).2.1); rintro e w' ⟨rfl, ⟨nd, rfl⟩⟩; refine ⟨_, rfl, ?_⟩))
                            go_ret
                            exact ⟨by first | rfl | (simp [errW_none, errW_some] <;> rfl) | (simp [*, errW_none, errW_some] <;> rfl), by repeat (first | (with_reducible first | exact HB.out | apply below_alloc | apply pw_below_drewN | apply below_drew1 | refine below_set ?_ GE200.out) | exact HB.out)⟩
                        · rw [if_neg c34] at H
                          have c34b0 : (t219 == x11_2) = false := beq_eq_false_iff_ne.mpr c34
                          have c34b1 : (t219 != x11_2) = true := bne_iff_ne.mpr c34
                          obtain rfl := Option.some.inj H
                          have p218 : 0 ≤ (x11_2 : Int) := of_decide_eq_true (by first | (with_reducible assumption) | assumption)
                          have q218 : x11_2 < (l0.length : Int) := of_decide_eq_true (by first | (with_reducible assumption) | assumption)
                          obtain ⟨ad218, e218, hx218_0, hx218_1, hx218_2, hx218_3⟩ := at_T36 HR0.out x11_2 p218 q218
                          cases e218
                          replace hx218_0 := (HB.out.cell (World.block_lt_of_cell? w _ hx218_0)).trans hx218_0
                          replace hx218_1 := (HB.out.cell (World.block_lt_of_cell? w _ hx218_1)).trans hx218_1
                          replace hx218_2 := (HB.out.cell (World.block_lt_of_cell? w _ hx218_2)).trans hx218_2
                          replace hx218_3 := (HB.out.cell (World.block_lt_of_cell? w _ hx218_3)).trans hx218_3
                          replace p218 := eq_true p218
                          replace q218 := eq_true q218
                          go_wp2_with (first | ((with_reducible refine gate_callee (f := 18) rfl ?_); refine goesL_ (some 78) rfl rfl Try.func18 (by kernel_rfl) rfl #[.slice Ao21 y213.length co21, .string ((rd_T36 l0 x11_2).f0)] rfl (by (try simp only [List.map_toArray, List.map_cons, List.map_nil]); first | done | rfl | (simp only [List.length_drop, List.length_take]; rfl)) ?_; (with_reducible refine (sig_Find.calls k2 _ _ y213 ((rd_T36 l0 x11_2).f0) t219 true _ ?side1 ?side2 A30.out).mono ?_); (case side1 => repeat (first | exact (Kd.R_reads' HO_8.out).2.2 | (with_reducible refine Kd.C_alloc ?_ _) | (with_reducible refine Kd.C_drewN ?_ _) | (with_reducible refine Kd.C_drew ?_))); (case side2 => exact (Kd.R_reads' HO_8.out).2.1); rintro e w' ⟨rfl, ⟨nd, rfl⟩⟩; refine ⟨_, rfl, ?_⟩) | ((with_reducible refine gate_callee (f := 19) rfl ?_); refine goesL_ (some 84) rfl rfl Try.func19 (by kernel_rfl) rfl #[.slice (some ad218) l0.length c0, .int .i64 x11_2] rfl (by (try simp only [List.map_toArray, List.map_cons, List.map_nil]); first | done | rfl | (simp only [List.length_drop, List.length_take]; rfl)) ?_; (with_reducible refine (sig_Unit.calls k2 _ _ l0 x11_2 t221 t222 _ ?side1 ?side2 A31.out).mono ?_); (case side1 => repeat (first | exact (Kd.C_below HR0.out (by repeat (first | (with_reducible first | exact HB.out | apply below_alloc | apply pw_below_drewN | apply below_drew1 | refine below_set ?_ GE200.out) | exact HB.out))) | (with_reducible refine Kd.C_alloc ?_ _) | (with_reducible refine Kd.C_drewN ?_ _) | (with_reducible refine Kd.C_drew ?_))); (case side2 => exact HC0.out); rintro e w' ⟨rfl, ⟨nd, rfl⟩⟩; refine ⟨_, rfl, ?_⟩) | ((with_reducible refine gate_callee (f := 19) rfl ?_); refine goesL_ (some 90) rfl rfl Try.func19 (by kernel_rfl) rfl #[.slice Ao21 y213.length co21, .int .i64 x11_2] rfl (by (try simp only [List.map_toArray, List.map_cons, List.map_nil]); first | done | rfl | (simp only [List.length_drop, List.length_take]; rfl)) ?_; (with_reducible refine (sig_Unit.calls k2 _ _ y213 x11_2 t223 t224 _ ?side1 ?side2 A32.out).mono ?_); (case side1 => repeat (first | exact (Kd.R_reads' HO_8.out).2.2 | (with_reducible refine Kd.C_alloc ?_ _) | (with_reducible refine Kd.C_drewN ?_ _) | (with_reducible refine Kd.C_drew ?_))); (case side2 => exact (Kd.R_reads' HO_8.out).2.1); rintro e w' ⟨rfl, ⟨nd, rfl⟩⟩; refine ⟨_, rfl, ?_⟩))
                          go_ret
                          exact ⟨by first | rfl | (simp [errW_none, errW_some] <;> rfl) | (simp [*, errW_none, errW_some] <;> rfl), by repeat (first | (with_reducible first | exact HB.out | apply below_alloc | apply pw_below_drewN | apply below_drew1 | refine below_set ?_ GE200.out) | exact HB.out)⟩
                      · replace c33 := Bool.eq_false_iff.mpr c33
                        subst c33
                        have H1 : (some false) = some r := by rw [if_neg (show ¬ (false = true) by decide)] at H; exact H
                        clear H
                        have H := H1
                        clear H1
                        obtain rfl := Option.some.inj H
                        have p218 : 0 ≤ (x11_2 : Int) := of_decide_eq_true (by first | (with_reducible assumption) | assumption)
                        have q218 : x11_2 < (l0.length : Int) := of_decide_eq_true (by first | (with_reducible assumption) | assumption)
                        obtain ⟨ad218, e218, hx218_0, hx218_1, hx218_2, hx218_3⟩ := at_T36 HR0.out x11_2 p218 q218
                        cases e218
                        replace hx218_0 := (HB.out.cell (World.block_lt_of_cell? w _ hx218_0)).trans hx218_0
                        replace hx218_1 := (HB.out.cell (World.block_lt_of_cell? w _ hx218_1)).trans hx218_1
                        replace hx218_2 := (HB.out.cell (World.block_lt_of_cell? w _ hx218_2)).trans hx218_2
                        replace hx218_3 := (HB.out.cell (World.block_lt_of_cell? w _ hx218_3)).trans hx218_3
                        replace p218 := eq_true p218
                        replace q218 := eq_true q218
                        go_wp2_with (first | ((with_reducible refine gate_callee (f := 18) rfl ?_); refine goesL_ (some 78) rfl rfl Try.func18 (by kernel_rfl) rfl #[.slice Ao21 y213.length co21, .string ((rd_T36 l0 x11_2).f0)] rfl (by (try simp only [List.map_toArray, List.map_cons, List.map_nil]); first | done | rfl | (simp only [List.length_drop, List.length_take]; rfl)) ?_; (with_reducible refine (sig_Find.calls k2 _ _ y213 ((rd_T36 l0 x11_2).f0) t219 false _ ?side1 ?side2 A30.out).mono ?_); (case side1 => repeat (first | exact (Kd.R_reads' HO_8.out).2.2 | (with_reducible refine Kd.C_alloc ?_ _) | (with_reducible refine Kd.C_drewN ?_ _) | (with_reducible refine Kd.C_drew ?_))); (case side2 => exact (Kd.R_reads' HO_8.out).2.1); rintro e w' ⟨rfl, ⟨nd, rfl⟩⟩; refine ⟨_, rfl, ?_⟩) | ((with_reducible refine gate_callee (f := 19) rfl ?_); refine goesL_ (some 84) rfl rfl Try.func19 (by kernel_rfl) rfl #[.slice (some ad218) l0.length c0, .int .i64 x11_2] rfl (by (try simp only [List.map_toArray, List.map_cons, List.map_nil]); first | done | rfl | (simp only [List.length_drop, List.length_take]; rfl)) ?_; (with_reducible refine (sig_Unit.calls k2 _ _ l0 x11_2 t221 t222 _ ?side1 ?side2 A31.out).mono ?_); (case side1 => repeat (first | exact (Kd.C_below HR0.out (by repeat (first | (with_reducible first | exact HB.out | apply below_alloc | apply pw_below_drewN | apply below_drew1 | refine below_set ?_ GE200.out) | exact HB.out))) | (with_reducible refine Kd.C_alloc ?_ _) | (with_reducible refine Kd.C_drewN ?_ _) | (with_reducible refine Kd.C_drew ?_))); (case side2 => exact HC0.out); rintro e w' ⟨rfl, ⟨nd, rfl⟩⟩; refine ⟨_, rfl, ?_⟩) | ((with_reducible refine gate_callee (f := 19) rfl ?_); refine goesL_ (some 90) rfl rfl Try.func19 (by kernel_rfl) rfl #[.slice Ao21 y213.length co21, .int .i64 x11_2] rfl (by (try simp only [List.map_toArray, List.map_cons, List.map_nil]); first | done | rfl | (simp only [List.length_drop, List.length_take]; rfl)) ?_; (with_reducible refine (sig_Unit.calls k2 _ _ y213 x11_2 t223 t224 _ ?side1 ?side2 A32.out).mono ?_); (case side1 => repeat (first | exact (Kd.R_reads' HO_8.out).2.2 | (with_reducible refine Kd.C_alloc ?_ _) | (with_reducible refine Kd.C_drewN ?_ _) | (with_reducible refine Kd.C_drew ?_))); (case side2 => exact (Kd.R_reads' HO_8.out).2.1); rintro e w' ⟨rfl, ⟨nd, rfl⟩⟩; refine ⟨_, rfl, ?_⟩))
                        go_ret
                        exact ⟨by first | rfl | (simp [errW_none, errW_some] <;> rfl) | (simp [*, errW_none, errW_some] <;> rfl), by repeat (first | (with_reducible first | exact HB.out | apply below_alloc | apply pw_below_drewN | apply below_drew1 | refine below_set ?_ GE200.out) | exact HB.out)⟩
                    · rw [if_neg c29] at H
                      exact absurd H (by simp)
                  · rw [if_neg c28] at H
                    have c28b0 : decide (x11_2 < (l0.length : Int)) = false := decide_eq_false c28
                    clear c28
                    obtain rfl := Option.some.inj H
                    go_wp2
                    go_ret
                    exact ⟨by first | rfl | (simp [errW_none, errW_some] <;> rfl) | (simp [*, errW_none, errW_some] <;> rfl), by repeat (first | (with_reducible first | exact HB.out | apply below_alloc | apply pw_below_drewN | apply below_drew1 | refine below_set ?_ GE200.out) | exact HB.out)⟩
            · rw [if_neg c27] at H
              have c27b0 : (t216 == 0) = false := beq_eq_false_iff_ne.mpr c27
              have c27b1 : (t216 != 0) = true := bne_iff_ne.mpr c27
              by_cases c37 : t217 = (l0.length : Int)
              · rw [if_pos c37] at H
                have c37b0 : (t217 == (l0.length : Int)) = true := beq_iff_eq.mpr c37
                have c37b1 : (t217 != (l0.length : Int)) = false := bne_eq_false_iff_eq.mpr c37
                clear c37
                obtain rfl := Option.some.inj H
                go_wp2
                go_ret
                exact ⟨by first | rfl | (simp [errW_none, errW_some] <;> rfl) | (simp [*, errW_none, errW_some] <;> rfl), by repeat (first | (with_reducible first | exact HB.out | apply below_alloc | apply pw_below_drewN | apply below_drew1 | refine below_set ?_ GE200.out) | exact HB.out)⟩
              · rw [if_neg c37] at H
                have c37b0 : (t217 == (l0.length : Int)) = false := beq_eq_false_iff_ne.mpr c37
                have c37b1 : (t217 != (l0.length : Int)) = true := bne_iff_ne.mpr c37
                by_cases c38 : t216 = 15
                · rw [if_pos c38] at H
                  have c38b0 : (t216 == 15) = true := beq_iff_eq.mpr c38
                  have c38b1 : (t216 != 15) = false := bne_eq_false_iff_eq.mpr c38
                  clear c38
                  obtain rfl := Option.some.inj H
                  go_wp2
                  go_ret
                  exact ⟨by first | rfl | (simp [errW_none, errW_some] <;> rfl) | (simp [*, errW_none, errW_some] <;> rfl), by repeat (first | (with_reducible first | exact HB.out | apply below_alloc | apply pw_below_drewN | apply below_drew1 | refine below_set ?_ GE200.out) | exact HB.out)⟩
                · rw [if_neg c38] at H
                  have c38b0 : (t216 == 15) = false := beq_eq_false_iff_ne.mpr c38
                  have c38b1 : (t216 != 15) = true := bne_iff_ne.mpr c38
                  obtain rfl := Option.some.inj H
                  go_wp2
                  go_ret
                  exact ⟨by first | rfl | (simp [errW_none, errW_some] <;> rfl) | (simp [*, errW_none, errW_some] <;> rfl), by repeat (first | (with_reducible first | exact HB.out | apply below_alloc | apply pw_below_drewN | apply below_drew1 | refine below_set ?_ GE200.out) | exact HB.out)⟩
    · rw [if_neg c6] at H
      exact absurd H (by simp)
  · rw [if_neg c5] at H
    exact absurd H (by simp)

end Go.Proofs.Ythbpbbinpkfchaa.PSig
