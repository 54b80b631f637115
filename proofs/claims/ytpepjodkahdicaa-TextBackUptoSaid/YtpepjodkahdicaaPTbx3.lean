-- Written by programs of this session (wip/tools), cut to what the claim uses (wip/tools/prune.py).
import Derived.Test.YtpepjodkahdicaaPTbx0
-- Written by a program of this session (wip/tools/myprint.py): functions, contracts, their proofs. Lean checks it.
namespace Go.Proofs.Ytpepjodkahdicaa.PTb
open Go.RowKit Go.Proofs.YtpepjodkahdicaaW.PrintWords Go.Proofs.YtpepjodkahdicaaW.PrintLast Go.Proofs.YtpepjodkahdicaaW.PrintMore
attribute [local go_sem] max2_int min2_int max_two min_two max_three min_three max_four min_four   -- for this text's walks alone
set_option linter.unusedVariables false
set_option linter.unusedSimpArgs false
-- NOT PRINTED: function 57 (abi_NoEscape)
-- NOT PRINTED: function 50 (strings_Builder_copyCheck)
-- NOT PRINTED: function 58 (bytealg_MakeNoZero)
-- NOT PRINTED: function 51 (strings_Builder_grow)
-- NOT PRINTED: function 40 (strings_Builder_Grow)
-- NOT PRINTED: function 41 (strings_Builder_WriteString)
-- NOT PRINTED: function 42 (strings_Builder_String)
def strings_Join.f (l0 : List ByteArray) (a1 : ByteArray) : Option ByteArray :=
  if l0.length ≤ 140737488355328 then (if (Lib.join (l0.map (·.data.toList)) a1.data.toList).length ≤ 140737488355328 then some ⟨(Lib.join (l0.map (·.data.toList)) a1.data.toList).toArray⟩ else none) else none
theorem spot_none {w : World} {a : Addr} {v : Value} (h : w.cell? a = some v) : a = ⟨a.block, a.off, none⟩ ∧ a.block < w.heap.size := by
  unfold World.cell? at h
  split at h
  · rename_i c hq he
    split at h
    · cases h
    · rename_i hs
      refine ⟨?_, (Array.getElem?_eq_some_iff.1 he).1⟩
      cases a with
      | mk b o s => cases s with
        | none => rfl
        | some _ => exact absurd rfl hs
  · cases h
theorem strings_Join.calls (A0 : Option Addr) (c0 : Nat) (l0 : List ByteArray) (a1 : ByteArray) (r : ByteArray) (w : World) (hr0 : Kd.C Kd.string w A0 l0.length l0) (hc0 : l0.length ≤ c0) (h : strings_Join.f l0 a1 = some r) :
    Calls Try.prog 24 #[.slice A0 l0.length c0, .string a1] w fun e w' => e = .returned (.string r) ∧ Below w.heap.size w w' := by
  unfold strings_Join.f at h
  by_cases h1 : l0.length ≤ 140737488355328
  · rw [if_pos h1] at h
    by_cases h2 : (Lib.join (l0.map (·.data.toList)) a1.data.toList).length ≤ 140737488355328
    · rw [if_pos h2] at h
      obtain rfl := Option.some.inj h
      cases l0 with
      | nil =>
        refine (Go.Proofs.Try.strings_Join_none A0 c0 a1 w).mono ?_
        rintro e w' ⟨rfl, rfl⟩
        exact ⟨rfl, Below.refl _ _⟩
      | cons x t =>
        obtain ⟨ad, hA, hx⟩ := Kd.at_string hr0 0 (by omega) (by simp)
        subst hA
        obtain ⟨e1, e2⟩ := spot_none (a := ad) (by simpa [Addr.add] using hx)
        rw [e1]
        refine Go.Proofs.Try.strings_Join ad.block ad.off c0 (x :: t) a1 w ?_ e2 h1 hc0 h2
        intro j y hj
        have hjl : j < (x :: t).length := (List.getElem?_eq_some_iff.1 hj).1
        obtain ⟨ad', hA', hy⟩ := Kd.at_string hr0 (j : Int) (by omega) (by omega)
        obtain rfl := Option.some.inj hA'
        rw [Int.toNat_natCast] at hy
        have hrd : rdOf ByteArray.empty (x :: t) (j : Int) = y := by
          unfold rdOf
          rw [Int.toNat_natCast, List.getD_eq_getElem?_getD, hj]
          rfl
        rw [hrd] at hy
        rw [e1] at hy
        unfold Addr.add at hy
        split at hy
        · rename_i hz
          rw [hz]
          exact hy
        · exact hy
    · rw [if_neg h2] at h
      cases h
  · rw [if_neg h1] at h
    cases h

mutual
def text_Show.j0 : Nat → List (S62) → Bool → ByteArray → Int → List (S27) → Option (ByteArray)
  | 0, _, _, _, _, _ => none
  | k + 1, x0, x22, x102000, x102001, x102002 => if x22 = true then (some (⟨#[]⟩ : ByteArray)) else (text_Show.l0 k x0 ([] : List ByteArray) x102002 (x102002.length : Int) 0 x102000 x102001 x102002)
def text_Show.l0 : Nat → List (S62) → List ByteArray → List (S27) → Int → Int → ByteArray → Int → List (S27) → Option (ByteArray)
  | 0, _, _, _, _, _, _, _, _ => none
  | k + 1, x0, x5, x24, x25, x26, x102000, x102001, x102002 => if x26 < x25 then (if 0 ≤ x26 then (if x26 < (x24.length : Int) then ((text_Show.f k x0 ((rd_T27 x24 x26).f0) ((rd_T27 x24 x26).f1) ((rd_T27 x24 x26).f2)).bind fun t104 => (if x5.length < 8796093022208 then (text_Show.l0 k x0 (x5 ++ [t104]) x24 x25 (wrap64 (x26 + 1)) x102000 x102001 x102002) else (none))) else (none)) else (none)) else (if (x5.length : Int) = 0 then (if 0 ≤ x102001 then (if x102001 < (x0.length : Int) then (some ((rd_T62 x0 x102001).f0)) else (none)) else (none)) else (if 0 ≤ x102001 then (if x102001 < (x0.length : Int) then (if ((rd_T62 x0 x102001).f0).size + 1 ≤ 9223372036854775807 then ((strings_Join.f x5 (⟨#[44]⟩ : ByteArray)).bind fun t110 => (if (((rd_T62 x0 x102001).f0) ++ (⟨#[40]⟩ : ByteArray)).size + t110.size ≤ 9223372036854775807 then (if ((((rd_T62 x0 x102001).f0) ++ (⟨#[40]⟩ : ByteArray)) ++ t110).size + 1 ≤ 9223372036854775807 then (some (((((rd_T62 x0 x102001).f0) ++ (⟨#[40]⟩ : ByteArray)) ++ t110) ++ (⟨#[41]⟩ : ByteArray))) else (none)) else (none))) else (none)) else (none)) else (none)))
def text_Show.f : Nat → List (S62) → ByteArray → Int → List (S27) → Option (ByteArray)
  | 0, _, _, _, _ => none
  | k + 1, l0, a1_0, a1_1, l1_2 => if a1_0.toList = ([] : List UInt8) then (if a1_1 < 0 then (text_Show.j0 k l0 true a1_0 a1_1 l1_2) else (text_Show.j0 k l0 (decide (a1_1 ≥ (l0.length : Int))) a1_0 a1_1 l1_2)) else (some a1_0)
end
theorem text_Show.mono_l : ∀ k, (∀ y0 y1 y2 y3, LeO (text_Show.f k y0 y1 y2 y3) (text_Show.f (k + 1) y0 y1 y2 y3)) ∧ (∀ y0 y1 y2 y3 y4, LeO (text_Show.j0 k y0 y1 y2 y3 y4) (text_Show.j0 (k + 1) y0 y1 y2 y3 y4)) ∧ (∀ y0 y1 y2 y3 y4 y5 y6 y7, LeO (text_Show.l0 k y0 y1 y2 y3 y4 y5 y6 y7) (text_Show.l0 (k + 1) y0 y1 y2 y3 y4 y5 y6 y7))
  | 0 => ⟨fun _ _ _ _ r h => by simp [text_Show.f] at h, fun _ _ _ _ _ r h => by simp [text_Show.j0] at h, fun _ _ _ _ _ _ _ _ r h => by simp [text_Show.l0] at h⟩
  | k + 1 => by
    obtain ⟨ih0, ih1, ih2⟩ := text_Show.mono_l k
    refine ⟨?_, ?_, ?_⟩
    · intro y0 y1 y2 y3
      unfold text_Show.f
      repeat' first
      | (with_reducible exact ih0 _ _ _ _)
      | (with_reducible exact ih1 _ _ _ _ _)
      | (with_reducible exact ih2 _ _ _ _ _ _ _ _)
      | (with_reducible exact LeO.refl _)
      | (with_reducible exact LeO.none _)
      | (with_reducible refine LeO.ite ?_ ?_)
      | (with_reducible refine LeO.bind ?_ (fun _ => ?_))
      | exact ih0 _ _ _ _
      | exact ih1 _ _ _ _ _
      | exact ih2 _ _ _ _ _ _ _ _
      | exact LeO.none _
      | refine LeO.ite ?_ ?_
      | refine LeO.bind ?_ (fun _ => ?_)
    · intro y0 y1 y2 y3 y4
      unfold text_Show.j0
      repeat' first
      | (with_reducible exact ih0 _ _ _ _)
      | (with_reducible exact ih1 _ _ _ _ _)
      | (with_reducible exact ih2 _ _ _ _ _ _ _ _)
      | (with_reducible exact LeO.refl _)
      | (with_reducible exact LeO.none _)
      | (with_reducible refine LeO.ite ?_ ?_)
      | (with_reducible refine LeO.bind ?_ (fun _ => ?_))
      | exact ih0 _ _ _ _
      | exact ih1 _ _ _ _ _
      | exact ih2 _ _ _ _ _ _ _ _
      | exact LeO.none _
      | refine LeO.ite ?_ ?_
      | refine LeO.bind ?_ (fun _ => ?_)
    · intro y0 y1 y2 y3 y4 y5 y6 y7
      unfold text_Show.l0
      repeat' first
      | (with_reducible exact ih0 _ _ _ _)
      | (with_reducible exact ih1 _ _ _ _ _)
      | (with_reducible exact ih2 _ _ _ _ _ _ _ _)
      | (with_reducible exact LeO.refl _)
      | (with_reducible exact LeO.none _)
      | (with_reducible refine LeO.ite ?_ ?_)
      | (with_reducible refine LeO.bind ?_ (fun _ => ?_))
      | exact ih0 _ _ _ _
      | exact ih1 _ _ _ _ _
      | exact ih2 _ _ _ _ _ _ _ _
      | exact LeO.none _
      | refine LeO.ite ?_ ?_
      | refine LeO.bind ?_ (fun _ => ?_)
theorem text_Show.mono : ∀ a0 a1 a2 a3 k, LeO (text_Show.f k a0 a1 a2 a3) (text_Show.f (k + 1) a0 a1 a2 a3) := by
  intro a0 a1 a2 a3 k
  obtain ⟨ih0, ih1, ih2⟩ := text_Show.mono_l k
  exact ih0 a0 a1 a2 a3
def text_Show.T13 : Bool × List (List Nat × List Nat) := (true, [([], []), ([], []), ([1], [1]), ([0, 2], [0, 2]), ([3], [3]), ([4], [4]), ([5], [5]), ([], []), ([7], [7]), ([6, 8], [6, 8]), ([9], [9]), ([10, 8, 0, 1, 2, 3, 4, 5, 6, 7, 8, 9, 10], [10])])
def text_Show.B13 : List Nat := [0, 0, 2, 7, 15, 31, 63, 0, 128, 511, 1023, 2047]
theorem text_Show.tab13 : rtab .any (opsOf Try.f9 13) = text_Show.T13 := by kernel_rfl
theorem text_Show.bits13 : waitsOk text_Show.T13.2 text_Show.B13 = true := by kernel_rfl
set_option maxHeartbeats 8000000 in
set_option maxRecDepth 100000 in
theorem text_Show.calls (k : Nat) : ∀ (A0 : Option Addr) (c0 : Nat) (l0 : List (S62)) (a1_0 : ByteArray) (a1_1 : Int) (A1_2 : Option Addr) (c1_2 : Nat) (l1_2 : List (S27)) (r : ByteArray) (w : World) (hr0 : Kd.C k62 w A0 l0.length l0) (hc0 : l0.length ≤ c0) (hr1_2 : Kd.C k27 w A1_2 l1_2.length l1_2) (hc1_2 : l1_2.length ≤ c1_2) (h : text_Show.f k l0 a1_0 a1_1 l1_2 = some r),
    Calls Try.prog 9 #[.slice A0 l0.length c0, .agg #[.string a1_0, .int .i64 a1_1, .slice A1_2 l1_2.length c1_2]] w fun e w' => e = .returned (.string r) ∧ Below w.heap.size w w' := by
  induction k using Nat.strongRecOn with
  | _ k ih =>
  intro A0 c0 l0 a1_0 a1_1 A1_2 c1_2 l1_2 r w hr0 hc0 hr1_2 hc1_2 h
  cases k with
  | zero => exact absurd h (by simp [text_Show.f])
  | succ k =>
  simp only [text_Show.f] at h
  have hu27 := Try.underlying27
  have HR0 := Aside0.mk hr0
  have HC0 := Aside0.mk hc0
  clear hr0 hc0
  have HR1_2 := Aside0.mk hr1_2
  have HC1_2 := Aside0.mk hc1_2
  clear hr1_2 hc1_2
  have HB := Aside0.mk (Below.refl w.heap.size w)
  have H : (if a1_0.toList = ([] : List UInt8) then (if a1_1 < 0 then (text_Show.j0 k l0 true a1_0 a1_1 l1_2) else (text_Show.j0 k l0 (decide (a1_1 ≥ (l0.length : Int))) a1_0 a1_1 l1_2)) else (some a1_0)) = some r := h
  clear h
  by_cases c3 : a1_0.toList = ([] : List UInt8)
  · rw [if_pos c3] at H
    have c3b0 : (a1_0.toList == ([] : List UInt8)) = true := beq_iff_eq.mpr c3
    have c3b1 : (a1_0.toList != ([] : List UInt8)) = false := bne_eq_false_iff_eq.mpr c3
    clear c3
    have HC4 := Aside0.mk H
    clear H
    go_enter Try.func9, Try.ntmps9
    go_upto_region 3 with (first | ((with_reducible refine gate_dst (N := 3) rfl ?_); (try (refine gate_guard (by rfl) ?_; dsimp only)); refine box_event ?hg (N := 3) ?hd (cs := #[.string a1_0, .int .i64 a1_1, .slice A1_2 l1_2.length c1_2]) (t := 27) ?hr ?_; (case hd => rfl); (case hg => rfl); (case hr => first | (go_simp; done) | (go_simp; rfl)); intro gb101 hg w5 hbox hb; have n0_ := Aside0.mk (below_step (by repeat (first | (with_reducible first | exact HB.out | apply below_alloc | apply pw_below_drewN | apply below_drew1) | exact HB.out)) hb); have n1_ := Aside0.mk (hbox); have n2_ := Aside0.mk ((by rw [hg]; exact (below_size (by repeat (first | (with_reducible first | exact HB.out | apply below_alloc | apply pw_below_drewN | apply below_drew1) | exact HB.out))) : w.heap.size ≤ gb101)); have n3_ := Aside0.mk ((by rw [hg]; exact (below_size (by repeat (first | (with_reducible first | exact HB.out | apply below_alloc | apply pw_below_drewN | apply below_drew1) | exact HB.out))) : w.heap.size ≤ gb101)); clear HB; have HB := n0_; have BK101 := n1_; have GW101 := n2_; have GE101 := n3_; clear n0_ n1_ n2_ n3_; clear hb hbox hg; have hcz6_0 : w5.cell? ⟨gb101, 0, none⟩ = some (.string a1_0) := (blk_cell BK101.out 0).trans rfl; have hcz6_1 : w5.cell? ⟨gb101, 1, none⟩ = some (.int .i64 a1_1) := (blk_cell BK101.out 1).trans rfl; have hcz6_2 : w5.cell? ⟨gb101, 2, none⟩ = some (.slice A1_2 l1_2.length c1_2) := (blk_cell BK101.out 2).trans rfl; have hfz6_0 := blk_frozen BK101.out 0; have hfz6_1 := blk_frozen BK101.out 1; have hfz6_2 := blk_frozen BK101.out 2))
    (try simp only [Act.put, List.setIfInBounds_toArray, List.set_cons_zero, List.set_cons_succ])
    go_cut [22] (fun v22 wc => ∃ (kq : Nat) (x22_3 : Bool), v22 = .bool x22_3 ∧ Aside0 (text_Show.j0 kq l0 x22_3 a1_0 a1_1 l1_2 = some r) ∧ Aside0 (kq ≤ k) ∧ Aside0 (wc.heap[gb101]? = some (.cells #[.string a1_0, .int .i64 a1_1, (.slice A1_2 l1_2.length c1_2)] 27 (0, 0))) ∧ Aside0 (Below w.heap.size w wc))
    case first =>
      have H := HC4.out
      clear HC4
      by_cases c7 : a1_1 < 0
      · rw [if_pos c7] at H
        have c7b0 : decide (a1_1 < 0) = true := decide_eq_true c7
        clear c7
        (first | rw [c7b0] | (simp only [i64_w, i32_w]; rw [c7b0]) | skip)
        have H' := Aside0.mk H
        clear H
        have hcz8_0 : w5.cell? ⟨gb101, 0, none⟩ = some (.string a1_0) := (blk_cell BK101.out 0).trans rfl
        have hcz8_1 : w5.cell? ⟨gb101, 1, none⟩ = some (.int .i64 a1_1) := (blk_cell BK101.out 1).trans rfl
        have hcz8_2 : w5.cell? ⟨gb101, 2, none⟩ = some (.slice A1_2 l1_2.length c1_2) := (blk_cell BK101.out 2).trans rfl
        have hfz8_0 := blk_frozen BK101.out 0
        have hfz8_1 := blk_frozen BK101.out 1
        have hfz8_2 := blk_frozen BK101.out 2
        go_wp2
        go_meet
        case rel => exact ⟨_, (true), (by first | rfl | (simp; done) | (simp [*]; done)), H', ⟨by first | omega | exact Nat.le_refl _⟩, ⟨by (with_reducible repeat (first | refine blk_drewN ?_ _ | refine blk_drew ?_ | refine blk_alloc ?_ _)); exact BK101.out⟩, ⟨by repeat (first | (with_reducible first | exact HB.out | apply below_alloc | apply pw_below_drewN | apply below_drew1 | refine below_set ?_ GE101.out) | exact HB.out)⟩⟩
      · rw [if_neg c7] at H
        have c7b0 : decide (a1_1 < 0) = false := decide_eq_false c7
        clear c7
        (first | rw [c7b0] | (simp only [i64_w, i32_w]; rw [c7b0]) | skip)
        have H' := Aside0.mk H
        clear H
        have hcz9_0 : w5.cell? ⟨gb101, 0, none⟩ = some (.string a1_0) := (blk_cell BK101.out 0).trans rfl
        have hcz9_1 : w5.cell? ⟨gb101, 1, none⟩ = some (.int .i64 a1_1) := (blk_cell BK101.out 1).trans rfl
        have hcz9_2 : w5.cell? ⟨gb101, 2, none⟩ = some (.slice A1_2 l1_2.length c1_2) := (blk_cell BK101.out 2).trans rfl
        have hfz9_0 := blk_frozen BK101.out 0
        have hfz9_1 := blk_frozen BK101.out 1
        have hfz9_2 := blk_frozen BK101.out 2
        go_wp2
        go_meet
        case rel => exact ⟨_, (decide (a1_1 ≥ (l0.length : Int))), (by first | rfl | (simp; done) | (simp [*]; done)), H', ⟨by first | omega | exact Nat.le_refl _⟩, ⟨by (with_reducible repeat (first | refine blk_drewN ?_ _ | refine blk_drew ?_ | refine blk_alloc ?_ _)); exact BK101.out⟩, ⟨by repeat (first | (with_reducible first | exact HB.out | apply below_alloc | apply pw_below_drewN | apply below_drew1 | refine below_set ?_ GE101.out) | exact HB.out)⟩⟩
    case rest =>
      clear HC4
      obtain ⟨kq, x22_3, rfl, HA, HJ3, BK101, HB⟩ := hcut
      cases kq with
      | zero => exact absurd HA.out (by simp [text_Show.j0])
      | succ kj3 =>
        have H := HA.out
        clear HA
        simp only [text_Show.j0] at H
        by_cases c10 : x22_3 = true
        · subst c10
          have H1 : (some (⟨#[]⟩ : ByteArray)) = some r := by rw [if_pos rfl] at H; exact H
          clear H
          have H := H1
          clear H1
          obtain rfl := Option.some.inj H
          go_wp2
          go_ret
          exact ⟨by first | rfl | (simp [errW_none, errW_some] <;> rfl) | (simp [*, errW_none, errW_some] <;> rfl), by repeat (first | (with_reducible first | exact HB.out | apply below_alloc | apply pw_below_drewN | apply below_drew1 | refine below_set ?_ GE101.out) | exact HB.out)⟩
        · replace c10 := Bool.eq_false_iff.mpr c10
          subst c10
          have H1 : (text_Show.l0 kj3 l0 ([] : List ByteArray) l1_2 (l1_2.length : Int) 0 a1_0 a1_1 l1_2) = some r := by rw [if_neg (show ¬ (false = true) by decide)] at H; exact H
          clear H
          have H := H1
          clear H1
          have H' := Aside0.mk H
          clear H
          have hcz11_0 : wc.cell? ⟨gb101, 0, none⟩ = some (.string a1_0) := (blk_cell BK101.out 0).trans rfl
          have hcz11_1 : wc.cell? ⟨gb101, 1, none⟩ = some (.int .i64 a1_1) := (blk_cell BK101.out 1).trans rfl
          have hcz11_2 : wc.cell? ⟨gb101, 2, none⟩ = some (.slice A1_2 l1_2.length c1_2) := (blk_cell BK101.out 2).trans rfl
          have hfz11_0 := blk_frozen BK101.out 0
          have hfz11_1 := blk_frozen BK101.out 1
          have hfz11_2 := blk_frozen BK101.out 2
          go_wp2
          go_loopg [5, 26] kj3 (fun kq v5 v26 w' => ∃ (x5_2 : List ByteArray) (x26_2 : Int), v26 = .int .i64 x26_2 ∧ Aside0 (text_Show.l0 kq l0 x5_2 l1_2 (l1_2.length : Int) x26_2 a1_0 a1_1 l1_2 = some r) ∧ Aside0 (kq ≤ kj3) ∧ Aside0 (Kd.R Kd.string 9 w' w.heap.size (fun _ => True) v5 x5_2) ∧ Aside0 (w'.heap[gb101]? = some (.cells #[.string a1_0, .int .i64 a1_1, (.slice A1_2 l1_2.length c1_2)] 27 (0, 0))) ∧ Aside0 (Below w.heap.size w w'))
          case atStart => exact ⟨(([] : List ByteArray)), (0), (by first | rfl | (simp; done) | (simp [*]; done)), H', ⟨Nat.le_refl _⟩, ⟨by first | exact Kd.R_nil _ _ _ _ _ | exact Kd.N_nil _ _ _ _ _ | exact Kd.V_nil _ _ _ _ _ | exact Kd.Q_nil _ _ _ _ _ | exact Kd.S_nil _ _ _ _ _⟩, ⟨by (with_reducible repeat (first | refine blk_drewN ?_ _ | refine blk_drew ?_ | refine blk_alloc ?_ _)); exact BK101.out⟩, ⟨by repeat (first | (with_reducible first | exact HB.out | apply below_alloc | apply pw_below_drewN | apply below_drew1 | refine below_set ?_ GE101.out) | exact HB.out)⟩⟩
          case round =>
            clear H'
            obtain ⟨x5_2, x26_2, rfl, HA, HK2, HO_5, BK101, HB⟩ := hrel
            cases gk with
            | zero => exact absurd HA.out (by simp [text_Show.l0])
            | succ k2 =>
              have H := HA.out
              clear HA
              simp only [text_Show.l0] at H
              by_cases c12 : x26_2 < (l1_2.length : Int)
              · rw [if_pos c12] at H
                have c12b0 : decide (x26_2 < (l1_2.length : Int)) = true := decide_eq_true c12
                clear c12
                by_cases c13 : 0 ≤ x26_2
                · rw [if_pos c13] at H
                  have c13b0 : decide (0 ≤ x26_2) = true := decide_eq_true c13
                  clear c13
                  by_cases c14 : x26_2 < (l1_2.length : Int)
                  · rw [if_pos c14] at H
                    have c14b0 : decide (x26_2 < (l1_2.length : Int)) = true := decide_eq_true c14
                    clear c14
                    replace H := Option.bind_eq_some_iff.mp H
                    obtain ⟨t104, A150, H⟩ := H
                    replace H : (if x5_2.length < 8796093022208 then (text_Show.l0 k2 l0 (x5_2 ++ [t104]) l1_2 (l1_2.length : Int) (wrap64 (x26_2 + 1)) a1_0 a1_1 l1_2) else (none)) = some r := H
                    have A15 := Aside0.mk A150
                    clear A150
                    by_cases c16 : x5_2.length < 8796093022208
                    · rw [if_pos c16] at H
                      have LMc16 := Aside0.mk c16
                      clear c16
                      obtain ⟨y105, hy105⟩ : ∃ y_ : List ByteArray, y_ = (x5_2 ++ [t104]) := ⟨_, rfl⟩
                      replace H : (text_Show.l0 k2 l0 y105 l1_2 (l1_2.length : Int) (wrap64 (x26_2 + 1)) a1_0 a1_1 l1_2) = some r := by first | (rw [hy105]; with_reducible exact H) | (have H2_ := (Option.bind_some _ _).symm.trans H; rw [hy105]; with_reducible exact H2_) | (have H2_ := (Option.bind_some _ _).symm.trans H; with_reducible exact H2_) | with_reducible exact H | (rw [hy105]; exact H) | exact H
                      have Ny105 := Aside0.mk hy105
                      clear hy105
                      have H' := Aside0.mk H
                      clear H
                      have p102 : 0 ≤ (x26_2 : Int) := of_decide_eq_true (by first | (with_reducible assumption) | assumption)
                      have q102 : x26_2 < (l1_2.length : Int) := of_decide_eq_true (by first | (with_reducible assumption) | assumption)
                      obtain ⟨ad102, A102_2, c102_2, e102, hx102_0, hx102_1, hx102_2, hl102_2, hi102_2⟩ := at_T27 HR1_2.out x26_2 p102 q102
                      cases e102
                      replace hx102_0 := (HB.out.cell (World.block_lt_of_cell? w _ hx102_0)).trans hx102_0
                      replace hx102_1 := (HB.out.cell (World.block_lt_of_cell? w _ hx102_1)).trans hx102_1
                      replace hx102_2 := (HB.out.cell (World.block_lt_of_cell? w _ hx102_2)).trans hx102_2
                      have HR102_2 := Aside0.mk hi102_2
                      have HC102_2 := Aside0.mk hl102_2
                      clear hi102_2 hl102_2
                      replace p102 := eq_true p102
                      replace q102 := eq_true q102
                      go_wp2_with (first | ((with_reducible refine gate_dst (N := 7) rfl ?_); (try (refine gate_guard (by rfl) ?_; dsimp only)); refine box_event ?hg (N := 7) ?hd (cs := #[.string (⟨#[]⟩ : ByteArray), .int .i64 0, .slice none 0 0]) (t := 27) ?hr ?_; (case hd => rfl); (case hg => rfl); (case hr => first | (go_simp; done) | (go_simp; rfl)); intro gb103 hg w17 hbox hb; have n0_ := Aside0.mk (Kd.R_below (by (with_reducible repeat (first | apply Kd.R_alloc | apply Kd.R_drewN | apply Kd.R_drew)); exact HO_5.out) hb); have n1_ := Aside0.mk (blk_below (g := gb101) (o := .cells #[.string a1_0, .int .i64 a1_1, .slice (some ad102) l1_2.length c1_2] 27 (0, 0)) (by (with_reducible repeat (first | refine blk_drewN ?_ _ | refine blk_drew ?_ | refine blk_alloc ?_ _)); exact BK101.out) hb); have n2_ := Aside0.mk (below_step (by repeat (first | (with_reducible first | exact HB.out | apply below_alloc | apply pw_below_drewN | apply below_drew1 | refine below_set ?_ GE101.out) | exact HB.out)) hb); have n3_ := Aside0.mk (hbox); have n4_ := Aside0.mk ((by rw [hg]; exact (below_size (by repeat (first | (with_reducible first | exact HB.out | apply below_alloc | apply pw_below_drewN | apply below_drew1 | refine below_set ?_ GE101.out) | exact HB.out))) : w.heap.size ≤ gb103)); have n5_ := Aside0.mk ((by rw [hg]; exact (below_size (by repeat (first | (with_reducible first | exact HB.out | apply below_alloc | apply pw_below_drewN | apply below_drew1 | refine below_set ?_ GE101.out) | exact HB.out))) : w.heap.size ≤ gb103)); have n6_ := Aside0.mk ((by rw [hg]; exact Nat.ne_of_lt (blk_lt (g := gb101) (o := .cells #[.string a1_0, .int .i64 a1_1, .slice (some ad102) l1_2.length c1_2] 27 (0, 0)) (by (with_reducible repeat (first | refine blk_drewN ?_ _ | refine blk_drew ?_ | refine blk_alloc ?_ _)); exact BK101.out)) : gb101 ≠ gb103)); have n7_ := Aside0.mk ((by rw [hg]; exact Nat.ne_of_gt (blk_lt (g := gb101) (o := .cells #[.string a1_0, .int .i64 a1_1, .slice (some ad102) l1_2.length c1_2] 27 (0, 0)) (by (with_reducible repeat (first | refine blk_drewN ?_ _ | refine blk_drew ?_ | refine blk_alloc ?_ _)); exact BK101.out)) : gb103 ≠ gb101)); clear HO_5; clear BK101; clear HB; have HO_5 := n0_; have BK101 := n1_; have HB := n2_; have BK103 := n3_; have GW103 := n4_; have GE103 := n5_; have NB101_103 := n6_; have NB103_101 := n7_; clear n0_ n1_ n2_ n3_ n4_ n5_ n6_ n7_; clear hb hbox hg; have hnb18 := NB103_101.out; have hnc18 := NB101_103.out; have hcz19_0 : w17.cell? ⟨gb103, 0, none⟩ = some (.string (⟨#[]⟩ : ByteArray)) := (blk_cell BK103.out 0).trans rfl; have hcz19_1 : w17.cell? ⟨gb103, 1, none⟩ = some (.int .i64 0) := (blk_cell BK103.out 1).trans rfl; have hcz19_2 : w17.cell? ⟨gb103, 2, none⟩ = some (.slice none 0 0) := (blk_cell BK103.out 2).trans rfl; have hfz19_0 := blk_frozen BK103.out 0; have hfz19_1 := blk_frozen BK103.out 1; have hfz19_2 := blk_frozen BK103.out 2) | ((with_reducible refine gate_callee (f := 9) rfl ?_); refine goesL_ (some 33) rfl rfl Try.func9 (by kernel_rfl) rfl #[.slice A0 l0.length c0, .agg #[.string ((rd_T27 l1_2 x26_2).f0), .int .i64 ((rd_T27 l1_2 x26_2).f1), .slice A102_2 ((rd_T27 l1_2 x26_2).f2).length c102_2]] rfl (by (try simp only [List.map_toArray, List.map_cons, List.map_nil]); first | done | rfl | (simp only [List.length_drop, List.length_take]; rfl)) ?_; (with_reducible refine (ih k2 (by have := HJ3.out; have := HK2.out; omega) _ _ l0 ((rd_T27 l1_2 x26_2).f0) ((rd_T27 l1_2 x26_2).f1) _ _ ((rd_T27 l1_2 x26_2).f2) t104 _ ?side1 ?side2 ?side3 ?side4 A15.out).mono ?_); (case side1 => exact Kd.C_below HR0.out (by repeat (first | (with_reducible first | exact HB.out | apply below_alloc | apply pw_below_drewN | apply below_drew1 | refine below_set ?_ GE101.out | refine below_set ?_ GE103.out) | exact HB.out))); (case side2 => exact HC0.out); (case side3 => exact Kd.C_below HR102_2.out (by repeat (first | (with_reducible first | exact HB.out | apply below_alloc | apply pw_below_drewN | apply below_drew1 | refine below_set ?_ GE101.out | refine below_set ?_ GE103.out) | exact HB.out))); (case side4 => exact HC102_2.out); rintro e w20 ⟨rfl, hb⟩; refine ⟨_, rfl, ?_⟩; have n0_ := Aside0.mk (Kd.R_below (by (with_reducible repeat (first | apply Kd.R_alloc | apply Kd.R_drewN | apply Kd.R_drew)); exact (Kd.R_mono (Kd.R_far (p := ⟨gb103, 2, none⟩) (Kd.R_far (p := ⟨gb103, 1, none⟩) (Kd.R_far (p := ⟨gb103, 0, none⟩) (Kd.R_types HO_5.out BK103.out (by decide)) (fun _ hk => hk.2) (.string ((rd_T27 l1_2 x26_2).f0))) (fun _ hk => hk.2) (.int .i64 ((rd_T27 l1_2 x26_2).f1))) (fun _ hk => hk.2) (.slice A102_2 ((rd_T27 l1_2 x26_2).f2).length c102_2)) (fun _ h_ => h_.1))) hb); have n1_ := Aside0.mk (blk_below (g := gb101) (o := .cells #[.string a1_0, .int .i64 a1_1, .slice (some ad102) l1_2.length c1_2] 27 (0, 0)) (by (with_reducible repeat (first | refine blk_drewN ?_ _ | refine blk_drew ?_ | refine blk_alloc ?_ _)); refine blk_far ?_ NB101_103.out _; (with_reducible repeat (first | refine blk_drewN ?_ _ | refine blk_drew ?_ | refine blk_alloc ?_ _)); refine blk_far ?_ NB101_103.out _; (with_reducible repeat (first | refine blk_drewN ?_ _ | refine blk_drew ?_ | refine blk_alloc ?_ _)); refine blk_far ?_ NB101_103.out _; (with_reducible repeat (first | refine blk_drewN ?_ _ | refine blk_drew ?_ | refine blk_alloc ?_ _)); exact BK101.out) hb); have n2_ := Aside0.mk (blk_below (g := gb103) (o := .cells #[.string ((rd_T27 l1_2 x26_2).f0), .int .i64 ((rd_T27 l1_2 x26_2).f1), .slice A102_2 ((rd_T27 l1_2 x26_2).f2).length c102_2] 27 (0, 0)) (by (with_reducible repeat (first | refine blk_drewN ?_ _ | refine blk_drew ?_ | refine blk_alloc ?_ _)); refine blk_put (cs := #[.string ((rd_T27 l1_2 x26_2).f0), .int .i64 ((rd_T27 l1_2 x26_2).f1), .slice none 0 0]) ?_ 2 _ rfl; (with_reducible repeat (first | refine blk_drewN ?_ _ | refine blk_drew ?_ | refine blk_alloc ?_ _)); refine blk_put (cs := #[.string ((rd_T27 l1_2 x26_2).f0), .int .i64 0, .slice none 0 0]) ?_ 1 _ rfl; (with_reducible repeat (first | refine blk_drewN ?_ _ | refine blk_drew ?_ | refine blk_alloc ?_ _)); refine blk_put (cs := #[.string (⟨#[]⟩ : ByteArray), .int .i64 0, .slice none 0 0]) ?_ 0 _ rfl; (with_reducible repeat (first | refine blk_drewN ?_ _ | refine blk_drew ?_ | refine blk_alloc ?_ _)); exact BK103.out) hb); have n3_ := Aside0.mk (below_step (by repeat (first | (with_reducible first | exact HB.out | apply below_alloc | apply pw_below_drewN | apply below_drew1 | refine below_set ?_ GE101.out | refine below_set ?_ GE103.out) | exact HB.out)) hb); clear HO_5; clear BK101; clear BK103; clear HB; have HO_5 := n0_; have BK101 := n1_; have BK103 := n2_; have HB := n3_; clear n0_ n1_ n2_ n3_; (try clear hb); (try clear hb2); (try clear hk); (try clear hi)) | ((with_reducible refine gate_builtin (b := .append) (xs := #[.tmp 30, .tmp 34]) rfl ?_); (try (refine gate_guard (by rfl) ?_; dsimp only)); at_builtin; refine Kd.R_append Kd.string (w0 := w) w.heap.size rfl (.tmp 30) (.tmp 34) 59 9 (.string ⟨#[]⟩) 16 rfl Try.underlying59 info9 rfl (by decide) (by omega) u5 x5_2 t104 [.string t104] (fun _ => True) (fun _ => False) rfl rfl ?aP (fun _ hk => hk.elim) ?aF ?aO ?aB ?aS ?aL ?_; (case aP => exact rfl); (case aB => exact (by repeat (first | (with_reducible first | exact HB.out | apply below_alloc | apply pw_below_drewN | apply below_drew1 | refine below_set ?_ GE101.out | refine below_set ?_ GE103.out) | exact HB.out))); (case aF => exact (fun _ _ => trivial)); (case aO => exact (by (with_reducible repeat (first | apply Kd.R_alloc | apply Kd.R_drewN | apply Kd.R_drew)); exact HO_5.out)); (case aS => exact (below_size (by repeat (first | (with_reducible first | exact HB.out | apply below_alloc | apply pw_below_drewN | apply below_drew1 | refine below_set ?_ GE101.out | refine below_set ?_ GE103.out) | exact HB.out)))); (case aL => have := LMc16.out; omega); intro v106 w21 ho hb hg hat; rw [← Ny105.out] at ho; have n0_ := Aside0.mk (blk_grown (g := gb101) (o := .cells #[.string a1_0, .int .i64 a1_1, .slice (some ad102) l1_2.length c1_2] 27 (0, 0)) (by (with_reducible repeat (first | refine blk_drewN ?_ _ | refine blk_drew ?_ | refine blk_alloc ?_ _)); exact BK101.out) hg (Kd.R_ne HO_5.out BK101.out (by decide))); have n1_ := Aside0.mk (blk_grown (g := gb103) (o := .cells #[.string ((rd_T27 l1_2 x26_2).f0), .int .i64 ((rd_T27 l1_2 x26_2).f1), .slice A102_2 ((rd_T27 l1_2 x26_2).f2).length c102_2] 27 (0, 0)) (by (with_reducible repeat (first | refine blk_drewN ?_ _ | refine blk_drew ?_ | refine blk_alloc ?_ _)); exact BK103.out) hg (Kd.R_ne HO_5.out BK103.out (by decide))); have n2_ := Aside0.mk (hb); have n3_ := Aside0.mk (ho); clear BK101; clear BK103; clear HB; clear HO_5; have BK101 := n0_; have BK103 := n1_; have HB := n2_; have HO107 := n3_; clear n0_ n1_ n2_ n3_; clear ho hb hg hat))
                      go_roundg k2
                      case measure => have := HJ3.out; have := HK2.out; omega
                      case rel => exact ⟨(y105), (wrap64 (x26_2 + 1)), (by first | rfl | (simp; done) | (simp [*]; done)), H', ⟨by have := HJ3.out; have := HK2.out; omega⟩, ⟨by (with_reducible repeat (first | apply Kd.R_alloc | apply Kd.R_drewN | apply Kd.R_drew)); exact HO107.out⟩, ⟨by (with_reducible repeat (first | refine blk_drewN ?_ _ | refine blk_drew ?_ | refine blk_alloc ?_ _)); exact BK101.out⟩, ⟨by repeat (first | (with_reducible first | exact HB.out | apply below_alloc | apply pw_below_drewN | apply below_drew1 | refine below_set ?_ GE101.out | refine below_set ?_ GE103.out) | exact HB.out)⟩⟩
                    · rw [if_neg c16] at H
                      exact absurd H (by simp)
                  · rw [if_neg c14] at H
                    exact absurd H (by simp)
                · rw [if_neg c13] at H
                  exact absurd H (by simp)
              · rw [if_neg c12] at H
                have c12b0 : decide (x26_2 < (l1_2.length : Int)) = false := decide_eq_false c12
                clear c12
                by_cases c22 : (x5_2.length : Int) = 0
                · rw [if_pos c22] at H
                  have c22b0 : ((x5_2.length : Int) == 0) = true := beq_iff_eq.mpr c22
                  have c22b1 : ((x5_2.length : Int) != 0) = false := bne_eq_false_iff_eq.mpr c22
                  clear c22
                  by_cases c23 : 0 ≤ a1_1
                  · rw [if_pos c23] at H
                    have c23b0 : decide (0 ≤ a1_1) = true := decide_eq_true c23
                    clear c23
                    by_cases c24 : a1_1 < (l0.length : Int)
                    · rw [if_pos c24] at H
                      have c24b0 : decide (a1_1 < (l0.length : Int)) = true := decide_eq_true c24
                      clear c24
                      obtain rfl := Option.some.inj H
                      obtain ⟨Ao25, co25, eo25⟩ := Kd.R_slice HO_5.out
                      subst eo25
                      have hcz26_0 : wr.cell? ⟨gb101, 0, none⟩ = some (.string a1_0) := (blk_cell BK101.out 0).trans rfl
                      have hcz26_1 : wr.cell? ⟨gb101, 1, none⟩ = some (.int .i64 a1_1) := (blk_cell BK101.out 1).trans rfl
                      have hcz26_2 : wr.cell? ⟨gb101, 2, none⟩ = some (.slice A1_2 l1_2.length c1_2) := (blk_cell BK101.out 2).trans rfl
                      have hfz26_0 := blk_frozen BK101.out 0
                      have hfz26_1 := blk_frozen BK101.out 1
                      have hfz26_2 := blk_frozen BK101.out 2
                      have p108 : 0 ≤ (a1_1 : Int) := of_decide_eq_true (by first | (with_reducible assumption) | assumption)
                      have q108 : a1_1 < (l0.length : Int) := of_decide_eq_true (by first | (with_reducible assumption) | assumption)
                      obtain ⟨ad108, e108, hx108_0, hx108_1, hx108_2, hx108_3⟩ := at_T62 HR0.out a1_1 p108 q108
                      cases e108
                      replace hx108_0 := (HB.out.cell (World.block_lt_of_cell? w _ hx108_0)).trans hx108_0
                      replace hx108_1 := (HB.out.cell (World.block_lt_of_cell? w _ hx108_1)).trans hx108_1
                      replace hx108_2 := (HB.out.cell (World.block_lt_of_cell? w _ hx108_2)).trans hx108_2
                      replace hx108_3 := (HB.out.cell (World.block_lt_of_cell? w _ hx108_3)).trans hx108_3
                      replace p108 := eq_true p108
                      replace q108 := eq_true q108
                      go_wp2
                      go_ret
                      exact ⟨by first | rfl | (simp [errW_none, errW_some] <;> rfl) | (simp [*, errW_none, errW_some] <;> rfl), by repeat (first | (with_reducible first | exact HB.out | apply below_alloc | apply pw_below_drewN | apply below_drew1 | refine below_set ?_ GE101.out) | exact HB.out)⟩
                    · rw [if_neg c24] at H
                      exact absurd H (by simp)
                  · rw [if_neg c23] at H
                    exact absurd H (by simp)
                · rw [if_neg c22] at H
                  have c22b0 : ((x5_2.length : Int) == 0) = false := beq_eq_false_iff_ne.mpr c22
                  have c22b1 : ((x5_2.length : Int) != 0) = true := bne_iff_ne.mpr c22
                  have c22b2 : ¬ (x5_2 = []) := fun h_ => c22 (by rw [h_]; rfl)
                  by_cases c27 : 0 ≤ a1_1
                  · rw [if_pos c27] at H
                    have c27b0 : decide (0 ≤ a1_1) = true := decide_eq_true c27
                    clear c27
                    by_cases c28 : a1_1 < (l0.length : Int)
                    · rw [if_pos c28] at H
                      have c28b0 : decide (a1_1 < (l0.length : Int)) = true := decide_eq_true c28
                      clear c28
                      by_cases c29 : ((rd_T62 l0 a1_1).f0).size + 1 ≤ 9223372036854775807
                      · rw [if_pos c29] at H
                        have c29b0 := eq_true c29
                        have c29b1 : decide (((rd_T62 l0 a1_1).f0).size + 1 ≤ 9223372036854775807) = true := decide_eq_true c29
                        try have c29b2 : (9223372036854775807 < ((rd_T62 l0 a1_1).f0).size + 1) = False := eq_false (Nat.not_lt.2 c29)
                        replace H := Option.bind_eq_some_iff.mp H
                        obtain ⟨t110, A300, H⟩ := H
                        replace H : (if (((rd_T62 l0 a1_1).f0) ++ (⟨#[40]⟩ : ByteArray)).size + t110.size ≤ 9223372036854775807 then (if ((((rd_T62 l0 a1_1).f0) ++ (⟨#[40]⟩ : ByteArray)) ++ t110).size + 1 ≤ 9223372036854775807 then (some (((((rd_T62 l0 a1_1).f0) ++ (⟨#[40]⟩ : ByteArray)) ++ t110) ++ (⟨#[41]⟩ : ByteArray))) else (none)) else (none)) = some r := H
                        have A30 := Aside0.mk A300
                        clear A300
                        by_cases c31 : (((rd_T62 l0 a1_1).f0) ++ (⟨#[40]⟩ : ByteArray)).size + t110.size ≤ 9223372036854775807
                        · rw [if_pos c31] at H
                          have c31b0 := eq_true c31
                          have c31b1 : decide ((((rd_T62 l0 a1_1).f0) ++ (⟨#[40]⟩ : ByteArray)).size + t110.size ≤ 9223372036854775807) = true := decide_eq_true c31
                          try have c31b2 : (9223372036854775807 < (((rd_T62 l0 a1_1).f0) ++ (⟨#[40]⟩ : ByteArray)).size + t110.size) = False := eq_false (Nat.not_lt.2 c31)
                          by_cases c32 : ((((rd_T62 l0 a1_1).f0) ++ (⟨#[40]⟩ : ByteArray)) ++ t110).size + 1 ≤ 9223372036854775807
                          · rw [if_pos c32] at H
                            have c32b0 := eq_true c32
                            have c32b1 : decide (((((rd_T62 l0 a1_1).f0) ++ (⟨#[40]⟩ : ByteArray)) ++ t110).size + 1 ≤ 9223372036854775807) = true := decide_eq_true c32
                            try have c32b2 : (9223372036854775807 < ((((rd_T62 l0 a1_1).f0) ++ (⟨#[40]⟩ : ByteArray)) ++ t110).size + 1) = False := eq_false (Nat.not_lt.2 c32)
                            obtain rfl := Option.some.inj H
                            obtain ⟨Ao33, co33, eo33⟩ := Kd.R_slice HO_5.out
                            subst eo33
                            try go_wp2
                            have n0_ := Aside0.mk (Kd.R_drew HO_5.out)
                            have n1_ := Aside0.mk (blk_drew BK101.out)
                            have n2_ := Aside0.mk (below_drew1 HB.out)
                            clear HO_5
                            clear BK101
                            clear HB
                            have HO_5 := n0_
                            have BK101 := n1_
                            have HB := n2_
                            clear n0_ n1_ n2_
                            have p109 : 0 ≤ (a1_1 : Int) := of_decide_eq_true (by first | (with_reducible assumption) | assumption)
                            have q109 : a1_1 < (l0.length : Int) := of_decide_eq_true (by first | (with_reducible assumption) | assumption)
                            obtain ⟨ad109, e109, hx109_0, hx109_1, hx109_2, hx109_3⟩ := at_T62 HR0.out a1_1 p109 q109
                            have hw109_3 := hx109_3
                            have hw109_2 := hx109_2
                            have hw109_1 := hx109_1
                            have hw109_0 := hx109_0
                            cases e109
                            replace hx109_0 := (HB.out.cell (World.block_lt_of_cell? w _ hx109_0)).trans hx109_0
                            replace hx109_1 := (HB.out.cell (World.block_lt_of_cell? w _ hx109_1)).trans hx109_1
                            replace hx109_2 := (HB.out.cell (World.block_lt_of_cell? w _ hx109_2)).trans hx109_2
                            replace hx109_3 := (HB.out.cell (World.block_lt_of_cell? w _ hx109_3)).trans hx109_3
                            replace p109 := eq_true p109
                            replace q109 := eq_true q109
                            refine start_ (n := 12) (S := fun w' => w'.cell? ⟨gb101, 0, none⟩ = some (.string a1_0) ∧ w'.cell? ⟨gb101, 1, none⟩ = some (.int .i64 a1_1) ∧ w'.cell? ⟨gb101, 2, none⟩ = some (.slice A1_2 l1_2.length c1_2) ∧ w'.cell? (ad109.add ((a1_1).toNat * 4)) = some (.string ((rd_T62 l0 a1_1).f0)) ∧ w'.cell? ⟨(ad109.add ((a1_1).toNat * 4)).block, (ad109.add ((a1_1).toNat * 4)).off + 1, none⟩ = some (.int .i64 ((rd_T62 l0 a1_1).f1)) ∧ w'.cell? ⟨(ad109.add ((a1_1).toNat * 4)).block, (ad109.add ((a1_1).toNat * 4)).off + 2, none⟩ = some (.int .i64 ((rd_T62 l0 a1_1).f2)) ∧ w'.cell? ⟨(ad109.add ((a1_1).toNat * 4)).block, (ad109.add ((a1_1).toNat * 4)).off + 3, none⟩ = some (.string ((rd_T62 l0 a1_1).f3))) (ds := []) #[false, false, false, false, false, false, false, false, false, false, false, false] (by kernel_rfl) rfl rfl ⟨(blk_cell BK101.out 0).trans rfl, (blk_cell BK101.out 1).trans rfl, (blk_cell BK101.out 2).trans rfl, ((HB.out.cell (World.block_lt_of_cell? w _ hw109_0)).trans hw109_0), ((HB.out.cell (World.block_lt_of_cell? w _ hw109_1)).trans hw109_1), ((HB.out.cell (World.block_lt_of_cell? w _ hw109_2)).trans hw109_2), ((HB.out.cell (World.block_lt_of_cell? w _ hw109_3)).trans hw109_3)⟩ (fun hHeld => ?_); refine with_tabW text_Show.tab13 text_Show.bits13 (fun HT_ HW_ => ?_)
                            generalize wr.drew = w34 at HO_5 BK101 HB hx109_0 hx109_1 hx109_2 hx109_3 hHeld ⊢
                            refine pure_ (i := 0) (N := some 46) (v := ?_) (a' := ?_) #[true, false, false, false, false, false, false, false, false, false, false, false] rfl rfl (any_of HT_.out (by kernel_rfl)) (fun _ _ _ h => h) (Or.inl ⟨by rfl, ?_⟩) ?_ ?_
                            rotate_left
                            · intro w'
                              go_simp
                              first | (with_reducible rfl) | (rw [if_neg (by have h0_ : (⟨#[102]⟩ : ByteArray).size = 1 := rfl; have h1_ : (⟨#[111, 110, 101]⟩ : ByteArray).size = 3 := rfl; have h2_ : (⟨#[112, 108, 117, 115]⟩ : ByteArray).size = 4 := rfl; have h3_ : (⟨#[116, 105, 109, 101, 115]⟩ : ByteArray).size = 5 := rfl; have h4_ : (⟨#[40]⟩ : ByteArray).size = 1 := rfl; have h5_ : (⟨#[41]⟩ : ByteArray).size = 1 := rfl; have h6_ : (⟨#[44]⟩ : ByteArray).size = 1 := rfl; have h7_ : (⟨#[97]⟩ : ByteArray).size = 1 := rfl; simp only [decide_eq_true_eq, ByteArray.size_append, h0_, h1_, h2_, h3_, h4_, h5_, h6_, h7_] at *; omega)])
                            rotate_left
                            · simp only [Act.put, List.setIfInBounds_toArray, List.set_cons_zero, List.set_cons_succ, i64_w, i32_w]
                              rfl
                            refine pure_ (i := 1) (N := some 47) (v := ?_) (a' := ?_) #[true, true, false, false, false, false, false, false, false, false, false, false] rfl rfl (any_of HT_.out (by kernel_rfl)) (fun _ _ _ h => h) (Or.inl ⟨by rfl, ?_⟩) ?_ ?_
                            rotate_left
                            · intro w'
                              go_simp
                              first | (with_reducible rfl) | (rw [if_neg (by have h0_ : (⟨#[102]⟩ : ByteArray).size = 1 := rfl; have h1_ : (⟨#[111, 110, 101]⟩ : ByteArray).size = 3 := rfl; have h2_ : (⟨#[112, 108, 117, 115]⟩ : ByteArray).size = 4 := rfl; have h3_ : (⟨#[116, 105, 109, 101, 115]⟩ : ByteArray).size = 5 := rfl; have h4_ : (⟨#[40]⟩ : ByteArray).size = 1 := rfl; have h5_ : (⟨#[41]⟩ : ByteArray).size = 1 := rfl; have h6_ : (⟨#[44]⟩ : ByteArray).size = 1 := rfl; have h7_ : (⟨#[97]⟩ : ByteArray).size = 1 := rfl; simp only [decide_eq_true_eq, ByteArray.size_append, h0_, h1_, h2_, h3_, h4_, h5_, h6_, h7_] at *; omega)])
                            rotate_left
                            · simp only [Act.put, List.setIfInBounds_toArray, List.set_cons_zero, List.set_cons_succ, i64_w, i32_w]
                              rfl
                            refine pure_ (i := 7) (N := some 53) (v := ?_) (a' := ?_) #[true, true, false, false, false, false, false, true, false, false, false, false] rfl rfl (any_of HT_.out (by kernel_rfl)) (fun _ _ _ h => h) (Or.inl ⟨by rfl, ?_⟩) ?_ ?_
                            rotate_left
                            · intro w'
                              go_simp
                              first | (with_reducible rfl) | (rw [if_neg (by have h0_ : (⟨#[102]⟩ : ByteArray).size = 1 := rfl; have h1_ : (⟨#[111, 110, 101]⟩ : ByteArray).size = 3 := rfl; have h2_ : (⟨#[112, 108, 117, 115]⟩ : ByteArray).size = 4 := rfl; have h3_ : (⟨#[116, 105, 109, 101, 115]⟩ : ByteArray).size = 5 := rfl; have h4_ : (⟨#[40]⟩ : ByteArray).size = 1 := rfl; have h5_ : (⟨#[41]⟩ : ByteArray).size = 1 := rfl; have h6_ : (⟨#[44]⟩ : ByteArray).size = 1 := rfl; have h7_ : (⟨#[97]⟩ : ByteArray).size = 1 := rfl; simp only [decide_eq_true_eq, ByteArray.size_append, h0_, h1_, h2_, h3_, h4_, h5_, h6_, h7_] at *; omega)])
                            rotate_left
                            · simp only [Act.put, List.setIfInBounds_toArray, List.set_cons_zero, List.set_cons_succ, i64_w, i32_w]
                              rfl
                            refine take_ (i := 2) (N := some 48) (v := ?_) (a' := ?_) #[true, true, true, false, false, false, false, true, false, false, false, false] rfl rfl (take_ofW HT_.out HW_.out (by kernel_rfl)) (fun _ _ _ h => h) (Or.inl ⟨by rfl, ?_⟩) hHeld ?_ ?_
                            rotate_left
                            · rintro w' ⟨s0, s1, s2, s3, s4, s5, s6⟩
                              go_simp
                              first | (with_reducible rfl) | (rw [if_neg (by have h0_ : (⟨#[102]⟩ : ByteArray).size = 1 := rfl; have h1_ : (⟨#[111, 110, 101]⟩ : ByteArray).size = 3 := rfl; have h2_ : (⟨#[112, 108, 117, 115]⟩ : ByteArray).size = 4 := rfl; have h3_ : (⟨#[116, 105, 109, 101, 115]⟩ : ByteArray).size = 5 := rfl; have h4_ : (⟨#[40]⟩ : ByteArray).size = 1 := rfl; have h5_ : (⟨#[41]⟩ : ByteArray).size = 1 := rfl; have h6_ : (⟨#[44]⟩ : ByteArray).size = 1 := rfl; have h7_ : (⟨#[97]⟩ : ByteArray).size = 1 := rfl; simp only [decide_eq_true_eq, ByteArray.size_append, h0_, h1_, h2_, h3_, h4_, h5_, h6_, h7_] at *; omega)])
                            rotate_left
                            · simp only [Act.put, List.setIfInBounds_toArray, List.set_cons_zero, List.set_cons_succ, i64_w, i32_w]
                              rfl
                            refine pure_ (i := 3) (N := some 49) (v := ?_) (a' := ?_) #[true, true, true, true, false, false, false, true, false, false, false, false] rfl rfl (any_of HT_.out (by kernel_rfl)) (fun _ _ _ h => h) (Or.inl ⟨by rfl, ?_⟩) ?_ ?_
                            rotate_left
                            · intro w'
                              go_simp
                              first | (with_reducible rfl) | (rw [if_neg (by have h0_ : (⟨#[102]⟩ : ByteArray).size = 1 := rfl; have h1_ : (⟨#[111, 110, 101]⟩ : ByteArray).size = 3 := rfl; have h2_ : (⟨#[112, 108, 117, 115]⟩ : ByteArray).size = 4 := rfl; have h3_ : (⟨#[116, 105, 109, 101, 115]⟩ : ByteArray).size = 5 := rfl; have h4_ : (⟨#[40]⟩ : ByteArray).size = 1 := rfl; have h5_ : (⟨#[41]⟩ : ByteArray).size = 1 := rfl; have h6_ : (⟨#[44]⟩ : ByteArray).size = 1 := rfl; have h7_ : (⟨#[97]⟩ : ByteArray).size = 1 := rfl; simp only [decide_eq_true_eq, ByteArray.size_append, h0_, h1_, h2_, h3_, h4_, h5_, h6_, h7_] at *; omega)])
                            rotate_left
                            · simp only [Act.put, List.setIfInBounds_toArray, List.set_cons_zero, List.set_cons_succ, i64_w, i32_w]
                              rfl
                            refine pure_ (i := 4) (N := some 50) (v := ?_) (a' := ?_) #[true, true, true, true, true, false, false, true, false, false, false, false] rfl rfl (any_of HT_.out (by kernel_rfl)) (fun _ _ _ h => h) (Or.inl ⟨by rfl, ?_⟩) ?_ ?_
                            rotate_left
                            · intro w'
                              go_simp
                              first | (with_reducible rfl) | (rw [if_neg (by have h0_ : (⟨#[102]⟩ : ByteArray).size = 1 := rfl; have h1_ : (⟨#[111, 110, 101]⟩ : ByteArray).size = 3 := rfl; have h2_ : (⟨#[112, 108, 117, 115]⟩ : ByteArray).size = 4 := rfl; have h3_ : (⟨#[116, 105, 109, 101, 115]⟩ : ByteArray).size = 5 := rfl; have h4_ : (⟨#[40]⟩ : ByteArray).size = 1 := rfl; have h5_ : (⟨#[41]⟩ : ByteArray).size = 1 := rfl; have h6_ : (⟨#[44]⟩ : ByteArray).size = 1 := rfl; have h7_ : (⟨#[97]⟩ : ByteArray).size = 1 := rfl; simp only [decide_eq_true_eq, ByteArray.size_append, h0_, h1_, h2_, h3_, h4_, h5_, h6_, h7_] at *; omega)])
                            rotate_left
                            · simp only [Act.put, List.setIfInBounds_toArray, List.set_cons_zero, List.set_cons_succ, i64_w, i32_w]
                              rfl
                            refine take_ (i := 5) (N := some 51) (v := ?_) (a' := ?_) #[true, true, true, true, true, true, false, true, false, false, false, false] rfl rfl (take_ofW HT_.out HW_.out (by kernel_rfl)) (fun _ _ _ h => h) (Or.inl ⟨by rfl, ?_⟩) hHeld ?_ ?_
                            rotate_left
                            · rintro w' ⟨s0, s1, s2, s3, s4, s5, s6⟩
                              go_simp
                              first | (with_reducible rfl) | (rw [if_neg (by have h0_ : (⟨#[102]⟩ : ByteArray).size = 1 := rfl; have h1_ : (⟨#[111, 110, 101]⟩ : ByteArray).size = 3 := rfl; have h2_ : (⟨#[112, 108, 117, 115]⟩ : ByteArray).size = 4 := rfl; have h3_ : (⟨#[116, 105, 109, 101, 115]⟩ : ByteArray).size = 5 := rfl; have h4_ : (⟨#[40]⟩ : ByteArray).size = 1 := rfl; have h5_ : (⟨#[41]⟩ : ByteArray).size = 1 := rfl; have h6_ : (⟨#[44]⟩ : ByteArray).size = 1 := rfl; have h7_ : (⟨#[97]⟩ : ByteArray).size = 1 := rfl; simp only [decide_eq_true_eq, ByteArray.size_append, h0_, h1_, h2_, h3_, h4_, h5_, h6_, h7_] at *; omega)])
                            rotate_left
                            · simp only [Act.put, List.setIfInBounds_toArray, List.set_cons_zero, List.set_cons_succ, i64_w, i32_w]
                              rfl
                            refine pure_ (i := 6) (N := some 52) (v := ?_) (a' := ?_) #[true, true, true, true, true, true, true, true, false, false, false, false] rfl rfl (any_of HT_.out (by kernel_rfl)) (fun _ _ _ h => h) (Or.inl ⟨by rfl, ?_⟩) ?_ ?_
                            rotate_left
                            · intro w'
                              go_simp
                              first | (with_reducible rfl) | (rw [if_neg (by have h0_ : (⟨#[102]⟩ : ByteArray).size = 1 := rfl; have h1_ : (⟨#[111, 110, 101]⟩ : ByteArray).size = 3 := rfl; have h2_ : (⟨#[112, 108, 117, 115]⟩ : ByteArray).size = 4 := rfl; have h3_ : (⟨#[116, 105, 109, 101, 115]⟩ : ByteArray).size = 5 := rfl; have h4_ : (⟨#[40]⟩ : ByteArray).size = 1 := rfl; have h5_ : (⟨#[41]⟩ : ByteArray).size = 1 := rfl; have h6_ : (⟨#[44]⟩ : ByteArray).size = 1 := rfl; have h7_ : (⟨#[97]⟩ : ByteArray).size = 1 := rfl; simp only [decide_eq_true_eq, ByteArray.size_append, h0_, h1_, h2_, h3_, h4_, h5_, h6_, h7_] at *; omega)])
                            rotate_left
                            · simp only [Act.put, List.setIfInBounds_toArray, List.set_cons_zero, List.set_cons_succ, i64_w, i32_w]
                              rfl
                            refine one_ (i := 8) (N := some 54) #[true, true, true, true, true, true, true, true, true, false, false, false] rfl rfl (one_of HT_.out (by kernel_rfl)) (by decide) (fun K hK => ?_)
                            refine goes_ Try.func24 (by kernel_rfl) rfl #[.slice Ao33 x5_2.length co33, .string (⟨#[44]⟩ : ByteArray)] (by rfl) rfl rfl (by (try simp only [List.map_toArray, List.map_cons, List.map_nil]); first | done | rfl | (simp only [List.length_drop, List.length_take]; rfl)) ?_
                            with_reducible refine (strings_Join.calls _ _ x5_2 (⟨#[44]⟩ : ByteArray) t110 _ ?side1 ?side2 A30.out).mono ?_
                            (case side1 => repeat (first | exact (Kd.R_reads' HO_5.out).2.2 | (with_reducible refine Kd.C_alloc ?_ _) | (with_reducible refine Kd.C_drewN ?_ _) | (with_reducible refine Kd.C_drew ?_)))
                            (case side2 => exact (Kd.R_reads' HO_5.out).2.1)
                            rintro e w35 ⟨rfl, hb⟩
                            refine ⟨_, rfl, ?_⟩
                            have n0_ := Aside0.mk (Kd.R_below (by (with_reducible repeat (first | apply Kd.R_alloc | apply Kd.R_drewN | apply Kd.R_drew)); exact HO_5.out) hb)
                            have n1_ := Aside0.mk (blk_below (g := gb101) (o := .cells #[.string a1_0, .int .i64 a1_1, .slice A1_2 l1_2.length c1_2] 27 (0, 0)) (by (with_reducible repeat (first | refine blk_drewN ?_ _ | refine blk_drew ?_ | refine blk_alloc ?_ _)); exact BK101.out) hb)
                            have n2_ := Aside0.mk (below_step (by repeat (first | (with_reducible first | exact HB.out | apply below_alloc | apply pw_below_drewN | apply below_drew1 | refine below_set ?_ GE101.out) | exact HB.out)) hb)
                            clear HO_5
                            clear BK101
                            clear HB
                            have HO_5 := n0_
                            have BK101 := n1_
                            have HB := n2_
                            clear n0_ n1_ n2_
                            (try clear hb)
                            (try clear hb2)
                            (try clear hk)
                            (try clear hi)
                            refine hK.out _ _ ⟨(blk_cell BK101.out 0).trans rfl, (blk_cell BK101.out 1).trans rfl, (blk_cell BK101.out 2).trans rfl, ((HB.out.cell (World.block_lt_of_cell? w _ hw109_0)).trans hw109_0), ((HB.out.cell (World.block_lt_of_cell? w _ hw109_1)).trans hw109_1), ((HB.out.cell (World.block_lt_of_cell? w _ hw109_2)).trans hw109_2), ((HB.out.cell (World.block_lt_of_cell? w _ hw109_3)).trans hw109_3)⟩ (fun hHeld => ?_)
                            clear hK K
                            refine norm_ (a' := ?_) ?_ ?_
                            rotate_left
                            · show Act.put _ (some 54) _ = _
                              simp only [Act.put, List.setIfInBounds_toArray, List.set_cons_zero, List.set_cons_succ, i64_w, i32_w]
                              rfl
                            refine pure_ (i := 9) (N := some 55) (v := ?_) (a' := ?_) #[true, true, true, true, true, true, true, true, true, true, false, false] rfl rfl (any_of HT_.out (by kernel_rfl)) (fun _ _ _ h => h) (Or.inl ⟨by rfl, ?_⟩) ?_ ?_
                            rotate_left
                            · intro w'
                              go_simp
                              first | (with_reducible rfl) | (rw [if_neg (by have h0_ : (⟨#[102]⟩ : ByteArray).size = 1 := rfl; have h1_ : (⟨#[111, 110, 101]⟩ : ByteArray).size = 3 := rfl; have h2_ : (⟨#[112, 108, 117, 115]⟩ : ByteArray).size = 4 := rfl; have h3_ : (⟨#[116, 105, 109, 101, 115]⟩ : ByteArray).size = 5 := rfl; have h4_ : (⟨#[40]⟩ : ByteArray).size = 1 := rfl; have h5_ : (⟨#[41]⟩ : ByteArray).size = 1 := rfl; have h6_ : (⟨#[44]⟩ : ByteArray).size = 1 := rfl; have h7_ : (⟨#[97]⟩ : ByteArray).size = 1 := rfl; simp only [decide_eq_true_eq, ByteArray.size_append, h0_, h1_, h2_, h3_, h4_, h5_, h6_, h7_] at *; omega)])
                            rotate_left
                            · simp only [Act.put, List.setIfInBounds_toArray, List.set_cons_zero, List.set_cons_succ, i64_w, i32_w]
                              rfl
                            refine pure_ (i := 10) (N := some 56) (v := ?_) (a' := ?_) #[true, true, true, true, true, true, true, true, true, true, true, false] rfl rfl (any_of HT_.out (by kernel_rfl)) (fun _ _ _ h => h) (Or.inl ⟨by rfl, ?_⟩) ?_ ?_
                            rotate_left
                            · intro w'
                              go_simp
                              first | (with_reducible rfl) | (rw [if_neg (by have h0_ : (⟨#[102]⟩ : ByteArray).size = 1 := rfl; have h1_ : (⟨#[111, 110, 101]⟩ : ByteArray).size = 3 := rfl; have h2_ : (⟨#[112, 108, 117, 115]⟩ : ByteArray).size = 4 := rfl; have h3_ : (⟨#[116, 105, 109, 101, 115]⟩ : ByteArray).size = 5 := rfl; have h4_ : (⟨#[40]⟩ : ByteArray).size = 1 := rfl; have h5_ : (⟨#[41]⟩ : ByteArray).size = 1 := rfl; have h6_ : (⟨#[44]⟩ : ByteArray).size = 1 := rfl; have h7_ : (⟨#[97]⟩ : ByteArray).size = 1 := rfl; simp only [decide_eq_true_eq, ByteArray.size_append, h0_, h1_, h2_, h3_, h4_, h5_, h6_, h7_] at *; omega)])
                            rotate_left
                            · simp only [Act.put, List.setIfInBounds_toArray, List.set_cons_zero, List.set_cons_succ, i64_w, i32_w]
                              rfl
                            refine pure_ (i := 11) (N := some 4) (v := ?_) (a' := ?_) #[true, true, true, true, true, true, true, true, true, true, true, true] rfl rfl (any_of HT_.out (by kernel_rfl)) (fun _ _ _ h => h) (Or.inl ⟨by rfl, ?_⟩) ?_ ?_
                            rotate_left
                            · intro w'
                              go_simp
                              first | (with_reducible rfl) | (rw [if_neg (by have h0_ : (⟨#[102]⟩ : ByteArray).size = 1 := rfl; have h1_ : (⟨#[111, 110, 101]⟩ : ByteArray).size = 3 := rfl; have h2_ : (⟨#[112, 108, 117, 115]⟩ : ByteArray).size = 4 := rfl; have h3_ : (⟨#[116, 105, 109, 101, 115]⟩ : ByteArray).size = 5 := rfl; have h4_ : (⟨#[40]⟩ : ByteArray).size = 1 := rfl; have h5_ : (⟨#[41]⟩ : ByteArray).size = 1 := rfl; have h6_ : (⟨#[44]⟩ : ByteArray).size = 1 := rfl; have h7_ : (⟨#[97]⟩ : ByteArray).size = 1 := rfl; simp only [decide_eq_true_eq, ByteArray.size_append, h0_, h1_, h2_, h3_, h4_, h5_, h6_, h7_] at *; omega)])
                            rotate_left
                            · simp only [Act.put, List.setIfInBounds_toArray, List.set_cons_zero, List.set_cons_succ, i64_w, i32_w]
                              rfl
                            refine done_ (done_of HT_.out (by kernel_rfl)) ?_
                            try go_wp2
                            go_ret
                            exact ⟨by first | rfl | (simp [errW_none, errW_some] <;> rfl) | (simp [*, errW_none, errW_some] <;> rfl), by repeat (first | (with_reducible first | exact HB.out | apply below_alloc | apply pw_below_drewN | apply below_drew1 | refine below_set ?_ GE101.out) | exact HB.out)⟩
                          · rw [if_neg c32] at H
                            exact absurd H (by simp)
                        · rw [if_neg c31] at H
                          exact absurd H (by simp)
                      · rw [if_neg c29] at H
                        exact absurd H (by simp)
                    · rw [if_neg c28] at H
                      exact absurd H (by simp)
                  · rw [if_neg c27] at H
                    exact absurd H (by simp)
  · rw [if_neg c3] at H
    have c3b0 : (a1_0.toList == ([] : List UInt8)) = false := beq_eq_false_iff_ne.mpr c3
    have c3b1 : (a1_0.toList != ([] : List UInt8)) = true := bne_iff_ne.mpr c3
    obtain rfl := Option.some.inj H
    go_enter Try.func9, Try.ntmps9
    go_wp2_with (first | ((with_reducible refine gate_dst (N := 3) rfl ?_); (try (refine gate_guard (by rfl) ?_; dsimp only)); refine box_event ?hg (N := 3) ?hd (cs := #[.string a1_0, .int .i64 a1_1, .slice A1_2 l1_2.length c1_2]) (t := 27) ?hr ?_; (case hd => rfl); (case hg => rfl); (case hr => first | (go_simp; done) | (go_simp; rfl)); intro gb101 hg w36 hbox hb; have n0_ := Aside0.mk (below_step (by repeat (first | (with_reducible first | exact HB.out | apply below_alloc | apply pw_below_drewN | apply below_drew1) | exact HB.out)) hb); have n1_ := Aside0.mk (hbox); have n2_ := Aside0.mk ((by rw [hg]; exact (below_size (by repeat (first | (with_reducible first | exact HB.out | apply below_alloc | apply pw_below_drewN | apply below_drew1) | exact HB.out))) : w.heap.size ≤ gb101)); have n3_ := Aside0.mk ((by rw [hg]; exact (below_size (by repeat (first | (with_reducible first | exact HB.out | apply below_alloc | apply pw_below_drewN | apply below_drew1) | exact HB.out))) : w.heap.size ≤ gb101)); clear HB; have HB := n0_; have BK101 := n1_; have GW101 := n2_; have GE101 := n3_; clear n0_ n1_ n2_ n3_; clear hb hbox hg; have hcz37_0 : w36.cell? ⟨gb101, 0, none⟩ = some (.string a1_0) := (blk_cell BK101.out 0).trans rfl; have hcz37_1 : w36.cell? ⟨gb101, 1, none⟩ = some (.int .i64 a1_1) := (blk_cell BK101.out 1).trans rfl; have hcz37_2 : w36.cell? ⟨gb101, 2, none⟩ = some (.slice A1_2 l1_2.length c1_2) := (blk_cell BK101.out 2).trans rfl; have hfz37_0 := blk_frozen BK101.out 0; have hfz37_1 := blk_frozen BK101.out 1; have hfz37_2 := blk_frozen BK101.out 2))
    go_ret
    exact ⟨by first | rfl | (simp [errW_none, errW_some] <;> rfl) | (simp [*, errW_none, errW_some] <;> rfl), by repeat (first | (with_reducible first | exact HB.out | apply below_alloc | apply pw_below_drewN | apply below_drew1 | refine below_set ?_ GE101.out) | exact HB.out)⟩

def amalgamlaw04_Some.f  : Option ((List (S62))) := some (([(⟨(⟨#[97]⟩ : ByteArray), 1, 0, (⟨#[]⟩ : ByteArray)⟩ : S62), (⟨(⟨#[111, 110, 101]⟩ : ByteArray), 1, 0, (⟨#[]⟩ : ByteArray)⟩ : S62), (⟨(⟨#[102]⟩ : ByteArray), 1, 2, (⟨#[]⟩ : ByteArray)⟩ : S62), (⟨(⟨#[112, 108, 117, 115]⟩ : ByteArray), 2, 2, (⟨#[]⟩ : ByteArray)⟩ : S62), (⟨(⟨#[116, 105, 109, 101, 115]⟩ : ByteArray), 3, 2, (⟨#[111, 110, 101]⟩ : ByteArray)⟩ : S62)] : List (S62)))
set_option maxHeartbeats 8000000 in
set_option maxRecDepth 100000 in
theorem amalgamlaw04_Some.calls  (r : List (S62)) (w : World) (h : amalgamlaw04_Some.f  = some r) :
    Calls Try.prog 18 #[] w fun e w' => ∃ v0_ : Value, e = .returned (v0_) ∧ Kd.R k62 62 w' w.heap.size (fun _ => True) v0_ r ∧ Below w.heap.size w w' := by
  have hu62 := Try.underlying62
  have HB := Aside0.mk (Below.refl w.heap.size w)
  have H : (some (([(⟨(⟨#[97]⟩ : ByteArray), 1, 0, (⟨#[]⟩ : ByteArray)⟩ : S62), (⟨(⟨#[111, 110, 101]⟩ : ByteArray), 1, 0, (⟨#[]⟩ : ByteArray)⟩ : S62), (⟨(⟨#[102]⟩ : ByteArray), 1, 2, (⟨#[]⟩ : ByteArray)⟩ : S62), (⟨(⟨#[112, 108, 117, 115]⟩ : ByteArray), 2, 2, (⟨#[]⟩ : ByteArray)⟩ : S62), (⟨(⟨#[116, 105, 109, 101, 115]⟩ : ByteArray), 3, 2, (⟨#[111, 110, 101]⟩ : ByteArray)⟩ : S62)] : List (S62)))) = some r := h
  clear h
  obtain ⟨y111, hy111⟩ : ∃ y_ : List (S62), y_ = (([(⟨(⟨#[97]⟩ : ByteArray), 1, 0, (⟨#[]⟩ : ByteArray)⟩ : S62), (⟨(⟨#[111, 110, 101]⟩ : ByteArray), 1, 0, (⟨#[]⟩ : ByteArray)⟩ : S62), (⟨(⟨#[102]⟩ : ByteArray), 1, 2, (⟨#[]⟩ : ByteArray)⟩ : S62), (⟨(⟨#[112, 108, 117, 115]⟩ : ByteArray), 2, 2, (⟨#[]⟩ : ByteArray)⟩ : S62), (⟨(⟨#[116, 105, 109, 101, 115]⟩ : ByteArray), 3, 2, (⟨#[111, 110, 101]⟩ : ByteArray)⟩ : S62)] : List (S62))) := ⟨_, rfl⟩
  replace H : (some y111) = some r := by first | (rw [hy111]; with_reducible exact H) | (have H2_ := (Option.bind_some _ _).symm.trans H; rw [hy111]; with_reducible exact H2_) | (have H2_ := (Option.bind_some _ _).symm.trans H; with_reducible exact H2_) | with_reducible exact H | (rw [hy111]; exact H) | exact H
  have Ny111 := Aside0.mk hy111
  clear hy111
  obtain rfl := Option.some.inj H
  go_enter Try.func18, Try.ntmps18
  go_wp2_with (first | ((with_reducible refine gate_dst (N := 6) rfl ?_); refine Kd.R_lit k62 _ 62 ?hg (N := 6) ?hd (xs := ([(⟨(⟨#[97]⟩ : ByteArray), 1, 0, (⟨#[]⟩ : ByteArray)⟩ : S62), (⟨(⟨#[111, 110, 101]⟩ : ByteArray), 1, 0, (⟨#[]⟩ : ByteArray)⟩ : S62), (⟨(⟨#[102]⟩ : ByteArray), 1, 2, (⟨#[]⟩ : ByteArray)⟩ : S62), (⟨(⟨#[112, 108, 117, 115]⟩ : ByteArray), 2, 2, (⟨#[]⟩ : ByteArray)⟩ : S62), (⟨(⟨#[116, 105, 109, 101, 115]⟩ : ByteArray), 3, 2, (⟨#[111, 110, 101]⟩ : ByteArray)⟩ : S62)] : List (S62))) (inner := [.string (⟨#[97]⟩ : ByteArray), .int .i64 1, .int .i64 0, .string (⟨#[]⟩ : ByteArray), .string (⟨#[111, 110, 101]⟩ : ByteArray), .int .i64 1, .int .i64 0, .string (⟨#[]⟩ : ByteArray), .string (⟨#[102]⟩ : ByteArray), .int .i64 1, .int .i64 2, .string (⟨#[]⟩ : ByteArray), .string (⟨#[112, 108, 117, 115]⟩ : ByteArray), .int .i64 2, .int .i64 2, .string (⟨#[]⟩ : ByteArray), .string (⟨#[116, 105, 109, 101, 115]⟩ : ByteArray), .int .i64 3, .int .i64 2, .string (⟨#[111, 110, 101]⟩ : ByteArray)]) (ok := fun _ => True) (okp := fun _ => True) ?hr ?hp (fun _ hk => hk) trivial (Below.refl _ _) (Nat.le_refl _) (by simp) ?_; (case hd => rfl); (case hg => rfl); (case hr => first | (go_simp; done) | (go_simp; rfl)); (case hp => exact (Reps.c4 (show Kd.M k62 _ _ _ (⟨(⟨#[97]⟩ : ByteArray), 1, 0, (⟨#[]⟩ : ByteArray)⟩ : S62) [.string (⟨#[97]⟩ : ByteArray), .int .i64 1, .int .i64 0, .string (⟨#[]⟩ : ByteArray)] from (k62_mkM _ _ _ (⟨(⟨#[97]⟩ : ByteArray), 1, 0, (⟨#[]⟩ : ByteArray)⟩ : S62) )) (Reps.c4 (show Kd.M k62 _ _ _ (⟨(⟨#[111, 110, 101]⟩ : ByteArray), 1, 0, (⟨#[]⟩ : ByteArray)⟩ : S62) [.string (⟨#[111, 110, 101]⟩ : ByteArray), .int .i64 1, .int .i64 0, .string (⟨#[]⟩ : ByteArray)] from (k62_mkM _ _ _ (⟨(⟨#[111, 110, 101]⟩ : ByteArray), 1, 0, (⟨#[]⟩ : ByteArray)⟩ : S62) )) (Reps.c4 (show Kd.M k62 _ _ _ (⟨(⟨#[102]⟩ : ByteArray), 1, 2, (⟨#[]⟩ : ByteArray)⟩ : S62) [.string (⟨#[102]⟩ : ByteArray), .int .i64 1, .int .i64 2, .string (⟨#[]⟩ : ByteArray)] from (k62_mkM _ _ _ (⟨(⟨#[102]⟩ : ByteArray), 1, 2, (⟨#[]⟩ : ByteArray)⟩ : S62) )) (Reps.c4 (show Kd.M k62 _ _ _ (⟨(⟨#[112, 108, 117, 115]⟩ : ByteArray), 2, 2, (⟨#[]⟩ : ByteArray)⟩ : S62) [.string (⟨#[112, 108, 117, 115]⟩ : ByteArray), .int .i64 2, .int .i64 2, .string (⟨#[]⟩ : ByteArray)] from (k62_mkM _ _ _ (⟨(⟨#[112, 108, 117, 115]⟩ : ByteArray), 2, 2, (⟨#[]⟩ : ByteArray)⟩ : S62) )) (Reps.c4 (show Kd.M k62 _ _ _ (⟨(⟨#[116, 105, 109, 101, 115]⟩ : ByteArray), 3, 2, (⟨#[111, 110, 101]⟩ : ByteArray)⟩ : S62) [.string (⟨#[116, 105, 109, 101, 115]⟩ : ByteArray), .int .i64 3, .int .i64 2, .string (⟨#[111, 110, 101]⟩ : ByteArray)] from (k62_mkM _ _ _ (⟨(⟨#[116, 105, 109, 101, 115]⟩ : ByteArray), 3, 2, (⟨#[111, 110, 101]⟩ : ByteArray)⟩ : S62) )) (Reps.none _ _))))))); intro v112 w1 ho2 hb hg_ hnew_; clear hg_ hnew_; (first | rw [← Ny111.out] at ho2 | (simp only [Int.reduceToNat] at ho2; rw [← Ny111.out] at ho2)); have n0_ := Aside0.mk (Kd.R_lower ho2 (below_size (by repeat (first | (with_reducible first | exact HB.out | apply below_alloc | apply pw_below_drewN | apply below_drew1) | exact HB.out)))); have n1_ := Aside0.mk (below_step (by repeat (first | (with_reducible first | exact HB.out | apply below_alloc | apply pw_below_drewN | apply below_drew1) | exact HB.out)) hb); clear HB; have HO113 := n0_; have HB := n1_; clear n0_ n1_; clear hb ho2))
  go_ret
  exact ⟨_, by first | rfl | (simp [errW_none, errW_some] <;> rfl) | (simp [*, errW_none, errW_some] <;> rfl), by (with_reducible repeat (first | apply Kd.R_alloc | apply Kd.R_drewN | apply Kd.R_drew)); exact HO113.out, by repeat (first | (with_reducible first | exact HB.out | apply below_alloc | apply pw_below_drewN | apply below_drew1) | exact HB.out)⟩

end Go.Proofs.Ytpepjodkahdicaa.PTb
