-- Written by programs of this session (wip/tools), cut to what the claim uses (wip/tools/prune.py).
import Derived.Test.YtpepjodkahdicaaPTbx0
-- Written by a program of this session (wip/tools/myprint.py): functions, contracts, their proofs. Lean checks it.
namespace Go.Proofs.Ytpepjodkahdicaa.PTb
open Go.RowKit Go.Proofs.YtpepjodkahdicaaW.PrintWords Go.Proofs.YtpepjodkahdicaaW.PrintLast Go.Proofs.YtpepjodkahdicaaW.PrintMore
attribute [local go_sem] max2_int min2_int max_two min_two max_three min_three max_four min_four   -- for this text's walks alone
set_option linter.unusedVariables false
set_option linter.unusedSimpArgs false
-- NOT PRINTED: function 65 (bytealg_IndexByteString)
-- NOT PRINTED: function 60 (stringslite_IndexByte)
def strings_IndexByte.f (a0 : ByteArray) (a1 : Int) : Option Int := some (Lib.indexByte a0.data.toList a1.toNat.toUInt8)
theorem strings_IndexByte.calls (a0 : ByteArray) (a1 : Int) (r : Int) (w : World) (h : strings_IndexByte.f a0 a1 = some r) :
    Calls Try.prog 55 #[.string a0, .int .u8 a1] w fun e w' => e = .returned (.int .i64 r) ∧ Drawn0 w w' := by
  obtain rfl := Option.some.inj h
  refine (Go.Proofs.Try.strings_IndexByte a0 a1 w).mono ?_
  rintro e w' ⟨rfl, rfl⟩
  exact ⟨rfl, Drawn0.refl _⟩

def words_run.l0 : Nat → ByteArray → Int → ByteArray → Option Int
  | 0, _, _, _ => none
  | k + 1, x0, x1, x2 => if x1 < (x0.size : Int) then (if 0 ≤ x1 then ((strings_IndexByte.f x2 (bt x0 x1)).bind fun t => (if t < 0 then (some x1) else (words_run.l0 k x0 (wrap64 (x1 + 1)) x2))) else none) else (some x1)
def words_run.f (k : Nat) (a0 : ByteArray) (a1 : Int) (a2 : ByteArray) : Option Int := words_run.l0 k a0 a1 a2
theorem words_run.mono_l : ∀ k, (∀ y0 y1 y2, LeO (words_run.l0 k y0 y1 y2) (words_run.l0 (k + 1) y0 y1 y2))
  | 0 => fun _ _ _ r h => by simp [words_run.l0] at h
  | k + 1 => by
    have ih0 := words_run.mono_l k
    intro y0 y1 y2
    unfold words_run.l0
    refine LeO.ite (LeO.ite (LeO.bind (LeO.refl _) (fun _ => LeO.ite (LeO.refl _) (ih0 _ _ _))) (LeO.refl _)) (LeO.refl _)
theorem words_run.mono : ∀ a0 a1 a2 k, LeO (words_run.f k a0 a1 a2) (words_run.f (k + 1) a0 a1 a2) := fun a0 a1 a2 k => words_run.mono_l k a0 a1 a2
set_option maxHeartbeats 1000000 in
set_option maxRecDepth 100000 in
theorem words_run.calls (k : Nat) (a0 : ByteArray) (a1 : Int) (a2 : ByteArray) (r : Int) (w : World) (h : words_run.f k a0 a1 a2 = some r) :
    Calls Try.prog 53 #[.string a0, .int .i64 a1, .string a2] w fun e w' => e = .returned (.int .i64 r) ∧ Drawn0 w w' := by
  have H' := Aside0.mk (show words_run.l0 k a0 a1 a2 = some r from h)
  clear h
  go_enter Try.func53, Try.ntmps53
  go_wp2
  go_step3
  go_wp2
  go_step3
  go_wp2
  go_loopg [1] k (fun kq v1 w' => ∃ (x1 : Int), v1 = .int .i64 x1 ∧ Aside0 (words_run.l0 kq a0 x1 a2 = some r) ∧ Aside0 (kq ≤ k) ∧ Drawn0 w w')
  case atStart => exact ⟨a1, rfl, H', ⟨Nat.le_refl _⟩, Drawn0.refl _⟩
  case round =>
    clear H'
    obtain ⟨x1, rfl, HA, HK1, ⟨m1, rfl⟩⟩ := hrel
    cases gk with
    | zero => exact absurd HA.out (by simp [words_run.l0])
    | succ k1 =>
      have H := HA.out
      clear HA
      simp only [words_run.l0] at H
      by_cases c1 : x1 < (a0.size : Int)
      · rw [if_pos c1] at H
        have c1b : decide (x1 < (a0.size : Int)) = true := decide_eq_true c1
        by_cases c2 : 0 ≤ x1
        · rw [if_pos c2] at H
          obtain ⟨t, ht, H⟩ := Option.bind_eq_some_iff.mp H
          have HT := Aside0.mk ht
          have hat : x1.toNat < a0.size := by omega
          have hbt := bt_at a0 x1 hat
          have HC := Aside0.mk (strings_IndexByte.calls a2 (bt a0 x1) t (w.drewN m1) ht)
          clear ht
          have c2b : 0 ≤ x1 := c2
          by_cases c3 : t < 0
          · rw [if_pos c3] at H
            have c3b : decide (t < 0) = true := decide_eq_true c3
            obtain rfl := Option.some.inj H
            clear c3
            go_wp2_with fail
            refine HC.out.mono ?_
            rintro e w2 ⟨rfl, ⟨m2, rfl⟩⟩
            go_wp2
            (try rw [Exit.noGoto_ret])
            go_ret
            exact ⟨rfl, by repeat (first | exact Drawn0.refl _ | apply Drawn0.step)⟩
          · rw [if_neg c3] at H
            have c3b : decide (t < 0) = false := decide_eq_false c3
            have H' := Aside0.mk H
            clear c3 H
            go_wp2_with fail
            refine HC.out.mono ?_
            rintro e w2 ⟨rfl, ⟨m2, rfl⟩⟩
            clear hat hbt c2b c2 c1
            go_wp2
            go_roundg k1
            case measure => have := HK1.out; omega
            case rel => exact ⟨wrap64 (x1 + 1), rfl, H', ⟨by have := HK1.out; omega⟩, by repeat (first | exact Drawn0.refl _ | apply Drawn0.step)⟩
        · rw [if_neg c2] at H
          exact absurd H (by simp)
      · rw [if_neg c1] at H
        have c1b : decide (x1 < (a0.size : Int)) = false := decide_eq_false c1
        obtain rfl := Option.some.inj H
        clear c1
        go_wp2
        (try rw [Exit.noGoto_ret])
        go_ret
        exact ⟨rfl, by repeat (first | exact Drawn0.refl _ | apply Drawn0.step)⟩

def stringslite_HasPrefix.f (a0 : ByteArray) (a1 : ByteArray) : Option (Bool) := if (a0.size : Int) ≥ (a1.size : Int) then (if 0 ≤ (a1.size : Int) then (if (a1.size : Int) ≤ (a0.size : Int) then (some ((a0.extract 0 ((a1.size : Int) : Int).toNat).toList == a1.toList)) else (none)) else (none)) else (some false)
set_option maxHeartbeats 8000000 in
set_option maxRecDepth 100000 in
theorem stringslite_HasPrefix.calls (a0 : ByteArray) (a1 : ByteArray) (r : Bool) (w : World) (h : stringslite_HasPrefix.f a0 a1 = some r) :
    Calls Try.prog 64 #[.string a0, .string a1] w fun e w' => e = .returned (.bool r) ∧ Drawn0 w w' := by
  have H : (if (a0.size : Int) ≥ (a1.size : Int) then (if 0 ≤ (a1.size : Int) then (if (a1.size : Int) ≤ (a0.size : Int) then (some ((a0.extract 0 ((a1.size : Int) : Int).toNat).toList == a1.toList)) else (none)) else (none)) else (some false)) = some r := h
  clear h
  by_cases c3 : (a0.size : Int) ≥ (a1.size : Int)
  · rw [if_pos c3] at H
    have c3b0 : decide ((a1.size : Int) ≤ (a0.size : Int)) = true := decide_eq_true c3
    have c3b1 : decide (a1.size ≤ a0.size) = true := decide_eq_true (Int.ofNat_le.mp c3)
    clear c3
    by_cases c4 : 0 ≤ (a1.size : Int)
    · rw [if_pos c4] at H
      have c4b0 := eq_true c4
      have c4b1 : decide (0 ≤ (a1.size : Int)) = true := decide_eq_true c4
      clear c4
      by_cases c5 : (a1.size : Int) ≤ (a0.size : Int)
      · rw [if_pos c5] at H
        have c5b0 := eq_true c5
        have c5b1 : decide ((a1.size : Int) ≤ (a0.size : Int)) = true := decide_eq_true c5
        clear c5
        obtain rfl := Option.some.inj H
        go_enter Try.func64, Try.ntmps64
        go_wp2
        go_ret
        exact ⟨by first | rfl | (simp; done) | (simp [*]; done), by repeat (first | exact Drawn0.refl _ | apply Drawn0.step)⟩
      · rw [if_neg c5] at H
        exact absurd H (by simp)
    · rw [if_neg c4] at H
      exact absurd H (by simp)
  · rw [if_neg c3] at H
    have c3b0 : decide ((a1.size : Int) ≤ (a0.size : Int)) = false := decide_eq_false c3
    have c3b1 : decide (a1.size ≤ a0.size) = false := decide_eq_false (fun h => c3 (Int.ofNat_le.mpr h))
    clear c3
    obtain rfl := Option.some.inj H
    go_enter Try.func64, Try.ntmps64
    go_wp2
    go_ret
    exact ⟨by first | rfl | (simp; done) | (simp [*]; done), by repeat (first | exact Drawn0.refl _ | apply Drawn0.step)⟩

def strings_HasPrefix.f (a0 : ByteArray) (a1 : ByteArray) : Option (Bool) := (stringslite_HasPrefix.f a0 a1).bind fun t225 => (some t225)
set_option maxHeartbeats 8000000 in
set_option maxRecDepth 100000 in
theorem strings_HasPrefix.calls (a0 : ByteArray) (a1 : ByteArray) (r : Bool) (w : World) (h : strings_HasPrefix.f a0 a1 = some r) :
    Calls Try.prog 59 #[.string a0, .string a1] w fun e w' => e = .returned (.bool r) ∧ Drawn0 w w' := by
  have H : ((stringslite_HasPrefix.f a0 a1).bind fun t225 => (some t225)) = some r := h
  clear h
  replace H := Option.bind_eq_some_iff.mp H
  obtain ⟨t225, A30, H⟩ := H
  replace H : (some t225) = some r := H
  have A3 := Aside0.mk A30
  clear A30
  obtain rfl := Option.some.inj H
  go_enter Try.func59, Try.ntmps59
  go_wp2_with (first | ((with_reducible refine gate_callee (f := 64) rfl ?_); refine goesL_ (some 7) rfl rfl Try.func64 (by kernel_rfl) rfl #[.string a0, .string a1] rfl (by (try simp only [List.map_toArray, List.map_cons, List.map_nil]); first | done | rfl | (simp only [List.length_drop, List.length_take]; rfl)) ?_; (with_reducible refine (stringslite_HasPrefix.calls a0 a1 t225 _ A3.out).mono ?_); rintro e w' ⟨rfl, ⟨nd, rfl⟩⟩; refine ⟨_, rfl, ?_⟩))
  go_ret
  exact ⟨by first | rfl | (simp; done) | (simp [*]; done), by repeat (first | exact Drawn0.refl _ | apply Drawn0.step)⟩

def words_sign.f (a0 : ByteArray) : Option (Int × Int) := if 0 < (a0.size : Int) then (if (bt a0 0) = 40 then (some (3, 1)) else (if (bt a0 0) = 41 then (some (4, 1)) else (if (bt a0 0) = 44 then (some (5, 1)) else (if (bt a0 0) = 61 then (some (6, 1)) else ((strings_HasPrefix.f a0 (⟨#[45, 62]⟩ : ByteArray)).bind fun t226 => (if t226 = true then (some (7, 2)) else (some (0, 0)))))))) else (none)
set_option maxHeartbeats 8000000 in
set_option maxRecDepth 100000 in
theorem words_sign.calls (a0 : ByteArray) (r1 : Int) (r2 : Int) (w : World) (h : words_sign.f a0 = some (r1, r2)) :
    Calls Try.prog 54 #[.string a0] w fun e w' => e = .returned (.tuple #[.int .i64 r1, .int .i64 r2]) ∧ Drawn0 w w' := by
  have H : (if 0 < (a0.size : Int) then (if (bt a0 0) = 40 then (some (3, 1)) else (if (bt a0 0) = 41 then (some (4, 1)) else (if (bt a0 0) = 44 then (some (5, 1)) else (if (bt a0 0) = 61 then (some (6, 1)) else ((strings_HasPrefix.f a0 (⟨#[45, 62]⟩ : ByteArray)).bind fun t226 => (if t226 = true then (some (7, 2)) else (some (0, 0)))))))) else (none)) = some (r1, r2) := h
  clear h
  by_cases c2 : 0 < (a0.size : Int)
  · rw [if_pos c2] at H
    have c2b0 : decide (0 < (a0.size : Int)) = true := decide_eq_true c2
    have c2b1 : decide (0 < a0.size) = true := decide_eq_true (by omega)
    clear c2
    by_cases c4 : (bt a0 0) = 40
    · rw [if_pos c4] at H
      have c4b0 : ((bt a0 0) == 40) = true := beq_iff_eq.mpr c4
      have c4b1 : ((bt a0 0) != 40) = false := bne_eq_false_iff_eq.mpr c4
      clear c4
      simp only [Option.some.injEq, Prod.mk.injEq] at H
      obtain ⟨rfl, rfl⟩ := H
      have p3 : 0 ≤ (0 : Int) := (by omega)
      have q3 : 0 < a0.size := (by have : (0 : Int) < (a0.size : Int) := of_decide_eq_true (by first | (with_reducible assumption) | assumption); omega)
      have hx3 : ∀ h : 0 < a0.size, ((a0[0]'h).toNat : Int) = bt a0 0 := bt_at a0 0
      clear p3
      have qi3 : (0 < (a0.size : Int)) = True := eq_true (of_decide_eq_true (by first | (with_reducible assumption) | assumption))
      replace q3 := eq_true q3
      go_enter Try.func54, Try.ntmps54
      go_wp2
      go_ret2
      exact ⟨by first | rfl | (simp; done) | (simp [*]; done), by repeat (first | exact Drawn0.refl _ | apply Drawn0.step)⟩
    · rw [if_neg c4] at H
      have c4b0 : ((bt a0 0) == 40) = false := beq_eq_false_iff_ne.mpr c4
      have c4b1 : ((bt a0 0) != 40) = true := bne_iff_ne.mpr c4
      by_cases c5 : (bt a0 0) = 41
      · rw [if_pos c5] at H
        have c5b0 : ((bt a0 0) == 41) = true := beq_iff_eq.mpr c5
        have c5b1 : ((bt a0 0) != 41) = false := bne_eq_false_iff_eq.mpr c5
        clear c5
        simp only [Option.some.injEq, Prod.mk.injEq] at H
        obtain ⟨rfl, rfl⟩ := H
        have p3 : 0 ≤ (0 : Int) := (by omega)
        have q3 : 0 < a0.size := (by have : (0 : Int) < (a0.size : Int) := of_decide_eq_true (by first | (with_reducible assumption) | assumption); omega)
        have hx3 : ∀ h : 0 < a0.size, ((a0[0]'h).toNat : Int) = bt a0 0 := bt_at a0 0
        clear p3
        have qi3 : (0 < (a0.size : Int)) = True := eq_true (of_decide_eq_true (by first | (with_reducible assumption) | assumption))
        replace q3 := eq_true q3
        go_enter Try.func54, Try.ntmps54
        go_wp2
        go_ret2
        exact ⟨by first | rfl | (simp; done) | (simp [*]; done), by repeat (first | exact Drawn0.refl _ | apply Drawn0.step)⟩
      · rw [if_neg c5] at H
        have c5b0 : ((bt a0 0) == 41) = false := beq_eq_false_iff_ne.mpr c5
        have c5b1 : ((bt a0 0) != 41) = true := bne_iff_ne.mpr c5
        by_cases c6 : (bt a0 0) = 44
        · rw [if_pos c6] at H
          have c6b0 : ((bt a0 0) == 44) = true := beq_iff_eq.mpr c6
          have c6b1 : ((bt a0 0) != 44) = false := bne_eq_false_iff_eq.mpr c6
          clear c6
          simp only [Option.some.injEq, Prod.mk.injEq] at H
          obtain ⟨rfl, rfl⟩ := H
          have p3 : 0 ≤ (0 : Int) := (by omega)
          have q3 : 0 < a0.size := (by have : (0 : Int) < (a0.size : Int) := of_decide_eq_true (by first | (with_reducible assumption) | assumption); omega)
          have hx3 : ∀ h : 0 < a0.size, ((a0[0]'h).toNat : Int) = bt a0 0 := bt_at a0 0
          clear p3
          have qi3 : (0 < (a0.size : Int)) = True := eq_true (of_decide_eq_true (by first | (with_reducible assumption) | assumption))
          replace q3 := eq_true q3
          go_enter Try.func54, Try.ntmps54
          go_wp2
          go_ret2
          exact ⟨by first | rfl | (simp; done) | (simp [*]; done), by repeat (first | exact Drawn0.refl _ | apply Drawn0.step)⟩
        · rw [if_neg c6] at H
          have c6b0 : ((bt a0 0) == 44) = false := beq_eq_false_iff_ne.mpr c6
          have c6b1 : ((bt a0 0) != 44) = true := bne_iff_ne.mpr c6
          by_cases c7 : (bt a0 0) = 61
          · rw [if_pos c7] at H
            have c7b0 : ((bt a0 0) == 61) = true := beq_iff_eq.mpr c7
            have c7b1 : ((bt a0 0) != 61) = false := bne_eq_false_iff_eq.mpr c7
            clear c7
            simp only [Option.some.injEq, Prod.mk.injEq] at H
            obtain ⟨rfl, rfl⟩ := H
            have p3 : 0 ≤ (0 : Int) := (by omega)
            have q3 : 0 < a0.size := (by have : (0 : Int) < (a0.size : Int) := of_decide_eq_true (by first | (with_reducible assumption) | assumption); omega)
            have hx3 : ∀ h : 0 < a0.size, ((a0[0]'h).toNat : Int) = bt a0 0 := bt_at a0 0
            clear p3
            have qi3 : (0 < (a0.size : Int)) = True := eq_true (of_decide_eq_true (by first | (with_reducible assumption) | assumption))
            replace q3 := eq_true q3
            go_enter Try.func54, Try.ntmps54
            go_wp2
            go_ret2
            exact ⟨by first | rfl | (simp; done) | (simp [*]; done), by repeat (first | exact Drawn0.refl _ | apply Drawn0.step)⟩
          · rw [if_neg c7] at H
            have c7b0 : ((bt a0 0) == 61) = false := beq_eq_false_iff_ne.mpr c7
            have c7b1 : ((bt a0 0) != 61) = true := bne_iff_ne.mpr c7
            replace H := Option.bind_eq_some_iff.mp H
            obtain ⟨t226, A80, H⟩ := H
            replace H : (if t226 = true then (some (7, 2)) else (some (0, 0))) = some (r1, r2) := H
            have A8 := Aside0.mk A80
            clear A80
            by_cases c9 : t226 = true
            · subst c9
              have H1 : (some (7, 2)) = some (r1, r2) := by rw [if_pos rfl] at H; exact H
              clear H
              have H := H1
              clear H1
              simp only [Option.some.injEq, Prod.mk.injEq] at H
              obtain ⟨rfl, rfl⟩ := H
              have p3 : 0 ≤ (0 : Int) := (by omega)
              have q3 : 0 < a0.size := (by have : (0 : Int) < (a0.size : Int) := of_decide_eq_true (by first | (with_reducible assumption) | assumption); omega)
              have hx3 : ∀ h : 0 < a0.size, ((a0[0]'h).toNat : Int) = bt a0 0 := bt_at a0 0
              clear p3
              have qi3 : (0 < (a0.size : Int)) = True := eq_true (of_decide_eq_true (by first | (with_reducible assumption) | assumption))
              replace q3 := eq_true q3
              go_enter Try.func54, Try.ntmps54
              go_wp2_with (first | ((with_reducible refine gate_callee (f := 59) rfl ?_); refine goesL_ (some 15) rfl rfl Try.func59 (by kernel_rfl) rfl #[.string a0, .string (⟨#[45, 62]⟩ : ByteArray)] rfl (by (try simp only [List.map_toArray, List.map_cons, List.map_nil]); first | done | rfl | (simp only [List.length_drop, List.length_take]; rfl)) ?_; (with_reducible refine (strings_HasPrefix.calls a0 (⟨#[45, 62]⟩ : ByteArray) true _ A8.out).mono ?_); rintro e w' ⟨rfl, ⟨nd, rfl⟩⟩; refine ⟨_, rfl, ?_⟩))
              go_ret2
              exact ⟨by first | rfl | (simp; done) | (simp [*]; done), by repeat (first | exact Drawn0.refl _ | apply Drawn0.step)⟩
            · replace c9 := Bool.eq_false_iff.mpr c9
              subst c9
              have H1 : (some (0, 0)) = some (r1, r2) := by rw [if_neg (show ¬ (false = true) by decide)] at H; exact H
              clear H
              have H := H1
              clear H1
              simp only [Option.some.injEq, Prod.mk.injEq] at H
              obtain ⟨rfl, rfl⟩ := H
              have p3 : 0 ≤ (0 : Int) := (by omega)
              have q3 : 0 < a0.size := (by have : (0 : Int) < (a0.size : Int) := of_decide_eq_true (by first | (with_reducible assumption) | assumption); omega)
              have hx3 : ∀ h : 0 < a0.size, ((a0[0]'h).toNat : Int) = bt a0 0 := bt_at a0 0
              clear p3
              have qi3 : (0 < (a0.size : Int)) = True := eq_true (of_decide_eq_true (by first | (with_reducible assumption) | assumption))
              replace q3 := eq_true q3
              go_enter Try.func54, Try.ntmps54
              go_wp2_with (first | ((with_reducible refine gate_callee (f := 59) rfl ?_); refine goesL_ (some 15) rfl rfl Try.func59 (by kernel_rfl) rfl #[.string a0, .string (⟨#[45, 62]⟩ : ByteArray)] rfl (by (try simp only [List.map_toArray, List.map_cons, List.map_nil]); first | done | rfl | (simp only [List.length_drop, List.length_take]; rfl)) ?_; (with_reducible refine (strings_HasPrefix.calls a0 (⟨#[45, 62]⟩ : ByteArray) false _ A8.out).mono ?_); rintro e w' ⟨rfl, ⟨nd, rfl⟩⟩; refine ⟨_, rfl, ?_⟩))
              go_ret2
              exact ⟨by first | rfl | (simp; done) | (simp [*]; done), by repeat (first | exact Drawn0.refl _ | apply Drawn0.step)⟩
  · rw [if_neg c2] at H
    exact absurd H (by simp)

def spB : ByteArray := ⟨#[32]⟩
def lowsB : ByteArray := ⟨#[97, 98, 99, 100, 101, 102, 103, 104, 105, 106, 107, 108, 109, 110, 111, 112, 113, 114, 115, 116, 117, 118, 119, 120, 121, 122]⟩
def upsB : ByteArray := ⟨#[65, 66, 67, 68, 69, 70, 71, 72, 73, 74, 75, 76, 77, 78, 79, 80, 81, 82, 83, 84, 85, 86, 87, 88, 89, 90]⟩
def digsB : ByteArray := ⟨#[48, 49, 50, 51, 52, 53, 54, 55, 56, 57]⟩
def lowdigsB : ByteArray := ⟨#[97, 98, 99, 100, 101, 102, 103, 104, 105, 106, 107, 108, 109, 110, 111, 112, 113, 114, 115, 116, 117, 118, 119, 120, 121, 122, 48, 49, 50, 51, 52, 53, 54, 55, 56, 57]⟩
def allsB : ByteArray := ⟨#[65, 66, 67, 68, 69, 70, 71, 72, 73, 74, 75, 76, 77, 78, 79, 80, 81, 82, 83, 84, 85, 86, 87, 88, 89, 90, 97, 98, 99, 100, 101, 102, 103, 104, 105, 106, 107, 108, 109, 110, 111, 112, 113, 114, 115, 116, 117, 118, 119, 120, 121, 122, 48, 49, 50, 51, 52, 53, 54, 55, 56, 57]⟩
abbrev NextR := Int × ByteArray × Int × Int × Int
/-- the word of a kind, n bytes long, at the head of what is left -/
def nextFin (p : Int) (r : ByteArray) (kind n : Int) : Option NextR :=
  if 12 < n then some (0, (⟨#[]⟩ : ByteArray), 0, p, 22) else (if 0 ≤ n then (if n ≤ (r.size : Int) then some (kind, r.extract 0 n.toNat, p, wrap64 (p + n), 0) else none) else none)
/-- what begins at the head of what is left, no sign -/
def nextWord (k : Nat) (p : Int) (r : ByteArray) : Option NextR :=
  (strings_IndexByte.f lowsB (bt r 0)).bind fun t => if 0 ≤ t then ((words_run.f k r 0 lowdigsB).bind fun n => nextFin p r 1 n) else
  ((strings_IndexByte.f upsB (bt r 0)).bind fun t => if 0 ≤ t then ((words_run.f k r 0 allsB).bind fun n => nextFin p r 2 n) else
  (if bt r 0 = 95 then ((words_run.f k r 1 digsB).bind fun n => if n = 1 then some (0, (⟨#[]⟩ : ByteArray), 0, p, 21) else
    (if 1 < r.size then (if bt r 1 = 48 then some (0, (⟨#[]⟩ : ByteArray), 0, p, 21) else nextFin p r 2 n) else none)) else some (0, (⟨#[]⟩ : ByteArray), 0, p, 21)))
def nextRest (k : Nat) (p : Int) (r : ByteArray) : Option NextR :=
  (words_sign.f r).bind fun x => if 0 < r.size then (if x.1 = 0 then nextWord k p r else nextFin p r x.1 x.2) else none
def words_Next.f (k : Nat) (s : ByteArray) (a : Int) : Option NextR :=
  if a < 0 then some (0, (⟨#[]⟩ : ByteArray), 0, 0, 1) else if (s.size : Int) < a then some (0, (⟨#[]⟩ : ByteArray), 0, 0, 1) else
  (words_run.f k s a spB).bind fun p => if p = (s.size : Int) then some (0, (⟨#[]⟩ : ByteArray), 0, p, 0) else
    (if 0 ≤ p then (if p ≤ (s.size : Int) then nextRest k p (s.extract p.toNat s.size) else none) else none)
theorem words_Next.mono : ∀ a0 a1 k, LeO (words_Next.f k a0 a1) (words_Next.f (k + 1) a0 a1) := by
  intro a0 a1 k
  unfold words_Next.f
  refine LeO.ite (LeO.refl _) (LeO.ite (LeO.refl _) (LeO.bind (words_run.mono _ _ _ _) (fun p => LeO.ite (LeO.refl _) (LeO.ite (LeO.ite ?_ (LeO.refl _)) (LeO.refl _)))))
  unfold nextRest
  refine LeO.bind (LeO.refl _) (fun x => LeO.ite (LeO.ite ?_ (LeO.refl _)) (LeO.refl _))
  unfold nextWord
  refine LeO.bind (LeO.refl _) (fun t => LeO.ite (LeO.bind (words_run.mono _ _ _ _) (fun _ => LeO.refl _)) (LeO.bind (LeO.refl _) (fun t => LeO.ite (LeO.bind (words_run.mono _ _ _ _) (fun _ => LeO.refl _)) (LeO.ite (LeO.bind (words_run.mono _ _ _ _) (fun _ => LeO.refl _)) (LeO.refl _)))))
set_option maxHeartbeats 4000000 in
set_option maxRecDepth 100000 in
theorem words_Next.calls (k : Nat) (a0 : ByteArray) (a1 : Int) (r1 : Int) (r2 : ByteArray) (r3 : Int) (r4 : Int) (r5 : Int) (w : World) (h : words_Next.f k a0 a1 = some (r1, r2, r3, r4, r5)) :
    Calls Try.prog 46 #[.string a0, .int .i64 a1] w fun e w' => e = .returned (.tuple #[.agg #[.int .i64 r1, .string r2, .int .i64 r3], .int .i64 r4, .int .i64 r5]) ∧ Below w.heap.size w w' := by
  have hu26 := Try.underlying70
  unfold words_Next.f at h
  by_cases c1 : a1 < 0
  · rw [if_pos c1] at h
    simp only [Option.some.injEq, Prod.mk.injEq] at h
    obtain ⟨rfl, rfl, rfl, rfl, rfl⟩ := h
    have c1b : decide (a1 < 0) = true := decide_eq_true c1
    go_enter Try.func46, Try.ntmps46
    go_wp2
    exact bodyPost_ret (v := .tuple #[.agg #[.int .i64 0, .string (⟨#[]⟩ : ByteArray), .int .i64 0], .int .i64 0, .int .i64 1]) (by simp [results, Try.results46, go_sem]) rfl ⟨rfl, (Below.refl _ _).alloc (Nat.le_refl _) _⟩
  · rw [if_neg c1] at h
    have c1b : decide (a1 < 0) = false := decide_eq_false c1
    by_cases c2 : (a0.size : Int) < a1
    · rw [if_pos c2] at h
      simp only [Option.some.injEq, Prod.mk.injEq] at h
      obtain ⟨rfl, rfl, rfl, rfl, rfl⟩ := h
      have c2b : decide ((a0.size : Int) < a1) = true := decide_eq_true c2
      go_enter Try.func46, Try.ntmps46
      go_wp2
      exact bodyPost_ret (v := .tuple #[.agg #[.int .i64 0, .string (⟨#[]⟩ : ByteArray), .int .i64 0], .int .i64 0, .int .i64 1]) (by simp [results, Try.results46, go_sem]) rfl ⟨rfl, (Below.refl _ _).alloc (Nat.le_refl _) _⟩
    · rw [if_neg c2] at h
      have c2b : decide ((a0.size : Int) < a1) = false := decide_eq_false c2
      clear c1 c2
      obtain ⟨p, hp, h⟩ := Option.bind_eq_some_iff.mp h
      have HP := Aside0.mk (words_run.calls k a0 a1 spB p)
      have Hp := Aside0.mk hp
      clear hp
      by_cases c3 : p = (a0.size : Int)
      · rw [if_pos c3] at h
        have c3b : (p == (a0.size : Int)) = true := beq_iff_eq.mpr c3
        simp only [Option.some.injEq, Prod.mk.injEq] at h
        obtain ⟨rfl, rfl, rfl, rfl, rfl⟩ := h
        clear c3
        go_enter Try.func46, Try.ntmps46
        go_wp2_with fail
        refine (HP.out _ Hp.out).mono ?_
        rintro e w1 ⟨rfl, ⟨m1, rfl⟩⟩
        go_wp2
        exact bodyPost_ret (v := .tuple #[.agg #[.int .i64 0, .string (⟨#[]⟩ : ByteArray), .int .i64 0], .int .i64 p, .int .i64 0]) (by simp [results, Try.results46, go_sem]) rfl ⟨rfl, by repeat (first | exact (Below.refl _ _).alloc (Nat.le_refl _) _ | apply pw_below_drewN | refine below_set ?_ (Nat.le_refl _))⟩
      · rw [if_neg c3] at h
        have c3b : (p == (a0.size : Int)) = false := beq_eq_false_iff_ne.mpr c3
        clear c3
        by_cases c4 : 0 ≤ p
        · rw [if_pos c4] at h
          by_cases c5 : p ≤ (a0.size : Int)
          · rw [if_pos c5] at h
            unfold nextRest at h
            obtain ⟨⟨kd, n0⟩, hsg, h⟩ := Option.bind_eq_some_iff.mp h
            dsimp only at h
            by_cases c6 : 0 < (a0.extract p.toNat a0.size).size
            · rw [if_pos c6] at h
              obtain ⟨r, hr⟩ : ∃ r, r = a0.extract p.toNat a0.size := ⟨_, rfl⟩
              have Hr := Aside0.mk hr.symm
              rw [← hr] at hsg h c6
              have HS := Aside0.mk (words_sign.calls r kd n0)
              have Hsg := Aside0.mk hsg
              clear hsg hr
              have hidx0 : ∀ h : 0 < r.size, ((r[0]'h).toNat : Int) = bt r 0 := bt_at r 0
              have hidx1 : ∀ h : 1 < r.size, ((r[1]'h).toNat : Int) = bt r 1 := bt_at r 1
              go_enter Try.func46, Try.ntmps46
              go_wp2_with fail
              refine (HP.out _ Hp.out).mono ?_
              rintro e w1 ⟨rfl, ⟨m1, rfl⟩⟩
              go_wp2_with fail
              rw [Hr.out]
              refine (HS.out _ Hsg.out).mono ?_
              rintro e w2 ⟨rfl, ⟨m2, rfl⟩⟩
              by_cases c7 : kd = 0
              · rw [if_pos c7] at h
                have c7b : (kd != 0) = false := bne_eq_false_iff_eq.mpr c7
                have c7c : (kd == 0) = true := beq_iff_eq.mpr c7
                clear c7
                unfold nextWord at h
                obtain ⟨t1, ht1, h⟩ := Option.bind_eq_some_iff.mp h
                have H1 := Aside0.mk (strings_IndexByte.calls lowsB (bt r 0) t1)
                have Ht1 := Aside0.mk ht1
                clear ht1
                by_cases c8 : 0 ≤ t1
                · rw [if_pos c8] at h
                  have c8b : decide (0 ≤ t1) = true := decide_eq_true c8
                  clear c8
                  obtain ⟨n, hn, h⟩ := Option.bind_eq_some_iff.mp h
                  have H2 := Aside0.mk (words_run.calls k r 0 lowdigsB n)
                  have Hn := Aside0.mk hn
                  clear hn
                  go_wp2_with fail
                  refine (H1.out _ Ht1.out).mono ?_
                  rintro e w3 ⟨rfl, ⟨m3, rfl⟩⟩
                  go_wp2_with fail
                  refine (H2.out _ Hn.out).mono ?_
                  rintro e w4 ⟨rfl, ⟨m4, rfl⟩⟩
                  unfold nextFin at h
                  by_cases d1 : 12 < n
                  · rw [if_pos d1] at h
                    have d1b : decide (12 < n) = true := decide_eq_true d1
                    simp only [Option.some.injEq, Prod.mk.injEq] at h
                    obtain ⟨rfl, rfl, rfl, rfl, rfl⟩ := h
                    clear d1
                    go_wp2
                    exact bodyPost_ret (v := .tuple #[.agg #[.int .i64 0, .string (⟨#[]⟩ : ByteArray), .int .i64 0], .int .i64 p, .int .i64 22]) (by simp [results, Try.results46, go_sem]) rfl ⟨rfl, by repeat (first | exact (Below.refl _ _).alloc (Nat.le_refl _) _ | apply pw_below_drewN | refine below_set ?_ (Nat.le_refl _))⟩
                  · rw [if_neg d1] at h
                    have d1b : decide (12 < n) = false := decide_eq_false d1
                    by_cases d2 : 0 ≤ n
                    · rw [if_pos d2] at h
                      by_cases d3 : n ≤ (r.size : Int)
                      · rw [if_pos d3] at h
                        simp only [Option.some.injEq, Prod.mk.injEq] at h
                        obtain ⟨rfl, rfl, rfl, rfl, rfl⟩ := h
                        clear d1 c4 c5
                        go_wp2
                        exact bodyPost_ret (v := .tuple #[.agg #[.int .i64 1, .string (r.extract 0 (n).toNat), .int .i64 p], .int .i64 (wrap64 (p + n)), .int .i64 0]) (by simp [results, Try.results46, go_sem]) rfl ⟨rfl, by repeat (first | exact (Below.refl _ _).alloc (Nat.le_refl _) _ | apply pw_below_drewN | refine below_set ?_ (Nat.le_refl _))⟩
                      · rw [if_neg d3] at h
                        cases h
                    · rw [if_neg d2] at h
                      cases h
                · rw [if_neg c8] at h
                  have c8b : decide (0 ≤ t1) = false := decide_eq_false c8
                  clear c8
                  obtain ⟨t2, ht2, h⟩ := Option.bind_eq_some_iff.mp h
                  have H2 := Aside0.mk (strings_IndexByte.calls upsB (bt r 0) t2)
                  have Ht2 := Aside0.mk ht2
                  clear ht2
                  by_cases c9 : 0 ≤ t2
                  · rw [if_pos c9] at h
                    have c9b : decide (0 ≤ t2) = true := decide_eq_true c9
                    clear c9
                    obtain ⟨n, hn, h⟩ := Option.bind_eq_some_iff.mp h
                    have H3 := Aside0.mk (words_run.calls k r 0 allsB n)
                    have Hn := Aside0.mk hn
                    clear hn
                    go_wp2_with fail
                    refine (H1.out _ Ht1.out).mono ?_
                    rintro e w3 ⟨rfl, ⟨m3, rfl⟩⟩
                    go_wp2_with fail
                    refine (H2.out _ Ht2.out).mono ?_
                    rintro e w4 ⟨rfl, ⟨m4, rfl⟩⟩
                    go_wp2_with fail
                    refine (H3.out _ Hn.out).mono ?_
                    rintro e w5 ⟨rfl, ⟨m5, rfl⟩⟩
                    unfold nextFin at h
                    by_cases d1 : 12 < n
                    · rw [if_pos d1] at h
                      have d1b : decide (12 < n) = true := decide_eq_true d1
                      simp only [Option.some.injEq, Prod.mk.injEq] at h
                      obtain ⟨rfl, rfl, rfl, rfl, rfl⟩ := h
                      clear d1
                      go_wp2
                      exact bodyPost_ret (v := .tuple #[.agg #[.int .i64 0, .string (⟨#[]⟩ : ByteArray), .int .i64 0], .int .i64 p, .int .i64 22]) (by simp [results, Try.results46, go_sem]) rfl ⟨rfl, by repeat (first | exact (Below.refl _ _).alloc (Nat.le_refl _) _ | apply pw_below_drewN | refine below_set ?_ (Nat.le_refl _))⟩
                    · rw [if_neg d1] at h
                      have d1b : decide (12 < n) = false := decide_eq_false d1
                      by_cases d2 : 0 ≤ n
                      · rw [if_pos d2] at h
                        by_cases d3 : n ≤ (r.size : Int)
                        · rw [if_pos d3] at h
                          simp only [Option.some.injEq, Prod.mk.injEq] at h
                          obtain ⟨rfl, rfl, rfl, rfl, rfl⟩ := h
                          clear d1 c4 c5
                          go_wp2
                          exact bodyPost_ret (v := .tuple #[.agg #[.int .i64 2, .string (r.extract 0 (n).toNat), .int .i64 p], .int .i64 (wrap64 (p + n)), .int .i64 0]) (by simp [results, Try.results46, go_sem]) rfl ⟨rfl, by repeat (first | exact (Below.refl _ _).alloc (Nat.le_refl _) _ | apply pw_below_drewN | refine below_set ?_ (Nat.le_refl _))⟩
                        · rw [if_neg d3] at h
                          cases h
                      · rw [if_neg d2] at h
                        cases h
                  · rw [if_neg c9] at h
                    have c9b : decide (0 ≤ t2) = false := decide_eq_false c9
                    clear c9
                    by_cases c10 : bt r 0 = 95
                    · rw [if_pos c10] at h
                      have c10b : (bt r 0 == 95) = true := beq_iff_eq.mpr c10
                      clear c10
                      obtain ⟨n, hn, h⟩ := Option.bind_eq_some_iff.mp h
                      have H3 := Aside0.mk (words_run.calls k r 1 digsB n)
                      have Hn := Aside0.mk hn
                      clear hn
                      go_wp2_with fail
                      refine (H1.out _ Ht1.out).mono ?_
                      rintro e w3 ⟨rfl, ⟨m3, rfl⟩⟩
                      go_wp2_with fail
                      refine (H2.out _ Ht2.out).mono ?_
                      rintro e w4 ⟨rfl, ⟨m4, rfl⟩⟩
                      go_wp2_with fail
                      refine (H3.out _ Hn.out).mono ?_
                      rintro e w5 ⟨rfl, ⟨m5, rfl⟩⟩
                      by_cases c11 : n = 1
                      · rw [if_pos c11] at h
                        have c11b : (n == 1) = true := beq_iff_eq.mpr c11
                        simp only [Option.some.injEq, Prod.mk.injEq] at h
                        obtain ⟨rfl, rfl, rfl, rfl, rfl⟩ := h
                        clear c11 c4 c5
                        go_wp2
                        exact bodyPost_ret (v := .tuple #[.agg #[.int .i64 0, .string (⟨#[]⟩ : ByteArray), .int .i64 0], .int .i64 p, .int .i64 21]) (by simp [results, Try.results46, go_sem]) rfl ⟨rfl, by repeat (first | exact (Below.refl _ _).alloc (Nat.le_refl _) _ | apply pw_below_drewN | refine below_set ?_ (Nat.le_refl _))⟩
                      · rw [if_neg c11] at h
                        have c11b : (n == 1) = false := beq_eq_false_iff_ne.mpr c11
                        clear c11
                        by_cases c12 : 1 < r.size
                        · rw [if_pos c12] at h
                          by_cases c13 : bt r 1 = 48
                          · rw [if_pos c13] at h
                            have c13b : (bt r 1 == 48) = true := beq_iff_eq.mpr c13
                            simp only [Option.some.injEq, Prod.mk.injEq] at h
                            obtain ⟨rfl, rfl, rfl, rfl, rfl⟩ := h
                            clear c13 c4 c5
                            go_wp2
                            exact bodyPost_ret (v := .tuple #[.agg #[.int .i64 0, .string (⟨#[]⟩ : ByteArray), .int .i64 0], .int .i64 p, .int .i64 21]) (by simp [results, Try.results46, go_sem]) rfl ⟨rfl, by repeat (first | exact (Below.refl _ _).alloc (Nat.le_refl _) _ | apply pw_below_drewN | refine below_set ?_ (Nat.le_refl _))⟩
                          · rw [if_neg c13] at h
                            have c13b : (bt r 1 == 48) = false := beq_eq_false_iff_ne.mpr c13
                            clear c13
                            unfold nextFin at h
                            by_cases d1 : 12 < n
                            · rw [if_pos d1] at h
                              have d1b : decide (12 < n) = true := decide_eq_true d1
                              simp only [Option.some.injEq, Prod.mk.injEq] at h
                              obtain ⟨rfl, rfl, rfl, rfl, rfl⟩ := h
                              clear d1
                              go_wp2
                              exact bodyPost_ret (v := .tuple #[.agg #[.int .i64 0, .string (⟨#[]⟩ : ByteArray), .int .i64 0], .int .i64 p, .int .i64 22]) (by simp [results, Try.results46, go_sem]) rfl ⟨rfl, by repeat (first | exact (Below.refl _ _).alloc (Nat.le_refl _) _ | apply pw_below_drewN | refine below_set ?_ (Nat.le_refl _))⟩
                            · rw [if_neg d1] at h
                              have d1b : decide (12 < n) = false := decide_eq_false d1
                              by_cases d2 : 0 ≤ n
                              · rw [if_pos d2] at h
                                by_cases d3 : n ≤ (r.size : Int)
                                · rw [if_pos d3] at h
                                  simp only [Option.some.injEq, Prod.mk.injEq] at h
                                  obtain ⟨rfl, rfl, rfl, rfl, rfl⟩ := h
                                  clear d1 c4 c5
                                  go_wp2
                                  exact bodyPost_ret (v := .tuple #[.agg #[.int .i64 2, .string (r.extract 0 (n).toNat), .int .i64 p], .int .i64 (wrap64 (p + n)), .int .i64 0]) (by simp [results, Try.results46, go_sem]) rfl ⟨rfl, by repeat (first | exact (Below.refl _ _).alloc (Nat.le_refl _) _ | apply pw_below_drewN | refine below_set ?_ (Nat.le_refl _))⟩
                                · rw [if_neg d3] at h
                                  cases h
                              · rw [if_neg d2] at h
                                cases h
                        · rw [if_neg c12] at h
                          cases h
                    · rw [if_neg c10] at h
                      have c10b : (bt r 0 == 95) = false := beq_eq_false_iff_ne.mpr c10
                      clear c10
                      simp only [Option.some.injEq, Prod.mk.injEq] at h
                      obtain ⟨rfl, rfl, rfl, rfl, rfl⟩ := h
                      go_wp2_with fail
                      refine (H1.out _ Ht1.out).mono ?_
                      rintro e w3 ⟨rfl, ⟨m3, rfl⟩⟩
                      go_wp2_with fail
                      refine (H2.out _ Ht2.out).mono ?_
                      rintro e w4 ⟨rfl, ⟨m4, rfl⟩⟩
                      clear c4 c5
                      go_wp2
                      exact bodyPost_ret (v := .tuple #[.agg #[.int .i64 0, .string (⟨#[]⟩ : ByteArray), .int .i64 0], .int .i64 p, .int .i64 21]) (by simp [results, Try.results46, go_sem]) rfl ⟨rfl, by repeat (first | exact (Below.refl _ _).alloc (Nat.le_refl _) _ | apply pw_below_drewN | refine below_set ?_ (Nat.le_refl _))⟩
              · rw [if_neg c7] at h
                have c7b : (kd != 0) = true := bne_iff_ne.mpr c7
                have c7c : (kd == 0) = false := beq_eq_false_iff_ne.mpr c7
                clear c7
                unfold nextFin at h
                by_cases d1 : 12 < n0
                · rw [if_pos d1] at h
                  have d1b : decide (12 < n0) = true := decide_eq_true d1
                  simp only [Option.some.injEq, Prod.mk.injEq] at h
                  obtain ⟨rfl, rfl, rfl, rfl, rfl⟩ := h
                  clear d1
                  go_wp2
                  exact bodyPost_ret (v := .tuple #[.agg #[.int .i64 0, .string (⟨#[]⟩ : ByteArray), .int .i64 0], .int .i64 p, .int .i64 22]) (by simp [results, Try.results46, go_sem]) rfl ⟨rfl, by repeat (first | exact (Below.refl _ _).alloc (Nat.le_refl _) _ | apply pw_below_drewN | refine below_set ?_ (Nat.le_refl _))⟩
                · rw [if_neg d1] at h
                  have d1b : decide (12 < n0) = false := decide_eq_false d1
                  by_cases d2 : 0 ≤ n0
                  · rw [if_pos d2] at h
                    by_cases d3 : n0 ≤ (r.size : Int)
                    · rw [if_pos d3] at h
                      simp only [Option.some.injEq, Prod.mk.injEq] at h
                      obtain ⟨rfl, rfl, rfl, rfl, rfl⟩ := h
                      clear d1 c4 c5
                      go_wp2
                      exact bodyPost_ret (v := .tuple #[.agg #[.int .i64 kd, .string (r.extract 0 (n0).toNat), .int .i64 p], .int .i64 (wrap64 (p + n0)), .int .i64 0]) (by simp [results, Try.results46, go_sem]) rfl ⟨rfl, by repeat (first | exact (Below.refl _ _).alloc (Nat.le_refl _) _ | apply pw_below_drewN | refine below_set ?_ (Nat.le_refl _))⟩
                    · rw [if_neg d3] at h
                      cases h
                  · rw [if_neg d2] at h
                    cases h
            · rw [if_neg c6] at h
              cases h
          · rw [if_neg c5] at h
            cases h
        · rw [if_neg c4] at h
          cases h

def sig_Find.l0 : Nat → List (S62) → ByteArray → Int → Int → Option (Int × Bool)
  | 0, _, _, _, _ => none
  | k + 1, x0, x1, x8, x9 => if x9 < x8 then (if 0 ≤ x9 then (if x9 < (x0.length : Int) then (if ((rd_T62 x0 x9).f0).toList = x1.toList then (some (x9, true)) else (sig_Find.l0 k x0 x1 x8 (wrap64 (x9 + 1)))) else (none)) else (none)) else (some (0, false))
def sig_Find.f (k : Nat) (l0 : List (S62)) (a1 : ByteArray) : Option (Int × Bool) := sig_Find.l0 k l0 a1 (l0.length : Int) 0
theorem sig_Find.mono_l : ∀ k, (∀ y0 y1 y2 y3, LeO (sig_Find.l0 k y0 y1 y2 y3) (sig_Find.l0 (k + 1) y0 y1 y2 y3))
  | 0 => fun _ _ _ _ r h => by simp [sig_Find.l0] at h
  | k + 1 => by
    have ih0 := sig_Find.mono_l k
    · intro y0 y1 y2 y3
      unfold sig_Find.l0
      repeat' first
      | (with_reducible exact ih0 _ _ _ _)
      | (with_reducible exact LeO.refl _)
      | (with_reducible exact LeO.none _)
      | (with_reducible refine LeO.ite ?_ ?_)
      | (with_reducible refine LeO.bind ?_ (fun _ => ?_))
      | exact ih0 _ _ _ _
      | exact LeO.none _
      | refine LeO.ite ?_ ?_
      | refine LeO.bind ?_ (fun _ => ?_)
theorem sig_Find.mono : ∀ a0 a1 k, LeO (sig_Find.f k a0 a1) (sig_Find.f (k + 1) a0 a1) := by
  intro a0 a1 k
  have ih0 := sig_Find.mono_l k
  unfold sig_Find.f
  repeat' first
      | (with_reducible exact ih0 _ _ _ _)
      | (with_reducible exact LeO.refl _)
      | (with_reducible exact LeO.none _)
      | (with_reducible refine LeO.ite ?_ ?_)
      | (with_reducible refine LeO.bind ?_ (fun _ => ?_))
      | exact ih0 _ _ _ _
      | exact LeO.none _
      | refine LeO.ite ?_ ?_
      | refine LeO.bind ?_ (fun _ => ?_)
set_option maxHeartbeats 8000000 in
set_option maxRecDepth 100000 in
theorem sig_Find.calls (k : Nat) (A0 : Option Addr) (c0 : Nat) (l0 : List (S62)) (a1 : ByteArray) (r1 : Int) (r2 : Bool) (w : World) (hr0 : Kd.C k62 w A0 l0.length l0) (hc0 : l0.length ≤ c0) (h : sig_Find.f k l0 a1 = some (r1, r2)) :
    Calls Try.prog 38 #[.slice A0 l0.length c0, .string a1] w fun e w' => e = .returned (.tuple #[.int .i64 r1, .bool r2]) ∧ Drawn0 w w' := by
  have HR0 := Aside0.mk hr0
  have HC0 := Aside0.mk hc0
  clear hr0 hc0
  have H : (sig_Find.l0 k l0 a1 (l0.length : Int) 0) = some (r1, r2) := h
  clear h
  have H' := Aside0.mk H
  clear H
  go_enter Try.func38, Try.ntmps38
  go_wp2
  go_loopg [9] k (fun kq v9 w' => ∃ (x9_1 : Int), v9 = .int .i64 x9_1 ∧ Aside0 (sig_Find.l0 kq l0 a1 (l0.length : Int) x9_1 = some (r1, r2)) ∧ Aside0 (kq ≤ k) ∧ Drawn0 w w')
  case atStart => exact ⟨(0), (by first | rfl | (simp; done) | (simp [*]; done)), H', ⟨Nat.le_refl _⟩, by repeat (first | exact Drawn0.refl _ | apply Drawn0.step)⟩
  case round =>
    clear H'
    obtain ⟨x9_1, rfl, HA, HK1, ⟨m1, rfl⟩⟩ := hrel
    cases gk with
    | zero => exact absurd HA.out (by simp [sig_Find.l0])
    | succ k1 =>
      have H := HA.out
      clear HA
      simp only [sig_Find.l0] at H
      by_cases c3 : x9_1 < (l0.length : Int)
      · rw [if_pos c3] at H
        have c3b0 : decide (x9_1 < (l0.length : Int)) = true := decide_eq_true c3
        clear c3
        by_cases c4 : 0 ≤ x9_1
        · rw [if_pos c4] at H
          have c4b0 : decide (0 ≤ x9_1) = true := decide_eq_true c4
          clear c4
          by_cases c5 : x9_1 < (l0.length : Int)
          · rw [if_pos c5] at H
            have c5b0 : decide (x9_1 < (l0.length : Int)) = true := decide_eq_true c5
            clear c5
            by_cases c6 : ((rd_T62 l0 x9_1).f0).toList = a1.toList
            · rw [if_pos c6] at H
              have c6b0 : (((rd_T62 l0 x9_1).f0).toList == a1.toList) = true := beq_iff_eq.mpr c6
              have c6b1 : (((rd_T62 l0 x9_1).f0).toList != a1.toList) = false := bne_eq_false_iff_eq.mpr c6
              clear c6
              simp only [Option.some.injEq, Prod.mk.injEq] at H
              obtain ⟨rfl, rfl⟩ := H
              have p227 : 0 ≤ (x9_1 : Int) := of_decide_eq_true (by first | (with_reducible assumption) | assumption)
              have q227 : x9_1 < (l0.length : Int) := of_decide_eq_true (by first | (with_reducible assumption) | assumption)
              obtain ⟨ad227, e227, hx227_0, hx227_1, hx227_2, hx227_3⟩ := at_T62 HR0.out x9_1 p227 q227
              cases e227
              replace p227 := eq_true p227
              replace q227 := eq_true q227
              go_wp2
              go_ret2
              exact ⟨by first | rfl | (simp; done) | (simp [*]; done), by repeat (first | exact Drawn0.refl _ | apply Drawn0.step)⟩
            · rw [if_neg c6] at H
              have c6b0 : (((rd_T62 l0 x9_1).f0).toList == a1.toList) = false := beq_eq_false_iff_ne.mpr c6
              have c6b1 : (((rd_T62 l0 x9_1).f0).toList != a1.toList) = true := bne_iff_ne.mpr c6
              have H' := Aside0.mk H
              clear H
              have p227 : 0 ≤ (x9_1 : Int) := of_decide_eq_true (by first | (with_reducible assumption) | assumption)
              have q227 : x9_1 < (l0.length : Int) := of_decide_eq_true (by first | (with_reducible assumption) | assumption)
              obtain ⟨ad227, e227, hx227_0, hx227_1, hx227_2, hx227_3⟩ := at_T62 HR0.out x9_1 p227 q227
              cases e227
              replace p227 := eq_true p227
              replace q227 := eq_true q227
              go_wp2
              go_roundg k1
              case measure => have := HK1.out; omega
              case rel => exact ⟨(wrap64 (x9_1 + 1)), (by first | rfl | (simp; done) | (simp [*]; done)), H', ⟨by have := HK1.out; omega⟩, by repeat (first | exact Drawn0.refl _ | apply Drawn0.step)⟩
          · rw [if_neg c5] at H
            exact absurd H (by simp)
        · rw [if_neg c4] at H
          exact absurd H (by simp)
      · rw [if_neg c3] at H
        have c3b0 : decide (x9_1 < (l0.length : Int)) = false := decide_eq_false c3
        clear c3
        simp only [Option.some.injEq, Prod.mk.injEq] at H
        obtain ⟨rfl, rfl⟩ := H
        go_wp2
        go_ret2
        exact ⟨by first | rfl | (simp; done) | (simp [*]; done), by repeat (first | exact Drawn0.refl _ | apply Drawn0.step)⟩

end Go.Proofs.Ytpepjodkahdicaa.PTb
