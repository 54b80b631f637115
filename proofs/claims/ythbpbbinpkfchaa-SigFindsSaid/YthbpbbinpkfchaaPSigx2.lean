-- Written by a program of this session (wip/tools/myprint.py): functions, contracts, their proofs. Lean checks it.
import Derived.Test.YthbpbbinpkfchaaPSigx0
namespace Go.Proofs.Ythbpbbinpkfchaa.PSig
open Go.RowKit Go.Proofs.YthbpbbinpkfchaaW.PrintWords Go.Proofs.YthbpbbinpkfchaaW.PrintLast Go.Proofs.YthbpbbinpkfchaaW.PrintMore
attribute [local go_sem] max2_int min2_int max_two min_two max_three min_three max_four min_four   -- for this text's walks alone
set_option linter.unusedVariables false
set_option linter.unusedSimpArgs false

/-! ### sig_low: function 28 -/
def sig_low.f (a0 : Int) : Option (Bool) := if 97 ≤ a0 then (some (decide (a0 ≤ 122))) else (some false)
set_option maxHeartbeats 4000000 in
set_option maxRecDepth 100000 in
theorem sig_low.calls (a0 : Int) (r : Bool) (w : World) (h : sig_low.f a0 = some r) :
    Calls Try.prog 28 #[.int .i32 a0] w fun e w' => e = .returned (.bool r) ∧ Drawn0 w w' := by
  have H : (if 97 ≤ a0 then (some (decide (a0 ≤ 122))) else (some false)) = some r := h
  clear h
  by_cases c2 : 97 ≤ a0
  · rw [if_pos c2] at H
    have c2b0 : decide (97 ≤ a0) = true := decide_eq_true c2
    clear c2
    obtain rfl := Option.some.inj H
    go_enter Try.func28, Try.ntmps28
    go_wp2
    go_ret
    exact ⟨by first | rfl | (simp; done) | (simp [*]; done), by repeat (first | exact Drawn0.refl _ | apply Drawn0.step)⟩
  · rw [if_neg c2] at H
    have c2b0 : decide (97 ≤ a0) = false := decide_eq_false c2
    clear c2
    obtain rfl := Option.some.inj H
    go_enter Try.func28, Try.ntmps28
    go_wp2
    go_ret
    exact ⟨by first | rfl | (simp; done) | (simp [*]; done), by repeat (first | exact Drawn0.refl _ | apply Drawn0.step)⟩

/-! ### sig_digit: function 29 -/
def sig_digit.f (a0 : Int) : Option (Bool) := if 48 ≤ a0 then (some (decide (a0 ≤ 57))) else (some false)
set_option maxHeartbeats 4000000 in
set_option maxRecDepth 100000 in
theorem sig_digit.calls (a0 : Int) (r : Bool) (w : World) (h : sig_digit.f a0 = some r) :
    Calls Try.prog 29 #[.int .i32 a0] w fun e w' => e = .returned (.bool r) ∧ Drawn0 w w' := by
  have H : (if 48 ≤ a0 then (some (decide (a0 ≤ 57))) else (some false)) = some r := h
  clear h
  by_cases c2 : 48 ≤ a0
  · rw [if_pos c2] at H
    have c2b0 : decide (48 ≤ a0) = true := decide_eq_true c2
    clear c2
    obtain rfl := Option.some.inj H
    go_enter Try.func29, Try.ntmps29
    go_wp2
    go_ret
    exact ⟨by first | rfl | (simp; done) | (simp [*]; done), by repeat (first | exact Drawn0.refl _ | apply Drawn0.step)⟩
  · rw [if_neg c2] at H
    have c2b0 : decide (48 ≤ a0) = false := decide_eq_false c2
    clear c2
    obtain rfl := Option.some.inj H
    go_enter Try.func29, Try.ntmps29
    go_wp2
    go_ret
    exact ⟨by first | rfl | (simp; done) | (simp [*]; done), by repeat (first | exact Drawn0.refl _ | apply Drawn0.step)⟩

/-! ### sig_Name: function 10 -/
/-- byte i of a name may stand there -/
def nmB (s : ByteArray) (i : Nat) : Bool := decide (97 ≤ bt s i ∧ bt s i ≤ 122) || (decide (0 < i) && decide (48 ≤ bt s i ∧ bt s i ≤ 57))
/-- all of them from i on, d being what is left -/
def nmAll (s : ByteArray) : Nat → Nat → Bool
  | 0, _ => true
  | d + 1, i => nmB s i && nmAll s d (i + 1)
def nameB (s : ByteArray) : Bool := nmAll s s.size 0 && decide (1 ≤ s.size) && decide (s.size ≤ 12)
def sig_Name.f (a0 : ByteArray) : Option Bool := some (nameB a0)

theorem bt_nat (s : ByteArray) (i : Nat) (h : i < s.size) : bt s i = ((s[i]'h).toNat : Int) := by
  have : ((i : Int)).toNat = i := rfl
  simp [bt, h]

theorem nmAll_step (s : ByteArray) (d i : Nat) (h : nmB s i = true) : nmAll s (d + 1) i = nmAll s d (i + 1) := by simp [nmAll, h]
theorem nmAll_stop (s : ByteArray) (d i : Nat) (h : nmB s i = false) : nmAll s (d + 1) i = false := by simp [nmAll, h]


/-- the four tests of a rune, each decided -/
structure Tests (R : Int) (p q m n : Bool) : Prop where
  a : decide (97 ≤ R) = p
  b : decide (R ≤ 122) = q
  c : decide (48 ≤ R) = m
  d : decide (R ≤ 57) = n

theorem tests_low {R : Int} (h1 : 97 ≤ R) (h2 : R ≤ 122) : Tests R true true true false := ⟨by simp; omega, by simp; omega, by simp; omega, by simp; omega⟩
theorem tests_dig {R : Int} (h1 : 48 ≤ R) (h2 : R ≤ 57) : Tests R false true true true := ⟨by simp; omega, by simp; omega, by simp; omega, by simp; omega⟩
theorem tests_other {R : Int} (h1 : ¬ (97 ≤ R ∧ R ≤ 122)) (h2 : ¬ (48 ≤ R ∧ R ≤ 57)) : Tests R false true false true ∨ Tests R false true true false ∨ Tests R true false true false := by
  by_cases a : R < 48
  · exact .inl ⟨by simp; omega, by simp; omega, by simp; omega, by simp; omega⟩
  · by_cases b : R < 97
    · exact .inr (.inl ⟨by simp; omega, by simp; omega, by simp; omega, by simp; omega⟩)
    · exact .inr (.inr ⟨by simp; omega, by simp; omega, by simp; omega, by simp; omega⟩)

set_option maxHeartbeats 1000000 in
set_option maxRecDepth 100000 in
theorem sig_Name.calls (s : ByteArray) (r : Bool) (w : World) (h : sig_Name.f s = some r) :
    Calls Try.prog 10 #[.string s] w fun e w' => e = .returned (.bool r) ∧ Below w.heap.size w w' := by
  have H := Aside0.mk (Option.some.inj h)
  clear h
  go_enter Try.func10, Try.ntmps10
  go_wp2
  go_loopw [] (fun w' => ∃ (pos d : Nat), w' = w.iter s pos ∧ Aside0 (nmAll s d pos = nmAll s s.size 0) ∧ Aside0 (s.size = pos + d)) (fun w' => s.size - w'.iterPos w.heap.size)
  case atStart => exact ⟨0, s.size, rfl, ⟨rfl⟩, ⟨by omega⟩⟩
  case round =>
    obtain ⟨pos, d, rfl, hc, hb⟩ := hrel
    by_cases hp : pos < s.size
    · obtain ⟨d, rfl⟩ : ∃ e, d = e + 1 := ⟨d - 1, by have := hb.out; omega⟩
      have hgo : nmB s pos = true → Aside0 (nmAll s d (pos + 1) = nmAll s s.size 0) := fun hs => ⟨(nmAll_step s d pos hs).symm.trans hc.out⟩
      have hno : nmB s pos = false → r = false := fun hs => by
        have h1 := (nmAll_stop s d pos hs).symm.trans hc.out
        have h2 := H.out
        unfold nameB at h2
        rw [← h1] at h2
        simpa using h2.symm
      have hgo := Aside0.mk hgo
      have hno := Aside0.mk hno
      obtain ⟨c, hcc⟩ : ∃ c : Nat, (s[pos]'hp).toNat = c := ⟨_, rfl⟩
      have hbt : bt s pos = (c : Int) := by rw [bt_nat s pos hp, hcc]
      by_cases hok : nmB s pos = true
      · have hA := hgo.out hok
        have hnx0 : c < 128 → ∀ ty, (Instr.next (.pointer (some ⟨w.heap.size, 0, none⟩)) true ty).run Try.prog (w.iter s pos) = .ok (.tuple #[.bool true, .int .i64 pos, .int .i32 c]) (w.iter s (pos + 1)) := fun ha ty => by rw [run_next_ascii w s pos ty hp (by rw [hcc]; exact ha), hcc]
        simp only [nmB, hbt, Bool.or_eq_true, Bool.and_eq_true, decide_eq_true_eq] at hok
        rcases hok with hl | hl
        · have T := tests_low hl.1 hl.2
          obtain ⟨ta, tb, tc, td⟩ := T
          have hnx := hnx0 (by omega)
          clear hnx0 hl hbt hcc hno hgo hc
          go_wp2
          go_roundw
          case rel => exact ⟨pos + 1, d, rfl, hA, ⟨by have := hb.out; omega⟩⟩
          case measure => simp; omega
        · have T := tests_dig hl.2.1 hl.2.2
          obtain ⟨ta, tb, tc, td⟩ := T
          have hnx := hnx0 (by omega)
          have hz0 : ((pos : Int) == 0) = false := by simp; omega
          clear hnx0 hl hbt hcc hno hgo hc
          go_wp2
          go_roundw
          case rel => exact ⟨pos + 1, d, rfl, hA, ⟨by have := hb.out; omega⟩⟩
          case measure => simp; omega
      · have hok : nmB s pos = false := by simpa using hok
        have hA := hno.out hok
        subst hA
        have hn : ∃ R D : Nat, (¬ (97 ≤ (R : Int) ∧ (R : Int) ≤ 122)) ∧ (pos = 0 ∨ ¬ (48 ≤ (R : Int) ∧ (R : Int) ≤ 57)) ∧ ∀ ty, (Instr.next (.pointer (some ⟨w.heap.size, 0, none⟩)) true ty).run Try.prog (w.iter s pos) = .ok (.tuple #[.bool true, .int .i64 pos, .int .i32 R]) (w.iter s (pos + D)) := by
          by_cases ha : c < 128
          · refine ⟨c, 1, ?_, ?_, fun ty => by rw [run_next_ascii w s pos ty hp (by rw [hcc]; exact ha), hcc]⟩
            · intro h1; simp [nmB, hbt, h1] at hok
            · by_cases hz : pos = 0
              · exact .inl hz
              · refine .inr fun h1 => ?_
                have : 0 < pos := by omega
                simp [nmB, hbt, h1, this] at hok
          · have hdec := decode_high s pos hp (by omega)
            exact ⟨(Utf8.decode s pos).1, (Utf8.decode s pos).2, by omega, .inr (by omega), fun ty => run_next_any w s pos ty hp⟩
        obtain ⟨R, D, hn1, hn2, hnx⟩ := hn
        clear hok hno hgo hc hbt hcc
        by_cases hz : pos = 0
        · subst hz
          by_cases hr : 97 ≤ (R : Int)
          · have ta : decide (97 ≤ (R : Int)) = true := by simpa using hr
            have tb : decide ((R : Int) ≤ 122) = false := by simp; omega
            clear hr hn1 hn2
            go_wp2
            go_ret
            exact ⟨rfl, (Below.refl _ _).alloc (Nat.le_refl _) _⟩
          · have ta : decide (97 ≤ (R : Int)) = false := by simpa using hr
            clear hr hn1 hn2
            go_wp2
            go_ret
            exact ⟨rfl, (Below.refl _ _).alloc (Nat.le_refl _) _⟩
        · have hz0 : ((pos : Int) == 0) = false := by simp; omega
          have T := tests_other hn1 (hn2.resolve_left hz)
          clear hz hn1 hn2
          rcases T with T | T | T
          all_goals
            obtain ⟨ta, tb, tc, td⟩ := T
            go_wp2
            go_ret
            exact ⟨rfl, (Below.refl _ _).alloc (Nat.le_refl _) _⟩
    · have hnx0 : ∀ ty, (Instr.next (.pointer (some ⟨w.heap.size, 0, none⟩)) true ty).run Try.prog (w.iter s pos) = .ok (.tuple #[.bool false]) (w.iter s pos) := fun ty => run_next_end w s pos ty hp
      have hA : r = (decide (1 ≤ s.size) && decide (s.size ≤ 12)) := by
        have h2 := H.out
        unfold nameB at h2
        obtain rfl : d = 0 := by have := hb.out; omega
        rw [← hc.out] at h2
        simpa [nmAll] using h2.symm
      have HA := Aside0.mk hA
      clear hA hc hb
      by_cases h1 : 1 ≤ s.size
      · have t1 : decide (1 ≤ (s.size : Int)) = true := by simp; omega
        by_cases h2 : s.size ≤ 12
        · have t2 : decide ((s.size : Int) ≤ 12) = true := by simp; omega
          have hA : r = true := by rw [HA.out]; simp [h1, h2]
          clear h1 h2
          go_wp2
          go_ret
          exact ⟨by rw [hA]; rfl, (Below.refl _ _).alloc (Nat.le_refl _) _⟩
        · have t2 : decide ((s.size : Int) ≤ 12) = false := by simp; omega
          have hA : r = false := by rw [HA.out]; simp [h2]
          clear h1 h2
          go_wp2
          go_ret
          exact ⟨by rw [hA]; rfl, (Below.refl _ _).alloc (Nat.le_refl _) _⟩
      · have t1 : decide (1 ≤ (s.size : Int)) = false := by simp; omega
        have hA : r = false := by rw [HA.out]; simp [h1]
        clear h1
        go_wp2
        go_ret
        exact ⟨by rw [hA]; rfl, (Below.refl _ _).alloc (Nat.le_refl _) _⟩


/-! ### sig_up: function 32 -/
def sig_up.f (a0 : Int) : Option (Bool) := if 65 ≤ a0 then (some (decide (a0 ≤ 90))) else (some false)
set_option maxHeartbeats 4000000 in
set_option maxRecDepth 100000 in
theorem sig_up.calls (a0 : Int) (r : Bool) (w : World) (h : sig_up.f a0 = some r) :
    Calls Try.prog 32 #[.int .i32 a0] w fun e w' => e = .returned (.bool r) ∧ Drawn0 w w' := by
  have H : (if 65 ≤ a0 then (some (decide (a0 ≤ 90))) else (some false)) = some r := h
  clear h
  by_cases c2 : 65 ≤ a0
  · rw [if_pos c2] at H
    have c2b0 : decide (65 ≤ a0) = true := decide_eq_true c2
    clear c2
    obtain rfl := Option.some.inj H
    go_enter Try.func32, Try.ntmps32
    go_wp2
    go_ret
    exact ⟨by first | rfl | (simp; done) | (simp [*]; done), by repeat (first | exact Drawn0.refl _ | apply Drawn0.step)⟩
  · rw [if_neg c2] at H
    have c2b0 : decide (65 ≤ a0) = false := decide_eq_false c2
    clear c2
    obtain rfl := Option.some.inj H
    go_enter Try.func32, Try.ntmps32
    go_wp2
    go_ret
    exact ⟨by first | rfl | (simp; done) | (simp [*]; done), by repeat (first | exact Drawn0.refl _ | apply Drawn0.step)⟩

/-! ### sig_Var: function 12 -/
/-- byte i of a variable's name may stand there -/
def vrB (s : ByteArray) (fr : Bool) (i : Nat) : Bool :=
  if i = 0 then fr || decide (65 ≤ bt s i ∧ bt s i ≤ 90)
  else (decide (48 ≤ bt s i ∧ bt s i ≤ 57) || (!fr && (decide (97 ≤ bt s i ∧ bt s i ≤ 122) || decide (65 ≤ bt s i ∧ bt s i ≤ 90)))) && !(decide (i = 1) && fr && decide (bt s i = 48))
def vrAll (s : ByteArray) (fr : Bool) : Nat → Nat → Bool
  | 0, _ => true
  | d + 1, i => vrB s fr i && vrAll s fr d (i + 1)
def varB (s : ByteArray) : Bool :=
  decide (1 ≤ s.size) && decide (s.size ≤ 12) && vrAll s (decide (bt s 0 = 95)) s.size 0 && (!decide (bt s 0 = 95) || decide (1 < s.size))
def sig_Var.f (a0 : ByteArray) : Option Bool := some (varB a0)
theorem vrAll_step (s : ByteArray) (fr : Bool) (d i : Nat) (h : vrB s fr i = true) : vrAll s fr (d + 1) i = vrAll s fr d (i + 1) := by simp [vrAll, h]
theorem vrAll_stop (s : ByteArray) (fr : Bool) (d i : Nat) (h : vrB s fr i = false) : vrAll s fr (d + 1) i = false := by simp [vrAll, h]


/-- the same, of a rune -/
def vrR (fr : Bool) (i : Nat) (R : Int) : Bool :=
  if i = 0 then fr || (decide (65 ≤ R) && decide (R ≤ 90))
  else ((decide (48 ≤ R) && decide (R ≤ 57)) || (!fr && ((decide (97 ≤ R) && decide (R ≤ 122)) || (decide (65 ≤ R) && decide (R ≤ 90))))) && !(decide (i = 1) && fr && (R == 48))
theorem vrB_R (s : ByteArray) (fr : Bool) (i : Nat) : vrB s fr i = vrR fr i (bt s i) := by
  unfold vrB vrR
  simp only [Bool.decide_and]
  congr 1
theorem vrR_high (fr : Bool) (i : Nat) (R : Int) (h : 128 ≤ R) (h0 : fr = false ∨ i ≠ 0) : vrR fr i R = false := by
  have h1 : decide (R ≤ 90) = false := by simp; omega
  have h2 : decide (R ≤ 57) = false := by simp; omega
  have h3 : decide (R ≤ 122) = false := by simp; omega
  unfold vrR
  rcases h0 with rfl | h0
  · simp [h1, h2, h3]
  · simp [h1, h2, h3, h0]
/-- all tests of a rune, each decided -/
structure Seven (R : Int) (a b c d e f g : Bool) : Prop where
  a : decide (48 ≤ R) = a
  b : decide (R ≤ 57) = b
  c : decide (65 ≤ R) = c
  d : decide (R ≤ 90) = d
  e : decide (97 ≤ R) = e
  f : decide (R ≤ 122) = f
  g : (R == 48) = g
theorem sevens (R : Int) : Seven R false true false true false true false ∨ Seven R true true false true false true true ∨ Seven R true true false true false true false ∨
    Seven R true false false true false true false ∨ Seven R true false true true false true false ∨ Seven R true false true false false true false ∨
    Seven R true false true false true true false ∨ Seven R true false true false true false false := by
  have H : R < 48 ∨ R = 48 ∨ (49 ≤ R ∧ R ≤ 57) ∨ (58 ≤ R ∧ R ≤ 64) ∨ (65 ≤ R ∧ R ≤ 90) ∨ (91 ≤ R ∧ R ≤ 96) ∨ (97 ≤ R ∧ R ≤ 122) ∨ 123 ≤ R := by omega
  rcases H with h | h | h | h | h | h | h | h
  · exact .inl ⟨by simp; omega, by simp; omega, by simp; omega, by simp; omega, by simp; omega, by simp; omega, by simp; omega⟩
  · subst h; exact .inr (.inl ⟨rfl, rfl, rfl, rfl, rfl, rfl, rfl⟩)
  · exact .inr (.inr (.inl ⟨by simp; omega, by simp; omega, by simp; omega, by simp; omega, by simp; omega, by simp; omega, by simp; omega⟩))
  · exact .inr (.inr (.inr (.inl ⟨by simp; omega, by simp; omega, by simp; omega, by simp; omega, by simp; omega, by simp; omega, by simp; omega⟩)))
  · exact .inr (.inr (.inr (.inr (.inl ⟨by simp; omega, by simp; omega, by simp; omega, by simp; omega, by simp; omega, by simp; omega, by simp; omega⟩))))
  · exact .inr (.inr (.inr (.inr (.inr (.inl ⟨by simp; omega, by simp; omega, by simp; omega, by simp; omega, by simp; omega, by simp; omega, by simp; omega⟩)))))
  · exact .inr (.inr (.inr (.inr (.inr (.inr (.inl ⟨by simp; omega, by simp; omega, by simp; omega, by simp; omega, by simp; omega, by simp; omega, by simp; omega⟩))))))
  · exact .inr (.inr (.inr (.inr (.inr (.inr (.inr ⟨by simp; omega, by simp; omega, by simp; omega, by simp; omega, by simp; omega, by simp; omega, by simp; omega⟩))))))

/-- the part behind the tests on the length, fr being the first byte's test -/
theorem varB_mid (s : ByteArray) (fr : Bool) (h1 : 1 ≤ s.size) (h2 : s.size ≤ 12) (hfr : decide (bt s 0 = 95) = fr) : varB s = (vrAll s fr s.size 0 && (!fr || decide (1 < s.size))) := by
  simp [varB, h1, h2, hfr]

set_option maxHeartbeats 1000000 in
set_option maxRecDepth 100000 in
theorem sig_Var.calls (s : ByteArray) (r : Bool) (w : World) (h : sig_Var.f s = some r) :
    Calls Try.prog 12 #[.string s] w fun e w' => e = .returned (.bool r) ∧ Below w.heap.size w w' := by
  have H := Option.some.inj h
  clear h
  by_cases h1 : 1 ≤ s.size
  · by_cases h2 : s.size ≤ 12
    · have t1 : decide ((s.size : Int) < 1) = false := by simp; omega
      have t2 : decide (12 < (s.size : Int)) = false := by simp; omega
      have h10 : 0 < s.size := h1
      have hbt : bt s 0 = ((s[0]'h10).toNat : Int) := bt_nat s 0 h10
      obtain ⟨fr, hfr⟩ : ∃ fr : Bool, decide (bt s 0 = 95) = fr := ⟨_, rfl⟩
      have h95 : (((s[0]'h10).toNat : Int) == 95) = fr := by rw [← hbt, ← hfr]; rfl
      have HM := Aside0.mk ((varB_mid s fr h1 h2 hfr).symm.trans H)
      have HF := Aside0.mk hfr
      have HS := Aside0.mk h2
      clear H hbt hfr h1 h2
      go_enter Try.func12, Try.ntmps12
      go_wp2
      go_loopw [] (fun w' => ∃ (pos d : Nat), w' = w.iter s pos ∧ Aside0 (vrAll s fr d pos = vrAll s fr s.size 0) ∧ Aside0 (s.size = pos + d)) (fun w' => s.size - w'.iterPos w.heap.size)
      case atStart => exact ⟨0, s.size, rfl, ⟨rfl⟩, ⟨by omega⟩⟩
      case round =>
        obtain ⟨pos, d, rfl, hc, hb⟩ := hrel
        by_cases hp : pos < s.size
        · obtain ⟨d, rfl⟩ : ∃ e, d = e + 1 := ⟨d - 1, by have := hb.out; omega⟩
          have hn : ∃ R D : Nat, vrB s fr pos = vrR fr pos R ∧ (vrR fr pos R = true → D = 1) ∧ ∀ ty, (Instr.next (.pointer (some ⟨w.heap.size, 0, none⟩)) true ty).run Try.prog (w.iter s pos) = .ok (.tuple #[.bool true, .int .i64 pos, .int .i32 R]) (w.iter s (pos + D)) := by
            obtain ⟨c, hcc⟩ : ∃ c : Nat, (s[pos]'hp).toNat = c := ⟨_, rfl⟩
            have hbt : bt s pos = (c : Int) := by rw [bt_nat s pos hp, hcc]
            by_cases ha : c < 128
            · exact ⟨c, 1, by rw [vrB_R, hbt], fun _ => rfl, fun ty => by rw [run_next_ascii w s pos ty hp (by rw [hcc]; exact ha), hcc]⟩
            · have hdec := decode_high s pos hp (by omega)
              have h0 : fr = false ∨ pos ≠ 0 := by
                by_cases hz : pos = 0
                · subst hz
                  have h3 := HF.out
                  rw [show bt s 0 = (c : Int) from hbt] at h3
                  refine .inl (h3.symm.trans ?_)
                  simp
                  omega
                · exact .inr hz
              have hv := vrR_high fr pos (Utf8.decode s pos).1 (by omega) h0
              have hv' := vrR_high fr pos (bt s pos) (by omega) h0
              exact ⟨(Utf8.decode s pos).1, (Utf8.decode s pos).2, by rw [vrB_R, hv, hv'], fun h => by rw [hv] at h; simp at h, fun ty => run_next_any w s pos ty hp⟩
          obtain ⟨R, D, hn1, hn2, hnx⟩ := hn
          have hgo : vrR fr pos R = true → D = 1 ∧ Aside0 (vrAll s fr d (pos + 1) = vrAll s fr s.size 0) := fun hs => ⟨hn2 hs, ⟨(vrAll_step s fr d pos (hn1.trans hs)).symm.trans hc.out⟩⟩
          have hno : vrR fr pos R = false → r = false := fun hs => by
            have h1 := (vrAll_stop s fr d pos (hn1.trans hs)).symm.trans hc.out
            have h2 := HM.out
            rw [← h1] at h2
            simpa using h2.symm
          have hgo := Aside0.mk hgo
          have hno := Aside0.mk hno
          clear hn1 hn2 hc
          have hpp : pos = 0 ∨ pos = 1 ∨ 1 < pos := by omega
          have S := sevens R
          rcases S with S | S | S | S | S | S | S | S
          all_goals
            obtain ⟨sa, sb, sc, sd, se, sf, sg⟩ := S
            cases fr
            all_goals
              rcases hpp with rfl | rfl | hz
              all_goals
                (try have hz0 : ((pos : Int) == 0) = false := by simp; omega)
                (try have hz1 : ((pos : Int) == 1) = false := by simp; omega)
                (try have hz2 : decide (0 < pos) = true := by simp; omega)
                first
                | (have hA := hgo.out (by simp [vrR, sa, sb, sc, sd, se, sf, sg]; try omega)
                   obtain ⟨rfl, hA⟩ := hA
                   clear hgo hno
                   (try clear hz)
                   go_wp2
                   go_roundw
                   case rel => exact ⟨_, d, rfl, hA, ⟨by have := hb.out; omega⟩⟩
                   case measure => simp; omega)
                | (have hA := hno.out (by simp [vrR, sa, sb, sc, sd, se, sf, sg]; try omega)
                   subst hA
                   clear hgo hno
                   (try clear hz)
                   go_wp2
                   go_ret
                   exact ⟨rfl, (Below.refl _ _).alloc (Nat.le_refl _) _⟩)
        · have hnx0 : ∀ ty, (Instr.next (.pointer (some ⟨w.heap.size, 0, none⟩)) true ty).run Try.prog (w.iter s pos) = .ok (.tuple #[.bool false]) (w.iter s pos) := fun ty => run_next_end w s pos ty hp
          have hA : r = (!fr || decide (1 < s.size)) := by
            have h2 := HM.out
            obtain rfl : d = 0 := by have := hb.out; omega
            rw [← hc.out] at h2
            simpa [vrAll] using h2.symm
          have HA := Aside0.mk hA
          clear hA hc hb
          cases fr with
          | false =>
            have hA : r = true := by rw [HA.out]; simp
            go_wp2
            go_ret
            exact ⟨by rw [hA]; rfl, (Below.refl _ _).alloc (Nat.le_refl _) _⟩
          | true =>
            by_cases h2 : 1 < s.size
            · have t3 : decide (1 < (s.size : Int)) = true := by simp; omega
              have hA : r = true := by rw [HA.out]; simp [h2]
              clear h2
              go_wp2
              go_ret
              exact ⟨by rw [hA]; rfl, (Below.refl _ _).alloc (Nat.le_refl _) _⟩
            · have t3 : decide (1 < (s.size : Int)) = false := by simp; omega
              have hA : r = false := by rw [HA.out]; simp [h2]
              clear h2
              go_wp2
              go_ret
              exact ⟨by rw [hA]; rfl, (Below.refl _ _).alloc (Nat.le_refl _) _⟩
    · have t1 : decide ((s.size : Int) < 1) = false := by simp; omega
      have t2 : decide (12 < (s.size : Int)) = true := by simp; omega
      obtain rfl : r = false := by rw [← H]; simp [varB, h2]
      clear H h1 h2
      go_enter Try.func12, Try.ntmps12
      go_wp2
      go_ret
      exact ⟨rfl, Below.refl _ _⟩
  · have t1 : decide ((s.size : Int) < 1) = true := by simp; omega
    obtain rfl : r = false := by rw [← H]; simp [varB, h1]
    clear H h1
    go_enter Try.func12, Try.ntmps12
    go_wp2
    go_ret
    exact ⟨rfl, Below.refl _ _⟩

/-! ### sig_Find: function 18 -/
def sig_Find.l0 : Nat → List (S36) → ByteArray → Int → Int → Option (Int × Bool)
  | 0, _, _, _, _ => none
  | k + 1, x0, x1, x8, x9 => if x9 < x8 then (if 0 ≤ x9 then (if x9 < (x0.length : Int) then (if ((rd_T36 x0 x9).f0).toList = x1.toList then (some (x9, true)) else (sig_Find.l0 k x0 x1 x8 (wrap64 (x9 + 1)))) else (none)) else (none)) else (some (0, false))
def sig_Find.f (k : Nat) (l0 : List (S36)) (a1 : ByteArray) : Option (Int × Bool) := sig_Find.l0 k l0 a1 (l0.length : Int) 0
theorem sig_Find.mono_l : ∀ k, (∀ y0 y1 y2 y3, LeO (sig_Find.l0 k y0 y1 y2 y3) (sig_Find.l0 (k + 1) y0 y1 y2 y3))
  | 0 => fun _ _ _ _ r h => by simp [sig_Find.l0] at h
  | k + 1 => by
    have ih0 := sig_Find.mono_l k
    · intro y0 y1 y2 y3
      unfold sig_Find.l0
      repeat' first
      | (with_reducible exact ih0 _ _ _ _)
      | (with_reducible exact LeO.refl _)
      | (with_reducible exact LeO.none _)
      | (with_reducible refine LeO.ite ?_ ?_)
      | (with_reducible refine LeO.bind ?_ (fun _ => ?_))
      | exact ih0 _ _ _ _
      | exact LeO.none _
      | refine LeO.ite ?_ ?_
      | refine LeO.bind ?_ (fun _ => ?_)
theorem sig_Find.mono : ∀ a0 a1 k, LeO (sig_Find.f k a0 a1) (sig_Find.f (k + 1) a0 a1) := by
  intro a0 a1 k
  have ih0 := sig_Find.mono_l k
  unfold sig_Find.f
  repeat' first
      | (with_reducible exact ih0 _ _ _ _)
      | (with_reducible exact LeO.refl _)
      | (with_reducible exact LeO.none _)
      | (with_reducible refine LeO.ite ?_ ?_)
      | (with_reducible refine LeO.bind ?_ (fun _ => ?_))
      | exact ih0 _ _ _ _
      | exact LeO.none _
      | refine LeO.ite ?_ ?_
      | refine LeO.bind ?_ (fun _ => ?_)
set_option maxHeartbeats 4000000 in
set_option maxRecDepth 100000 in
theorem sig_Find.calls (k : Nat) (A0 : Option Addr) (c0 : Nat) (l0 : List (S36)) (a1 : ByteArray) (r1 : Int) (r2 : Bool) (w : World) (hr0 : Kd.C k36 w A0 l0.length l0) (hc0 : l0.length ≤ c0) (h : sig_Find.f k l0 a1 = some (r1, r2)) :
    Calls Try.prog 18 #[.slice A0 l0.length c0, .string a1] w fun e w' => e = .returned (.tuple #[.int .i64 r1, .bool r2]) ∧ Drawn0 w w' := by
  have HR0 := Aside0.mk hr0
  have HC0 := Aside0.mk hc0
  clear hr0 hc0
  have H : (sig_Find.l0 k l0 a1 (l0.length : Int) 0) = some (r1, r2) := h
  clear h
  have H' := Aside0.mk H
  clear H
  go_enter Try.func18, Try.ntmps18
  go_wp2
  go_loopg [9] k (fun kq v9 w' => ∃ (x9_1 : Int), v9 = .int .i64 x9_1 ∧ Aside0 (sig_Find.l0 kq l0 a1 (l0.length : Int) x9_1 = some (r1, r2)) ∧ Aside0 (kq ≤ k) ∧ Drawn0 w w')
  case atStart => exact ⟨(0), (by first | rfl | (simp; done) | (simp [*]; done)), H', ⟨Nat.le_refl _⟩, by repeat (first | exact Drawn0.refl _ | apply Drawn0.step)⟩
  case round =>
    clear H'
    try clear c1
    try clear p2
    obtain ⟨x9_1, rfl, HA, HK1, ⟨m1, rfl⟩⟩ := hrel
    cases gk with
    | zero => exact absurd HA.out (by simp [sig_Find.l0])
    | succ k1 =>
      have H := HA.out
      clear HA
      simp only [sig_Find.l0] at H
      by_cases c3 : x9_1 < (l0.length : Int)
      · rw [if_pos c3] at H
        have c3b0 : decide (x9_1 < (l0.length : Int)) = true := decide_eq_true c3
        clear c3
        by_cases c4 : 0 ≤ x9_1
        · rw [if_pos c4] at H
          have c4b0 : decide (0 ≤ x9_1) = true := decide_eq_true c4
          clear c4
          by_cases c5 : x9_1 < (l0.length : Int)
          · rw [if_pos c5] at H
            have c5b0 : decide (x9_1 < (l0.length : Int)) = true := decide_eq_true c5
            clear c5
            by_cases c6 : ((rd_T36 l0 x9_1).f0).toList = a1.toList
            · rw [if_pos c6] at H
              have c6b0 : (((rd_T36 l0 x9_1).f0).toList == a1.toList) = true := beq_iff_eq.mpr c6
              have c6b1 : (((rd_T36 l0 x9_1).f0).toList != a1.toList) = false := bne_eq_false_iff_eq.mpr c6
              clear c6
              simp only [Option.some.injEq, Prod.mk.injEq] at H
              obtain ⟨rfl, rfl⟩ := H
              have p101 : 0 ≤ (x9_1 : Int) := of_decide_eq_true (by first | (with_reducible assumption) | assumption)
              have q101 : x9_1 < (l0.length : Int) := of_decide_eq_true (by first | (with_reducible assumption) | assumption)
              obtain ⟨ad101, e101, hx101_0, hx101_1, hx101_2, hx101_3⟩ := at_T36 HR0.out x9_1 p101 q101
              cases e101
              replace p101 := eq_true p101
              replace q101 := eq_true q101
              go_wp2
              go_ret2
              exact ⟨by first | rfl | (simp; done) | (simp [*]; done), by repeat (first | exact Drawn0.refl _ | apply Drawn0.step)⟩
            · rw [if_neg c6] at H
              have c6b0 : (((rd_T36 l0 x9_1).f0).toList == a1.toList) = false := beq_eq_false_iff_ne.mpr c6
              have c6b1 : (((rd_T36 l0 x9_1).f0).toList != a1.toList) = true := bne_iff_ne.mpr c6
              have H' := Aside0.mk H
              clear H
              have p101 : 0 ≤ (x9_1 : Int) := of_decide_eq_true (by first | (with_reducible assumption) | assumption)
              have q101 : x9_1 < (l0.length : Int) := of_decide_eq_true (by first | (with_reducible assumption) | assumption)
              obtain ⟨ad101, e101, hx101_0, hx101_1, hx101_2, hx101_3⟩ := at_T36 HR0.out x9_1 p101 q101
              cases e101
              replace p101 := eq_true p101
              replace q101 := eq_true q101
              go_wp2
              go_roundg k1
              case measure => have := HK1.out; omega
              case rel => exact ⟨(wrap64 (x9_1 + 1)), (by first | rfl | (simp; done) | (simp [*]; done)), H', ⟨by have := HK1.out; omega⟩, by repeat (first | exact Drawn0.refl _ | apply Drawn0.step)⟩
          · rw [if_neg c5] at H
            exact absurd H (by simp)
        · rw [if_neg c4] at H
          exact absurd H (by simp)
      · rw [if_neg c3] at H
        have c3b0 : decide (x9_1 < (l0.length : Int)) = false := decide_eq_false c3
        clear c3
        simp only [Option.some.injEq, Prod.mk.injEq] at H
        obtain ⟨rfl, rfl⟩ := H
        go_wp2
        go_ret2
        exact ⟨by first | rfl | (simp; done) | (simp [*]; done), by repeat (first | exact Drawn0.refl _ | apply Drawn0.step)⟩

/-! ### sig_constant: function 36 -/
def sig_constant.f (a0 : ByteArray) : Option (ByteArray × Int × Int × ByteArray) := some (a0, 1, 0, (⟨#[]⟩ : ByteArray))
set_option maxHeartbeats 4000000 in
set_option maxRecDepth 100000 in
theorem sig_constant.calls (a0 : ByteArray) (r1 : ByteArray) (r2 : Int) (r3 : Int) (r4 : ByteArray) (w : World) (h : sig_constant.f a0 = some (r1, r2, r3, r4)) :
    Calls Try.prog 36 #[.string a0] w fun e w' => e = .returned (.agg #[.string r1, .int .i64 r2, .int .i64 r3, .string r4]) ∧ Below w.heap.size w w' := by
  have hu36 := Try.underlying36
  have HB := Aside0.mk (Below.refl w.heap.size w)
  have H : (some (a0, 1, 0, (⟨#[]⟩ : ByteArray))) = some (r1, r2, r3, r4) := h
  clear h
  simp only [Option.some.injEq, Prod.mk.injEq] at H
  obtain ⟨rfl, rfl, rfl, rfl⟩ := H
  go_enter Try.func36, Try.ntmps36
  go_wp2_with (first | ((with_reducible refine gate_dst (N := 2) rfl ?_); refine box_event ?hg (N := 2) ?hd (cs := #[.string (⟨#[]⟩ : ByteArray), .int .i64 0, .int .i64 0, .string (⟨#[]⟩ : ByteArray)]) (t := 36) ?hr ?_; (case hd => rfl); (case hg => rfl); (case hr => first | (go_simp; done) | (go_simp; rfl)); intro gb102 hg w2 hbox hb; have n0_ := Aside0.mk (below_step (by repeat (first | (with_reducible first | exact HB.out | apply below_alloc | apply pw_below_drewN | apply below_drew1) | exact HB.out)) hb); have n1_ := Aside0.mk (hbox); have n2_ := Aside0.mk ((by rw [hg]; exact (below_size (by repeat (first | (with_reducible first | exact HB.out | apply below_alloc | apply pw_below_drewN | apply below_drew1) | exact HB.out))) : w.heap.size ≤ gb102)); have n3_ := Aside0.mk ((by rw [hg]; exact (below_size (by repeat (first | (with_reducible first | exact HB.out | apply below_alloc | apply pw_below_drewN | apply below_drew1) | exact HB.out))) : w.heap.size ≤ gb102)); clear HB; have HB := n0_; have BK102 := n1_; have GW102 := n2_; have GE102 := n3_; clear n0_ n1_ n2_ n3_; clear hb hbox hg; have hcz3_0 : w2.cell? ⟨gb102, 0, none⟩ = some (.string (⟨#[]⟩ : ByteArray)) := (blk_cell BK102.out 0).trans rfl; have hcz3_1 : w2.cell? ⟨gb102, 1, none⟩ = some (.int .i64 0) := (blk_cell BK102.out 1).trans rfl; have hcz3_2 : w2.cell? ⟨gb102, 2, none⟩ = some (.int .i64 0) := (blk_cell BK102.out 2).trans rfl; have hcz3_3 : w2.cell? ⟨gb102, 3, none⟩ = some (.string (⟨#[]⟩ : ByteArray)) := (blk_cell BK102.out 3).trans rfl; have hfz3_0 := blk_frozen BK102.out 0; have hfz3_1 := blk_frozen BK102.out 1; have hfz3_2 := blk_frozen BK102.out 2; have hfz3_3 := blk_frozen BK102.out 3))
  refine bodyPost_ret (results_cell_row rfl _ _ gb102 36 #[.string a0, .int .i64 1, .int .i64 0, .string (⟨#[]⟩ : ByteArray)] (0, 0) _ rfl (by (with_reducible repeat (first | refine blk_drewN ?_ _ | refine blk_drew ?_ | refine blk_alloc ?_ _)); refine blk_put (cs := #[.string a0, .int .i64 1, .int .i64 0, .string (⟨#[]⟩ : ByteArray)]) ?_ 3 _ rfl; (with_reducible repeat (first | refine blk_drewN ?_ _ | refine blk_drew ?_ | refine blk_alloc ?_ _)); refine blk_put (cs := #[.string a0, .int .i64 1, .int .i64 0, .string (⟨#[]⟩ : ByteArray)]) ?_ 2 _ rfl; (with_reducible repeat (first | refine blk_drewN ?_ _ | refine blk_drew ?_ | refine blk_alloc ?_ _)); refine blk_put (cs := #[.string a0, .int .i64 0, .int .i64 0, .string (⟨#[]⟩ : ByteArray)]) ?_ 1 _ rfl; (with_reducible repeat (first | refine blk_drewN ?_ _ | refine blk_drew ?_ | refine blk_alloc ?_ _)); refine blk_put (cs := #[.string (⟨#[]⟩ : ByteArray), .int .i64 0, .int .i64 0, .string (⟨#[]⟩ : ByteArray)]) ?_ 0 _ rfl; (with_reducible repeat (first | refine blk_drewN ?_ _ | refine blk_drew ?_ | refine blk_alloc ?_ _)); exact BK102.out) Try.underlying36 rfl (by kernel_rfl)) rfl ?_
  exact ⟨by first | rfl | (simp [errW_none, errW_some] <;> rfl) | (simp [*, errW_none, errW_some] <;> rfl), by repeat (first | (with_reducible first | exact HB.out | apply below_alloc | apply pw_below_drewN | apply below_drew1 | refine below_set ?_ GE102.out) | exact HB.out)⟩

end Go.Proofs.Ythbpbbinpkfchaa.PSig
