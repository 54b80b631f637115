-- Written by programs of this session (wip/tools), cut to what the claim uses (wip/tools/prune.py).
import Derived.Test.YtpepjodkahdicaaPTbx0
-- Written by a program of this session (wip/tools/myprint.py): functions, contracts, their proofs. Lean checks it.
namespace Go.Proofs.Ytpepjodkahdicaa.PTb
open Go.RowKit Go.Proofs.YtpepjodkahdicaaW.PrintWords Go.Proofs.YtpepjodkahdicaaW.PrintLast Go.Proofs.YtpepjodkahdicaaW.PrintMore
attribute [local go_sem] max2_int min2_int max_two min_two max_three min_three max_four min_four   -- for this text's walks alone
set_option linter.unusedVariables false
set_option linter.unusedSimpArgs false
theorem bt_natV (s : ByteArray) (i : Nat) (h : i < s.size) : bt s i = ((s[i]'h).toNat : Int) := by
  have : ((i : Int)).toNat = i := rfl
  simp [bt, h]
/-- byte i of a variable's name may stand there -/
def vrB (s : ByteArray) (fr : Bool) (i : Nat) : Bool :=
  if i = 0 then fr || decide (65 ≤ bt s i ∧ bt s i ≤ 90)
  else (decide (48 ≤ bt s i ∧ bt s i ≤ 57) || (!fr && (decide (97 ≤ bt s i ∧ bt s i ≤ 122) || decide (65 ≤ bt s i ∧ bt s i ≤ 90)))) && !(decide (i = 1) && fr && decide (bt s i = 48))
def vrAll (s : ByteArray) (fr : Bool) : Nat → Nat → Bool
  | 0, _ => true
  | d + 1, i => vrB s fr i && vrAll s fr d (i + 1)
def varB (s : ByteArray) : Bool :=
  decide (1 ≤ s.size) && decide (s.size ≤ 12) && vrAll s (decide (bt s 0 = 95)) s.size 0 && (!decide (bt s 0 = 95) || decide (1 < s.size))
def sig_Var.f (a0 : ByteArray) : Option Bool := some (varB a0)
theorem vrAll_step (s : ByteArray) (fr : Bool) (d i : Nat) (h : vrB s fr i = true) : vrAll s fr (d + 1) i = vrAll s fr d (i + 1) := by simp [vrAll, h]
theorem vrAll_stop (s : ByteArray) (fr : Bool) (d i : Nat) (h : vrB s fr i = false) : vrAll s fr (d + 1) i = false := by simp [vrAll, h]


/-- the same, of a rune -/
def vrR (fr : Bool) (i : Nat) (R : Int) : Bool :=
  if i = 0 then fr || (decide (65 ≤ R) && decide (R ≤ 90))
  else ((decide (48 ≤ R) && decide (R ≤ 57)) || (!fr && ((decide (97 ≤ R) && decide (R ≤ 122)) || (decide (65 ≤ R) && decide (R ≤ 90))))) && !(decide (i = 1) && fr && (R == 48))
theorem vrB_R (s : ByteArray) (fr : Bool) (i : Nat) : vrB s fr i = vrR fr i (bt s i) := by
  unfold vrB vrR
  simp only [Bool.decide_and]
  congr 1
theorem vrR_high (fr : Bool) (i : Nat) (R : Int) (h : 128 ≤ R) (h0 : fr = false ∨ i ≠ 0) : vrR fr i R = false := by
  have h1 : decide (R ≤ 90) = false := by simp; omega
  have h2 : decide (R ≤ 57) = false := by simp; omega
  have h3 : decide (R ≤ 122) = false := by simp; omega
  unfold vrR
  rcases h0 with rfl | h0
  · simp [h1, h2, h3]
  · simp [h1, h2, h3, h0]
/-- all tests of a rune, each decided -/
structure Seven (R : Int) (a b c d e f g : Bool) : Prop where
  a : decide (48 ≤ R) = a
  b : decide (R ≤ 57) = b
  c : decide (65 ≤ R) = c
  d : decide (R ≤ 90) = d
  e : decide (97 ≤ R) = e
  f : decide (R ≤ 122) = f
  g : (R == 48) = g
theorem sevens (R : Int) : Seven R false true false true false true false ∨ Seven R true true false true false true true ∨ Seven R true true false true false true false ∨
    Seven R true false false true false true false ∨ Seven R true false true true false true false ∨ Seven R true false true false false true false ∨
    Seven R true false true false true true false ∨ Seven R true false true false true false false := by
  have H : R < 48 ∨ R = 48 ∨ (49 ≤ R ∧ R ≤ 57) ∨ (58 ≤ R ∧ R ≤ 64) ∨ (65 ≤ R ∧ R ≤ 90) ∨ (91 ≤ R ∧ R ≤ 96) ∨ (97 ≤ R ∧ R ≤ 122) ∨ 123 ≤ R := by omega
  rcases H with h | h | h | h | h | h | h | h
  · exact .inl ⟨by simp; omega, by simp; omega, by simp; omega, by simp; omega, by simp; omega, by simp; omega, by simp; omega⟩
  · subst h; exact .inr (.inl ⟨rfl, rfl, rfl, rfl, rfl, rfl, rfl⟩)
  · exact .inr (.inr (.inl ⟨by simp; omega, by simp; omega, by simp; omega, by simp; omega, by simp; omega, by simp; omega, by simp; omega⟩))
  · exact .inr (.inr (.inr (.inl ⟨by simp; omega, by simp; omega, by simp; omega, by simp; omega, by simp; omega, by simp; omega, by simp; omega⟩)))
  · exact .inr (.inr (.inr (.inr (.inl ⟨by simp; omega, by simp; omega, by simp; omega, by simp; omega, by simp; omega, by simp; omega, by simp; omega⟩))))
  · exact .inr (.inr (.inr (.inr (.inr (.inl ⟨by simp; omega, by simp; omega, by simp; omega, by simp; omega, by simp; omega, by simp; omega, by simp; omega⟩)))))
  · exact .inr (.inr (.inr (.inr (.inr (.inr (.inl ⟨by simp; omega, by simp; omega, by simp; omega, by simp; omega, by simp; omega, by simp; omega, by simp; omega⟩))))))
  · exact .inr (.inr (.inr (.inr (.inr (.inr (.inr ⟨by simp; omega, by simp; omega, by simp; omega, by simp; omega, by simp; omega, by simp; omega, by simp; omega⟩))))))

/-- the part behind the tests on the length, fr being the first byte's test -/
theorem varB_mid (s : ByteArray) (fr : Bool) (h1 : 1 ≤ s.size) (h2 : s.size ≤ 12) (hfr : decide (bt s 0 = 95) = fr) : varB s = (vrAll s fr s.size 0 && (!fr || decide (1 < s.size))) := by
  simp [varB, h1, h2, hfr]

set_option maxHeartbeats 1000000 in
set_option maxRecDepth 100000 in
theorem sig_Var.calls (s : ByteArray) (r : Bool) (w : World) (h : sig_Var.f s = some r) :
    Calls Try.prog 56 #[.string s] w fun e w' => e = .returned (.bool r) ∧ Below w.heap.size w w' := by
  have H := Option.some.inj h
  clear h
  by_cases h1 : 1 ≤ s.size
  · by_cases h2 : s.size ≤ 12
    · have t1 : decide ((s.size : Int) < 1) = false := by simp; omega
      have t2 : decide (12 < (s.size : Int)) = false := by simp; omega
      have h10 : 0 < s.size := h1
      have hbt : bt s 0 = ((s[0]'h10).toNat : Int) := bt_natV s 0 h10
      obtain ⟨fr, hfr⟩ : ∃ fr : Bool, decide (bt s 0 = 95) = fr := ⟨_, rfl⟩
      have h95 : (((s[0]'h10).toNat : Int) == 95) = fr := by rw [← hbt, ← hfr]; rfl
      have HM := Aside0.mk ((varB_mid s fr h1 h2 hfr).symm.trans H)
      have HF := Aside0.mk hfr
      have HS := Aside0.mk h2
      clear H hbt hfr h1 h2
      go_enter Try.func56, Try.ntmps56
      go_wp2
      go_loopw [] (fun w' => ∃ (pos d : Nat), w' = w.iter s pos ∧ Aside0 (vrAll s fr d pos = vrAll s fr s.size 0) ∧ Aside0 (s.size = pos + d)) (fun w' => s.size - w'.iterPos w.heap.size)
      case atStart => exact ⟨0, s.size, rfl, ⟨rfl⟩, ⟨by omega⟩⟩
      case round =>
        obtain ⟨pos, d, rfl, hc, hb⟩ := hrel
        by_cases hp : pos < s.size
        · obtain ⟨d, rfl⟩ : ∃ e, d = e + 1 := ⟨d - 1, by have := hb.out; omega⟩
          have hn : ∃ R D : Nat, vrB s fr pos = vrR fr pos R ∧ (vrR fr pos R = true → D = 1) ∧ ∀ ty, (Instr.next (.pointer (some ⟨w.heap.size, 0, none⟩)) true ty).run Try.prog (w.iter s pos) = .ok (.tuple #[.bool true, .int .i64 pos, .int .i32 R]) (w.iter s (pos + D)) := by
            obtain ⟨c, hcc⟩ : ∃ c : Nat, (s[pos]'hp).toNat = c := ⟨_, rfl⟩
            have hbt : bt s pos = (c : Int) := by rw [bt_natV s pos hp, hcc]
            by_cases ha : c < 128
            · exact ⟨c, 1, by rw [vrB_R, hbt], fun _ => rfl, fun ty => by rw [run_next_ascii w s pos ty hp (by rw [hcc]; exact ha), hcc]⟩
            · have hdec := decode_high s pos hp (by omega)
              have h0 : fr = false ∨ pos ≠ 0 := by
                by_cases hz : pos = 0
                · subst hz
                  have h3 := HF.out
                  rw [show bt s 0 = (c : Int) from hbt] at h3
                  refine .inl (h3.symm.trans ?_)
                  simp
                  omega
                · exact .inr hz
              have hv := vrR_high fr pos (Utf8.decode s pos).1 (by omega) h0
              have hv' := vrR_high fr pos (bt s pos) (by omega) h0
              exact ⟨(Utf8.decode s pos).1, (Utf8.decode s pos).2, by rw [vrB_R, hv, hv'], fun h => by rw [hv] at h; simp at h, fun ty => run_next_any w s pos ty hp⟩
          obtain ⟨R, D, hn1, hn2, hnx⟩ := hn
          have hgo : vrR fr pos R = true → D = 1 ∧ Aside0 (vrAll s fr d (pos + 1) = vrAll s fr s.size 0) := fun hs => ⟨hn2 hs, ⟨(vrAll_step s fr d pos (hn1.trans hs)).symm.trans hc.out⟩⟩
          have hno : vrR fr pos R = false → r = false := fun hs => by
            have h1 := (vrAll_stop s fr d pos (hn1.trans hs)).symm.trans hc.out
            have h2 := HM.out
            rw [← h1] at h2
            simpa using h2.symm
          have hgo := Aside0.mk hgo
          have hno := Aside0.mk hno
          clear hn1 hn2 hc
          have hpp : pos = 0 ∨ pos = 1 ∨ 1 < pos := by omega
          have S := sevens R
          rcases S with S | S | S | S | S | S | S | S
          all_goals
            obtain ⟨sa, sb, sc, sd, se, sf, sg⟩ := S
            cases fr
            all_goals
              rcases hpp with rfl | rfl | hz
              all_goals
                (try have hz0 : ((pos : Int) == 0) = false := by simp; omega)
                (try have hz1 : ((pos : Int) == 1) = false := by simp; omega)
                (try have hz2 : decide (0 < pos) = true := by simp; omega)
                first
                | (have hA := hgo.out (by simp [vrR, sa, sb, sc, sd, se, sf, sg]; try omega)
                   obtain ⟨rfl, hA⟩ := hA
                   clear hgo hno
                   (try clear hz)
                   go_wp2
                   go_roundw
                   case rel => exact ⟨_, d, rfl, hA, ⟨by have := hb.out; omega⟩⟩
                   case measure => simp; omega)
                | (have hA := hno.out (by simp [vrR, sa, sb, sc, sd, se, sf, sg]; try omega)
                   subst hA
                   clear hgo hno
                   (try clear hz)
                   go_wp2
                   go_ret
                   exact ⟨rfl, (Below.refl _ _).alloc (Nat.le_refl _) _⟩)
        · have hnx0 : ∀ ty, (Instr.next (.pointer (some ⟨w.heap.size, 0, none⟩)) true ty).run Try.prog (w.iter s pos) = .ok (.tuple #[.bool false]) (w.iter s pos) := fun ty => run_next_end w s pos ty hp
          have hA : r = (!fr || decide (1 < s.size)) := by
            have h2 := HM.out
            obtain rfl : d = 0 := by have := hb.out; omega
            rw [← hc.out] at h2
            simpa [vrAll] using h2.symm
          have HA := Aside0.mk hA
          clear hA hc hb
          cases fr with
          | false =>
            have hA : r = true := by rw [HA.out]; simp
            go_wp2
            go_ret
            exact ⟨by rw [hA]; rfl, (Below.refl _ _).alloc (Nat.le_refl _) _⟩
          | true =>
            by_cases h2 : 1 < s.size
            · have t3 : decide (1 < (s.size : Int)) = true := by simp; omega
              have hA : r = true := by rw [HA.out]; simp [h2]
              clear h2
              go_wp2
              go_ret
              exact ⟨by rw [hA]; rfl, (Below.refl _ _).alloc (Nat.le_refl _) _⟩
            · have t3 : decide (1 < (s.size : Int)) = false := by simp; omega
              have hA : r = false := by rw [HA.out]; simp [h2]
              clear h2
              go_wp2
              go_ret
              exact ⟨by rw [hA]; rfl, (Below.refl _ _).alloc (Nat.le_refl _) _⟩
    · have t1 : decide ((s.size : Int) < 1) = false := by simp; omega
      have t2 : decide (12 < (s.size : Int)) = true := by simp; omega
      obtain rfl : r = false := by rw [← H]; simp [varB, h2]
      clear H h1 h2
      go_enter Try.func56, Try.ntmps56
      go_wp2
      go_ret
      exact ⟨rfl, Below.refl _ _⟩
  · have t1 : decide ((s.size : Int) < 1) = true := by simp; omega
    obtain rfl : r = false := by rw [← H]; simp [varB, h1]
    clear H h1
    go_enter Try.func56, Try.ntmps56
    go_wp2
    go_ret
    exact ⟨rfl, Below.refl _ _⟩

end Go.Proofs.Ytpepjodkahdicaa.PTb
