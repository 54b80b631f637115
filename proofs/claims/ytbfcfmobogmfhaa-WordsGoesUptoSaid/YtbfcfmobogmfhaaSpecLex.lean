/-
  Words, plainly: the words of a text as a relation on the list of its bytes; the program's List and the document's List and Begin come to it. Conditions: each theorem's own.
-/
import Derived.Test.YtbfcfmobogmfhaaSpecRef
import Derived.Test.YtbfcfmobogmfhaaPWdx2
import Derived.Test.YtbfcfmobogmfhaaPWdx5
import Derived.Test.YtbfcfmobogmfhaaPWdx5
import Derived.Test.YtbfcfmobogmfhaaPWdx2
import Derived.Test.YtbfcfmobogmfhaaPWdx5
namespace Go.Proofs.Ytbfcfmobogmfhaa.Sw
open Go.RowKit Go.Proofs.YtbfcfmobogmfhaaW.PrintWords Go.Proofs.Ytbfcfmobogmfhaa.PWd
abbrev Wd := S26
/-- The words of l, that begins at place p: up to the end (e is 0), or up to the first error e at place z. -/
inductive Lex : List UInt8 → Nat → List Wd → Int → Int → Prop
  | stop (l : List UInt8) (p : Nat) (h : l.drop (span spU l) = []) : Lex l p [] 0 0
  | bad (l : List UInt8) (p : Nat) (h : l.drop (span spU l) ≠ []) (kd : Int) (n : Nat) (e : Int) (ht : tokL (l.drop (span spU l)) = (kd, n, e)) (he : e ≠ 0) : Lex l p [] e ((p + span spU l : Nat) : Int)
  | word (l : List UInt8) (p : Nat) (h : l.drop (span spU l) ≠ []) (kd : Int) (n : Nat) (ht : tokL (l.drop (span spU l)) = (kd, n, 0)) (ws : List Wd) (e z : Int)
      (hr : Lex ((l.drop (span spU l)).drop n) (p + span spU l + n) ws e z) : Lex l p (⟨kd, ⟨((l.drop (span spU l)).take n).toArray⟩, ((p + span spU l : Nat) : Int)⟩ :: ws) e z
theorem finT_ok {kd' : Int} {n' : Nat} {kd : Int} {n : Nat} (h : finT kd' n' = (kd, n, 0)) : kd = kd' ∧ n = n' ∧ n ≤ 12 := by
  unfold finT at h
  by_cases c : 12 < n'
  · rw [if_pos c] at h; simp at h
  · rw [if_neg c] at h
    simp only [Prod.mk.injEq] at h
    omega
theorem tok_ok {m : List UInt8} (hm : m ≠ []) {kd : Int} {n : Nat} (ht : tokL m = (kd, n, 0)) : kd ≠ 0 ∧ 1 ≤ n ∧ n ≤ m.length ∧ n ≤ 12 := by
  obtain ⟨c, t, rfl⟩ := List.exists_cons_of_ne_nil hm
  by_cases h0 : signL (c :: t) = (0, 0)
  · rw [tok_word h0] at ht
    have s0 := span_le lowdigU t
    have s1 := span_le allU t
    have s2 := span_le digU t
    simp only [List.length_cons]
    split at ht
    · have := finT_ok ht; omega
    · split at ht
      · have := finT_ok ht; omega
      · split at ht
        · split at ht
          · simp at ht
          · have := finT_ok ht; omega
        · simp at ht
  · obtain ⟨kd', n', e1, e2, e3, e4⟩ := tok_sign h0
    have hb : 1 ≤ n' := by
      unfold signL at e1
      dsimp only at e1
      apply Classical.byContradiction
      intro hn
      obtain rfl : n' = 0 := by omega
      repeat' split at e1
      all_goals simp at e1
      exact e3 (by rw [← e1])
    rw [e2] at ht
    have := finT_ok ht
    omega
theorem lex_ex : ∀ (d : Nat) (l : List UInt8) (p : Nat), l.length ≤ d → ∃ ws e z, Lex l p ws e z := by
  intro d
  induction d with
  | zero =>
    intro l p hd
    obtain rfl := List.eq_nil_of_length_eq_zero (Nat.le_zero.mp hd)
    exact ⟨[], 0, 0, .stop [] p rfl⟩
  | succ d ih =>
    intro l p hd
    by_cases h : l.drop (span spU l) = []
    · exact ⟨[], 0, 0, .stop l p h⟩
    · obtain ⟨kd, n, e, ht⟩ : ∃ kd n e, tokL (l.drop (span spU l)) = (kd, n, e) := ⟨_, _, _, rfl⟩
      by_cases he : e = 0
      · subst he
        have hok := tok_ok h ht
        obtain ⟨ws, e, z, hl⟩ := ih ((l.drop (span spU l)).drop n) (p + span spU l + n) (by rw [List.length_drop] at hok ⊢; rw [List.length_drop]; omega)
        exact ⟨_, _, _, .word l p h kd n ht ws e z hl⟩
      · exact ⟨_, _, _, .bad l p h kd n e ht he⟩
theorem lex_len {l : List UInt8} {p : Nat} {ws : List Wd} {e z : Int} (h : Lex l p ws e z) : ws.length ≤ l.length := by
  induction h with
  | stop => simp
  | bad => simp
  | word l p h kd n ht ws e z hr ih =>
    have hok := tok_ok h ht
    rw [List.length_drop] at ih hok
    rw [List.length_drop] at ih
    rw [List.length_cons]
    omega
theorem lex_zero {l : List UInt8} {p : Nat} {ws : List Wd} {e z : Int} (h : Lex l p ws e z) (he : e = 0) : z = 0 := by
  induction h with
  | stop => rfl
  | bad l p h kd n e ht hne => exact absurd he hne
  | word l p h kd n ht ws e z hr ih => exact ih he
theorem nextS_at (s : ByteArray) (p : Nat) (hp : p ≤ (bl s).length) : nextS s p = nextL ((bl s).drop p) p := by
  have hl := bl_len s
  unfold nextS
  rw [if_neg (by omega), Int.toNat_natCast]
theorem next_stop {l : List UInt8} (p : Nat) (h : l.drop (span spU l) = []) : nextL l p = (0, (⟨#[]⟩ : ByteArray), 0, ((p + span spU l : Nat) : Int), 0) := by
  unfold nextL
  rw [if_pos h]
theorem next_bad {l : List UInt8} (p : Nat) (h : l.drop (span spU l) ≠ []) {kd : Int} {n : Nat} {e : Int} (ht : tokL (l.drop (span spU l)) = (kd, n, e)) (he : e ≠ 0) : nextL l p = (0, (⟨#[]⟩ : ByteArray), 0, ((p + span spU l : Nat) : Int), e) := by
  unfold nextL mkL
  rw [if_neg h, ht, if_neg he]
theorem next_word {l : List UInt8} (p : Nat) (h : l.drop (span spU l) ≠ []) {kd : Int} {n : Nat} (ht : tokL (l.drop (span spU l)) = (kd, n, 0)) : nextL l p = (kd, ⟨((l.drop (span spU l)).take n).toArray⟩, ((p + span spU l : Nat) : Int), ((p + span spU l + n : Nat) : Int), 0) := by
  unfold nextL mkL
  rw [if_neg h, ht, if_pos rfl]
theorem lex_at {s : ByteArray} {p : Nat} {l : List UInt8} (hl : l = (bl s).drop p) (hp : p ≤ (bl s).length) (h : l.drop (span spU l) ≠ []) {kd : Int} {n : Nat} (ht : tokL (l.drop (span spU l)) = (kd, n, 0)) :
    (l.drop (span spU l)).drop n = (bl s).drop (p + span spU l + n) ∧ p + span spU l + n ≤ (bl s).length ∧ kd ≠ 0 ∧ 1 ≤ n := by
  have hok := tok_ok h ht
  have hll : l.length = (bl s).length - p := by rw [hl, List.length_drop]
  rw [List.length_drop] at hok
  refine ⟨?_, by omega, hok.1, hok.2.1⟩
  rw [List.drop_drop]
  conv => lhs; rw [hl]
  rw [List.drop_drop, ← hl, Nat.add_assoc]
theorem lex_from (s : ByteArray) (hs : s.size ≤ 140737488351232) {l : List UInt8} {p : Nat} {ws : List Wd} {e z : Int} (h : Lex l p ws e z) :
    ∀ k, l = (bl s).drop p → p ≤ (bl s).length → (bl s).length + 1 + ws.length < k → wordsFrom k s p = some ws := by
  induction h with
  | stop l p h =>
    intro k hl hp hk
    obtain ⟨k, rfl, _⟩ := k_succ hk
    simp only [wordsFrom]
    rw [next_f s hs p k (by omega), nextS_at s p hp, ← hl, next_stop p h]
    rfl
  | bad l p h kd n e ht he =>
    intro k hl hp hk
    obtain ⟨k, rfl, _⟩ := k_succ hk
    simp only [wordsFrom]
    rw [next_f s hs p k (by omega), nextS_at s p hp, ← hl, next_bad p h ht he, Option.bind_some, if_neg he]
  | word l p h kd n ht ws e z hr ih =>
    intro k hl hp hk
    obtain ⟨k, rfl, _⟩ := k_succ hk
    rw [List.length_cons] at hk
    obtain ⟨h1, h2, h3, h4⟩ := lex_at hl hp h ht
    simp only [wordsFrom]
    rw [next_f s hs p k (by omega), nextS_at s p hp, ← hl, next_word p h ht, Option.bind_some, if_pos rfl, if_neg h3]
    dsimp only
    rw [ih k h1 h2 (by omega)]
    rfl
/-- the end of the last word, or p0 where there is none, and what is next from there on -/
theorem lex_end (s : ByteArray) (hs : s.size ≤ 140737488351232) {l : List UInt8} {p : Nat} {ws : List Wd} {e z : Int} (h : Lex l p ws e z) :
    l = (bl s).drop p → p ≤ (bl s).length → (∃ q : Nat, q ≤ (bl s).length ∧ (ws ≠ [] → endW ws = (q : Int)) ∧ (ws = [] → q = p) ∧ ∃ a b c d, nextL ((bl s).drop q) q = (a, b, c, d, e) ∧ (e ≠ 0 → d = z)) := by
  induction h with
  | stop l p h =>
    intro hl hp
    exact ⟨p, hp, fun h => absurd rfl h, fun _ => rfl, _, _, _, _, (by rw [← hl]; exact next_stop p h), fun h => absurd rfl h⟩
  | bad l p h kd n e ht he =>
    intro hl hp
    exact ⟨p, hp, fun h => absurd rfl h, fun _ => rfl, _, _, _, _, (by rw [← hl]; exact next_bad p h ht he), fun _ => rfl⟩
  | word l p h kd n ht ws e z hr ih =>
    intro hl hp
    obtain ⟨h1, h2, h3, h4⟩ := lex_at hl hp h ht
    have hlen := bl_len s
    obtain ⟨q, q1, q2, q3, q4⟩ := ih h1 h2
    refine ⟨q, q1, fun _ => ?_, fun h => by simp at h, q4⟩
    cases ws with
    | nil =>
      obtain rfl := q3 rfl
      have hok := tok_ok h ht
      have hsz : ((⟨((l.drop (span spU l)).take n).toArray⟩ : ByteArray).size : Int) = (n : Int) := by
        rw [← bl_len]
        simp only [bl, List.length_take]
        omega
      simp only [endW, hsz]
      unfold wrap64
      omega
    | cons w ws => exact q2 (by simp)
def listR (ws : List Wd) (e z : Int) : List Wd × Int × Int := if e = 0 then (ws, 0, 0) else ([], e, z)
theorem list_f (s : ByteArray) (hs : s.size ≤ 140737488351232) {ws : List Wd} {e z : Int} (h : Lex (bl s) 0 ws e z) (hw : ws.length < 4398046511104) (k : Nat) (hk : 2 * (bl s).length + 2 < k) : words_List.f k s = some (listR ws e z) := by
  have hlen := bl_len s
  have hwl := lex_len h
  unfold words_List.f
  have h1 := lex_from s hs h k (by simp) (by omega) (by omega)
  rw [show ((0 : Nat) : Int) = 0 from rfl] at h1
  rw [h1, Option.bind_some, if_pos hw]
  obtain ⟨q, q1, q2, q3, a, b, c, d, q4, q5⟩ := lex_end s hs h (by simp) (by omega)
  have hq : endW ws = (q : Int) := by
    cases ws with
    | nil => rw [q3 rfl]; rfl
    | cons w ws => exact q2 (by simp)
  rw [hq, next_f s hs q k (by omega), nextS_at s q q1, q4, Option.bind_some]
  unfold listR
  by_cases he : e = 0
  · rw [if_pos he, if_pos he]
  · rw [if_neg he, if_neg he, q5 he]
theorem rlist_l0 (s : ByteArray) (hs : s.size ≤ 140737488351232) {l : List UInt8} {p : Nat} {ws : List Wd} {e z : Int} (h : Lex l p ws e z) :
    ∀ (k : Nat) (acc : List Wd), l = (bl s).drop p → p ≤ (bl s).length → 2 * (bl s).length + 7 + ws.length < k → acc.length + ws.length < 4398046511104 →
    amalgamref02_List.l0 k s acc p = some (listR (acc ++ ws) e z) ∧ amalgamref02_Begin.l0 k s acc p = some (acc ++ ws) := by
  induction h with
  | stop l p h =>
    intro k acc hl hp hk ha
    obtain ⟨k, rfl, _⟩ := k_succ hk
    simp only [amalgamref02_List.l0, amalgamref02_Begin.l0]
    rw [rnext_f s hs p k (by omega), nextS_at s p hp, ← hl, next_stop p h]
    simp [listR]
  | bad l p h kd n e ht he =>
    intro k acc hl hp hk ha
    obtain ⟨k, rfl, _⟩ := k_succ hk
    simp only [amalgamref02_List.l0, amalgamref02_Begin.l0]
    rw [rnext_f s hs p k (by omega), nextS_at s p hp, ← hl, next_bad p h ht he]
    simp [listR, he]
  | word l p h kd n ht ws e z hr ih =>
    intro k acc hl hp hk ha
    obtain ⟨k, rfl, _⟩ := k_succ hk
    rw [List.length_cons] at hk ha
    obtain ⟨h1, h2, h3, h4⟩ := lex_at hl hp h ht
    simp only [amalgamref02_List.l0, amalgamref02_Begin.l0]
    rw [rnext_f s hs p k (by omega), nextS_at s p hp, ← hl, next_word p h ht, Option.bind_some, Option.bind_some, if_pos rfl, if_neg h3, if_pos (show acc.length < 4398046511104 by omega), if_pos rfl, if_neg h3, if_pos (show acc.length < 4398046511104 by omega)]
    dsimp only
    obtain ⟨i1, i2⟩ := ih k (acc ++ [⟨kd, ⟨((l.drop (span spU l)).take n).toArray⟩, ((p + span spU l : Nat) : Int)⟩]) h1 h2 (by omega) (by simp; omega)
    rw [i1, i2]
    simp
theorem rlist_f (s : ByteArray) (hs : s.size ≤ 140737488351232) {ws : List Wd} {e z : Int} (h : Lex (bl s) 0 ws e z) (hw : ws.length < 4398046511104) (k : Nat) (hk : 3 * (bl s).length + 7 < k) : amalgamref02_List.f k s = some (listR ws e z) := by
  have hwl := lex_len h
  exact (rlist_l0 s hs h k [] (by simp) (by omega) (by omega) (by simpa using hw)).1
theorem rbegin_f (s : ByteArray) (hs : s.size ≤ 140737488351232) {ws : List Wd} {e z : Int} (h : Lex (bl s) 0 ws e z) (hw : ws.length < 4398046511104) (k : Nat) (hk : 3 * (bl s).length + 7 < k) : amalgamref02_Begin.f k s = some ws := by
  have hwl := lex_len h
  exact (rlist_l0 s hs h k [] (by simp) (by omega) (by omega) (by simpa using hw)).2
theorem same_l0 (a : List Wd) (ha : a.length ≤ 140737488351232) : ∀ (d i k : Nat), i + d = a.length → d < k → amalgamlaw02_same.l0 k a a i = some true := by
  intro d
  induction d with
  | zero =>
    intro i k hi hk
    obtain ⟨k, rfl, _⟩ := k_succ hk
    simp only [amalgamlaw02_same.l0]
    rw [if_neg (by omega)]
  | succ d ih =>
    intro i k hi hk
    obtain ⟨k, rfl, _⟩ := k_succ hk
    simp only [amalgamlaw02_same.l0]
    rw [if_pos (by omega), if_pos (by omega), if_pos (by omega), wrap_nat (show i < a.length by omega) (by omega), ih (i + 1) k (by omega) (by omega)]
    simp
theorem same_f (a : List Wd) (ha : a.length ≤ 140737488351232) (k : Nat) (hk : a.length < k) : amalgamlaw02_same.f k a a = some true := by
  unfold amalgamlaw02_same.f
  rw [if_pos rfl]
  exact same_l0 a ha a.length 0 k (by omega) (by omega)
theorem at_rounds {α : Type} {f : Nat → Option α} (hm : ∀ k, LeO (f k) (f (k + 1))) {k0 k : Nat} (h : k0 ≤ k) {r : α} (hr : f k0 = some r) : f k = some r := by
  induction h with
  | refl => exact hr
  | step _ ih => exact hm _ _ ih
theorem head_40 : amalgamlaw02_head.f 40 = some true := by decide +kernel
theorem head_true (k : Nat) (hk : 40 ≤ k) : amalgamlaw02_head.f k = some true := at_rounds (fun k => amalgamlaw02_head.mono k) hk head_40
end Go.Proofs.Ytbfcfmobogmfhaa.Sw
