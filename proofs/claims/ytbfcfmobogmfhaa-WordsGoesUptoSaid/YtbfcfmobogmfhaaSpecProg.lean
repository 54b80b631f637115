/-
  Words, plainly: the program's Next comes to nextS. Conditions: each theorem's own.
-/
import Derived.Test.YtbfcfmobogmfhaaSpecNext
namespace Go.Proofs.Ytbfcfmobogmfhaa.Sw
open Go.RowKit Go.Proofs.YtbfcfmobogmfhaaW.PrintWords Go.Proofs.Ytbfcfmobogmfhaa.PWd
theorem bt_cons {r : ByteArray} {c : UInt8} {t : List UInt8} (h : bl r = c :: t) : bt r 0 = (c.toNat : Int) := by
  have := bt_bl r 0 (by rw [h]; simp)
  simpa [h] using this
theorem bt_cons1 {r : ByteArray} {c d : UInt8} {t : List UInt8} (h : bl r = c :: d :: t) : bt r 1 = (d.toNat : Int) := by
  have := bt_bl r 1 (by rw [h]; simp)
  simpa [h] using this
/-- the signs -/
def signL : List UInt8 → Int × Int
  | [] => (0, 0)
  | c :: r => if c = 40 then (3, 1) else if c = 41 then (4, 1) else if c = 44 then (5, 1) else if c = 61 then (6, 1) else if c = 45 ∧ r.head? = some 62 then (7, 2) else (0, 0)
theorem pre_f (r : ByteArray) (c : UInt8) (t : List UInt8) (h : bl r = c :: t) : strings_HasPrefix.f r (⟨#[45, 62]⟩ : ByteArray) = some (decide (c = 45 ∧ t.head? = some 62)) := by
  have hl := bl_len r
  rw [h] at hl
  unfold strings_HasPrefix.f stringslite_HasPrefix.f
  have h2 : ((⟨#[45, 62]⟩ : ByteArray).size : Int) = 2 := rfl
  rw [h2]
  cases t with
  | nil =>
    simp only [List.length_cons, List.length_nil] at hl
    rw [if_neg (by omega)]
    simp
  | cons d t =>
    simp only [List.length_cons] at hl
    rw [if_pos (by omega), if_pos (by omega), if_pos (by omega)]
    have hb : (r.extract 0 2).toList = [c, d] := by
      have := bl_extract r 0 2
      rw [h] at this
      rw [ByteArray.toList_eq] at *
      simpa [bl] using this
    have hc : (⟨#[45, 62]⟩ : ByteArray).toList = [45, 62] := by decide +kernel
    simp only [Option.bind_some, hc]
    have e2 : ((2 : Int)).toNat = 2 := rfl
    rw [e2, hb]
    simp only [List.head?_cons, Option.some.injEq, Option.some.injEq]
    by_cases e1 : c = 45 <;> by_cases e2 : d = 62 <;> simp [e1, e2]
theorem sign_f (r : ByteArray) (c : UInt8) (t : List UInt8) (h : bl r = c :: t) : words_sign.f r = some (signL (c :: t)) := by
  have hl := bl_len r
  rw [h] at hl
  simp only [List.length_cons] at hl
  unfold words_sign.f
  rw [if_pos (by omega), bt_cons h, pre_f r c t h]
  unfold signL
  have e40 : (c.toNat : Int) = 40 ↔ c = 40 := u8_eq c 40 (by omega)
  have e41 : (c.toNat : Int) = 41 ↔ c = 41 := u8_eq c 41 (by omega)
  have e44 : (c.toNat : Int) = 44 ↔ c = 44 := u8_eq c 44 (by omega)
  have e61 : (c.toNat : Int) = 61 ↔ c = 61 := u8_eq c 61 (by omega)
  simp only [Option.bind_some, decide_eq_true_eq, e40, e41, e44, e61]
  repeat' split
  all_goals rfl
theorem fin_f (p : Nat) (r : ByteArray) (kd : Int) (n : Nat) (hn : n ≤ (bl r).length) (hp : p + (bl r).length ≤ 140737488351232) : nextFin p r kd (n : Int) = some (mkL p (bl r) (finT kd n)) := by
  have hl := bl_len r
  unfold nextFin mkL finT
  by_cases h : 12 < n
  · rw [if_pos (by omega), if_pos h, if_neg (by decide)]
  · rw [if_neg (by omega), if_neg h, if_pos (by omega), if_pos (by omega), if_pos rfl]
    have hw : wrap64 ((p : Int) + (n : Int)) = ((p + n : Nat) : Int) := by
      unfold wrap64
      omega
    have he : r.extract 0 ((n : Int)).toNat = ⟨((bl r).take n).toArray⟩ := by
      apply bl_ext
      rw [bl_extract]
      simp [bl]
    rw [hw, he]
theorem span_cons_pos {q : UInt8 → Bool} {c : UInt8} {t : List UInt8} (h : q c = true) : span q (c :: t) = 1 + span q t := by
  unfold span
  rw [List.takeWhile_cons, h]
  simp
  omega
theorem word_f (k p : Nat) (r : ByteArray) (c : UInt8) (t : List UInt8) (h : bl r = c :: t) (h0 : signL (c :: t) = (0, 0)) (hk : (bl r).length < k) (hp : p + (bl r).length ≤ 140737488351232) :
    nextWord k p r = some (mkL p (bl r) (tokL (c :: t))) := by
  have hl := bl_len r
  have hll : (bl r).length = t.length + 1 := by rw [h]; rfl
  have hlow := ix_low c
  have hup := ix_up c
  unfold nextWord
  have hi := fun among => index_f among r 0 (by omega)
  have h0c : (bl r)[0]'(by omega) = c := by simp [h]
  simp only [h0c] at hi
  have hi' : ∀ among, strings_IndexByte.f among (bt r 0) = some (Lib.indexByte among.data.toList c) := fun among => by simpa using hi among
  rw [hi', Option.bind_some]
  have htok : tokL (c :: t) = if lowU c = true then finT 1 (1 + span lowdigU t) else if upU c = true then finT 2 (1 + span allU t) else if c = 95 then (if span digU t = 0 ∨ t.head? = some 48 then (0, 0, 21) else finT 2 (1 + span digU t)) else (0, 0, 21) := by
    unfold signL at h0
    unfold tokL
    dsimp only at h0 ⊢
    by_cases a : c = 40
    · rw [if_pos a] at h0; simp at h0
    by_cases b : c = 41
    · rw [if_neg a, if_pos b] at h0; simp at h0
    by_cases d : c = 44
    · rw [if_neg a, if_neg b, if_pos d] at h0; simp at h0
    by_cases e : c = 61
    · rw [if_neg a, if_neg b, if_neg d, if_pos e] at h0; simp at h0
    by_cases g : c = 45 ∧ t.head? = some 62
    · rw [if_neg a, if_neg b, if_neg d, if_neg e, if_pos g] at h0; simp at h0
    rw [if_neg a, if_neg b, if_neg d, if_neg e, if_neg g]
  rw [htok]
  have hr0 := run_f r lowdigsB lowdigU ix_lowdig (by omega) 0 (by omega) k hk
  have hr1 := run_f r allsB allU ix_all (by omega) 0 (by omega) k hk
  have hr2 := run_f r digsB digU ix_dig (by omega) 1 (by omega) k hk
  simp only [List.drop_zero, Nat.zero_add, h, List.drop_succ_cons] at hr0 hr1 hr2
  have s0 := span_le lowdigU t
  have s1 := span_le allU t
  have s2 := span_le digU t
  cases c1 : lowU c with
  | true =>
    rw [c1] at hlow
    rw [if_pos (of_decide_eq_true hlow), if_pos (rfl : true = true)]
    rw [show ((0 : Nat) : Int) = 0 from rfl] at hr0
    rw [hr0, Option.bind_some, span_cons_pos (by simp [lowdigU, c1])]
    exact fin_f p r 1 _ (by omega) hp
  | false =>
    rw [c1] at hlow
    rw [if_neg (of_decide_eq_false hlow), if_neg Bool.false_ne_true, hi', Option.bind_some]
    cases c2 : upU c with
    | true =>
      rw [c2] at hup
      rw [if_pos (of_decide_eq_true hup), if_pos (rfl : true = true)]
      rw [show ((0 : Nat) : Int) = 0 from rfl] at hr1
      rw [hr1, Option.bind_some, span_cons_pos (by simp [allU, c2])]
      exact fin_f p r 2 _ (by omega) hp
    | false =>
      rw [c2] at hup
      rw [if_neg (of_decide_eq_false hup), if_neg Bool.false_ne_true, bt_cons h]
      have e95 : (c.toNat : Int) = 95 ↔ c = 95 := u8_eq c 95 (by omega)
      by_cases c3 : c = 95
      · rw [if_pos (e95.mpr c3), if_pos c3]
        rw [show ((1 : Nat) : Int) = 1 from rfl] at hr2
        rw [hr2, Option.bind_some]
        by_cases c4 : span digU t = 0
        · rw [if_pos (by omega), if_pos (.inl c4)]
          simp [mkL]
        · rw [if_neg (by omega)]
          cases t with
          | nil => simp [span] at c4
          | cons d t =>
            rw [if_pos (by simp at hll; omega), bt_cons1 h]
            have e48 : (d.toNat : Int) = 48 ↔ d = 48 := u8_eq d 48 (by omega)
            by_cases c5 : d = 48
            · rw [if_pos (e48.mpr c5), if_pos (by simp [c5])]
              simp [mkL]
            · rw [if_neg (fun e => c5 (e48.mp e)), if_neg (by simp [c4, c5])]
              exact fin_f p r 2 _ (by omega) hp
      · rw [if_neg (fun e => c3 (e95.mp e)), if_neg c3]
        simp [mkL]
theorem rest_f (k p : Nat) (r : ByteArray) (hne : bl r ≠ []) (hk : (bl r).length < k) (hp : p + (bl r).length ≤ 140737488351232) :
    nextRest k p r = some (mkL p (bl r) (tokL (bl r))) := by
  obtain ⟨c, t, h⟩ := List.exists_cons_of_ne_nil hne
  have hl := bl_len r
  unfold nextRest
  rw [sign_f r c t h, Option.bind_some, if_pos (by rw [← hl, h]; simp)]
  by_cases h0 : signL (c :: t) = (0, 0)
  · rw [h0, if_pos rfl, word_f k p r c t h h0 hk hp, ← h]
  · have hT : ∃ kd n : Nat, signL (c :: t) = ((kd : Int), (n : Int)) ∧ tokL (c :: t) = finT kd n ∧ (kd : Int) ≠ 0 ∧ n ≤ (c :: t).length := by
      unfold signL at h0 ⊢
      unfold tokL
      dsimp only at h0 ⊢
      clear h hne hl
      by_cases a : c = 40
      · exact ⟨3, 1, by rw [if_pos a]; rfl, by rw [if_pos a]; rfl, by decide, by simp⟩
      rw [if_neg a] at h0
      by_cases b : c = 41
      · exact ⟨4, 1, by rw [if_neg a, if_pos b]; rfl, by rw [if_neg a, if_pos b]; rfl, by decide, by simp⟩
      rw [if_neg b] at h0
      by_cases d : c = 44
      · exact ⟨5, 1, by rw [if_neg a, if_neg b, if_pos d]; rfl, by rw [if_neg a, if_neg b, if_pos d]; rfl, by decide, by simp⟩
      rw [if_neg d] at h0
      by_cases e : c = 61
      · exact ⟨6, 1, by rw [if_neg a, if_neg b, if_neg d, if_pos e]; rfl, by rw [if_neg a, if_neg b, if_neg d, if_pos e]; rfl, by decide, by simp⟩
      rw [if_neg e] at h0
      by_cases g : c = 45 ∧ t.head? = some 62
      · refine ⟨7, 2, by rw [if_neg a, if_neg b, if_neg d, if_neg e, if_pos g]; rfl, by rw [if_neg a, if_neg b, if_neg d, if_neg e, if_pos g]; rfl, by decide, ?_⟩
        cases t with
        | nil => exact absurd g.2 (by simp)
        | cons => simp
      rw [if_neg g] at h0
      exact absurd rfl h0
    obtain ⟨kd, n, e1, e2, e3, e4⟩ := hT
    rw [e1, if_neg e3, fin_f p r kd n (by rw [h]; exact e4) hp, h, e2]
theorem next_f (s : ByteArray) (hs : s.size ≤ 140737488351232) (a : Int) (k : Nat) (hk : (bl s).length < k) : words_Next.f k s a = some (nextS s a) := by
  have hl := bl_len s
  unfold words_Next.f nextS
  by_cases c1 : a < 0
  · rw [if_pos c1, if_pos (.inl c1)]
  · rw [if_neg c1]
    by_cases c2 : (s.size : Int) < a
    · rw [if_pos c2, if_pos (.inr c2)]
    · rw [if_neg c2, if_neg (by omega)]
      obtain ⟨i, rfl⟩ : ∃ i : Nat, a = (i : Int) := ⟨a.toNat, by omega⟩
      rw [run_f s spB spU ix_sp hs i (by omega) k hk, Option.bind_some]
      simp only [Int.toNat_natCast]
      have hsp := span_le spU ((bl s).drop i)
      rw [List.length_drop] at hsp
      unfold nextL
      rw [List.drop_drop]
      by_cases c3 : i + span spU ((bl s).drop i) = (bl s).length
      · rw [if_pos (by omega), if_pos (List.drop_eq_nil_of_le (by omega))]
      · rw [if_neg (by omega), if_pos (by omega), if_pos (by omega)]
        have hr := bl_rest s (i + span spU ((bl s).drop i))
        have hle : (bl (s.extract (i + span spU ((bl s).drop i)) s.size)).length = (bl s).length - (i + span spU ((bl s).drop i)) := by rw [hr, List.length_drop]
        have hne : bl (s.extract (i + span spU ((bl s).drop i)) s.size) ≠ [] := fun e => by rw [e] at hle; simp at hle; omega
        rw [rest_f k _ _ hne (by omega) (by omega), hr]
        rw [hr] at hne
        rw [if_neg hne]
end Go.Proofs.Ytbfcfmobogmfhaa.Sw
