/-
  Words, plainly, for the text laws: the word that comes next in a text, as a function of the list of its bytes; the program's Next comes to it. Conditions: each theorem's own.
-/
-- Written by programs of this session (wip/tools), cut to what the claim uses (wip/tools/prune.py).
import Derived.Test.YtpepjodkahdicaaWWords
import Derived.Test.YtpepjodkahdicaaPTbx16
namespace Go.Proofs.Ytpepjodkahdicaa.Sw
open Go.RowKit Go.Proofs.YtpepjodkahdicaaW.PrintWords Go.Proofs.Ytpepjodkahdicaa.PTb
abbrev bl (s : ByteArray) : List UInt8 := s.data.toList
theorem bl_len (s : ByteArray) : (bl s).length = s.size := by unfold bl; rw [Array.length_toList]; rfl
theorem bl_ext {a b : ByteArray} (h : bl a = bl b) : a = b := ByteArray.ext (Array.ext' h)
theorem bt_bl (s : ByteArray) (i : Nat) (h : i < (bl s).length) : bt s i = ((bl s)[i].toNat : Int) := by
  rw [bl_len] at h
  have : ((i : Int)).toNat = i := rfl
  simp only [bt, this, h, dif_pos]
  rfl
theorem wrap_nat {i n : Nat} (h : i < n) (hn : n ≤ 4611686018427387904) : wrap64 ((i : Int) + 1) = ((i + 1 : Nat) : Int) := by
  unfold wrap64
  omega
theorem k_succ {k d : Nat} (h : d < k) : ∃ m, k = m + 1 ∧ d ≤ m := ⟨k - 1, by omega, by omega⟩
def lowU (c : UInt8) : Bool := decide (97 ≤ c.toNat) && decide (c.toNat ≤ 122)
def upU (c : UInt8) : Bool := decide (65 ≤ c.toNat) && decide (c.toNat ≤ 90)
def digU (c : UInt8) : Bool := decide (48 ≤ c.toNat) && decide (c.toNat ≤ 57)
def spU (c : UInt8) : Bool := c == 32
def lowdigU (c : UInt8) : Bool := lowU c || digU c
def allU (c : UInt8) : Bool := upU c || lowU c || digU c
theorem all_bytes {p : UInt8 → Prop} (h : ∀ n : Fin 256, p (UInt8.ofNat n.val)) (c : UInt8) : p c := by
  have := h ⟨c.toNat, c.toNat_lt⟩
  simpa using this
theorem ix_sp (c : UInt8) : decide (0 ≤ Lib.indexByte spB.data.toList c) = spU c := all_bytes (p := fun c => decide (0 ≤ Lib.indexByte spB.data.toList c) = spU c) (by decide +kernel) c
theorem ix_low (c : UInt8) : decide (0 ≤ Lib.indexByte lowsB.data.toList c) = lowU c := all_bytes (p := fun c => decide (0 ≤ Lib.indexByte lowsB.data.toList c) = lowU c) (by decide +kernel) c
theorem ix_up (c : UInt8) : decide (0 ≤ Lib.indexByte upsB.data.toList c) = upU c := all_bytes (p := fun c => decide (0 ≤ Lib.indexByte upsB.data.toList c) = upU c) (by decide +kernel) c
theorem ix_dig (c : UInt8) : decide (0 ≤ Lib.indexByte digsB.data.toList c) = digU c := all_bytes (p := fun c => decide (0 ≤ Lib.indexByte digsB.data.toList c) = digU c) (by decide +kernel) c
theorem ix_lowdig (c : UInt8) : decide (0 ≤ Lib.indexByte lowdigsB.data.toList c) = lowdigU c := all_bytes (p := fun c => decide (0 ≤ Lib.indexByte lowdigsB.data.toList c) = lowdigU c) (by decide +kernel) c
theorem ix_all (c : UInt8) : decide (0 ≤ Lib.indexByte allsB.data.toList c) = allU c := all_bytes (p := fun c => decide (0 ≤ Lib.indexByte allsB.data.toList c) = allU c) (by decide +kernel) c
theorem index_f (among s : ByteArray) (i : Nat) (h : i < (bl s).length) : strings_IndexByte.f among (bt s i) = some (Lib.indexByte among.data.toList (bl s)[i]) := by
  unfold strings_IndexByte.f
  rw [bt_bl s i h, Int.toNat_natCast]
  simp
def span (q : UInt8 → Bool) (l : List UInt8) : Nat := (l.takeWhile q).length
theorem span_le (q : UInt8 → Bool) (l : List UInt8) : span q l ≤ l.length := by
  unfold span
  exact List.Sublist.length_le (List.takeWhile_sublist q)
theorem run_l0 (s among : ByteArray) (q : UInt8 → Bool) (hq : ∀ c, decide (0 ≤ Lib.indexByte among.data.toList c) = q c) (hs : s.size ≤ 140737488351232) : ∀ (d i k : Nat), i + d = (bl s).length → d < k →
    words_run.l0 k s i among = some ((i + span q ((bl s).drop i) : Nat) : Int) := by
  intro d
  have hl := bl_len s
  induction d with
  | zero =>
    intro i k hi hk
    obtain ⟨k, rfl, _⟩ := k_succ hk
    simp only [words_run.l0]
    rw [if_neg (by omega), List.drop_eq_nil_of_le (by omega)]
    simp [span]
  | succ d ih =>
    intro i k hi hk
    obtain ⟨k, rfl, _⟩ := k_succ hk
    have hil : i < (bl s).length := by omega
    simp only [words_run.l0]
    rw [if_pos (by omega), if_pos (by omega), index_f among s i hil]
    simp only [Option.bind_some]
    have hc := hq (bl s)[i]
    rw [List.drop_eq_getElem_cons hil]
    unfold span
    rw [List.takeWhile_cons]
    cases hqc : q (bl s)[i] with
    | true =>
      rw [hqc] at hc
      have hc := of_decide_eq_true hc
      rw [if_neg (by omega), wrap_nat hil (by omega), ih (i + 1) k (by omega) (by omega)]
      simp [span]
      omega
    | false =>
      rw [hqc] at hc
      have hc := of_decide_eq_false hc
      rw [if_pos (by omega)]
      simp
theorem run_f (s among : ByteArray) (q : UInt8 → Bool) (hq : ∀ c, decide (0 ≤ Lib.indexByte among.data.toList c) = q c) (hs : s.size ≤ 140737488351232) (i : Nat) (hi : i ≤ (bl s).length) (k : Nat) (hk : (bl s).length < k) :
    words_run.f k s i among = some ((i + span q ((bl s).drop i) : Nat) : Int) := run_l0 s among q hq hs ((bl s).length - i) i k (by omega) (by omega)
/-- kind, length, error -/
abbrev Tok := Int × Nat × Int
def finT (kd : Int) (n : Nat) : Tok := if 12 < n then (0, 0, 22) else (kd, n, 0)
def tokL : List UInt8 → Tok
  | [] => (0, 0, 0)
  | c :: r =>
    if c = 40 then (3, 1, 0) else if c = 41 then (4, 1, 0) else if c = 44 then (5, 1, 0) else if c = 61 then (6, 1, 0)
    else if c = 45 ∧ r.head? = some 62 then (7, 2, 0)
    else if lowU c = true then finT 1 (1 + span lowdigU r)
    else if upU c = true then finT 2 (1 + span allU r)
    else if c = 95 then (if span digU r = 0 ∨ r.head? = some 48 then (0, 0, 21) else finT 2 (1 + span digU r))
    else (0, 0, 21)
/-- what Next tells of a list of bytes m, no blank first, at place p, where the word is t -/
def mkL (p : Nat) (m : List UInt8) (t : Tok) : NextR :=
  if t.2.2 = 0 then (t.1, ⟨(m.take t.2.1).toArray⟩, (p : Int), ((p + t.2.1 : Nat) : Int), 0) else (0, (⟨#[]⟩ : ByteArray), 0, (p : Int), t.2.2)
/-- what Next tells of a list of bytes that begins at place p -/
def nextL (l : List UInt8) (p : Nat) : NextR :=
  if l.drop (span spU l) = [] then (0, (⟨#[]⟩ : ByteArray), 0, ((p + span spU l : Nat) : Int), 0) else mkL (p + span spU l) (l.drop (span spU l)) (tokL (l.drop (span spU l)))
def nextS (s : ByteArray) (a : Int) : NextR :=
  if a < 0 ∨ (s.size : Int) < a then (0, (⟨#[]⟩ : ByteArray), 0, 0, 1) else nextL ((bl s).drop a.toNat) a.toNat
theorem bl_extract (s : ByteArray) (i j : Nat) : bl (s.extract i j) = ((bl s).drop i).take (j - i) := by
  simp [bl, ByteArray.data_extract, List.extract_eq_take_drop]
theorem bl_rest (s : ByteArray) (i : Nat) : bl (s.extract i s.size) = (bl s).drop i := by
  rw [bl_extract, List.take_of_length_le (by rw [List.length_drop, bl_len]; exact Nat.le_refl _)]
theorem u8_eq (c : UInt8) (n : Nat) (hn : n < 256) : ((c.toNat : Int) = (n : Int)) ↔ c = UInt8.ofNat n := by
  constructor
  · intro h
    have h : c.toNat = n := by omega
    rw [← h]; simp
  · rintro rfl
    simp [Nat.mod_eq_of_lt hn]
theorem bt_cons {r : ByteArray} {c : UInt8} {t : List UInt8} (h : bl r = c :: t) : bt r 0 = (c.toNat : Int) := by
  have := bt_bl r 0 (by rw [h]; simp)
  simpa [h] using this
theorem bt_cons1 {r : ByteArray} {c d : UInt8} {t : List UInt8} (h : bl r = c :: d :: t) : bt r 1 = (d.toNat : Int) := by
  have := bt_bl r 1 (by rw [h]; simp)
  simpa [h] using this
/-- the signs -/
def signL : List UInt8 → Int × Int
  | [] => (0, 0)
  | c :: r => if c = 40 then (3, 1) else if c = 41 then (4, 1) else if c = 44 then (5, 1) else if c = 61 then (6, 1) else if c = 45 ∧ r.head? = some 62 then (7, 2) else (0, 0)
theorem pre_f (r : ByteArray) (c : UInt8) (t : List UInt8) (h : bl r = c :: t) : strings_HasPrefix.f r (⟨#[45, 62]⟩ : ByteArray) = some (decide (c = 45 ∧ t.head? = some 62)) := by
  have hl := bl_len r
  rw [h] at hl
  unfold strings_HasPrefix.f stringslite_HasPrefix.f
  have h2 : ((⟨#[45, 62]⟩ : ByteArray).size : Int) = 2 := rfl
  rw [h2]
  cases t with
  | nil =>
    simp only [List.length_cons, List.length_nil] at hl
    rw [if_neg (by omega)]
    simp
  | cons d t =>
    simp only [List.length_cons] at hl
    rw [if_pos (by omega), if_pos (by omega), if_pos (by omega)]
    have hb : (r.extract 0 2).toList = [c, d] := by
      have := bl_extract r 0 2
      rw [h] at this
      rw [ByteArray.toList_eq] at *
      simpa [bl] using this
    have hc : (⟨#[45, 62]⟩ : ByteArray).toList = [45, 62] := by decide +kernel
    simp only [Option.bind_some, hc]
    have e2 : ((2 : Int)).toNat = 2 := rfl
    rw [e2, hb]
    simp only [List.head?_cons, Option.some.injEq, Option.some.injEq]
    by_cases e1 : c = 45 <;> by_cases e2 : d = 62 <;> simp [e1, e2]
theorem sign_f (r : ByteArray) (c : UInt8) (t : List UInt8) (h : bl r = c :: t) : words_sign.f r = some (signL (c :: t)) := by
  have hl := bl_len r
  rw [h] at hl
  simp only [List.length_cons] at hl
  unfold words_sign.f
  rw [if_pos (by omega), bt_cons h, pre_f r c t h]
  unfold signL
  have e40 : (c.toNat : Int) = 40 ↔ c = 40 := u8_eq c 40 (by omega)
  have e41 : (c.toNat : Int) = 41 ↔ c = 41 := u8_eq c 41 (by omega)
  have e44 : (c.toNat : Int) = 44 ↔ c = 44 := u8_eq c 44 (by omega)
  have e61 : (c.toNat : Int) = 61 ↔ c = 61 := u8_eq c 61 (by omega)
  simp only [Option.bind_some, decide_eq_true_eq, e40, e41, e44, e61]
  repeat' split
  all_goals rfl
theorem fin_f (p : Nat) (r : ByteArray) (kd : Int) (n : Nat) (hn : n ≤ (bl r).length) (hp : p + (bl r).length ≤ 140737488351232) : nextFin p r kd (n : Int) = some (mkL p (bl r) (finT kd n)) := by
  have hl := bl_len r
  unfold nextFin mkL finT
  by_cases h : 12 < n
  · rw [if_pos (by omega), if_pos h, if_neg (by decide)]
  · rw [if_neg (by omega), if_neg h, if_pos (by omega), if_pos (by omega), if_pos rfl]
    have hw : wrap64 ((p : Int) + (n : Int)) = ((p + n : Nat) : Int) := by
      unfold wrap64
      omega
    have he : r.extract 0 ((n : Int)).toNat = ⟨((bl r).take n).toArray⟩ := by
      apply bl_ext
      rw [bl_extract]
      simp [bl]
    rw [hw, he]
theorem span_cons_pos {q : UInt8 → Bool} {c : UInt8} {t : List UInt8} (h : q c = true) : span q (c :: t) = 1 + span q t := by
  unfold span
  rw [List.takeWhile_cons, h]
  simp
  omega
theorem word_f (k p : Nat) (r : ByteArray) (c : UInt8) (t : List UInt8) (h : bl r = c :: t) (h0 : signL (c :: t) = (0, 0)) (hk : (bl r).length < k) (hp : p + (bl r).length ≤ 140737488351232) :
    nextWord k p r = some (mkL p (bl r) (tokL (c :: t))) := by
  have hl := bl_len r
  have hll : (bl r).length = t.length + 1 := by rw [h]; rfl
  have hlow := ix_low c
  have hup := ix_up c
  unfold nextWord
  have hi := fun among => index_f among r 0 (by omega)
  have h0c : (bl r)[0]'(by omega) = c := by simp [h]
  simp only [h0c] at hi
  have hi' : ∀ among, strings_IndexByte.f among (bt r 0) = some (Lib.indexByte among.data.toList c) := fun among => by simpa using hi among
  rw [hi', Option.bind_some]
  have htok : tokL (c :: t) = if lowU c = true then finT 1 (1 + span lowdigU t) else if upU c = true then finT 2 (1 + span allU t) else if c = 95 then (if span digU t = 0 ∨ t.head? = some 48 then (0, 0, 21) else finT 2 (1 + span digU t)) else (0, 0, 21) := by
    unfold signL at h0
    unfold tokL
    dsimp only at h0 ⊢
    by_cases a : c = 40
    · rw [if_pos a] at h0; simp at h0
    by_cases b : c = 41
    · rw [if_neg a, if_pos b] at h0; simp at h0
    by_cases d : c = 44
    · rw [if_neg a, if_neg b, if_pos d] at h0; simp at h0
    by_cases e : c = 61
    · rw [if_neg a, if_neg b, if_neg d, if_pos e] at h0; simp at h0
    by_cases g : c = 45 ∧ t.head? = some 62
    · rw [if_neg a, if_neg b, if_neg d, if_neg e, if_pos g] at h0; simp at h0
    rw [if_neg a, if_neg b, if_neg d, if_neg e, if_neg g]
  rw [htok]
  have hr0 := run_f r lowdigsB lowdigU ix_lowdig (by omega) 0 (by omega) k hk
  have hr1 := run_f r allsB allU ix_all (by omega) 0 (by omega) k hk
  have hr2 := run_f r digsB digU ix_dig (by omega) 1 (by omega) k hk
  simp only [List.drop_zero, Nat.zero_add, h, List.drop_succ_cons] at hr0 hr1 hr2
  have s0 := span_le lowdigU t
  have s1 := span_le allU t
  have s2 := span_le digU t
  cases c1 : lowU c with
  | true =>
    rw [c1] at hlow
    rw [if_pos (of_decide_eq_true hlow), if_pos (rfl : true = true)]
    rw [show ((0 : Nat) : Int) = 0 from rfl] at hr0
    rw [hr0, Option.bind_some, span_cons_pos (by simp [lowdigU, c1])]
    exact fin_f p r 1 _ (by omega) hp
  | false =>
    rw [c1] at hlow
    rw [if_neg (of_decide_eq_false hlow), if_neg Bool.false_ne_true, hi', Option.bind_some]
    cases c2 : upU c with
    | true =>
      rw [c2] at hup
      rw [if_pos (of_decide_eq_true hup), if_pos (rfl : true = true)]
      rw [show ((0 : Nat) : Int) = 0 from rfl] at hr1
      rw [hr1, Option.bind_some, span_cons_pos (by simp [allU, c2])]
      exact fin_f p r 2 _ (by omega) hp
    | false =>
      rw [c2] at hup
      rw [if_neg (of_decide_eq_false hup), if_neg Bool.false_ne_true, bt_cons h]
      have e95 : (c.toNat : Int) = 95 ↔ c = 95 := u8_eq c 95 (by omega)
      by_cases c3 : c = 95
      · rw [if_pos (e95.mpr c3), if_pos c3]
        rw [show ((1 : Nat) : Int) = 1 from rfl] at hr2
        rw [hr2, Option.bind_some]
        by_cases c4 : span digU t = 0
        · rw [if_pos (by omega), if_pos (.inl c4)]
          simp [mkL]
        · rw [if_neg (by omega)]
          cases t with
          | nil => simp [span] at c4
          | cons d t =>
            rw [if_pos (by simp at hll; omega), bt_cons1 h]
            have e48 : (d.toNat : Int) = 48 ↔ d = 48 := u8_eq d 48 (by omega)
            by_cases c5 : d = 48
            · rw [if_pos (e48.mpr c5), if_pos (by simp [c5])]
              simp [mkL]
            · rw [if_neg (fun e => c5 (e48.mp e)), if_neg (by simp [c4, c5])]
              exact fin_f p r 2 _ (by omega) hp
      · rw [if_neg (fun e => c3 (e95.mp e)), if_neg c3]
        simp [mkL]
theorem rest_f (k p : Nat) (r : ByteArray) (hne : bl r ≠ []) (hk : (bl r).length < k) (hp : p + (bl r).length ≤ 140737488351232) :
    nextRest k p r = some (mkL p (bl r) (tokL (bl r))) := by
  obtain ⟨c, t, h⟩ := List.exists_cons_of_ne_nil hne
  have hl := bl_len r
  unfold nextRest
  rw [sign_f r c t h, Option.bind_some, if_pos (by rw [← hl, h]; simp)]
  by_cases h0 : signL (c :: t) = (0, 0)
  · rw [h0, if_pos rfl, word_f k p r c t h h0 hk hp, ← h]
  · have hT : ∃ kd n : Nat, signL (c :: t) = ((kd : Int), (n : Int)) ∧ tokL (c :: t) = finT kd n ∧ (kd : Int) ≠ 0 ∧ n ≤ (c :: t).length := by
      unfold signL at h0 ⊢
      unfold tokL
      dsimp only at h0 ⊢
      clear h hne hl
      by_cases a : c = 40
      · exact ⟨3, 1, by rw [if_pos a]; rfl, by rw [if_pos a]; rfl, by decide, by simp⟩
      rw [if_neg a] at h0
      by_cases b : c = 41
      · exact ⟨4, 1, by rw [if_neg a, if_pos b]; rfl, by rw [if_neg a, if_pos b]; rfl, by decide, by simp⟩
      rw [if_neg b] at h0
      by_cases d : c = 44
      · exact ⟨5, 1, by rw [if_neg a, if_neg b, if_pos d]; rfl, by rw [if_neg a, if_neg b, if_pos d]; rfl, by decide, by simp⟩
      rw [if_neg d] at h0
      by_cases e : c = 61
      · exact ⟨6, 1, by rw [if_neg a, if_neg b, if_neg d, if_pos e]; rfl, by rw [if_neg a, if_neg b, if_neg d, if_pos e]; rfl, by decide, by simp⟩
      rw [if_neg e] at h0
      by_cases g : c = 45 ∧ t.head? = some 62
      · refine ⟨7, 2, by rw [if_neg a, if_neg b, if_neg d, if_neg e, if_pos g]; rfl, by rw [if_neg a, if_neg b, if_neg d, if_neg e, if_pos g]; rfl, by decide, ?_⟩
        cases t with
        | nil => exact absurd g.2 (by simp)
        | cons => simp
      rw [if_neg g] at h0
      exact absurd rfl h0
    obtain ⟨kd, n, e1, e2, e3, e4⟩ := hT
    rw [e1, if_neg e3, fin_f p r kd n (by rw [h]; exact e4) hp, h, e2]
theorem next_f (s : ByteArray) (hs : s.size ≤ 140737488351232) (a : Int) (k : Nat) (hk : (bl s).length < k) : words_Next.f k s a = some (nextS s a) := by
  have hl := bl_len s
  unfold words_Next.f nextS
  by_cases c1 : a < 0
  · rw [if_pos c1, if_pos (.inl c1)]
  · rw [if_neg c1]
    by_cases c2 : (s.size : Int) < a
    · rw [if_pos c2, if_pos (.inr c2)]
    · rw [if_neg c2, if_neg (by omega)]
      obtain ⟨i, rfl⟩ : ∃ i : Nat, a = (i : Int) := ⟨a.toNat, by omega⟩
      rw [run_f s spB spU ix_sp hs i (by omega) k hk, Option.bind_some]
      simp only [Int.toNat_natCast]
      have hsp := span_le spU ((bl s).drop i)
      rw [List.length_drop] at hsp
      unfold nextL
      rw [List.drop_drop]
      by_cases c3 : i + span spU ((bl s).drop i) = (bl s).length
      · rw [if_pos (by omega), if_pos (List.drop_eq_nil_of_le (by omega))]
      · rw [if_neg (by omega), if_pos (by omega), if_pos (by omega)]
        have hr := bl_rest s (i + span spU ((bl s).drop i))
        have hle : (bl (s.extract (i + span spU ((bl s).drop i)) s.size)).length = (bl s).length - (i + span spU ((bl s).drop i)) := by rw [hr, List.length_drop]
        have hne : bl (s.extract (i + span spU ((bl s).drop i)) s.size) ≠ [] := fun e => by rw [e] at hle; simp at hle; omega
        rw [rest_f k _ _ hne (by omega) (by omega), hr]
        rw [hr] at hne
        rw [if_neg hne]
theorem tok_word {c : UInt8} {t : List UInt8} (h0 : signL (c :: t) = (0, 0)) : tokL (c :: t) = if lowU c = true then finT 1 (1 + span lowdigU t) else if upU c = true then finT 2 (1 + span allU t) else if c = 95 then (if span digU t = 0 ∨ t.head? = some 48 then (0, 0, 21) else finT 2 (1 + span digU t)) else (0, 0, 21) := by
  unfold signL at h0
  unfold tokL
  dsimp only at h0 ⊢
  by_cases a : c = 40
  · rw [if_pos a] at h0; simp at h0
  by_cases b : c = 41
  · rw [if_neg a, if_pos b] at h0; simp at h0
  by_cases d : c = 44
  · rw [if_neg a, if_neg b, if_pos d] at h0; simp at h0
  by_cases e : c = 61
  · rw [if_neg a, if_neg b, if_neg d, if_pos e] at h0; simp at h0
  by_cases g : c = 45 ∧ t.head? = some 62
  · rw [if_neg a, if_neg b, if_neg d, if_neg e, if_pos g] at h0; simp at h0
  rw [if_neg a, if_neg b, if_neg d, if_neg e, if_neg g]
theorem tok_sign {c : UInt8} {t : List UInt8} (h0 : signL (c :: t) ≠ (0, 0)) : ∃ kd n : Nat, signL (c :: t) = ((kd : Int), (n : Int)) ∧ tokL (c :: t) = finT kd n ∧ (kd : Int) ≠ 0 ∧ n ≤ (c :: t).length := by
  unfold signL at h0 ⊢
  unfold tokL
  dsimp only at h0 ⊢
  by_cases a : c = 40
  · exact ⟨3, 1, by rw [if_pos a]; rfl, by rw [if_pos a]; rfl, by decide, by simp⟩
  rw [if_neg a] at h0
  by_cases b : c = 41
  · exact ⟨4, 1, by rw [if_neg a, if_pos b]; rfl, by rw [if_neg a, if_pos b]; rfl, by decide, by simp⟩
  rw [if_neg b] at h0
  by_cases d : c = 44
  · exact ⟨5, 1, by rw [if_neg a, if_neg b, if_pos d]; rfl, by rw [if_neg a, if_neg b, if_pos d]; rfl, by decide, by simp⟩
  rw [if_neg d] at h0
  by_cases e : c = 61
  · exact ⟨6, 1, by rw [if_neg a, if_neg b, if_neg d, if_pos e]; rfl, by rw [if_neg a, if_neg b, if_neg d, if_pos e]; rfl, by decide, by simp⟩
  rw [if_neg e] at h0
  by_cases g : c = 45 ∧ t.head? = some 62
  · refine ⟨7, 2, by rw [if_neg a, if_neg b, if_neg d, if_neg e, if_pos g]; rfl, by rw [if_neg a, if_neg b, if_neg d, if_neg e, if_pos g]; rfl, by decide, ?_⟩
    cases t with
    | nil => exact absurd g.2 (by simp)
    | cons => simp
  rw [if_neg g] at h0
  exact absurd rfl h0
theorem finT_ok {kd' : Int} {n' : Nat} {kd : Int} {n : Nat} (h : finT kd' n' = (kd, n, 0)) : kd = kd' ∧ n = n' ∧ n ≤ 12 := by
  unfold finT at h
  by_cases c : 12 < n'
  · rw [if_pos c] at h; simp at h
  · rw [if_neg c] at h
    simp only [Prod.mk.injEq] at h
    omega
theorem tok_ok {m : List UInt8} (hm : m ≠ []) {kd : Int} {n : Nat} (ht : tokL m = (kd, n, 0)) : kd ≠ 0 ∧ 1 ≤ n ∧ n ≤ m.length ∧ n ≤ 12 := by
  obtain ⟨c, t, rfl⟩ := List.exists_cons_of_ne_nil hm
  by_cases h0 : signL (c :: t) = (0, 0)
  · rw [tok_word h0] at ht
    have s0 := span_le lowdigU t
    have s1 := span_le allU t
    have s2 := span_le digU t
    simp only [List.length_cons]
    split at ht
    · have := finT_ok ht; omega
    · split at ht
      · have := finT_ok ht; omega
      · split at ht
        · split at ht
          · simp at ht
          · have := finT_ok ht; omega
        · simp at ht
  · obtain ⟨kd', n', e1, e2, e3, e4⟩ := tok_sign h0
    have hb : 1 ≤ n' := by
      unfold signL at e1
      dsimp only at e1
      apply Classical.byContradiction
      intro hn
      obtain rfl : n' = 0 := by omega
      repeat' split at e1
      all_goals simp at e1
      exact e3 (by rw [← e1])
    rw [e2] at ht
    have := finT_ok ht
    omega
theorem nextS_at (s : ByteArray) (p : Nat) (hp : p ≤ (bl s).length) : nextS s p = nextL ((bl s).drop p) p := by
  have hl := bl_len s
  unfold nextS
  rw [if_neg (by omega), Int.toNat_natCast]
theorem next_stop {l : List UInt8} (p : Nat) (h : l.drop (span spU l) = []) : nextL l p = (0, (⟨#[]⟩ : ByteArray), 0, ((p + span spU l : Nat) : Int), 0) := by
  unfold nextL
  rw [if_pos h]
theorem next_bad {l : List UInt8} (p : Nat) (h : l.drop (span spU l) ≠ []) {kd : Int} {n : Nat} {e : Int} (ht : tokL (l.drop (span spU l)) = (kd, n, e)) (he : e ≠ 0) : nextL l p = (0, (⟨#[]⟩ : ByteArray), 0, ((p + span spU l : Nat) : Int), e) := by
  unfold nextL mkL
  rw [if_neg h, ht, if_neg he]
theorem next_word {l : List UInt8} (p : Nat) (h : l.drop (span spU l) ≠ []) {kd : Int} {n : Nat} (ht : tokL (l.drop (span spU l)) = (kd, n, 0)) : nextL l p = (kd, ⟨((l.drop (span spU l)).take n).toArray⟩, ((p + span spU l : Nat) : Int), ((p + span spU l + n : Nat) : Int), 0) := by
  unfold nextL mkL
  rw [if_neg h, ht, if_pos rfl]
end Go.Proofs.Ytpepjodkahdicaa.Sw
