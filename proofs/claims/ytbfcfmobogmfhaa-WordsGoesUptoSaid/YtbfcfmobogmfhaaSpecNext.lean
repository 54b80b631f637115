/-
  Words, plainly: the word that comes next in a text, as a function of the list of its bytes; the program's Next and the document's come to it. Conditions: each theorem's own.
-/
import Derived.Test.YtbfcfmobogmfhaaWWords
import Derived.Test.YtbfcfmobogmfhaaPWdx1
import Derived.Test.YtbfcfmobogmfhaaPWdx4
import Derived.Test.YtbfcfmobogmfhaaPWdx3
namespace Go.Proofs.Ytbfcfmobogmfhaa.Sw
open Go.RowKit Go.Proofs.YtbfcfmobogmfhaaW.PrintWords Go.Proofs.Ytbfcfmobogmfhaa.PWd
abbrev bl (s : ByteArray) : List UInt8 := s.data.toList
theorem bl_len (s : ByteArray) : (bl s).length = s.size := by unfold bl; rw [Array.length_toList]; rfl
theorem bl_ext {a b : ByteArray} (h : bl a = bl b) : a = b := ByteArray.ext (Array.ext' h)
theorem bt_bl (s : ByteArray) (i : Nat) (h : i < (bl s).length) : bt s i = ((bl s)[i].toNat : Int) := by
  rw [bl_len] at h
  have : ((i : Int)).toNat = i := rfl
  simp only [bt, this, h, dif_pos]
  rfl
theorem wrap_nat {i n : Nat} (h : i < n) (hn : n ≤ 4611686018427387904) : wrap64 ((i : Int) + 1) = ((i + 1 : Nat) : Int) := by
  unfold wrap64
  omega
theorem k_succ {k d : Nat} (h : d < k) : ∃ m, k = m + 1 ∧ d ≤ m := ⟨k - 1, by omega, by omega⟩
/-! classes of bytes -/
def lowU (c : UInt8) : Bool := decide (97 ≤ c.toNat) && decide (c.toNat ≤ 122)
def upU (c : UInt8) : Bool := decide (65 ≤ c.toNat) && decide (c.toNat ≤ 90)
def digU (c : UInt8) : Bool := decide (48 ≤ c.toNat) && decide (c.toNat ≤ 57)
def spU (c : UInt8) : Bool := c == 32
def lowdigU (c : UInt8) : Bool := lowU c || digU c
def allU (c : UInt8) : Bool := upU c || lowU c || digU c
theorem all_bytes {p : UInt8 → Prop} (h : ∀ n : Fin 256, p (UInt8.ofNat n.val)) (c : UInt8) : p c := by
  have := h ⟨c.toNat, c.toNat_lt⟩
  simpa using this
theorem ix_sp (c : UInt8) : decide (0 ≤ Lib.indexByte spB.data.toList c) = spU c := all_bytes (p := fun c => decide (0 ≤ Lib.indexByte spB.data.toList c) = spU c) (by decide +kernel) c
theorem ix_low (c : UInt8) : decide (0 ≤ Lib.indexByte lowsB.data.toList c) = lowU c := all_bytes (p := fun c => decide (0 ≤ Lib.indexByte lowsB.data.toList c) = lowU c) (by decide +kernel) c
theorem ix_up (c : UInt8) : decide (0 ≤ Lib.indexByte upsB.data.toList c) = upU c := all_bytes (p := fun c => decide (0 ≤ Lib.indexByte upsB.data.toList c) = upU c) (by decide +kernel) c
theorem ix_dig (c : UInt8) : decide (0 ≤ Lib.indexByte digsB.data.toList c) = digU c := all_bytes (p := fun c => decide (0 ≤ Lib.indexByte digsB.data.toList c) = digU c) (by decide +kernel) c
theorem ix_lowdig (c : UInt8) : decide (0 ≤ Lib.indexByte lowdigsB.data.toList c) = lowdigU c := all_bytes (p := fun c => decide (0 ≤ Lib.indexByte lowdigsB.data.toList c) = lowdigU c) (by decide +kernel) c
theorem ix_all (c : UInt8) : decide (0 ≤ Lib.indexByte allsB.data.toList c) = allU c := all_bytes (p := fun c => decide (0 ≤ Lib.indexByte allsB.data.toList c) = allU c) (by decide +kernel) c
/-! the program's run -/
theorem index_f (among s : ByteArray) (i : Nat) (h : i < (bl s).length) : strings_IndexByte.f among (bt s i) = some (Lib.indexByte among.data.toList (bl s)[i]) := by
  unfold strings_IndexByte.f
  rw [bt_bl s i h, Int.toNat_natCast]
  simp
def span (q : UInt8 → Bool) (l : List UInt8) : Nat := (l.takeWhile q).length
theorem span_le (q : UInt8 → Bool) (l : List UInt8) : span q l ≤ l.length := by
  unfold span
  exact List.Sublist.length_le (List.takeWhile_sublist q)
theorem run_l0 (s among : ByteArray) (q : UInt8 → Bool) (hq : ∀ c, decide (0 ≤ Lib.indexByte among.data.toList c) = q c) (hs : s.size ≤ 140737488351232) : ∀ (d i k : Nat), i + d = (bl s).length → d < k →
    words_run.l0 k s i among = some ((i + span q ((bl s).drop i) : Nat) : Int) := by
  intro d
  have hl := bl_len s
  induction d with
  | zero =>
    intro i k hi hk
    obtain ⟨k, rfl, _⟩ := k_succ hk
    simp only [words_run.l0]
    rw [if_neg (by omega), List.drop_eq_nil_of_le (by omega)]
    simp [span]
  | succ d ih =>
    intro i k hi hk
    obtain ⟨k, rfl, _⟩ := k_succ hk
    have hil : i < (bl s).length := by omega
    simp only [words_run.l0]
    rw [if_pos (by omega), if_pos (by omega), index_f among s i hil]
    simp only [Option.bind_some]
    have hc := hq (bl s)[i]
    rw [List.drop_eq_getElem_cons hil]
    unfold span
    rw [List.takeWhile_cons]
    cases hqc : q (bl s)[i] with
    | true =>
      rw [hqc] at hc
      have hc := of_decide_eq_true hc
      rw [if_neg (by omega), wrap_nat hil (by omega), ih (i + 1) k (by omega) (by omega)]
      simp [span]
      omega
    | false =>
      rw [hqc] at hc
      have hc := of_decide_eq_false hc
      rw [if_pos (by omega)]
      simp
theorem run_f (s among : ByteArray) (q : UInt8 → Bool) (hq : ∀ c, decide (0 ≤ Lib.indexByte among.data.toList c) = q c) (hs : s.size ≤ 140737488351232) (i : Nat) (hi : i ≤ (bl s).length) (k : Nat) (hk : (bl s).length < k) :
    words_run.f k s i among = some ((i + span q ((bl s).drop i) : Nat) : Int) := run_l0 s among q hq hs ((bl s).length - i) i k (by omega) (by omega)
/-! the word at the head of a list of bytes -/
/-- kind, length, error -/
abbrev Tok := Int × Nat × Int
def finT (kd : Int) (n : Nat) : Tok := if 12 < n then (0, 0, 22) else (kd, n, 0)
def tokL : List UInt8 → Tok
  | [] => (0, 0, 0)
  | c :: r =>
    if c = 40 then (3, 1, 0) else if c = 41 then (4, 1, 0) else if c = 44 then (5, 1, 0) else if c = 61 then (6, 1, 0)
    else if c = 45 ∧ r.head? = some 62 then (7, 2, 0)
    else if lowU c = true then finT 1 (1 + span lowdigU r)
    else if upU c = true then finT 2 (1 + span allU r)
    else if c = 95 then (if span digU r = 0 ∨ r.head? = some 48 then (0, 0, 21) else finT 2 (1 + span digU r))
    else (0, 0, 21)
/-- what Next tells of a list of bytes m, no blank first, at place p, where the word is t -/
def mkL (p : Nat) (m : List UInt8) (t : Tok) : NextR :=
  if t.2.2 = 0 then (t.1, ⟨(m.take t.2.1).toArray⟩, (p : Int), ((p + t.2.1 : Nat) : Int), 0) else (0, (⟨#[]⟩ : ByteArray), 0, (p : Int), t.2.2)
/-- what Next tells of a list of bytes that begins at place p -/
def nextL (l : List UInt8) (p : Nat) : NextR :=
  if l.drop (span spU l) = [] then (0, (⟨#[]⟩ : ByteArray), 0, ((p + span spU l : Nat) : Int), 0) else mkL (p + span spU l) (l.drop (span spU l)) (tokL (l.drop (span spU l)))
def nextS (s : ByteArray) (a : Int) : NextR :=
  if a < 0 ∨ (s.size : Int) < a then (0, (⟨#[]⟩ : ByteArray), 0, 0, 1) else nextL ((bl s).drop a.toNat) a.toNat
theorem bl_extract (s : ByteArray) (i j : Nat) : bl (s.extract i j) = ((bl s).drop i).take (j - i) := by
  simp [bl, ByteArray.data_extract, List.extract_eq_take_drop]
theorem bl_rest (s : ByteArray) (i : Nat) : bl (s.extract i s.size) = (bl s).drop i := by
  rw [bl_extract, List.take_of_length_le (by rw [List.length_drop, bl_len]; exact Nat.le_refl _)]
theorem u8_eq (c : UInt8) (n : Nat) (hn : n < 256) : ((c.toNat : Int) = (n : Int)) ↔ c = UInt8.ofNat n := by
  constructor
  · intro h
    have h : c.toNat = n := by omega
    rw [← h]; simp
  · rintro rfl
    simp [Nat.mod_eq_of_lt hn]
end Go.Proofs.Ytbfcfmobogmfhaa.Sw
