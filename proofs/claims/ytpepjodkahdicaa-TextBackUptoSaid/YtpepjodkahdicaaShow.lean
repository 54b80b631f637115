/-
  Texts, plainly: the words of a term that is shown; what is read has such words, and such words are read as they were. Conditions: each theorem's own.
-/
-- Written by programs of this session (wip/tools), cut to what the claim uses (wip/tools/prune.py).
import Derived.Test.YtpepjodkahdicaaLex
import Derived.Test.YtpepjodkahdicaaPTbx3
namespace Go.Proofs.Ytpepjodkahdicaa.Sw
open Go.RowKit Go.Proofs.YtpepjodkahdicaaW.PrintWords Go.Proofs.Ytpepjodkahdicaa.PTb
abbrev Tr := S27
def VN (m : List UInt8) : Prop := ∃ c t, m = c :: t ∧ lowU c = true ∧ (∀ x ∈ t, lowdigU x = true) ∧ m.length ≤ 12
def VV (m : List UInt8) : Prop := (∃ c t, m = c :: t ∧ upU c = true ∧ (∀ x ∈ t, allU x = true) ∧ m.length ≤ 12) ∨ (∃ d t, m = 95 :: d :: t ∧ d ≠ 48 ∧ (∀ x ∈ d :: t, digU x = true) ∧ m.length ≤ 12)
/-- The head of what follows a word: a sign ( ) , or nothing. -/
def Stop (r : List UInt8) : Prop := r = [] ∨ ∃ c t, r = c :: t ∧ (c = 40 ∨ c = 41 ∨ c = 44 ∨ c = 32 ∨ c = 61)
theorem span_stop {q : UInt8 → Bool} (h40 : q 40 = false) (h41 : q 41 = false) (h44 : q 44 = false) (h32 : q 32 = false) (h61 : q 61 = false) (t r : List UInt8) (ht : ∀ x ∈ t, q x = true) (hr : Stop r) : span q (t ++ r) = t.length := by
  induction t with
  | nil =>
    rcases hr with rfl | ⟨c, r', rfl, hc⟩
    · rfl
    · have : q c = false := by rcases hc with rfl | rfl | rfl | rfl | rfl <;> assumption
      simp [span, this]
  | cons x t ih =>
    rw [List.cons_append, span_cons_pos (ht x (by simp)), ih (fun y hy => ht y (by simp [hy])), List.length_cons]
    omega
theorem low_not {c : UInt8} (h : lowU c = true) : ¬ c = 40 ∧ ¬ c = 41 ∧ ¬ c = 44 ∧ ¬ c = 61 ∧ ¬ c = 45 ∧ ¬ c = 32 ∧ upU c = false ∧ ¬ c = 95 := by
  have : ∀ n : Fin 256, lowU (UInt8.ofNat n.val) = true → ¬ UInt8.ofNat n.val = 40 ∧ ¬ UInt8.ofNat n.val = 41 ∧ ¬ UInt8.ofNat n.val = 44 ∧ ¬ UInt8.ofNat n.val = 61 ∧ ¬ UInt8.ofNat n.val = 45 ∧ ¬ UInt8.ofNat n.val = 32 ∧ upU (UInt8.ofNat n.val) = false ∧ ¬ UInt8.ofNat n.val = 95 := by decide +kernel
  exact all_bytes (p := fun c => lowU c = true → ¬ c = 40 ∧ ¬ c = 41 ∧ ¬ c = 44 ∧ ¬ c = 61 ∧ ¬ c = 45 ∧ ¬ c = 32 ∧ upU c = false ∧ ¬ c = 95) this c h
theorem up_not {c : UInt8} (h : upU c = true) : ¬ c = 40 ∧ ¬ c = 41 ∧ ¬ c = 44 ∧ ¬ c = 61 ∧ ¬ c = 45 ∧ ¬ c = 32 ∧ lowU c = false ∧ ¬ c = 95 := by
  have : ∀ n : Fin 256, upU (UInt8.ofNat n.val) = true → ¬ UInt8.ofNat n.val = 40 ∧ ¬ UInt8.ofNat n.val = 41 ∧ ¬ UInt8.ofNat n.val = 44 ∧ ¬ UInt8.ofNat n.val = 61 ∧ ¬ UInt8.ofNat n.val = 45 ∧ ¬ UInt8.ofNat n.val = 32 ∧ lowU (UInt8.ofNat n.val) = false ∧ ¬ UInt8.ofNat n.val = 95 := by decide +kernel
  exact all_bytes (p := fun c => upU c = true → ¬ c = 40 ∧ ¬ c = 41 ∧ ¬ c = 44 ∧ ¬ c = 61 ∧ ¬ c = 45 ∧ ¬ c = 32 ∧ lowU c = false ∧ ¬ c = 95) this c h
theorem tok_VN {m : List UInt8} (h : VN m) (r : List UInt8) (hr : Stop r) : tokL (m ++ r) = (1, m.length, 0) := by
  obtain ⟨c, t, rfl, hc, ht, hl⟩ := h
  obtain ⟨n1, n2, n3, n4, n5, _, _, _⟩ := low_not hc
  rw [List.cons_append]
  simp only [tokL, n1, n2, n3, n4, n5, if_false, false_and, hc, if_true, span_stop (q := lowdigU) (by decide) (by decide) (by decide) (by decide) (by decide) t r ht hr, finT]
  rw [List.length_cons] at hl ⊢
  rw [if_neg (by omega), Nat.add_comm]
theorem tok_VV {m : List UInt8} (h : VV m) (r : List UInt8) (hr : Stop r) : tokL (m ++ r) = (2, m.length, 0) := by
  rcases h with ⟨c, t, rfl, hc, ht, hl⟩ | ⟨d, t, rfl, hd, ht, hl⟩
  · obtain ⟨n1, n2, n3, n4, n5, _, n6, _⟩ := up_not hc
    rw [List.cons_append]
    simp only [tokL, n1, n2, n3, n4, n5, if_false, false_and, n6, hc, if_true, span_stop (q := allU) (by decide) (by decide) (by decide) (by decide) (by decide) t r ht hr, finT, Bool.false_eq_true]
    rw [List.length_cons] at hl ⊢
    rw [if_neg (by omega), Nat.add_comm]
  · have hsp := span_stop (q := digU) (by decide) (by decide) (by decide) (by decide) (by decide) (d :: t) r ht hr
    rw [List.cons_append] at hsp
    rw [List.cons_append, List.cons_append]
    have e1 : lowU 95 = false := by decide
    have e2 : upU 95 = false := by decide
    have e3 : ¬ ((95 : UInt8) = 40) := by decide
    have e4 : ¬ ((95 : UInt8) = 41) := by decide
    have e5 : ¬ ((95 : UInt8) = 44) := by decide
    have e6 : ¬ ((95 : UInt8) = 61) := by decide
    have e7 : ¬ ((95 : UInt8) = 45) := by decide
    simp only [tokL, e1, e2, e3, e4, e5, e6, e7, if_false, false_and, if_true, Bool.false_eq_true, hsp, List.head?_cons, Option.some.injEq, hd, or_false, List.length_cons, Nat.add_eq_zero_iff, finT]
    simp only [List.length_cons] at hl
    rw [if_neg (by omega), if_neg (by omega)]
    simp
    omega
theorem VN_ne {m : List UInt8} (h : VN m) : m ≠ [] ∧ span spU m = 0 := by
  obtain ⟨c, t, rfl, hc, _, _⟩ := h
  have := (low_not hc).2.2.2.2.2.1
  exact ⟨by simp, by simp [span, spU, this]⟩
theorem VV_ne {m : List UInt8} (h : VV m) : m ≠ [] ∧ span spU m = 0 := by
  rcases h with ⟨c, t, rfl, hc, _, _⟩ | ⟨d, t, rfl, _, _, _⟩
  · have := (up_not hc).2.2.2.2.2.1
    exact ⟨by simp, by simp [span, spU, this]⟩
  · exact ⟨by simp, by simp [span, spU]⟩
/-- the bytes of words -/
def flat (ts : List Tk) : List UInt8 := ts.flatMap (fun x => bl x.2)
theorem flat_cons (x : Tk) (ts : List Tk) : flat (x :: ts) = bl x.2 ++ flat ts := by simp [flat]
theorem flat_app (a b : List Tk) : flat (a ++ b) = flat a ++ flat b := by simp [flat]
theorem lex_one {m r : List UInt8} {kd : Int} {ts : List Tk} {e : Int} (hm : m ≠ []) (hs : span spU (m ++ r) = 0) (ht : tokL (m ++ r) = (kd, m.length, 0)) (hr : Lex r ts e) : Lex (m ++ r) ((kd, ⟨m.toArray⟩) :: ts) e := by
  have h1 : (m ++ r).drop (span spU (m ++ r)) = m ++ r := by rw [hs]; rfl
  have := Lex.word (m ++ r) (by rw [h1]; simp [hm]) kd m.length (by rw [h1]; exact ht) ts e (by rw [h1, List.drop_left]; exact hr)
  rw [h1, List.take_left] at this
  exact this
theorem span_head {m r : List UInt8} (hm : m ≠ []) (h : span spU m = 0) : span spU (m ++ r) = 0 := by
  cases m with
  | nil => exact absurd rfl hm
  | cons c m =>
    cases hc : spU c with
    | true => rw [span_cons_pos hc] at h; omega
    | false => simp [span, hc]
theorem lex_sign {c : UInt8} {kd : Int} (hc : (c = 40 ∧ kd = 3) ∨ (c = 41 ∧ kd = 4) ∨ (c = 44 ∧ kd = 5)) {r : List UInt8} {ts : List Tk} {e : Int} (hr : Lex r ts e) : Lex (c :: r) ((kd, ⟨#[c]⟩) :: ts) e := by
  rcases hc with ⟨rfl, rfl⟩ | ⟨rfl, rfl⟩ | ⟨rfl, rfl⟩
  all_goals exact lex_one (m := [_]) (by simp) (by simp [span, spU]) (by simp [tokL]) hr
mutual
/-- the words of a term, at that depth at most -/
def Sh (g : List S62) : Nat → Tr → List Tk → Prop
  | 0, _, _ => False
  | n + 1, t, ts => (∃ tx, VV (bl tx) ∧ t = ⟨tx, 0, []⟩ ∧ ts = [(2, tx)]) ∨ (∃ i tx, VN (bl tx) ∧ fnd g tx = (i, true) ∧ t = ⟨⟨#[]⟩, i, []⟩ ∧ ts = [(1, tx)]) ∨
      (∃ i tx l ts', VN (bl tx) ∧ fnd g tx = (i, true) ∧ t = ⟨⟨#[]⟩, i, l⟩ ∧ ts = (1, tx) :: (3, ⟨#[40]⟩) :: ts' ∧ ShA g n l ts')
/-- the words of arguments, up to the bracket that closes them -/
def ShA (g : List S62) : Nat → List Tr → List Tk → Prop
  | 0, _, _ => False
  | n + 1, l, ts => ∃ t ts1, Sh g n t ts1 ∧ ((l = [t] ∧ ts = ts1 ++ [(4, ⟨#[41]⟩)]) ∨ ∃ l' ts2, ShA g n l' ts2 ∧ l = t :: l' ∧ ts = ts1 ++ (5, ⟨#[44]⟩) :: ts2)
end
theorem b40 : bl (⟨#[40]⟩ : ByteArray) = [40] := rfl
theorem b41 : bl (⟨#[41]⟩ : ByteArray) = [41] := rfl
theorem b44 : bl (⟨#[44]⟩ : ByteArray) = [44] := rfl
theorem sh_mono (g : List S62) : ∀ n, (∀ t ts, Sh g n t ts → Sh g (n + 1) t ts) ∧ (∀ l ts, ShA g n l ts → ShA g (n + 1) l ts) := by
  intro n
  induction n with
  | zero => exact ⟨fun t ts h => by simp [Sh] at h, fun l ts h => by simp [ShA] at h⟩
  | succ n ih =>
    constructor
    · intro t ts h
      rw [Sh] at h
      rw [Sh]
      rcases h with h | h | ⟨i, tx, l, ts', h1, h2, h3, h4, h5⟩
      · exact .inl h
      · exact .inr (.inl h)
      · exact .inr (.inr ⟨i, tx, l, ts', h1, h2, h3, h4, ih.2 _ _ h5⟩)
    · intro l ts h
      rw [ShA] at h
      rw [ShA]
      obtain ⟨t, ts1, h1, h2⟩ := h
      refine ⟨t, ts1, ih.1 _ _ h1, ?_⟩
      rcases h2 with h2 | ⟨l', ts2, h2, h3⟩
      · exact .inl h2
      · exact .inr ⟨l', ts2, ih.2 _ _ h2, h3⟩
theorem sh_up (g : List S62) {n m : Nat} (h : n ≤ m) : (∀ t ts, Sh g n t ts → Sh g m t ts) ∧ (∀ l ts, ShA g n l ts → ShA g m l ts) := by
  induction h with
  | refl => exact ⟨fun _ _ h => h, fun _ _ h => h⟩
  | step _ ih => exact ⟨fun t ts h => (sh_mono g _).1 t ts (ih.1 t ts h), fun l ts h => (sh_mono g _).2 l ts (ih.2 l ts h)⟩
/-- such words, one behind the other, are lexed as they are -/
theorem sh_lex (g : List S62) : ∀ n, (∀ t ts r us e, Sh g n t ts → Stop r → Lex r us e → Lex (flat ts ++ r) (ts ++ us) e) ∧ (∀ l ts r us e, ShA g n l ts → Lex r us e → Lex (flat ts ++ r) (ts ++ us) e) := by
  intro n
  induction n with
  | zero => exact ⟨fun t ts r us e h => by simp [Sh] at h, fun l ts r us e h => by simp [ShA] at h⟩
  | succ n ih =>
    constructor
    · intro t ts r us e h hst hr
      rw [Sh] at h
      rcases h with ⟨tx, hv, _, rfl⟩ | ⟨i, tx, hv, _, _, rfl⟩ | ⟨i, tx, l, ts', hv, _, _, rfl, hA⟩
      · have h1 := VV_ne hv
        have := lex_one h1.1 (span_head h1.1 h1.2) (tok_VV hv r hst) hr
        simpa [flat, b40, b41, b44] using this
      · have h1 := VN_ne hv
        have := lex_one h1.1 (span_head h1.1 h1.2) (tok_VN hv r hst) hr
        simpa [flat, b40, b41, b44] using this
      · have h1 := VN_ne hv
        have h2 := ih.2 l ts' r us e hA hr
        have h3 := lex_sign (c := 40) (kd := 3) (.inl ⟨rfl, rfl⟩) h2
        have := lex_one h1.1 (span_head h1.1 h1.2) (tok_VN hv _ (.inr ⟨40, _, rfl, .inl rfl⟩)) h3
        simpa [flat, b40, b41, b44] using this
    · intro l ts r us e h hr
      rw [ShA] at h
      obtain ⟨t, ts1, h1, h2⟩ := h
      rcases h2 with ⟨_, rfl⟩ | ⟨l', ts2, hA, _, rfl⟩
      · have h3 := lex_sign (c := 41) (kd := 4) (.inr (.inl ⟨rfl, rfl⟩)) hr
        have := ih.1 t ts1 _ _ e h1 (.inr ⟨41, r, rfl, .inr (.inl rfl)⟩) h3
        simpa [flat, b40, b41, b44] using this
      · have h2 := ih.2 l' ts2 r us e hA hr
        have h3 := lex_sign (c := 44) (kd := 5) (.inr (.inr ⟨rfl, rfl⟩)) h2
        have := ih.1 t ts1 _ _ e h1 (.inr ⟨44, _, rfl, .inr (.inr (.inl rfl))⟩) h3
        simpa [flat, b40, b41, b44] using this
end Go.Proofs.Ytpepjodkahdicaa.Sw
