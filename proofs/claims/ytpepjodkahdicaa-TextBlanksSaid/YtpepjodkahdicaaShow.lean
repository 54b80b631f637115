/-
  Texts, plainly: the words of a term that is shown; what is read has such words, and such words are read as they were. Conditions: each theorem's own.
-/
import Derived.Test.YtpepjodkahdicaaLex
import Derived.Test.YtpepjodkahdicaaPTxx3
namespace Go.Proofs.Ytpepjodkahdicaa.Sw
open Go.RowKit Go.Proofs.YtpepjodkahdicaaW.PrintWords Go.Proofs.Ytpepjodkahdicaa.PTx
abbrev Tr := S27
/-! words that are names -/
def VN (m : List UInt8) : Prop := ∃ c t, m = c :: t ∧ lowU c = true ∧ (∀ x ∈ t, lowdigU x = true) ∧ m.length ≤ 12
def VV (m : List UInt8) : Prop := (∃ c t, m = c :: t ∧ upU c = true ∧ (∀ x ∈ t, allU x = true) ∧ m.length ≤ 12) ∨ (∃ d t, m = 95 :: d :: t ∧ d ≠ 48 ∧ (∀ x ∈ d :: t, digU x = true) ∧ m.length ≤ 12)
def VT (x : Tk) : Prop := (x.1 = 1 → VN (bl x.2)) ∧ (x.1 = 2 → VV (bl x.2)) ∧ (x.1 = 3 → bl x.2 = [40]) ∧ (x.1 = 4 → bl x.2 = [41]) ∧ (x.1 = 5 → bl x.2 = [44])
theorem span_all (q : UInt8 → Bool) (t : List UInt8) : ∀ c ∈ t.take (span q t), q c = true := by
  induction t with
  | nil => intro c hc; simp [span] at hc
  | cons x t ih =>
    intro c hc
    cases hx : q x with
    | false => simp [span, hx] at hc
    | true =>
      rw [span_cons_pos hx, Nat.add_comm, List.take_succ_cons] at hc
      rcases List.mem_cons.mp hc with rfl | hc
      · exact hx
      · exact ih c hc
/-- The head of what follows a word: a sign ( ) , or nothing. -/
def Stop (r : List UInt8) : Prop := r = [] ∨ ∃ c t, r = c :: t ∧ (c = 40 ∨ c = 41 ∨ c = 44 ∨ c = 32 ∨ c = 61)
theorem span_stop {q : UInt8 → Bool} (h40 : q 40 = false) (h41 : q 41 = false) (h44 : q 44 = false) (h32 : q 32 = false) (h61 : q 61 = false) (t r : List UInt8) (ht : ∀ x ∈ t, q x = true) (hr : Stop r) : span q (t ++ r) = t.length := by
  induction t with
  | nil =>
    rcases hr with rfl | ⟨c, r', rfl, hc⟩
    · rfl
    · have : q c = false := by rcases hc with rfl | rfl | rfl | rfl | rfl <;> assumption
      simp [span, this]
  | cons x t ih =>
    rw [List.cons_append, span_cons_pos (ht x (by simp)), ih (fun y hy => ht y (by simp [hy])), List.length_cons]
    omega
theorem low_not {c : UInt8} (h : lowU c = true) : ¬ c = 40 ∧ ¬ c = 41 ∧ ¬ c = 44 ∧ ¬ c = 61 ∧ ¬ c = 45 ∧ ¬ c = 32 ∧ upU c = false ∧ ¬ c = 95 := by
  have : ∀ n : Fin 256, lowU (UInt8.ofNat n.val) = true → ¬ UInt8.ofNat n.val = 40 ∧ ¬ UInt8.ofNat n.val = 41 ∧ ¬ UInt8.ofNat n.val = 44 ∧ ¬ UInt8.ofNat n.val = 61 ∧ ¬ UInt8.ofNat n.val = 45 ∧ ¬ UInt8.ofNat n.val = 32 ∧ upU (UInt8.ofNat n.val) = false ∧ ¬ UInt8.ofNat n.val = 95 := by decide +kernel
  exact all_bytes (p := fun c => lowU c = true → ¬ c = 40 ∧ ¬ c = 41 ∧ ¬ c = 44 ∧ ¬ c = 61 ∧ ¬ c = 45 ∧ ¬ c = 32 ∧ upU c = false ∧ ¬ c = 95) this c h
theorem up_not {c : UInt8} (h : upU c = true) : ¬ c = 40 ∧ ¬ c = 41 ∧ ¬ c = 44 ∧ ¬ c = 61 ∧ ¬ c = 45 ∧ ¬ c = 32 ∧ lowU c = false ∧ ¬ c = 95 := by
  have : ∀ n : Fin 256, upU (UInt8.ofNat n.val) = true → ¬ UInt8.ofNat n.val = 40 ∧ ¬ UInt8.ofNat n.val = 41 ∧ ¬ UInt8.ofNat n.val = 44 ∧ ¬ UInt8.ofNat n.val = 61 ∧ ¬ UInt8.ofNat n.val = 45 ∧ ¬ UInt8.ofNat n.val = 32 ∧ lowU (UInt8.ofNat n.val) = false ∧ ¬ UInt8.ofNat n.val = 95 := by decide +kernel
  exact all_bytes (p := fun c => upU c = true → ¬ c = 40 ∧ ¬ c = 41 ∧ ¬ c = 44 ∧ ¬ c = 61 ∧ ¬ c = 45 ∧ ¬ c = 32 ∧ lowU c = false ∧ ¬ c = 95) this c h
theorem tok_VN {m : List UInt8} (h : VN m) (r : List UInt8) (hr : Stop r) : tokL (m ++ r) = (1, m.length, 0) := by
  obtain ⟨c, t, rfl, hc, ht, hl⟩ := h
  obtain ⟨n1, n2, n3, n4, n5, _, _, _⟩ := low_not hc
  rw [List.cons_append]
  simp only [tokL, n1, n2, n3, n4, n5, if_false, false_and, hc, if_true, span_stop (q := lowdigU) (by decide) (by decide) (by decide) (by decide) (by decide) t r ht hr, finT]
  rw [List.length_cons] at hl ⊢
  rw [if_neg (by omega), Nat.add_comm]
theorem tok_VV {m : List UInt8} (h : VV m) (r : List UInt8) (hr : Stop r) : tokL (m ++ r) = (2, m.length, 0) := by
  rcases h with ⟨c, t, rfl, hc, ht, hl⟩ | ⟨d, t, rfl, hd, ht, hl⟩
  · obtain ⟨n1, n2, n3, n4, n5, _, n6, _⟩ := up_not hc
    rw [List.cons_append]
    simp only [tokL, n1, n2, n3, n4, n5, if_false, false_and, n6, hc, if_true, span_stop (q := allU) (by decide) (by decide) (by decide) (by decide) (by decide) t r ht hr, finT, Bool.false_eq_true]
    rw [List.length_cons] at hl ⊢
    rw [if_neg (by omega), Nat.add_comm]
  · have hsp := span_stop (q := digU) (by decide) (by decide) (by decide) (by decide) (by decide) (d :: t) r ht hr
    rw [List.cons_append] at hsp
    rw [List.cons_append, List.cons_append]
    have e1 : lowU 95 = false := by decide
    have e2 : upU 95 = false := by decide
    have e3 : ¬ ((95 : UInt8) = 40) := by decide
    have e4 : ¬ ((95 : UInt8) = 41) := by decide
    have e5 : ¬ ((95 : UInt8) = 44) := by decide
    have e6 : ¬ ((95 : UInt8) = 61) := by decide
    have e7 : ¬ ((95 : UInt8) = 45) := by decide
    simp only [tokL, e1, e2, e3, e4, e5, e6, e7, if_false, false_and, if_true, Bool.false_eq_true, hsp, List.head?_cons, Option.some.injEq, hd, or_false, List.length_cons, Nat.add_eq_zero_iff, finT]
    simp only [List.length_cons] at hl
    rw [if_neg (by omega), if_neg (by omega)]
    simp
    omega
theorem VN_ne {m : List UInt8} (h : VN m) : m ≠ [] ∧ span spU m = 0 := by
  obtain ⟨c, t, rfl, hc, _, _⟩ := h
  have := (low_not hc).2.2.2.2.2.1
  exact ⟨by simp, by simp [span, spU, this]⟩
theorem VV_ne {m : List UInt8} (h : VV m) : m ≠ [] ∧ span spU m = 0 := by
  rcases h with ⟨c, t, rfl, hc, _, _⟩ | ⟨d, t, rfl, _, _, _⟩
  · have := (up_not hc).2.2.2.2.2.1
    exact ⟨by simp, by simp [span, spU, this]⟩
  · exact ⟨by simp, by simp [span, spU]⟩
/-- what tokL tells, the other way round -/
theorem tok_VT {m : List UInt8} (hm : m ≠ []) {kd : Int} {n : Nat} (ht : tokL m = (kd, n, 0)) : VT (kd, ⟨(m.take n).toArray⟩) := by
  obtain ⟨c, t, rfl⟩ := List.exists_cons_of_ne_nil hm
  have key : ∀ (q : UInt8 → Bool) (a b : Nat), finT ((a : Nat) : Int) b = (kd, n, 0) → kd = a ∧ n = b ∧ n ≤ 12 := fun q a b h => finT_ok h
  show (kd = 1 → VN ((c :: t).take n)) ∧ (kd = 2 → VV ((c :: t).take n)) ∧ (kd = 3 → (c :: t).take n = [40]) ∧ (kd = 4 → (c :: t).take n = [41]) ∧ (kd = 5 → (c :: t).take n = [44])
  simp only [tokL] at ht
  by_cases c1 : c = 40
  · rw [if_pos c1] at ht; simp only [Prod.mk.injEq] at ht; obtain ⟨rfl, rfl, _⟩ := ht; subst c1; simp
  rw [if_neg c1] at ht
  by_cases c2 : c = 41
  · rw [if_pos c2] at ht; simp only [Prod.mk.injEq] at ht; obtain ⟨rfl, rfl, _⟩ := ht; subst c2; simp
  rw [if_neg c2] at ht
  by_cases c3 : c = 44
  · rw [if_pos c3] at ht; simp only [Prod.mk.injEq] at ht; obtain ⟨rfl, rfl, _⟩ := ht; subst c3; simp
  rw [if_neg c3] at ht
  by_cases c4 : c = 61
  · rw [if_pos c4] at ht; simp only [Prod.mk.injEq] at ht; obtain ⟨rfl, rfl, _⟩ := ht; subst c4; simp
  rw [if_neg c4] at ht
  by_cases c5 : c = 45 ∧ t.head? = some 62
  · rw [if_pos c5] at ht; simp only [Prod.mk.injEq] at ht; obtain ⟨rfl, rfl, _⟩ := ht; simp
  rw [if_neg c5] at ht
  by_cases c6 : lowU c = true
  · rw [if_pos c6] at ht
    obtain ⟨rfl, rfl, hn⟩ := finT_ok ht
    have hle := span_le lowdigU t
    refine ⟨fun _ => ⟨c, t.take (span lowdigU t), by rw [Nat.add_comm, List.take_succ_cons], c6, span_all _ _, ?_⟩, by simp, by simp, by simp, by simp⟩
    rw [List.length_take, List.length_cons]; omega
  rw [if_neg c6] at ht
  by_cases c7 : upU c = true
  · rw [if_pos c7] at ht
    obtain ⟨rfl, rfl, hn⟩ := finT_ok ht
    have hle := span_le allU t
    refine ⟨by simp, fun _ => .inl ⟨c, t.take (span allU t), by rw [Nat.add_comm, List.take_succ_cons], c7, span_all _ _, ?_⟩, by simp, by simp, by simp⟩
    rw [List.length_take, List.length_cons]; omega
  rw [if_neg c7] at ht
  by_cases c8 : c = 95
  · rw [if_pos c8] at ht
    by_cases c9 : span digU t = 0 ∨ t.head? = some 48
    · rw [if_pos c9] at ht; simp at ht
    rw [if_neg c9] at ht
    obtain ⟨rfl, rfl, hn⟩ := finT_ok ht
    have hle := span_le digU t
    subst c8
    refine ⟨by simp, fun _ => .inr ?_, by simp, by simp, by simp⟩
    cases t with
    | nil => exact absurd (.inl rfl) c9
    | cons d t =>
      have hd : digU d = true := by
        apply Classical.byContradiction
        intro h
        exact c9 (.inl (by simp [span, h]))
      rw [span_cons_pos hd] at hle hn ⊢
      have hall := span_all digU (d :: t)
      rw [span_cons_pos hd, Nat.add_comm, List.take_succ_cons] at hall
      refine ⟨d, t.take (span digU t), ?_, fun h => c9 (.inr (by rw [h]; rfl)), hall, ?_⟩
      · rw [show 1 + (1 + span digU t) = span digU t + 1 + 1 by omega, List.take_succ_cons, List.take_succ_cons]
      · rw [List.length_take]; simp only [List.length_cons]; omega
  · rw [if_neg c8] at ht; simp at ht
theorem lex_VT {l : List UInt8} {ts : List Tk} {e : Int} (h : Lex l ts e) : ∀ x ∈ ts, VT x := by
  induction h with
  | stop => intro x hx; cases hx
  | bad => intro x hx; cases hx
  | word l h kd n ht ts e hr ih =>
    intro x hx
    rcases List.mem_cons.mp hx with rfl | hx
    · exact tok_VT h ht
    · exact ih x hx
/-- the bytes of words -/
def flat (ts : List Tk) : List UInt8 := ts.flatMap (fun x => bl x.2)
theorem flat_cons (x : Tk) (ts : List Tk) : flat (x :: ts) = bl x.2 ++ flat ts := by simp [flat]
theorem flat_app (a b : List Tk) : flat (a ++ b) = flat a ++ flat b := by simp [flat]
theorem lex_flat {l : List UInt8} {ts : List Tk} {e : Int} (h : Lex l ts e) : (flat ts).length ≤ l.length := by
  induction h with
  | stop => simp [flat]
  | bad => simp [flat]
  | word l h kd n ht ts e hr ih =>
    rw [flat_cons, List.length_append]
    have hok := tok_ok h ht
    have : (bl (⟨((l.drop (span spU l)).take n).toArray⟩ : ByteArray)).length = n := by
      show ((l.drop (span spU l)).take n).length = n
      rw [List.length_take]; omega
    rw [List.length_drop] at ih hok
    rw [List.length_drop] at ih
    show (bl (⟨((l.drop (span spU l)).take n).toArray⟩ : ByteArray)).length + _ ≤ _
    rw [this]
    omega
/-! one word, lexed -/
theorem lex_one {m r : List UInt8} {kd : Int} {ts : List Tk} {e : Int} (hm : m ≠ []) (hs : span spU (m ++ r) = 0) (ht : tokL (m ++ r) = (kd, m.length, 0)) (hr : Lex r ts e) : Lex (m ++ r) ((kd, ⟨m.toArray⟩) :: ts) e := by
  have h1 : (m ++ r).drop (span spU (m ++ r)) = m ++ r := by rw [hs]; rfl
  have := Lex.word (m ++ r) (by rw [h1]; simp [hm]) kd m.length (by rw [h1]; exact ht) ts e (by rw [h1, List.drop_left]; exact hr)
  rw [h1, List.take_left] at this
  exact this
theorem span_head {m r : List UInt8} (hm : m ≠ []) (h : span spU m = 0) : span spU (m ++ r) = 0 := by
  cases m with
  | nil => exact absurd rfl hm
  | cons c m =>
    cases hc : spU c with
    | true => rw [span_cons_pos hc] at h; omega
    | false => simp [span, hc]
theorem lex_sign {c : UInt8} {kd : Int} (hc : (c = 40 ∧ kd = 3) ∨ (c = 41 ∧ kd = 4) ∨ (c = 44 ∧ kd = 5)) {r : List UInt8} {ts : List Tk} {e : Int} (hr : Lex r ts e) : Lex (c :: r) ((kd, ⟨#[c]⟩) :: ts) e := by
  rcases hc with ⟨rfl, rfl⟩ | ⟨rfl, rfl⟩ | ⟨rfl, rfl⟩
  all_goals exact lex_one (m := [_]) (by simp) (by simp [span, spU]) (by simp [tokL]) hr
/-! the words of a term -/
mutual
/-- the words of a term, at that depth at most -/
def Sh (g : List S62) : Nat → Tr → List Tk → Prop
  | 0, _, _ => False
  | n + 1, t, ts => (∃ tx, VV (bl tx) ∧ t = ⟨tx, 0, []⟩ ∧ ts = [(2, tx)]) ∨ (∃ i tx, VN (bl tx) ∧ fnd g tx = (i, true) ∧ t = ⟨⟨#[]⟩, i, []⟩ ∧ ts = [(1, tx)]) ∨
      (∃ i tx l ts', VN (bl tx) ∧ fnd g tx = (i, true) ∧ t = ⟨⟨#[]⟩, i, l⟩ ∧ ts = (1, tx) :: (3, ⟨#[40]⟩) :: ts' ∧ ShA g n l ts')
/-- the words of arguments, up to the bracket that closes them -/
def ShA (g : List S62) : Nat → List Tr → List Tk → Prop
  | 0, _, _ => False
  | n + 1, l, ts => ∃ t ts1, Sh g n t ts1 ∧ ((l = [t] ∧ ts = ts1 ++ [(4, ⟨#[41]⟩)]) ∨ ∃ l' ts2, ShA g n l' ts2 ∧ l = t :: l' ∧ ts = ts1 ++ (5, ⟨#[44]⟩) :: ts2)
end
theorem mk_bl (s : ByteArray) : (⟨(bl s).toArray⟩ : ByteArray) = s := rfl
theorem b40 : bl (⟨#[40]⟩ : ByteArray) = [40] := rfl
theorem b41 : bl (⟨#[41]⟩ : ByteArray) = [41] := rfl
theorem b44 : bl (⟨#[44]⟩ : ByteArray) = [44] := rfl
theorem one_eq {s : ByteArray} {c : UInt8} (h : bl s = [c]) : s = ⟨#[c]⟩ := bl_ext h
theorem sh_mono (g : List S62) : ∀ n, (∀ t ts, Sh g n t ts → Sh g (n + 1) t ts) ∧ (∀ l ts, ShA g n l ts → ShA g (n + 1) l ts) := by
  intro n
  induction n with
  | zero => exact ⟨fun t ts h => by simp [Sh] at h, fun l ts h => by simp [ShA] at h⟩
  | succ n ih =>
    constructor
    · intro t ts h
      rw [Sh] at h
      rw [Sh]
      rcases h with h | h | ⟨i, tx, l, ts', h1, h2, h3, h4, h5⟩
      · exact .inl h
      · exact .inr (.inl h)
      · exact .inr (.inr ⟨i, tx, l, ts', h1, h2, h3, h4, ih.2 _ _ h5⟩)
    · intro l ts h
      rw [ShA] at h
      rw [ShA]
      obtain ⟨t, ts1, h1, h2⟩ := h
      refine ⟨t, ts1, ih.1 _ _ h1, ?_⟩
      rcases h2 with h2 | ⟨l', ts2, h2, h3⟩
      · exact .inl h2
      · exact .inr ⟨l', ts2, ih.2 _ _ h2, h3⟩
theorem sh_up (g : List S62) {n m : Nat} (h : n ≤ m) : (∀ t ts, Sh g n t ts → Sh g m t ts) ∧ (∀ l ts, ShA g n l ts → ShA g m l ts) := by
  induction h with
  | refl => exact ⟨fun _ _ h => h, fun _ _ h => h⟩
  | step _ ih => exact ⟨fun t ts h => (sh_mono g _).1 t ts (ih.1 t ts h), fun l ts h => (sh_mono g _).2 l ts (ih.2 l ts h)⟩
/-- what is read has such words -/
theorem pT_sh (g : List S62) (e : Int) : ∀ d, (∀ ts t ts', (∀ x ∈ ts, VT x) → pT d g e ts = some (.ok (t, ts')) → ∃ n ts0, ts = ts0 ++ ts' ∧ Sh g n t ts0) ∧
    (∀ ts kd acc l ts', (∀ x ∈ ts, VT x) → kd ≠ 4 → pA d g e ts kd acc = some (.ok (l, ts')) → ∃ n ts0 l', ts = ts0 ++ ts' ∧ l = acc ++ l' ∧ ShA g n l' ts0) := by
  intro d
  induction d with
  | zero => exact ⟨fun ts t ts' _ h => by simp [pT] at h, fun ts kd acc l ts' _ _ h => by simp [pA] at h⟩
  | succ d ih =>
    constructor
    · intro ts t ts' hv h
      cases ts with
      | nil => simp [pT] at h
      | cons x ts =>
        obtain ⟨kd, tx⟩ := x
        have hx := hv (kd, tx) (by simp)
        simp only [pT] at h
        by_cases c2 : kd = 2
        · rw [if_pos c2] at h
          cases h
          exact ⟨1, [(2, tx)], by rw [c2]; rfl, by rw [Sh]; exact .inl ⟨tx, hx.2.1 c2, rfl, rfl⟩⟩
        · rw [if_neg c2] at h
          by_cases c1 : kd = 1
          · rw [if_pos c1] at h
            by_cases cf : (fnd g tx).2 = true
            · rw [if_pos cf] at h
              have hf : fnd g tx = ((fnd g tx).1, true) := by rw [← cf]
              cases ts with
              | nil =>
                dsimp only at h
                by_cases he : e = 0
                · rw [if_pos he] at h
                  cases h
                  exact ⟨1, [(1, tx)], by rw [c1]; rfl, by rw [Sh]; exact .inr (.inl ⟨_, tx, hx.1 c1, hf, rfl, rfl⟩)⟩
                · rw [if_neg he] at h; cases h
              | cons y ts2 =>
                obtain ⟨kd2, tx2⟩ := y
                have hy := hv (kd2, tx2) (by simp)
                dsimp only at h
                by_cases c3 : kd2 = 3
                · rw [if_pos c3] at h
                  obtain ⟨r, hr, h⟩ := Option.bind_eq_some_iff.mp h
                  rcases r with er | ⟨l, ts3⟩
                  · cases h
                  · cases h
                    obtain ⟨n, ts0, l', e1, e2, hsh⟩ := ih.2 ts2 kd2 [] l ts' (fun x hx => hv x (by simp [hx])) (by omega) hr
                    obtain rfl : l = l' := by simpa using e2
                    refine ⟨n + 1, (1, tx) :: (3, ⟨#[40]⟩) :: ts0, ?_, ?_⟩
                    · have h40 : tx2 = ⟨#[40]⟩ := one_eq (hy.2.2.1 c3)
                      rw [e1, c1, c3, h40]; rfl
                    · rw [Sh]; exact .inr (.inr ⟨_, tx, l, ts0, hx.1 c1, hf, rfl, rfl, hsh⟩)
                · rw [if_neg c3] at h
                  cases h
                  exact ⟨1, [(1, tx)], by rw [c1]; rfl, by rw [Sh]; exact .inr (.inl ⟨_, tx, hx.1 c1, hf, rfl, rfl⟩)⟩
            · rw [if_neg cf] at h; cases h
          · rw [if_neg c1] at h; cases h
    · intro ts kd acc l ts' hv hkd h
      simp only [pA] at h
      rw [if_neg hkd] at h
      obtain ⟨r, hr, h⟩ := Option.bind_eq_some_iff.mp h
      rcases r with er | ⟨t, ts1⟩
      · cases h
      · obtain ⟨n, ts0, e1, hsh⟩ := ih.1 ts t ts1 hv hr
        cases ts1 with
        | nil => cases h
        | cons y ts2 =>
          obtain ⟨kd2, tx2⟩ := y
          have hy := hv (kd2, tx2) (by rw [e1]; simp)
          dsimp only at h
          by_cases c : kd2 = 4 ∨ kd2 = 5
          · rw [if_pos c] at h
            rcases c with c | c
            · cases d with
              | zero => simp [pA] at h
              | succ d =>
                simp only [pA] at h
                rw [if_pos c] at h
                cases h
                refine ⟨n + 1, ts0 ++ [(4, ⟨#[41]⟩)], [t], ?_, rfl, ?_⟩
                · have h41 : tx2 = ⟨#[41]⟩ := one_eq (hy.2.2.2.1 c)
                  rw [e1, c, h41]; simp
                · rw [ShA]; exact ⟨t, ts0, hsh, .inl ⟨rfl, rfl⟩⟩
            · obtain ⟨m, ts3, l', e2, e3, hsh2⟩ := ih.2 ts2 kd2 (acc ++ [t]) l ts' (fun x hx => hv x (by rw [e1]; simp [hx])) (by omega) h
              refine ⟨max n m + 1, ts0 ++ (5, ⟨#[44]⟩) :: ts3, t :: l', ?_, by rw [e3]; simp, ?_⟩
              · have h44 : tx2 = ⟨#[44]⟩ := one_eq (hy.2.2.2.2 c)
                rw [e1, e2, c, h44]; simp
              · rw [ShA]; exact ⟨t, ts0, (sh_up g (Nat.le_max_left _ _)).1 _ _ hsh, .inr ⟨l', ts3, (sh_up g (Nat.le_max_right _ _)).2 _ _ hsh2, rfl, rfl⟩⟩
          · rw [if_neg c] at h; cases h
/-- such words, one behind the other, are lexed as they are -/
theorem sh_lex (g : List S62) : ∀ n, (∀ t ts r us e, Sh g n t ts → Stop r → Lex r us e → Lex (flat ts ++ r) (ts ++ us) e) ∧ (∀ l ts r us e, ShA g n l ts → Lex r us e → Lex (flat ts ++ r) (ts ++ us) e) := by
  intro n
  induction n with
  | zero => exact ⟨fun t ts r us e h => by simp [Sh] at h, fun l ts r us e h => by simp [ShA] at h⟩
  | succ n ih =>
    constructor
    · intro t ts r us e h hst hr
      rw [Sh] at h
      rcases h with ⟨tx, hv, _, rfl⟩ | ⟨i, tx, hv, _, _, rfl⟩ | ⟨i, tx, l, ts', hv, _, _, rfl, hA⟩
      · have h1 := VV_ne hv
        have := lex_one h1.1 (span_head h1.1 h1.2) (tok_VV hv r hst) hr
        simpa [flat, b40, b41, b44] using this
      · have h1 := VN_ne hv
        have := lex_one h1.1 (span_head h1.1 h1.2) (tok_VN hv r hst) hr
        simpa [flat, b40, b41, b44] using this
      · have h1 := VN_ne hv
        have h2 := ih.2 l ts' r us e hA hr
        have h3 := lex_sign (c := 40) (kd := 3) (.inl ⟨rfl, rfl⟩) h2
        have := lex_one h1.1 (span_head h1.1 h1.2) (tok_VN hv _ (.inr ⟨40, _, rfl, .inl rfl⟩)) h3
        simpa [flat, b40, b41, b44] using this
    · intro l ts r us e h hr
      rw [ShA] at h
      obtain ⟨t, ts1, h1, h2⟩ := h
      rcases h2 with ⟨_, rfl⟩ | ⟨l', ts2, hA, _, rfl⟩
      · have h3 := lex_sign (c := 41) (kd := 4) (.inr (.inl ⟨rfl, rfl⟩)) hr
        have := ih.1 t ts1 _ _ e h1 (.inr ⟨41, r, rfl, .inr (.inl rfl)⟩) h3
        simpa [flat, b40, b41, b44] using this
      · have h2 := ih.2 l' ts2 r us e hA hr
        have h3 := lex_sign (c := 44) (kd := 5) (.inr (.inr ⟨rfl, rfl⟩)) h2
        have := ih.1 t ts1 _ _ e h1 (.inr ⟨44, _, rfl, .inr (.inr (.inl rfl))⟩) h3
        simpa [flat, b40, b41, b44] using this
/-- no blank stands in them -/
theorem VN_blank {m : List UInt8} (h : VN m) : (32 : UInt8) ∉ m := by
  obtain ⟨c, t, rfl, hc, ht, _⟩ := h
  intro hm
  rcases List.mem_cons.mp hm with h | h
  · rw [← h] at hc; exact absurd hc (by decide)
  · exact absurd (ht 32 h) (by decide)
theorem VV_blank {m : List UInt8} (h : VV m) : (32 : UInt8) ∉ m := by
  rcases h with ⟨c, t, rfl, hc, ht, _⟩ | ⟨d, t, rfl, _, ht, _⟩
  · intro hm
    rcases List.mem_cons.mp hm with h | h
    · rw [← h] at hc; exact absurd hc (by decide)
    · exact absurd (ht 32 h) (by decide)
  · intro hm
    rcases List.mem_cons.mp hm with h | h
    · exact absurd h (by decide)
    · exact absurd (ht 32 h) (by decide)
theorem sh_blank (g : List S62) : ∀ n, (∀ t ts, Sh g n t ts → (32 : UInt8) ∉ flat ts) ∧ (∀ l ts, ShA g n l ts → (32 : UInt8) ∉ flat ts) := by
  intro n
  induction n with
  | zero => exact ⟨fun t ts h => by simp [Sh] at h, fun l ts h => by simp [ShA] at h⟩
  | succ n ih =>
    constructor
    · intro t ts h
      rw [Sh] at h
      rcases h with ⟨tx, hv, _, rfl⟩ | ⟨i, tx, hv, _, _, rfl⟩ | ⟨i, tx, l, ts', hv, _, _, rfl, hA⟩
      · simpa [flat] using VV_blank hv
      · simpa [flat] using VN_blank hv
      · have := ih.2 l ts' hA
        have h2 := VN_blank hv
        rw [flat_cons, flat_cons]
        intro h
        rcases List.mem_append.mp h with h | h
        · exact h2 h
        · rcases List.mem_append.mp h with h | h
          · simp at h
          · exact this h
    · intro l ts h
      rw [ShA] at h
      obtain ⟨t, ts1, h1, h2⟩ := h
      have hb := ih.1 t ts1 h1
      rcases h2 with ⟨_, rfl⟩ | ⟨l', ts2, hA, _, rfl⟩
      · rw [flat_app]
        intro h
        rcases List.mem_append.mp h with h | h
        · exact hb h
        · simp [flat] at h
      · have hc := ih.2 l' ts2 hA
        rw [flat_app, flat_cons]
        intro h
        rcases List.mem_append.mp h with h | h
        · exact hb h
        · rcases List.mem_append.mp h with h | h
          · simp at h
          · exact hc h
end Go.Proofs.Ytpepjodkahdicaa.Sw
