/-
  The plain laws of TextBlanks and TextAgain: blanks around signs change nothing of what is read; what is read, shown and read again stays. Conditions: the sizes that a reading has.
-/
import Derived.Test.YtpepjodkahdicaaEnd
import Derived.Test.YtpepjodkahdicaaPTxx4
import Derived.Test.YtpepjodkahdicaaPTxx6
import Derived.Test.YtpepjodkahdicaaPTxx2
namespace Go.Proofs.Ytpepjodkahdicaa.Sw
open Go.RowKit Go.Proofs.YtpepjodkahdicaaW.PrintWords Go.Proofs.Ytpepjodkahdicaa.PTx
/-- what Term makes of what its words answer -/
noncomputable def resT (g : List S62) (e : Int) : Except Int (Tr × List Tk) → Except Int Tr
  | .error er => .error er
  | .ok (t, []) => if e = 0 then (if ckV g t = 0 then .ok t else .error (ckV g t)) else .error e
  | .ok (_, _ :: _) => .error 54
def outT (a : Int) : Except Int Tr → ByteArray × Int × List Tr × Int × Int
  | .error er => ((⟨#[]⟩ : ByteArray), 0, [], er, a)
  | .ok t => (t.f0, t.f1, t.f2, 0, 0)
def howT (a : Int) : Except Int Tr → Except (Int × Int) Tr
  | .error er => .error (er, a)
  | .ok t => .ok t
theorem how_f (g : List S62) (hg : g.length ≤ 140737488351232) (s : ByteArray) (hs : s.size ≤ 1000000) (ts : List Tk) (e : Int) (hl : Lex (bl s) ts e) (d : Nat) (r : Except Int (Tr × List Tk)) (hr : pT d g e ts = some r) :
    ∃ k a, termHow k g s = some (howT a (resT g e r)) := by
  have hlen := bl_len s
  have hts := lex_len hl
  obtain ⟨r', hr', hrel⟩ := (rd_pT g hg s (by omega) e ((bl s).length + g.length + 1) (by omega) (by omega) d).1 0 ts r (by omega) hl (by omega) hr
  have hT : ∀ k, (bl s).length + g.length + 1 + d ≤ k → rdTerm k g s 0 = some r' := fun k hk => at_rounds (fun k => rdTerm.mono g s 0 k) hk hr'
  rcases r with er | ⟨t, ts'⟩
  · obtain ⟨a, rfl⟩ := hrel
    refine ⟨(bl s).length + g.length + 1 + d, a, ?_⟩
    unfold termHow
    rw [hT _ (Nat.le_refl _)]
    rfl
  · obtain ⟨q, rfl, hq, hlq⟩ := hrel
    cases ts' with
    | cons y ts2 =>
      obtain ⟨kd, tx⟩ := y
      obtain ⟨hk0, wt, q2, hp, _, _⟩ := peek_cons s (by omega) q ((bl s).length + g.length + 1 + d) hq (by omega) kd tx ts2 e hlq
      refine ⟨(bl s).length + g.length + 1 + d, wt, ?_⟩
      unfold termHow
      rw [hT _ (Nat.le_refl _), Option.bind_some]
      dsimp only
      rw [hp, Option.bind_some]
      dsimp only
      rw [if_neg hk0]
      rfl
    | nil =>
      by_cases he : e = 0
      · subst he
        obtain ⟨K, hK⟩ := may_one g t
        obtain ⟨tx, wt, en, hp⟩ := peek_nil0 s (by omega) q ((bl s).length + g.length + 1 + d + K) hq (by omega) hlq
        refine ⟨(bl s).length + g.length + 1 + d + K, 0, ?_⟩
        unfold termHow
        rw [hT _ (by omega), Option.bind_some]
        dsimp only
        rw [hp, Option.bind_some]
        dsimp only
        rw [if_pos rfl, hK _ (by omega)]
        by_cases c : ckV g t = 0
        · rw [if_pos c]
          simp [resT, howT, c]
        · rw [if_neg c]
          simp [resT, howT, c]
      · obtain ⟨a, hp⟩ := peek_nil s (by omega) q ((bl s).length + g.length + 1 + d) hq (by omega) e he hlq
        refine ⟨(bl s).length + g.length + 1 + d, a, ?_⟩
        unfold termHow
        rw [hT _ (Nat.le_refl _), Option.bind_some]
        dsimp only
        rw [hp, Option.bind_some]
        simp [resT, howT, he]
theorem term_f (g : List S62) (hg : g.length ≤ 140737488351232) (s : ByteArray) (hs : s.size ≤ 800) (ts : List Tk) (e : Int) (hl : Lex (bl s) ts e) (d : Nat) (r : Except Int (Tr × List Tk)) (hr : pT d g e ts = some r) :
    ∃ K a, ∀ k, K ≤ k → text_Term.f k g s = some (outT a (resT g e r)) := by
  obtain ⟨K, a, h⟩ := how_f g hg s (by omega) ts e hl d r hr
  refine ⟨K, a, fun k hk => ?_⟩
  unfold text_Term.f rdTermF
  rw [if_pos hs, at_rounds (fun k => termHow.mono g s k) hk h, Option.bind_some]
  cases resT g e r <;> rfl
theorem head_60 : amalgamlaw05_head.f 60 = some true := by decide +kernel
theorem head_true (k : Nat) (hk : 60 ≤ k) : amalgamlaw05_head.f k = some true := at_rounds (fun k => amalgamlaw05_head.mono k) hk head_60
/-! ### blanks around signs -/
def sgU (c : UInt8) : Bool := c == 40 || c == 41 || c == 44
def wd (l : List UInt8) : List UInt8 := l.flatMap (fun c => if sgU c = true then [32, c, 32, 32] else [c])
theorem wd_app (a b : List UInt8) : wd (a ++ b) = wd a ++ wd b := by simp [wd]
theorem wd_cons (c : UInt8) (t : List UInt8) (h : sgU c = false) : wd (c :: t) = c :: wd t := by simp [wd, h]
theorem wd_sign (c : UInt8) (t : List UInt8) (h : sgU c = true) : wd (c :: t) = 32 :: c :: 32 :: 32 :: wd t := by simp [wd, h]
theorem wd_id (a : List UInt8) (h : ∀ c ∈ a, sgU c = false) : wd a = a := by
  induction a with
  | nil => rfl
  | cons c a ih => rw [wd_cons c a (h c (by simp)), ih (fun x hx => h x (by simp [hx]))]
theorem wd_len (l : List UInt8) : (wd l).length ≤ 4 * l.length ∧ l.length ≤ (wd l).length := by
  induction l with
  | nil => simp [wd]
  | cons c l ih =>
    cases h : sgU c with
    | true => rw [wd_sign c l h]; simp only [List.length_cons]; omega
    | false => rw [wd_cons c l h]; simp only [List.length_cons]; omega
theorem lex_blank {l : List UInt8} {ts : List Tk} {e : Int} (h : Lex l ts e) : Lex (32 :: l) ts e := by
  have hsp : span spU (32 :: l) = 1 + span spU l := span_cons_pos rfl
  have hd : (32 :: l).drop (span spU (32 :: l)) = l.drop (span spU l) := by rw [hsp, Nat.add_comm, List.drop_succ_cons]
  cases h with
  | stop _ h => exact .stop _ (by rw [hd]; exact h)
  | bad _ h kd n e ht he => exact .bad _ (by rw [hd]; exact h) kd n e (by rw [hd]; exact ht) he
  | word _ h kd n ht ts e hr =>
    have := Lex.word (32 :: l) (by rw [hd]; exact h) kd n (by rw [hd]; exact ht) ts e (by rw [hd]; exact hr)
    rw [hd] at this
    exact this
theorem lex_blanks : ∀ (a : List UInt8) {l : List UInt8} {ts : List Tk} {e : Int}, (∀ c ∈ a, c = 32) → Lex l ts e → Lex (a ++ l) ts e
  | [], _, _, _, _, h => h
  | c :: a, l, ts, e, hc, h => by
    obtain rfl := hc c (by simp)
    exact lex_blank (lex_blanks a (fun c hc' => hc c (by simp [hc'])) h)
theorem span_wd {q : UInt8 → Bool} (h32 : q 32 = false) (h40 : q 40 = false) (h41 : q 41 = false) (h44 : q 44 = false) (t : List UInt8) : span q (wd t) = span q t := by
  induction t with
  | nil => rfl
  | cons c t ih =>
    cases hs : sgU c with
    | true =>
      have hq : q c = false := by
        simp only [sgU, Bool.or_eq_true, beq_iff_eq] at hs
        rcases hs with (rfl | rfl) | rfl <;> assumption
      rw [wd_sign c t hs]
      simp [span, h32, hq]
    | false =>
      rw [wd_cons c t hs]
      cases hc : q c with
      | true => rw [span_cons_pos hc, span_cons_pos hc, ih]
      | false => simp [span, hc]
theorem head_wd (t : List UInt8) (c : UInt8) (h : c ≠ 32) (hs : sgU c = false) : ((wd t).head? = some c) = (t.head? = some c) := by
  cases t with
  | nil => rfl
  | cons x t =>
    cases hx : sgU x with
    | true =>
      rw [wd_sign x t hx]
      simp only [List.head?_cons, Option.some.injEq]
      exact propext ⟨fun e => absurd e.symm h, fun e => by rw [e, hs] at hx; cases hx⟩
    | false => rw [wd_cons x t hx]; rfl
theorem tok_wd (c : UInt8) (t : List UInt8) : tokL (c :: wd t) = tokL (c :: t) := by
  simp only [tokL, head_wd t 62 (by decide) (by decide), head_wd t 48 (by decide) (by decide), span_wd (q := lowdigU) (by decide) (by decide) (by decide) (by decide) t, span_wd (q := allU) (by decide) (by decide) (by decide) (by decide) t, span_wd (q := digU) (by decide) (by decide) (by decide) (by decide) t]
theorem all_sg {c : UInt8} (h : allU c = true) : sgU c = false := by
  have : ∀ n : Fin 256, allU (UInt8.ofNat n.val) = true → sgU (UInt8.ofNat n.val) = false := by decide +kernel
  exact all_bytes (p := fun c => allU c = true → sgU c = false) this c h
theorem lowdig_sg {c : UInt8} (h : lowdigU c = true) : sgU c = false := all_sg (by simp only [lowdigU, allU, Bool.or_eq_true] at h ⊢; rcases h with h | h <;> simp [h])
theorem dig_sg {c : UInt8} (h : digU c = true) : sgU c = false := all_sg (by simp [allU, h])
theorem tok_nosign {c : UInt8} {t : List UInt8} (hc : sgU c = false) {kd : Int} {n : Nat} (ht : tokL (c :: t) = (kd, n, 0)) : ∀ x ∈ (c :: t).take n, sgU x = false := by
  have h0 : ∀ m (q : UInt8 → Bool), (∀ y, q y = true → sgU y = false) → m = span q t → ∀ x ∈ (c :: t).take (1 + m), sgU x = false := by
    intro m q hq hm x hx
    rw [Nat.add_comm, List.take_succ_cons] at hx
    rcases List.mem_cons.mp hx with rfl | hx
    · exact hc
    · rw [hm] at hx; exact hq x (span_all q t x hx)
  simp only [sgU, Bool.or_eq_false_iff, beq_eq_false_iff_ne, ne_eq] at hc
  obtain ⟨⟨c1, c2⟩, c3⟩ := hc
  simp only [tokL] at ht
  rw [if_neg c1, if_neg c2, if_neg c3] at ht
  by_cases c4 : c = 61
  · rw [if_pos c4] at ht; simp only [Prod.mk.injEq] at ht; obtain ⟨_, rfl, _⟩ := ht; intro x hx; simp at hx; subst hx; subst c4; decide
  rw [if_neg c4] at ht
  by_cases c5 : c = 45 ∧ t.head? = some 62
  · rw [if_pos c5] at ht
    simp only [Prod.mk.injEq] at ht
    obtain ⟨_, rfl, _⟩ := ht
    obtain ⟨rfl, h62⟩ := c5
    cases t with
    | nil => cases h62
    | cons y t =>
      obtain rfl : y = 62 := by simpa using h62
      intro x hx
      simp at hx
      rcases hx with rfl | rfl <;> decide
  rw [if_neg c5] at ht
  by_cases c6 : lowU c = true
  · rw [if_pos c6] at ht; obtain ⟨_, rfl, _⟩ := finT_ok ht; exact h0 _ lowdigU (fun y hy => lowdig_sg hy) rfl
  rw [if_neg c6] at ht
  by_cases c7 : upU c = true
  · rw [if_pos c7] at ht; obtain ⟨_, rfl, _⟩ := finT_ok ht; exact h0 _ allU (fun y hy => all_sg hy) rfl
  rw [if_neg c7] at ht
  by_cases c8 : c = 95
  · rw [if_pos c8] at ht
    by_cases c9 : span digU t = 0 ∨ t.head? = some 48
    · rw [if_pos c9] at ht; simp at ht
    rw [if_neg c9] at ht
    obtain ⟨_, rfl, _⟩ := finT_ok ht; exact h0 _ digU (fun y hy => dig_sg hy) rfl
  · rw [if_neg c8] at ht; simp at ht
theorem span_take (l : List UInt8) : ∀ c ∈ l.take (span spU l), c = 32 := fun c hc => by
  have := span_all spU l c hc
  simpa [spU] using this
theorem wd_split (l : List UInt8) : wd l = l.take (span spU l) ++ wd (l.drop (span spU l)) := by
  conv => lhs; rw [← List.take_append_drop (span spU l) l]
  rw [wd_app, wd_id (l.take (span spU l)) (fun c hc => by rw [span_take l c hc]; decide)]
theorem drop_head (l : List UInt8) {c : UInt8} {t : List UInt8} (h : l.drop (span spU l) = c :: t) : spU c = false := by
  induction l with
  | nil => cases h
  | cons x l ih =>
    cases hx : spU x with
    | true => rw [span_cons_pos hx, Nat.add_comm, List.drop_succ_cons] at h; exact ih h
    | false =>
      have : span spU (x :: l) = 0 := by simp [span, hx]
      rw [this] at h
      cases h
      exact hx
theorem lex_wide {l : List UInt8} {ts : List Tk} {e : Int} (h : Lex l ts e) : Lex (wd l) ts e := by
  induction h with
  | stop l h =>
    rw [wd_split l, h]
    exact lex_blanks _ (span_take l) (.stop [] rfl)
  | bad l h kd n e ht he =>
    rw [wd_split l]
    refine lex_blanks _ (span_take l) ?_
    obtain ⟨c, t, hct⟩ := List.exists_cons_of_ne_nil h
    have hsp := drop_head l hct
    rw [hct] at ht ⊢
    have hs : sgU c = false := by
      cases hs : sgU c with
      | false => rfl
      | true =>
        simp only [sgU, Bool.or_eq_true, beq_iff_eq] at hs
        rcases hs with (rfl | rfl) | rfl <;> (simp [tokL] at ht; omega)
    rw [wd_cons c t hs]
    have h0 : span spU (c :: wd t) = 0 := by simp [span, hsp]
    have hd : (c :: wd t).drop (span spU (c :: wd t)) = c :: wd t := by rw [h0]; rfl
    exact .bad _ (by rw [hd]; simp) kd n e (by rw [hd, tok_wd c t]; exact ht) he
  | word l h kd n ht ts e hr ih =>
    rw [wd_split l]
    refine lex_blanks _ (span_take l) ?_
    obtain ⟨c, t, hct⟩ := List.exists_cons_of_ne_nil h
    have hsp := drop_head l hct
    have hok := tok_ok h ht
    rw [hct] at ht hok ih ⊢
    cases hs : sgU c with
    | true =>
      rw [wd_sign c t hs]
      simp only [sgU, Bool.or_eq_true, beq_iff_eq] at hs
      have hn : n = 1 ∧ ((c = 40 ∧ kd = 3) ∨ (c = 41 ∧ kd = 4) ∨ (c = 44 ∧ kd = 5)) := by
        rcases hs with (rfl | rfl) | rfl <;> (simp [tokL] at ht; obtain ⟨rfl, rfl⟩ := ht; simp)
      obtain ⟨rfl, hk⟩ := hn
      exact lex_blank (lex_sign hk (lex_blank (lex_blank ih)))
    | false =>
      have hno := tok_nosign hs ht
      have h1 : wd (c :: t) = (c :: t).take n ++ wd ((c :: t).drop n) := by
        conv => lhs; rw [← List.take_append_drop n (c :: t)]
        rw [wd_app, wd_id _ hno]
      have hlen : ((c :: t).take n).length = n := by rw [List.length_take]; omega
      have h2 : wd (c :: t) = c :: wd t := wd_cons c t hs
      have h0 : span spU (wd (c :: t)) = 0 := by rw [h2]; simp [span, hsp]
      have hd : (wd (c :: t)).drop (span spU (wd (c :: t))) = wd (c :: t) := by rw [h0]; rfl
      have htk : (wd (c :: t)).take n = (c :: t).take n := by rw [h1, List.take_left' hlen]
      have hdr : (wd (c :: t)).drop n = wd ((c :: t).drop n) := by rw [h1, List.drop_left' hlen]
      have := Lex.word (wd (c :: t)) (by rw [hd, h2]; simp) kd n (by rw [hd, h2, tok_wd c t]; exact ht) ts e (by rw [hd, hdr]; exact ih)
      rw [hd, htk] at this
      exact this
theorem wide_one (c : UInt8) : wd [c] = if sgU c = true then [32, c, 32, 32] else [c] := by
  cases h : sgU c <;> simp [wd, h]
theorem bt_sg (l : ByteArray) (i : Nat) (h : i < (bl l).length) : (sgU (bl l)[i] = true ↔ (bt l i = 40 ∨ bt l i = 41 ∨ bt l i = 44)) := by
  rw [bt_bl l i h]
  have h1 := u8_eq (bl l)[i] 40 (by omega)
  have h2 := u8_eq (bl l)[i] 41 (by omega)
  have h3 := u8_eq (bl l)[i] 44 (by omega)
  simp only [sgU, Bool.or_eq_true, beq_iff_eq]
  constructor
  · rintro ((h | h) | h)
    · exact .inl (h1.2 h)
    · exact .inr (.inl (h2.2 h))
    · exact .inr (.inr (h3.2 h))
  · rintro (h | h | h)
    · exact .inl (.inl (h1.1 h))
    · exact .inl (.inr (h2.1 h))
    · exact .inr (h3.1 h)
theorem bl32 : bl (⟨#[32]⟩ : ByteArray) = [32] := rfl
theorem bl3232 : bl (⟨#[32, 32]⟩ : ByteArray) = [32, 32] := rfl
theorem sz32 : (⟨#[32]⟩ : ByteArray).size = 1 := rfl
theorem ext_one (l : ByteArray) (i : Nat) (h : i < (bl l).length) : l.extract i (i + 1) = ⟨#[(bl l)[i]]⟩ := by
  apply bl_ext
  rw [bl_extract, show i + 1 - i = 1 by omega]
  show _ = [(bl l)[i]]
  rw [List.drop_eq_getElem_cons h]
  rfl
theorem blanks_l0 (g : List S62) (l : ByteArray) (hl : l.size ≤ 140737488351232) (b : Bool) : ∀ (d i k : Nat) (x : ByteArray), i + d = (bl l).length → d < k → bl x = wd ((bl l).take i) →
    ∃ y, bl y = wd (bl l) ∧ amalgamlaw05_TextBlanks.l0 k g l b x (i : Int) = amalgamlaw05_TextBlanks.l0 (k - d) g l b y (l.size : Int) := by
  have hlen := bl_len l
  intro d
  induction d with
  | zero =>
    intro i k x hi hk hx
    have : i = (bl l).length := by omega
    subst this
    rw [List.take_length] at hx
    exact ⟨x, hx, by rw [hlen, Nat.sub_zero]⟩
  | succ d ih =>
    intro i k x hi hk hx
    obtain ⟨k, rfl, _⟩ := k_succ hk
    have hlt : i < (bl l).length := by omega
    have hxs : x.size ≤ 4 * l.size := by
      have h1 := (wd_len ((bl l).take i)).1
      rw [← hx, bl_len, List.length_take] at h1
      omega
    have hw : wrap64 ((i : Int) + 1) = ((i + 1 : Nat) : Int) := wrap_nat (n := l.size) (by omega) (by omega)
    have hext : l.extract ((i : Nat) : Int).toNat (((i + 1 : Nat) : Int)).toNat = ⟨#[(bl l)[i]]⟩ := by
      rw [Int.toNat_natCast, Int.toNat_natCast]
      exact ext_one l i hlt
    have hsz1 : (⟨#[(bl l)[i]]⟩ : ByteArray).size = 1 := rfl
    have hbl1 : bl (⟨#[(bl l)[i]]⟩ : ByteArray) = [(bl l)[i]] := rfl
    have htake : (bl l).take (i + 1) = (bl l).take i ++ [(bl l)[i]] := List.take_succ_eq_append_getElem hlt
    have hsg := bt_sg l i hlt
    rw [amalgamlaw05_TextBlanks.l0, if_pos (by omega), if_pos (by omega), hw]
    simp only [hext]
    by_cases cs : sgU (bl l)[i] = true
    · have h3 := hsg.1 cs
      obtain ⟨y, hy1, hy2⟩ := ih (i + 1) k (((x ++ (⟨#[32]⟩ : ByteArray)) ++ ⟨#[(bl l)[i]]⟩) ++ (⟨#[32, 32]⟩ : ByteArray)) (by omega) (by omega) (by
        rw [bl_app, bl_app, bl_app, bl32, bl3232, hbl1, hx, htake, wd_app, wide_one, if_pos cs]
        simp)
      refine ⟨y, hy1, ?_⟩
      rw [show k + 1 - (d + 1) = k - d by omega, ← hy2]
      have c1 : x.size + 1 ≤ 9223372036854775807 := by omega
      have c2 : (i : Int) ≤ ((i + 1 : Nat) : Int) := by omega
      have c3 : ((i + 1 : Nat) : Int) ≤ (l.size : Int) := by omega
      have c4 : (x ++ (⟨#[32]⟩ : ByteArray)).size + (⟨#[(bl l)[i]]⟩ : ByteArray).size ≤ 9223372036854775807 := by rw [app_size, sz32, hsz1]; omega
      have c5 : ((x ++ (⟨#[32]⟩ : ByteArray)) ++ (⟨#[(bl l)[i]]⟩ : ByteArray)).size + 2 ≤ 9223372036854775807 := by rw [app_size, app_size, sz32, hsz1]; omega
      by_cases d1 : bt l i = 40
      · rw [if_pos d1, if_pos c1, if_pos c2, if_pos c3, if_pos c4, if_pos c5]
      · rw [if_neg d1]
        by_cases d2 : bt l i = 41
        · rw [if_pos d2, if_pos c1, if_pos c2, if_pos c3, if_pos c4, if_pos c5]
        · rw [if_neg d2]
          have d3 : bt l i = 44 := by rcases h3 with h | h | h <;> first | exact absurd h d1 | exact absurd h d2 | exact h
          rw [if_pos d3, if_pos c1, if_pos c2, if_pos c3, if_pos c4, if_pos c5]
    · have h3 : ¬ (bt l i = 40 ∨ bt l i = 41 ∨ bt l i = 44) := fun h => cs (hsg.2 h)
      obtain ⟨y, hy1, hy2⟩ := ih (i + 1) k (x ++ ⟨#[(bl l)[i]]⟩) (by omega) (by omega) (by
        rw [bl_app, hbl1, hx, htake, wd_app, wide_one, if_neg cs])
      refine ⟨y, hy1, ?_⟩
      rw [show k + 1 - (d + 1) = k - d by omega, ← hy2]
      rw [if_neg (fun h => h3 (.inl h)), if_neg (fun h => h3 (.inr (.inl h))), if_neg (fun h => h3 (.inr (.inr h))), if_pos (by omega), if_pos (by omega), if_pos (by rw [hsz1]; omega)]
theorem out_exact (g : List S62) (a b : Int) (e : Int) (ts : List Tk) (hts : ts.length ≤ 1000000) (hv : ∀ x ∈ ts, VT x) (d : Nat) (r : Except Int (Tr × List Tk)) (hr : pT d g e ts = some r) :
    (outT a (resT g e r)).2.2.2.1 = (outT b (resT g e r)).2.2.2.1 ∧ ∃ K, ∀ k, K ≤ k → amalgamref03_Exact.f k (outT a (resT g e r)).1 (outT a (resT g e r)).2.1 (outT a (resT g e r)).2.2.1 (outT b (resT g e r)).1 (outT b (resT g e r)).2.1 (outT b (resT g e r)).2.2.1 = some true := by
  have herr : ∀ er : Int, ∃ K, ∀ k, K ≤ k → amalgamref03_Exact.f k (outT a (.error er)).1 (outT a (.error er)).2.1 (outT a (.error er)).2.2.1 (outT b (.error er)).1 (outT b (.error er)).2.1 (outT b (.error er)).2.2.1 = some true := fun er => ⟨_, exact_of _ 0 [] (by simp) 0 (fun i h => by simp at h)⟩
  cases hres : resT g e r with
  | error er => exact ⟨rfl, herr er⟩
  | ok t =>
    refine ⟨rfl, ?_⟩
    rcases r with er | ⟨t', ts'⟩
    · simp [resT] at hres
    · cases ts' with
      | cons y ts2 => simp [resT] at hres
      | nil =>
        have : t' = t := by
          simp only [resT] at hres
          by_cases he : e = 0
          · rw [if_pos he] at hres
            by_cases hc : ckV g t' = 0
            · rw [if_pos hc] at hres; exact Except.ok.inj hres
            · rw [if_neg hc] at hres; cases hres
          · rw [if_neg he] at hres; cases hres
        subst this
        obtain ⟨n, ts0, rfl, hsh⟩ := (pT_sh g e d).1 ts t' [] hv hr
        rw [List.append_nil] at hts
        obtain ⟨K, hK⟩ := (exact_sh g n).1 t' ts0 hsh hts
        exact ⟨K, hK⟩
theorem TextBlanks (g : List S62) (l : ByteArray) (hg : g.length ≤ 140737488351232) (hl : l.size ≤ 140737488351232) : ∃ k, amalgamlaw05_TextBlanks.f k g l = some true := by
  have hlen := bl_len l
  obtain ⟨y, hy, hloop⟩ := blanks_l0 g l hl true l.size 0 (l.size + 1) ⟨#[]⟩ (by omega) (by omega) (by simp [wd, bl])
  have key : ∃ k, amalgamlaw05_TextBlanks.l0 (k + 1) g l true y (l.size : Int) = some true := by
    by_cases hbig : (y.size : Int) > 800
    · exact ⟨0, by rw [amalgamlaw05_TextBlanks.l0, if_neg (by omega), if_pos hbig]⟩
    · have hw := wd_len (bl l)
      rw [← hy, bl_len] at hw
      obtain ⟨ts, e, hL⟩ := lex_ex _ (bl l) (Nat.le_refl _)
      have hW := lex_wide hL
      rw [← hy] at hW
      have hts := lex_len hL
      obtain ⟨r, hr, _⟩ := (pT_ex g e (2 * ts.length + 2)).1 ts (by omega)
      obtain ⟨K1, a, h1⟩ := term_f g hg l (by omega) ts e hL _ r hr
      obtain ⟨K2, b, h2⟩ := term_f g hg y (by omega) ts e hW _ r hr
      obtain ⟨he, K3, h3⟩ := out_exact g a b e ts (by omega) (lex_VT hL) _ r hr
      refine ⟨max K1 (max K2 K3), ?_⟩
      rw [amalgamlaw05_TextBlanks.l0, if_neg (by omega), if_neg hbig, h1 _ (by omega), Option.bind_some, h2 _ (by omega), Option.bind_some, if_pos rfl, if_pos he, h3 _ (by omega)]
      rfl
  obtain ⟨k, hk⟩ := key
  have hm : ∀ j, k + 1 ≤ j → amalgamlaw05_TextBlanks.l0 j g l true y (l.size : Int) = some true := fun j hj => at_rounds (fun k => (amalgamlaw05_TextBlanks.mono_l k) _ _ _ _ _) hj hk
  obtain ⟨y2, hy2, hloop2⟩ := blanks_l0 g l hl true l.size 0 (l.size + k + 61) ⟨#[]⟩ (by omega) (by omega) (by simp [wd, bl])
  have : y2 = y := bl_ext (hy2.trans hy.symm)
  subst this
  refine ⟨l.size + k + 61, ?_⟩
  unfold amalgamlaw05_TextBlanks.f
  rw [head_true _ (by omega), Option.bind_some]
  have h0 : ((0 : Nat) : Int) = 0 := rfl
  rw [h0] at hloop2
  rw [hloop2]
  exact hm _ (by omega)
end Go.Proofs.Ytpepjodkahdicaa.Sw
