/-
  Terms that may be, plainly: each has words, not many, and these words are read as the term. Conditions: each theorem's own.
-/
-- Written by programs of this session (wip/tools), cut to what the claim uses (wip/tools/prune.py).
import Derived.Test.YtpepjodkahdicaaRef03
import Derived.Test.YtpepjodkahdicaaTerm
import Derived.Test.YtpepjodkahdicaaPTbx11
namespace Go.Proofs.Ytpepjodkahdicaa.Sw
open Go.RowKit Go.Proofs.YtpepjodkahdicaaW.PrintWords Go.Proofs.Ytpepjodkahdicaa.PTb
theorem nmAll_iff (s : ByteArray) : ∀ (d i : Nat), nmAll s d i = true ↔ ∀ j, i ≤ j → j < i + d → nmB s j = true
  | 0, i => by simp [nmAll]; intro j h1 h2; omega
  | d + 1, i => by
    simp only [nmAll, Bool.and_eq_true, nmAll_iff s d (i + 1)]
    constructor
    · rintro ⟨h1, h2⟩ j h3 h4
      rcases Nat.eq_or_lt_of_le h3 with rfl | h5
      · exact h1
      · exact h2 j (by omega) (by omega)
    · intro h
      exact ⟨h i (by omega) (by omega), fun j h1 h2 => h j (by omega) (by omega)⟩
theorem vrAll_iff (s : ByteArray) (fr : Bool) : ∀ (d i : Nat), vrAll s fr d i = true ↔ ∀ j, i ≤ j → j < i + d → vrB s fr j = true
  | 0, i => by simp [vrAll]; intro j h1 h2; omega
  | d + 1, i => by
    simp only [vrAll, Bool.and_eq_true, vrAll_iff s fr d (i + 1)]
    constructor
    · rintro ⟨h1, h2⟩ j h3 h4
      rcases Nat.eq_or_lt_of_le h3 with rfl | h5
      · exact h1
      · exact h2 j (by omega) (by omega)
    · intro h
      exact ⟨h i (by omega) (by omega), fun j h1 h2 => h j (by omega) (by omega)⟩
theorem VN_of {s : ByteArray} (h : nameB s = true) : VN (bl s) := by
  have hl := bl_len s
  simp only [nameB, Bool.and_eq_true, decide_eq_true_eq, nmAll_iff] at h
  obtain ⟨⟨h1, h2⟩, h3⟩ := h
  obtain ⟨c, t, hb⟩ : ∃ c t, bl s = c :: t := by
    cases hb : bl s with
    | nil => rw [hb] at hl; simp at hl; omega
    | cons c t => exact ⟨c, t, rfl⟩
  refine ⟨c, t, hb, ?_, fun x hx => ?_, by omega⟩
  · have := h3 0 (by omega) (by omega)
    have h0 := bt_cons hb
    simp only [nmB, Nat.lt_irrefl, decide_false, Bool.false_and, Bool.or_false, decide_eq_true_eq] at this
    rw [show ((0 : Nat) : Int) = 0 from rfl, h0] at this
    simp only [lowU, Bool.and_eq_true, decide_eq_true_eq]
    omega
  · obtain ⟨j, hj, rfl⟩ := List.mem_iff_getElem.1 hx
    have hj' : j + 1 < (bl s).length := by rw [hb, List.length_cons]; omega
    have := h3 (j + 1) (by omega) (by omega)
    have h0 := bt_bl s (j + 1) hj'
    have hx : (bl s)[j + 1]'hj' = t[j] := by simp [hb]
    rw [hx] at h0
    simp only [nmB, Bool.or_eq_true, Bool.and_eq_true, decide_eq_true_eq] at this
    rw [h0] at this
    simp only [lowdigU, lowU, digU, Bool.or_eq_true, Bool.and_eq_true, decide_eq_true_eq]
    omega
theorem varB_len {s : ByteArray} (h : varB s = true) : 1 ≤ s.size ∧ s.size ≤ 12 := by
  simp only [varB, Bool.and_eq_true, decide_eq_true_eq] at h
  exact h.1.1
theorem VV_of {s : ByteArray} (h : varB s = true) : VV (bl s) := by
  have hl := bl_len s
  simp only [varB, Bool.and_eq_true, decide_eq_true_eq, vrAll_iff] at h
  obtain ⟨⟨⟨h1, h2⟩, h3⟩, h4⟩ := h
  obtain ⟨c, t, hb⟩ : ∃ c t, bl s = c :: t := by
    cases hb : bl s with
    | nil => rw [hb] at hl; simp at hl; omega
    | cons c t => exact ⟨c, t, rfl⟩
  have h0 := bt_cons hb
  have hat : ∀ j (hj : j < t.length), bt s ((j + 1 : Nat) : Int) = ((t[j]).toNat : Int) := fun j hj => by
    have hj' : j + 1 < (bl s).length := by rw [hb, List.length_cons]; omega
    have e := bt_bl s (j + 1) hj'
    have hx : (bl s)[j + 1]'hj' = t[j] := by simp [hb]
    rw [hx] at e
    exact e
  by_cases h95 : bt s 0 = 95
  · rw [decide_eq_true h95] at h3 h4
    have h5 : 1 < s.size := by simpa using h4
    have hc : c = 95 := (u8_eq c 95 (by omega)).1 (by omega)
    subst hc
    obtain ⟨d, t', ht⟩ : ∃ d t', t = d :: t' := by
      cases t with
      | nil => rw [hb] at hl; simp at hl; omega
      | cons d t' => exact ⟨d, t', rfl⟩
    subst ht
    refine .inr ⟨d, t', hb, ?_, fun x hx => ?_, by omega⟩
    · intro hd
      have := h3 1 (by omega) (by omega)
      subst hd
      have e : bt s 1 = 48 := by
        have e := hat 0 (by simp)
        simpa using e
      simp [vrB] at this
      exact this.2 e
    · obtain ⟨j, hj, rfl⟩ := List.mem_iff_getElem.1 hx
      have := h3 (j + 1) (by omega) (by rw [hb] at hl; simp at hl hj; omega)
      have e := hat j hj
      simp only [vrB, Nat.add_eq_zero_iff, Nat.succ_ne_self, and_false, if_false, Bool.not_true, Bool.false_and, Bool.or_false, Bool.and_eq_true, decide_eq_true_eq] at this
      rw [e] at this
      simp only [digU, Bool.and_eq_true, decide_eq_true_eq]
      omega
  · rw [decide_eq_false h95] at h3
    refine .inl ⟨c, t, hb, ?_, fun x hx => ?_, by omega⟩
    · have := h3 0 (by omega) (by omega)
      simp only [vrB, if_true, Bool.false_or, decide_eq_true_eq] at this
      rw [show ((0 : Nat) : Int) = 0 from rfl, h0] at this
      simp only [upU, Bool.and_eq_true, decide_eq_true_eq]
      omega
    · obtain ⟨j, hj, rfl⟩ := List.mem_iff_getElem.1 hx
      have := h3 (j + 1) (by omega) (by rw [hb] at hl; simp at hl hj; omega)
      have e := hat j hj
      simp only [vrB, Nat.add_eq_zero_iff, Nat.succ_ne_self, and_false, if_false, Bool.not_false, Bool.true_and, Bool.and_false, Bool.false_and, Bool.not_false, Bool.and_true, Bool.or_eq_true, decide_eq_true_eq] at this
      rw [e] at this
      simp only [allU, upU, lowU, digU, Bool.or_eq_true, Bool.and_eq_true, decide_eq_true_eq]
      omega
/-- what a right signature's symbols are -/
def Syms (g : List Sym) : Prop := ∀ j (h : j < g.length), nameB (g[j]).f0 = true ∧ ∀ q (hq : q < j), (g[q]'(by omega)).f0 ≠ (g[j]).f0
theorem fndL_uniq (g : List Sym) (j : Nat) (h : j < g.length) (hq : ∀ q (hq : q < j), (g[q]'(by omega)).f0 ≠ (g[j]).f0) : ∀ (d i : Nat), i + d = j → fndL (g.drop i) (g[j]).f0 i = ((j : Int), true) := by
  intro d
  induction d with
  | zero =>
    intro i hi
    have : i = j := by omega
    subst this
    rw [List.drop_eq_getElem_cons h, fndL, if_pos rfl]
  | succ d ih =>
    intro i hi
    rw [List.drop_eq_getElem_cons (show i < g.length by omega), fndL, if_neg (fun e => hq i (by omega) (bytes_eq e)), ih (i + 1) (by omega)]
theorem fnd_uniq (g : List Sym) (hg : Syms g) (j : Nat) (h : j < g.length) : fnd g (g[j]).f0 = ((j : Int), true) := by
  have := fndL_uniq g j h (hg j h).2 j 0 (by omega)
  rw [List.drop_zero] at this
  exact this
theorem shA_ex (g : List Sym) : ∀ (l : List Tr), l ≠ [] → (∀ i (h : i < l.length), ∃ n ts, Sh g n l[i] ts ∧ (flat ts).length + 1 ≤ 14 * cnt l[i] ∧ ts.length + 1 ≤ 3 * cnt l[i]) → ∃ n ts, ShA g n l ts ∧ (flat ts).length ≤ 14 * cntL l ∧ ts.length ≤ 3 * cntL l
  | [], h, _ => absurd rfl h
  | [t], _, hc => by
    obtain ⟨n, ts, h1, h2, h3⟩ := hc 0 (by simp)
    simp only [List.getElem_cons_zero] at h1 h2 h3
    refine ⟨n + 1, ts ++ [(4, ⟨#[41]⟩)], ?_, ?_, ?_⟩
    · rw [ShA]
      exact ⟨t, ts, h1, .inl ⟨rfl, rfl⟩⟩
    · rw [flat_app, flat_cons, List.length_append, List.length_append, b41]
      simp only [flat, List.flatMap_nil, List.length_cons, List.length_nil, cntL]
      simp only [flat] at h2
      omega
    · simp only [List.length_append, List.length_cons, List.length_nil, cntL]
      omega
  | t :: t2 :: l, _, hc => by
    obtain ⟨n, ts, h1, h2, h3⟩ := hc 0 (by simp)
    simp only [List.getElem_cons_zero] at h1 h2 h3
    obtain ⟨n2, ts2, h4, h5, h6⟩ := shA_ex g (t2 :: l) (by simp) (fun i hi => by
      have := hc (i + 1) (by simpa using hi)
      simpa using this)
    refine ⟨max n n2 + 1, ts ++ (5, ⟨#[44]⟩) :: ts2, ?_, ?_, ?_⟩
    · rw [ShA]
      exact ⟨t, ts, (sh_up g (show n ≤ max n n2 by omega)).1 _ _ h1, .inr ⟨t2 :: l, ts2, (sh_up g (show n2 ≤ max n n2 by omega)).2 _ _ h4, rfl, rfl⟩⟩
    · rw [flat_app, flat_cons, List.length_append, List.length_append, b44]
      rw [cntL]
      simp only [List.length_cons, List.length_nil]
      omega
    · rw [cntL]
      simp only [List.length_append, List.length_cons]
      omega
theorem sh_ex (g : List Sym) (hg : Syms g) (t : Tr) : Good g t → ∃ n ts, Sh g n t ts ∧ (flat ts).length + 1 ≤ 14 * cnt t ∧ ts.length + 1 ≤ 3 * cnt t :=
  tree_ind (fun t => Good g t → ∃ n ts, Sh g n t ts ∧ (flat ts).length + 1 ≤ 14 * cnt t ∧ ts.length + 1 ≤ 3 * cnt t) (fun t ih hgd => by
    have hc := cnt_eq t
    obtain ⟨_, h, hs⟩ := hgd
    obtain ⟨f0, f1, f2⟩ := t
    dsimp only at ih h hs hc
    rcases h with ⟨hb, hv, h1, h2⟩ | ⟨hb, i, hi, h1, h2⟩
    · dsimp only at hb hv h1 h2
      subst h1 h2
      have hl := varB_len hv
      have hl2 := bl_len f0
      refine ⟨1, [(2, f0)], ?_, ?_, ?_⟩
      · rw [Sh]
        exact .inl ⟨f0, VV_of hv, rfl, rfl⟩
      · rw [flat_cons, List.length_append, hc]
        simp only [flat, List.flatMap_nil, List.length_nil, cntL]
        omega
      · simp only [List.length_cons, List.length_nil, hc, cntL]
        omega
    · dsimp only at hb h1 h2
      subst h1
      have he : f0 = ⟨#[]⟩ := bl_ext (by rw [hb])
      subst he
      have hn := (hg i hi).1
      have hvn := VN_of hn
      have hl : (bl (g[i]).f0).length ≤ 12 := by obtain ⟨c, t, e, _, _, h⟩ := hvn; exact h
      have hf := fnd_uniq g hg i hi
      by_cases hz : f2 = []
      · subst hz
        refine ⟨1, [(1, (g[i]).f0)], ?_, ?_, ?_⟩
        · rw [Sh]
          exact .inr (.inl ⟨i, (g[i]).f0, hvn, hf, rfl, rfl⟩)
        · rw [flat_cons, List.length_append, hc]
          simp only [flat, List.flatMap_nil, List.length_nil, cntL]
          omega
        · simp only [List.length_cons, List.length_nil, hc, cntL]
          omega
      · obtain ⟨n, ts, h4, h5, h6⟩ := shA_ex g f2 hz (fun j hj => ih j hj (hs j hj))
        refine ⟨n + 1, (1, (g[i]).f0) :: (3, ⟨#[40]⟩) :: ts, ?_, ?_, ?_⟩
        · rw [Sh]
          exact .inr (.inr ⟨i, (g[i]).f0, f2, ts, hvn, hf, rfl, rfl, h4⟩)
        · rw [flat_cons, flat_cons, List.length_append, List.length_append, b40, hc]
          simp only [List.length_cons, List.length_nil]
          omega
        · simp only [List.length_cons, hc]
          omega) t
/-- words are read as the term that they show -/
theorem pT_of (g : List Sym) : ∀ n, (∀ t ts us, Sh g n t ts → (∀ y us', us = y :: us' → y.1 ≠ 3) → ∃ d0, ∀ d, d0 ≤ d → pT d g 0 (ts ++ us) = some (.ok (t, us))) ∧
    (∀ l ts us acc kd, ShA g n l ts → kd ≠ 4 → ∃ d0, ∀ d, d0 ≤ d → pA d g 0 (ts ++ us) kd acc = some (.ok (acc ++ l, us))) := by
  intro n
  induction n with
  | zero => exact ⟨fun t ts us h => by simp [Sh] at h, fun l ts us acc kd h => by simp [ShA] at h⟩
  | succ n ih =>
    constructor
    · intro t ts us h hus
      rw [Sh] at h
      rcases h with ⟨tx, _, rfl, rfl⟩ | ⟨i, tx, _, hf, rfl, rfl⟩ | ⟨i, tx, l, ts', _, hf, rfl, rfl, hA⟩
      · refine ⟨1, fun d hd => ?_⟩
        obtain ⟨d, rfl, _⟩ := k_succ (show 0 < d by omega)
        cases us <;> simp [pT]
      · refine ⟨1, fun d hd => ?_⟩
        obtain ⟨d, rfl, _⟩ := k_succ (show 0 < d by omega)
        cases us with
        | nil => simp [pT, hf]
        | cons y us' => simp [pT, hf, hus y us' rfl]
      · obtain ⟨d0, h0⟩ := ih.2 l ts' us [] 3 hA (by decide)
        refine ⟨d0 + 1, fun d hd => ?_⟩
        obtain ⟨d, rfl, _⟩ := k_succ (show d0 < d by omega)
        have h1 := h0 d (by omega)
        rw [List.nil_append] at h1
        simp [pT, hf, h1]
    · intro l ts us acc kd h hkd
      rw [ShA] at h
      obtain ⟨t, ts1, h1, ⟨rfl, rfl⟩ | ⟨l', ts2, h2, rfl, rfl⟩⟩ := h
      · obtain ⟨d0, h0⟩ := ih.1 t ts1 ((4, ⟨#[41]⟩) :: us) h1 (fun y us' e => by cases e; decide)
        refine ⟨d0 + 2, fun d hd => ?_⟩
        obtain ⟨d, rfl, _⟩ := k_succ (show d0 + 1 < d by omega)
        rw [List.append_assoc, List.singleton_append, pA, if_neg hkd, h0 d (by omega), Option.bind_some]
        dsimp only
        rw [if_pos (.inl rfl)]
        obtain ⟨d, rfl, _⟩ := k_succ (show 0 < d by omega)
        rw [pA, if_pos rfl]
      · obtain ⟨d0, h0⟩ := ih.1 t ts1 ((5, ⟨#[44]⟩) :: (ts2 ++ us)) h1 (fun y us' e => by cases e; decide)
        obtain ⟨d1, h3⟩ := ih.2 l' ts2 us (acc ++ [t]) 5 h2 (by decide)
        refine ⟨d0 + d1 + 1, fun d hd => ?_⟩
        obtain ⟨d, rfl, _⟩ := k_succ (show d0 + d1 < d by omega)
        rw [List.append_assoc, List.cons_append, pA, if_neg hkd, h0 d (by omega), Option.bind_some]
        dsimp only
        rw [if_pos (.inr rfl), h3 d (by omega), List.append_assoc, List.singleton_append]
theorem rd_sh (g : List Sym) (hg : g.length ≤ 140737488351232) (s : ByteArray) (hs : s.size ≤ 140737488351232) (p : Nat) (hp : p ≤ (bl s).length) (n : Nat) (t : Tr) (ts us : List Tk) (h : Sh g n t ts) (hus : ∀ y us', us = y :: us' → y.1 ≠ 3) (hl : Lex ((bl s).drop p) (ts ++ us) 0) (hlen : (ts ++ us).length ≤ 1000000) :
    ∃ K, ∃ q : Nat, (∀ k, K ≤ k → rdTerm k g s (p : Int) = some (.ok (t, (q : Int)))) ∧ q ≤ (bl s).length ∧ Lex ((bl s).drop q) us 0 := by
  obtain ⟨d0, h0⟩ := (pT_of g n).1 t ts us h hus
  obtain ⟨r', h1, h2⟩ := (rd_pT g hg s hs 0 ((bl s).length + g.length + 1) (by omega) (by omega) d0).1 p (ts ++ us) _ hp hl hlen (h0 d0 (Nat.le_refl _))
  obtain ⟨q, rfl, hq, hlq⟩ := h2
  exact ⟨_, q, fun k hk => at_rounds (fun k => rdTerm.mono g s p k) hk h1, hq, hlq⟩
theorem lex_eq {r : List UInt8} {ts : List Tk} {e : Int} (hr : Lex r ts e) : Lex (61 :: r) ((6, ⟨#[61]⟩) :: ts) e := lex_one (m := [61]) (by simp) (by simp [span, spU]) (by simp [tokL]) hr
theorem lex_arrow {r : List UInt8} {ts : List Tk} {e : Int} (hr : Lex r ts e) : Lex (45 :: 62 :: r) ((7, ⟨#[45, 62]⟩) :: ts) e := lex_one (m := [45, 62]) (by simp) (by simp [span, spU]) (by simp [tokL]) hr
theorem lex_blank {l : List UInt8} {ts : List Tk} {e : Int} (h : Lex l ts e) : Lex (32 :: l) ts e := by
  have hsp : span spU (32 :: l) = 1 + span spU l := span_cons_pos rfl
  have hd : (32 :: l).drop (span spU (32 :: l)) = l.drop (span spU l) := by rw [hsp, Nat.add_comm, List.drop_succ_cons]
  cases h with
  | stop _ h => exact .stop _ (by rw [hd]; exact h)
  | bad _ h kd n e ht he => exact .bad _ (by rw [hd]; exact h) kd n e (by rw [hd]; exact ht) he
  | word _ h kd n ht ts e hr =>
    have := Lex.word (32 :: l) (by rw [hd]; exact h) kd n (by rw [hd]; exact ht) ts e (by rw [hd]; exact hr)
    rw [hd] at this
    exact this
theorem may_all (g : List Sym) (l : List Tr) (hl : ∀ t ∈ l, ckV g t = 0) : ∀ (d i : Nat), i + d = l.length → ∃ K, ∀ k, K ≤ k → rdMay k g l i = some (.ok ()) := by
  intro d
  induction d with
  | zero =>
    intro i hi
    refine ⟨1, fun k hk => ?_⟩
    obtain ⟨k, rfl, _⟩ := k_succ (show 0 < k by omega)
    rw [rdMay, if_neg (by omega)]
  | succ d ih =>
    intro i hi
    have hlt : i < l.length := by omega
    obtain ⟨K1, h1⟩ := ih (i + 1) (by omega)
    obtain ⟨K2, h2⟩ := ckV_spec g l[i]
    refine ⟨K1 + K2 + 1, fun k hk => ?_⟩
    obtain ⟨k, rfl, _⟩ := k_succ (show K1 + K2 < k by omega)
    rw [rdMay, if_pos hlt, rdT_at l i hlt, h2 k (by omega), Option.bind_some, if_pos (hl _ (List.getElem_mem hlt)), h1 k (by omega)]
theorem eq_f (g : List Sym) (hg : g.length ≤ 140737488351232) (n1 n2 : Nat) (t1 t2 : Tr) (ts1 ts2 : List Tk) (h1 : Sh g n1 t1 ts1) (h2 : Sh g n2 t2 ts2) (c1 : ckV g t1 = 0) (c2 : ckV g t2 = 0) (s : ByteArray) (hs : s.size ≤ 800) (hb : bl s = flat ts1 ++ 32 :: 61 :: 32 :: flat ts2) (hlen : ts1.length + ts2.length ≤ 1000) :
    ∃ K, ∀ k, K ≤ k → text_Equation.f k g s = some (t1.f0, t1.f1, t1.f2, t2.f0, t2.f1, t2.f2, 0, 0) := by
  have L2 : Lex (flat ts2) ts2 0 := by
    have := (sh_lex g n2).1 t2 ts2 [] [] 0 h2 (.inl rfl) (.stop [] rfl)
    simpa using this
  have L1 : Lex (bl s) (ts1 ++ (6, ⟨#[61]⟩) :: ts2) 0 := by
    rw [hb]
    exact (sh_lex g n1).1 t1 ts1 _ _ 0 h1 (.inr ⟨32, _, rfl, by simp⟩) (lex_blank (lex_eq (lex_blank L2)))
  obtain ⟨K1, p, r1, hp, Lp⟩ := rd_sh g hg s (by omega) 0 (by omega) n1 t1 ts1 ((6, ⟨#[61]⟩) :: ts2) h1 (fun y us' e => by cases e; decide) (by rw [List.drop_zero]; exact L1) (by simp; omega)
  obtain ⟨wt, q, r2, hq, Lq⟩ := rnext_cons s (by omega) p ((bl s).length + 1) hp (by omega) _ _ _ _ Lp
  obtain ⟨K3, z, r3, hz, Lz⟩ := rd_sh g hg s (by omega) q hq n2 t2 ts2 [] h2 (fun y us' e => by cases e) (by rw [List.append_nil]; exact Lq) (by simp; omega)
  obtain ⟨tx, wt4, en4, r4⟩ := peek_nil0 s (by omega) z ((bl s).length + 1) hz (by omega) Lz
  obtain ⟨K5, r5⟩ := may_all g [t1, t2] (fun t ht => by simp at ht; rcases ht with rfl | rfl <;> assumption) 2 0 rfl
  refine ⟨K1 + K3 + K5 + (bl s).length + 1, fun k hk => ?_⟩
  have e1 := r1 k (by omega)
  rw [show ((0 : Nat) : Int) = 0 from rfl] at e1
  have e2 := at_rounds (fun k => rdNext.mono s p k) (show (bl s).length + 1 ≤ k by omega) r2
  have e3 := r3 k (by omega)
  have e4 := at_rounds (fun k => rdPeek.mono s z k) (show (bl s).length + 1 ≤ k by omega) r4
  unfold text_Equation.f rdEqF eqHow
  rw [if_pos hs, e1, Option.bind_some]
  dsimp only
  rw [e2, Option.bind_some]
  dsimp only
  rw [if_pos rfl, e3, Option.bind_some]
  dsimp only
  rw [e4, Option.bind_some]
  dsimp only
  rw [if_pos rfl, r5 k (by omega), Option.bind_some, Option.bind_some]
end Go.Proofs.Ytpepjodkahdicaa.Sw
