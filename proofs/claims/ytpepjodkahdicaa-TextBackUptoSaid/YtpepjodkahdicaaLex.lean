/-
  Texts, plainly: the words of a text as a relation; the reader's term as a function of these words alone. Conditions: each theorem's own.
-/
-- Written by programs of this session (wip/tools), cut to what the claim uses (wip/tools/prune.py).
import Derived.Test.YtpepjodkahdicaaTok
import Derived.Test.YtpepjodkahdicaaRdN
namespace Go.Proofs.Ytpepjodkahdicaa.Sw
open Go.RowKit Go.Proofs.YtpepjodkahdicaaW.PrintWords Go.Proofs.Ytpepjodkahdicaa.PTb
abbrev Tk := Int × ByteArray
/-- The words of l, up to the end (e is 0), or up to the first error e. -/
inductive Lex : List UInt8 → List Tk → Int → Prop
  | stop (l : List UInt8) (h : l.drop (span spU l) = []) : Lex l [] 0
  | bad (l : List UInt8) (h : l.drop (span spU l) ≠ []) (kd : Int) (n : Nat) (e : Int) (ht : tokL (l.drop (span spU l)) = (kd, n, e)) (he : e ≠ 0) : Lex l [] e
  | word (l : List UInt8) (h : l.drop (span spU l) ≠ []) (kd : Int) (n : Nat) (ht : tokL (l.drop (span spU l)) = (kd, n, 0)) (ts : List Tk) (e : Int)
      (hr : Lex ((l.drop (span spU l)).drop n) ts e) : Lex l ((kd, ⟨((l.drop (span spU l)).take n).toArray⟩) :: ts) e
theorem lex_len {l : List UInt8} {ts : List Tk} {e : Int} (h : Lex l ts e) : ts.length ≤ l.length := by
  induction h with
  | stop => simp
  | bad => simp
  | word l h kd n ht ts e hr ih =>
    have hok := tok_ok h ht
    rw [List.length_drop] at ih hok
    rw [List.length_drop] at ih
    rw [List.length_cons]
    omega
theorem next_at (s : ByteArray) (hs : s.size ≤ 140737488351232) (p k : Nat) (hp : p ≤ (bl s).length) (hk : (bl s).length < k) : words_Next.f k s (p : Int) = some (nextL ((bl s).drop p) p) := by
  rw [next_f s hs p k hk, nextS_at s p hp]
theorem peek_nil0 (s : ByteArray) (hs : s.size ≤ 140737488351232) (p k : Nat) (hp : p ≤ (bl s).length) (hk : (bl s).length < k) (h : Lex ((bl s).drop p) [] 0) : ∃ tx wt en, rdPeek k s (p : Int) = some (.ok ((0, tx, wt), en)) := by
  unfold rdPeek
  rw [next_at s hs p k hp hk]
  generalize (bl s).drop p = l at h
  cases h with
  | stop _ h => rw [next_stop p h]; exact ⟨_, _, _, rfl⟩
  | bad _ h kd n e ht he => exact absurd rfl he
theorem peek_nil (s : ByteArray) (hs : s.size ≤ 140737488351232) (p k : Nat) (hp : p ≤ (bl s).length) (hk : (bl s).length < k) (e : Int) (he0 : e ≠ 0) (h : Lex ((bl s).drop p) [] e) : ∃ a, rdPeek k s (p : Int) = some (.error (e, a)) := by
  unfold rdPeek
  rw [next_at s hs p k hp hk]
  generalize (bl s).drop p = l at h
  cases h with
  | stop _ h => exact absurd rfl he0
  | bad _ h kd n e ht he => rw [next_bad p h ht he]; exact ⟨_, by rw [Option.bind_some, if_neg he]⟩
theorem peek_cons (s : ByteArray) (hs : s.size ≤ 140737488351232) (p k : Nat) (hp : p ≤ (bl s).length) (hk : (bl s).length < k) (kd : Int) (tx : ByteArray) (ts : List Tk) (e : Int) (h : Lex ((bl s).drop p) ((kd, tx) :: ts) e) :
    kd ≠ 0 ∧ ∃ wt, ∃ q : Nat, rdPeek k s (p : Int) = some (.ok ((kd, tx, wt), (q : Int))) ∧ q ≤ (bl s).length ∧ Lex ((bl s).drop q) ts e := by
  unfold rdPeek
  rw [next_at s hs p k hp hk]
  generalize hl : (bl s).drop p = l at h
  cases h with
  | word _ h _ n ht _ _ hr =>
    have hok := tok_ok h ht
    have hll : l.length = (bl s).length - p := by rw [← hl, List.length_drop]
    rw [List.length_drop] at hok
    refine ⟨hok.1, _, p + span spU l + n, by rw [next_word p h ht]; rfl, by omega, ?_⟩
    have : (l.drop (span spU l)).drop n = (bl s).drop (p + span spU l + n) := by
      rw [List.drop_drop, ← hl, List.drop_drop, Nat.add_assoc]
    rw [← this]
    exact hr
theorem rnext_nil0 (s : ByteArray) (hs : s.size ≤ 140737488351232) (p k : Nat) (hp : p ≤ (bl s).length) (hk : (bl s).length < k) (h : Lex ((bl s).drop p) [] 0) : rdNext k s (p : Int) = some (.error (51, (s.size : Int))) := by
  obtain ⟨tx, wt, en, hx⟩ := peek_nil0 s hs p k hp hk h
  unfold rdNext
  rw [hx]
  rfl
theorem rnext_nil (s : ByteArray) (hs : s.size ≤ 140737488351232) (p k : Nat) (hp : p ≤ (bl s).length) (hk : (bl s).length < k) (e : Int) (he0 : e ≠ 0) (h : Lex ((bl s).drop p) [] e) : ∃ a, rdNext k s (p : Int) = some (.error (e, a)) := by
  obtain ⟨a, hx⟩ := peek_nil s hs p k hp hk e he0 h
  unfold rdNext
  rw [hx]
  exact ⟨a, rfl⟩
theorem rnext_cons (s : ByteArray) (hs : s.size ≤ 140737488351232) (p k : Nat) (hp : p ≤ (bl s).length) (hk : (bl s).length < k) (kd : Int) (tx : ByteArray) (ts : List Tk) (e : Int) (h : Lex ((bl s).drop p) ((kd, tx) :: ts) e) :
    ∃ wt, ∃ q : Nat, rdNext k s (p : Int) = some (.ok ((kd, tx, wt), (q : Int))) ∧ q ≤ (bl s).length ∧ Lex ((bl s).drop q) ts e := by
  obtain ⟨hk0, wt, q, hx, hq, hl⟩ := peek_cons s hs p k hp hk kd tx ts e h
  refine ⟨wt, q, ?_, hq, hl⟩
  unfold rdNext
  rw [hx]
  simp [hk0]
def fndL : List S62 → ByteArray → Nat → Int × Bool
  | [], _, _ => (0, false)
  | x :: g, tx, i => if x.f0.toList = tx.toList then ((i : Int), true) else fndL g tx (i + 1)
def fnd (g : List S62) (tx : ByteArray) : Int × Bool := fndL g tx 0
theorem rdS_at (l : List S62) (i : Nat) (h : i < l.length) : rd_T62 l (i : Int) = l[i] := by
  unfold rd_T62
  simp [h]
theorem rdT_at (l : List S27) (i : Nat) (h : i < l.length) : rd_T27 l (i : Int) = l[i] := by
  unfold rd_T27
  simp [h]
theorem find_l0 (g : List S62) (hg : g.length ≤ 140737488351232) (tx : ByteArray) : ∀ (d i k : Nat), i + d = g.length → d < k → sig_Find.l0 k g tx (g.length : Int) (i : Int) = some (fndL (g.drop i) tx i) := by
  intro d
  induction d with
  | zero =>
    intro i k hi hk
    obtain ⟨k, rfl, _⟩ := k_succ hk
    simp only [sig_Find.l0]
    rw [if_neg (by omega), List.drop_eq_nil_of_le (by omega)]
    rfl
  | succ d ih =>
    intro i k hi hk
    obtain ⟨k, rfl, _⟩ := k_succ hk
    have hlt : i < g.length := by omega
    simp only [sig_Find.l0]
    rw [if_pos (by omega), if_pos (by omega), if_pos (by omega), rdS_at g i hlt, List.drop_eq_getElem_cons hlt]
    simp only [fndL]
    by_cases c : g[i].f0.toList = tx.toList
    · rw [if_pos c, if_pos c]
    · rw [if_neg c, if_neg c, wrap_nat (n := g.length) (by omega) (by omega)]
      exact ih (i + 1) k (by omega) (by omega)
theorem find_f (g : List S62) (hg : g.length ≤ 140737488351232) (tx : ByteArray) (k : Nat) (hk : g.length < k) : sig_Find.f k g tx = some (fnd g tx) := by
  unfold sig_Find.f
  have := find_l0 g hg tx g.length 0 k (by omega) hk
  simpa [fnd] using this
theorem fndL_some {g : List S62} {tx : ByteArray} {i : Nat} {j : Int} (h : fndL g tx i = (j, true)) : ∃ m : Nat, ∃ hm : m < g.length, j = ((i + m : Nat) : Int) ∧ g[m].f0.toList = tx.toList := by
  induction g generalizing i with
  | nil => simp [fndL] at h
  | cons x g ih =>
    simp only [fndL] at h
    by_cases c : x.f0.toList = tx.toList
    · rw [if_pos c] at h
      simp only [Prod.mk.injEq, and_true] at h
      exact ⟨0, by simp, by simpa using h.symm, c⟩
    · rw [if_neg c] at h
      obtain ⟨m, hm, e1, e2⟩ := ih h
      exact ⟨m + 1, by simpa using hm, by rw [e1]; congr 1; omega, by simpa using e2⟩
theorem toList_bl (s : ByteArray) : s.toList = bl s := by rw [ByteArray.toList_eq]
theorem bytes_eq {a b : ByteArray} (h : a.toList = b.toList) : a = b := by
  rw [toList_bl, toList_bl] at h
  exact bl_ext h
theorem fnd_some {g : List S62} {tx : ByteArray} {j : Int} (h : fnd g tx = (j, true)) : ∃ m : Nat, ∃ hm : m < g.length, j = (m : Int) ∧ g[m].f0 = tx := by
  obtain ⟨m, hm, e1, e2⟩ := fndL_some h
  exact ⟨m, hm, by rw [e1]; congr 1; omega, bytes_eq e2⟩
mutual
def pT : Nat → List S62 → Int → List Tk → Option (Except Int (S27 × List Tk))
  | 0, _, _, _ => none
  | _ + 1, _, e, [] => some (.error (if e = 0 then 51 else e))
  | d + 1, g, e, x :: ts => if x.1 = 2 then some (.ok (⟨x.2, 0, []⟩, ts)) else if x.1 = 1 then
      (if (fnd g x.2).2 = true then
        (match ts with
        | [] => if e = 0 then some (.ok (⟨⟨#[]⟩, (fnd g x.2).1, []⟩, [])) else some (.error e)
        | y :: ts2 => if y.1 = 3 then (pA d g e ts2 y.1 []).bind fun
            | .error er => some (.error er)
            | .ok (l, ts3) => some (.ok (⟨⟨#[]⟩, (fnd g x.2).1, l⟩, ts3))
          else some (.ok (⟨⟨#[]⟩, (fnd g x.2).1, []⟩, y :: ts2)))
      else some (.error 53))
    else some (.error 52)
def pA : Nat → List S62 → Int → List Tk → Int → List S27 → Option (Except Int (List S27 × List Tk))
  | 0, _, _, _, _, _ => none
  | d + 1, g, e, ts, kd, acc => if kd = 4 then some (.ok (acc, ts)) else (pT d g e ts).bind fun
    | .error er => some (.error er)
    | .ok (t, ts1) => match ts1 with
      | [] => some (.error (if e = 0 then 51 else e))
      | y :: ts2 => if y.1 = 4 ∨ y.1 = 5 then pA d g e ts2 y.1 (acc ++ [t]) else some (.error 52)
end
theorem pT_less_both (g : List S62) (e : Int) : ∀ d, (∀ ts t ts', pT d g e ts = some (.ok (t, ts')) → ts'.length < ts.length) ∧ (∀ ts kd acc l ts', pA d g e ts kd acc = some (.ok (l, ts')) → ts'.length ≤ ts.length) := by
  intro d
  induction d with
  | zero => exact ⟨fun ts t ts' h => by simp [pT] at h, fun ts kd acc l ts' h => by simp [pA] at h⟩
  | succ d ih =>
    constructor
    · intro ts t ts' h
      cases ts with
      | nil => simp [pT] at h
      | cons x ts =>
        simp only [pT] at h
        by_cases c2 : x.1 = 2
        · rw [if_pos c2] at h; cases h; simp
        · rw [if_neg c2] at h
          by_cases c1 : x.1 = 1
          · rw [if_pos c1] at h
            by_cases cf : (fnd g x.2).2 = true
            · rw [if_pos cf] at h
              cases ts with
              | nil =>
                dsimp only at h
                by_cases he : e = 0
                · rw [if_pos he] at h; cases h; simp
                · rw [if_neg he] at h; cases h
              | cons y ts2 =>
                dsimp only at h
                by_cases c3 : y.1 = 3
                · rw [if_pos c3] at h
                  obtain ⟨r, hr, h⟩ := Option.bind_eq_some_iff.mp h
                  rcases r with er | ⟨l, ts3⟩
                  · cases h
                  · cases h
                    have := ih.2 _ _ _ _ _ hr
                    simp only [List.length_cons]; omega
                · rw [if_neg c3] at h; cases h; simp
            · rw [if_neg cf] at h; cases h
          · rw [if_neg c1] at h; cases h
    · intro ts kd acc l ts' h
      simp only [pA] at h
      by_cases c4 : kd = 4
      · rw [if_pos c4] at h; cases h; simp
      · rw [if_neg c4] at h
        obtain ⟨r, hr, h⟩ := Option.bind_eq_some_iff.mp h
        rcases r with er | ⟨t, ts1⟩
        · cases h
        · have h1 := ih.1 _ _ _ hr
          cases ts1 with
          | nil => cases h
          | cons y ts2 =>
            dsimp only at h
            by_cases c : y.1 = 4 ∨ y.1 = 5
            · rw [if_pos c] at h
              have h2 := ih.2 _ _ _ _ _ h
              simp only [List.length_cons] at h1
              omega
            · rw [if_neg c] at h; cases h
theorem pT_less (g : List S62) (e : Int) (d : Nat) (ts : List Tk) (t : S27) (ts' : List Tk) (h : pT d g e ts = some (.ok (t, ts'))) : ts'.length < ts.length := (pT_less_both g e d).1 ts t ts' h
/-- what the reader's term answers, when the words alone answer r -/
def RelT (s : ByteArray) (e : Int) {α : Type} (r : Except Int (α × List Tk)) (r' : Except (Int × Int) (α × Int)) : Prop :=
  match r with
  | .error er => ∃ a, r' = .error (er, a)
  | .ok (t, ts') => ∃ q : Nat, r' = .ok (t, (q : Int)) ∧ q ≤ (bl s).length ∧ Lex ((bl s).drop q) ts' e
theorem rd_pT (g : List S62) (hg : g.length ≤ 140737488351232) (s : ByteArray) (hs : s.size ≤ 140737488351232) (e : Int) (N : Nat) (h1 : (bl s).length < N) (h2 : g.length < N) :
    ∀ d, (∀ p ts r, p ≤ (bl s).length → Lex ((bl s).drop p) ts e → ts.length ≤ 1000000 → pT d g e ts = some r → ∃ r', rdTerm (N + d) g s (p : Int) = some r' ∧ RelT s e r r') ∧
      (∀ p ts kd acc r, p ≤ (bl s).length → Lex ((bl s).drop p) ts e → acc.length + ts.length ≤ 1000000 → pA d g e ts kd acc = some r → ∃ r', rdArgs (N + d) g s (p : Int) kd acc = some r' ∧ RelT s e r r') := by
  intro d
  induction d with
  | zero => exact ⟨fun p ts r _ _ _ h => by simp [pT] at h, fun p ts kd acc r _ _ _ h => by simp [pA] at h⟩
  | succ d ih =>
    have hN : (bl s).length < N + d := by omega
    have hN2 : g.length < N + d := by omega
    constructor
    · intro p ts r hp hl hsz h
      rw [← Nat.add_assoc]
      simp only [rdTerm]
      cases ts with
      | nil =>
        simp only [pT, Option.some.injEq] at h
        subst h
        by_cases he : e = 0
        · subst he
          rw [rnext_nil0 s hs p _ hp hN hl, if_pos rfl]
          exact ⟨_, rfl, _, rfl⟩
        · obtain ⟨a, ha⟩ := rnext_nil s hs p _ hp hN e he hl
          rw [ha, if_neg he]
          exact ⟨_, rfl, _, rfl⟩
      | cons x ts =>
        obtain ⟨kd, tx⟩ := x
        obtain ⟨wt, q, hx, hq, hlq⟩ := rnext_cons s hs p _ hp hN kd tx ts e hl
        rw [hx, Option.bind_some]
        simp only [pT] at h
        dsimp only at h ⊢
        by_cases c2 : kd = 2
        · rw [if_pos c2] at h ⊢
          obtain rfl := Option.some.inj h
          exact ⟨_, rfl, q, rfl, hq, hlq⟩
        · rw [if_neg c2] at h ⊢
          by_cases c1 : kd = 1
          · rw [if_pos c1] at h ⊢
            rw [find_f g hg tx _ hN2, Option.bind_some]
            by_cases cf : (fnd g tx).2 = true
            · rw [if_pos cf] at h ⊢
              cases ts with
              | nil =>
                dsimp only at h
                by_cases he : e = 0
                · subst he
                  rw [if_pos rfl] at h
                  obtain rfl := Option.some.inj h
                  obtain ⟨tx2, wt2, en2, hp2⟩ := peek_nil0 s hs q _ hq hN hlq
                  rw [hp2, Option.bind_some]
                  exact ⟨_, rfl, q, rfl, hq, hlq⟩
                · rw [if_neg he] at h
                  obtain rfl := Option.some.inj h
                  obtain ⟨a, ha⟩ := peek_nil s hs q _ hq hN e he hlq
                  rw [ha, Option.bind_some]
                  exact ⟨_, rfl, _, rfl⟩
              | cons y ts2 =>
                obtain ⟨kd2, tx2⟩ := y
                obtain ⟨_, wt2, q2, hp2, _, _⟩ := peek_cons s hs q _ hq hN kd2 tx2 ts2 e hlq
                obtain ⟨wt3, q3, hx3, hq3, hlq3⟩ := rnext_cons s hs q _ hq hN kd2 tx2 ts2 e hlq
                rw [hp2, Option.bind_some]
                dsimp only at h ⊢
                by_cases c3 : kd2 = 3
                · rw [if_pos c3] at h ⊢
                  rw [hx3, Option.bind_some]
                  dsimp only
                  obtain ⟨ra, hra, h⟩ := Option.bind_eq_some_iff.mp h
                  obtain ⟨ra', hra', hrel⟩ := ih.2 q3 ts2 kd2 [] ra hq3 hlq3 (by simp only [List.length_cons, List.length_nil] at hsz ⊢; omega) hra
                  rw [hra', Option.bind_some]
                  rcases ra with er | ⟨l, ts3⟩
                  · obtain rfl := Option.some.inj h
                    obtain ⟨a, rfl⟩ := hrel
                    exact ⟨_, rfl, _, rfl⟩
                  · obtain rfl := Option.some.inj h
                    obtain ⟨q4, rfl, hq4, hl4⟩ := hrel
                    exact ⟨_, rfl, q4, rfl, hq4, hl4⟩
                · rw [if_neg c3] at h ⊢
                  obtain rfl := Option.some.inj h
                  exact ⟨_, rfl, q, rfl, hq, hlq⟩
            · rw [if_neg cf] at h ⊢
              obtain rfl := Option.some.inj h
              exact ⟨_, rfl, _, rfl⟩
          · rw [if_neg c1] at h ⊢
            obtain rfl := Option.some.inj h
            exact ⟨_, rfl, _, rfl⟩
    · intro p ts kd acc r hp hl hsz h
      rw [← Nat.add_assoc]
      simp only [rdArgs]
      simp only [pA] at h
      by_cases c4 : kd = 4
      · rw [if_pos c4] at h ⊢
        obtain rfl := Option.some.inj h
        exact ⟨_, rfl, p, rfl, hp, hl⟩
      · rw [if_neg c4] at h ⊢
        obtain ⟨rt, hrt, h⟩ := Option.bind_eq_some_iff.mp h
        obtain ⟨rt', hrt', hrel⟩ := ih.1 p ts rt hp hl (by omega) hrt
        rw [hrt', Option.bind_some]
        rcases rt with er | ⟨t, ts1⟩
        · obtain rfl := Option.some.inj h
          obtain ⟨a, rfl⟩ := hrel
          exact ⟨_, rfl, _, rfl⟩
        · obtain ⟨q1, rfl, hq1, hl1⟩ := hrel
          have hlt : ts1.length < ts.length ∨ True := .inr trivial
          dsimp only at h ⊢
          rw [if_pos (by omega)]
          cases ts1 with
          | nil =>
            obtain rfl := Option.some.inj h
            by_cases he : e = 0
            · subst he
              rw [rnext_nil0 s hs q1 _ hq1 hN hl1]
              exact ⟨_, rfl, _, rfl⟩
            · obtain ⟨a, ha⟩ := rnext_nil s hs q1 _ hq1 hN e he hl1
              rw [ha, if_neg he]
              exact ⟨_, rfl, _, rfl⟩
          | cons y ts2 =>
            obtain ⟨kd2, tx2⟩ := y
            obtain ⟨wt2, q2, hx2, hq2, hl2⟩ := rnext_cons s hs q1 _ hq1 hN kd2 tx2 ts2 e hl1
            rw [hx2, Option.bind_some]
            dsimp only at h ⊢
            by_cases c : kd2 = 4 ∨ kd2 = 5
            · rw [if_pos c] at h ⊢
              have hle := pT_less g e d ts t _ hrt
              exact ih.2 q2 ts2 kd2 (acc ++ [t]) r hq2 hl2 (by simp only [List.length_append, List.length_cons, List.length_nil] at hle ⊢; omega) h
            · rw [if_neg c] at h ⊢
              obtain rfl := Option.some.inj h
              exact ⟨_, rfl, _, rfl⟩
end Go.Proofs.Ytpepjodkahdicaa.Sw
