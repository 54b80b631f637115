/-
  The plain law of TextAgain: what is read, shown and read again stays the same; what is shown has no blanks and is no longer than the text. Conditions: the sizes that a reading has.
-/
import Derived.Test.YtpepjodkahdicaaPureText
import Derived.Test.YtpepjodkahdicaaPTxx6
namespace Go.Proofs.Ytpepjodkahdicaa.Sw
open Go.RowKit Go.Proofs.YtpepjodkahdicaaW.PrintWords Go.Proofs.Ytpepjodkahdicaa.PTx
theorem pT_err (g : List S62) (e : Int) : ∀ d, (∀ ts er, pT d g e ts = some (.error er) → er ≠ 0) ∧ (∀ ts kd acc er, pA d g e ts kd acc = some (.error er) → er ≠ 0) := by
  have h51 : (if e = 0 then (51 : Int) else e) ≠ 0 := by
    by_cases h : e = 0
    · rw [if_pos h]; decide
    · rw [if_neg h]; exact h
  intro d
  induction d with
  | zero => exact ⟨fun ts er h => by simp [pT] at h, fun ts kd acc er h => by simp [pA] at h⟩
  | succ d ih =>
    constructor
    · intro ts er h
      cases ts with
      | nil => simp only [pT] at h; cases h; exact h51
      | cons x ts =>
        simp only [pT] at h
        by_cases c2 : x.1 = 2
        · rw [if_pos c2] at h; cases h
        · rw [if_neg c2] at h
          by_cases c1 : x.1 = 1
          · rw [if_pos c1] at h
            by_cases cf : (fnd g x.2).2 = true
            · rw [if_pos cf] at h
              cases ts with
              | nil =>
                dsimp only at h
                by_cases he : e = 0
                · rw [if_pos he] at h; cases h
                · rw [if_neg he] at h; cases h; exact he
              | cons y ts2 =>
                dsimp only at h
                by_cases c3 : y.1 = 3
                · rw [if_pos c3] at h
                  obtain ⟨r, hr, h⟩ := Option.bind_eq_some_iff.mp h
                  rcases r with er2 | ⟨l, ts3⟩
                  · cases h; exact ih.2 _ _ _ _ hr
                  · cases h
                · rw [if_neg c3] at h; cases h
            · rw [if_neg cf] at h; cases h; decide
          · rw [if_neg c1] at h; cases h; decide
    · intro ts kd acc er h
      simp only [pA] at h
      by_cases c4 : kd = 4
      · rw [if_pos c4] at h; cases h
      · rw [if_neg c4] at h
        obtain ⟨r, hr, h⟩ := Option.bind_eq_some_iff.mp h
        rcases r with er2 | ⟨t, ts1⟩
        · cases h; exact ih.1 _ _ hr
        · cases ts1 with
          | nil => cases h; exact h51
          | cons y ts2 =>
            dsimp only at h
            by_cases c : y.1 = 4 ∨ y.1 = 5
            · rw [if_pos c] at h; exact ih.2 _ _ _ _ h
            · rw [if_neg c] at h; cases h; decide
theorem resT_err (g : List S62) (e : Int) (d : Nat) (ts : List Tk) (r : Except Int (Tr × List Tk)) (hr : pT d g e ts = some r) (er : Int) (h : resT g e r = .error er) : er ≠ 0 := by
  rcases r with er2 | ⟨t, ts'⟩
  · cases h; exact (pT_err g e d).1 _ _ hr
  · cases ts' with
    | cons y ts2 => cases h; decide
    | nil =>
      simp only [resT] at h
      by_cases he : e = 0
      · rw [if_pos he] at h
        by_cases hc : ckV g t = 0
        · rw [if_pos hc] at h; cases h
        · rw [if_neg hc] at h; cases h; exact hc
      · rw [if_neg he] at h; cases h; exact he
theorem resT_ok (g : List S62) (e : Int) (r : Except Int (Tr × List Tk)) (t : Tr) (h : resT g e r = .ok t) : r = .ok (t, []) ∧ e = 0 := by
  rcases r with er2 | ⟨t', ts'⟩
  · cases h
  · cases ts' with
    | cons y ts2 => cases h
    | nil =>
      simp only [resT] at h
      by_cases he : e = 0
      · rw [if_pos he] at h
        by_cases hc : ckV g t' = 0
        · rw [if_pos hc] at h; cases h; exact ⟨rfl, he⟩
        · rw [if_neg hc] at h; cases h
      · rw [if_neg he] at h; cases h
theorem again_l0 (g : List S62) (l x : ByteArray) (hx : x.size ≤ 140737488351232) (h32 : (32 : UInt8) ∉ bl x) (a b : ByteArray) (i j : Int) (m n : List Tr) : ∀ (d p k : Nat), p + d = (bl x).length → d < k →
    amalgamlaw05_TextAgain.l0 k g l x 0 (p : Int) a i m b j n = amalgamlaw05_TextAgain.l0 (k - d) g l x 0 (x.size : Int) a i m b j n := by
  have hlen := bl_len x
  intro d
  induction d with
  | zero =>
    intro p k hp hk
    have : (p : Int) = (x.size : Int) := by omega
    rw [this, Nat.sub_zero]
  | succ d ih =>
    intro p k hp hk
    obtain ⟨k, rfl, _⟩ := k_succ hk
    have hlt : p < (bl x).length := by omega
    conv => lhs; rw [amalgamlaw05_TextAgain.l0]
    have hne : ¬ bt x p = 32 := by
      rw [bt_bl x p hlt]
      intro h
      have h2 : (bl x)[p] = 32 := (u8_eq (bl x)[p] 32 (by omega)).1 h
      exact h32 (h2 ▸ List.getElem_mem hlt)
    rw [if_pos (by omega), if_pos (by omega), if_neg hne, wrap_nat (n := x.size) (by omega) (by omega), ih (p + 1) k (by omega) (by omega)]
    congr 1
    omega
theorem TextAgain (g : List S62) (l : ByteArray) (hg : g.length ≤ 140737488351232) : ∃ k, amalgamlaw05_TextAgain.f k g l = some true := by
  have hlen := bl_len l
  by_cases hs : l.size ≤ 800
  · obtain ⟨ts, e, hL⟩ := lex_ex _ (bl l) (Nat.le_refl _)
    have hts := lex_len hL
    have hfl := lex_flat hL
    obtain ⟨r, hr, _⟩ := (pT_ex g e (2 * ts.length + 2)).1 ts (by omega)
    obtain ⟨K1, a, h1⟩ := term_f g hg l hs ts e hL _ r hr
    cases hres : resT g e r with
    | error er =>
      have hne := resT_err g e _ ts r hr er hres
      rw [hres] at h1
      refine ⟨max K1 60 + 1, ?_⟩
      unfold amalgamlaw05_TextAgain.f
      rw [head_true _ (by omega), Option.bind_some, h1 _ (by omega), Option.bind_some, if_pos rfl]
      rw [amalgamlaw05_TextAgain.j0, if_pos (by simpa [outT] using hne)]
    | ok t =>
      rw [hres] at h1
      obtain ⟨rfl, rfl⟩ := resT_ok g e r t hres
      obtain ⟨n, ts0, hts0, hsh⟩ := (pT_sh g 0 _).1 ts t [] (lex_VT hL) hr
      rw [List.append_nil] at hts0
      subst hts0
      obtain ⟨K2, h2⟩ := (show_sh g n).1 t ts hsh (by omega) (by omega)
      obtain ⟨K3, h3⟩ := (exact_sh g n).1 t ts hsh (by omega)
      have hW : Lex (bl (⟨(flat ts).toArray⟩ : ByteArray)) ts 0 := by
        have := (sh_lex g n).1 t ts [] [] 0 hsh (.inl rfl) (.stop [] rfl)
        simpa using this
      have hsz : (⟨(flat ts).toArray⟩ : ByteArray).size = (flat ts).length := mk_size _
      obtain ⟨K4, b, h4⟩ := term_f g hg ⟨(flat ts).toArray⟩ (by omega) ts 0 hW _ (.ok (t, [])) hr
      rw [hres] at h4
      have h32 := (sh_blank g n).1 t ts hsh
      refine ⟨(max K1 (max K2 (max K3 (max K4 60)))) + (flat ts).length + 2, ?_⟩
      unfold amalgamlaw05_TextAgain.f
      rw [head_true _ (by omega), Option.bind_some, h1 _ (by omega), Option.bind_some, if_pos rfl]
      rw [amalgamlaw05_TextAgain.j0, if_neg (by simp [outT])]
      simp only [outT]
      rw [h2 _ (by omega), Option.bind_some, h4 _ (by omega), Option.bind_some]
      simp only [outT]
      have hloop := again_l0 g l ⟨(flat ts).toArray⟩ (by omega) h32 t.f0 t.f0 t.f1 t.f1 t.f2 t.f2 (flat ts).length 0 ((max K1 (max K2 (max K3 (max K4 60)))) + (flat ts).length + 1) (by simp) (by omega)
      rw [show ((0 : Nat) : Int) = 0 from rfl] at hloop
      rw [hloop]
      obtain ⟨k2, hk2, hk2'⟩ := k_succ (show max K1 (max K2 (max K3 (max K4 60))) < (max K1 (max K2 (max K3 (max K4 60)))) + (flat ts).length + 1 - (flat ts).length by omega)
      rw [hk2, amalgamlaw05_TextAgain.l0, if_neg (by omega), if_pos rfl, h3 _ (by omega), Option.bind_some, if_pos rfl, h2 _ (by omega), Option.bind_some, if_pos rfl, hsz]
      simp
      omega
  · have h1 : ∀ k, text_Term.f k g l = some ((⟨#[]⟩ : ByteArray), 0, [], 55, 0) := fun k => by
      unfold text_Term.f rdTermF
      rw [if_neg hs]
    refine ⟨62, ?_⟩
    unfold amalgamlaw05_TextAgain.f
    rw [head_true _ (by omega), Option.bind_some, h1, Option.bind_some, if_pos rfl]
    rw [amalgamlaw05_TextAgain.j0, if_pos (by decide)]
end Go.Proofs.Ytpepjodkahdicaa.Sw
