/-
  What text.Term answers of a text, by its words. Conditions: the sizes that a reading has.
-/
-- Written by programs of this session (wip/tools), cut to what the claim uses (wip/tools/prune.py).
import Derived.Test.YtpepjodkahdicaaEnd
import Derived.Test.YtpepjodkahdicaaPTbx4
import Derived.Test.YtpepjodkahdicaaPTbx2
namespace Go.Proofs.Ytpepjodkahdicaa.Sw
open Go.RowKit Go.Proofs.YtpepjodkahdicaaW.PrintWords Go.Proofs.Ytpepjodkahdicaa.PTb
/-- what Term makes of what its words answer -/
noncomputable def resT (g : List S62) (e : Int) : Except Int (Tr × List Tk) → Except Int Tr
  | .error er => .error er
  | .ok (t, []) => if e = 0 then (if ckV g t = 0 then .ok t else .error (ckV g t)) else .error e
  | .ok (_, _ :: _) => .error 54
def outT (a : Int) : Except Int Tr → ByteArray × Int × List Tr × Int × Int
  | .error er => ((⟨#[]⟩ : ByteArray), 0, [], er, a)
  | .ok t => (t.f0, t.f1, t.f2, 0, 0)
def howT (a : Int) : Except Int Tr → Except (Int × Int) Tr
  | .error er => .error (er, a)
  | .ok t => .ok t
theorem how_f (g : List S62) (hg : g.length ≤ 140737488351232) (s : ByteArray) (hs : s.size ≤ 1000000) (ts : List Tk) (e : Int) (hl : Lex (bl s) ts e) (d : Nat) (r : Except Int (Tr × List Tk)) (hr : pT d g e ts = some r) :
    ∃ k a, termHow k g s = some (howT a (resT g e r)) := by
  have hlen := bl_len s
  have hts := lex_len hl
  obtain ⟨r', hr', hrel⟩ := (rd_pT g hg s (by omega) e ((bl s).length + g.length + 1) (by omega) (by omega) d).1 0 ts r (by omega) hl (by omega) hr
  have hT : ∀ k, (bl s).length + g.length + 1 + d ≤ k → rdTerm k g s 0 = some r' := fun k hk => at_rounds (fun k => rdTerm.mono g s 0 k) hk hr'
  rcases r with er | ⟨t, ts'⟩
  · obtain ⟨a, rfl⟩ := hrel
    refine ⟨(bl s).length + g.length + 1 + d, a, ?_⟩
    unfold termHow
    rw [hT _ (Nat.le_refl _)]
    rfl
  · obtain ⟨q, rfl, hq, hlq⟩ := hrel
    cases ts' with
    | cons y ts2 =>
      obtain ⟨kd, tx⟩ := y
      obtain ⟨hk0, wt, q2, hp, _, _⟩ := peek_cons s (by omega) q ((bl s).length + g.length + 1 + d) hq (by omega) kd tx ts2 e hlq
      refine ⟨(bl s).length + g.length + 1 + d, wt, ?_⟩
      unfold termHow
      rw [hT _ (Nat.le_refl _), Option.bind_some]
      dsimp only
      rw [hp, Option.bind_some]
      dsimp only
      rw [if_neg hk0]
      rfl
    | nil =>
      by_cases he : e = 0
      · subst he
        obtain ⟨K, hK⟩ := may_one g t
        obtain ⟨tx, wt, en, hp⟩ := peek_nil0 s (by omega) q ((bl s).length + g.length + 1 + d + K) hq (by omega) hlq
        refine ⟨(bl s).length + g.length + 1 + d + K, 0, ?_⟩
        unfold termHow
        rw [hT _ (by omega), Option.bind_some]
        dsimp only
        rw [hp, Option.bind_some]
        dsimp only
        rw [if_pos rfl, hK _ (by omega)]
        by_cases c : ckV g t = 0
        · rw [if_pos c]
          simp [resT, howT, c]
        · rw [if_neg c]
          simp [resT, howT, c]
      · obtain ⟨a, hp⟩ := peek_nil s (by omega) q ((bl s).length + g.length + 1 + d) hq (by omega) e he hlq
        refine ⟨(bl s).length + g.length + 1 + d, a, ?_⟩
        unfold termHow
        rw [hT _ (Nat.le_refl _), Option.bind_some]
        dsimp only
        rw [hp, Option.bind_some]
        simp [resT, howT, he]
theorem term_f (g : List S62) (hg : g.length ≤ 140737488351232) (s : ByteArray) (hs : s.size ≤ 800) (ts : List Tk) (e : Int) (hl : Lex (bl s) ts e) (d : Nat) (r : Except Int (Tr × List Tk)) (hr : pT d g e ts = some r) :
    ∃ K a, ∀ k, K ≤ k → text_Term.f k g s = some (outT a (resT g e r)) := by
  obtain ⟨K, a, h⟩ := how_f g hg s (by omega) ts e hl d r hr
  refine ⟨K, a, fun k hk => ?_⟩
  unfold text_Term.f rdTermF
  rw [if_pos hs, at_rounds (fun k => termHow.mono g s k) hk h, Option.bind_some]
  cases resT g e r <;> rfl
theorem head_60 : amalgamlaw05_head.f 60 = some true := amalgamlaw05_head.at60
theorem head_true (k : Nat) (hk : 60 ≤ k) : amalgamlaw05_head.f k = some true := at_rounds (fun k => amalgamlaw05_head.mono k) hk head_60
end Go.Proofs.Ytpepjodkahdicaa.Sw
