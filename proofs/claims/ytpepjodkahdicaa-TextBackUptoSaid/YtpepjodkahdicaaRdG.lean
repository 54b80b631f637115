/- The contract of the reader's term, whatever it reads. Conditions: none. -/
-- Written by programs of this session (wip/tools), cut to what the claim uses (wip/tools/prune.py).
import Derived.Test.YtpepjodkahdicaaRdF
namespace Go.Proofs.Ytpepjodkahdicaa.PTb
open Go.RowKit Go.Proofs.YtpepjodkahdicaaW.PrintWords Go.Proofs.YtpepjodkahdicaaW.PrintLast Go.Proofs.YtpepjodkahdicaaW.PrintMore
set_option linter.unusedVariables false
set_option linter.unusedSimpArgs false
theorem term_calls (m : Nat) : TermSpec m := by
  induction m using Nat.strongRecOn with
  | _ m ih =>
  intro b A c g s p r w0 w hS hc H0 hb0 hb h
  cases m with
  | zero => exact absurd h (by simp [rdTerm])
  | succ k =>
    simp only [rdTerm] at h
    obtain ⟨rx, hrx, h⟩ := Option.bind_eq_some_iff.mp h
    rcases rx with ⟨er, ea⟩ | ⟨⟨kd, tx, wat⟩, p1⟩
    · obtain rfl := Option.some.inj h
      exact term_next_no b A g.length c s p k er ea w hb hrx
    · obtain ⟨hn, h0⟩ := rdNext_ok hrx
      dsimp only at h
      by_cases c2 : kd = 2
      · rw [if_pos c2] at h
        obtain rfl := Option.some.inj h
        subst c2
        exact (term_var b A g.length c s p k tx wat p1 w hb hn).mono fun e w' ⟨he, hr, hg⟩ => ⟨_, he, Kd.R_nil _ _ _ _ _, hr, hg⟩
      · rw [if_neg c2] at h
        by_cases c1 : kd = 1
        · rw [if_pos c1] at h
          subst c1
          obtain ⟨⟨y1, y2⟩, hf, h⟩ := Option.bind_eq_some_iff.mp h
          dsimp only at h
          cases y2 with
          | false =>
            rw [if_neg (by simp)] at h
            obtain rfl := Option.some.inj h
            exact term_find_no b A c g s p k tx wat p1 y1 w0 w hS hc H0 hb0 hb hn hf
          | true =>
            rw [if_pos rfl] at h
            obtain ⟨ry, hry, h⟩ := Option.bind_eq_some_iff.mp h
            rcases ry with ⟨er, ea⟩ | ⟨⟨kd2, tx2, wat2⟩, en2⟩
            · obtain rfl := Option.some.inj h
              obtain ⟨kd2, tx2, wat2, h2, he⟩ := rdPeek_no hry
              exact term_peek_no b A c g s p k tx wat p1 y1 kd2 tx2 wat2 er ea w0 w hS hc H0 hb0 hb hn hf h2 he
            · have h2 := rdPeek_ok hry
              dsimp only at h
              by_cases c3 : kd2 = 3
              · rw [if_pos c3] at h
                subst c3
                obtain ⟨rz, hrz, h⟩ := Option.bind_eq_some_iff.mp h
                rcases rz with ⟨er, ea⟩ | ⟨⟨kd3, tx3, wt3⟩, p2⟩
                · obtain rfl := Option.some.inj h
                  exact term_open_no b A c g s p k tx wat p1 y1 tx2 wat2 en2 er ea w0 w hS hc H0 hb0 hb hn hf h2 hrz
                · obtain ⟨h3, h30⟩ := rdNext_ok hrz
                  obtain ⟨ra, hra, h⟩ := Option.bind_eq_some_iff.mp h
                  have hr : r = argsTo y1 ra := by
                    rcases ra with e | ⟨l, q⟩
                    · exact (Option.some.inj h).symm
                    · exact (Option.some.inj h).symm
                  rw [hr]
                  exact term_loop b A c g s p k tx wat p1 y1 (fun m hm => ih m (by omega)) tx2 wat2 en2 kd3 tx3 wt3 p2 ra w0 w hS hc H0 hb0 hb hn hf h2 h3 h30 hra
              · rw [if_neg c3] at h
                obtain rfl := Option.some.inj h
                exact (term_leaf b A c g s p k tx wat p1 y1 kd2 tx2 wat2 en2 w0 w hS hc H0 hb0 hb hn hf h2 c3).mono fun e w' ⟨he, hr, hg⟩ => ⟨_, he, Kd.R_nil _ _ _ _ _, hr, hg⟩
        · rw [if_neg c1] at h
          obtain rfl := Option.some.inj h
          exact term_kind_no b A g.length c s p k kd tx wat p1 w hb hn h0 c2 c1
end Go.Proofs.Ytpepjodkahdicaa.PTb
