/- The contract of the reader's term: every way but the loop's; its plain function. Conditions: none. -/
-- Written by programs of this session (wip/tools), cut to what the claim uses (wip/tools/prune.py).
import Derived.Test.YtpepjodkahdicaaRdC
namespace Go.Proofs.Ytpepjodkahdicaa.PTb
open Go.RowKit Go.Proofs.YtpepjodkahdicaaW.PrintWords Go.Proofs.YtpepjodkahdicaaW.PrintLast Go.Proofs.YtpepjodkahdicaaW.PrintMore
set_option linter.unusedVariables false
set_option linter.unusedSimpArgs false
mutual
/-- what term answers -/
def rdTerm : Nat → List S62 → ByteArray → Int → Option (Except (Int × Int) (S27 × Int))
  | 0, _, _, _ => none
  | k + 1, g, s, p => (rdNext k s p).bind fun
    | .error e => some (.error e)
    | .ok (x, p1) => if x.1 = 2 then some (.ok (⟨x.2.1, 0, []⟩, p1)) else if x.1 = 1 then
        (sig_Find.f k g x.2.1).bind fun y => if y.2 = true then
          (rdPeek k s p1).bind fun
            | .error e => some (.error e)
            | .ok (x2, _) => if x2.1 = 3 then
                (rdNext k s p1).bind fun
                  | .error e => some (.error e)
                  | .ok (x3, p2) => (rdArgs k g s p2 x3.1 []).bind fun
                      | .error e => some (.error e)
                      | .ok (l, p3) => some (.ok (⟨⟨#[]⟩, y.1, l⟩, p3))
              else some (.ok (⟨⟨#[]⟩, y.1, []⟩, p1))
        else some (.error (53, x.2.2))
      else some (.error (52, x.2.2))
/-- the arguments, up to the bracket that closes them -/
def rdArgs : Nat → List S62 → ByteArray → Int → Int → List S27 → Option (Except (Int × Int) (List S27 × Int))
  | 0, _, _, _, _, _ => none
  | k + 1, g, s, p, kd, acc => if kd = 4 then some (.ok (acc, p)) else (rdTerm k g s p).bind fun
    | .error e => some (.error e)
    | .ok (t, p1) => if acc.length < 2932031007402 then (rdNext k s p1).bind fun
        | .error e => some (.error e)
        | .ok (x, p2) => if x.1 = 4 ∨ x.1 = 5 then rdArgs k g s p2 x.1 (acc ++ [t]) else some (.error (52, x.2.2))
      else none
end
/-- what is known behind term -/
def TermPost (b : Nat) (A : Option Addr) (n c : Nat) (s : ByteArray) (w : World) (r : Except (Int × Int) (S27 × Int)) (e : Ending) (w' : World) : Prop :=
  match r with
  | .error x => e = gaveUp x.1 x.2 ∧ w.grownBy w' (some b)
  | .ok (t, q) => ∃ v, e = .returned (.agg #[.string t.f0, .int .i64 t.f1, v]) ∧ Kd.R k27 27 w' w.heap.size (fun _ => True) v t.f2 ∧ RB w' b A n c s q ∧ w.grownBy w' (some b)
set_option maxHeartbeats 1000000 in
theorem term_next_no (b : Nat) (A : Option Addr) (n c : Nat) (s : ByteArray) (p : Int) (k : Nat) (er a : Int) (w : World) (hb : RB w b A n c s p) (h : rdNext k s p = some (.error (er, a))) :
    Calls Try.prog 21 #[.pointer (some ⟨b, 0, none⟩)] w fun e w' => e = gaveUp er a ∧ w.grownBy w' (some b) := by
  have HN := fun W (q : RB W b A n c s p) => Aside0.mk (next_gives b A n c s p k er a W q h)
  have HRB := Aside0.mk hb
  clear h hb
  go_enter Try.func21, Try.ntmps21
  go_wp2_with (first | ((with_reducible refine gate_dst (N := 2) rfl ?_); refine box_event ?hg (N := 2) ?hd (cs := #[.string (⟨#[]⟩ : ByteArray), .int .i64 0, .slice none 0 0]) (t := 27) ?hr ?_; (case hd => rfl); (case hg => rfl); (case hr => first | (go_simp; done) | (go_simp; rfl)); intro g2 hg_g2 w1 hbox_g2 hb_g2; have HG_g2 := Aside0.mk hg_g2; have HX_g2 := Aside0.mk hbox_g2; have HB_g2 := Aside0.mk hb_g2; clear hg_g2 hbox_g2 hb_g2) | ((with_reducible refine gate_dst (N := 11) rfl ?_); refine panicsL_ (some 11) rfl rfl Try.func36 (by kernel_rfl) rfl #[.pointer (some ⟨b, 0, none⟩)] rfl (by (try simp only [List.map_toArray, List.map_cons, List.map_nil]); first | done | rfl) ?_; refine ((HN _ (HRB.out.below HB_g2.out)).out).mono ?_; rintro e w2 ⟨rfl, HG_w2⟩; refine ⟨_, rfl, ?_⟩))
  exact ⟨rfl, rfl, grown_grown (grown_of_below' HB_g2.out _) HG_w2⟩
set_option maxHeartbeats 1000000 in
theorem term_var (b : Nat) (A : Option Addr) (n c : Nat) (s : ByteArray) (p : Int) (k : Nat) (tx : ByteArray) (wat p1 : Int) (w : World) (hb : RB w b A n c s p) (hn : words_Next.f k s p = some (2, tx, wat, p1, 0)) :
    Calls Try.prog 21 #[.pointer (some ⟨b, 0, none⟩)] w fun e w' => e = .returned (.agg #[.string tx, .int .i64 0, .slice none 0 0]) ∧ RB w' b A n c s p1 ∧ w.grownBy w' (some b) := by
  have HN := fun W (q : RB W b A n c s p) => Aside0.mk (next_ok b A n c s p k 2 tx wat p1 W q hn (by decide))
  have HRB := Aside0.mk hb
  clear hn hb
  go_enter Try.func21, Try.ntmps21
  go_wp2_with (first | ((with_reducible refine gate_dst (N := 2) rfl ?_); refine box_event ?hg (N := 2) ?hd (cs := #[.string (⟨#[]⟩ : ByteArray), .int .i64 0, .slice none 0 0]) (t := 27) ?hr ?_; (case hd => rfl); (case hg => rfl); (case hr => first | (go_simp; done) | (go_simp; rfl)); intro g2 hg_g2 w1 hbox_g2 hb_g2; have HG_g2 := Aside0.mk hg_g2; have HX_g2 := Aside0.mk hbox_g2; have HB_g2 := Aside0.mk hb_g2; clear hg_g2 hbox_g2 hb_g2) | ((with_reducible refine gate_dst (N := 11) rfl ?_); refine goesL_ (some 11) rfl rfl Try.func36 (by kernel_rfl) rfl #[.pointer (some ⟨b, 0, none⟩)] rfl (by (try simp only [List.map_toArray, List.map_cons, List.map_nil]); first | done | rfl) ?_; refine ((HN _ (HRB.out.below HB_g2.out)).out).mono ?_; rintro e w2 ⟨rfl, hr2, hg2⟩; refine ⟨_, rfl, ?_⟩; have HR_w2 := Aside0.mk hr2; have HG_w2 := Aside0.mk hg2; clear hr2 hg2; have LE := Aside0.mk (And.intro (show w.heap.size ≤ g2 by have := HG_g2.out; omega) (show g2 ≠ b by have := HG_g2.out; have := blk_lt HRB.out; omega)); have BK2 := Aside0.mk (blk_grown HX_g2.out HG_w2.out (fun e => LE.out.2 (Option.some.inj e))); have zq0 : w2.cell? ⟨g2, 0, none⟩ = some (.string (⟨#[]⟩ : ByteArray)) := (blk_cell BK2.out 0).trans rfl; have zf0 : w2.frozen? ⟨g2, 0, none⟩ = false := blk_frozen BK2.out 0; have zq1 : w2.cell? ⟨g2, 1, none⟩ = some (.int .i64 0) := (blk_cell BK2.out 1).trans rfl; have zf1 : w2.frozen? ⟨g2, 1, none⟩ = false := blk_frozen BK2.out 1; have zq2 : w2.cell? ⟨g2, 2, none⟩ = some (.slice none 0 0) := (blk_cell BK2.out 2).trans rfl; have zf2 : w2.frozen? ⟨g2, 2, none⟩ = false := blk_frozen BK2.out 2; have hl2 : g2 < w2.heap.size := blk_lt BK2.out; have hn2 : ¬ g2 = w2.heap.size := (by omega); have hn3 : ¬ w2.heap.size = g2 := (by omega)))
  refine bodyPost_ret (v := .agg #[.string tx, .int .i64 0, .slice none 0 0]) (by simp [results, Try.results21, go_sem, *]) rfl ⟨rfl, ?_, ?_⟩
  · unfold RB
    repeat (first | exact HR_w2.out | refine blk_alloc ?_ _ | refine blk_drew ?_ | refine blk_drewN ?_ _ | refine blk_far ?_ (Ne.symm LE.out.2) _)
  · repeat (first | exact (grown_grown (grown_of_below' HB_g2.out _) HG_w2.out) | refine grown_alloc ?_ _ | refine grown_drew ?_ | refine grown_below ?_ (pw_below_drewN (Below.refl _ _) _) | refine grown_set ?_ (.inr LE.out.1) _)
set_option maxHeartbeats 1000000 in
theorem term_kind_no (b : Nat) (A : Option Addr) (n c : Nat) (s : ByteArray) (p : Int) (k : Nat) (kd : Int) (tx : ByteArray) (wat p1 : Int) (w : World) (hb : RB w b A n c s p) (hn : words_Next.f k s p = some (kd, tx, wat, p1, 0)) (h0 : ¬ kd = 0) (h1 : ¬ kd = 2) (h2 : ¬ kd = 1) :
    Calls Try.prog 21 #[.pointer (some ⟨b, 0, none⟩)] w fun e w' => e = gaveUp 52 wat ∧ w.grownBy w' (some b) := by
  have HN := fun W (q : RB W b A n c s p) => Aside0.mk (next_ok b A n c s p k kd tx wat p1 W q hn h0)
  have HRB := Aside0.mk hb
  have h1b : (kd == 2) = false := beq_eq_false_iff_ne.mpr h1
  have h2b : (kd == 1) = false := beq_eq_false_iff_ne.mpr h2
  clear hn hb h0 h1 h2
  go_enter Try.func21, Try.ntmps21
  go_wp2_with (first | ((with_reducible refine gate_dst (N := 2) rfl ?_); refine box_event ?hg (N := 2) ?hd (cs := #[.string (⟨#[]⟩ : ByteArray), .int .i64 0, .slice none 0 0]) (t := 27) ?hr ?_; (case hd => rfl); (case hg => rfl); (case hr => first | (go_simp; done) | (go_simp; rfl)); intro g2 hg_g2 w1 hbox_g2 hb_g2; have HG_g2 := Aside0.mk hg_g2; have HX_g2 := Aside0.mk hbox_g2; have HB_g2 := Aside0.mk hb_g2; clear hg_g2 hbox_g2 hb_g2) | ((with_reducible refine gate_dst (N := 11) rfl ?_); refine goesL_ (some 11) rfl rfl Try.func36 (by kernel_rfl) rfl #[.pointer (some ⟨b, 0, none⟩)] rfl (by (try simp only [List.map_toArray, List.map_cons, List.map_nil]); first | done | rfl) ?_; refine ((HN _ (HRB.out.below HB_g2.out)).out).mono ?_; rintro e w2 ⟨rfl, hr2, hg2⟩; refine ⟨_, rfl, ?_⟩; have HR_w2 := Aside0.mk hr2; have HG_w2 := Aside0.mk hg2; clear hr2 hg2) | (go_at_call 35; refine (need_no _ _ _).mono ?_; rintro e w5 ⟨rfl, rfl⟩))
  exact ⟨rfl, rfl, grown_alloc (grown_grown (grown_of_below' HB_g2.out _) HG_w2.out) _⟩
end Go.Proofs.Ytpepjodkahdicaa.PTb
