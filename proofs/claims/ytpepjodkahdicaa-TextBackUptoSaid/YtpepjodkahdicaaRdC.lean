/- The contracts of the reader's want and rest: what each returns, or gives up with. Conditions: none. -/
-- Written by programs of this session (wip/tools), cut to what the claim uses (wip/tools/prune.py).
import Derived.Test.YtpepjodkahdicaaRdB
namespace Go.Proofs.Ytpepjodkahdicaa.PTb
open Go.RowKit Go.Proofs.YtpepjodkahdicaaW.PrintWords Go.Proofs.YtpepjodkahdicaaW.PrintLast Go.Proofs.YtpepjodkahdicaaW.PrintMore
set_option linter.unusedVariables false
set_option linter.unusedSimpArgs false
set_option maxHeartbeats 1000000 in
theorem rest_ok (b : Nat) (A : Option Addr) (n c : Nat) (s : ByteArray) (p : Int) (k : Nat) (tx : ByteArray) (wat en : Int) (w : World) (hb : RB w b A n c s p) (h : words_Next.f k s p = some (0, tx, wat, en, 0)) :
    Calls Try.prog 22 #[.pointer (some ⟨b, 0, none⟩)] w fun e w' => e = .returned (.tuple #[]) ∧ Below w.heap.size w w' := by
  have HN := fun W (q : RB W b A n c s p) => Aside0.mk (peek_ok b A n c s p k 0 tx wat en W q h)
  have HRB := Aside0.mk hb
  clear h hb
  go_enter Try.func22, Try.ntmps22
  go_wp2_with (first | (go_at_call 34; refine (HN _ HRB.out).out.mono ?_; rintro e w2 ⟨rfl, hb2⟩; have HB2 := Aside0.mk hb2; clear hb2) | (go_at_call 35; refine (need_ok _ _ _).mono ?_; rintro e w5 ⟨rfl, rfl⟩))
  go_end0
  exact ⟨rfl, below_alloc HB2.out _⟩
set_option maxHeartbeats 1000000 in
theorem rest_bad (b : Nat) (A : Option Addr) (n c : Nat) (s : ByteArray) (p : Int) (k : Nat) (kd : Int) (tx : ByteArray) (wat en : Int) (w : World) (hb : RB w b A n c s p) (h : words_Next.f k s p = some (kd, tx, wat, en, 0)) (h0 : ¬ kd = 0) :
    Calls Try.prog 22 #[.pointer (some ⟨b, 0, none⟩)] w fun e w' => e = gaveUp 54 wat ∧ Below w.heap.size w w' := by
  have HN := fun W (q : RB W b A n c s p) => Aside0.mk (peek_ok b A n c s p k kd tx wat en W q h)
  have h0b : (kd == 0) = false := beq_eq_false_iff_ne.mpr h0
  clear h0
  have HRB := Aside0.mk hb
  clear h hb
  go_enter Try.func22, Try.ntmps22
  go_wp2_with (first | (go_at_call 34; refine (HN _ HRB.out).out.mono ?_; rintro e w2 ⟨rfl, hb2⟩; have HB2 := Aside0.mk hb2; clear hb2) | (go_at_call 35; refine (need_no _ _ _).mono ?_; rintro e w5 ⟨rfl, rfl⟩))
  exact ⟨rfl, rfl, below_alloc HB2.out _⟩
set_option maxHeartbeats 1000000 in
theorem rest_no (b : Nat) (A : Option Addr) (n c : Nat) (s : ByteArray) (p : Int) (k : Nat) (kd : Int) (tx : ByteArray) (wat en er : Int) (w : World) (hb : RB w b A n c s p) (h : words_Next.f k s p = some (kd, tx, wat, en, er)) (he : ¬ er = 0) :
    Calls Try.prog 22 #[.pointer (some ⟨b, 0, none⟩)] w fun e w' => e = gaveUp er en ∧ Below w.heap.size w w' := by
  have HN := fun W (q : RB W b A n c s p) => Aside0.mk (peek_no b A n c s p k kd tx wat en er W q h he)
  have HRB := Aside0.mk hb
  clear h hb he
  go_enter Try.func22, Try.ntmps22
  go_wp2_with (go_at_call 34; refine (HN _ HRB.out).out.mono ?_; rintro e w2 ⟨rfl, hb2⟩; have HB2 := Aside0.mk hb2; clear hb2)
  exact ⟨rfl, rfl, HB2.out⟩
set_option maxHeartbeats 1000000 in
theorem want_ok (b : Nat) (A : Option Addr) (n c : Nat) (s : ByteArray) (p : Int) (k : Nat) (kd : Int) (tx : ByteArray) (wat en : Int) (w : World) (hb : RB w b A n c s p) (h : words_Next.f k s p = some (kd, tx, wat, en, 0)) (h0 : ¬ kd = 0) :
    Calls Try.prog 29 #[.pointer (some ⟨b, 0, none⟩), .int .i64 kd] w fun e w' => e = .returned (.string tx) ∧ RB w' b A n c s en ∧ w.grownBy w' (some b) := by
  have HN := fun W (q : RB W b A n c s p) => Aside0.mk (next_ok b A n c s p k kd tx wat en W q h h0)
  have HRB := Aside0.mk hb
  clear h hb h0
  go_enter Try.func29, Try.ntmps29
  go_wp2_with (first | (go_at_call 36; refine (HN _ HRB.out).out.mono ?_; rintro e w2 ⟨rfl, hr2, hg2⟩; have HR2 := Aside0.mk hr2; have HG2 := Aside0.mk hg2; clear hr2 hg2) | (go_at_call 35; refine (need_ok _ _ _).mono ?_; rintro e w5 ⟨rfl, rfl⟩))
  go_ret
  exact ⟨rfl, HR2.out.below (below_alloc (Below.refl _ _) _), grown_alloc HG2.out _⟩
set_option maxHeartbeats 1000000 in
theorem next_gives (b : Nat) (A : Option Addr) (n c : Nat) (s : ByteArray) (p : Int) (k : Nat) (er a : Int) (w : World) (hb : RB w b A n c s p) (h : rdNext k s p = some (.error (er, a))) :
    Calls Try.prog 36 #[.pointer (some ⟨b, 0, none⟩)] w fun e w' => e = gaveUp er a ∧ w.grownBy w' (some b) := by
  rcases rdNext_no h with ⟨kd, tx, wat, h1, he⟩ | ⟨tx, wat, en, h1, rfl, rfl⟩
  · exact next_no b A n c s p k kd tx wat a er w hb h1 he
  · exact next_end b A n c s p k tx wat en w hb h1
end Go.Proofs.Ytpepjodkahdicaa.PTb
