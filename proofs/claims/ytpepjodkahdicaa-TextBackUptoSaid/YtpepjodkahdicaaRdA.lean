/- The contracts of the small methods of the text's reader (need, peek, next, want, rest): what each returns, or gives up with. Conditions: none. -/
-- Written by programs of this session (wip/tools), cut to what the claim uses (wip/tools/prune.py).
import Derived.Test.YtpepjodkahdicaaPTbx16
import Derived.Recover
import Derived.WalkSmall
namespace Go.Proofs.Ytpepjodkahdicaa.PTb
open Go.RowKit Go.Proofs.YtpepjodkahdicaaW.PrintWords Go.Proofs.YtpepjodkahdicaaW.PrintLast Go.Proofs.YtpepjodkahdicaaW.PrintMore
set_option linter.unusedVariables false
set_option linter.unusedSimpArgs false
theorem bcell {W w1 : World} (hb : Below W.heap.size W w1) : (∀ b o, b < W.heap.size → w1.cell? ⟨b, o, none⟩ = W.cell? ⟨b, o, none⟩) ∧ (∀ b o, b < W.heap.size → w1.frozen? ⟨b, o, none⟩ = W.frozen? ⟨b, o, none⟩) :=
  ⟨fun b o h => hb.cell (p := ⟨b, o, none⟩) h, fun b o h => hb.frozen (p := ⟨b, o, none⟩) h⟩
theorem hold_world {G : World → Prop} {W : World} (F : World → Prop) (hF : F W) (h : ∀ W', F W' → G W') : G W := h W hF
/-- what a reader gives up with -/
abbrev gaveUp (e a : Int) : Ending := .panicked [{ v := .iface 76 (.agg #[.int .i64 e, .int .i64 a]), recovered := false }]
theorem need_ok (e a : Int) (w : World) : Calls Try.prog 35 #[.bool true, .int .i64 e, .int .i64 a] w fun x w' => x = .returned (.tuple #[]) ∧ w = w' := by
  go_enter Try.func35, Try.ntmps35
  go_wp2
  go_end0
  exact ⟨rfl, rfl⟩
theorem need_no (e a : Int) (w : World) : Calls Try.prog 35 #[.bool false, .int .i64 e, .int .i64 a] w fun x w' => x = gaveUp e a ∧ w = w' := by
  go_enter Try.func35, Try.ntmps35
  go_wp2
  exact ⟨rfl, rfl, rfl⟩
/-- the block of the reader -/
def RB (w : World) (b : Nat) (A : Option Addr) (n c : Nat) (s : ByteArray) (p : Int) : Prop := w.heap[b]? = some (.cells #[.slice A n c, .string s, .int .i64 p] 79 (0, 0))
section
variable {w w' : World} {b : Nat} {A : Option Addr} {n c : Nat} {s : ByteArray} {p : Int}
theorem RB.cell0 (h : RB w b A n c s p) : w.cell? ⟨b, 0, none⟩ = some (.slice A n c) := (blk_cell h 0).trans rfl
theorem RB.cell1 (h : RB w b A n c s p) : w.cell? ⟨b, 1, none⟩ = some (.string s) := (blk_cell h 1).trans rfl
theorem RB.cell2 (h : RB w b A n c s p) : w.cell? ⟨b, 2, none⟩ = some (.int .i64 p) := (blk_cell h 2).trans rfl
theorem RB.below (h : RB w b A n c s p) (hb : Below w.heap.size w w') : RB w' b A n c s p := blk_below h hb
theorem RB.set (h : RB w b A n c s p) (q : Int) : RB (w.setCell ⟨b, 2, none⟩ (.int .i64 q)) b A n c s q := blk_put h 2 _ rfl
end
set_option maxHeartbeats 1000000 in
theorem peek_ok (b : Nat) (A : Option Addr) (n c : Nat) (s : ByteArray) (p : Int) (k : Nat) (kd : Int) (tx : ByteArray) (wat en : Int) (w : World) (hb : RB w b A n c s p) (h : words_Next.f k s p = some (kd, tx, wat, en, 0)) :
    Calls Try.prog 34 #[.pointer (some ⟨b, 0, none⟩)] w fun e w' => e = .returned (.tuple #[.agg #[.int .i64 kd, .string tx, .int .i64 wat], .int .i64 en]) ∧ Below w.heap.size w w' := by
  have HN := fun W => Aside0.mk (words_Next.calls k s p kd tx wat en 0 W h)
  have HRB := Aside0.mk hb
  clear hb h
  go_enter Try.func34, Try.ntmps34
  go_wp2_with ((with_reducible refine gate_dst (N := 2) rfl ?_); refine box_event ?hg (N := 2) ?hd (cs := #[.int .i64 0, .string (⟨#[]⟩ : ByteArray), .int .i64 0]) (t := 70) ?hr ?_; (case hd => rfl); (case hg => rfl); (case hr => first | (go_simp; done) | (go_simp; rfl)); intro g2 hg_g2 w1 hbox_g2 hb_g2; have HG_g2 := Aside0.mk hg_g2; have HX_g2 := Aside0.mk hbox_g2; have HB_g2 := Aside0.mk hb_g2; clear hg_g2 hbox_g2 hb_g2)
  have hb1 := Aside0.mk (HRB.out.below HB_g2.out)
  have BK2 := HX_g2
  have HB1 := HB_g2
  have G2 := HG_g2
  have c1 := hb1.out.cell1
  have c2 := hb1.out.cell2
  have hlt := blk_lt hb1.out
  have hlt2 : b < w1.heap.size + 1 := by omega
  have hne : ¬ b = w1.heap.size := by omega
  have hne' : ¬ w1.heap.size = b := by omega
  have G2b := Aside0.mk (show w.heap.size ≤ g2 by have := G2.out; omega)
  clear HX_g2 HB_g2 HG_g2 hb1 HRB
  go_region_held3 (fun W => W.cell? ⟨b, 1, none⟩ = some (.string s) ∧ W.cell? ⟨b, 2, none⟩ = some (.int .i64 p)) (go_keep) ((go_at_call 46; refine (HN _).out.mono ?_; rintro e w2 ⟨rfl, hb2⟩; have hs2 := hb2.size; obtain ⟨hc2, hf2⟩ := bcell hb2; have g1 := hc2 b 1; have g0 := hc2 b 2; have g3 := fun o => hc2 w1.heap.size o; have g5 := fun o => hf2 w1.heap.size o; clear hc2 hf2; simp [hlt, hlt2, hne, hne', c1, c2] at g1 g0 g3 g5 hs2; have n1 : ¬ b = w2.heap.size := (by omega); have n3 : ¬ w2.heap.size = b := (by omega); have HB2 := Aside0.mk hb2; clear hb2))
  all_goals (have hB2 := HB2.out; clear HB2 g1 g0)
  · refine hold_world (G := Exit.then _ _ _ _) (fun W => W.heap[w2.heap.size]? = some (.cells #[.int .i64 kd, .string tx, .int .i64 wat] 70 (0, 0)) ∧ W.heap[g2]? = some (.cells #[.int .i64 0, .string (⟨#[]⟩ : ByteArray), .int .i64 0] 70 (0, 0)) ∧ Below w.heap.size w W) ⟨blk_new _ _, blk_alloc (blk_below (blk_drew BK2.out) hB2) _, below_alloc (below_step (below_drew1 HB1.out) hB2) _⟩ ?_
    have hge : w.heap.size ≤ w2.heap.size := (below_step (below_drew1 HB1.out) hB2).size
    have hng : ¬ g2 = w2.heap.size := by have := blk_lt BK2.out; omega
    clear hB2 hs2 n1 n3 g3 g5 BK2 HB1
    generalize w2.heap.size = g4 at *
    rintro W ⟨BK4, BK2, HB⟩
    have BK4a := Aside0.mk BK4
    have BK2a := Aside0.mk BK2
    have HBa := Aside0.mk HB
    have G2a := Aside0.mk (blk_lt BK2)
    have q0 : W.cell? ⟨g4, 0, none⟩ = some (.int .i64 kd) := (blk_cell BK4 0).trans rfl
    have q1 : W.cell? ⟨g4, 1, none⟩ = some (.string tx) := (blk_cell BK4 1).trans rfl
    have q2 : W.cell? ⟨g4, 2, none⟩ = some (.int .i64 wat) := (blk_cell BK4 2).trans rfl
    have r0 : W.cell? ⟨g2, 0, none⟩ = some (.int .i64 0) := (blk_cell BK2 0).trans rfl
    have r1 : W.cell? ⟨g2, 1, none⟩ = some (.string (⟨#[]⟩ : ByteArray)) := (blk_cell BK2 1).trans rfl
    have r2 : W.cell? ⟨g2, 2, none⟩ = some (.int .i64 0) := (blk_cell BK2 2).trans rfl
    have s0 := blk_frozen BK2 0
    have s1 := blk_frozen BK2 1
    have s2 := blk_frozen BK2 2
    clear BK4 BK2 HB
    go_wp2_with (go_at_call 35; refine (need_ok _ _ _).mono ?_; rintro e w3 ⟨rfl, rfl⟩)
    refine bodyPost_ret (v := .tuple #[.agg #[.int .i64 kd, .string tx, .int .i64 wat], .int .i64 en]) (by simp [results, Try.results34, go_sem, *]) rfl ⟨rfl, ?_⟩
    exact below_set (below_set (below_set HBa.out G2b.out) G2b.out) G2b.out
  · refine hold_world (G := Exit.then _ _ _ _) (fun W => W.heap[w1.heap.size]? = some (.cells #[.int .i64 kd, .string tx, .int .i64 wat] 70 (0, 0)) ∧ W.heap[g2]? = some (.cells #[.int .i64 0, .string (⟨#[]⟩ : ByteArray), .int .i64 0] 70 (0, 0)) ∧ Below w.heap.size w W) ?_ ?_
    · have BN : w2.heap[w1.heap.size]? = some (.cells #[.int .i64 0, .string (⟨#[]⟩ : ByteArray), .int .i64 0] 70 (0, 0)) := blk_below (blk_drew (blk_new w1 _)) hB2
      have hn : g2 ≠ w1.heap.size := by have := blk_lt BK2.out; omega
      have hz : w.heap.size ≤ w1.heap.size := HB1.out.size
      refine ⟨blk_put (cs := #[.int .i64 kd, .string tx, .int .i64 0]) (blk_put (cs := #[.int .i64 kd, .string (⟨#[]⟩ : ByteArray), .int .i64 0]) (blk_put BN 0 _ rfl) 1 _ rfl) 2 _ rfl, blk_far (blk_far (blk_far (blk_below (blk_drew (blk_alloc BK2.out _)) hB2) hn _) hn _) hn _, ?_⟩
      exact below_set (below_set (below_set (below_step (below_drew1 (below_alloc HB1.out _)) hB2) hz) hz) hz
    have hge : w.heap.size ≤ w1.heap.size := HB1.out.size
    have hng : ¬ g2 = w1.heap.size := by have := blk_lt BK2.out; omega
    clear hB2 hs2 n1 n3 g3 g5 BK2 HB1 c1 c2 hlt hlt2 hne hne'
    have G4 := G2
    clear G2
    generalize w1.heap.size = g4 at *
    rintro W ⟨BK4, BK2, HB⟩
    have BK4a := Aside0.mk BK4
    have BK2a := Aside0.mk BK2
    have HBa := Aside0.mk HB
    have G2a := Aside0.mk (blk_lt BK2)
    have q0 : W.cell? ⟨g4, 0, none⟩ = some (.int .i64 kd) := (blk_cell BK4 0).trans rfl
    have q1 : W.cell? ⟨g4, 1, none⟩ = some (.string tx) := (blk_cell BK4 1).trans rfl
    have q2 : W.cell? ⟨g4, 2, none⟩ = some (.int .i64 wat) := (blk_cell BK4 2).trans rfl
    have r0 : W.cell? ⟨g2, 0, none⟩ = some (.int .i64 0) := (blk_cell BK2 0).trans rfl
    have r1 : W.cell? ⟨g2, 1, none⟩ = some (.string (⟨#[]⟩ : ByteArray)) := (blk_cell BK2 1).trans rfl
    have r2 : W.cell? ⟨g2, 2, none⟩ = some (.int .i64 0) := (blk_cell BK2 2).trans rfl
    have s0 := blk_frozen BK2 0
    have s1 := blk_frozen BK2 1
    have s2 := blk_frozen BK2 2
    clear BK4 BK2 HB
    go_wp2_with (go_at_call 35; refine (need_ok _ _ _).mono ?_; rintro e w3 ⟨rfl, rfl⟩)
    refine bodyPost_ret (v := .tuple #[.agg #[.int .i64 kd, .string tx, .int .i64 wat], .int .i64 en]) (by simp [results, Try.results34, go_sem, *]) rfl ⟨rfl, ?_⟩
    exact below_set (below_set (below_set HBa.out G2b.out) G2b.out) G2b.out
set_option maxHeartbeats 1000000 in
theorem peek_no (b : Nat) (A : Option Addr) (n c : Nat) (s : ByteArray) (p : Int) (k : Nat) (kd : Int) (tx : ByteArray) (wat en er : Int) (w : World) (hb : RB w b A n c s p) (h : words_Next.f k s p = some (kd, tx, wat, en, er)) (he : ¬ er = 0) :
    Calls Try.prog 34 #[.pointer (some ⟨b, 0, none⟩)] w fun e w' => e = gaveUp er en ∧ Below w.heap.size w w' := by
  have HN := fun W => Aside0.mk (words_Next.calls k s p kd tx wat en er W h)
  have HRB := Aside0.mk hb
  have heb : (er == 0) = false := beq_eq_false_iff_ne.mpr he
  clear he
  clear hb h
  go_enter Try.func34, Try.ntmps34
  go_wp2_with ((with_reducible refine gate_dst (N := 2) rfl ?_); refine box_event ?hg (N := 2) ?hd (cs := #[.int .i64 0, .string (⟨#[]⟩ : ByteArray), .int .i64 0]) (t := 70) ?hr ?_; (case hd => rfl); (case hg => rfl); (case hr => first | (go_simp; done) | (go_simp; rfl)); intro g2 hg_g2 w1 hbox_g2 hb_g2; have HG_g2 := Aside0.mk hg_g2; have HX_g2 := Aside0.mk hbox_g2; have HB_g2 := Aside0.mk hb_g2; clear hg_g2 hbox_g2 hb_g2)
  have hb1 := Aside0.mk (HRB.out.below HB_g2.out)
  have BK2 := HX_g2
  have HB1 := HB_g2
  have G2 := HG_g2
  have c1 := hb1.out.cell1
  have c2 := hb1.out.cell2
  have hlt := blk_lt hb1.out
  have hlt2 : b < w1.heap.size + 1 := by omega
  have hne : ¬ b = w1.heap.size := by omega
  have hne' : ¬ w1.heap.size = b := by omega
  clear HX_g2 HB_g2 HG_g2 hb1 HRB
  go_region_held3 (fun W => W.cell? ⟨b, 1, none⟩ = some (.string s) ∧ W.cell? ⟨b, 2, none⟩ = some (.int .i64 p)) (go_keep) ((go_at_call 46; refine (HN _).out.mono ?_; rintro e w2 ⟨rfl, hb2⟩; have hs2 := hb2.size; obtain ⟨hc2, hf2⟩ := bcell hb2; have g1 := hc2 b 1; have g0 := hc2 b 2; have g3 := fun o => hc2 w1.heap.size o; have g5 := fun o => hf2 w1.heap.size o; clear hc2 hf2; simp [hlt, hlt2, hne, hne', c1, c2] at g1 g0 g3 g5 hs2; have n1 : ¬ b = w2.heap.size := (by omega); have n3 : ¬ w2.heap.size = b := (by omega); have HB2 := Aside0.mk hb2; clear hb2))
  all_goals (have hB2 := HB2.out; clear HB2 g1 g0)
  · refine hold_world (G := Exit.then _ _ _ _) (fun W => W.heap[w2.heap.size]? = some (.cells #[.int .i64 kd, .string tx, .int .i64 wat] 70 (0, 0)) ∧ W.heap[g2]? = some (.cells #[.int .i64 0, .string (⟨#[]⟩ : ByteArray), .int .i64 0] 70 (0, 0)) ∧ Below w.heap.size w W) ⟨blk_new _ _, blk_alloc (blk_below (blk_drew BK2.out) hB2) _, below_alloc (below_step (below_drew1 HB1.out) hB2) _⟩ ?_
    have hge : w.heap.size ≤ w2.heap.size := (below_step (below_drew1 HB1.out) hB2).size
    have hng : ¬ g2 = w2.heap.size := by have := blk_lt BK2.out; omega
    clear hB2 hs2 n1 n3 g3 g5 BK2 HB1
    generalize w2.heap.size = g4 at *
    rintro W ⟨BK4, BK2, HB⟩
    have BK4a := Aside0.mk BK4
    have BK2a := Aside0.mk BK2
    have HBa := Aside0.mk HB
    have G2a := Aside0.mk (blk_lt BK2)
    have q0 : W.cell? ⟨g4, 0, none⟩ = some (.int .i64 kd) := (blk_cell BK4 0).trans rfl
    have q1 : W.cell? ⟨g4, 1, none⟩ = some (.string tx) := (blk_cell BK4 1).trans rfl
    have q2 : W.cell? ⟨g4, 2, none⟩ = some (.int .i64 wat) := (blk_cell BK4 2).trans rfl
    have r0 : W.cell? ⟨g2, 0, none⟩ = some (.int .i64 0) := (blk_cell BK2 0).trans rfl
    have r1 : W.cell? ⟨g2, 1, none⟩ = some (.string (⟨#[]⟩ : ByteArray)) := (blk_cell BK2 1).trans rfl
    have r2 : W.cell? ⟨g2, 2, none⟩ = some (.int .i64 0) := (blk_cell BK2 2).trans rfl
    have s0 := blk_frozen BK2 0
    have s1 := blk_frozen BK2 1
    have s2 := blk_frozen BK2 2
    clear BK4 BK2 HB
    go_wp2_with (go_at_call 35; refine (need_no _ _ _).mono ?_; rintro e w3 ⟨rfl, rfl⟩)
    exact ⟨rfl, rfl, HBa.out⟩
  · refine hold_world (G := Exit.then _ _ _ _) (fun W => W.heap[w1.heap.size]? = some (.cells #[.int .i64 kd, .string tx, .int .i64 wat] 70 (0, 0)) ∧ W.heap[g2]? = some (.cells #[.int .i64 0, .string (⟨#[]⟩ : ByteArray), .int .i64 0] 70 (0, 0)) ∧ Below w.heap.size w W) ?_ ?_
    · have BN : w2.heap[w1.heap.size]? = some (.cells #[.int .i64 0, .string (⟨#[]⟩ : ByteArray), .int .i64 0] 70 (0, 0)) := blk_below (blk_drew (blk_new w1 _)) hB2
      have hn : g2 ≠ w1.heap.size := by have := blk_lt BK2.out; omega
      have hz : w.heap.size ≤ w1.heap.size := HB1.out.size
      refine ⟨blk_put (cs := #[.int .i64 kd, .string tx, .int .i64 0]) (blk_put (cs := #[.int .i64 kd, .string (⟨#[]⟩ : ByteArray), .int .i64 0]) (blk_put BN 0 _ rfl) 1 _ rfl) 2 _ rfl, blk_far (blk_far (blk_far (blk_below (blk_drew (blk_alloc BK2.out _)) hB2) hn _) hn _) hn _, ?_⟩
      exact below_set (below_set (below_set (below_step (below_drew1 (below_alloc HB1.out _)) hB2) hz) hz) hz
    have hge : w.heap.size ≤ w1.heap.size := HB1.out.size
    have hng : ¬ g2 = w1.heap.size := by have := blk_lt BK2.out; omega
    clear hB2 hs2 n1 n3 g3 g5 BK2 HB1 c1 c2 hlt hlt2 hne hne'
    have G4 := G2
    clear G2
    generalize w1.heap.size = g4 at *
    rintro W ⟨BK4, BK2, HB⟩
    have BK4a := Aside0.mk BK4
    have BK2a := Aside0.mk BK2
    have HBa := Aside0.mk HB
    have G2a := Aside0.mk (blk_lt BK2)
    have q0 : W.cell? ⟨g4, 0, none⟩ = some (.int .i64 kd) := (blk_cell BK4 0).trans rfl
    have q1 : W.cell? ⟨g4, 1, none⟩ = some (.string tx) := (blk_cell BK4 1).trans rfl
    have q2 : W.cell? ⟨g4, 2, none⟩ = some (.int .i64 wat) := (blk_cell BK4 2).trans rfl
    have r0 : W.cell? ⟨g2, 0, none⟩ = some (.int .i64 0) := (blk_cell BK2 0).trans rfl
    have r1 : W.cell? ⟨g2, 1, none⟩ = some (.string (⟨#[]⟩ : ByteArray)) := (blk_cell BK2 1).trans rfl
    have r2 : W.cell? ⟨g2, 2, none⟩ = some (.int .i64 0) := (blk_cell BK2 2).trans rfl
    have s0 := blk_frozen BK2 0
    have s1 := blk_frozen BK2 1
    have s2 := blk_frozen BK2 2
    clear BK4 BK2 HB
    go_wp2_with (go_at_call 35; refine (need_no _ _ _).mono ?_; rintro e w3 ⟨rfl, rfl⟩)
    exact ⟨rfl, rfl, HBa.out⟩
end Go.Proofs.Ytpepjodkahdicaa.PTb
