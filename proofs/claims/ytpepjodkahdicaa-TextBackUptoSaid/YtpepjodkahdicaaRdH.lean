/- The plain function of terms.Check, and the contract of its closure. Conditions: none. -/
-- Written by programs of this session (wip/tools), cut to what the claim uses (wip/tools/prune.py).
import Derived.Test.YtpepjodkahdicaaRdB
import Derived.Test.YtpepjodkahdicaaPTbx18
namespace Go.Proofs.Ytpepjodkahdicaa.PTb
open Go.RowKit Go.Proofs.YtpepjodkahdicaaW.PrintWords Go.Proofs.YtpepjodkahdicaaW.PrintLast Go.Proofs.YtpepjodkahdicaaW.PrintMore
set_option linter.unusedVariables false
set_option linter.unusedSimpArgs false
mutual
/-- the nodes of a term, one behind the other: how many there are so far, the first error -/
def ckTerm : Nat → List S62 → S27 → Int → Int → Option (Bool × Int × Int)
  | 0, _, _, _, _ => none
  | k + 1, g, t, n, e => (if e = 0 then terms_wrong.f k g t.f0 t.f1 t.f2 else some e).bind fun e' => if n + 1 ≤ 40 then ckArgs k g t.f2 0 (n + 1) e' else some (false, n + 1, e')
def ckArgs : Nat → List S62 → List S27 → Nat → Int → Int → Option (Bool × Int × Int)
  | 0, _, _, _, _, _ => none
  | k + 1, g, l, i, n, e => if i < l.length then (ckTerm k g (rd_T27 l (i : Int)) n e).bind fun r => if r.1 = true then ckArgs k g l (i + 1) r.2.1 r.2.2 else some (false, r.2.1, r.2.2) else some (true, n, e)
end
def terms_Check.f (k : Nat) (g : List S62) (t : S27) : Option Int := (ckTerm k g t 0 0).bind fun r => if r.2.1 > 40 then some 34 else some r.2.2
theorem ck_le (k : Nat) : (∀ g t n e n' e', ckTerm k g t n e = some (true, n', e') → n + 1 ≤ n' ∧ n' ≤ 40) ∧ (∀ g l i n e n' e', ckArgs k g l i n e = some (true, n', e') → n ≤ 40 → n ≤ n' ∧ n' ≤ 40) := by
  induction k with
  | zero => exact ⟨fun _ _ _ _ _ _ h => by simp [ckTerm] at h, fun _ _ _ _ _ _ _ h => by simp [ckArgs] at h⟩
  | succ k ih =>
    constructor
    · intro g t n e n' e' h
      simp only [ckTerm] at h
      obtain ⟨e1, _, h⟩ := Option.bind_eq_some_iff.mp h
      by_cases c : n + 1 ≤ 40
      · rw [if_pos c] at h
        exact ih.2 _ _ _ _ _ _ _ h c
      · rw [if_neg c] at h
        simp at h
    · intro g l i n e n' e' h hn
      simp only [ckArgs] at h
      by_cases c : i < l.length
      · rw [if_pos c] at h
        obtain ⟨⟨r1, r2, r3⟩, hr, h⟩ := Option.bind_eq_some_iff.mp h
        dsimp only at h
        cases r1 with
        | false => rw [if_neg (by simp)] at h; simp at h
        | true =>
          rw [if_pos rfl] at h
          have h1 := ih.1 _ _ _ _ _ _ hr
          have h2 := ih.2 _ _ _ _ _ _ _ h h1.2
          omega
      · rw [if_neg c] at h
        simp only [Option.some.injEq, Prod.mk.injEq, true_and] at h
        omega
/-- what Check's walk knows of the world: its three variables -/
structure WS (w0 : World) (bn be bs : Nat) (A : Option Addr) (c : Nat) (g : List S62) (W : World) (n e : Int) : Prop where
  below : Below w0.heap.size w0 W
  kn : W.heap[bn]? = some (.cells #[.int .i64 n] 3 (0, 0))
  ke : W.heap[be]? = some (.cells #[.int .i64 e] 28 (0, 0))
  ks : W.heap[bs]? = some (.cells #[.slice A g.length c] 23 (0, 0))
  gn : w0.heap.size ≤ bn
  ge : w0.heap.size ≤ be
/-- only two blocks have turned -/
structure Chg (bn be : Nat) (w w' : World) : Prop where
  os : w'.os = w.os
  tape : w'.tape = w.tape
  output : w'.output = w.output
  size : w.heap.size ≤ w'.heap.size
  block : ∀ k, k < w.heap.size → k ≠ bn → k ≠ be → w'.heap[k]? = w.heap[k]?
section
variable {bn be : Nat} {w w' w'' : World}
theorem Chg.refl (w : World) : Chg bn be w w := ⟨rfl, rfl, rfl, Nat.le_refl _, fun _ _ _ _ => rfl⟩
theorem Chg.trans (h : Chg bn be w w') (k : Chg bn be w' w'') : Chg bn be w w'' := ⟨k.os.trans h.os, k.tape.trans h.tape, k.output.trans h.output, Nat.le_trans h.size k.size, fun i hi h1 h2 => (k.block i (Nat.lt_of_lt_of_le hi h.size) h1 h2).trans (h.block i hi h1 h2)⟩
theorem Chg.below (h : Chg bn be w w') (k : Below w'.heap.size w' w'') : Chg bn be w w'' := h.trans ⟨k.os, k.tape, k.output, k.size, fun i hi _ _ => k.block i hi⟩
theorem Chg.alloc (h : Chg bn be w w') (o : Obj) : Chg bn be w (w'.alloc o) := h.below (below_alloc (Below.refl _ _) o)
theorem Chg.drew (h : Chg bn be w w') : Chg bn be w w'.drew := h.below (below_drew1 (Below.refl _ _))
theorem Chg.setn (h : Chg bn be w w') (j : Nat) (u : Value) : Chg bn be w (w'.setCell ⟨bn, j, none⟩ u) := h.trans ⟨rfl, rfl, rfl, by simp [World.setCell], fun i hi h1 _ => Below.heap_setCell w' ⟨bn, j, none⟩ u i h1⟩
theorem Chg.sete (h : Chg bn be w w') (j : Nat) (u : Value) : Chg bn be w (w'.setCell ⟨be, j, none⟩ u) := h.trans ⟨rfl, rfl, rfl, by simp [World.setCell], fun i hi _ h2 => Below.heap_setCell w' ⟨be, j, none⟩ u i h2⟩
theorem Chg.blk {k : Nat} {o : Obj} (h : Chg bn be w w') (hk : w.heap[k]? = some o) (h1 : k ≠ bn) (h2 : k ≠ be) : w'.heap[k]? = some o := (h.block k (blk_lt hk) h1 h2).trans hk
theorem Chg.base {w0 : World} (h : Chg bn be w w') (h0 : Below w0.heap.size w0 w) (h1 : w0.heap.size ≤ bn) (h2 : w0.heap.size ≤ be) : Below w0.heap.size w0 w' :=
  ⟨h.os.trans h0.os, h.tape.trans h0.tape, h.output.trans h0.output, Nat.le_trans h0.size h.size, fun i hi => (h.block i (Nat.lt_of_lt_of_le hi h0.size) (by omega) (by omega)).trans (h0.block i hi)⟩
end
section
variable {w0 : World} {bn be bs : Nat} {A : Option Addr} {c : Nat} {g : List S62} {W W' : World} {n e : Int}
theorem WS.go (h : WS w0 bn be bs A c g W n e) (hb : Below W.heap.size W W') : WS w0 bn be bs A c g W' n e := ⟨below_step h.below hb, blk_below h.kn hb, blk_below h.ke hb, blk_below h.ks hb, h.gn, h.ge⟩
theorem WS.setn (h : WS w0 bn be bs A c g W n e) (m : Int) : WS w0 bn be bs A c g (W.setCell ⟨bn, 0, none⟩ (.int .i64 m)) m e :=
  ⟨below_set h.below h.gn, blk_put h.kn 0 _ rfl, blk_far h.ke (blk_ne h.ke h.kn (by decide)) _, blk_far h.ks (blk_ne h.ks h.kn (by decide)) _, h.gn, h.ge⟩
theorem WS.sete (h : WS w0 bn be bs A c g W n e) (m : Int) : WS w0 bn be bs A c g (W.setCell ⟨be, 0, none⟩ (.int .i64 m)) n m :=
  ⟨below_set h.below h.ge, blk_far h.kn (blk_ne h.kn h.ke (by decide)) _, blk_put h.ke 0 _ rfl, blk_far h.ks (blk_ne h.ks h.ke (by decide)) _, h.gn, h.ge⟩
end
set_option maxHeartbeats 1000000 in
theorem check1_old {w0 : World} {bn be bs : Nat} {A : Option Addr} {c : Nat} {g : List S62} {W : World} {n e : Int} (hW : WS w0 bn be bs A c g W n e) (pv : Value) (t : S27) (A2 : Option Addr) (c2 : Nat) (he : ¬ e = 0) (h0 : 0 ≤ n) (h1 : n ≤ 40) :
    Calls Try.prog 48 #[pv, (.agg #[.string t.f0, .int .i64 t.f1, .slice A2 t.f2.length c2]), .pointer (some ⟨bn, 0, none⟩), .pointer (some ⟨be, 0, none⟩), .pointer (some ⟨bs, 0, none⟩)] W fun x W' => x = .returned (.bool (decide (n + 1 ≤ 40))) ∧ WS w0 bn be bs A c g W' (n + 1) e ∧ Chg bn be W W' := by
  have q0 := Aside0.mk hW
  have n1 : ¬ be = bn := blk_ne hW.ke hW.kn (by decide)
  have n2 : ¬ bn = be := fun e => n1 e.symm
  have n3 : ¬ bs = bn := blk_ne hW.ks hW.kn (by decide)
  have n4 : ¬ bs = be := blk_ne hW.ks hW.ke (by decide)
  have n5 : ¬ bn = bs := fun e => n3 e.symm
  have n6 : ¬ be = bs := fun e => n4 e.symm
  have l0 : bn < W.heap.size := blk_lt hW.kn
  have l1 : be < W.heap.size := blk_lt hW.ke
  have l2 : bs < W.heap.size := blk_lt hW.ks
  have heb : (e == 0) = false := beq_eq_false_iff_ne.mpr he
  clear he hW
  go_enter Try.func48, Try.ntmps48
  go_wp2_with ((with_reducible refine gate_dst (N := 6) rfl ?_); refine box_event ?hg (N := 6) ?hd (cs := #[.string t.f0, .int .i64 t.f1, .slice A2 t.f2.length c2]) (t := 27) ?hr ?_; (case hd => rfl); (case hg => rfl); (case hr => first | (go_simp; done) | (go_simp; rfl)); intro g6 hg_g6 w1 hbox_g6 hb_g6; have HG_g6 := Aside0.mk hg_g6; have HX_g6 := Aside0.mk hbox_g6; have HB_g6 := Aside0.mk hb_g6; clear hg_g6 hbox_g6 hb_g6; have WX := Aside0.mk (q0.out.go HB_g6.out); have cn : w1.cell? ⟨bn, 0, none⟩ = some (.int .i64 n) := (blk_cell WX.out.kn 0).trans rfl; have fn_ := blk_frozen WX.out.kn 0; have ce : w1.cell? ⟨be, 0, none⟩ = some (.int .i64 e) := (blk_cell WX.out.ke 0).trans rfl; have fe := blk_frozen WX.out.ke 0; have cs_ : w1.cell? ⟨bs, 0, none⟩ = some (.slice A g.length c) := (blk_cell WX.out.ks 0).trans rfl; have n7 : ¬ bn = g6 := (by have := HG_g6.out; omega); have n8 : ¬ g6 = bn := (by have := HG_g6.out; omega); have tq0 : w1.cell? ⟨g6, 0, none⟩ = some (.string t.f0) := (blk_cell HX_g6.out 0).trans rfl; have tq1 : w1.cell? ⟨g6, 1, none⟩ = some (.int .i64 t.f1) := (blk_cell HX_g6.out 1).trans rfl; have tq2 : w1.cell? ⟨g6, 2, none⟩ = some (.slice A2 t.f2.length c2) := (blk_cell HX_g6.out 2).trans rfl)
  go_ret
  exact ⟨rfl, WX.out.setn _, ((Chg.refl _).below HB_g6.out).setn _ _⟩
set_option maxHeartbeats 2000000 in
theorem check1_new {w0 : World} {bn be bs : Nat} {A : Option Addr} {c : Nat} {g : List S62} {W : World} {n : Int} (hW : WS w0 bn be bs A c g W n 0) (pv : Value) (t : S27) (A2 : Option Addr) (c2 : Nat) (k : Nat) (e' : Int) (hS : Kd.C k62 w0 A g.length g) (hc : g.length ≤ c) (hT : Kd.C k27 w0 A2 t.f2.length t.f2) (hc2 : t.f2.length ≤ c2) (he : terms_wrong.f k g t.f0 t.f1 t.f2 = some e') (h0 : 0 ≤ n) (h1 : n ≤ 40) :
    Calls Try.prog 48 #[pv, (.agg #[.string t.f0, .int .i64 t.f1, .slice A2 t.f2.length c2]), .pointer (some ⟨bn, 0, none⟩), .pointer (some ⟨be, 0, none⟩), .pointer (some ⟨bs, 0, none⟩)] W fun x W' => x = .returned (.bool (decide (n + 1 ≤ 40))) ∧ WS w0 bn be bs A c g W' (n + 1) e' ∧ Chg bn be W W' := by
  have q0 := Aside0.mk hW
  have n1 : ¬ be = bn := blk_ne hW.ke hW.kn (by decide)
  have n2 : ¬ bn = be := fun e => n1 e.symm
  have n3 : ¬ bs = bn := blk_ne hW.ks hW.kn (by decide)
  have n4 : ¬ bs = be := blk_ne hW.ks hW.ke (by decide)
  have n5 : ¬ bn = bs := fun e => n3 e.symm
  have n6 : ¬ be = bs := fun e => n4 e.symm
  have l0 : bn < W.heap.size := blk_lt hW.kn
  have l1 : be < W.heap.size := blk_lt hW.ke
  have l2 : bs < W.heap.size := blk_lt hW.ks
  have HC := fun W (q : Below w0.heap.size w0 W) => Aside0.mk (terms_wrong.calls k A c g t.f0 t.f1 A2 c2 t.f2 e' W (Kd.C_below hS q) hc (Kd.C_below hT q) hc2 he)
  clear hW hS hc hT hc2 he
  go_enter Try.func48, Try.ntmps48
  go_wp2_with (first | ((with_reducible refine gate_dst (N := 6) rfl ?_); refine box_event ?hg (N := 6) ?hd (cs := #[.string t.f0, .int .i64 t.f1, .slice A2 t.f2.length c2]) (t := 27) ?hr ?_; (case hd => rfl); (case hg => rfl); (case hr => first | (go_simp; done) | (go_simp; rfl)); intro g6 hg_g6 w1 hbox_g6 hb_g6; have HG_g6 := Aside0.mk hg_g6; have HX_g6 := Aside0.mk hbox_g6; have HB_g6 := Aside0.mk hb_g6; clear hg_g6 hbox_g6 hb_g6; have WX := Aside0.mk (q0.out.go HB_g6.out); have cn : w1.cell? ⟨bn, 0, none⟩ = some (.int .i64 n) := (blk_cell WX.out.kn 0).trans rfl; have fn_ := blk_frozen WX.out.kn 0; have ce : w1.cell? ⟨be, 0, none⟩ = some (.int .i64 0) := (blk_cell WX.out.ke 0).trans rfl; have fe := blk_frozen WX.out.ke 0; have cs_ : w1.cell? ⟨bs, 0, none⟩ = some (.slice A g.length c) := (blk_cell WX.out.ks 0).trans rfl; have n7 : ¬ bn = g6 := (by have := HG_g6.out; omega); have n8 : ¬ g6 = bn := (by have := HG_g6.out; omega); have tq0 : w1.cell? ⟨g6, 0, none⟩ = some (.string t.f0) := (blk_cell HX_g6.out 0).trans rfl; have tq1 : w1.cell? ⟨g6, 1, none⟩ = some (.int .i64 t.f1) := (blk_cell HX_g6.out 1).trans rfl; have tq2 : w1.cell? ⟨g6, 2, none⟩ = some (.slice A2 t.f2.length c2) := (blk_cell HX_g6.out 2).trans rfl) | (go_at_call 49; refine (HC _ (WX.out.setn _).below).out.mono ?_; rintro x w3 ⟨rfl, hb3⟩; have HB3 := Aside0.mk hb3; have WY := Aside0.mk ((WX.out.setn (n + 1)).go HB3.out); have dn : w3.cell? ⟨bn, 0, none⟩ = some (.int .i64 (n + 1)) := (blk_cell WY.out.kn 0).trans rfl; have de : w3.cell? ⟨be, 0, none⟩ = some (.int .i64 0) := (blk_cell WY.out.ke 0).trans rfl; have df := blk_frozen WY.out.ke 0; clear hb3))
  go_ret
  exact ⟨rfl, WY.out.sete _, ((((Chg.refl _).below HB_g6.out).setn _ _).below HB3.out).sete _ _⟩
end Go.Proofs.Ytpepjodkahdicaa.PTb
