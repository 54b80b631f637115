/- The contract of the reader's may. Conditions: none. -/
-- Written by programs of this session (wip/tools), cut to what the claim uses (wip/tools/prune.py).
import Derived.Test.YtpepjodkahdicaaRdJ
namespace Go.Proofs.Ytpepjodkahdicaa.PTb
open Go.RowKit Go.Proofs.YtpepjodkahdicaaW.PrintWords Go.Proofs.YtpepjodkahdicaaW.PrintLast Go.Proofs.YtpepjodkahdicaaW.PrintMore
set_option linter.unusedVariables false
set_option linter.unusedSimpArgs false
/-- the terms, one behind the other: may each be? -/
def rdMay : Nat → List S62 → List S27 → Nat → Option (Except (Int × Int) Unit)
  | 0, _, _, _ => none
  | k + 1, g, l, i => if i < l.length then (terms_Check.f k g (rd_T27 l (i : Int))).bind fun e => if e = 0 then rdMay k g l (i + 1) else some (.error (e, 0)) else some (.ok ())
def MayPost (w : World) (r : Except (Int × Int) Unit) (e : Ending) (w' : World) : Prop :=
  match r with
  | .error x => e = gaveUp x.1 x.2 ∧ Below w.heap.size w w'
  | .ok _ => e = .returned (.tuple #[]) ∧ Below w.heap.size w w'
set_option maxHeartbeats 4000000 in
set_option maxRecDepth 100000 in
theorem may_calls (k : Nat) (b : Nat) (A : Option Addr) (c : Nat) (g : List S62) (s : ByteArray) (p : Int) (l : List S27) (Al : Option Addr) (cl : Nat) (r : Except (Int × Int) Unit) (w : World) (hS : Kd.C k62 w A g.length g) (hc : g.length ≤ c) (hL : Kd.C k27 w Al l.length l) (hcl : l.length ≤ cl) (hb : RB w b A g.length c s p) (h : rdMay k g l 0 = some r) :
    Calls Try.prog 23 #[.pointer (some ⟨b, 0, none⟩), .slice Al l.length cl] w (MayPost w r) := by
  have HSG := Aside0.mk (And.intro hS (And.intro hc (And.intro hL hcl)))
  have HRB := Aside0.mk hb
  have HH := Aside0.mk h
  clear hS hc hL hcl hb h
  go_enter Try.func23, Try.ntmps23
  go_wp2
  go_loopg [9] k (fun kq v9 w' => ∃ (i : Nat), v9 = .int .i64 (i : Int) ∧ Aside0 (rdMay kq g l i = some r) ∧ Aside0 (Below w.heap.size w w'))
  case atStart => exact ⟨0, rfl, HH, ⟨Below.refl _ _⟩⟩
  case round =>
    clear HH
    obtain ⟨i, rfl, HA, HB⟩ := hrel
    cases gk with
    | zero => exact absurd HA.out (by simp [rdMay])
    | succ k1 =>
      have h := HA.out
      clear HA
      simp only [rdMay] at h
      by_cases ci : i < l.length
      · rw [if_pos ci] at h
        obtain ⟨e1, he1, h⟩ := Option.bind_eq_some_iff.mp h
        obtain ⟨ad, A3, c3, eA, x0, x1, x2, hl3, hi3⟩ := at_T27 HSG.out.2.2.1 (i : Int) (by omega) (by omega)
        subst eA
        simp only [Int.toNat_natCast] at x0 x1 x2
        replace x0 := (HB.out.cell (World.block_lt_of_cell? w _ x0)).trans x0
        replace x1 := (HB.out.cell (World.block_lt_of_cell? w _ x1)).trans x1
        replace x2 := (HB.out.cell (World.block_lt_of_cell? w _ x2)).trans x2
        have HCK := fun W (q : Below w.heap.size w W) => Aside0.mk (terms_Check.calls k1 A c g (rd_T27 l (i : Int)) A3 c3 e1 W (Kd.C_below HSG.out.1 q) HSG.out.2.1 (Kd.C_below hi3 q) hl3 he1)
        clear he1 hi3 hl3
        have pi1 : (0 : Int) ≤ (i : Int) := by omega
        have pi2 : ((i : Int) < (l.length : Int)) := by omega
        have ib : ((l.length : Int) ≤ 9223372036854775807) := by have := Kd.C_max HSG.out.2.2.1; omega
        have HR := Aside0.mk (HRB.out.below HB.out)
        go_wp2
        refine hold_world (G := Code.wp _ _ _ _) (fun W => W.heap[wr.heap.size]? = some (.cells #[.string (rd_T27 l (i : Int)).f0, .int .i64 (rd_T27 l (i : Int)).f1, .slice A3 (rd_T27 l (i : Int)).f2.length c3] 27 (0, 0)) ∧ RB W b A g.length c s p ∧ Below w.heap.size w W) ⟨blk_new _ _, blk_alloc HR.out _, below_alloc HB.out _⟩ ?_
        generalize wr.heap.size = g5
        clear x0 x1 x2 HR HB
        rintro w3 ⟨bk, hr, hb⟩
        have BK := Aside0.mk bk
        have HR := Aside0.mk hr
        have HB := Aside0.mk hb
        have HX := Aside0.mk (below_drew1 hb)
        have c0 := hr.cell0
        have y0 : w3.cell? ⟨g5, 0, none⟩ = some (.string (rd_T27 l (i : Int)).f0) := (blk_cell bk 0).trans rfl
        have y1 : w3.cell? ⟨g5, 1, none⟩ = some (.int .i64 (rd_T27 l (i : Int)).f1) := (blk_cell bk 1).trans rfl
        have y2 : w3.cell? ⟨g5, 2, none⟩ = some (.slice A3 (rd_T27 l (i : Int)).f2.length c3) := (blk_cell bk 2).trans rfl
        clear bk hr hb
        go_region_held3 (fun W => W.cell? ⟨b, 0, none⟩ = some (.slice A g.length c) ∧ W.cell? ⟨g5, 0, none⟩ = some (.string (rd_T27 l (i : Int)).f0) ∧ W.cell? ⟨g5, 1, none⟩ = some (.int .i64 (rd_T27 l (i : Int)).f1) ∧ W.cell? ⟨g5, 2, none⟩ = some (.slice A3 (rd_T27 l (i : Int)).f2.length c3)) (first | go_keep | exact ⟨(HR.out.below (below_step (below_drew1 (Below.refl _ _)) HB5.out)).cell0, (blk_cell (blk_below (blk_drew BK.out) HB5.out) 0).trans rfl, (blk_cell (blk_below (blk_drew BK.out) HB5.out) 1).trans rfl, (blk_cell (blk_below (blk_drew BK.out) HB5.out) 2).trans rfl⟩) ((go_at_call 39; refine (HCK _ HX.out).out.mono ?_; rintro x w5 ⟨rfl, hb5⟩; have HB5 := Aside0.mk hb5; clear hb5))
        by_cases c0_ : e1 = 0
        · rw [if_pos c0_] at h
          have HH := Aside0.mk h
          subst c0_
          clear h
          go_wp2_with (go_at_call 35; refine (need_ok _ _ _).mono ?_; rintro e w5 ⟨rfl, rfl⟩)
          go_roundg k1
          case measure => omega
          case rel => exact ⟨i + 1, by go_num, HH, ⟨below_step (below_drew1 HB.out) HB5.out⟩⟩
        · rw [if_neg c0_] at h
          obtain rfl := Option.some.inj h
          have c0b : (e1 == 0) = false := beq_eq_false_iff_ne.mpr c0_
          clear c0_
          go_wp2_with (go_at_call 35; refine (need_no _ _ _).mono ?_; rintro e w5 ⟨rfl, rfl⟩)
          exact ⟨rfl, rfl, below_step (below_drew1 HB.out) HB5.out⟩
      · rw [if_neg ci] at h
        obtain rfl := Option.some.inj h
        have ci' : ¬ ((i : Int) < (l.length : Int)) := by omega
        go_wp2
        go_end0
        exact ⟨rfl, HB.out⟩
end Go.Proofs.Ytpepjodkahdicaa.PTb
