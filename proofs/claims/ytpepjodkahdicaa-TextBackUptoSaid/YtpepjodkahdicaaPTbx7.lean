-- Written by programs of this session (wip/tools), cut to what the claim uses (wip/tools/prune.py).
import Derived.Test.YtpepjodkahdicaaPTbx0
import Derived.Test.YtpepjodkahdicaaPTbx6
-- Written by a program of this session (wip/tools/myprint.py): functions, contracts, their proofs. Lean checks it.
namespace Go.Proofs.Ytpepjodkahdicaa.PTb
open Go.RowKit Go.Proofs.YtpepjodkahdicaaW.PrintWords Go.Proofs.YtpepjodkahdicaaW.PrintLast Go.Proofs.YtpepjodkahdicaaW.PrintMore
attribute [local go_sem] max2_int min2_int max_two min_two max_three min_three max_four min_four   -- for this text's walks alone
set_option linter.unusedVariables false
set_option linter.unusedSimpArgs false
mutual
def amalgamref01_symbol.l0 : Nat → List (S62) → Int → Bool → Int → ByteArray → Int → Int → ByteArray → Option (Int)
  | 0, _, _, _, _, _, _, _, _ => none
  | k + 1, x0, x1, x6, x7, x139000, x139001, x139002, x139003 => if x7 < x1 then (if x6 = true then (if 0 ≤ x7 then (if x7 < (x0.length : Int) then (amalgamref01_symbol.l0 k x0 x1 (((rd_T62 x0 x7).f0).toList != x139000.toList) (wrap64 (x7 + 1)) x139000 x139001 x139002 x139003) else (none)) else (none)) else (amalgamref01_symbol.l0 k x0 x1 false (wrap64 (x7 + 1)) x139000 x139001 x139002 x139003)) else (if x6 = true then (if x139001 = 1 then (amalgamref01_symbol.j1 k x0 x1 false x139000 x139001 x139002 x139003) else (if x139001 = 2 then (amalgamref01_symbol.j1 k x0 x1 false x139000 x139001 x139002 x139003) else (amalgamref01_symbol.j1 k x0 x1 (x139001 != 3) x139000 x139001 x139002 x139003))) else (some 11))
def amalgamref01_symbol.j1 : Nat → List (S62) → Int → Bool → ByteArray → Int → Int → ByteArray → Option (Int)
  | 0, _, _, _, _, _, _, _ => none
  | k + 1, x0, x1, x46, x139000, x139001, x139002, x139003 => if x46 = true then (some 12) else (if x139001 = 1 then (if x139002 < 0 then (amalgamref01_symbol.j2 k x0 x1 true x139000 x139001 x139002 x139003) else (if x139002 > 4 then (amalgamref01_symbol.j2 k x0 x1 true x139000 x139001 x139002 x139003) else (amalgamref01_symbol.j2 k x0 x1 false x139000 x139001 x139002 x139003))) else (amalgamref01_symbol.j2 k x0 x1 (x139002 != 2) x139000 x139001 x139002 x139003))
def amalgamref01_symbol.j2 : Nat → List (S62) → Int → Bool → ByteArray → Int → Int → ByteArray → Option (Int)
  | 0, _, _, _, _, _, _, _ => none
  | k + 1, x0, x1, x69, x139000, x139001, x139002, x139003 => if x69 = true then (some 13) else (if x139001 = 3 then (amalgamref01_symbol.l1 k x0 x1 0 x139000 x139001 x139002 x139003) else (if x139003.toList = ([] : List UInt8) then (some 0) else (some 14)))
def amalgamref01_symbol.l1 : Nat → List (S62) → Int → Int → ByteArray → Int → Int → ByteArray → Option (Int)
  | 0, _, _, _, _, _, _, _ => none
  | k + 1, x0, x1, x8, x139000, x139001, x139002, x139003 => if x8 < x1 then (if 0 ≤ x8 then (if x8 < (x0.length : Int) then (if ((rd_T62 x0 x8).f1) = 1 then (if ((rd_T62 x0 x8).f2) = 0 then (if ((rd_T62 x0 x8).f0).toList = x139003.toList then (some 0) else (amalgamref01_symbol.l1 k x0 x1 (wrap64 (x8 + 1)) x139000 x139001 x139002 x139003)) else (amalgamref01_symbol.l1 k x0 x1 (wrap64 (x8 + 1)) x139000 x139001 x139002 x139003)) else (amalgamref01_symbol.l1 k x0 x1 (wrap64 (x8 + 1)) x139000 x139001 x139002 x139003)) else (none)) else (none)) else (some 14)
end
def amalgamref01_symbol.f (k : Nat) (l0 : List (S62)) (a1 : Int) : Option (Int) := if 0 ≤ a1 then (if a1 < (l0.length : Int) then ((amalgamref01_Name.f k ((rd_T62 l0 a1).f0)).bind fun t139 => (amalgamref01_symbol.l0 k l0 a1 t139 0 ((rd_T62 l0 a1).f0) ((rd_T62 l0 a1).f1) ((rd_T62 l0 a1).f2) ((rd_T62 l0 a1).f3))) else (none)) else (none)
set_option maxHeartbeats 8000000 in
set_option maxRecDepth 100000 in
theorem amalgamref01_symbol.calls (k : Nat) (A0 : Option Addr) (c0 : Nat) (l0 : List (S62)) (a1 : Int) (r : Int) (w : World) (hr0 : Kd.C k62 w A0 l0.length l0) (hc0 : l0.length ≤ c0) (h : amalgamref01_symbol.f k l0 a1 = some r) :
    Calls Try.prog 43 #[.slice A0 l0.length c0, .int .i64 a1] w fun e w' => e = .returned (.int .i64 r) ∧ Below w.heap.size w w' := by
  have hu62 := Try.underlying62
  have HR0 := Aside0.mk hr0
  have HC0 := Aside0.mk hc0
  clear hr0 hc0
  have HB := Aside0.mk (Below.refl w.heap.size w)
  have H : (if 0 ≤ a1 then (if a1 < (l0.length : Int) then ((amalgamref01_Name.f k ((rd_T62 l0 a1).f0)).bind fun t139 => (amalgamref01_symbol.l0 k l0 a1 t139 0 ((rd_T62 l0 a1).f0) ((rd_T62 l0 a1).f1) ((rd_T62 l0 a1).f2) ((rd_T62 l0 a1).f3))) else (none)) else (none)) = some r := h
  clear h
  by_cases c3 : 0 ≤ a1
  · rw [if_pos c3] at H
    have c3b0 : decide (0 ≤ a1) = true := decide_eq_true c3
    clear c3
    by_cases c4 : a1 < (l0.length : Int)
    · rw [if_pos c4] at H
      have c4b0 : decide (a1 < (l0.length : Int)) = true := decide_eq_true c4
      clear c4
      replace H := Option.bind_eq_some_iff.mp H
      obtain ⟨t139, A50, H⟩ := H
      replace H : (amalgamref01_symbol.l0 k l0 a1 t139 0 ((rd_T62 l0 a1).f0) ((rd_T62 l0 a1).f1) ((rd_T62 l0 a1).f2) ((rd_T62 l0 a1).f3)) = some r := H
      have A5 := Aside0.mk A50
      clear A50
      have H' := Aside0.mk H
      clear H
      have p137 : 0 ≤ (a1 : Int) := of_decide_eq_true (by first | (with_reducible assumption) | assumption)
      have q137 : a1 < (l0.length : Int) := of_decide_eq_true (by first | (with_reducible assumption) | assumption)
      obtain ⟨ad137, e137, hx137_0, hx137_1, hx137_2, hx137_3⟩ := at_T62 HR0.out a1 p137 q137
      cases e137
      replace p137 := eq_true p137
      replace q137 := eq_true q137
      go_enter Try.func43, Try.ntmps43
      go_wp2_with (first | ((with_reducible refine gate_dst (N := 5) rfl ?_); refine box_event ?hg (N := 5) ?hd (cs := #[.string (⟨#[]⟩ : ByteArray), .int .i64 0, .int .i64 0, .string (⟨#[]⟩ : ByteArray)]) (t := 62) ?hr ?_; (case hd => rfl); (case hg => rfl); (case hr => first | (go_simp; done) | (go_simp; rfl)); intro gb138 hg w6 hbox hb; have n0_ := Aside0.mk (below_step (by repeat (first | (with_reducible first | exact HB.out | apply below_alloc | apply pw_below_drewN | apply below_drew1) | exact HB.out)) hb); have n1_ := Aside0.mk (hbox); have n2_ := Aside0.mk ((by rw [hg]; exact (below_size (by repeat (first | (with_reducible first | exact HB.out | apply below_alloc | apply pw_below_drewN | apply below_drew1) | exact HB.out))) : w.heap.size ≤ gb138)); have n3_ := Aside0.mk ((by rw [hg]; exact (below_size (by repeat (first | (with_reducible first | exact HB.out | apply below_alloc | apply pw_below_drewN | apply below_drew1) | exact HB.out))) : w.heap.size ≤ gb138)); clear HB; have HB := n0_; have BK138 := n1_; have GW138 := n2_; have GE138 := n3_; clear n0_ n1_ n2_ n3_; clear hb hbox hg; have hcz7_0 : w6.cell? ⟨gb138, 0, none⟩ = some (.string (⟨#[]⟩ : ByteArray)) := (blk_cell BK138.out 0).trans rfl; have hcz7_1 : w6.cell? ⟨gb138, 1, none⟩ = some (.int .i64 0) := (blk_cell BK138.out 1).trans rfl; have hcz7_2 : w6.cell? ⟨gb138, 2, none⟩ = some (.int .i64 0) := (blk_cell BK138.out 2).trans rfl; have hcz7_3 : w6.cell? ⟨gb138, 3, none⟩ = some (.string (⟨#[]⟩ : ByteArray)) := (blk_cell BK138.out 3).trans rfl; have hfz7_0 := blk_frozen BK138.out 0; have hfz7_1 := blk_frozen BK138.out 1; have hfz7_2 := blk_frozen BK138.out 2; have hfz7_3 := blk_frozen BK138.out 3) | (go_at_call 52; (with_reducible refine (amalgamref01_Name.calls k ((rd_T62 l0 a1).f0) t139 _ A5.out).mono ?_); rintro e w' ⟨rfl, ⟨nd, rfl⟩⟩; (try first | exact ⟨rfl, _, World.drewN_drewN _ _ _⟩ | exact ⟨rfl, _, Eq.trans (World.drewN_drewN _ _ _) (congrArg (World.drewN _) (Nat.add_assoc _ _ _))⟩)))
      repeat (go_quiet (first | ((with_reducible refine gate_dst (N := 5) rfl ?_); refine box_event ?hg (N := 5) ?hd (cs := #[.string (⟨#[]⟩ : ByteArray), .int .i64 0, .int .i64 0, .string (⟨#[]⟩ : ByteArray)]) (t := 62) ?hr ?_; (case hd => rfl); (case hg => rfl); (case hr => first | (go_simp; done) | (go_simp; rfl)); intro gb138 hg w6 hbox hb; have n0_ := Aside0.mk (below_step (by repeat (first | (with_reducible first | exact HB.out | apply below_alloc | apply pw_below_drewN | apply below_drew1) | exact HB.out)) hb); have n1_ := Aside0.mk (hbox); have n2_ := Aside0.mk ((by rw [hg]; exact (below_size (by repeat (first | (with_reducible first | exact HB.out | apply below_alloc | apply pw_below_drewN | apply below_drew1) | exact HB.out))) : w.heap.size ≤ gb138)); have n3_ := Aside0.mk ((by rw [hg]; exact (below_size (by repeat (first | (with_reducible first | exact HB.out | apply below_alloc | apply pw_below_drewN | apply below_drew1) | exact HB.out))) : w.heap.size ≤ gb138)); clear HB; have HB := n0_; have BK138 := n1_; have GW138 := n2_; have GE138 := n3_; clear n0_ n1_ n2_ n3_; clear hb hbox hg; have hcz7_0 : w6.cell? ⟨gb138, 0, none⟩ = some (.string (⟨#[]⟩ : ByteArray)) := (blk_cell BK138.out 0).trans rfl; have hcz7_1 : w6.cell? ⟨gb138, 1, none⟩ = some (.int .i64 0) := (blk_cell BK138.out 1).trans rfl; have hcz7_2 : w6.cell? ⟨gb138, 2, none⟩ = some (.int .i64 0) := (blk_cell BK138.out 2).trans rfl; have hcz7_3 : w6.cell? ⟨gb138, 3, none⟩ = some (.string (⟨#[]⟩ : ByteArray)) := (blk_cell BK138.out 3).trans rfl; have hfz7_0 := blk_frozen BK138.out 0; have hfz7_1 := blk_frozen BK138.out 1; have hfz7_2 := blk_frozen BK138.out 2; have hfz7_3 := blk_frozen BK138.out 3) | (go_at_call 52; (with_reducible refine (amalgamref01_Name.calls k ((rd_T62 l0 a1).f0) t139 _ A5.out).mono ?_); rintro e w' ⟨rfl, ⟨nd, rfl⟩⟩; (try first | exact ⟨rfl, _, World.drewN_drewN _ _ _⟩ | exact ⟨rfl, _, Eq.trans (World.drewN_drewN _ _ _) (congrArg (World.drewN _) (Nat.add_assoc _ _ _))⟩))); try go_wp2_with (first | ((with_reducible refine gate_dst (N := 5) rfl ?_); refine box_event ?hg (N := 5) ?hd (cs := #[.string (⟨#[]⟩ : ByteArray), .int .i64 0, .int .i64 0, .string (⟨#[]⟩ : ByteArray)]) (t := 62) ?hr ?_; (case hd => rfl); (case hg => rfl); (case hr => first | (go_simp; done) | (go_simp; rfl)); intro gb138 hg w6 hbox hb; have n0_ := Aside0.mk (below_step (by repeat (first | (with_reducible first | exact HB.out | apply below_alloc | apply pw_below_drewN | apply below_drew1) | exact HB.out)) hb); have n1_ := Aside0.mk (hbox); have n2_ := Aside0.mk ((by rw [hg]; exact (below_size (by repeat (first | (with_reducible first | exact HB.out | apply below_alloc | apply pw_below_drewN | apply below_drew1) | exact HB.out))) : w.heap.size ≤ gb138)); have n3_ := Aside0.mk ((by rw [hg]; exact (below_size (by repeat (first | (with_reducible first | exact HB.out | apply below_alloc | apply pw_below_drewN | apply below_drew1) | exact HB.out))) : w.heap.size ≤ gb138)); clear HB; have HB := n0_; have BK138 := n1_; have GW138 := n2_; have GE138 := n3_; clear n0_ n1_ n2_ n3_; clear hb hbox hg; have hcz7_0 : w6.cell? ⟨gb138, 0, none⟩ = some (.string (⟨#[]⟩ : ByteArray)) := (blk_cell BK138.out 0).trans rfl; have hcz7_1 : w6.cell? ⟨gb138, 1, none⟩ = some (.int .i64 0) := (blk_cell BK138.out 1).trans rfl; have hcz7_2 : w6.cell? ⟨gb138, 2, none⟩ = some (.int .i64 0) := (blk_cell BK138.out 2).trans rfl; have hcz7_3 : w6.cell? ⟨gb138, 3, none⟩ = some (.string (⟨#[]⟩ : ByteArray)) := (blk_cell BK138.out 3).trans rfl; have hfz7_0 := blk_frozen BK138.out 0; have hfz7_1 := blk_frozen BK138.out 1; have hfz7_2 := blk_frozen BK138.out 2; have hfz7_3 := blk_frozen BK138.out 3) | (go_at_call 52; (with_reducible refine (amalgamref01_Name.calls k ((rd_T62 l0 a1).f0) t139 _ A5.out).mono ?_); rintro e w' ⟨rfl, ⟨nd, rfl⟩⟩; (try first | exact ⟨rfl, _, World.drewN_drewN _ _ _⟩ | exact ⟨rfl, _, Eq.trans (World.drewN_drewN _ _ _) (congrArg (World.drewN _) (Nat.add_assoc _ _ _))⟩))))
      go_loopg [6, 7] k (fun kq v6 v7 w' => ∃ (x6_1 : Bool) (x7_1 : Int), v6 = .bool x6_1 ∧ v7 = .int .i64 x7_1 ∧ Aside0 (amalgamref01_symbol.l0 kq l0 a1 x6_1 x7_1 ((rd_T62 l0 a1).f0) ((rd_T62 l0 a1).f1) ((rd_T62 l0 a1).f2) ((rd_T62 l0 a1).f3) = some r) ∧ Aside0 (kq ≤ k) ∧ Aside0 (w'.heap[gb138]? = some (.cells #[.string ((rd_T62 l0 a1).f0), .int .i64 ((rd_T62 l0 a1).f1), .int .i64 ((rd_T62 l0 a1).f2), .string ((rd_T62 l0 a1).f3)] 62 (0, 0))) ∧ Aside0 (Below w.heap.size w w'))
      case atStart => exact ⟨(t139), (0), (by first | rfl | (simp; done) | (simp [*]; done)), (by first | rfl | (simp; done) | (simp [*]; done)), H', ⟨Nat.le_refl _⟩, ⟨by (with_reducible repeat (first | refine blk_drewN ?_ _ | refine blk_drew ?_ | refine blk_alloc ?_ _)); refine blk_put (cs := #[.string ((rd_T62 l0 a1).f0), .int .i64 ((rd_T62 l0 a1).f1), .int .i64 ((rd_T62 l0 a1).f2), .string (⟨#[]⟩ : ByteArray)]) ?_ 3 _ rfl; (with_reducible repeat (first | refine blk_drewN ?_ _ | refine blk_drew ?_ | refine blk_alloc ?_ _)); refine blk_put (cs := #[.string ((rd_T62 l0 a1).f0), .int .i64 ((rd_T62 l0 a1).f1), .int .i64 0, .string (⟨#[]⟩ : ByteArray)]) ?_ 2 _ rfl; (with_reducible repeat (first | refine blk_drewN ?_ _ | refine blk_drew ?_ | refine blk_alloc ?_ _)); refine blk_put (cs := #[.string ((rd_T62 l0 a1).f0), .int .i64 0, .int .i64 0, .string (⟨#[]⟩ : ByteArray)]) ?_ 1 _ rfl; (with_reducible repeat (first | refine blk_drewN ?_ _ | refine blk_drew ?_ | refine blk_alloc ?_ _)); refine blk_put (cs := #[.string (⟨#[]⟩ : ByteArray), .int .i64 0, .int .i64 0, .string (⟨#[]⟩ : ByteArray)]) ?_ 0 _ rfl; (with_reducible repeat (first | refine blk_drewN ?_ _ | refine blk_drew ?_ | refine blk_alloc ?_ _)); exact BK138.out⟩, ⟨by repeat (first | (with_reducible first | exact HB.out | apply below_alloc | apply pw_below_drewN | apply below_drew1 | refine below_set ?_ GE138.out) | exact HB.out)⟩⟩
      case round =>
        clear H'
        obtain ⟨x6_1, x7_1, rfl, rfl, HA, HK1, BK138, HB⟩ := hrel
        cases gk with
        | zero => exact absurd HA.out (by simp [amalgamref01_symbol.l0])
        | succ k1 =>
          have H := HA.out
          clear HA
          simp only [amalgamref01_symbol.l0] at H
          by_cases c8 : x7_1 < a1
          · rw [if_pos c8] at H
            have c8b0 : decide (x7_1 < a1) = true := decide_eq_true c8
            clear c8
            by_cases c9 : x6_1 = true
            · subst c9
              have H1 : (if 0 ≤ x7_1 then (if x7_1 < (l0.length : Int) then (amalgamref01_symbol.l0 k1 l0 a1 (((rd_T62 l0 x7_1).f0).toList != ((rd_T62 l0 a1).f0).toList) (wrap64 (x7_1 + 1)) ((rd_T62 l0 a1).f0) ((rd_T62 l0 a1).f1) ((rd_T62 l0 a1).f2) ((rd_T62 l0 a1).f3)) else (none)) else (none)) = some r := by rw [if_pos rfl] at H; exact H
              clear H
              have H := H1
              clear H1
              by_cases c10 : 0 ≤ x7_1
              · rw [if_pos c10] at H
                have c10b0 : decide (0 ≤ x7_1) = true := decide_eq_true c10
                clear c10
                by_cases c11 : x7_1 < (l0.length : Int)
                · rw [if_pos c11] at H
                  have c11b0 : decide (x7_1 < (l0.length : Int)) = true := decide_eq_true c11
                  clear c11
                  have H' := Aside0.mk H
                  clear H
                  have p140 : 0 ≤ (x7_1 : Int) := of_decide_eq_true (by first | (with_reducible assumption) | assumption)
                  have q140 : x7_1 < (l0.length : Int) := of_decide_eq_true (by first | (with_reducible assumption) | assumption)
                  obtain ⟨ad140, e140, hx140_0, hx140_1, hx140_2, hx140_3⟩ := at_T62 HR0.out x7_1 p140 q140
                  obtain rfl : ad137 = ad140 := (by injection e140)
                  replace hx140_0 := (HB.out.cell (World.block_lt_of_cell? w _ hx140_0)).trans hx140_0
                  replace hx140_1 := (HB.out.cell (World.block_lt_of_cell? w _ hx140_1)).trans hx140_1
                  replace hx140_2 := (HB.out.cell (World.block_lt_of_cell? w _ hx140_2)).trans hx140_2
                  replace hx140_3 := (HB.out.cell (World.block_lt_of_cell? w _ hx140_3)).trans hx140_3
                  replace p140 := eq_true p140
                  replace q140 := eq_true q140
                  have hcz12_0 : wr.cell? ⟨gb138, 0, none⟩ = some (.string ((rd_T62 l0 a1).f0)) := (blk_cell BK138.out 0).trans rfl
                  have hcz12_1 : wr.cell? ⟨gb138, 1, none⟩ = some (.int .i64 ((rd_T62 l0 a1).f1)) := (blk_cell BK138.out 1).trans rfl
                  have hcz12_2 : wr.cell? ⟨gb138, 2, none⟩ = some (.int .i64 ((rd_T62 l0 a1).f2)) := (blk_cell BK138.out 2).trans rfl
                  have hcz12_3 : wr.cell? ⟨gb138, 3, none⟩ = some (.string ((rd_T62 l0 a1).f3)) := (blk_cell BK138.out 3).trans rfl
                  have hfz12_0 := blk_frozen BK138.out 0
                  have hfz12_1 := blk_frozen BK138.out 1
                  have hfz12_2 := blk_frozen BK138.out 2
                  have hfz12_3 := blk_frozen BK138.out 3
                  go_wp2
                  repeat (go_quiet (fail); try go_wp2)
                  go_roundg k1
                  case measure => have := HK1.out; omega
                  case rel => exact ⟨((((rd_T62 l0 x7_1).f0).toList != ((rd_T62 l0 a1).f0).toList)), (wrap64 (x7_1 + 1)), (by first | rfl | (simp; done) | (simp [*]; done)), (by first | rfl | (simp; done) | (simp [*]; done)), H', ⟨by have := HK1.out; omega⟩, ⟨by (with_reducible repeat (first | refine blk_drewN ?_ _ | refine blk_drew ?_ | refine blk_alloc ?_ _)); exact BK138.out⟩, ⟨by repeat (first | (with_reducible first | exact HB.out | apply below_alloc | apply pw_below_drewN | apply below_drew1 | refine below_set ?_ GE138.out) | exact HB.out)⟩⟩
                · rw [if_neg c11] at H
                  exact absurd H (by simp)
              · rw [if_neg c10] at H
                exact absurd H (by simp)
            · replace c9 := Bool.eq_false_iff.mpr c9
              subst c9
              have H1 : (amalgamref01_symbol.l0 k1 l0 a1 false (wrap64 (x7_1 + 1)) ((rd_T62 l0 a1).f0) ((rd_T62 l0 a1).f1) ((rd_T62 l0 a1).f2) ((rd_T62 l0 a1).f3)) = some r := by rw [if_neg (show ¬ (false = true) by decide)] at H; exact H
              clear H
              have H := H1
              clear H1
              have H' := Aside0.mk H
              clear H
              go_wp2
              repeat (go_quiet (fail); try go_wp2)
              go_roundg k1
              case measure => have := HK1.out; omega
              case rel => exact ⟨(false), (wrap64 (x7_1 + 1)), (by first | rfl | (simp; done) | (simp [*]; done)), (by first | rfl | (simp; done) | (simp [*]; done)), H', ⟨by have := HK1.out; omega⟩, ⟨by (with_reducible repeat (first | refine blk_drewN ?_ _ | refine blk_drew ?_ | refine blk_alloc ?_ _)); exact BK138.out⟩, ⟨by repeat (first | (with_reducible first | exact HB.out | apply below_alloc | apply pw_below_drewN | apply below_drew1 | refine below_set ?_ GE138.out) | exact HB.out)⟩⟩
          · rw [if_neg c8] at H
            have c8b0 : decide (x7_1 < a1) = false := decide_eq_false c8
            clear c8
            by_cases c13 : x6_1 = true
            · subst c13
              have H1 : (if ((rd_T62 l0 a1).f1) = 1 then (amalgamref01_symbol.j1 k1 l0 a1 false ((rd_T62 l0 a1).f0) ((rd_T62 l0 a1).f1) ((rd_T62 l0 a1).f2) ((rd_T62 l0 a1).f3)) else (if ((rd_T62 l0 a1).f1) = 2 then (amalgamref01_symbol.j1 k1 l0 a1 false ((rd_T62 l0 a1).f0) ((rd_T62 l0 a1).f1) ((rd_T62 l0 a1).f2) ((rd_T62 l0 a1).f3)) else (amalgamref01_symbol.j1 k1 l0 a1 (((rd_T62 l0 a1).f1) != 3) ((rd_T62 l0 a1).f0) ((rd_T62 l0 a1).f1) ((rd_T62 l0 a1).f2) ((rd_T62 l0 a1).f3)))) = some r := by rw [if_pos rfl] at H; exact H
              clear H
              have H := H1
              clear H1
              have HC14 := Aside0.mk H
              clear H
              go_upto_region 9 with (fail)
              repeat (go_quiet (fail); go_upto_region 9 with (fail))
              go_cut [46] (fun v46 wc => ∃ (kq : Nat) (x46_13 : Bool), v46 = .bool x46_13 ∧ Aside0 (amalgamref01_symbol.j1 kq l0 a1 x46_13 ((rd_T62 l0 a1).f0) ((rd_T62 l0 a1).f1) ((rd_T62 l0 a1).f2) ((rd_T62 l0 a1).f3) = some r) ∧ Aside0 (kq ≤ k1) ∧ Aside0 (wc.heap[gb138]? = some (.cells #[.string ((rd_T62 l0 a1).f0), .int .i64 ((rd_T62 l0 a1).f1), .int .i64 ((rd_T62 l0 a1).f2), .string ((rd_T62 l0 a1).f3)] 62 (0, 0))) ∧ Aside0 (Below w.heap.size w wc))
              case first =>
                have H := HC14.out
                clear HC14
                by_cases c15 : ((rd_T62 l0 a1).f1) = 1
                · rw [if_pos c15] at H
                  have c15b0 : (((rd_T62 l0 a1).f1) == 1) = true := beq_iff_eq.mpr c15
                  have c15b1 : (((rd_T62 l0 a1).f1) != 1) = false := bne_eq_false_iff_eq.mpr c15
                  clear c15
                  (first | rw [c15b0] | (simp only [i64_w, i32_w]; rw [c15b0]) | skip)
                  have H' := Aside0.mk H
                  clear H
                  have hcz16_0 : wr.cell? ⟨gb138, 0, none⟩ = some (.string ((rd_T62 l0 a1).f0)) := (blk_cell BK138.out 0).trans rfl
                  have hcz16_1 : wr.cell? ⟨gb138, 1, none⟩ = some (.int .i64 ((rd_T62 l0 a1).f1)) := (blk_cell BK138.out 1).trans rfl
                  have hcz16_2 : wr.cell? ⟨gb138, 2, none⟩ = some (.int .i64 ((rd_T62 l0 a1).f2)) := (blk_cell BK138.out 2).trans rfl
                  have hcz16_3 : wr.cell? ⟨gb138, 3, none⟩ = some (.string ((rd_T62 l0 a1).f3)) := (blk_cell BK138.out 3).trans rfl
                  have hfz16_0 := blk_frozen BK138.out 0
                  have hfz16_1 := blk_frozen BK138.out 1
                  have hfz16_2 := blk_frozen BK138.out 2
                  have hfz16_3 := blk_frozen BK138.out 3
                  go_wp2
                  repeat (go_quiet (fail); try go_wp2)
                  go_meet
                  case rel => exact ⟨_, (false), (by first | rfl | (simp; done) | (simp [*]; done)), H', ⟨by have := HK1.out; first | omega | exact Nat.le_refl _⟩, ⟨by (with_reducible repeat (first | refine blk_drewN ?_ _ | refine blk_drew ?_ | refine blk_alloc ?_ _)); exact BK138.out⟩, ⟨by repeat (first | (with_reducible first | exact HB.out | apply below_alloc | apply pw_below_drewN | apply below_drew1 | refine below_set ?_ GE138.out) | exact HB.out)⟩⟩
                · rw [if_neg c15] at H
                  have c15b0 : (((rd_T62 l0 a1).f1) == 1) = false := beq_eq_false_iff_ne.mpr c15
                  have c15b1 : (((rd_T62 l0 a1).f1) != 1) = true := bne_iff_ne.mpr c15
                  (first | rw [c15b0] | (simp only [i64_w, i32_w]; rw [c15b0]) | skip)
                  by_cases c17 : ((rd_T62 l0 a1).f1) = 2
                  · rw [if_pos c17] at H
                    have c17b0 : (((rd_T62 l0 a1).f1) == 2) = true := beq_iff_eq.mpr c17
                    have c17b1 : (((rd_T62 l0 a1).f1) != 2) = false := bne_eq_false_iff_eq.mpr c17
                    clear c17
                    have H' := Aside0.mk H
                    clear H
                    have hcz18_0 : wr.cell? ⟨gb138, 0, none⟩ = some (.string ((rd_T62 l0 a1).f0)) := (blk_cell BK138.out 0).trans rfl
                    have hcz18_1 : wr.cell? ⟨gb138, 1, none⟩ = some (.int .i64 ((rd_T62 l0 a1).f1)) := (blk_cell BK138.out 1).trans rfl
                    have hcz18_2 : wr.cell? ⟨gb138, 2, none⟩ = some (.int .i64 ((rd_T62 l0 a1).f2)) := (blk_cell BK138.out 2).trans rfl
                    have hcz18_3 : wr.cell? ⟨gb138, 3, none⟩ = some (.string ((rd_T62 l0 a1).f3)) := (blk_cell BK138.out 3).trans rfl
                    have hfz18_0 := blk_frozen BK138.out 0
                    have hfz18_1 := blk_frozen BK138.out 1
                    have hfz18_2 := blk_frozen BK138.out 2
                    have hfz18_3 := blk_frozen BK138.out 3
                    go_wp2
                    repeat (go_quiet (fail); try go_wp2)
                    go_meet
                    case rel => exact ⟨_, (false), (by first | rfl | (simp; done) | (simp [*]; done)), H', ⟨by have := HK1.out; first | omega | exact Nat.le_refl _⟩, ⟨by (with_reducible repeat (first | refine blk_drewN ?_ _ | refine blk_drew ?_ | refine blk_alloc ?_ _)); exact BK138.out⟩, ⟨by repeat (first | (with_reducible first | exact HB.out | apply below_alloc | apply pw_below_drewN | apply below_drew1 | refine below_set ?_ GE138.out) | exact HB.out)⟩⟩
                  · rw [if_neg c17] at H
                    have c17b0 : (((rd_T62 l0 a1).f1) == 2) = false := beq_eq_false_iff_ne.mpr c17
                    have c17b1 : (((rd_T62 l0 a1).f1) != 2) = true := bne_iff_ne.mpr c17
                    have H' := Aside0.mk H
                    clear H
                    have hcz19_0 : wr.cell? ⟨gb138, 0, none⟩ = some (.string ((rd_T62 l0 a1).f0)) := (blk_cell BK138.out 0).trans rfl
                    have hcz19_1 : wr.cell? ⟨gb138, 1, none⟩ = some (.int .i64 ((rd_T62 l0 a1).f1)) := (blk_cell BK138.out 1).trans rfl
                    have hcz19_2 : wr.cell? ⟨gb138, 2, none⟩ = some (.int .i64 ((rd_T62 l0 a1).f2)) := (blk_cell BK138.out 2).trans rfl
                    have hcz19_3 : wr.cell? ⟨gb138, 3, none⟩ = some (.string ((rd_T62 l0 a1).f3)) := (blk_cell BK138.out 3).trans rfl
                    have hfz19_0 := blk_frozen BK138.out 0
                    have hfz19_1 := blk_frozen BK138.out 1
                    have hfz19_2 := blk_frozen BK138.out 2
                    have hfz19_3 := blk_frozen BK138.out 3
                    go_wp2
                    repeat (go_quiet (fail); try go_wp2)
                    go_meet
                    case rel => exact ⟨_, ((((rd_T62 l0 a1).f1) != 3)), (by first | rfl | (simp; done) | (simp [*]; done)), H', ⟨by have := HK1.out; first | omega | exact Nat.le_refl _⟩, ⟨by (with_reducible repeat (first | refine blk_drewN ?_ _ | refine blk_drew ?_ | refine blk_alloc ?_ _)); exact BK138.out⟩, ⟨by repeat (first | (with_reducible first | exact HB.out | apply below_alloc | apply pw_below_drewN | apply below_drew1 | refine below_set ?_ GE138.out) | exact HB.out)⟩⟩
              case rest =>
                clear HC14
                obtain ⟨kq, x46_13, rfl, HA, HJ13, BK138, HB⟩ := hcut
                cases kq with
                | zero => exact absurd HA.out (by simp [amalgamref01_symbol.j1])
                | succ kj13 =>
                  have H := HA.out
                  clear HA
                  simp only [amalgamref01_symbol.j1] at H
                  by_cases c20 : x46_13 = true
                  · subst c20
                    have H1 : (some 12) = some r := by rw [if_pos rfl] at H; exact H
                    clear H
                    have H := H1
                    clear H1
                    obtain rfl := Option.some.inj H
                    go_wp2
                    repeat (go_quiet (fail); try go_wp2)
                    go_ret
                    exact ⟨by first | rfl | (simp [errW_none, errW_some] <;> rfl) | (simp [*, errW_none, errW_some] <;> rfl), by repeat (first | (with_reducible first | exact HB.out | apply below_alloc | apply pw_below_drewN | apply below_drew1 | refine below_set ?_ GE138.out) | exact HB.out)⟩
                  · replace c20 := Bool.eq_false_iff.mpr c20
                    subst c20
                    have H1 : (if ((rd_T62 l0 a1).f1) = 1 then (if ((rd_T62 l0 a1).f2) < 0 then (amalgamref01_symbol.j2 kj13 l0 a1 true ((rd_T62 l0 a1).f0) ((rd_T62 l0 a1).f1) ((rd_T62 l0 a1).f2) ((rd_T62 l0 a1).f3)) else (if ((rd_T62 l0 a1).f2) > 4 then (amalgamref01_symbol.j2 kj13 l0 a1 true ((rd_T62 l0 a1).f0) ((rd_T62 l0 a1).f1) ((rd_T62 l0 a1).f2) ((rd_T62 l0 a1).f3)) else (amalgamref01_symbol.j2 kj13 l0 a1 false ((rd_T62 l0 a1).f0) ((rd_T62 l0 a1).f1) ((rd_T62 l0 a1).f2) ((rd_T62 l0 a1).f3)))) else (amalgamref01_symbol.j2 kj13 l0 a1 (((rd_T62 l0 a1).f2) != 2) ((rd_T62 l0 a1).f0) ((rd_T62 l0 a1).f1) ((rd_T62 l0 a1).f2) ((rd_T62 l0 a1).f3))) = some r := by rw [if_neg (show ¬ (false = true) by decide)] at H; exact H
                    clear H
                    have H := H1
                    clear H1
                    have HC21 := Aside0.mk H
                    clear H
                    go_upto_region 11 with (fail)
                    repeat (go_quiet (fail); go_upto_region 11 with (fail))
                    go_cut [69] (fun v69 wc => ∃ (kq : Nat) (x69_20 : Bool), v69 = .bool x69_20 ∧ Aside0 (amalgamref01_symbol.j2 kq l0 a1 x69_20 ((rd_T62 l0 a1).f0) ((rd_T62 l0 a1).f1) ((rd_T62 l0 a1).f2) ((rd_T62 l0 a1).f3) = some r) ∧ Aside0 (kq ≤ kj13) ∧ Aside0 (wc.heap[gb138]? = some (.cells #[.string ((rd_T62 l0 a1).f0), .int .i64 ((rd_T62 l0 a1).f1), .int .i64 ((rd_T62 l0 a1).f2), .string ((rd_T62 l0 a1).f3)] 62 (0, 0))) ∧ Aside0 (Below w.heap.size w wc))
                    case first =>
                      have H := HC21.out
                      clear HC21
                      by_cases c22 : ((rd_T62 l0 a1).f1) = 1
                      · rw [if_pos c22] at H
                        have c22b0 : (((rd_T62 l0 a1).f1) == 1) = true := beq_iff_eq.mpr c22
                        have c22b1 : (((rd_T62 l0 a1).f1) != 1) = false := bne_eq_false_iff_eq.mpr c22
                        clear c22
                        (first | rw [c22b0] | (simp only [i64_w, i32_w]; rw [c22b0]) | skip)
                        by_cases c23 : ((rd_T62 l0 a1).f2) < 0
                        · rw [if_pos c23] at H
                          have c23b0 : decide (((rd_T62 l0 a1).f2) < 0) = true := decide_eq_true c23
                          clear c23
                          have H' := Aside0.mk H
                          clear H
                          have hcz24_0 : wc.cell? ⟨gb138, 0, none⟩ = some (.string ((rd_T62 l0 a1).f0)) := (blk_cell BK138.out 0).trans rfl
                          have hcz24_1 : wc.cell? ⟨gb138, 1, none⟩ = some (.int .i64 ((rd_T62 l0 a1).f1)) := (blk_cell BK138.out 1).trans rfl
                          have hcz24_2 : wc.cell? ⟨gb138, 2, none⟩ = some (.int .i64 ((rd_T62 l0 a1).f2)) := (blk_cell BK138.out 2).trans rfl
                          have hcz24_3 : wc.cell? ⟨gb138, 3, none⟩ = some (.string ((rd_T62 l0 a1).f3)) := (blk_cell BK138.out 3).trans rfl
                          have hfz24_0 := blk_frozen BK138.out 0
                          have hfz24_1 := blk_frozen BK138.out 1
                          have hfz24_2 := blk_frozen BK138.out 2
                          have hfz24_3 := blk_frozen BK138.out 3
                          go_wp2
                          repeat (go_quiet (fail); try go_wp2)
                          go_meet
                          case rel => exact ⟨_, (true), (by first | rfl | (simp; done) | (simp [*]; done)), H', ⟨by have := HK1.out; have := HJ13.out; first | omega | exact Nat.le_refl _⟩, ⟨by (with_reducible repeat (first | refine blk_drewN ?_ _ | refine blk_drew ?_ | refine blk_alloc ?_ _)); exact BK138.out⟩, ⟨by repeat (first | (with_reducible first | exact HB.out | apply below_alloc | apply pw_below_drewN | apply below_drew1 | refine below_set ?_ GE138.out) | exact HB.out)⟩⟩
                        · rw [if_neg c23] at H
                          have c23b0 : decide (((rd_T62 l0 a1).f2) < 0) = false := decide_eq_false c23
                          clear c23
                          by_cases c25 : ((rd_T62 l0 a1).f2) > 4
                          · rw [if_pos c25] at H
                            have c25b0 : decide (4 < ((rd_T62 l0 a1).f2)) = true := decide_eq_true c25
                            clear c25
                            have H' := Aside0.mk H
                            clear H
                            have hcz26_0 : wc.cell? ⟨gb138, 0, none⟩ = some (.string ((rd_T62 l0 a1).f0)) := (blk_cell BK138.out 0).trans rfl
                            have hcz26_1 : wc.cell? ⟨gb138, 1, none⟩ = some (.int .i64 ((rd_T62 l0 a1).f1)) := (blk_cell BK138.out 1).trans rfl
                            have hcz26_2 : wc.cell? ⟨gb138, 2, none⟩ = some (.int .i64 ((rd_T62 l0 a1).f2)) := (blk_cell BK138.out 2).trans rfl
                            have hcz26_3 : wc.cell? ⟨gb138, 3, none⟩ = some (.string ((rd_T62 l0 a1).f3)) := (blk_cell BK138.out 3).trans rfl
                            have hfz26_0 := blk_frozen BK138.out 0
                            have hfz26_1 := blk_frozen BK138.out 1
                            have hfz26_2 := blk_frozen BK138.out 2
                            have hfz26_3 := blk_frozen BK138.out 3
                            go_wp2
                            repeat (go_quiet (fail); try go_wp2)
                            go_meet
                            case rel => exact ⟨_, (true), (by first | rfl | (simp; done) | (simp [*]; done)), H', ⟨by have := HK1.out; have := HJ13.out; first | omega | exact Nat.le_refl _⟩, ⟨by (with_reducible repeat (first | refine blk_drewN ?_ _ | refine blk_drew ?_ | refine blk_alloc ?_ _)); exact BK138.out⟩, ⟨by repeat (first | (with_reducible first | exact HB.out | apply below_alloc | apply pw_below_drewN | apply below_drew1 | refine below_set ?_ GE138.out) | exact HB.out)⟩⟩
                          · rw [if_neg c25] at H
                            have c25b0 : decide (4 < ((rd_T62 l0 a1).f2)) = false := decide_eq_false c25
                            clear c25
                            have H' := Aside0.mk H
                            clear H
                            have hcz27_0 : wc.cell? ⟨gb138, 0, none⟩ = some (.string ((rd_T62 l0 a1).f0)) := (blk_cell BK138.out 0).trans rfl
                            have hcz27_1 : wc.cell? ⟨gb138, 1, none⟩ = some (.int .i64 ((rd_T62 l0 a1).f1)) := (blk_cell BK138.out 1).trans rfl
                            have hcz27_2 : wc.cell? ⟨gb138, 2, none⟩ = some (.int .i64 ((rd_T62 l0 a1).f2)) := (blk_cell BK138.out 2).trans rfl
                            have hcz27_3 : wc.cell? ⟨gb138, 3, none⟩ = some (.string ((rd_T62 l0 a1).f3)) := (blk_cell BK138.out 3).trans rfl
                            have hfz27_0 := blk_frozen BK138.out 0
                            have hfz27_1 := blk_frozen BK138.out 1
                            have hfz27_2 := blk_frozen BK138.out 2
                            have hfz27_3 := blk_frozen BK138.out 3
                            go_wp2
                            repeat (go_quiet (fail); try go_wp2)
                            go_meet
                            case rel => exact ⟨_, (false), (by first | rfl | (simp; done) | (simp [*]; done)), H', ⟨by have := HK1.out; have := HJ13.out; first | omega | exact Nat.le_refl _⟩, ⟨by (with_reducible repeat (first | refine blk_drewN ?_ _ | refine blk_drew ?_ | refine blk_alloc ?_ _)); exact BK138.out⟩, ⟨by repeat (first | (with_reducible first | exact HB.out | apply below_alloc | apply pw_below_drewN | apply below_drew1 | refine below_set ?_ GE138.out) | exact HB.out)⟩⟩
                      · rw [if_neg c22] at H
                        have c22b0 : (((rd_T62 l0 a1).f1) == 1) = false := beq_eq_false_iff_ne.mpr c22
                        have c22b1 : (((rd_T62 l0 a1).f1) != 1) = true := bne_iff_ne.mpr c22
                        (first | rw [c22b0] | (simp only [i64_w, i32_w]; rw [c22b0]) | skip)
                        have H' := Aside0.mk H
                        clear H
                        have hcz28_0 : wc.cell? ⟨gb138, 0, none⟩ = some (.string ((rd_T62 l0 a1).f0)) := (blk_cell BK138.out 0).trans rfl
                        have hcz28_1 : wc.cell? ⟨gb138, 1, none⟩ = some (.int .i64 ((rd_T62 l0 a1).f1)) := (blk_cell BK138.out 1).trans rfl
                        have hcz28_2 : wc.cell? ⟨gb138, 2, none⟩ = some (.int .i64 ((rd_T62 l0 a1).f2)) := (blk_cell BK138.out 2).trans rfl
                        have hcz28_3 : wc.cell? ⟨gb138, 3, none⟩ = some (.string ((rd_T62 l0 a1).f3)) := (blk_cell BK138.out 3).trans rfl
                        have hfz28_0 := blk_frozen BK138.out 0
                        have hfz28_1 := blk_frozen BK138.out 1
                        have hfz28_2 := blk_frozen BK138.out 2
                        have hfz28_3 := blk_frozen BK138.out 3
                        go_wp2
                        repeat (go_quiet (fail); try go_wp2)
                        go_meet
                        case rel => exact ⟨_, ((((rd_T62 l0 a1).f2) != 2)), (by first | rfl | (simp; done) | (simp [*]; done)), H', ⟨by have := HK1.out; have := HJ13.out; first | omega | exact Nat.le_refl _⟩, ⟨by (with_reducible repeat (first | refine blk_drewN ?_ _ | refine blk_drew ?_ | refine blk_alloc ?_ _)); exact BK138.out⟩, ⟨by repeat (first | (with_reducible first | exact HB.out | apply below_alloc | apply pw_below_drewN | apply below_drew1 | refine below_set ?_ GE138.out) | exact HB.out)⟩⟩
                    case rest =>
                      clear HC21
                      obtain ⟨kq, x69_20, rfl, HA, HJ20, BK138, HB⟩ := hcut
                      cases kq with
                      | zero => exact absurd HA.out (by simp [amalgamref01_symbol.j2])
                      | succ kj20 =>
                        have H := HA.out
                        clear HA
                        simp only [amalgamref01_symbol.j2] at H
                        by_cases c29 : x69_20 = true
                        · subst c29
                          have H1 : (some 13) = some r := by rw [if_pos rfl] at H; exact H
                          clear H
                          have H := H1
                          clear H1
                          obtain rfl := Option.some.inj H
                          go_wp2
                          repeat (go_quiet (fail); try go_wp2)
                          go_ret
                          exact ⟨by first | rfl | (simp [errW_none, errW_some] <;> rfl) | (simp [*, errW_none, errW_some] <;> rfl), by repeat (first | (with_reducible first | exact HB.out | apply below_alloc | apply pw_below_drewN | apply below_drew1 | refine below_set ?_ GE138.out) | exact HB.out)⟩
                        · replace c29 := Bool.eq_false_iff.mpr c29
                          subst c29
                          have H1 : (if ((rd_T62 l0 a1).f1) = 3 then (amalgamref01_symbol.l1 kj20 l0 a1 0 ((rd_T62 l0 a1).f0) ((rd_T62 l0 a1).f1) ((rd_T62 l0 a1).f2) ((rd_T62 l0 a1).f3)) else (if ((rd_T62 l0 a1).f3).toList = ([] : List UInt8) then (some 0) else (some 14))) = some r := by rw [if_neg (show ¬ (false = true) by decide)] at H; exact H
                          clear H
                          have H := H1
                          clear H1
                          by_cases c30 : ((rd_T62 l0 a1).f1) = 3
                          · rw [if_pos c30] at H
                            have c30b0 : (((rd_T62 l0 a1).f1) == 3) = true := beq_iff_eq.mpr c30
                            have c30b1 : (((rd_T62 l0 a1).f1) != 3) = false := bne_eq_false_iff_eq.mpr c30
                            clear c30
                            have H' := Aside0.mk H
                            clear H
                            have hcz31_0 : wc.cell? ⟨gb138, 0, none⟩ = some (.string ((rd_T62 l0 a1).f0)) := (blk_cell BK138.out 0).trans rfl
                            have hcz31_1 : wc.cell? ⟨gb138, 1, none⟩ = some (.int .i64 ((rd_T62 l0 a1).f1)) := (blk_cell BK138.out 1).trans rfl
                            have hcz31_2 : wc.cell? ⟨gb138, 2, none⟩ = some (.int .i64 ((rd_T62 l0 a1).f2)) := (blk_cell BK138.out 2).trans rfl
                            have hcz31_3 : wc.cell? ⟨gb138, 3, none⟩ = some (.string ((rd_T62 l0 a1).f3)) := (blk_cell BK138.out 3).trans rfl
                            have hfz31_0 := blk_frozen BK138.out 0
                            have hfz31_1 := blk_frozen BK138.out 1
                            have hfz31_2 := blk_frozen BK138.out 2
                            have hfz31_3 := blk_frozen BK138.out 3
                            go_wp2
                            repeat (go_quiet (fail); try go_wp2)
                            go_loopg [8] kj20 (fun kq v8 w' => ∃ (x8_4 : Int), v8 = .int .i64 x8_4 ∧ Aside0 (amalgamref01_symbol.l1 kq l0 a1 x8_4 ((rd_T62 l0 a1).f0) ((rd_T62 l0 a1).f1) ((rd_T62 l0 a1).f2) ((rd_T62 l0 a1).f3) = some r) ∧ Aside0 (kq ≤ kj20) ∧ Aside0 (w'.heap[gb138]? = some (.cells #[.string ((rd_T62 l0 a1).f0), .int .i64 ((rd_T62 l0 a1).f1), .int .i64 ((rd_T62 l0 a1).f2), .string ((rd_T62 l0 a1).f3)] 62 (0, 0))) ∧ Aside0 (Below w.heap.size w w'))
                            case atStart => exact ⟨(0), (by first | rfl | (simp; done) | (simp [*]; done)), H', ⟨Nat.le_refl _⟩, ⟨by (with_reducible repeat (first | refine blk_drewN ?_ _ | refine blk_drew ?_ | refine blk_alloc ?_ _)); exact BK138.out⟩, ⟨by repeat (first | (with_reducible first | exact HB.out | apply below_alloc | apply pw_below_drewN | apply below_drew1 | refine below_set ?_ GE138.out) | exact HB.out)⟩⟩
                            case round =>
                              clear H'
                              obtain ⟨x8_4, rfl, HA, HK4, BK138, HB⟩ := hrel
                              cases gk with
                              | zero => exact absurd HA.out (by simp [amalgamref01_symbol.l1])
                              | succ k4 =>
                                have H := HA.out
                                clear HA
                                simp only [amalgamref01_symbol.l1] at H
                                by_cases c32 : x8_4 < a1
                                · rw [if_pos c32] at H
                                  have c32b0 : decide (x8_4 < a1) = true := decide_eq_true c32
                                  clear c32
                                  by_cases c33 : 0 ≤ x8_4
                                  · rw [if_pos c33] at H
                                    have c33b0 : decide (0 ≤ x8_4) = true := decide_eq_true c33
                                    clear c33
                                    by_cases c34 : x8_4 < (l0.length : Int)
                                    · rw [if_pos c34] at H
                                      have c34b0 : decide (x8_4 < (l0.length : Int)) = true := decide_eq_true c34
                                      clear c34
                                      by_cases c35 : ((rd_T62 l0 x8_4).f1) = 1
                                      · rw [if_pos c35] at H
                                        have c35b0 : (((rd_T62 l0 x8_4).f1) == 1) = true := beq_iff_eq.mpr c35
                                        have c35b1 : (((rd_T62 l0 x8_4).f1) != 1) = false := bne_eq_false_iff_eq.mpr c35
                                        clear c35
                                        by_cases c36 : ((rd_T62 l0 x8_4).f2) = 0
                                        · rw [if_pos c36] at H
                                          have c36b0 : (((rd_T62 l0 x8_4).f2) == 0) = true := beq_iff_eq.mpr c36
                                          have c36b1 : (((rd_T62 l0 x8_4).f2) != 0) = false := bne_eq_false_iff_eq.mpr c36
                                          clear c36
                                          by_cases c37 : ((rd_T62 l0 x8_4).f0).toList = ((rd_T62 l0 a1).f3).toList
                                          · rw [if_pos c37] at H
                                            have c37b0 : (((rd_T62 l0 x8_4).f0).toList == ((rd_T62 l0 a1).f3).toList) = true := beq_iff_eq.mpr c37
                                            have c37b1 : (((rd_T62 l0 x8_4).f0).toList != ((rd_T62 l0 a1).f3).toList) = false := bne_eq_false_iff_eq.mpr c37
                                            clear c37
                                            obtain rfl := Option.some.inj H
                                            have p141 : 0 ≤ (x8_4 : Int) := of_decide_eq_true (by first | (with_reducible assumption) | assumption)
                                            have q141 : x8_4 < (l0.length : Int) := of_decide_eq_true (by first | (with_reducible assumption) | assumption)
                                            obtain ⟨ad141, e141, hx141_0, hx141_1, hx141_2, hx141_3⟩ := at_T62 HR0.out x8_4 p141 q141
                                            obtain rfl : ad137 = ad141 := (by injection e141)
                                            replace hx141_0 := (HB.out.cell (World.block_lt_of_cell? w _ hx141_0)).trans hx141_0
                                            replace hx141_1 := (HB.out.cell (World.block_lt_of_cell? w _ hx141_1)).trans hx141_1
                                            replace hx141_2 := (HB.out.cell (World.block_lt_of_cell? w _ hx141_2)).trans hx141_2
                                            replace hx141_3 := (HB.out.cell (World.block_lt_of_cell? w _ hx141_3)).trans hx141_3
                                            replace p141 := eq_true p141
                                            replace q141 := eq_true q141
                                            have p142 : 0 ≤ (x8_4 : Int) := of_decide_eq_true (by first | (with_reducible assumption) | assumption)
                                            have q142 : x8_4 < (l0.length : Int) := of_decide_eq_true (by first | (with_reducible assumption) | assumption)
                                            obtain ⟨ad142, e142, hx142_0, hx142_1, hx142_2, hx142_3⟩ := at_T62 HR0.out x8_4 p142 q142
                                            obtain rfl : ad137 = ad142 := (by injection e142)
                                            replace hx142_0 := (HB.out.cell (World.block_lt_of_cell? w _ hx142_0)).trans hx142_0
                                            replace hx142_1 := (HB.out.cell (World.block_lt_of_cell? w _ hx142_1)).trans hx142_1
                                            replace hx142_2 := (HB.out.cell (World.block_lt_of_cell? w _ hx142_2)).trans hx142_2
                                            replace hx142_3 := (HB.out.cell (World.block_lt_of_cell? w _ hx142_3)).trans hx142_3
                                            replace p142 := eq_true p142
                                            replace q142 := eq_true q142
                                            have p143 : 0 ≤ (x8_4 : Int) := of_decide_eq_true (by first | (with_reducible assumption) | assumption)
                                            have q143 : x8_4 < (l0.length : Int) := of_decide_eq_true (by first | (with_reducible assumption) | assumption)
                                            obtain ⟨ad143, e143, hx143_0, hx143_1, hx143_2, hx143_3⟩ := at_T62 HR0.out x8_4 p143 q143
                                            obtain rfl : ad137 = ad143 := (by injection e143)
                                            replace hx143_0 := (HB.out.cell (World.block_lt_of_cell? w _ hx143_0)).trans hx143_0
                                            replace hx143_1 := (HB.out.cell (World.block_lt_of_cell? w _ hx143_1)).trans hx143_1
                                            replace hx143_2 := (HB.out.cell (World.block_lt_of_cell? w _ hx143_2)).trans hx143_2
                                            replace hx143_3 := (HB.out.cell (World.block_lt_of_cell? w _ hx143_3)).trans hx143_3
                                            replace p143 := eq_true p143
                                            replace q143 := eq_true q143
                                            have hcz38_0 : wr.cell? ⟨gb138, 0, none⟩ = some (.string ((rd_T62 l0 a1).f0)) := (blk_cell BK138.out 0).trans rfl
                                            have hcz38_1 : wr.cell? ⟨gb138, 1, none⟩ = some (.int .i64 ((rd_T62 l0 a1).f1)) := (blk_cell BK138.out 1).trans rfl
                                            have hcz38_2 : wr.cell? ⟨gb138, 2, none⟩ = some (.int .i64 ((rd_T62 l0 a1).f2)) := (blk_cell BK138.out 2).trans rfl
                                            have hcz38_3 : wr.cell? ⟨gb138, 3, none⟩ = some (.string ((rd_T62 l0 a1).f3)) := (blk_cell BK138.out 3).trans rfl
                                            have hfz38_0 := blk_frozen BK138.out 0
                                            have hfz38_1 := blk_frozen BK138.out 1
                                            have hfz38_2 := blk_frozen BK138.out 2
                                            have hfz38_3 := blk_frozen BK138.out 3
                                            go_wp2
                                            repeat (go_quiet (fail); try go_wp2)
                                            go_ret
                                            exact ⟨by first | rfl | (simp [errW_none, errW_some] <;> rfl) | (simp [*, errW_none, errW_some] <;> rfl), by repeat (first | (with_reducible first | exact HB.out | apply below_alloc | apply pw_below_drewN | apply below_drew1 | refine below_set ?_ GE138.out) | exact HB.out)⟩
                                          · rw [if_neg c37] at H
                                            have c37b0 : (((rd_T62 l0 x8_4).f0).toList == ((rd_T62 l0 a1).f3).toList) = false := beq_eq_false_iff_ne.mpr c37
                                            have c37b1 : (((rd_T62 l0 x8_4).f0).toList != ((rd_T62 l0 a1).f3).toList) = true := bne_iff_ne.mpr c37
                                            have H' := Aside0.mk H
                                            clear H
                                            have p141 : 0 ≤ (x8_4 : Int) := of_decide_eq_true (by first | (with_reducible assumption) | assumption)
                                            have q141 : x8_4 < (l0.length : Int) := of_decide_eq_true (by first | (with_reducible assumption) | assumption)
                                            obtain ⟨ad141, e141, hx141_0, hx141_1, hx141_2, hx141_3⟩ := at_T62 HR0.out x8_4 p141 q141
                                            obtain rfl : ad137 = ad141 := (by injection e141)
                                            replace hx141_0 := (HB.out.cell (World.block_lt_of_cell? w _ hx141_0)).trans hx141_0
                                            replace hx141_1 := (HB.out.cell (World.block_lt_of_cell? w _ hx141_1)).trans hx141_1
                                            replace hx141_2 := (HB.out.cell (World.block_lt_of_cell? w _ hx141_2)).trans hx141_2
                                            replace hx141_3 := (HB.out.cell (World.block_lt_of_cell? w _ hx141_3)).trans hx141_3
                                            replace p141 := eq_true p141
                                            replace q141 := eq_true q141
                                            have p142 : 0 ≤ (x8_4 : Int) := of_decide_eq_true (by first | (with_reducible assumption) | assumption)
                                            have q142 : x8_4 < (l0.length : Int) := of_decide_eq_true (by first | (with_reducible assumption) | assumption)
                                            obtain ⟨ad142, e142, hx142_0, hx142_1, hx142_2, hx142_3⟩ := at_T62 HR0.out x8_4 p142 q142
                                            obtain rfl : ad137 = ad142 := (by injection e142)
                                            replace hx142_0 := (HB.out.cell (World.block_lt_of_cell? w _ hx142_0)).trans hx142_0
                                            replace hx142_1 := (HB.out.cell (World.block_lt_of_cell? w _ hx142_1)).trans hx142_1
                                            replace hx142_2 := (HB.out.cell (World.block_lt_of_cell? w _ hx142_2)).trans hx142_2
                                            replace hx142_3 := (HB.out.cell (World.block_lt_of_cell? w _ hx142_3)).trans hx142_3
                                            replace p142 := eq_true p142
                                            replace q142 := eq_true q142
                                            have p143 : 0 ≤ (x8_4 : Int) := of_decide_eq_true (by first | (with_reducible assumption) | assumption)
                                            have q143 : x8_4 < (l0.length : Int) := of_decide_eq_true (by first | (with_reducible assumption) | assumption)
                                            obtain ⟨ad143, e143, hx143_0, hx143_1, hx143_2, hx143_3⟩ := at_T62 HR0.out x8_4 p143 q143
                                            obtain rfl : ad137 = ad143 := (by injection e143)
                                            replace hx143_0 := (HB.out.cell (World.block_lt_of_cell? w _ hx143_0)).trans hx143_0
                                            replace hx143_1 := (HB.out.cell (World.block_lt_of_cell? w _ hx143_1)).trans hx143_1
                                            replace hx143_2 := (HB.out.cell (World.block_lt_of_cell? w _ hx143_2)).trans hx143_2
                                            replace hx143_3 := (HB.out.cell (World.block_lt_of_cell? w _ hx143_3)).trans hx143_3
                                            replace p143 := eq_true p143
                                            replace q143 := eq_true q143
                                            have hcz39_0 : wr.cell? ⟨gb138, 0, none⟩ = some (.string ((rd_T62 l0 a1).f0)) := (blk_cell BK138.out 0).trans rfl
                                            have hcz39_1 : wr.cell? ⟨gb138, 1, none⟩ = some (.int .i64 ((rd_T62 l0 a1).f1)) := (blk_cell BK138.out 1).trans rfl
                                            have hcz39_2 : wr.cell? ⟨gb138, 2, none⟩ = some (.int .i64 ((rd_T62 l0 a1).f2)) := (blk_cell BK138.out 2).trans rfl
                                            have hcz39_3 : wr.cell? ⟨gb138, 3, none⟩ = some (.string ((rd_T62 l0 a1).f3)) := (blk_cell BK138.out 3).trans rfl
                                            have hfz39_0 := blk_frozen BK138.out 0
                                            have hfz39_1 := blk_frozen BK138.out 1
                                            have hfz39_2 := blk_frozen BK138.out 2
                                            have hfz39_3 := blk_frozen BK138.out 3
                                            go_wp2
                                            repeat (go_quiet (fail); try go_wp2)
                                            go_roundg k4
                                            case measure => have := HK1.out; have := HJ13.out; have := HJ20.out; have := HK4.out; omega
                                            case rel => exact ⟨(wrap64 (x8_4 + 1)), (by first | rfl | (simp; done) | (simp [*]; done)), H', ⟨by have := HK1.out; have := HJ13.out; have := HJ20.out; have := HK4.out; omega⟩, ⟨by (with_reducible repeat (first | refine blk_drewN ?_ _ | refine blk_drew ?_ | refine blk_alloc ?_ _)); exact BK138.out⟩, ⟨by repeat (first | (with_reducible first | exact HB.out | apply below_alloc | apply pw_below_drewN | apply below_drew1 | refine below_set ?_ GE138.out) | exact HB.out)⟩⟩
                                        · rw [if_neg c36] at H
                                          have c36b0 : (((rd_T62 l0 x8_4).f2) == 0) = false := beq_eq_false_iff_ne.mpr c36
                                          have c36b1 : (((rd_T62 l0 x8_4).f2) != 0) = true := bne_iff_ne.mpr c36
                                          have H' := Aside0.mk H
                                          clear H
                                          have p141 : 0 ≤ (x8_4 : Int) := of_decide_eq_true (by first | (with_reducible assumption) | assumption)
                                          have q141 : x8_4 < (l0.length : Int) := of_decide_eq_true (by first | (with_reducible assumption) | assumption)
                                          obtain ⟨ad141, e141, hx141_0, hx141_1, hx141_2, hx141_3⟩ := at_T62 HR0.out x8_4 p141 q141
                                          obtain rfl : ad137 = ad141 := (by injection e141)
                                          replace hx141_0 := (HB.out.cell (World.block_lt_of_cell? w _ hx141_0)).trans hx141_0
                                          replace hx141_1 := (HB.out.cell (World.block_lt_of_cell? w _ hx141_1)).trans hx141_1
                                          replace hx141_2 := (HB.out.cell (World.block_lt_of_cell? w _ hx141_2)).trans hx141_2
                                          replace hx141_3 := (HB.out.cell (World.block_lt_of_cell? w _ hx141_3)).trans hx141_3
                                          replace p141 := eq_true p141
                                          replace q141 := eq_true q141
                                          have p142 : 0 ≤ (x8_4 : Int) := of_decide_eq_true (by first | (with_reducible assumption) | assumption)
                                          have q142 : x8_4 < (l0.length : Int) := of_decide_eq_true (by first | (with_reducible assumption) | assumption)
                                          obtain ⟨ad142, e142, hx142_0, hx142_1, hx142_2, hx142_3⟩ := at_T62 HR0.out x8_4 p142 q142
                                          obtain rfl : ad137 = ad142 := (by injection e142)
                                          replace hx142_0 := (HB.out.cell (World.block_lt_of_cell? w _ hx142_0)).trans hx142_0
                                          replace hx142_1 := (HB.out.cell (World.block_lt_of_cell? w _ hx142_1)).trans hx142_1
                                          replace hx142_2 := (HB.out.cell (World.block_lt_of_cell? w _ hx142_2)).trans hx142_2
                                          replace hx142_3 := (HB.out.cell (World.block_lt_of_cell? w _ hx142_3)).trans hx142_3
                                          replace p142 := eq_true p142
                                          replace q142 := eq_true q142
                                          go_wp2
                                          repeat (go_quiet (fail); try go_wp2)
                                          go_roundg k4
                                          case measure => have := HK1.out; have := HJ13.out; have := HJ20.out; have := HK4.out; omega
                                          case rel => exact ⟨(wrap64 (x8_4 + 1)), (by first | rfl | (simp; done) | (simp [*]; done)), H', ⟨by have := HK1.out; have := HJ13.out; have := HJ20.out; have := HK4.out; omega⟩, ⟨by (with_reducible repeat (first | refine blk_drewN ?_ _ | refine blk_drew ?_ | refine blk_alloc ?_ _)); exact BK138.out⟩, ⟨by repeat (first | (with_reducible first | exact HB.out | apply below_alloc | apply pw_below_drewN | apply below_drew1 | refine below_set ?_ GE138.out) | exact HB.out)⟩⟩
                                      · rw [if_neg c35] at H
                                        have c35b0 : (((rd_T62 l0 x8_4).f1) == 1) = false := beq_eq_false_iff_ne.mpr c35
                                        have c35b1 : (((rd_T62 l0 x8_4).f1) != 1) = true := bne_iff_ne.mpr c35
                                        have H' := Aside0.mk H
                                        clear H
                                        have p141 : 0 ≤ (x8_4 : Int) := of_decide_eq_true (by first | (with_reducible assumption) | assumption)
                                        have q141 : x8_4 < (l0.length : Int) := of_decide_eq_true (by first | (with_reducible assumption) | assumption)
                                        obtain ⟨ad141, e141, hx141_0, hx141_1, hx141_2, hx141_3⟩ := at_T62 HR0.out x8_4 p141 q141
                                        obtain rfl : ad137 = ad141 := (by injection e141)
                                        replace hx141_0 := (HB.out.cell (World.block_lt_of_cell? w _ hx141_0)).trans hx141_0
                                        replace hx141_1 := (HB.out.cell (World.block_lt_of_cell? w _ hx141_1)).trans hx141_1
                                        replace hx141_2 := (HB.out.cell (World.block_lt_of_cell? w _ hx141_2)).trans hx141_2
                                        replace hx141_3 := (HB.out.cell (World.block_lt_of_cell? w _ hx141_3)).trans hx141_3
                                        replace p141 := eq_true p141
                                        replace q141 := eq_true q141
                                        go_wp2
                                        repeat (go_quiet (fail); try go_wp2)
                                        go_roundg k4
                                        case measure => have := HK1.out; have := HJ13.out; have := HJ20.out; have := HK4.out; omega
                                        case rel => exact ⟨(wrap64 (x8_4 + 1)), (by first | rfl | (simp; done) | (simp [*]; done)), H', ⟨by have := HK1.out; have := HJ13.out; have := HJ20.out; have := HK4.out; omega⟩, ⟨by (with_reducible repeat (first | refine blk_drewN ?_ _ | refine blk_drew ?_ | refine blk_alloc ?_ _)); exact BK138.out⟩, ⟨by repeat (first | (with_reducible first | exact HB.out | apply below_alloc | apply pw_below_drewN | apply below_drew1 | refine below_set ?_ GE138.out) | exact HB.out)⟩⟩
                                    · rw [if_neg c34] at H
                                      exact absurd H (by simp)
                                  · rw [if_neg c33] at H
                                    exact absurd H (by simp)
                                · rw [if_neg c32] at H
                                  have c32b0 : decide (x8_4 < a1) = false := decide_eq_false c32
                                  clear c32
                                  obtain rfl := Option.some.inj H
                                  go_wp2
                                  repeat (go_quiet (fail); try go_wp2)
                                  go_ret
                                  exact ⟨by first | rfl | (simp [errW_none, errW_some] <;> rfl) | (simp [*, errW_none, errW_some] <;> rfl), by repeat (first | (with_reducible first | exact HB.out | apply below_alloc | apply pw_below_drewN | apply below_drew1 | refine below_set ?_ GE138.out) | exact HB.out)⟩
                          · rw [if_neg c30] at H
                            have c30b0 : (((rd_T62 l0 a1).f1) == 3) = false := beq_eq_false_iff_ne.mpr c30
                            have c30b1 : (((rd_T62 l0 a1).f1) != 3) = true := bne_iff_ne.mpr c30
                            by_cases c40 : ((rd_T62 l0 a1).f3).toList = ([] : List UInt8)
                            · rw [if_pos c40] at H
                              have c40b0 : (((rd_T62 l0 a1).f3).toList == ([] : List UInt8)) = true := beq_iff_eq.mpr c40
                              have c40b1 : (((rd_T62 l0 a1).f3).toList != ([] : List UInt8)) = false := bne_eq_false_iff_eq.mpr c40
                              clear c40
                              obtain rfl := Option.some.inj H
                              have hcz41_0 : wc.cell? ⟨gb138, 0, none⟩ = some (.string ((rd_T62 l0 a1).f0)) := (blk_cell BK138.out 0).trans rfl
                              have hcz41_1 : wc.cell? ⟨gb138, 1, none⟩ = some (.int .i64 ((rd_T62 l0 a1).f1)) := (blk_cell BK138.out 1).trans rfl
                              have hcz41_2 : wc.cell? ⟨gb138, 2, none⟩ = some (.int .i64 ((rd_T62 l0 a1).f2)) := (blk_cell BK138.out 2).trans rfl
                              have hcz41_3 : wc.cell? ⟨gb138, 3, none⟩ = some (.string ((rd_T62 l0 a1).f3)) := (blk_cell BK138.out 3).trans rfl
                              have hfz41_0 := blk_frozen BK138.out 0
                              have hfz41_1 := blk_frozen BK138.out 1
                              have hfz41_2 := blk_frozen BK138.out 2
                              have hfz41_3 := blk_frozen BK138.out 3
                              go_wp2
                              repeat (go_quiet (fail); try go_wp2)
                              go_ret
                              exact ⟨by first | rfl | (simp [errW_none, errW_some] <;> rfl) | (simp [*, errW_none, errW_some] <;> rfl), by repeat (first | (with_reducible first | exact HB.out | apply below_alloc | apply pw_below_drewN | apply below_drew1 | refine below_set ?_ GE138.out) | exact HB.out)⟩
                            · rw [if_neg c40] at H
                              have c40b0 : (((rd_T62 l0 a1).f3).toList == ([] : List UInt8)) = false := beq_eq_false_iff_ne.mpr c40
                              have c40b1 : (((rd_T62 l0 a1).f3).toList != ([] : List UInt8)) = true := bne_iff_ne.mpr c40
                              obtain rfl := Option.some.inj H
                              have hcz42_0 : wc.cell? ⟨gb138, 0, none⟩ = some (.string ((rd_T62 l0 a1).f0)) := (blk_cell BK138.out 0).trans rfl
                              have hcz42_1 : wc.cell? ⟨gb138, 1, none⟩ = some (.int .i64 ((rd_T62 l0 a1).f1)) := (blk_cell BK138.out 1).trans rfl
                              have hcz42_2 : wc.cell? ⟨gb138, 2, none⟩ = some (.int .i64 ((rd_T62 l0 a1).f2)) := (blk_cell BK138.out 2).trans rfl
                              have hcz42_3 : wc.cell? ⟨gb138, 3, none⟩ = some (.string ((rd_T62 l0 a1).f3)) := (blk_cell BK138.out 3).trans rfl
                              have hfz42_0 := blk_frozen BK138.out 0
                              have hfz42_1 := blk_frozen BK138.out 1
                              have hfz42_2 := blk_frozen BK138.out 2
                              have hfz42_3 := blk_frozen BK138.out 3
                              go_wp2
                              repeat (go_quiet (fail); try go_wp2)
                              go_ret
                              exact ⟨by first | rfl | (simp [errW_none, errW_some] <;> rfl) | (simp [*, errW_none, errW_some] <;> rfl), by repeat (first | (with_reducible first | exact HB.out | apply below_alloc | apply pw_below_drewN | apply below_drew1 | refine below_set ?_ GE138.out) | exact HB.out)⟩
            · replace c13 := Bool.eq_false_iff.mpr c13
              subst c13
              have H1 : (some 11) = some r := by rw [if_neg (show ¬ (false = true) by decide)] at H; exact H
              clear H
              have H := H1
              clear H1
              obtain rfl := Option.some.inj H
              go_wp2
              repeat (go_quiet (fail); try go_wp2)
              go_ret
              exact ⟨by first | rfl | (simp [errW_none, errW_some] <;> rfl) | (simp [*, errW_none, errW_some] <;> rfl), by repeat (first | (with_reducible first | exact HB.out | apply below_alloc | apply pw_below_drewN | apply below_drew1 | refine below_set ?_ GE138.out) | exact HB.out)⟩
    · rw [if_neg c4] at H
      exact absurd H (by simp)
  · rw [if_neg c3] at H
    exact absurd H (by simp)

end Go.Proofs.Ytpepjodkahdicaa.PTb
