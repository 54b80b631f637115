-- Written by programs of this session (wip/tools), cut to what the claim uses (wip/tools/prune.py).
import Derived.Test.YtpepjodkahdicaaPTbx0
import Derived.Test.YtpepjodkahdicaaPTbx2
import Derived.Test.YtpepjodkahdicaaPTbx3
import Derived.Test.YtpepjodkahdicaaPTbx4
import Derived.Test.YtpepjodkahdicaaPTbx5
import Derived.Test.YtpepjodkahdicaaPTbx8
import Derived.Test.YtpepjodkahdicaaPTbx9
import Derived.Test.YtpepjodkahdicaaPTbx10
import Derived.Test.YtpepjodkahdicaaPTbx11
import Derived.Test.YtpepjodkahdicaaPTbx12
import Derived.Test.YtpepjodkahdicaaPTbx13
import Derived.Test.YtpepjodkahdicaaPTbx14
-- Written by a program of this session (wip/tools/myprint.py): functions, contracts, their proofs. Lean checks it.
namespace Go.Proofs.Ytpepjodkahdicaa.PTb
open Go.RowKit Go.Proofs.YtpepjodkahdicaaW.PrintWords Go.Proofs.YtpepjodkahdicaaW.PrintLast Go.Proofs.YtpepjodkahdicaaW.PrintMore
attribute [local go_sem] max2_int min2_int max_two min_two max_three min_three max_four min_four   -- for this text's walks alone
set_option linter.unusedVariables false
set_option linter.unusedSimpArgs false
mutual
def amalgamlaw05_TextBack.j0 : Nat → Bool → Bool → List (S62) → ByteArray → Int → List (S27) → ByteArray → Int → List (S27) → List (S46) → Option (Bool)
  | 0, _, _, _, _, _, _, _, _, _, _ => none
  | k + 1, x3, x49, x184000, x184001, x184002, x184003, x184004, x184005, x184006, x184007 => if x49 = true then (some x3) else ((text_Show.f k x184000 x184001 x184002 x184003).bind fun t188 => ((text_Term.f k x184000 t188).bind fun bt189 => ((amalgamref03_Exact.f k bt189.1 bt189.2.1 bt189.2.2.1 x184001 x184002 x184003).bind fun t197 => (if bt189.2.2.2.1 = 0 then (amalgamlaw05_TextBack.j1 k (!t197) x184000 x184001 x184002 x184003 x184004 x184005 x184006 x184007) else (amalgamlaw05_TextBack.j1 k true x184000 x184001 x184002 x184003 x184004 x184005 x184006 x184007)))))
def amalgamlaw05_TextBack.j1 : Nat → Bool → List (S62) → ByteArray → Int → List (S27) → ByteArray → Int → List (S27) → List (S46) → Option (Bool)
  | 0, _, _, _, _, _, _, _, _, _ => none
  | k + 1, x72, x184000, x184001, x184002, x184003, x184004, x184005, x184006, x184007 => if x72 = true then (some false) else ((text_ShowEquation.f k x184000 x184001 x184002 x184003 x184004 x184005 x184006).bind fun t198 => (if (t198.size : Int) ≤ 800 then ((text_Equation.f k x184000 t198).bind fun bt199 => ((amalgamref03_Exact.f k bt199.1 bt199.2.1 bt199.2.2.1 x184001 x184002 x184003).bind fun t212 => ((amalgamref03_Exact.f k bt199.2.2.2.1 bt199.2.2.2.2.1 bt199.2.2.2.2.2.1 x184004 x184005 x184006).bind fun t213 => (if bt199.2.2.2.2.2.2.1 = 0 then (if t212 = true then (if t213 = true then (amalgamlaw05_TextBack.j2 k x184000 x184001 x184002 x184003 x184004 x184005 x184006 x184007) else (some false)) else (some false)) else (some false))))) else (amalgamlaw05_TextBack.j2 k x184000 x184001 x184002 x184003 x184004 x184005 x184006 x184007)))
def amalgamlaw05_TextBack.j2 : Nat → List (S62) → ByteArray → Int → List (S27) → ByteArray → Int → List (S27) → List (S46) → Option (Bool)
  | 0, _, _, _, _, _, _, _, _ => none
  | k + 1, x184000, x184001, x184002, x184003, x184004, x184005, x184006, x184007 => amalgamlaw05_TextBack.l0 k 0 x184000 x184001 x184002 x184003 x184004 x184005 x184006 x184007
def amalgamlaw05_TextBack.l0 : Nat → Int → List (S62) → ByteArray → Int → List (S27) → ByteArray → Int → List (S27) → List (S46) → Option (Bool)
  | 0, _, _, _, _, _, _, _, _, _ => none
  | k + 1, x17, x184000, x184001, x184002, x184003, x184004, x184005, x184006, x184007 => if x17 < (x184007.length : Int) then (if 0 ≤ x17 then ((amalgamref01_Var.f k ((rd_T46 x184007 x17).f0)).bind fun t215 => (if t215 = true then ((amalgamref03_Check.f k x184000 ((rd_T46 x184007 x17).f1.f0) ((rd_T46 x184007 x17).f1.f1) ((rd_T46 x184007 x17).f1.f2)).bind fun t217 => (if t217 = 0 then (amalgamlaw05_TextBack.l0 k (wrap64 (x17 + 1)) x184000 x184001 x184002 x184003 x184004 x184005 x184006 x184007) else (some true))) else (some true))) else (none)) else ((text_ShowBinds.f k x184000 x184007).bind fun t218 => (if (t218.size : Int) > 800 then (some true) else ((text_Binds.f k x184000 t218).bind fun bt219 => (if bt219.2.1 = 0 then ((amalgamlaw05_same.f k bt219.1 x184007).bind fun t224 => (some t224)) else (some false)))))
end
def amalgamlaw05_TextBack.f (k : Nat) (l0_0 : List (S62)) (a0_1 : ByteArray) (a0_2 : Int) (l0_3 : List (S27)) (a0_4 : ByteArray) (a0_5 : Int) (l0_6 : List (S27)) (l0_7 : List (S46)) : Option (Bool) := (amalgamlaw05_head.f k).bind fun t184 => ((amalgamref01_Right.f k l0_0).bind fun t185 => ((amalgamref03_Check.f k l0_0 a0_1 a0_2 l0_3).bind fun t186 => ((amalgamref03_Check.f k l0_0 a0_4 a0_5 l0_6).bind fun t187 => (if t184 = true then (if t185 = true then (if t186 = 0 then (amalgamlaw05_TextBack.j0 k t184 (t187 != 0) l0_0 a0_1 a0_2 l0_3 a0_4 a0_5 l0_6 l0_7) else (amalgamlaw05_TextBack.j0 k t184 true l0_0 a0_1 a0_2 l0_3 a0_4 a0_5 l0_6 l0_7)) else (amalgamlaw05_TextBack.j0 k t184 true l0_0 a0_1 a0_2 l0_3 a0_4 a0_5 l0_6 l0_7)) else (amalgamlaw05_TextBack.j0 k t184 true l0_0 a0_1 a0_2 l0_3 a0_4 a0_5 l0_6 l0_7)))))
def amalgamlaw05_TextBack.T7 : Bool × List (List Nat × List Nat) := (true, [([], []), ([0], [0]), ([], []), ([2], [2]), ([], []), ([4], [4]), ([3, 5], [3, 5]), ([1, 6, 6], [1, 6]), ([7], [7]), ([8], [8]), ([8], [8]), ([8], [8]), ([], []), ([12, 9, 7, 0, 1, 2, 3, 4, 5, 6, 7, 8, 9, 12], [9, 12]), ([10, 13, 0, 1, 2, 3, 4, 5, 6, 7, 8, 9, 10, 12, 13], [10]), ([11, 14, 0, 1, 2, 3, 4, 5, 6, 7, 8, 9, 10, 11, 12, 13, 14], [11])])
def amalgamlaw05_TextBack.B7 : List Nat := [0, 1, 0, 4, 0, 16, 60, 127, 255, 511, 511, 511, 0, 5119, 14335, 32767]
theorem amalgamlaw05_TextBack.tab7 : rtab .any (opsOf Try.f5 7) = amalgamlaw05_TextBack.T7 := by kernel_rfl
theorem amalgamlaw05_TextBack.bits7 : waitsOk amalgamlaw05_TextBack.T7.2 amalgamlaw05_TextBack.B7 = true := by kernel_rfl
def amalgamlaw05_TextBack.T22 : Bool × List (List Nat × List Nat) := (true, [([], []), ([0], [0]), ([1], [1]), ([2], [2]), ([3, 2], [2, 3]), ([2], [2]), ([5, 2], [2, 5]), ([2], [2]), ([6, 7, 2], [2, 6, 7]), ([8, 2], [2, 8]), ([9, 2], [2, 9]), ([4, 10, 2, 2], [2, 4, 10]), ([11, 2], [2, 11]), ([2, 12], [2, 12])])
def amalgamlaw05_TextBack.B22 : List Nat := [0, 1, 3, 7, 15, 7, 39, 7, 231, 487, 999, 2047, 4095, 8191]
theorem amalgamlaw05_TextBack.tab22 : rtab .any (opsOf Try.f5 22) = amalgamlaw05_TextBack.T22 := by kernel_rfl
theorem amalgamlaw05_TextBack.bits22 : waitsOk amalgamlaw05_TextBack.T22.2 amalgamlaw05_TextBack.B22 = true := by kernel_rfl
set_option maxHeartbeats 8000000 in
set_option maxRecDepth 100000 in
theorem amalgamlaw05_TextBack.calls (k : Nat) (A0_0 : Option Addr) (c0_0 : Nat) (l0_0 : List (S62)) (a0_1 : ByteArray) (a0_2 : Int) (A0_3 : Option Addr) (c0_3 : Nat) (l0_3 : List (S27)) (a0_4 : ByteArray) (a0_5 : Int) (A0_6 : Option Addr) (c0_6 : Nat) (l0_6 : List (S27)) (A0_7 : Option Addr) (c0_7 : Nat) (l0_7 : List (S46)) (r : Bool) (w : World) (hr0_0 : Kd.C k62 w A0_0 l0_0.length l0_0) (hc0_0 : l0_0.length ≤ c0_0) (hr0_3 : Kd.C k27 w A0_3 l0_3.length l0_3) (hc0_3 : l0_3.length ≤ c0_3) (hr0_6 : Kd.C k27 w A0_6 l0_6.length l0_6) (hc0_6 : l0_6.length ≤ c0_6) (hr0_7 : Kd.C k46 w A0_7 l0_7.length l0_7) (hc0_7 : l0_7.length ≤ c0_7) (hrt0 : r = true) (h : amalgamlaw05_TextBack.f k l0_0 a0_1 a0_2 l0_3 a0_4 a0_5 l0_6 l0_7 = some r) :
    Calls Try.prog 5 #[.agg #[.slice A0_0 l0_0.length c0_0, .string a0_1, .int .i64 a0_2, .slice A0_3 l0_3.length c0_3, .string a0_4, .int .i64 a0_5, .slice A0_6 l0_6.length c0_6, .slice A0_7 l0_7.length c0_7]] w fun e w' => e = .returned (.bool r) ∧ Below w.heap.size w w' := by
  have HRT := Aside0.mk hrt0
  clear hrt0
  have hu36 := Try.underlying36
  have hu27 := Try.underlying27
  have hu41 := Try.underlying41
  have HR0_0 := Aside0.mk hr0_0
  have HC0_0 := Aside0.mk hc0_0
  clear hr0_0 hc0_0
  have HR0_3 := Aside0.mk hr0_3
  have HC0_3 := Aside0.mk hc0_3
  clear hr0_3 hc0_3
  have HR0_6 := Aside0.mk hr0_6
  have HC0_6 := Aside0.mk hc0_6
  clear hr0_6 hc0_6
  have HR0_7 := Aside0.mk hr0_7
  have HC0_7 := Aside0.mk hc0_7
  clear hr0_7 hc0_7
  have HB := Aside0.mk (Below.refl w.heap.size w)
  have H : ((amalgamlaw05_head.f k).bind fun t184 => ((amalgamref01_Right.f k l0_0).bind fun t185 => ((amalgamref03_Check.f k l0_0 a0_1 a0_2 l0_3).bind fun t186 => ((amalgamref03_Check.f k l0_0 a0_4 a0_5 l0_6).bind fun t187 => (if t184 = true then (if t185 = true then (if t186 = 0 then (amalgamlaw05_TextBack.j0 k t184 (t187 != 0) l0_0 a0_1 a0_2 l0_3 a0_4 a0_5 l0_6 l0_7) else (amalgamlaw05_TextBack.j0 k t184 true l0_0 a0_1 a0_2 l0_3 a0_4 a0_5 l0_6 l0_7)) else (amalgamlaw05_TextBack.j0 k t184 true l0_0 a0_1 a0_2 l0_3 a0_4 a0_5 l0_6 l0_7)) else (amalgamlaw05_TextBack.j0 k t184 true l0_0 a0_1 a0_2 l0_3 a0_4 a0_5 l0_6 l0_7)))))) = some r := h
  clear h
  replace H := Option.bind_eq_some_iff.mp H
  obtain ⟨t184, A20, H⟩ := H
  replace H : ((amalgamref01_Right.f k l0_0).bind fun t185 => ((amalgamref03_Check.f k l0_0 a0_1 a0_2 l0_3).bind fun t186 => ((amalgamref03_Check.f k l0_0 a0_4 a0_5 l0_6).bind fun t187 => (if t184 = true then (if t185 = true then (if t186 = 0 then (amalgamlaw05_TextBack.j0 k t184 (t187 != 0) l0_0 a0_1 a0_2 l0_3 a0_4 a0_5 l0_6 l0_7) else (amalgamlaw05_TextBack.j0 k t184 true l0_0 a0_1 a0_2 l0_3 a0_4 a0_5 l0_6 l0_7)) else (amalgamlaw05_TextBack.j0 k t184 true l0_0 a0_1 a0_2 l0_3 a0_4 a0_5 l0_6 l0_7)) else (amalgamlaw05_TextBack.j0 k t184 true l0_0 a0_1 a0_2 l0_3 a0_4 a0_5 l0_6 l0_7))))) = some r := H
  have A2 := Aside0.mk A20
  clear A20
  replace H := Option.bind_eq_some_iff.mp H
  obtain ⟨t185, A30, H⟩ := H
  replace H : ((amalgamref03_Check.f k l0_0 a0_1 a0_2 l0_3).bind fun t186 => ((amalgamref03_Check.f k l0_0 a0_4 a0_5 l0_6).bind fun t187 => (if t184 = true then (if t185 = true then (if t186 = 0 then (amalgamlaw05_TextBack.j0 k t184 (t187 != 0) l0_0 a0_1 a0_2 l0_3 a0_4 a0_5 l0_6 l0_7) else (amalgamlaw05_TextBack.j0 k t184 true l0_0 a0_1 a0_2 l0_3 a0_4 a0_5 l0_6 l0_7)) else (amalgamlaw05_TextBack.j0 k t184 true l0_0 a0_1 a0_2 l0_3 a0_4 a0_5 l0_6 l0_7)) else (amalgamlaw05_TextBack.j0 k t184 true l0_0 a0_1 a0_2 l0_3 a0_4 a0_5 l0_6 l0_7)))) = some r := H
  have A3 := Aside0.mk A30
  clear A30
  replace H := Option.bind_eq_some_iff.mp H
  obtain ⟨t186, A40, H⟩ := H
  replace H : ((amalgamref03_Check.f k l0_0 a0_4 a0_5 l0_6).bind fun t187 => (if t184 = true then (if t185 = true then (if t186 = 0 then (amalgamlaw05_TextBack.j0 k t184 (t187 != 0) l0_0 a0_1 a0_2 l0_3 a0_4 a0_5 l0_6 l0_7) else (amalgamlaw05_TextBack.j0 k t184 true l0_0 a0_1 a0_2 l0_3 a0_4 a0_5 l0_6 l0_7)) else (amalgamlaw05_TextBack.j0 k t184 true l0_0 a0_1 a0_2 l0_3 a0_4 a0_5 l0_6 l0_7)) else (amalgamlaw05_TextBack.j0 k t184 true l0_0 a0_1 a0_2 l0_3 a0_4 a0_5 l0_6 l0_7))) = some r := H
  have A4 := Aside0.mk A40
  clear A40
  replace H := Option.bind_eq_some_iff.mp H
  obtain ⟨t187, A50, H⟩ := H
  replace H : (if t184 = true then (if t185 = true then (if t186 = 0 then (amalgamlaw05_TextBack.j0 k t184 (t187 != 0) l0_0 a0_1 a0_2 l0_3 a0_4 a0_5 l0_6 l0_7) else (amalgamlaw05_TextBack.j0 k t184 true l0_0 a0_1 a0_2 l0_3 a0_4 a0_5 l0_6 l0_7)) else (amalgamlaw05_TextBack.j0 k t184 true l0_0 a0_1 a0_2 l0_3 a0_4 a0_5 l0_6 l0_7)) else (amalgamlaw05_TextBack.j0 k t184 true l0_0 a0_1 a0_2 l0_3 a0_4 a0_5 l0_6 l0_7)) = some r := H
  have A5 := Aside0.mk A50
  clear A50
  have HC6 := Aside0.mk H
  clear H
  go_enter Try.func5, Try.ntmps5
  go_upto_region 5 with (first | ((with_reducible refine gate_dst (N := 1) rfl ?_); refine box_event ?hg (N := 1) ?hd (cs := #[.slice A0_0 l0_0.length c0_0, .string a0_1, .int .i64 a0_2, .slice A0_3 l0_3.length c0_3, .string a0_4, .int .i64 a0_5, .slice A0_6 l0_6.length c0_6, .slice A0_7 l0_7.length c0_7]) (t := 36) ?hr ?_; (case hd => rfl); (case hg => rfl); (case hr => first | (go_simp; done) | (go_simp; rfl)); intro gb183 hg w7 hbox hb; have n0_ := Aside0.mk (below_step (by repeat (first | (with_reducible first | exact HB.out | apply below_alloc | apply pw_below_drewN | apply below_drew1) | exact HB.out)) hb); have n1_ := Aside0.mk (hbox); have n2_ := Aside0.mk ((by rw [hg]; exact (below_size (by repeat (first | (with_reducible first | exact HB.out | apply below_alloc | apply pw_below_drewN | apply below_drew1) | exact HB.out))) : w.heap.size ≤ gb183)); have n3_ := Aside0.mk ((by rw [hg]; exact (below_size (by repeat (first | (with_reducible first | exact HB.out | apply below_alloc | apply pw_below_drewN | apply below_drew1) | exact HB.out))) : w.heap.size ≤ gb183)); clear HB; have HB := n0_; have BK183 := n1_; have GW183 := n2_; have GE183 := n3_; clear n0_ n1_ n2_ n3_; clear hb hbox hg) | ((with_reducible refine gate_callee (f := 6) rfl ?_); refine goesL_ (some 22) rfl rfl Try.func6 (by kernel_rfl) rfl #[] rfl (by (try simp only [List.map_toArray, List.map_cons, List.map_nil]); first | done | rfl | (simp only [List.length_drop, List.length_take]; rfl)) ?_; (with_reducible refine (amalgamlaw05_head.calls k  t184 _ A2.out).mono ?_); rintro e w8 ⟨rfl, hb⟩; refine ⟨_, rfl, ?_⟩; have n0_ := Aside0.mk (blk_below (g := gb183) (o := .cells #[.slice A0_0 l0_0.length c0_0, .string a0_1, .int .i64 a0_2, .slice A0_3 l0_3.length c0_3, .string a0_4, .int .i64 a0_5, .slice A0_6 l0_6.length c0_6, .slice A0_7 l0_7.length c0_7] 36 (0, 0)) (by (with_reducible repeat (first | refine blk_drewN ?_ _ | refine blk_drew ?_ | refine blk_alloc ?_ _)); exact BK183.out) hb); have n1_ := Aside0.mk (below_step (by repeat (first | (with_reducible first | exact HB.out | apply below_alloc | apply pw_below_drewN | apply below_drew1 | refine below_set ?_ GE183.out) | exact HB.out)) hb); clear BK183; clear HB; have BK183 := n0_; have HB := n1_; clear n0_ n1_; (try clear hb); (try clear hb2); (try clear hk); (try clear hi); have hcz9_0 : w8.cell? ⟨gb183, 0, none⟩ = some (.slice A0_0 l0_0.length c0_0) := (blk_cell BK183.out 0).trans rfl; have hcz9_1 : w8.cell? ⟨gb183, 1, none⟩ = some (.string a0_1) := (blk_cell BK183.out 1).trans rfl; have hcz9_2 : w8.cell? ⟨gb183, 2, none⟩ = some (.int .i64 a0_2) := (blk_cell BK183.out 2).trans rfl; have hcz9_3 : w8.cell? ⟨gb183, 3, none⟩ = some (.slice A0_3 l0_3.length c0_3) := (blk_cell BK183.out 3).trans rfl; have hcz9_4 : w8.cell? ⟨gb183, 4, none⟩ = some (.string a0_4) := (blk_cell BK183.out 4).trans rfl; have hcz9_5 : w8.cell? ⟨gb183, 5, none⟩ = some (.int .i64 a0_5) := (blk_cell BK183.out 5).trans rfl; have hcz9_6 : w8.cell? ⟨gb183, 6, none⟩ = some (.slice A0_6 l0_6.length c0_6) := (blk_cell BK183.out 6).trans rfl; have hcz9_7 : w8.cell? ⟨gb183, 7, none⟩ = some (.slice A0_7 l0_7.length c0_7) := (blk_cell BK183.out 7).trans rfl; have hfz9_0 := blk_frozen BK183.out 0; have hfz9_1 := blk_frozen BK183.out 1; have hfz9_2 := blk_frozen BK183.out 2; have hfz9_3 := blk_frozen BK183.out 3; have hfz9_4 := blk_frozen BK183.out 4; have hfz9_5 := blk_frozen BK183.out 5; have hfz9_6 := blk_frozen BK183.out 6; have hfz9_7 := blk_frozen BK183.out 7) | ((with_reducible refine gate_callee (f := 10) rfl ?_); refine goesL_ (some 25) rfl rfl Try.func10 (by kernel_rfl) rfl #[.slice A0_0 l0_0.length c0_0] rfl (by (try simp only [List.map_toArray, List.map_cons, List.map_nil]); first | done | rfl | (simp only [List.length_drop, List.length_take]; rfl)) ?_; (with_reducible refine (amalgamref01_Right.calls k _ _ l0_0 t185 _ ?side1 ?side2 A3.out).mono ?_); (case side1 => repeat (first | exact (Kd.C_below HR0_0.out HB.out) | (with_reducible refine Kd.C_alloc ?_ _) | (with_reducible refine Kd.C_drewN ?_ _) | (with_reducible refine Kd.C_drew ?_))); (case side2 => exact HC0_0.out); rintro e w10 ⟨rfl, hb⟩; refine ⟨_, rfl, ?_⟩; have n0_ := Aside0.mk (blk_below (g := gb183) (o := .cells #[.slice A0_0 l0_0.length c0_0, .string a0_1, .int .i64 a0_2, .slice A0_3 l0_3.length c0_3, .string a0_4, .int .i64 a0_5, .slice A0_6 l0_6.length c0_6, .slice A0_7 l0_7.length c0_7] 36 (0, 0)) (by (with_reducible repeat (first | refine blk_drewN ?_ _ | refine blk_drew ?_ | refine blk_alloc ?_ _)); exact BK183.out) hb); have n1_ := Aside0.mk (below_step (by repeat (first | (with_reducible first | exact HB.out | apply below_alloc | apply pw_below_drewN | apply below_drew1 | refine below_set ?_ GE183.out) | exact HB.out)) hb); clear BK183; clear HB; have BK183 := n0_; have HB := n1_; clear n0_ n1_; (try clear hb); (try clear hb2); (try clear hk); (try clear hi); have hcz11_0 : w10.cell? ⟨gb183, 0, none⟩ = some (.slice A0_0 l0_0.length c0_0) := (blk_cell BK183.out 0).trans rfl; have hcz11_1 : w10.cell? ⟨gb183, 1, none⟩ = some (.string a0_1) := (blk_cell BK183.out 1).trans rfl; have hcz11_2 : w10.cell? ⟨gb183, 2, none⟩ = some (.int .i64 a0_2) := (blk_cell BK183.out 2).trans rfl; have hcz11_3 : w10.cell? ⟨gb183, 3, none⟩ = some (.slice A0_3 l0_3.length c0_3) := (blk_cell BK183.out 3).trans rfl; have hcz11_4 : w10.cell? ⟨gb183, 4, none⟩ = some (.string a0_4) := (blk_cell BK183.out 4).trans rfl; have hcz11_5 : w10.cell? ⟨gb183, 5, none⟩ = some (.int .i64 a0_5) := (blk_cell BK183.out 5).trans rfl; have hcz11_6 : w10.cell? ⟨gb183, 6, none⟩ = some (.slice A0_6 l0_6.length c0_6) := (blk_cell BK183.out 6).trans rfl; have hcz11_7 : w10.cell? ⟨gb183, 7, none⟩ = some (.slice A0_7 l0_7.length c0_7) := (blk_cell BK183.out 7).trans rfl; have hfz11_0 := blk_frozen BK183.out 0; have hfz11_1 := blk_frozen BK183.out 1; have hfz11_2 := blk_frozen BK183.out 2; have hfz11_3 := blk_frozen BK183.out 3; have hfz11_4 := blk_frozen BK183.out 4; have hfz11_5 := blk_frozen BK183.out 5; have hfz11_6 := blk_frozen BK183.out 6; have hfz11_7 := blk_frozen BK183.out 7) | ((with_reducible refine gate_callee (f := 11) rfl ?_); refine goesL_ (some 30) rfl rfl Try.func11 (by kernel_rfl) rfl #[.slice A0_0 l0_0.length c0_0, .agg #[.string a0_1, .int .i64 a0_2, .slice A0_3 l0_3.length c0_3]] rfl (by (try simp only [List.map_toArray, List.map_cons, List.map_nil]); first | done | rfl | (simp only [List.length_drop, List.length_take]; rfl)) ?_; (with_reducible refine (amalgamref03_Check.calls k _ _ l0_0 a0_1 a0_2 _ _ l0_3 t186 _ ?side1 ?side2 ?side3 ?side4 A4.out).mono ?_); (case side1 => repeat (first | exact (Kd.C_below HR0_0.out HB.out) | (with_reducible refine Kd.C_alloc ?_ _) | (with_reducible refine Kd.C_drewN ?_ _) | (with_reducible refine Kd.C_drew ?_))); (case side2 => exact HC0_0.out); (case side3 => repeat (first | exact (Kd.C_below HR0_3.out HB.out) | (with_reducible refine Kd.C_alloc ?_ _) | (with_reducible refine Kd.C_drewN ?_ _) | (with_reducible refine Kd.C_drew ?_))); (case side4 => exact HC0_3.out); rintro e w12 ⟨rfl, hb⟩; refine ⟨_, rfl, ?_⟩; have n0_ := Aside0.mk (blk_below (g := gb183) (o := .cells #[.slice A0_0 l0_0.length c0_0, .string a0_1, .int .i64 a0_2, .slice A0_3 l0_3.length c0_3, .string a0_4, .int .i64 a0_5, .slice A0_6 l0_6.length c0_6, .slice A0_7 l0_7.length c0_7] 36 (0, 0)) (by (with_reducible repeat (first | refine blk_drewN ?_ _ | refine blk_drew ?_ | refine blk_alloc ?_ _)); exact BK183.out) hb); have n1_ := Aside0.mk (below_step (by repeat (first | (with_reducible first | exact HB.out | apply below_alloc | apply pw_below_drewN | apply below_drew1 | refine below_set ?_ GE183.out) | exact HB.out)) hb); clear BK183; clear HB; have BK183 := n0_; have HB := n1_; clear n0_ n1_; (try clear hb); (try clear hb2); (try clear hk); (try clear hi); have hcz13_0 : w12.cell? ⟨gb183, 0, none⟩ = some (.slice A0_0 l0_0.length c0_0) := (blk_cell BK183.out 0).trans rfl; have hcz13_1 : w12.cell? ⟨gb183, 1, none⟩ = some (.string a0_1) := (blk_cell BK183.out 1).trans rfl; have hcz13_2 : w12.cell? ⟨gb183, 2, none⟩ = some (.int .i64 a0_2) := (blk_cell BK183.out 2).trans rfl; have hcz13_3 : w12.cell? ⟨gb183, 3, none⟩ = some (.slice A0_3 l0_3.length c0_3) := (blk_cell BK183.out 3).trans rfl; have hcz13_4 : w12.cell? ⟨gb183, 4, none⟩ = some (.string a0_4) := (blk_cell BK183.out 4).trans rfl; have hcz13_5 : w12.cell? ⟨gb183, 5, none⟩ = some (.int .i64 a0_5) := (blk_cell BK183.out 5).trans rfl; have hcz13_6 : w12.cell? ⟨gb183, 6, none⟩ = some (.slice A0_6 l0_6.length c0_6) := (blk_cell BK183.out 6).trans rfl; have hcz13_7 : w12.cell? ⟨gb183, 7, none⟩ = some (.slice A0_7 l0_7.length c0_7) := (blk_cell BK183.out 7).trans rfl; have hfz13_0 := blk_frozen BK183.out 0; have hfz13_1 := blk_frozen BK183.out 1; have hfz13_2 := blk_frozen BK183.out 2; have hfz13_3 := blk_frozen BK183.out 3; have hfz13_4 := blk_frozen BK183.out 4; have hfz13_5 := blk_frozen BK183.out 5; have hfz13_6 := blk_frozen BK183.out 6; have hfz13_7 := blk_frozen BK183.out 7) | ((with_reducible refine gate_callee (f := 11) rfl ?_); refine goesL_ (some 35) rfl rfl Try.func11 (by kernel_rfl) rfl #[.slice A0_0 l0_0.length c0_0, .agg #[.string a0_4, .int .i64 a0_5, .slice A0_6 l0_6.length c0_6]] rfl (by (try simp only [List.map_toArray, List.map_cons, List.map_nil]); first | done | rfl | (simp only [List.length_drop, List.length_take]; rfl)) ?_; (with_reducible refine (amalgamref03_Check.calls k _ _ l0_0 a0_4 a0_5 _ _ l0_6 t187 _ ?side1 ?side2 ?side3 ?side4 A5.out).mono ?_); (case side1 => repeat (first | exact (Kd.C_below HR0_0.out HB.out) | (with_reducible refine Kd.C_alloc ?_ _) | (with_reducible refine Kd.C_drewN ?_ _) | (with_reducible refine Kd.C_drew ?_))); (case side2 => exact HC0_0.out); (case side3 => repeat (first | exact (Kd.C_below HR0_6.out HB.out) | (with_reducible refine Kd.C_alloc ?_ _) | (with_reducible refine Kd.C_drewN ?_ _) | (with_reducible refine Kd.C_drew ?_))); (case side4 => exact HC0_6.out); rintro e w14 ⟨rfl, hb⟩; refine ⟨_, rfl, ?_⟩; have n0_ := Aside0.mk (blk_below (g := gb183) (o := .cells #[.slice A0_0 l0_0.length c0_0, .string a0_1, .int .i64 a0_2, .slice A0_3 l0_3.length c0_3, .string a0_4, .int .i64 a0_5, .slice A0_6 l0_6.length c0_6, .slice A0_7 l0_7.length c0_7] 36 (0, 0)) (by (with_reducible repeat (first | refine blk_drewN ?_ _ | refine blk_drew ?_ | refine blk_alloc ?_ _)); exact BK183.out) hb); have n1_ := Aside0.mk (below_step (by repeat (first | (with_reducible first | exact HB.out | apply below_alloc | apply pw_below_drewN | apply below_drew1 | refine below_set ?_ GE183.out) | exact HB.out)) hb); clear BK183; clear HB; have BK183 := n0_; have HB := n1_; clear n0_ n1_; (try clear hb); (try clear hb2); (try clear hk); (try clear hi)))
  (try simp only [Act.put, List.setIfInBounds_toArray, List.set_cons_zero, List.set_cons_succ])
  go_cut [49] (fun v49 wc => ∃ (kq : Nat) (x49_5 : Bool), v49 = .bool x49_5 ∧ Aside0 (amalgamlaw05_TextBack.j0 kq t184 x49_5 l0_0 a0_1 a0_2 l0_3 a0_4 a0_5 l0_6 l0_7 = some r) ∧ Aside0 (kq ≤ k) ∧ Aside0 (wc.heap[gb183]? = some (.cells #[(.slice A0_0 l0_0.length c0_0), .string a0_1, .int .i64 a0_2, (.slice A0_3 l0_3.length c0_3), .string a0_4, .int .i64 a0_5, (.slice A0_6 l0_6.length c0_6), (.slice A0_7 l0_7.length c0_7)] 36 (0, 0))) ∧ Aside0 (Below w.heap.size w wc))
  case first =>
    have H := HC6.out
    clear HC6
    by_cases c15 : t184 = true
    · subst c15
      have H1 : (if t185 = true then (if t186 = 0 then (amalgamlaw05_TextBack.j0 k true (t187 != 0) l0_0 a0_1 a0_2 l0_3 a0_4 a0_5 l0_6 l0_7) else (amalgamlaw05_TextBack.j0 k true true l0_0 a0_1 a0_2 l0_3 a0_4 a0_5 l0_6 l0_7)) else (amalgamlaw05_TextBack.j0 k true true l0_0 a0_1 a0_2 l0_3 a0_4 a0_5 l0_6 l0_7)) = some r := by rw [if_pos rfl] at H; exact H
      clear H
      have H := H1
      clear H1
      by_cases c16 : t185 = true
      · subst c16
        have H1 : (if t186 = 0 then (amalgamlaw05_TextBack.j0 k true (t187 != 0) l0_0 a0_1 a0_2 l0_3 a0_4 a0_5 l0_6 l0_7) else (amalgamlaw05_TextBack.j0 k true true l0_0 a0_1 a0_2 l0_3 a0_4 a0_5 l0_6 l0_7)) = some r := by rw [if_pos rfl] at H; exact H
        clear H
        have H := H1
        clear H1
        by_cases c17 : t186 = 0
        · rw [if_pos c17] at H
          have c17b0 : (t186 == 0) = true := beq_iff_eq.mpr c17
          have c17b1 : (t186 != 0) = false := bne_eq_false_iff_eq.mpr c17
          clear c17
          (first | rw [c17b0] | (simp only [i64_w, i32_w]; rw [c17b0]) | skip)
          have H' := Aside0.mk H
          clear H
          go_wp2
          go_meet
          case rel => exact ⟨_, ((t187 != 0)), (by first | rfl | (simp; done) | (simp [*]; done)), H', ⟨by first | omega | exact Nat.le_refl _⟩, ⟨by (with_reducible repeat (first | refine blk_drewN ?_ _ | refine blk_drew ?_ | refine blk_alloc ?_ _)); exact BK183.out⟩, ⟨by repeat (first | (with_reducible first | exact HB.out | apply below_alloc | apply pw_below_drewN | apply below_drew1 | refine below_set ?_ GE183.out) | exact HB.out)⟩⟩
        · rw [if_neg c17] at H
          have c17b0 : (t186 == 0) = false := beq_eq_false_iff_ne.mpr c17
          have c17b1 : (t186 != 0) = true := bne_iff_ne.mpr c17
          (first | rw [c17b0] | (simp only [i64_w, i32_w]; rw [c17b0]) | skip)
          have H' := Aside0.mk H
          clear H
          go_wp2
          go_meet
          case rel => exact ⟨_, (true), (by first | rfl | (simp; done) | (simp [*]; done)), H', ⟨by first | omega | exact Nat.le_refl _⟩, ⟨by (with_reducible repeat (first | refine blk_drewN ?_ _ | refine blk_drew ?_ | refine blk_alloc ?_ _)); exact BK183.out⟩, ⟨by repeat (first | (with_reducible first | exact HB.out | apply below_alloc | apply pw_below_drewN | apply below_drew1 | refine below_set ?_ GE183.out) | exact HB.out)⟩⟩
      · replace c16 := Bool.eq_false_iff.mpr c16
        subst c16
        have H1 : (amalgamlaw05_TextBack.j0 k true true l0_0 a0_1 a0_2 l0_3 a0_4 a0_5 l0_6 l0_7) = some r := by rw [if_neg (show ¬ (false = true) by decide)] at H; exact H
        clear H
        have H := H1
        clear H1
        have H' := Aside0.mk H
        clear H
        go_wp2
        go_meet
        case rel => exact ⟨_, (true), (by first | rfl | (simp; done) | (simp [*]; done)), H', ⟨by first | omega | exact Nat.le_refl _⟩, ⟨by (with_reducible repeat (first | refine blk_drewN ?_ _ | refine blk_drew ?_ | refine blk_alloc ?_ _)); exact BK183.out⟩, ⟨by repeat (first | (with_reducible first | exact HB.out | apply below_alloc | apply pw_below_drewN | apply below_drew1 | refine below_set ?_ GE183.out) | exact HB.out)⟩⟩
    · replace c15 := Bool.eq_false_iff.mpr c15
      subst c15
      have H1 : (amalgamlaw05_TextBack.j0 k false true l0_0 a0_1 a0_2 l0_3 a0_4 a0_5 l0_6 l0_7) = some r := by rw [if_neg (show ¬ (false = true) by decide)] at H; exact H
      clear H
      have H := H1
      clear H1
      have H' := Aside0.mk H
      clear H
      go_wp2
      go_meet
      case rel => exact ⟨_, (true), (by first | rfl | (simp; done) | (simp [*]; done)), H', ⟨by first | omega | exact Nat.le_refl _⟩, ⟨by (with_reducible repeat (first | refine blk_drewN ?_ _ | refine blk_drew ?_ | refine blk_alloc ?_ _)); exact BK183.out⟩, ⟨by repeat (first | (with_reducible first | exact HB.out | apply below_alloc | apply pw_below_drewN | apply below_drew1 | refine below_set ?_ GE183.out) | exact HB.out)⟩⟩
  case rest =>
    clear HC6
    obtain ⟨kq, x49_5, rfl, HA, HJ5, BK183, HB⟩ := hcut
    cases kq with
    | zero => exact absurd HA.out (by simp [amalgamlaw05_TextBack.j0])
    | succ kj5 =>
      have H := HA.out
      clear HA
      simp only [amalgamlaw05_TextBack.j0] at H
      by_cases c18 : x49_5 = true
      · subst c18
        have H1 : (some t184) = some r := by rw [if_pos rfl] at H; exact H
        clear H
        have H := H1
        clear H1
        obtain rfl := Option.some.inj H
        go_wp2
        go_ret
        exact ⟨by first | rfl | (simp [errW_none, errW_some] <;> rfl) | (simp [*, errW_none, errW_some] <;> rfl), by repeat (first | (with_reducible first | exact HB.out | apply below_alloc | apply pw_below_drewN | apply below_drew1 | refine below_set ?_ GE183.out) | exact HB.out)⟩
      · replace c18 := Bool.eq_false_iff.mpr c18
        subst c18
        have H1 : ((text_Show.f kj5 l0_0 a0_1 a0_2 l0_3).bind fun t188 => ((text_Term.f kj5 l0_0 t188).bind fun bt189 => ((amalgamref03_Exact.f kj5 bt189.1 bt189.2.1 bt189.2.2.1 a0_1 a0_2 l0_3).bind fun t197 => (if bt189.2.2.2.1 = 0 then (amalgamlaw05_TextBack.j1 kj5 (!t197) l0_0 a0_1 a0_2 l0_3 a0_4 a0_5 l0_6 l0_7) else (amalgamlaw05_TextBack.j1 kj5 true l0_0 a0_1 a0_2 l0_3 a0_4 a0_5 l0_6 l0_7))))) = some r := by rw [if_neg (show ¬ (false = true) by decide)] at H; exact H
        clear H
        have H := H1
        clear H1
        replace H := Option.bind_eq_some_iff.mp H
        obtain ⟨t188, A190, H⟩ := H
        replace H : ((text_Term.f kj5 l0_0 t188).bind fun bt189 => ((amalgamref03_Exact.f kj5 bt189.1 bt189.2.1 bt189.2.2.1 a0_1 a0_2 l0_3).bind fun t197 => (if bt189.2.2.2.1 = 0 then (amalgamlaw05_TextBack.j1 kj5 (!t197) l0_0 a0_1 a0_2 l0_3 a0_4 a0_5 l0_6 l0_7) else (amalgamlaw05_TextBack.j1 kj5 true l0_0 a0_1 a0_2 l0_3 a0_4 a0_5 l0_6 l0_7)))) = some r := H
        have A19 := Aside0.mk A190
        clear A190
        replace H := Option.bind_eq_some_iff.mp H
        obtain ⟨⟨t189, t190, t191, t194, t195⟩, A200, H⟩ := H
        replace H : ((amalgamref03_Exact.f kj5 t189 t190 t191 a0_1 a0_2 l0_3).bind fun t197 => (if t194 = 0 then (amalgamlaw05_TextBack.j1 kj5 (!t197) l0_0 a0_1 a0_2 l0_3 a0_4 a0_5 l0_6 l0_7) else (amalgamlaw05_TextBack.j1 kj5 true l0_0 a0_1 a0_2 l0_3 a0_4 a0_5 l0_6 l0_7))) = some r := H
        have A20 := Aside0.mk A200
        clear A200
        replace H := Option.bind_eq_some_iff.mp H
        obtain ⟨t197, A210, H⟩ := H
        replace H : (if t194 = 0 then (amalgamlaw05_TextBack.j1 kj5 (!t197) l0_0 a0_1 a0_2 l0_3 a0_4 a0_5 l0_6 l0_7) else (amalgamlaw05_TextBack.j1 kj5 true l0_0 a0_1 a0_2 l0_3 a0_4 a0_5 l0_6 l0_7)) = some r := H
        have A21 := Aside0.mk A210
        clear A210
        have HC22 := Aside0.mk H
        clear H
        try go_wp2
        have n0_ := Aside0.mk (blk_drew BK183.out)
        have n1_ := Aside0.mk (below_drew1 HB.out)
        clear BK183
        clear HB
        have BK183 := n0_
        have HB := n1_
        clear n0_ n1_
        refine start_ (n := 16) (S := fun w' => w'.cell? ⟨gb183, 0, none⟩ = some (.slice A0_0 l0_0.length c0_0) ∧ w'.cell? ⟨gb183, 1, none⟩ = some (.string a0_1) ∧ w'.cell? ⟨gb183, 2, none⟩ = some (.int .i64 a0_2) ∧ w'.cell? ⟨gb183, 3, none⟩ = some (.slice A0_3 l0_3.length c0_3) ∧ w'.cell? ⟨gb183, 4, none⟩ = some (.string a0_4) ∧ w'.cell? ⟨gb183, 5, none⟩ = some (.int .i64 a0_5) ∧ w'.cell? ⟨gb183, 6, none⟩ = some (.slice A0_6 l0_6.length c0_6) ∧ w'.cell? ⟨gb183, 7, none⟩ = some (.slice A0_7 l0_7.length c0_7)) (ds := []) #[false, false, false, false, false, false, false, false, false, false, false, false, false, false, false, false] (by kernel_rfl) rfl rfl ⟨(blk_cell BK183.out 0).trans rfl, (blk_cell BK183.out 1).trans rfl, (blk_cell BK183.out 2).trans rfl, (blk_cell BK183.out 3).trans rfl, (blk_cell BK183.out 4).trans rfl, (blk_cell BK183.out 5).trans rfl, (blk_cell BK183.out 6).trans rfl, (blk_cell BK183.out 7).trans rfl⟩ (fun hHeld => ?_); refine with_tabW amalgamlaw05_TextBack.tab7 amalgamlaw05_TextBack.bits7 (fun HT_ HW_ => ?_)
        generalize wc.drew = w23 at BK183 HB hHeld ⊢
        refine pure_ (i := 0) (N := some 52) (v := ?_) (a' := ?_) #[true, false, false, false, false, false, false, false, false, false, false, false, false, false, false, false] rfl rfl (any_of HT_.out (by kernel_rfl)) (fun _ _ _ h => h) (Or.inl ⟨by rfl, ?_⟩) ?_ ?_
        rotate_left
        · intro w'
          go_simp
          first | (with_reducible rfl) | (rw [if_neg (by simp only [decide_eq_true_eq, ByteArray.size_append] at *; omega)])
        rotate_left
        · simp only [Act.put, List.setIfInBounds_toArray, List.set_cons_zero, List.set_cons_succ, i64_w, i32_w]
          rfl
        refine pure_ (i := 2) (N := some 54) (v := ?_) (a' := ?_) #[true, false, true, false, false, false, false, false, false, false, false, false, false, false, false, false] rfl rfl (any_of HT_.out (by kernel_rfl)) (fun _ _ _ h => h) (Or.inl ⟨by rfl, ?_⟩) ?_ ?_
        rotate_left
        · intro w'
          go_simp
          first | (with_reducible rfl) | (rw [if_neg (by simp only [decide_eq_true_eq, ByteArray.size_append] at *; omega)])
        rotate_left
        · simp only [Act.put, List.setIfInBounds_toArray, List.set_cons_zero, List.set_cons_succ, i64_w, i32_w]
          rfl
        refine pure_ (i := 4) (N := some 56) (v := ?_) (a' := ?_) #[true, false, true, false, true, false, false, false, false, false, false, false, false, false, false, false] rfl rfl (any_of HT_.out (by kernel_rfl)) (fun _ _ _ h => h) (Or.inl ⟨by rfl, ?_⟩) ?_ ?_
        rotate_left
        · intro w'
          go_simp
          first | (with_reducible rfl) | (rw [if_neg (by simp only [decide_eq_true_eq, ByteArray.size_append] at *; omega)])
        rotate_left
        · simp only [Act.put, List.setIfInBounds_toArray, List.set_cons_zero, List.set_cons_succ, i64_w, i32_w]
          rfl
        refine take_ (i := 1) (N := some 53) (v := ?_) (a' := ?_) #[true, true, true, false, true, false, false, false, false, false, false, false, false, false, false, false] rfl rfl (take_ofW HT_.out HW_.out (by kernel_rfl)) (fun _ _ _ h => h) (Or.inl ⟨by rfl, ?_⟩) hHeld ?_ ?_
        rotate_left
        · rintro w' ⟨s0, s1, s2, s3, s4, s5, s6, s7⟩
          go_simp
          first | (with_reducible rfl) | (rw [if_neg (by simp only [decide_eq_true_eq, ByteArray.size_append] at *; omega)])
        rotate_left
        · simp only [Act.put, List.setIfInBounds_toArray, List.set_cons_zero, List.set_cons_succ, i64_w, i32_w]
          rfl
        refine take_ (i := 3) (N := some 55) (v := ?_) (a' := ?_) #[true, true, true, true, true, false, false, false, false, false, false, false, false, false, false, false] rfl rfl (take_ofW HT_.out HW_.out (by kernel_rfl)) (fun _ _ _ h => h) (Or.inl ⟨by rfl, ?_⟩) hHeld ?_ ?_
        rotate_left
        · rintro w' ⟨s0, s1, s2, s3, s4, s5, s6, s7⟩
          go_simp
          first | (with_reducible rfl) | (rw [if_neg (by simp only [decide_eq_true_eq, ByteArray.size_append] at *; omega)])
        rotate_left
        · simp only [Act.put, List.setIfInBounds_toArray, List.set_cons_zero, List.set_cons_succ, i64_w, i32_w]
          rfl
        refine take_ (i := 5) (N := some 57) (v := ?_) (a' := ?_) #[true, true, true, true, true, true, false, false, false, false, false, false, false, false, false, false] rfl rfl (take_ofW HT_.out HW_.out (by kernel_rfl)) (fun _ _ _ h => h) (Or.inl ⟨by rfl, ?_⟩) hHeld ?_ ?_
        rotate_left
        · rintro w' ⟨s0, s1, s2, s3, s4, s5, s6, s7⟩
          go_simp
          first | (with_reducible rfl) | (rw [if_neg (by simp only [decide_eq_true_eq, ByteArray.size_append] at *; omega)])
        rotate_left
        · simp only [Act.put, List.setIfInBounds_toArray, List.set_cons_zero, List.set_cons_succ, i64_w, i32_w]
          rfl
        refine join_ (σ := Value × Nat) 3 #[true, true, true, true, true, true, true, true, true, true, true, true, true, false, false, false] (fun s_ => [(58, .string t188), (59, .tuple #[.agg #[.string t189, .int .i64 t190, s_.1], .int .i64 t194, .int .i64 t195]), (7, .pointer (some ⟨s_.2, 0, none⟩)), (51, .tuple #[.agg #[.string t189, .int .i64 t190, s_.1], .int .i64 t194, .int .i64 t195]), (60, .agg #[.string t189, .int .i64 t190, s_.1]), (61, .int .i64 t194), (62, .int .i64 t195)]) (fun s_ w' => (w'.cell? ⟨gb183, 0, none⟩ = some (.slice A0_0 l0_0.length c0_0) ∧ w'.cell? ⟨gb183, 1, none⟩ = some (.string a0_1) ∧ w'.cell? ⟨gb183, 2, none⟩ = some (.int .i64 a0_2) ∧ w'.cell? ⟨gb183, 3, none⟩ = some (.slice A0_3 l0_3.length c0_3) ∧ w'.cell? ⟨gb183, 4, none⟩ = some (.string a0_4) ∧ w'.cell? ⟨gb183, 5, none⟩ = some (.int .i64 a0_5) ∧ w'.cell? ⟨gb183, 6, none⟩ = some (.slice A0_6 l0_6.length c0_6) ∧ w'.cell? ⟨gb183, 7, none⟩ = some (.slice A0_7 l0_7.length c0_7)) ∧ (Kd.R k27 27 w' w.heap.size (fun k_ => k_ ≠ s_.2) s_.1 t191) ∧ (w'.heap[gb183]? = some (.cells #[.slice A0_0 l0_0.length c0_0, .string a0_1, .int .i64 a0_2, .slice A0_3 l0_3.length c0_3, .string a0_4, .int .i64 a0_5, .slice A0_6 l0_6.length c0_6, .slice A0_7 l0_7.length c0_7] 36 (0, 0))) ∧ (w'.heap[s_.2]? = some (.cells #[.string (⟨#[]⟩ : ByteArray), .int .i64 0, .slice none 0 0] 27 (0, 0))) ∧ (w.heap.size ≤ s_.2) ∧ (w.heap.size ≤ s_.2) ∧ (gb183 ≠ s_.2) ∧ (s_.2 ≠ gb183) ∧ (Below w.heap.size w w')) ?_ ?_
        rotate_left
        · intro hCont
          refine two_ (i := 6) (j := 12) (Ni := some 58) (Nj := some 7) #[true, true, true, true, true, true, true, false, false, false, false, false, false, false, false, false] #[true, true, true, true, true, true, false, false, false, false, false, false, true, false, false, false] rfl rfl rfl rfl (two_of HT_.out (by kernel_rfl)) (by decide) (by decide) (fun K hK => ?_) (fun K hK => ?_)
          · skip
            refine goes_ Try.func9 (by kernel_rfl) rfl #[.slice A0_0 l0_0.length c0_0, .agg #[.string a0_1, .int .i64 a0_2, .slice A0_3 l0_3.length c0_3]] (by rfl) rfl rfl (by (try simp only [List.map_toArray, List.map_cons, List.map_nil]); first | done | rfl | (simp only [List.length_drop, List.length_take]; rfl)) ?_
            with_reducible refine (text_Show.calls kj5 _ _ l0_0 a0_1 a0_2 _ _ l0_3 t188 _ ?side1 ?side2 ?side3 ?side4 A19.out).mono ?_
            (case side1 => repeat (first | exact (Kd.C_below HR0_0.out HB.out) | (with_reducible refine Kd.C_alloc ?_ _) | (with_reducible refine Kd.C_drewN ?_ _) | (with_reducible refine Kd.C_drew ?_)))
            (case side2 => exact HC0_0.out)
            (case side3 => repeat (first | exact (Kd.C_below HR0_3.out HB.out) | (with_reducible refine Kd.C_alloc ?_ _) | (with_reducible refine Kd.C_drewN ?_ _) | (with_reducible refine Kd.C_drew ?_)))
            (case side4 => exact HC0_3.out)
            rintro e w24 ⟨rfl, hb⟩
            refine ⟨_, rfl, ?_⟩
            have n0_ := Aside0.mk (blk_below (g := gb183) (o := .cells #[.slice A0_0 l0_0.length c0_0, .string a0_1, .int .i64 a0_2, .slice A0_3 l0_3.length c0_3, .string a0_4, .int .i64 a0_5, .slice A0_6 l0_6.length c0_6, .slice A0_7 l0_7.length c0_7] 36 (0, 0)) (by (with_reducible repeat (first | refine blk_drewN ?_ _ | refine blk_drew ?_ | refine blk_alloc ?_ _)); exact BK183.out) hb)
            have n1_ := Aside0.mk (below_step (by repeat (first | (with_reducible first | exact HB.out | apply below_alloc | apply pw_below_drewN | apply below_drew1 | refine below_set ?_ GE183.out) | exact HB.out)) hb)
            clear BK183
            clear HB
            have BK183 := n0_
            have HB := n1_
            clear n0_ n1_
            (try clear hb)
            (try clear hb2)
            (try clear hk)
            (try clear hi)
            refine hK.out _ _ ⟨(blk_cell BK183.out 0).trans rfl, (blk_cell BK183.out 1).trans rfl, (blk_cell BK183.out 2).trans rfl, (blk_cell BK183.out 3).trans rfl, (blk_cell BK183.out 4).trans rfl, (blk_cell BK183.out 5).trans rfl, (blk_cell BK183.out 6).trans rfl, (blk_cell BK183.out 7).trans rfl⟩ (fun hHeld => ?_)
            clear hK K
            refine norm_ (a' := ?_) ?_ ?_
            rotate_left
            · show Act.put _ (some 58) _ = _
              simp only [Act.put, List.setIfInBounds_toArray, List.set_cons_zero, List.set_cons_succ, i64_w, i32_w]
              rfl
            refine two_ (i := 7) (j := 12) (Ni := some 59) (Nj := some 7) #[true, true, true, true, true, true, true, true, false, false, false, false, false, false, false, false] #[true, true, true, true, true, true, true, false, false, false, false, false, true, false, false, false] rfl rfl rfl rfl (two_of HT_.out (by kernel_rfl)) (by decide) (by decide) (fun K hK => ?_) (fun K hK => ?_)
            · skip
              refine goes_ Try.func7 (by kernel_rfl) rfl #[.slice A0_0 l0_0.length c0_0, .string t188] (by rfl) rfl rfl (by (try simp only [List.map_toArray, List.map_cons, List.map_nil]); first | done | rfl | (simp only [List.length_drop, List.length_take]; rfl)) ?_
              with_reducible refine (text_Term.calls kj5 _ _ l0_0 t188 t189 t190 t191 t194 t195 _ ?side1 ?side2 A20.out).mono ?_
              (case side1 => repeat (first | exact (Kd.C_below HR0_0.out HB.out) | (with_reducible refine Kd.C_alloc ?_ _) | (with_reducible refine Kd.C_drewN ?_ _) | (with_reducible refine Kd.C_drew ?_)))
              (case side2 => exact HC0_0.out)
              rintro e w25 ⟨v192, rfl, ho0, hb⟩
              refine ⟨_, rfl, ?_⟩
              have n0_ := Aside0.mk (Kd.R_lower ho0 (below_size (by repeat (first | (with_reducible first | exact HB.out | apply below_alloc | apply pw_below_drewN | apply below_drew1 | refine below_set ?_ GE183.out) | exact HB.out))))
              have n1_ := Aside0.mk (blk_below (g := gb183) (o := .cells #[.slice A0_0 l0_0.length c0_0, .string a0_1, .int .i64 a0_2, .slice A0_3 l0_3.length c0_3, .string a0_4, .int .i64 a0_5, .slice A0_6 l0_6.length c0_6, .slice A0_7 l0_7.length c0_7] 36 (0, 0)) (by (with_reducible repeat (first | refine blk_drewN ?_ _ | refine blk_drew ?_ | refine blk_alloc ?_ _)); exact BK183.out) hb)
              have n2_ := Aside0.mk (below_step (by repeat (first | (with_reducible first | exact HB.out | apply below_alloc | apply pw_below_drewN | apply below_drew1 | refine below_set ?_ GE183.out) | exact HB.out)) hb)
              clear BK183
              clear HB
              have HO193 := n0_
              have BK183 := n1_
              have HB := n2_
              clear n0_ n1_ n2_
              (try clear hb)
              (try clear hb2)
              (try clear hk)
              (try clear hi)
              (try clear ho0)
              refine hK.out _ _ ⟨(blk_cell BK183.out 0).trans rfl, (blk_cell BK183.out 1).trans rfl, (blk_cell BK183.out 2).trans rfl, (blk_cell BK183.out 3).trans rfl, (blk_cell BK183.out 4).trans rfl, (blk_cell BK183.out 5).trans rfl, (blk_cell BK183.out 6).trans rfl, (blk_cell BK183.out 7).trans rfl⟩ (fun hHeld => ?_)
              clear hK K
              refine norm_ (a' := ?_) ?_ ?_
              rotate_left
              · show Act.put _ (some 59) _ = _
                simp only [Act.put, List.setIfInBounds_toArray, List.set_cons_zero, List.set_cons_succ, i64_w, i32_w]
                rfl
              refine pure_ (i := 8) (N := some 51) (v := ?_) (a' := ?_) #[true, true, true, true, true, true, true, true, true, false, false, false, false, false, false, false] rfl rfl (any_of HT_.out (by kernel_rfl)) (fun _ _ _ h => h) (Or.inl ⟨by rfl, ?_⟩) ?_ ?_
              rotate_left
              · intro w'
                go_simp
                first | (with_reducible rfl) | (rw [if_neg (by simp only [decide_eq_true_eq, ByteArray.size_append] at *; omega)])
              rotate_left
              · simp only [Act.put, List.setIfInBounds_toArray, List.set_cons_zero, List.set_cons_succ, i64_w, i32_w]
                rfl
              refine pure_ (i := 9) (N := some 60) (v := ?_) (a' := ?_) #[true, true, true, true, true, true, true, true, true, true, false, false, false, false, false, false] rfl rfl (any_of HT_.out (by kernel_rfl)) (fun _ _ _ h => h) (Or.inl ⟨by rfl, ?_⟩) ?_ ?_
              rotate_left
              · intro w'
                go_simp
                first | (with_reducible rfl) | (rw [if_neg (by simp only [decide_eq_true_eq, ByteArray.size_append] at *; omega)])
              rotate_left
              · simp only [Act.put, List.setIfInBounds_toArray, List.set_cons_zero, List.set_cons_succ, i64_w, i32_w]
                rfl
              refine pure_ (i := 10) (N := some 61) (v := ?_) (a' := ?_) #[true, true, true, true, true, true, true, true, true, true, true, false, false, false, false, false] rfl rfl (any_of HT_.out (by kernel_rfl)) (fun _ _ _ h => h) (Or.inl ⟨by rfl, ?_⟩) ?_ ?_
              rotate_left
              · intro w'
                go_simp
                first | (with_reducible rfl) | (rw [if_neg (by simp only [decide_eq_true_eq, ByteArray.size_append] at *; omega)])
              rotate_left
              · simp only [Act.put, List.setIfInBounds_toArray, List.set_cons_zero, List.set_cons_succ, i64_w, i32_w]
                rfl
              refine pure_ (i := 11) (N := some 62) (v := ?_) (a' := ?_) #[true, true, true, true, true, true, true, true, true, true, true, true, false, false, false, false] rfl rfl (any_of HT_.out (by kernel_rfl)) (fun _ _ _ h => h) (Or.inl ⟨by rfl, ?_⟩) ?_ ?_
              rotate_left
              · intro w'
                go_simp
                first | (with_reducible rfl) | (rw [if_neg (by simp only [decide_eq_true_eq, ByteArray.size_append] at *; omega)])
              rotate_left
              · simp only [Act.put, List.setIfInBounds_toArray, List.set_cons_zero, List.set_cons_succ, i64_w, i32_w]
                rfl
              refine one_ (i := 12) (N := some 7) #[true, true, true, true, true, true, true, true, true, true, true, true, true, false, false, false] rfl rfl (one_of HT_.out (by kernel_rfl)) (by decide) (fun K hK => ?_)
              refine box_step ?hg (N := 7) ?hd (cs := #[.string (⟨#[]⟩ : ByteArray), .int .i64 0, .slice none 0 0]) (t := 27) ?hr ?_; (case hd => rfl); (case hg => rfl); (case hr => first | (go_simp; done) | (go_simp; rfl))
              intro gb196 hg w26 hbox hb
              have n0_ := Aside0.mk (Kd.R_below (Kd.R_elderB (by (with_reducible repeat (first | apply Kd.R_alloc | apply Kd.R_drewN | apply Kd.R_drew)); exact HO193.out) gb196 (Nat.le_of_eq hg.symm)) hb)
              have n1_ := Aside0.mk (blk_below (g := gb183) (o := .cells #[.slice A0_0 l0_0.length c0_0, .string a0_1, .int .i64 a0_2, .slice A0_3 l0_3.length c0_3, .string a0_4, .int .i64 a0_5, .slice A0_6 l0_6.length c0_6, .slice A0_7 l0_7.length c0_7] 36 (0, 0)) (by (with_reducible repeat (first | refine blk_drewN ?_ _ | refine blk_drew ?_ | refine blk_alloc ?_ _)); exact BK183.out) hb)
              have n2_ := Aside0.mk (below_step (by repeat (first | (with_reducible first | exact HB.out | apply below_alloc | apply pw_below_drewN | apply below_drew1 | refine below_set ?_ GE183.out) | exact HB.out)) hb)
              have n3_ := Aside0.mk (hbox)
              have n4_ := Aside0.mk ((by rw [hg]; exact (below_size (by repeat (first | (with_reducible first | exact HB.out | apply below_alloc | apply pw_below_drewN | apply below_drew1 | refine below_set ?_ GE183.out) | exact HB.out))) : w.heap.size ≤ gb196))
              have n5_ := Aside0.mk ((by rw [hg]; exact (below_size (by repeat (first | (with_reducible first | exact HB.out | apply below_alloc | apply pw_below_drewN | apply below_drew1 | refine below_set ?_ GE183.out) | exact HB.out))) : w.heap.size ≤ gb196))
              have n6_ := Aside0.mk ((by rw [hg]; exact Nat.ne_of_lt (blk_lt (g := gb183) (o := .cells #[.slice A0_0 l0_0.length c0_0, .string a0_1, .int .i64 a0_2, .slice A0_3 l0_3.length c0_3, .string a0_4, .int .i64 a0_5, .slice A0_6 l0_6.length c0_6, .slice A0_7 l0_7.length c0_7] 36 (0, 0)) (by (with_reducible repeat (first | refine blk_drewN ?_ _ | refine blk_drew ?_ | refine blk_alloc ?_ _)); exact BK183.out)) : gb183 ≠ gb196))
              have n7_ := Aside0.mk ((by rw [hg]; exact Nat.ne_of_gt (blk_lt (g := gb183) (o := .cells #[.slice A0_0 l0_0.length c0_0, .string a0_1, .int .i64 a0_2, .slice A0_3 l0_3.length c0_3, .string a0_4, .int .i64 a0_5, .slice A0_6 l0_6.length c0_6, .slice A0_7 l0_7.length c0_7] 36 (0, 0)) (by (with_reducible repeat (first | refine blk_drewN ?_ _ | refine blk_drew ?_ | refine blk_alloc ?_ _)); exact BK183.out)) : gb196 ≠ gb183))
              clear HO193
              clear BK183
              clear HB
              have HO193 := n0_
              have BK183 := n1_
              have HB := n2_
              have BK196 := n3_
              have GW196 := n4_
              have GE196 := n5_
              have NB183_196 := n6_
              have NB196_183 := n7_
              clear n0_ n1_ n2_ n3_ n4_ n5_ n6_ n7_
              clear hb hbox hg
              refine hK.out _ _ ⟨(blk_cell BK183.out 0).trans rfl, (blk_cell BK183.out 1).trans rfl, (blk_cell BK183.out 2).trans rfl, (blk_cell BK183.out 3).trans rfl, (blk_cell BK183.out 4).trans rfl, (blk_cell BK183.out 5).trans rfl, (blk_cell BK183.out 6).trans rfl, (blk_cell BK183.out 7).trans rfl⟩ (fun hHeld => ?_)
              clear hK K
              refine norm_ (a' := ?_) ?_ ?_
              rotate_left
              · show Act.put _ (some 7) _ = _
                simp only [Act.put, List.setIfInBounds_toArray, List.set_cons_zero, List.set_cons_succ, i64_w, i32_w]
                rfl
              exact norm_ (by simp only [putAll, Act.put, List.setIfInBounds_toArray, List.set_cons_zero, List.set_cons_succ]) (hCont (v192, gb196) _ ⟨hHeld, (by (with_reducible repeat (first | apply Kd.R_alloc | apply Kd.R_drewN | apply Kd.R_drew)); exact Kd.R_mono HO193.out (fun _ hk => hk.2)), (by (with_reducible repeat (first | refine blk_drewN ?_ _ | refine blk_drew ?_ | refine blk_alloc ?_ _)); exact BK183.out), (by (with_reducible repeat (first | refine blk_drewN ?_ _ | refine blk_drew ?_ | refine blk_alloc ?_ _)); exact BK196.out), GW196.out, GE196.out, NB183_196.out, NB196_183.out, (by repeat (first | (with_reducible first | exact HB.out | apply below_alloc | apply pw_below_drewN | apply below_drew1 | refine below_set ?_ GE183.out | refine below_set ?_ GE196.out) | exact HB.out))⟩)
            · skip
              refine box_step ?hg (N := 7) ?hd (cs := #[.string (⟨#[]⟩ : ByteArray), .int .i64 0, .slice none 0 0]) (t := 27) ?hr ?_; (case hd => rfl); (case hg => rfl); (case hr => first | (go_simp; done) | (go_simp; rfl))
              intro gb196 hg w25 hbox hb
              have n0_ := Aside0.mk (blk_below (g := gb183) (o := .cells #[.slice A0_0 l0_0.length c0_0, .string a0_1, .int .i64 a0_2, .slice A0_3 l0_3.length c0_3, .string a0_4, .int .i64 a0_5, .slice A0_6 l0_6.length c0_6, .slice A0_7 l0_7.length c0_7] 36 (0, 0)) (by (with_reducible repeat (first | refine blk_drewN ?_ _ | refine blk_drew ?_ | refine blk_alloc ?_ _)); exact BK183.out) hb)
              have n1_ := Aside0.mk (below_step (by repeat (first | (with_reducible first | exact HB.out | apply below_alloc | apply pw_below_drewN | apply below_drew1 | refine below_set ?_ GE183.out) | exact HB.out)) hb)
              have n2_ := Aside0.mk (hbox)
              have n3_ := Aside0.mk ((by rw [hg]; exact (below_size (by repeat (first | (with_reducible first | exact HB.out | apply below_alloc | apply pw_below_drewN | apply below_drew1 | refine below_set ?_ GE183.out) | exact HB.out))) : w.heap.size ≤ gb196))
              have n4_ := Aside0.mk ((by rw [hg]; exact (below_size (by repeat (first | (with_reducible first | exact HB.out | apply below_alloc | apply pw_below_drewN | apply below_drew1 | refine below_set ?_ GE183.out) | exact HB.out))) : w.heap.size ≤ gb196))
              have n5_ := Aside0.mk ((by rw [hg]; exact Nat.ne_of_lt (blk_lt (g := gb183) (o := .cells #[.slice A0_0 l0_0.length c0_0, .string a0_1, .int .i64 a0_2, .slice A0_3 l0_3.length c0_3, .string a0_4, .int .i64 a0_5, .slice A0_6 l0_6.length c0_6, .slice A0_7 l0_7.length c0_7] 36 (0, 0)) (by (with_reducible repeat (first | refine blk_drewN ?_ _ | refine blk_drew ?_ | refine blk_alloc ?_ _)); exact BK183.out)) : gb183 ≠ gb196))
              have n6_ := Aside0.mk ((by rw [hg]; exact Nat.ne_of_gt (blk_lt (g := gb183) (o := .cells #[.slice A0_0 l0_0.length c0_0, .string a0_1, .int .i64 a0_2, .slice A0_3 l0_3.length c0_3, .string a0_4, .int .i64 a0_5, .slice A0_6 l0_6.length c0_6, .slice A0_7 l0_7.length c0_7] 36 (0, 0)) (by (with_reducible repeat (first | refine blk_drewN ?_ _ | refine blk_drew ?_ | refine blk_alloc ?_ _)); exact BK183.out)) : gb196 ≠ gb183))
              clear BK183
              clear HB
              have BK183 := n0_
              have HB := n1_
              have BK196 := n2_
              have GW196 := n3_
              have GE196 := n4_
              have NB183_196 := n5_
              have NB196_183 := n6_
              clear n0_ n1_ n2_ n3_ n4_ n5_ n6_
              clear hb hbox hg
              refine hK.out _ _ ⟨(blk_cell BK183.out 0).trans rfl, (blk_cell BK183.out 1).trans rfl, (blk_cell BK183.out 2).trans rfl, (blk_cell BK183.out 3).trans rfl, (blk_cell BK183.out 4).trans rfl, (blk_cell BK183.out 5).trans rfl, (blk_cell BK183.out 6).trans rfl, (blk_cell BK183.out 7).trans rfl⟩ (fun hHeld => ?_)
              clear hK K
              refine norm_ (a' := ?_) ?_ ?_
              rotate_left
              · show Act.put _ (some 7) _ = _
                simp only [Act.put, List.setIfInBounds_toArray, List.set_cons_zero, List.set_cons_succ, i64_w, i32_w]
                rfl
              refine one_ (i := 7) (N := some 59) #[true, true, true, true, true, true, true, true, false, false, false, false, true, false, false, false] rfl rfl (one_of HT_.out (by kernel_rfl)) (by decide) (fun K hK => ?_)
              refine goes_ Try.func7 (by kernel_rfl) rfl #[.slice A0_0 l0_0.length c0_0, .string t188] (by rfl) rfl rfl (by (try simp only [List.map_toArray, List.map_cons, List.map_nil]); first | done | rfl | (simp only [List.length_drop, List.length_take]; rfl)) ?_
              with_reducible refine (text_Term.calls kj5 _ _ l0_0 t188 t189 t190 t191 t194 t195 _ ?side1 ?side2 A20.out).mono ?_
              (case side1 => repeat (first | exact (Kd.C_below HR0_0.out HB.out) | (with_reducible refine Kd.C_alloc ?_ _) | (with_reducible refine Kd.C_drewN ?_ _) | (with_reducible refine Kd.C_drew ?_)))
              (case side2 => exact HC0_0.out)
              rintro e w26 ⟨v192, rfl, ho0, hb⟩
              refine ⟨_, rfl, ?_⟩
              have n0_ := Aside0.mk (Kd.R_lower (Kd.R_newB ho0 (g := gb196) (o := .cells #[.string (⟨#[]⟩ : ByteArray), .int .i64 0, .slice none 0 0] 27 (0, 0)) (by (with_reducible repeat (first | refine blk_drewN ?_ _ | refine blk_drew ?_ | refine blk_alloc ?_ _)); exact BK196.out)) (below_size (by repeat (first | (with_reducible first | exact HB.out | apply below_alloc | apply pw_below_drewN | apply below_drew1 | refine below_set ?_ GE183.out | refine below_set ?_ GE196.out) | exact HB.out))))
              have n1_ := Aside0.mk (blk_below (g := gb183) (o := .cells #[.slice A0_0 l0_0.length c0_0, .string a0_1, .int .i64 a0_2, .slice A0_3 l0_3.length c0_3, .string a0_4, .int .i64 a0_5, .slice A0_6 l0_6.length c0_6, .slice A0_7 l0_7.length c0_7] 36 (0, 0)) (by (with_reducible repeat (first | refine blk_drewN ?_ _ | refine blk_drew ?_ | refine blk_alloc ?_ _)); exact BK183.out) hb)
              have n2_ := Aside0.mk (blk_below (g := gb196) (o := .cells #[.string (⟨#[]⟩ : ByteArray), .int .i64 0, .slice none 0 0] 27 (0, 0)) (by (with_reducible repeat (first | refine blk_drewN ?_ _ | refine blk_drew ?_ | refine blk_alloc ?_ _)); exact BK196.out) hb)
              have n3_ := Aside0.mk (below_step (by repeat (first | (with_reducible first | exact HB.out | apply below_alloc | apply pw_below_drewN | apply below_drew1 | refine below_set ?_ GE183.out | refine below_set ?_ GE196.out) | exact HB.out)) hb)
              clear BK183
              clear BK196
              clear HB
              have HO193 := n0_
              have BK183 := n1_
              have BK196 := n2_
              have HB := n3_
              clear n0_ n1_ n2_ n3_
              (try clear hb)
              (try clear hb2)
              (try clear hk)
              (try clear hi)
              (try clear ho0)
              refine hK.out _ _ ⟨(blk_cell BK183.out 0).trans rfl, (blk_cell BK183.out 1).trans rfl, (blk_cell BK183.out 2).trans rfl, (blk_cell BK183.out 3).trans rfl, (blk_cell BK183.out 4).trans rfl, (blk_cell BK183.out 5).trans rfl, (blk_cell BK183.out 6).trans rfl, (blk_cell BK183.out 7).trans rfl⟩ (fun hHeld => ?_)
              clear hK K
              refine norm_ (a' := ?_) ?_ ?_
              rotate_left
              · show Act.put _ (some 59) _ = _
                simp only [Act.put, List.setIfInBounds_toArray, List.set_cons_zero, List.set_cons_succ, i64_w, i32_w]
                rfl
              refine pure_ (i := 8) (N := some 51) (v := ?_) (a' := ?_) #[true, true, true, true, true, true, true, true, true, false, false, false, true, false, false, false] rfl rfl (any_of HT_.out (by kernel_rfl)) (fun _ _ _ h => h) (Or.inl ⟨by rfl, ?_⟩) ?_ ?_
              rotate_left
              · intro w'
                go_simp
                first | (with_reducible rfl) | (rw [if_neg (by simp only [decide_eq_true_eq, ByteArray.size_append] at *; omega)])
              rotate_left
              · simp only [Act.put, List.setIfInBounds_toArray, List.set_cons_zero, List.set_cons_succ, i64_w, i32_w]
                rfl
              refine pure_ (i := 9) (N := some 60) (v := ?_) (a' := ?_) #[true, true, true, true, true, true, true, true, true, true, false, false, true, false, false, false] rfl rfl (any_of HT_.out (by kernel_rfl)) (fun _ _ _ h => h) (Or.inl ⟨by rfl, ?_⟩) ?_ ?_
              rotate_left
              · intro w'
                go_simp
                first | (with_reducible rfl) | (rw [if_neg (by simp only [decide_eq_true_eq, ByteArray.size_append] at *; omega)])
              rotate_left
              · simp only [Act.put, List.setIfInBounds_toArray, List.set_cons_zero, List.set_cons_succ, i64_w, i32_w]
                rfl
              refine pure_ (i := 10) (N := some 61) (v := ?_) (a' := ?_) #[true, true, true, true, true, true, true, true, true, true, true, false, true, false, false, false] rfl rfl (any_of HT_.out (by kernel_rfl)) (fun _ _ _ h => h) (Or.inl ⟨by rfl, ?_⟩) ?_ ?_
              rotate_left
              · intro w'
                go_simp
                first | (with_reducible rfl) | (rw [if_neg (by simp only [decide_eq_true_eq, ByteArray.size_append] at *; omega)])
              rotate_left
              · simp only [Act.put, List.setIfInBounds_toArray, List.set_cons_zero, List.set_cons_succ, i64_w, i32_w]
                rfl
              refine pure_ (i := 11) (N := some 62) (v := ?_) (a' := ?_) #[true, true, true, true, true, true, true, true, true, true, true, true, true, false, false, false] rfl rfl (any_of HT_.out (by kernel_rfl)) (fun _ _ _ h => h) (Or.inl ⟨by rfl, ?_⟩) ?_ ?_
              rotate_left
              · intro w'
                go_simp
                first | (with_reducible rfl) | (rw [if_neg (by simp only [decide_eq_true_eq, ByteArray.size_append] at *; omega)])
              rotate_left
              · simp only [Act.put, List.setIfInBounds_toArray, List.set_cons_zero, List.set_cons_succ, i64_w, i32_w]
                rfl
              exact norm_ (by simp only [putAll, Act.put, List.setIfInBounds_toArray, List.set_cons_zero, List.set_cons_succ]) (hCont (v192, gb196) _ ⟨hHeld, (by (with_reducible repeat (first | apply Kd.R_alloc | apply Kd.R_drewN | apply Kd.R_drew)); exact Kd.R_mono HO193.out (fun _ hk => hk.2)), (by (with_reducible repeat (first | refine blk_drewN ?_ _ | refine blk_drew ?_ | refine blk_alloc ?_ _)); exact BK183.out), (by (with_reducible repeat (first | refine blk_drewN ?_ _ | refine blk_drew ?_ | refine blk_alloc ?_ _)); exact BK196.out), GW196.out, GE196.out, NB183_196.out, NB196_183.out, (by repeat (first | (with_reducible first | exact HB.out | apply below_alloc | apply pw_below_drewN | apply below_drew1 | refine below_set ?_ GE183.out | refine below_set ?_ GE196.out) | exact HB.out))⟩)
          · skip
            refine box_step ?hg (N := 7) ?hd (cs := #[.string (⟨#[]⟩ : ByteArray), .int .i64 0, .slice none 0 0]) (t := 27) ?hr ?_; (case hd => rfl); (case hg => rfl); (case hr => first | (go_simp; done) | (go_simp; rfl))
            intro gb196 hg w24 hbox hb
            have n0_ := Aside0.mk (blk_below (g := gb183) (o := .cells #[.slice A0_0 l0_0.length c0_0, .string a0_1, .int .i64 a0_2, .slice A0_3 l0_3.length c0_3, .string a0_4, .int .i64 a0_5, .slice A0_6 l0_6.length c0_6, .slice A0_7 l0_7.length c0_7] 36 (0, 0)) (by (with_reducible repeat (first | refine blk_drewN ?_ _ | refine blk_drew ?_ | refine blk_alloc ?_ _)); exact BK183.out) hb)
            have n1_ := Aside0.mk (below_step (by repeat (first | (with_reducible first | exact HB.out | apply below_alloc | apply pw_below_drewN | apply below_drew1 | refine below_set ?_ GE183.out) | exact HB.out)) hb)
            have n2_ := Aside0.mk (hbox)
            have n3_ := Aside0.mk ((by rw [hg]; exact (below_size (by repeat (first | (with_reducible first | exact HB.out | apply below_alloc | apply pw_below_drewN | apply below_drew1 | refine below_set ?_ GE183.out) | exact HB.out))) : w.heap.size ≤ gb196))
            have n4_ := Aside0.mk ((by rw [hg]; exact (below_size (by repeat (first | (with_reducible first | exact HB.out | apply below_alloc | apply pw_below_drewN | apply below_drew1 | refine below_set ?_ GE183.out) | exact HB.out))) : w.heap.size ≤ gb196))
            have n5_ := Aside0.mk ((by rw [hg]; exact Nat.ne_of_lt (blk_lt (g := gb183) (o := .cells #[.slice A0_0 l0_0.length c0_0, .string a0_1, .int .i64 a0_2, .slice A0_3 l0_3.length c0_3, .string a0_4, .int .i64 a0_5, .slice A0_6 l0_6.length c0_6, .slice A0_7 l0_7.length c0_7] 36 (0, 0)) (by (with_reducible repeat (first | refine blk_drewN ?_ _ | refine blk_drew ?_ | refine blk_alloc ?_ _)); exact BK183.out)) : gb183 ≠ gb196))
            have n6_ := Aside0.mk ((by rw [hg]; exact Nat.ne_of_gt (blk_lt (g := gb183) (o := .cells #[.slice A0_0 l0_0.length c0_0, .string a0_1, .int .i64 a0_2, .slice A0_3 l0_3.length c0_3, .string a0_4, .int .i64 a0_5, .slice A0_6 l0_6.length c0_6, .slice A0_7 l0_7.length c0_7] 36 (0, 0)) (by (with_reducible repeat (first | refine blk_drewN ?_ _ | refine blk_drew ?_ | refine blk_alloc ?_ _)); exact BK183.out)) : gb196 ≠ gb183))
            clear BK183
            clear HB
            have BK183 := n0_
            have HB := n1_
            have BK196 := n2_
            have GW196 := n3_
            have GE196 := n4_
            have NB183_196 := n5_
            have NB196_183 := n6_
            clear n0_ n1_ n2_ n3_ n4_ n5_ n6_
            clear hb hbox hg
            refine hK.out _ _ ⟨(blk_cell BK183.out 0).trans rfl, (blk_cell BK183.out 1).trans rfl, (blk_cell BK183.out 2).trans rfl, (blk_cell BK183.out 3).trans rfl, (blk_cell BK183.out 4).trans rfl, (blk_cell BK183.out 5).trans rfl, (blk_cell BK183.out 6).trans rfl, (blk_cell BK183.out 7).trans rfl⟩ (fun hHeld => ?_)
            clear hK K
            refine norm_ (a' := ?_) ?_ ?_
            rotate_left
            · show Act.put _ (some 7) _ = _
              simp only [Act.put, List.setIfInBounds_toArray, List.set_cons_zero, List.set_cons_succ, i64_w, i32_w]
              rfl
            refine one_ (i := 6) (N := some 58) #[true, true, true, true, true, true, true, false, false, false, false, false, true, false, false, false] rfl rfl (one_of HT_.out (by kernel_rfl)) (by decide) (fun K hK => ?_)
            refine goes_ Try.func9 (by kernel_rfl) rfl #[.slice A0_0 l0_0.length c0_0, .agg #[.string a0_1, .int .i64 a0_2, .slice A0_3 l0_3.length c0_3]] (by rfl) rfl rfl (by (try simp only [List.map_toArray, List.map_cons, List.map_nil]); first | done | rfl | (simp only [List.length_drop, List.length_take]; rfl)) ?_
            with_reducible refine (text_Show.calls kj5 _ _ l0_0 a0_1 a0_2 _ _ l0_3 t188 _ ?side1 ?side2 ?side3 ?side4 A19.out).mono ?_
            (case side1 => repeat (first | exact (Kd.C_below HR0_0.out HB.out) | (with_reducible refine Kd.C_alloc ?_ _) | (with_reducible refine Kd.C_drewN ?_ _) | (with_reducible refine Kd.C_drew ?_)))
            (case side2 => exact HC0_0.out)
            (case side3 => repeat (first | exact (Kd.C_below HR0_3.out HB.out) | (with_reducible refine Kd.C_alloc ?_ _) | (with_reducible refine Kd.C_drewN ?_ _) | (with_reducible refine Kd.C_drew ?_)))
            (case side4 => exact HC0_3.out)
            rintro e w25 ⟨rfl, hb⟩
            refine ⟨_, rfl, ?_⟩
            have n0_ := Aside0.mk (blk_below (g := gb183) (o := .cells #[.slice A0_0 l0_0.length c0_0, .string a0_1, .int .i64 a0_2, .slice A0_3 l0_3.length c0_3, .string a0_4, .int .i64 a0_5, .slice A0_6 l0_6.length c0_6, .slice A0_7 l0_7.length c0_7] 36 (0, 0)) (by (with_reducible repeat (first | refine blk_drewN ?_ _ | refine blk_drew ?_ | refine blk_alloc ?_ _)); exact BK183.out) hb)
            have n1_ := Aside0.mk (blk_below (g := gb196) (o := .cells #[.string (⟨#[]⟩ : ByteArray), .int .i64 0, .slice none 0 0] 27 (0, 0)) (by (with_reducible repeat (first | refine blk_drewN ?_ _ | refine blk_drew ?_ | refine blk_alloc ?_ _)); exact BK196.out) hb)
            have n2_ := Aside0.mk (below_step (by repeat (first | (with_reducible first | exact HB.out | apply below_alloc | apply pw_below_drewN | apply below_drew1 | refine below_set ?_ GE183.out | refine below_set ?_ GE196.out) | exact HB.out)) hb)
            clear BK183
            clear BK196
            clear HB
            have BK183 := n0_
            have BK196 := n1_
            have HB := n2_
            clear n0_ n1_ n2_
            (try clear hb)
            (try clear hb2)
            (try clear hk)
            (try clear hi)
            refine hK.out _ _ ⟨(blk_cell BK183.out 0).trans rfl, (blk_cell BK183.out 1).trans rfl, (blk_cell BK183.out 2).trans rfl, (blk_cell BK183.out 3).trans rfl, (blk_cell BK183.out 4).trans rfl, (blk_cell BK183.out 5).trans rfl, (blk_cell BK183.out 6).trans rfl, (blk_cell BK183.out 7).trans rfl⟩ (fun hHeld => ?_)
            clear hK K
            refine norm_ (a' := ?_) ?_ ?_
            rotate_left
            · show Act.put _ (some 58) _ = _
              simp only [Act.put, List.setIfInBounds_toArray, List.set_cons_zero, List.set_cons_succ, i64_w, i32_w]
              rfl
            refine one_ (i := 7) (N := some 59) #[true, true, true, true, true, true, true, true, false, false, false, false, true, false, false, false] rfl rfl (one_of HT_.out (by kernel_rfl)) (by decide) (fun K hK => ?_)
            refine goes_ Try.func7 (by kernel_rfl) rfl #[.slice A0_0 l0_0.length c0_0, .string t188] (by rfl) rfl rfl (by (try simp only [List.map_toArray, List.map_cons, List.map_nil]); first | done | rfl | (simp only [List.length_drop, List.length_take]; rfl)) ?_
            with_reducible refine (text_Term.calls kj5 _ _ l0_0 t188 t189 t190 t191 t194 t195 _ ?side1 ?side2 A20.out).mono ?_
            (case side1 => repeat (first | exact (Kd.C_below HR0_0.out HB.out) | (with_reducible refine Kd.C_alloc ?_ _) | (with_reducible refine Kd.C_drewN ?_ _) | (with_reducible refine Kd.C_drew ?_)))
            (case side2 => exact HC0_0.out)
            rintro e w26 ⟨v192, rfl, ho0, hb⟩
            refine ⟨_, rfl, ?_⟩
            have n0_ := Aside0.mk (Kd.R_lower (Kd.R_newB ho0 (g := gb196) (o := .cells #[.string (⟨#[]⟩ : ByteArray), .int .i64 0, .slice none 0 0] 27 (0, 0)) (by (with_reducible repeat (first | refine blk_drewN ?_ _ | refine blk_drew ?_ | refine blk_alloc ?_ _)); exact BK196.out)) (below_size (by repeat (first | (with_reducible first | exact HB.out | apply below_alloc | apply pw_below_drewN | apply below_drew1 | refine below_set ?_ GE183.out | refine below_set ?_ GE196.out) | exact HB.out))))
            have n1_ := Aside0.mk (blk_below (g := gb183) (o := .cells #[.slice A0_0 l0_0.length c0_0, .string a0_1, .int .i64 a0_2, .slice A0_3 l0_3.length c0_3, .string a0_4, .int .i64 a0_5, .slice A0_6 l0_6.length c0_6, .slice A0_7 l0_7.length c0_7] 36 (0, 0)) (by (with_reducible repeat (first | refine blk_drewN ?_ _ | refine blk_drew ?_ | refine blk_alloc ?_ _)); exact BK183.out) hb)
            have n2_ := Aside0.mk (blk_below (g := gb196) (o := .cells #[.string (⟨#[]⟩ : ByteArray), .int .i64 0, .slice none 0 0] 27 (0, 0)) (by (with_reducible repeat (first | refine blk_drewN ?_ _ | refine blk_drew ?_ | refine blk_alloc ?_ _)); exact BK196.out) hb)
            have n3_ := Aside0.mk (below_step (by repeat (first | (with_reducible first | exact HB.out | apply below_alloc | apply pw_below_drewN | apply below_drew1 | refine below_set ?_ GE183.out | refine below_set ?_ GE196.out) | exact HB.out)) hb)
            clear BK183
            clear BK196
            clear HB
            have HO193 := n0_
            have BK183 := n1_
            have BK196 := n2_
            have HB := n3_
            clear n0_ n1_ n2_ n3_
            (try clear hb)
            (try clear hb2)
            (try clear hk)
            (try clear hi)
            (try clear ho0)
            refine hK.out _ _ ⟨(blk_cell BK183.out 0).trans rfl, (blk_cell BK183.out 1).trans rfl, (blk_cell BK183.out 2).trans rfl, (blk_cell BK183.out 3).trans rfl, (blk_cell BK183.out 4).trans rfl, (blk_cell BK183.out 5).trans rfl, (blk_cell BK183.out 6).trans rfl, (blk_cell BK183.out 7).trans rfl⟩ (fun hHeld => ?_)
            clear hK K
            refine norm_ (a' := ?_) ?_ ?_
            rotate_left
            · show Act.put _ (some 59) _ = _
              simp only [Act.put, List.setIfInBounds_toArray, List.set_cons_zero, List.set_cons_succ, i64_w, i32_w]
              rfl
            refine pure_ (i := 8) (N := some 51) (v := ?_) (a' := ?_) #[true, true, true, true, true, true, true, true, true, false, false, false, true, false, false, false] rfl rfl (any_of HT_.out (by kernel_rfl)) (fun _ _ _ h => h) (Or.inl ⟨by rfl, ?_⟩) ?_ ?_
            rotate_left
            · intro w'
              go_simp
              first | (with_reducible rfl) | (rw [if_neg (by simp only [decide_eq_true_eq, ByteArray.size_append] at *; omega)])
            rotate_left
            · simp only [Act.put, List.setIfInBounds_toArray, List.set_cons_zero, List.set_cons_succ, i64_w, i32_w]
              rfl
            refine pure_ (i := 9) (N := some 60) (v := ?_) (a' := ?_) #[true, true, true, true, true, true, true, true, true, true, false, false, true, false, false, false] rfl rfl (any_of HT_.out (by kernel_rfl)) (fun _ _ _ h => h) (Or.inl ⟨by rfl, ?_⟩) ?_ ?_
            rotate_left
            · intro w'
              go_simp
              first | (with_reducible rfl) | (rw [if_neg (by simp only [decide_eq_true_eq, ByteArray.size_append] at *; omega)])
            rotate_left
            · simp only [Act.put, List.setIfInBounds_toArray, List.set_cons_zero, List.set_cons_succ, i64_w, i32_w]
              rfl
            refine pure_ (i := 10) (N := some 61) (v := ?_) (a' := ?_) #[true, true, true, true, true, true, true, true, true, true, true, false, true, false, false, false] rfl rfl (any_of HT_.out (by kernel_rfl)) (fun _ _ _ h => h) (Or.inl ⟨by rfl, ?_⟩) ?_ ?_
            rotate_left
            · intro w'
              go_simp
              first | (with_reducible rfl) | (rw [if_neg (by simp only [decide_eq_true_eq, ByteArray.size_append] at *; omega)])
            rotate_left
            · simp only [Act.put, List.setIfInBounds_toArray, List.set_cons_zero, List.set_cons_succ, i64_w, i32_w]
              rfl
            refine pure_ (i := 11) (N := some 62) (v := ?_) (a' := ?_) #[true, true, true, true, true, true, true, true, true, true, true, true, true, false, false, false] rfl rfl (any_of HT_.out (by kernel_rfl)) (fun _ _ _ h => h) (Or.inl ⟨by rfl, ?_⟩) ?_ ?_
            rotate_left
            · intro w'
              go_simp
              first | (with_reducible rfl) | (rw [if_neg (by simp only [decide_eq_true_eq, ByteArray.size_append] at *; omega)])
            rotate_left
            · simp only [Act.put, List.setIfInBounds_toArray, List.set_cons_zero, List.set_cons_succ, i64_w, i32_w]
              rfl
            exact norm_ (by simp only [putAll, Act.put, List.setIfInBounds_toArray, List.set_cons_zero, List.set_cons_succ]) (hCont (v192, gb196) _ ⟨hHeld, (by (with_reducible repeat (first | apply Kd.R_alloc | apply Kd.R_drewN | apply Kd.R_drew)); exact Kd.R_mono HO193.out (fun _ hk => hk.2)), (by (with_reducible repeat (first | refine blk_drewN ?_ _ | refine blk_drew ?_ | refine blk_alloc ?_ _)); exact BK183.out), (by (with_reducible repeat (first | refine blk_drewN ?_ _ | refine blk_drew ?_ | refine blk_alloc ?_ _)); exact BK196.out), GW196.out, GE196.out, NB183_196.out, NB196_183.out, (by repeat (first | (with_reducible first | exact HB.out | apply below_alloc | apply pw_below_drewN | apply below_drew1 | refine below_set ?_ GE183.out | refine below_set ?_ GE196.out) | exact HB.out))⟩)
        rintro ⟨v192, gb196⟩ w27 ⟨hS_, h0_, h1_, h2_, h3_, h4_, h5_, h6_, h7_⟩
        have n0_ : Aside0 (Kd.R k27 27 w27 w.heap.size (fun k_ => k_ ≠ gb196) v192 t191) := ⟨h0_⟩
        have n1_ : Aside0 (w27.heap[gb183]? = some (.cells #[.slice A0_0 l0_0.length c0_0, .string a0_1, .int .i64 a0_2, .slice A0_3 l0_3.length c0_3, .string a0_4, .int .i64 a0_5, .slice A0_6 l0_6.length c0_6, .slice A0_7 l0_7.length c0_7] 36 (0, 0))) := ⟨h1_⟩
        have n2_ : Aside0 (w27.heap[gb196]? = some (.cells #[.string (⟨#[]⟩ : ByteArray), .int .i64 0, .slice none 0 0] 27 (0, 0))) := ⟨h2_⟩
        have n3_ : Aside0 (w.heap.size ≤ gb196) := ⟨h3_⟩
        have n4_ : Aside0 (w.heap.size ≤ gb196) := ⟨h4_⟩
        have n5_ : Aside0 (gb183 ≠ gb196) := ⟨h5_⟩
        have n6_ : Aside0 (gb196 ≠ gb183) := ⟨h6_⟩
        have n7_ : Aside0 (Below w.heap.size w w27) := ⟨h7_⟩
        clear BK183
        clear HB
        clear h0_ h1_ h2_ h3_ h4_ h5_ h6_ h7_
        have HO193 := n0_
        have BK183 := n1_
        have BK196 := n2_
        have GW196 := n3_
        have GE196 := n4_
        have NB183_196 := n5_
        have NB196_183 := n6_
        have HB := n7_
        clear n0_ n1_ n2_ n3_ n4_ n5_ n6_ n7_
        have hHeld : w27.cell? ⟨gb183, 0, none⟩ = some (.slice A0_0 l0_0.length c0_0) ∧ w27.cell? ⟨gb183, 1, none⟩ = some (.string a0_1) ∧ w27.cell? ⟨gb183, 2, none⟩ = some (.int .i64 a0_2) ∧ w27.cell? ⟨gb183, 3, none⟩ = some (.slice A0_3 l0_3.length c0_3) ∧ w27.cell? ⟨gb183, 4, none⟩ = some (.string a0_4) ∧ w27.cell? ⟨gb183, 5, none⟩ = some (.int .i64 a0_5) ∧ w27.cell? ⟨gb183, 6, none⟩ = some (.slice A0_6 l0_6.length c0_6) ∧ w27.cell? ⟨gb183, 7, none⟩ = some (.slice A0_7 l0_7.length c0_7) := hS_
        obtain ⟨Ao30, co30, eo30⟩ := Kd.R_slice HO193.out
        (first | subst eo30 | (injection eo30 with f1_ f2_ f3_; have f4_ := f1_.symm; have f5_ := f3_.symm; clear f1_ f2_ f3_; subst f4_; subst f5_))
        refine norm_ (a' := ?_) ?_ ?_
        rotate_left
        · simp only [putAll, Act.put, List.setIfInBounds_toArray, List.set_cons_zero, List.set_cons_succ]
          rfl
        refine one_ (i := 13) (N := none) #[true, true, true, true, true, true, true, true, true, true, true, true, true, true, false, false] rfl rfl (one_of HT_.out (by kernel_rfl)) (by decide) (fun K hK => ?_)
        have hs28 : w27.cell? ⟨gb196, 0, none⟩ = some (.string (⟨#[]⟩ : ByteArray)) := (blk_cell BK196.out 0).trans rfl
        have hfs28 := blk_frozen BK196.out 0
        have hns28_0 := NB183_196.out
        have hms28_0 := NB196_183.out
        have hs29 : w27.cell? ⟨gb196, 1, none⟩ = some (.int .i64 0) := (blk_cell BK196.out 1).trans rfl
        have hfs29 := blk_frozen BK196.out 1
        have hns29_0 := NB183_196.out
        have hms29_0 := NB196_183.out
        have hs31 : w27.cell? ⟨gb196, 2, none⟩ = some (.slice none 0 0) := (blk_cell BK196.out 2).trans rfl
        have hfs31 := blk_frozen BK196.out 2
        have hns31_0 := NB183_196.out
        have hms31_0 := NB196_183.out
        refine skip_ (w1 := ?_) (by rfl) rfl ?_ ?_
        rotate_left
        · go_simp
          rfl
        refine hK.out _ _ ⟨((cell_far (p := ⟨gb196, _, none⟩) NB183_196.out _).trans (((cell_far (p := ⟨gb196, _, none⟩) NB183_196.out _).trans (((cell_far (p := ⟨gb196, _, none⟩) NB183_196.out _).trans (hHeld.1)))))), ((cell_far (p := ⟨gb196, _, none⟩) NB183_196.out _).trans (((cell_far (p := ⟨gb196, _, none⟩) NB183_196.out _).trans (((cell_far (p := ⟨gb196, _, none⟩) NB183_196.out _).trans (hHeld.2.1)))))), ((cell_far (p := ⟨gb196, _, none⟩) NB183_196.out _).trans (((cell_far (p := ⟨gb196, _, none⟩) NB183_196.out _).trans (((cell_far (p := ⟨gb196, _, none⟩) NB183_196.out _).trans (hHeld.2.2.1)))))), ((cell_far (p := ⟨gb196, _, none⟩) NB183_196.out _).trans (((cell_far (p := ⟨gb196, _, none⟩) NB183_196.out _).trans (((cell_far (p := ⟨gb196, _, none⟩) NB183_196.out _).trans (hHeld.2.2.2.1)))))), ((cell_far (p := ⟨gb196, _, none⟩) NB183_196.out _).trans (((cell_far (p := ⟨gb196, _, none⟩) NB183_196.out _).trans (((cell_far (p := ⟨gb196, _, none⟩) NB183_196.out _).trans (hHeld.2.2.2.2.1)))))), ((cell_far (p := ⟨gb196, _, none⟩) NB183_196.out _).trans (((cell_far (p := ⟨gb196, _, none⟩) NB183_196.out _).trans (((cell_far (p := ⟨gb196, _, none⟩) NB183_196.out _).trans (hHeld.2.2.2.2.2.1)))))), ((cell_far (p := ⟨gb196, _, none⟩) NB183_196.out _).trans (((cell_far (p := ⟨gb196, _, none⟩) NB183_196.out _).trans (((cell_far (p := ⟨gb196, _, none⟩) NB183_196.out _).trans (hHeld.2.2.2.2.2.2.1)))))), ((cell_far (p := ⟨gb196, _, none⟩) NB183_196.out _).trans (((cell_far (p := ⟨gb196, _, none⟩) NB183_196.out _).trans (((cell_far (p := ⟨gb196, _, none⟩) NB183_196.out _).trans (hHeld.2.2.2.2.2.2.2))))))⟩ (fun hHeld => ?_)
        clear hK K
        refine pure_ (i := 14) (N := some 8) (v := ?_) (a' := ?_) #[true, true, true, true, true, true, true, true, true, true, true, true, true, true, true, false] rfl rfl (any_of HT_.out (by kernel_rfl)) (fun _ _ _ h => h) (Or.inl ⟨by rfl, ?_⟩) ?_ ?_
        rotate_left
        · intro w'
          go_simp
          first | (with_reducible rfl) | (rw [if_neg (by simp only [decide_eq_true_eq, ByteArray.size_append] at *; omega)])
        rotate_left
        · simp only [Act.put, List.setIfInBounds_toArray, List.set_cons_zero, List.set_cons_succ, i64_w, i32_w]
          rfl
        refine pure_ (i := 15) (N := some 9) (v := ?_) (a' := ?_) #[true, true, true, true, true, true, true, true, true, true, true, true, true, true, true, true] rfl rfl (any_of HT_.out (by kernel_rfl)) (fun _ _ _ h => h) (Or.inl ⟨by rfl, ?_⟩) ?_ ?_
        rotate_left
        · intro w'
          go_simp
          first | (with_reducible rfl) | (rw [if_neg (by simp only [decide_eq_true_eq, ByteArray.size_append] at *; omega)])
        rotate_left
        · simp only [Act.put, List.setIfInBounds_toArray, List.set_cons_zero, List.set_cons_succ, i64_w, i32_w]
          rfl
        refine done_ (done_of HT_.out (by kernel_rfl)) ?_
        have hnb32 := NB196_183.out
        have hnc32 := NB183_196.out
        have hcz33_0 : w27.cell? ⟨gb196, 0, none⟩ = some (.string (⟨#[]⟩ : ByteArray)) := (blk_cell BK196.out 0).trans rfl
        have hcz33_1 : w27.cell? ⟨gb196, 1, none⟩ = some (.int .i64 0) := (blk_cell BK196.out 1).trans rfl
        have hcz33_2 : w27.cell? ⟨gb196, 2, none⟩ = some (.slice none 0 0) := (blk_cell BK196.out 2).trans rfl
        have hfz33_0 := blk_frozen BK196.out 0
        have hfz33_1 := blk_frozen BK196.out 1
        have hfz33_2 := blk_frozen BK196.out 2
        have hcz34_0 : w27.cell? ⟨gb183, 0, none⟩ = some (.slice A0_0 l0_0.length c0_0) := (blk_cell BK183.out 0).trans rfl
        have hcz34_1 : w27.cell? ⟨gb183, 1, none⟩ = some (.string a0_1) := (blk_cell BK183.out 1).trans rfl
        have hcz34_2 : w27.cell? ⟨gb183, 2, none⟩ = some (.int .i64 a0_2) := (blk_cell BK183.out 2).trans rfl
        have hcz34_3 : w27.cell? ⟨gb183, 3, none⟩ = some (.slice A0_3 l0_3.length c0_3) := (blk_cell BK183.out 3).trans rfl
        have hcz34_4 : w27.cell? ⟨gb183, 4, none⟩ = some (.string a0_4) := (blk_cell BK183.out 4).trans rfl
        have hcz34_5 : w27.cell? ⟨gb183, 5, none⟩ = some (.int .i64 a0_5) := (blk_cell BK183.out 5).trans rfl
        have hcz34_6 : w27.cell? ⟨gb183, 6, none⟩ = some (.slice A0_6 l0_6.length c0_6) := (blk_cell BK183.out 6).trans rfl
        have hcz34_7 : w27.cell? ⟨gb183, 7, none⟩ = some (.slice A0_7 l0_7.length c0_7) := (blk_cell BK183.out 7).trans rfl
        have hfz34_0 := blk_frozen BK183.out 0
        have hfz34_1 := blk_frozen BK183.out 1
        have hfz34_2 := blk_frozen BK183.out 2
        have hfz34_3 := blk_frozen BK183.out 3
        have hfz34_4 := blk_frozen BK183.out 4
        have hfz34_5 := blk_frozen BK183.out 5
        have hfz34_6 := blk_frozen BK183.out 6
        have hfz34_7 := blk_frozen BK183.out 7
        go_upto_region 9 with (first | ((with_reducible refine gate_callee (f := 8) rfl ?_); refine goesL_ (some 66) rfl rfl Try.func8 (by kernel_rfl) rfl #[.agg #[.string t189, .int .i64 t190, .slice Ao30 t191.length co30], .agg #[.string a0_1, .int .i64 a0_2, .slice A0_3 l0_3.length c0_3]] rfl (by (try simp only [List.map_toArray, List.map_cons, List.map_nil]); first | done | rfl | (simp only [List.length_drop, List.length_take]; rfl)) ?_; (with_reducible refine (amalgamref03_Exact.calls kj5 t189 t190 _ _ t191 a0_1 a0_2 _ _ l0_3 t197 _ ?side1 ?side2 ?side3 ?side4 A21.out).mono ?_); (case side1 => refine (Kd.R_reads' (e := 27) (base := w.heap.size) (ok := fun k_ => k_ ≠ gb196) (n := t191.length) (c := co30) ?_).2.2; exact (by (with_reducible repeat (first | apply Kd.R_alloc | apply Kd.R_drewN | apply Kd.R_drew)); exact (Kd.R_mono (Kd.R_far (p := ⟨gb196, 2, none⟩) (Kd.R_far (p := ⟨gb196, 1, none⟩) (Kd.R_far (p := ⟨gb196, 0, none⟩) (Kd.R_mono HO193.out (fun k_ hk => (⟨hk, hk⟩ : _ ∧ k_ ≠ gb196))) (fun _ hk => hk.2) (.string t189)) (fun _ hk => hk.2) (.int .i64 t190)) (fun _ hk => hk.2) (.slice Ao30 t191.length co30)) (fun _ h_ => h_.1)))); (case side2 => exact (Kd.R_reads' HO193.out).2.1); (case side3 => exact Kd.C_below HR0_3.out (by repeat (first | (with_reducible first | exact HB.out | apply below_alloc | apply pw_below_drewN | apply below_drew1 | refine below_set ?_ GE183.out | refine below_set ?_ GE196.out) | exact HB.out))); (case side4 => exact HC0_3.out); rintro e w35 ⟨rfl, hb⟩; refine ⟨_, rfl, ?_⟩; have n0_ := Aside0.mk (Kd.R_below (by (with_reducible repeat (first | apply Kd.R_alloc | apply Kd.R_drewN | apply Kd.R_drew)); exact (Kd.R_mono (Kd.R_far (p := ⟨gb196, 2, none⟩) (Kd.R_far (p := ⟨gb196, 1, none⟩) (Kd.R_far (p := ⟨gb196, 0, none⟩) (Kd.R_mono HO193.out (fun k_ hk => (⟨hk, hk⟩ : _ ∧ k_ ≠ gb196))) (fun _ hk => hk.2) (.string t189)) (fun _ hk => hk.2) (.int .i64 t190)) (fun _ hk => hk.2) (.slice Ao30 t191.length co30)) (fun _ h_ => h_.1))) hb); have n1_ := Aside0.mk (blk_below (g := gb183) (o := .cells #[.slice A0_0 l0_0.length c0_0, .string a0_1, .int .i64 a0_2, .slice A0_3 l0_3.length c0_3, .string a0_4, .int .i64 a0_5, .slice A0_6 l0_6.length c0_6, .slice A0_7 l0_7.length c0_7] 36 (0, 0)) (by (with_reducible repeat (first | refine blk_drewN ?_ _ | refine blk_drew ?_ | refine blk_alloc ?_ _)); refine blk_far ?_ NB183_196.out _; (with_reducible repeat (first | refine blk_drewN ?_ _ | refine blk_drew ?_ | refine blk_alloc ?_ _)); refine blk_far ?_ NB183_196.out _; (with_reducible repeat (first | refine blk_drewN ?_ _ | refine blk_drew ?_ | refine blk_alloc ?_ _)); refine blk_far ?_ NB183_196.out _; (with_reducible repeat (first | refine blk_drewN ?_ _ | refine blk_drew ?_ | refine blk_alloc ?_ _)); exact BK183.out) hb); have n2_ := Aside0.mk (blk_below (g := gb196) (o := .cells #[.string t189, .int .i64 t190, .slice Ao30 t191.length co30] 27 (0, 0)) (by (with_reducible repeat (first | refine blk_drewN ?_ _ | refine blk_drew ?_ | refine blk_alloc ?_ _)); refine blk_put (cs := #[.string t189, .int .i64 t190, .slice none 0 0]) ?_ 2 _ rfl; (with_reducible repeat (first | refine blk_drewN ?_ _ | refine blk_drew ?_ | refine blk_alloc ?_ _)); refine blk_put (cs := #[.string t189, .int .i64 0, .slice none 0 0]) ?_ 1 _ rfl; (with_reducible repeat (first | refine blk_drewN ?_ _ | refine blk_drew ?_ | refine blk_alloc ?_ _)); refine blk_put (cs := #[.string (⟨#[]⟩ : ByteArray), .int .i64 0, .slice none 0 0]) ?_ 0 _ rfl; (with_reducible repeat (first | refine blk_drewN ?_ _ | refine blk_drew ?_ | refine blk_alloc ?_ _)); exact BK196.out) hb); have n3_ := Aside0.mk (below_step (by repeat (first | (with_reducible first | exact HB.out | apply below_alloc | apply pw_below_drewN | apply below_drew1 | refine below_set ?_ GE183.out | refine below_set ?_ GE196.out) | exact HB.out)) hb); clear HO193; clear BK183; clear BK196; clear HB; have HO193 := n0_; have BK183 := n1_; have BK196 := n2_; have HB := n3_; clear n0_ n1_ n2_ n3_; (try clear hb); (try clear hb2); (try clear hk); (try clear hi)))
        (try simp only [Act.put, List.setIfInBounds_toArray, List.set_cons_zero, List.set_cons_succ])
        go_cut [72] (fun v72 wc => ∃ (kq : Nat) (x72_21 : Bool), v72 = .bool x72_21 ∧ Aside0 (amalgamlaw05_TextBack.j1 kq x72_21 l0_0 a0_1 a0_2 l0_3 a0_4 a0_5 l0_6 l0_7 = some r) ∧ Aside0 (kq ≤ kj5) ∧ Aside0 (Kd.R k27 27 wc w.heap.size (fun k_ => k_ ≠ gb196) (.slice Ao30 t191.length co30) t191) ∧ Aside0 (wc.heap[gb183]? = some (.cells #[(.slice A0_0 l0_0.length c0_0), .string a0_1, .int .i64 a0_2, (.slice A0_3 l0_3.length c0_3), .string a0_4, .int .i64 a0_5, (.slice A0_6 l0_6.length c0_6), (.slice A0_7 l0_7.length c0_7)] 36 (0, 0))) ∧ Aside0 (wc.heap[gb196]? = some (.cells #[.string t189, .int .i64 t190, (.slice Ao30 t191.length co30)] 27 (0, 0))) ∧ Aside0 (Below w.heap.size w wc))
        case first =>
          have H := HC22.out
          clear HC22
          by_cases c36 : t194 = 0
          · rw [if_pos c36] at H
            have c36b0 : (t194 == 0) = true := beq_iff_eq.mpr c36
            have c36b1 : (t194 != 0) = false := bne_eq_false_iff_eq.mpr c36
            clear c36
            (first | rw [c36b0] | (simp only [i64_w, i32_w]; rw [c36b0]) | skip)
            have H' := Aside0.mk H
            clear H
            go_wp2
            go_meet
            case rel => exact ⟨_, (!t197), (by first | rfl | (simp; done) | (simp [*]; done)), H', ⟨by have := HJ5.out; first | omega | exact Nat.le_refl _⟩, ⟨by (with_reducible repeat (first | apply Kd.R_alloc | apply Kd.R_drewN | apply Kd.R_drew)); exact HO193.out⟩, ⟨by (with_reducible repeat (first | refine blk_drewN ?_ _ | refine blk_drew ?_ | refine blk_alloc ?_ _)); exact BK183.out⟩, ⟨by (with_reducible repeat (first | refine blk_drewN ?_ _ | refine blk_drew ?_ | refine blk_alloc ?_ _)); exact BK196.out⟩, ⟨by repeat (first | (with_reducible first | exact HB.out | apply below_alloc | apply pw_below_drewN | apply below_drew1 | refine below_set ?_ GE183.out | refine below_set ?_ GE196.out) | exact HB.out)⟩⟩
          · rw [if_neg c36] at H
            have c36b0 : (t194 == 0) = false := beq_eq_false_iff_ne.mpr c36
            have c36b1 : (t194 != 0) = true := bne_iff_ne.mpr c36
            (first | rw [c36b0] | (simp only [i64_w, i32_w]; rw [c36b0]) | skip)
            have H' := Aside0.mk H
            clear H
            go_wp2
            go_meet
            case rel => exact ⟨_, (true), (by first | rfl | (simp; done) | (simp [*]; done)), H', ⟨by have := HJ5.out; first | omega | exact Nat.le_refl _⟩, ⟨by (with_reducible repeat (first | apply Kd.R_alloc | apply Kd.R_drewN | apply Kd.R_drew)); exact HO193.out⟩, ⟨by (with_reducible repeat (first | refine blk_drewN ?_ _ | refine blk_drew ?_ | refine blk_alloc ?_ _)); exact BK183.out⟩, ⟨by (with_reducible repeat (first | refine blk_drewN ?_ _ | refine blk_drew ?_ | refine blk_alloc ?_ _)); exact BK196.out⟩, ⟨by repeat (first | (with_reducible first | exact HB.out | apply below_alloc | apply pw_below_drewN | apply below_drew1 | refine below_set ?_ GE183.out | refine below_set ?_ GE196.out) | exact HB.out)⟩⟩
        case rest =>
          clear HC22
          obtain ⟨kq, x72_21, rfl, HA, HJ21, HO_197002, BK183, BK196, HB⟩ := hcut
          cases kq with
          | zero => exact absurd HA.out (by simp [amalgamlaw05_TextBack.j1])
          | succ kj21 =>
            have H := HA.out
            clear HA
            simp only [amalgamlaw05_TextBack.j1] at H
            by_cases c37 : x72_21 = true
            · subst c37
              have H1 : (some false) = some r := by rw [if_pos rfl] at H; exact H
              clear H
              have H := H1
              clear H1
              exact absurd ((Option.some.inj H).trans HRT.out) (by decide)
            · replace c37 := Bool.eq_false_iff.mpr c37
              subst c37
              have H1 : ((text_ShowEquation.f kj21 l0_0 a0_1 a0_2 l0_3 a0_4 a0_5 l0_6).bind fun t198 => (if (t198.size : Int) ≤ 800 then ((text_Equation.f kj21 l0_0 t198).bind fun bt199 => ((amalgamref03_Exact.f kj21 bt199.1 bt199.2.1 bt199.2.2.1 a0_1 a0_2 l0_3).bind fun t212 => ((amalgamref03_Exact.f kj21 bt199.2.2.2.1 bt199.2.2.2.2.1 bt199.2.2.2.2.2.1 a0_4 a0_5 l0_6).bind fun t213 => (if bt199.2.2.2.2.2.2.1 = 0 then (if t212 = true then (if t213 = true then (amalgamlaw05_TextBack.j2 kj21 l0_0 a0_1 a0_2 l0_3 a0_4 a0_5 l0_6 l0_7) else (some false)) else (some false)) else (some false))))) else (amalgamlaw05_TextBack.j2 kj21 l0_0 a0_1 a0_2 l0_3 a0_4 a0_5 l0_6 l0_7))) = some r := by rw [if_neg (show ¬ (false = true) by decide)] at H; exact H
              clear H
              have H := H1
              clear H1
              replace H := Option.bind_eq_some_iff.mp H
              obtain ⟨t198, A380, H⟩ := H
              replace H : (if (t198.size : Int) ≤ 800 then ((text_Equation.f kj21 l0_0 t198).bind fun bt199 => ((amalgamref03_Exact.f kj21 bt199.1 bt199.2.1 bt199.2.2.1 a0_1 a0_2 l0_3).bind fun t212 => ((amalgamref03_Exact.f kj21 bt199.2.2.2.1 bt199.2.2.2.2.1 bt199.2.2.2.2.2.1 a0_4 a0_5 l0_6).bind fun t213 => (if bt199.2.2.2.2.2.2.1 = 0 then (if t212 = true then (if t213 = true then (amalgamlaw05_TextBack.j2 kj21 l0_0 a0_1 a0_2 l0_3 a0_4 a0_5 l0_6 l0_7) else (some false)) else (some false)) else (some false))))) else (amalgamlaw05_TextBack.j2 kj21 l0_0 a0_1 a0_2 l0_3 a0_4 a0_5 l0_6 l0_7)) = some r := H
              have A38 := Aside0.mk A380
              clear A380
              have HC39 := Aside0.mk H
              clear H
              have hnb40 := NB183_196.out
              have hnc40 := NB196_183.out
              have hcz41_0 : wc.cell? ⟨gb183, 0, none⟩ = some (.slice A0_0 l0_0.length c0_0) := (blk_cell BK183.out 0).trans rfl
              have hcz41_1 : wc.cell? ⟨gb183, 1, none⟩ = some (.string a0_1) := (blk_cell BK183.out 1).trans rfl
              have hcz41_2 : wc.cell? ⟨gb183, 2, none⟩ = some (.int .i64 a0_2) := (blk_cell BK183.out 2).trans rfl
              have hcz41_3 : wc.cell? ⟨gb183, 3, none⟩ = some (.slice A0_3 l0_3.length c0_3) := (blk_cell BK183.out 3).trans rfl
              have hcz41_4 : wc.cell? ⟨gb183, 4, none⟩ = some (.string a0_4) := (blk_cell BK183.out 4).trans rfl
              have hcz41_5 : wc.cell? ⟨gb183, 5, none⟩ = some (.int .i64 a0_5) := (blk_cell BK183.out 5).trans rfl
              have hcz41_6 : wc.cell? ⟨gb183, 6, none⟩ = some (.slice A0_6 l0_6.length c0_6) := (blk_cell BK183.out 6).trans rfl
              have hcz41_7 : wc.cell? ⟨gb183, 7, none⟩ = some (.slice A0_7 l0_7.length c0_7) := (blk_cell BK183.out 7).trans rfl
              have hfz41_0 := blk_frozen BK183.out 0
              have hfz41_1 := blk_frozen BK183.out 1
              have hfz41_2 := blk_frozen BK183.out 2
              have hfz41_3 := blk_frozen BK183.out 3
              have hfz41_4 := blk_frozen BK183.out 4
              have hfz41_5 := blk_frozen BK183.out 5
              have hfz41_6 := blk_frozen BK183.out 6
              have hfz41_7 := blk_frozen BK183.out 7
              go_upto_if 83 with (first | ((with_reducible refine gate_callee (f := 12) rfl ?_); refine goesL_ (some 80) rfl rfl Try.func12 (by kernel_rfl) rfl #[.slice A0_0 l0_0.length c0_0, .agg #[.string a0_1, .int .i64 a0_2, .slice A0_3 l0_3.length c0_3, .string a0_4, .int .i64 a0_5, .slice A0_6 l0_6.length c0_6]] rfl (by (try simp only [List.map_toArray, List.map_cons, List.map_nil]); first | done | rfl | (simp only [List.length_drop, List.length_take]; rfl)) ?_; (with_reducible refine (text_ShowEquation.calls kj21 _ _ l0_0 a0_1 a0_2 _ _ l0_3 a0_4 a0_5 _ _ l0_6 t198 _ ?side1 ?side2 ?side3 ?side4 ?side5 ?side6 A38.out).mono ?_); (case side1 => repeat (first | exact (Kd.C_below HR0_0.out HB.out) | (with_reducible refine Kd.C_alloc ?_ _) | (with_reducible refine Kd.C_drewN ?_ _) | (with_reducible refine Kd.C_drew ?_))); (case side2 => exact HC0_0.out); (case side3 => repeat (first | exact (Kd.C_below HR0_3.out HB.out) | (with_reducible refine Kd.C_alloc ?_ _) | (with_reducible refine Kd.C_drewN ?_ _) | (with_reducible refine Kd.C_drew ?_))); (case side4 => exact HC0_3.out); (case side5 => repeat (first | exact (Kd.C_below HR0_6.out HB.out) | (with_reducible refine Kd.C_alloc ?_ _) | (with_reducible refine Kd.C_drewN ?_ _) | (with_reducible refine Kd.C_drew ?_))); (case side6 => exact HC0_6.out); rintro e w42 ⟨rfl, hb⟩; refine ⟨_, rfl, ?_⟩; have n0_ := Aside0.mk (Kd.R_below (by (with_reducible repeat (first | apply Kd.R_alloc | apply Kd.R_drewN | apply Kd.R_drew)); exact HO_197002.out) hb); have n1_ := Aside0.mk (blk_below (g := gb183) (o := .cells #[.slice A0_0 l0_0.length c0_0, .string a0_1, .int .i64 a0_2, .slice A0_3 l0_3.length c0_3, .string a0_4, .int .i64 a0_5, .slice A0_6 l0_6.length c0_6, .slice A0_7 l0_7.length c0_7] 36 (0, 0)) (by (with_reducible repeat (first | refine blk_drewN ?_ _ | refine blk_drew ?_ | refine blk_alloc ?_ _)); exact BK183.out) hb); have n2_ := Aside0.mk (blk_below (g := gb196) (o := .cells #[.string t189, .int .i64 t190, .slice Ao30 t191.length co30] 27 (0, 0)) (by (with_reducible repeat (first | refine blk_drewN ?_ _ | refine blk_drew ?_ | refine blk_alloc ?_ _)); exact BK196.out) hb); have n3_ := Aside0.mk (below_step (by repeat (first | (with_reducible first | exact HB.out | apply below_alloc | apply pw_below_drewN | apply below_drew1 | refine below_set ?_ GE183.out | refine below_set ?_ GE196.out) | exact HB.out)) hb); clear HO_197002; clear BK183; clear BK196; clear HB; have HO_197002 := n0_; have BK183 := n1_; have BK196 := n2_; have HB := n3_; clear n0_ n1_ n2_ n3_; (try clear hb); (try clear hb2); (try clear hk); (try clear hi)))
              (try simp only [Act.put, List.setIfInBounds_toArray, List.set_cons_zero, List.set_cons_succ])
              go_cut [] (fun wc => ∃ (kq : Nat), Aside0 (amalgamlaw05_TextBack.j2 kq l0_0 a0_1 a0_2 l0_3 a0_4 a0_5 l0_6 l0_7 = some r) ∧ Aside0 (kq ≤ kj21) ∧ Aside0 (Kd.R k27 27 wc w.heap.size (fun k_ => k_ ≠ gb196) (.slice Ao30 t191.length co30) t191) ∧ Aside0 (wc.heap[gb183]? = some (.cells #[(.slice A0_0 l0_0.length c0_0), .string a0_1, .int .i64 a0_2, (.slice A0_3 l0_3.length c0_3), .string a0_4, .int .i64 a0_5, (.slice A0_6 l0_6.length c0_6), (.slice A0_7 l0_7.length c0_7)] 36 (0, 0))) ∧ Aside0 (wc.heap[gb196]? = some (.cells #[.string t189, .int .i64 t190, (.slice Ao30 t191.length co30)] 27 (0, 0))) ∧ Aside0 (Below w.heap.size w wc))
              case first =>
                have H := HC39.out
                clear HC39
                by_cases c43 : (t198.size : Int) ≤ 800
                · rw [if_pos c43] at H
                  have c43b0 : decide ((t198.size : Int) ≤ 800) = true := decide_eq_true c43
                  have c43b1 : decide (t198.size ≤ 800) = true := decide_eq_true (by omega)
                  clear c43
                  (first | rw [c43b0] | (simp only [i64_w, i32_w]; rw [c43b0]) | skip)
                  replace H := Option.bind_eq_some_iff.mp H
                  obtain ⟨⟨t199, t200, t201, t204, t205, t206, t209, t210⟩, A440, H⟩ := H
                  replace H : ((amalgamref03_Exact.f kj21 t199 t200 t201 a0_1 a0_2 l0_3).bind fun t212 => ((amalgamref03_Exact.f kj21 t204 t205 t206 a0_4 a0_5 l0_6).bind fun t213 => (if t209 = 0 then (if t212 = true then (if t213 = true then (amalgamlaw05_TextBack.j2 kj21 l0_0 a0_1 a0_2 l0_3 a0_4 a0_5 l0_6 l0_7) else (some false)) else (some false)) else (some false)))) = some r := H
                  have A44 := Aside0.mk A440
                  clear A440
                  replace H := Option.bind_eq_some_iff.mp H
                  obtain ⟨t212, A450, H⟩ := H
                  replace H : ((amalgamref03_Exact.f kj21 t204 t205 t206 a0_4 a0_5 l0_6).bind fun t213 => (if t209 = 0 then (if t212 = true then (if t213 = true then (amalgamlaw05_TextBack.j2 kj21 l0_0 a0_1 a0_2 l0_3 a0_4 a0_5 l0_6 l0_7) else (some false)) else (some false)) else (some false))) = some r := H
                  have A45 := Aside0.mk A450
                  clear A450
                  replace H := Option.bind_eq_some_iff.mp H
                  obtain ⟨t213, A460, H⟩ := H
                  replace H : (if t209 = 0 then (if t212 = true then (if t213 = true then (amalgamlaw05_TextBack.j2 kj21 l0_0 a0_1 a0_2 l0_3 a0_4 a0_5 l0_6 l0_7) else (some false)) else (some false)) else (some false)) = some r := H
                  have A46 := Aside0.mk A460
                  clear A460
                  by_cases c47 : t209 = 0
                  · rw [if_pos c47] at H
                    have c47b0 : (t209 == 0) = true := beq_iff_eq.mpr c47
                    have c47b1 : (t209 != 0) = false := bne_eq_false_iff_eq.mpr c47
                    clear c47
                    by_cases c48 : t212 = true
                    · subst c48
                      have H1 : (if t213 = true then (amalgamlaw05_TextBack.j2 kj21 l0_0 a0_1 a0_2 l0_3 a0_4 a0_5 l0_6 l0_7) else (some false)) = some r := by rw [if_pos rfl] at H; exact H
                      clear H
                      have H := H1
                      clear H1
                      by_cases c49 : t213 = true
                      · subst c49
                        have H1 : (amalgamlaw05_TextBack.j2 kj21 l0_0 a0_1 a0_2 l0_3 a0_4 a0_5 l0_6 l0_7) = some r := by rw [if_pos rfl] at H; exact H
                        clear H
                        have H := H1
                        clear H1
                        have H' := Aside0.mk H
                        clear H
                        have hnb50 := NB183_196.out
                        have hnc50 := NB196_183.out
                        have hcz51_0 : w42.cell? ⟨gb183, 0, none⟩ = some (.slice A0_0 l0_0.length c0_0) := (blk_cell BK183.out 0).trans rfl
                        have hcz51_1 : w42.cell? ⟨gb183, 1, none⟩ = some (.string a0_1) := (blk_cell BK183.out 1).trans rfl
                        have hcz51_2 : w42.cell? ⟨gb183, 2, none⟩ = some (.int .i64 a0_2) := (blk_cell BK183.out 2).trans rfl
                        have hcz51_3 : w42.cell? ⟨gb183, 3, none⟩ = some (.slice A0_3 l0_3.length c0_3) := (blk_cell BK183.out 3).trans rfl
                        have hcz51_4 : w42.cell? ⟨gb183, 4, none⟩ = some (.string a0_4) := (blk_cell BK183.out 4).trans rfl
                        have hcz51_5 : w42.cell? ⟨gb183, 5, none⟩ = some (.int .i64 a0_5) := (blk_cell BK183.out 5).trans rfl
                        have hcz51_6 : w42.cell? ⟨gb183, 6, none⟩ = some (.slice A0_6 l0_6.length c0_6) := (blk_cell BK183.out 6).trans rfl
                        have hcz51_7 : w42.cell? ⟨gb183, 7, none⟩ = some (.slice A0_7 l0_7.length c0_7) := (blk_cell BK183.out 7).trans rfl
                        have hfz51_0 := blk_frozen BK183.out 0
                        have hfz51_1 := blk_frozen BK183.out 1
                        have hfz51_2 := blk_frozen BK183.out 2
                        have hfz51_3 := blk_frozen BK183.out 3
                        have hfz51_4 := blk_frozen BK183.out 4
                        have hfz51_5 := blk_frozen BK183.out 5
                        have hfz51_6 := blk_frozen BK183.out 6
                        have hfz51_7 := blk_frozen BK183.out 7
                        go_wp2_with (first | ((with_reducible refine gate_callee (f := 13) rfl ?_); refine goesL_ (some 88) rfl rfl Try.func13 (by kernel_rfl) rfl #[.slice A0_0 l0_0.length c0_0, .string t198] rfl (by (try simp only [List.map_toArray, List.map_cons, List.map_nil]); first | done | rfl | (simp only [List.length_drop, List.length_take]; rfl)) ?_; (with_reducible refine (text_Equation.calls kj21 _ _ l0_0 t198 t199 t200 t201 t204 t205 t206 t209 t210 _ ?side1 ?side2 A44.out).mono ?_); (case side1 => repeat (first | exact (Kd.C_below HR0_0.out HB.out) | (with_reducible refine Kd.C_alloc ?_ _) | (with_reducible refine Kd.C_drewN ?_ _) | (with_reducible refine Kd.C_drew ?_))); (case side2 => exact HC0_0.out); rintro e w52 ⟨v202, v207, rfl, ho0, ho1, hb⟩; refine ⟨_, rfl, ?_⟩; have n0_ := Aside0.mk (Kd.R_mono (Kd.R_told (Kd.R_told (Kd.R_old (by (with_reducible repeat (first | apply Kd.R_alloc | apply Kd.R_drewN | apply Kd.R_drew)); exact HO_197002.out) hb) (Kd.R_base ho0)) (Kd.R_base ho1)) (fun _ h_ => h_.1)); have n1_ := Aside0.mk (Kd.R_lower (Kd.R_newB (Kd.R_new' ho0 (Kd.R_lt (by (with_reducible repeat (first | apply Kd.R_alloc | apply Kd.R_drewN | apply Kd.R_drew)); exact HO_197002.out))) (g := gb196) (o := .cells #[.string t189, .int .i64 t190, .slice Ao30 t191.length co30] 27 (0, 0)) (by (with_reducible repeat (first | refine blk_drewN ?_ _ | refine blk_drew ?_ | refine blk_alloc ?_ _)); exact BK196.out)) (below_size (by repeat (first | (with_reducible first | exact HB.out | apply below_alloc | apply pw_below_drewN | apply below_drew1 | refine below_set ?_ GE183.out | refine below_set ?_ GE196.out) | exact HB.out)))); have n2_ := Aside0.mk (Kd.R_lower (Kd.R_newB (Kd.R_new' ho1 (Kd.R_lt (by (with_reducible repeat (first | apply Kd.R_alloc | apply Kd.R_drewN | apply Kd.R_drew)); exact HO_197002.out))) (g := gb196) (o := .cells #[.string t189, .int .i64 t190, .slice Ao30 t191.length co30] 27 (0, 0)) (by (with_reducible repeat (first | refine blk_drewN ?_ _ | refine blk_drew ?_ | refine blk_alloc ?_ _)); exact BK196.out)) (below_size (by repeat (first | (with_reducible first | exact HB.out | apply below_alloc | apply pw_below_drewN | apply below_drew1 | refine below_set ?_ GE183.out | refine below_set ?_ GE196.out) | exact HB.out)))); have n3_ := Aside0.mk (blk_below (g := gb183) (o := .cells #[.slice A0_0 l0_0.length c0_0, .string a0_1, .int .i64 a0_2, .slice A0_3 l0_3.length c0_3, .string a0_4, .int .i64 a0_5, .slice A0_6 l0_6.length c0_6, .slice A0_7 l0_7.length c0_7] 36 (0, 0)) (by (with_reducible repeat (first | refine blk_drewN ?_ _ | refine blk_drew ?_ | refine blk_alloc ?_ _)); exact BK183.out) hb); have n4_ := Aside0.mk (blk_below (g := gb196) (o := .cells #[.string t189, .int .i64 t190, .slice Ao30 t191.length co30] 27 (0, 0)) (by (with_reducible repeat (first | refine blk_drewN ?_ _ | refine blk_drew ?_ | refine blk_alloc ?_ _)); exact BK196.out) hb); have n5_ := Aside0.mk (below_step (by repeat (first | (with_reducible first | exact HB.out | apply below_alloc | apply pw_below_drewN | apply below_drew1 | refine below_set ?_ GE183.out | refine below_set ?_ GE196.out) | exact HB.out)) hb); clear HO_197002; clear BK183; clear BK196; clear HB; have HO_197002 := n0_; have HO203 := n1_; have HO208 := n2_; have BK183 := n3_; have BK196 := n4_; have HB := n5_; clear n0_ n1_ n2_ n3_ n4_ n5_; (try clear hb); (try clear hb2); (try clear hk); (try clear hi); (try clear ho0); (try clear ho1)) | ((with_reducible refine gate_dst (N := 12) rfl ?_); refine box_event ?hg (N := 12) ?hd (cs := #[.string (⟨#[]⟩ : ByteArray), .int .i64 0, .slice none 0 0, .string (⟨#[]⟩ : ByteArray), .int .i64 0, .slice none 0 0]) (t := 41) ?hr ?_; (case hd => rfl); (case hg => rfl); (case hr => first | (go_simp; done) | (go_simp; rfl)); intro gb211 hg w53 hbox hb; have n0_ := Aside0.mk (Kd.R_below (by (with_reducible repeat (first | apply Kd.R_alloc | apply Kd.R_drewN | apply Kd.R_drew)); exact HO_197002.out) hb); have n1_ := Aside0.mk (Kd.R_below (by (with_reducible repeat (first | apply Kd.R_alloc | apply Kd.R_drewN | apply Kd.R_drew)); exact HO203.out) hb); have n2_ := Aside0.mk (Kd.R_below (by (with_reducible repeat (first | apply Kd.R_alloc | apply Kd.R_drewN | apply Kd.R_drew)); exact HO208.out) hb); have n3_ := Aside0.mk (blk_below (g := gb183) (o := .cells #[.slice A0_0 l0_0.length c0_0, .string a0_1, .int .i64 a0_2, .slice A0_3 l0_3.length c0_3, .string a0_4, .int .i64 a0_5, .slice A0_6 l0_6.length c0_6, .slice A0_7 l0_7.length c0_7] 36 (0, 0)) (by (with_reducible repeat (first | refine blk_drewN ?_ _ | refine blk_drew ?_ | refine blk_alloc ?_ _)); exact BK183.out) hb); have n4_ := Aside0.mk (blk_below (g := gb196) (o := .cells #[.string t189, .int .i64 t190, .slice Ao30 t191.length co30] 27 (0, 0)) (by (with_reducible repeat (first | refine blk_drewN ?_ _ | refine blk_drew ?_ | refine blk_alloc ?_ _)); exact BK196.out) hb); have n5_ := Aside0.mk (below_step (by repeat (first | (with_reducible first | exact HB.out | apply below_alloc | apply pw_below_drewN | apply below_drew1 | refine below_set ?_ GE183.out | refine below_set ?_ GE196.out) | exact HB.out)) hb); have n6_ := Aside0.mk (hbox); have n7_ := Aside0.mk ((by rw [hg]; exact (below_size (by repeat (first | (with_reducible first | exact HB.out | apply below_alloc | apply pw_below_drewN | apply below_drew1 | refine below_set ?_ GE183.out | refine below_set ?_ GE196.out) | exact HB.out))) : w.heap.size ≤ gb211)); have n8_ := Aside0.mk ((by rw [hg]; exact (below_size (by repeat (first | (with_reducible first | exact HB.out | apply below_alloc | apply pw_below_drewN | apply below_drew1 | refine below_set ?_ GE183.out | refine below_set ?_ GE196.out) | exact HB.out))) : w.heap.size ≤ gb211)); have n9_ := Aside0.mk ((by rw [hg]; exact Nat.ne_of_lt (blk_lt (g := gb183) (o := .cells #[.slice A0_0 l0_0.length c0_0, .string a0_1, .int .i64 a0_2, .slice A0_3 l0_3.length c0_3, .string a0_4, .int .i64 a0_5, .slice A0_6 l0_6.length c0_6, .slice A0_7 l0_7.length c0_7] 36 (0, 0)) (by (with_reducible repeat (first | refine blk_drewN ?_ _ | refine blk_drew ?_ | refine blk_alloc ?_ _)); exact BK183.out)) : gb183 ≠ gb211)); have n10_ := Aside0.mk ((by rw [hg]; exact Nat.ne_of_gt (blk_lt (g := gb183) (o := .cells #[.slice A0_0 l0_0.length c0_0, .string a0_1, .int .i64 a0_2, .slice A0_3 l0_3.length c0_3, .string a0_4, .int .i64 a0_5, .slice A0_6 l0_6.length c0_6, .slice A0_7 l0_7.length c0_7] 36 (0, 0)) (by (with_reducible repeat (first | refine blk_drewN ?_ _ | refine blk_drew ?_ | refine blk_alloc ?_ _)); exact BK183.out)) : gb211 ≠ gb183)); have n11_ := Aside0.mk ((by rw [hg]; exact Nat.ne_of_lt (blk_lt (g := gb196) (o := .cells #[.string t189, .int .i64 t190, .slice Ao30 t191.length co30] 27 (0, 0)) (by (with_reducible repeat (first | refine blk_drewN ?_ _ | refine blk_drew ?_ | refine blk_alloc ?_ _)); exact BK196.out)) : gb196 ≠ gb211)); have n12_ := Aside0.mk ((by rw [hg]; exact Nat.ne_of_gt (blk_lt (g := gb196) (o := .cells #[.string t189, .int .i64 t190, .slice Ao30 t191.length co30] 27 (0, 0)) (by (with_reducible repeat (first | refine blk_drewN ?_ _ | refine blk_drew ?_ | refine blk_alloc ?_ _)); exact BK196.out)) : gb211 ≠ gb196)); clear HO_197002; clear HO203; clear HO208; clear BK183; clear BK196; clear HB; have HO_197002 := n0_; have HO203 := n1_; have HO208 := n2_; have BK183 := n3_; have BK196 := n4_; have HB := n5_; have BK211 := n6_; have GW211 := n7_; have GE211 := n8_; have NB183_211 := n9_; have NB211_183 := n10_; have NB196_211 := n11_; have NB211_196 := n12_; clear n0_ n1_ n2_ n3_ n4_ n5_ n6_ n7_ n8_ n9_ n10_ n11_ n12_; clear hb hbox hg; have hnb54 := NB211_183.out; have hnc54 := NB183_211.out; have hnb55 := NB211_196.out; have hnc55 := NB196_211.out; have hcz56_0 : w53.cell? ⟨gb211, 0, none⟩ = some (.string (⟨#[]⟩ : ByteArray)) := (blk_cell BK211.out 0).trans rfl; have hcz56_1 : w53.cell? ⟨gb211, 1, none⟩ = some (.int .i64 0) := (blk_cell BK211.out 1).trans rfl; have hcz56_2 : w53.cell? ⟨gb211, 2, none⟩ = some (.slice none 0 0) := (blk_cell BK211.out 2).trans rfl; have hcz56_3 : w53.cell? ⟨gb211, 3, none⟩ = some (.string (⟨#[]⟩ : ByteArray)) := (blk_cell BK211.out 3).trans rfl; have hcz56_4 : w53.cell? ⟨gb211, 4, none⟩ = some (.int .i64 0) := (blk_cell BK211.out 4).trans rfl; have hcz56_5 : w53.cell? ⟨gb211, 5, none⟩ = some (.slice none 0 0) := (blk_cell BK211.out 5).trans rfl; have hfz56_0 := blk_frozen BK211.out 0; have hfz56_1 := blk_frozen BK211.out 1; have hfz56_2 := blk_frozen BK211.out 2; have hfz56_3 := blk_frozen BK211.out 3; have hfz56_4 := blk_frozen BK211.out 4; have hfz56_5 := blk_frozen BK211.out 5; obtain ⟨Ao57, co57, eo57⟩ := Kd.R_slice HO203.out; subst eo57; obtain ⟨Ao58, co58, eo58⟩ := Kd.R_slice HO208.out; subst eo58; have hcz59_0 : w53.cell? ⟨gb183, 0, none⟩ = some (.slice A0_0 l0_0.length c0_0) := (blk_cell BK183.out 0).trans rfl; have hcz59_1 : w53.cell? ⟨gb183, 1, none⟩ = some (.string a0_1) := (blk_cell BK183.out 1).trans rfl; have hcz59_2 : w53.cell? ⟨gb183, 2, none⟩ = some (.int .i64 a0_2) := (blk_cell BK183.out 2).trans rfl; have hcz59_3 : w53.cell? ⟨gb183, 3, none⟩ = some (.slice A0_3 l0_3.length c0_3) := (blk_cell BK183.out 3).trans rfl; have hcz59_4 : w53.cell? ⟨gb183, 4, none⟩ = some (.string a0_4) := (blk_cell BK183.out 4).trans rfl; have hcz59_5 : w53.cell? ⟨gb183, 5, none⟩ = some (.int .i64 a0_5) := (blk_cell BK183.out 5).trans rfl; have hcz59_6 : w53.cell? ⟨gb183, 6, none⟩ = some (.slice A0_6 l0_6.length c0_6) := (blk_cell BK183.out 6).trans rfl; have hcz59_7 : w53.cell? ⟨gb183, 7, none⟩ = some (.slice A0_7 l0_7.length c0_7) := (blk_cell BK183.out 7).trans rfl; have hfz59_0 := blk_frozen BK183.out 0; have hfz59_1 := blk_frozen BK183.out 1; have hfz59_2 := blk_frozen BK183.out 2; have hfz59_3 := blk_frozen BK183.out 3; have hfz59_4 := blk_frozen BK183.out 4; have hfz59_5 := blk_frozen BK183.out 5; have hfz59_6 := blk_frozen BK183.out 6; have hfz59_7 := blk_frozen BK183.out 7) | ((with_reducible refine gate_callee (f := 8) rfl ?_); refine goesL_ (some 96) rfl rfl Try.func8 (by kernel_rfl) rfl #[.agg #[.string t199, .int .i64 t200, .slice Ao57 t201.length co57], .agg #[.string a0_1, .int .i64 a0_2, .slice A0_3 l0_3.length c0_3]] rfl (by (try simp only [List.map_toArray, List.map_cons, List.map_nil]); first | done | rfl | (simp only [List.length_drop, List.length_take]; rfl)) ?_; (with_reducible refine (amalgamref03_Exact.calls kj21 t199 t200 _ _ t201 a0_1 a0_2 _ _ l0_3 true _ ?side1 ?side2 ?side3 ?side4 A45.out).mono ?_); (case side1 => refine (Kd.R_reads' (e := 27) (base := w.heap.size) (ok := fun k_ => ((some k_ ≠ (.slice Ao58 t206.length co58 : Value).ownBlock ∧ some k_ ≠ (.slice Ao30 t191.length co30 : Value).ownBlock) ∧ k_ ≠ gb196)) (n := t201.length) (c := co57) ?_).2.2; exact (by (with_reducible repeat (first | apply Kd.R_alloc | apply Kd.R_drewN | apply Kd.R_drew)); exact (Kd.R_mono (Kd.R_far (p := ⟨gb211, 5, none⟩) (Kd.R_far (p := ⟨gb211, 4, none⟩) (Kd.R_far (p := ⟨gb211, 3, none⟩) (Kd.R_far (p := ⟨gb211, 2, none⟩) (Kd.R_far (p := ⟨gb211, 1, none⟩) (Kd.R_far (p := ⟨gb211, 0, none⟩) (Kd.R_types HO203.out BK211.out (by decide)) (fun _ hk => hk.2) (.string t199)) (fun _ hk => hk.2) (.int .i64 t200)) (fun _ hk => hk.2) (.slice Ao57 t201.length co57)) (fun _ hk => hk.2) (.string t204)) (fun _ hk => hk.2) (.int .i64 t205)) (fun _ hk => hk.2) (.slice Ao58 t206.length co58)) (fun _ h_ => h_.1)))); (case side2 => exact (Kd.R_reads' HO203.out).2.1); (case side3 => exact Kd.C_below HR0_3.out (by repeat (first | (with_reducible first | exact HB.out | apply below_alloc | apply pw_below_drewN | apply below_drew1 | refine below_set ?_ GE183.out | refine below_set ?_ GE196.out | refine below_set ?_ GE211.out) | exact HB.out))); (case side4 => exact HC0_3.out); rintro e w60 ⟨rfl, hb⟩; refine ⟨_, rfl, ?_⟩; have n0_ := Aside0.mk (Kd.R_below (by (with_reducible repeat (first | apply Kd.R_alloc | apply Kd.R_drewN | apply Kd.R_drew)); exact (Kd.R_mono (Kd.R_far (p := ⟨gb211, 5, none⟩) (Kd.R_far (p := ⟨gb211, 4, none⟩) (Kd.R_far (p := ⟨gb211, 3, none⟩) (Kd.R_far (p := ⟨gb211, 2, none⟩) (Kd.R_far (p := ⟨gb211, 1, none⟩) (Kd.R_far (p := ⟨gb211, 0, none⟩) (Kd.R_types HO_197002.out BK211.out (by decide)) (fun _ hk => hk.2) (.string t199)) (fun _ hk => hk.2) (.int .i64 t200)) (fun _ hk => hk.2) (.slice Ao57 t201.length co57)) (fun _ hk => hk.2) (.string t204)) (fun _ hk => hk.2) (.int .i64 t205)) (fun _ hk => hk.2) (.slice Ao58 t206.length co58)) (fun _ h_ => h_.1))) hb); have n1_ := Aside0.mk (Kd.R_below (by (with_reducible repeat (first | apply Kd.R_alloc | apply Kd.R_drewN | apply Kd.R_drew)); exact (Kd.R_mono (Kd.R_far (p := ⟨gb211, 5, none⟩) (Kd.R_far (p := ⟨gb211, 4, none⟩) (Kd.R_far (p := ⟨gb211, 3, none⟩) (Kd.R_far (p := ⟨gb211, 2, none⟩) (Kd.R_far (p := ⟨gb211, 1, none⟩) (Kd.R_far (p := ⟨gb211, 0, none⟩) (Kd.R_types HO203.out BK211.out (by decide)) (fun _ hk => hk.2) (.string t199)) (fun _ hk => hk.2) (.int .i64 t200)) (fun _ hk => hk.2) (.slice Ao57 t201.length co57)) (fun _ hk => hk.2) (.string t204)) (fun _ hk => hk.2) (.int .i64 t205)) (fun _ hk => hk.2) (.slice Ao58 t206.length co58)) (fun _ h_ => h_.1))) hb); have n2_ := Aside0.mk (Kd.R_below (by (with_reducible repeat (first | apply Kd.R_alloc | apply Kd.R_drewN | apply Kd.R_drew)); exact (Kd.R_mono (Kd.R_far (p := ⟨gb211, 5, none⟩) (Kd.R_far (p := ⟨gb211, 4, none⟩) (Kd.R_far (p := ⟨gb211, 3, none⟩) (Kd.R_far (p := ⟨gb211, 2, none⟩) (Kd.R_far (p := ⟨gb211, 1, none⟩) (Kd.R_far (p := ⟨gb211, 0, none⟩) (Kd.R_types HO208.out BK211.out (by decide)) (fun _ hk => hk.2) (.string t199)) (fun _ hk => hk.2) (.int .i64 t200)) (fun _ hk => hk.2) (.slice Ao57 t201.length co57)) (fun _ hk => hk.2) (.string t204)) (fun _ hk => hk.2) (.int .i64 t205)) (fun _ hk => hk.2) (.slice Ao58 t206.length co58)) (fun _ h_ => h_.1))) hb); have n3_ := Aside0.mk (blk_below (g := gb183) (o := .cells #[.slice A0_0 l0_0.length c0_0, .string a0_1, .int .i64 a0_2, .slice A0_3 l0_3.length c0_3, .string a0_4, .int .i64 a0_5, .slice A0_6 l0_6.length c0_6, .slice A0_7 l0_7.length c0_7] 36 (0, 0)) (by (with_reducible repeat (first | refine blk_drewN ?_ _ | refine blk_drew ?_ | refine blk_alloc ?_ _)); refine blk_far ?_ NB183_211.out _; (with_reducible repeat (first | refine blk_drewN ?_ _ | refine blk_drew ?_ | refine blk_alloc ?_ _)); refine blk_far ?_ NB183_211.out _; (with_reducible repeat (first | refine blk_drewN ?_ _ | refine blk_drew ?_ | refine blk_alloc ?_ _)); refine blk_far ?_ NB183_211.out _; (with_reducible repeat (first | refine blk_drewN ?_ _ | refine blk_drew ?_ | refine blk_alloc ?_ _)); refine blk_far ?_ NB183_211.out _; (with_reducible repeat (first | refine blk_drewN ?_ _ | refine blk_drew ?_ | refine blk_alloc ?_ _)); refine blk_far ?_ NB183_211.out _; (with_reducible repeat (first | refine blk_drewN ?_ _ | refine blk_drew ?_ | refine blk_alloc ?_ _)); refine blk_far ?_ NB183_211.out _; (with_reducible repeat (first | refine blk_drewN ?_ _ | refine blk_drew ?_ | refine blk_alloc ?_ _)); exact BK183.out) hb); have n4_ := Aside0.mk (blk_below (g := gb196) (o := .cells #[.string t189, .int .i64 t190, .slice Ao30 t191.length co30] 27 (0, 0)) (by (with_reducible repeat (first | refine blk_drewN ?_ _ | refine blk_drew ?_ | refine blk_alloc ?_ _)); refine blk_far ?_ NB196_211.out _; (with_reducible repeat (first | refine blk_drewN ?_ _ | refine blk_drew ?_ | refine blk_alloc ?_ _)); refine blk_far ?_ NB196_211.out _; (with_reducible repeat (first | refine blk_drewN ?_ _ | refine blk_drew ?_ | refine blk_alloc ?_ _)); refine blk_far ?_ NB196_211.out _; (with_reducible repeat (first | refine blk_drewN ?_ _ | refine blk_drew ?_ | refine blk_alloc ?_ _)); refine blk_far ?_ NB196_211.out _; (with_reducible repeat (first | refine blk_drewN ?_ _ | refine blk_drew ?_ | refine blk_alloc ?_ _)); refine blk_far ?_ NB196_211.out _; (with_reducible repeat (first | refine blk_drewN ?_ _ | refine blk_drew ?_ | refine blk_alloc ?_ _)); refine blk_far ?_ NB196_211.out _; (with_reducible repeat (first | refine blk_drewN ?_ _ | refine blk_drew ?_ | refine blk_alloc ?_ _)); exact BK196.out) hb); have n5_ := Aside0.mk (blk_below (g := gb211) (o := .cells #[.string t199, .int .i64 t200, .slice Ao57 t201.length co57, .string t204, .int .i64 t205, .slice Ao58 t206.length co58] 41 (0, 0)) (by (with_reducible repeat (first | refine blk_drewN ?_ _ | refine blk_drew ?_ | refine blk_alloc ?_ _)); refine blk_put (cs := #[.string t199, .int .i64 t200, .slice Ao57 t201.length co57, .string t204, .int .i64 t205, .slice none 0 0]) ?_ 5 _ rfl; (with_reducible repeat (first | refine blk_drewN ?_ _ | refine blk_drew ?_ | refine blk_alloc ?_ _)); refine blk_put (cs := #[.string t199, .int .i64 t200, .slice Ao57 t201.length co57, .string t204, .int .i64 0, .slice none 0 0]) ?_ 4 _ rfl; (with_reducible repeat (first | refine blk_drewN ?_ _ | refine blk_drew ?_ | refine blk_alloc ?_ _)); refine blk_put (cs := #[.string t199, .int .i64 t200, .slice Ao57 t201.length co57, .string (⟨#[]⟩ : ByteArray), .int .i64 0, .slice none 0 0]) ?_ 3 _ rfl; (with_reducible repeat (first | refine blk_drewN ?_ _ | refine blk_drew ?_ | refine blk_alloc ?_ _)); refine blk_put (cs := #[.string t199, .int .i64 t200, .slice none 0 0, .string (⟨#[]⟩ : ByteArray), .int .i64 0, .slice none 0 0]) ?_ 2 _ rfl; (with_reducible repeat (first | refine blk_drewN ?_ _ | refine blk_drew ?_ | refine blk_alloc ?_ _)); refine blk_put (cs := #[.string t199, .int .i64 0, .slice none 0 0, .string (⟨#[]⟩ : ByteArray), .int .i64 0, .slice none 0 0]) ?_ 1 _ rfl; (with_reducible repeat (first | refine blk_drewN ?_ _ | refine blk_drew ?_ | refine blk_alloc ?_ _)); refine blk_put (cs := #[.string (⟨#[]⟩ : ByteArray), .int .i64 0, .slice none 0 0, .string (⟨#[]⟩ : ByteArray), .int .i64 0, .slice none 0 0]) ?_ 0 _ rfl; (with_reducible repeat (first | refine blk_drewN ?_ _ | refine blk_drew ?_ | refine blk_alloc ?_ _)); exact BK211.out) hb); have n6_ := Aside0.mk (below_step (by repeat (first | (with_reducible first | exact HB.out | apply below_alloc | apply pw_below_drewN | apply below_drew1 | refine below_set ?_ GE183.out | refine below_set ?_ GE196.out | refine below_set ?_ GE211.out) | exact HB.out)) hb); clear HO_197002; clear HO203; clear HO208; clear BK183; clear BK196; clear BK211; clear HB; have HO_197002 := n0_; have HO203 := n1_; have HO208 := n2_; have BK183 := n3_; have BK196 := n4_; have BK211 := n5_; have HB := n6_; clear n0_ n1_ n2_ n3_ n4_ n5_ n6_; (try clear hb); (try clear hb2); (try clear hk); (try clear hi); have hcz61_0 : w60.cell? ⟨gb211, 0, none⟩ = some (.string t199) := (blk_cell BK211.out 0).trans rfl; have hcz61_1 : w60.cell? ⟨gb211, 1, none⟩ = some (.int .i64 t200) := (blk_cell BK211.out 1).trans rfl; have hcz61_2 : w60.cell? ⟨gb211, 2, none⟩ = some (.slice Ao57 t201.length co57) := (blk_cell BK211.out 2).trans rfl; have hcz61_3 : w60.cell? ⟨gb211, 3, none⟩ = some (.string t204) := (blk_cell BK211.out 3).trans rfl; have hcz61_4 : w60.cell? ⟨gb211, 4, none⟩ = some (.int .i64 t205) := (blk_cell BK211.out 4).trans rfl; have hcz61_5 : w60.cell? ⟨gb211, 5, none⟩ = some (.slice Ao58 t206.length co58) := (blk_cell BK211.out 5).trans rfl; have hfz61_0 := blk_frozen BK211.out 0; have hfz61_1 := blk_frozen BK211.out 1; have hfz61_2 := blk_frozen BK211.out 2; have hfz61_3 := blk_frozen BK211.out 3; have hfz61_4 := blk_frozen BK211.out 4; have hfz61_5 := blk_frozen BK211.out 5; have hcz62_0 : w60.cell? ⟨gb183, 0, none⟩ = some (.slice A0_0 l0_0.length c0_0) := (blk_cell BK183.out 0).trans rfl; have hcz62_1 : w60.cell? ⟨gb183, 1, none⟩ = some (.string a0_1) := (blk_cell BK183.out 1).trans rfl; have hcz62_2 : w60.cell? ⟨gb183, 2, none⟩ = some (.int .i64 a0_2) := (blk_cell BK183.out 2).trans rfl; have hcz62_3 : w60.cell? ⟨gb183, 3, none⟩ = some (.slice A0_3 l0_3.length c0_3) := (blk_cell BK183.out 3).trans rfl; have hcz62_4 : w60.cell? ⟨gb183, 4, none⟩ = some (.string a0_4) := (blk_cell BK183.out 4).trans rfl; have hcz62_5 : w60.cell? ⟨gb183, 5, none⟩ = some (.int .i64 a0_5) := (blk_cell BK183.out 5).trans rfl; have hcz62_6 : w60.cell? ⟨gb183, 6, none⟩ = some (.slice A0_6 l0_6.length c0_6) := (blk_cell BK183.out 6).trans rfl; have hcz62_7 : w60.cell? ⟨gb183, 7, none⟩ = some (.slice A0_7 l0_7.length c0_7) := (blk_cell BK183.out 7).trans rfl; have hfz62_0 := blk_frozen BK183.out 0; have hfz62_1 := blk_frozen BK183.out 1; have hfz62_2 := blk_frozen BK183.out 2; have hfz62_3 := blk_frozen BK183.out 3; have hfz62_4 := blk_frozen BK183.out 4; have hfz62_5 := blk_frozen BK183.out 5; have hfz62_6 := blk_frozen BK183.out 6; have hfz62_7 := blk_frozen BK183.out 7) | ((with_reducible refine gate_callee (f := 8) rfl ?_); refine goesL_ (some 101) rfl rfl Try.func8 (by kernel_rfl) rfl #[.agg #[.string t204, .int .i64 t205, .slice Ao58 t206.length co58], .agg #[.string a0_4, .int .i64 a0_5, .slice A0_6 l0_6.length c0_6]] rfl (by (try simp only [List.map_toArray, List.map_cons, List.map_nil]); first | done | rfl | (simp only [List.length_drop, List.length_take]; rfl)) ?_; (with_reducible refine (amalgamref03_Exact.calls kj21 t204 t205 _ _ t206 a0_4 a0_5 _ _ l0_6 true _ ?side1 ?side2 ?side3 ?side4 A46.out).mono ?_); (case side1 => repeat (first | exact (Kd.R_reads' HO208.out).2.2 | (with_reducible refine Kd.C_alloc ?_ _) | (with_reducible refine Kd.C_drewN ?_ _) | (with_reducible refine Kd.C_drew ?_))); (case side2 => exact (Kd.R_reads' HO208.out).2.1); (case side3 => repeat (first | exact (Kd.C_below HR0_6.out HB.out) | (with_reducible refine Kd.C_alloc ?_ _) | (with_reducible refine Kd.C_drewN ?_ _) | (with_reducible refine Kd.C_drew ?_))); (case side4 => exact HC0_6.out); rintro e w63 ⟨rfl, hb⟩; refine ⟨_, rfl, ?_⟩; have n0_ := Aside0.mk (Kd.R_below (by (with_reducible repeat (first | apply Kd.R_alloc | apply Kd.R_drewN | apply Kd.R_drew)); exact HO_197002.out) hb); have n1_ := Aside0.mk (Kd.R_below (by (with_reducible repeat (first | apply Kd.R_alloc | apply Kd.R_drewN | apply Kd.R_drew)); exact HO203.out) hb); have n2_ := Aside0.mk (Kd.R_below (by (with_reducible repeat (first | apply Kd.R_alloc | apply Kd.R_drewN | apply Kd.R_drew)); exact HO208.out) hb); have n3_ := Aside0.mk (blk_below (g := gb183) (o := .cells #[.slice A0_0 l0_0.length c0_0, .string a0_1, .int .i64 a0_2, .slice A0_3 l0_3.length c0_3, .string a0_4, .int .i64 a0_5, .slice A0_6 l0_6.length c0_6, .slice A0_7 l0_7.length c0_7] 36 (0, 0)) (by (with_reducible repeat (first | refine blk_drewN ?_ _ | refine blk_drew ?_ | refine blk_alloc ?_ _)); exact BK183.out) hb); have n4_ := Aside0.mk (blk_below (g := gb196) (o := .cells #[.string t189, .int .i64 t190, .slice Ao30 t191.length co30] 27 (0, 0)) (by (with_reducible repeat (first | refine blk_drewN ?_ _ | refine blk_drew ?_ | refine blk_alloc ?_ _)); exact BK196.out) hb); have n5_ := Aside0.mk (blk_below (g := gb211) (o := .cells #[.string t199, .int .i64 t200, .slice Ao57 t201.length co57, .string t204, .int .i64 t205, .slice Ao58 t206.length co58] 41 (0, 0)) (by (with_reducible repeat (first | refine blk_drewN ?_ _ | refine blk_drew ?_ | refine blk_alloc ?_ _)); exact BK211.out) hb); have n6_ := Aside0.mk (below_step (by repeat (first | (with_reducible first | exact HB.out | apply below_alloc | apply pw_below_drewN | apply below_drew1 | refine below_set ?_ GE183.out | refine below_set ?_ GE196.out | refine below_set ?_ GE211.out) | exact HB.out)) hb); clear HO_197002; clear HO203; clear HO208; clear BK183; clear BK196; clear BK211; clear HB; have HO_197002 := n0_; have HO203 := n1_; have HO208 := n2_; have BK183 := n3_; have BK196 := n4_; have BK211 := n5_; have HB := n6_; clear n0_ n1_ n2_ n3_ n4_ n5_ n6_; (try clear hb); (try clear hb2); (try clear hk); (try clear hi)))
                        go_meet
                        case rel => exact ⟨_, H', ⟨by have := HJ5.out; have := HJ21.out; first | omega | exact Nat.le_refl _⟩, ⟨by (with_reducible repeat (first | apply Kd.R_alloc | apply Kd.R_drewN | apply Kd.R_drew)); exact Kd.R_mono HO_197002.out (fun _ hk => hk.1.1)⟩, ⟨by (with_reducible repeat (first | refine blk_drewN ?_ _ | refine blk_drew ?_ | refine blk_alloc ?_ _)); exact BK183.out⟩, ⟨by (with_reducible repeat (first | refine blk_drewN ?_ _ | refine blk_drew ?_ | refine blk_alloc ?_ _)); exact BK196.out⟩, ⟨by repeat (first | (with_reducible first | exact HB.out | apply below_alloc | apply pw_below_drewN | apply below_drew1 | refine below_set ?_ GE183.out | refine below_set ?_ GE196.out | refine below_set ?_ GE211.out) | exact HB.out)⟩⟩
                      · replace c49 := Bool.eq_false_iff.mpr c49
                        subst c49
                        have H1 : (some false) = some r := by rw [if_neg (show ¬ (false = true) by decide)] at H; exact H
                        clear H
                        have H := H1
                        clear H1
                        exact absurd ((Option.some.inj H).trans HRT.out) (by decide)
                    · replace c48 := Bool.eq_false_iff.mpr c48
                      subst c48
                      have H1 : (some false) = some r := by rw [if_neg (show ¬ (false = true) by decide)] at H; exact H
                      clear H
                      have H := H1
                      clear H1
                      exact absurd ((Option.some.inj H).trans HRT.out) (by decide)
                  · rw [if_neg c47] at H
                    have c47b0 : (t209 == 0) = false := beq_eq_false_iff_ne.mpr c47
                    have c47b1 : (t209 != 0) = true := bne_iff_ne.mpr c47
                    exact absurd ((Option.some.inj H).trans HRT.out) (by decide)
                · rw [if_neg c43] at H
                  have c43b0 : decide ((t198.size : Int) ≤ 800) = false := decide_eq_false c43
                  have c43b1 : decide (t198.size ≤ 800) = false := decide_eq_false (by omega)
                  clear c43
                  (first | rw [c43b0] | (simp only [i64_w, i32_w]; rw [c43b0]) | skip)
                  have H' := Aside0.mk H
                  clear H
                  go_wp2
                  go_meet
                  case rel => exact ⟨_, H', ⟨by have := HJ5.out; have := HJ21.out; first | omega | exact Nat.le_refl _⟩, ⟨by (with_reducible repeat (first | apply Kd.R_alloc | apply Kd.R_drewN | apply Kd.R_drew)); exact HO_197002.out⟩, ⟨by (with_reducible repeat (first | refine blk_drewN ?_ _ | refine blk_drew ?_ | refine blk_alloc ?_ _)); exact BK183.out⟩, ⟨by (with_reducible repeat (first | refine blk_drewN ?_ _ | refine blk_drew ?_ | refine blk_alloc ?_ _)); exact BK196.out⟩, ⟨by repeat (first | (with_reducible first | exact HB.out | apply below_alloc | apply pw_below_drewN | apply below_drew1 | refine below_set ?_ GE183.out | refine below_set ?_ GE196.out) | exact HB.out)⟩⟩
              case rest =>
                clear HC39
                obtain ⟨kq, HA, HJ38, HO_197002, BK183, BK196, HB⟩ := hcut
                cases kq with
                | zero => exact absurd HA.out (by simp [amalgamlaw05_TextBack.j2])
                | succ kj38 =>
                  have H := HA.out
                  clear HA
                  simp only [amalgamlaw05_TextBack.j2] at H
                  have H' := Aside0.mk H
                  clear H
                  go_wp2
                  go_loopg [17] kj38 (fun kq v17 w' => ∃ (x17_4 : Int), v17 = .int .i64 x17_4 ∧ Aside0 (amalgamlaw05_TextBack.l0 kq x17_4 l0_0 a0_1 a0_2 l0_3 a0_4 a0_5 l0_6 l0_7 = some r) ∧ Aside0 (kq ≤ kj38) ∧ Aside0 (Kd.R k27 27 w' w.heap.size (fun k_ => k_ ≠ gb196) (.slice Ao30 t191.length co30) t191) ∧ Aside0 (w'.heap[gb183]? = some (.cells #[(.slice A0_0 l0_0.length c0_0), .string a0_1, .int .i64 a0_2, (.slice A0_3 l0_3.length c0_3), .string a0_4, .int .i64 a0_5, (.slice A0_6 l0_6.length c0_6), (.slice A0_7 l0_7.length c0_7)] 36 (0, 0))) ∧ Aside0 (w'.heap[gb196]? = some (.cells #[.string t189, .int .i64 t190, (.slice Ao30 t191.length co30)] 27 (0, 0))) ∧ Aside0 (Below w.heap.size w w'))
                  case atStart => exact ⟨(0), (by first | rfl | (simp; done) | (simp [*]; done)), H', ⟨Nat.le_refl _⟩, ⟨by (with_reducible repeat (first | apply Kd.R_alloc | apply Kd.R_drewN | apply Kd.R_drew)); exact HO_197002.out⟩, ⟨by (with_reducible repeat (first | refine blk_drewN ?_ _ | refine blk_drew ?_ | refine blk_alloc ?_ _)); exact BK183.out⟩, ⟨by (with_reducible repeat (first | refine blk_drewN ?_ _ | refine blk_drew ?_ | refine blk_alloc ?_ _)); exact BK196.out⟩, ⟨by repeat (first | (with_reducible first | exact HB.out | apply below_alloc | apply pw_below_drewN | apply below_drew1 | refine below_set ?_ GE183.out | refine below_set ?_ GE196.out) | exact HB.out)⟩⟩
                  case round =>
                    clear H'
                    obtain ⟨x17_4, rfl, HA, HK4, HO_197002, BK183, BK196, HB⟩ := hrel
                    cases gk with
                    | zero => exact absurd HA.out (by simp [amalgamlaw05_TextBack.l0])
                    | succ k4 =>
                      have H := HA.out
                      clear HA
                      simp only [amalgamlaw05_TextBack.l0] at H
                      by_cases c106 : x17_4 < (l0_7.length : Int)
                      · rw [if_pos c106] at H
                        have c106b0 : decide (x17_4 < (l0_7.length : Int)) = true := decide_eq_true c106
                        clear c106
                        by_cases c107 : 0 ≤ x17_4
                        · rw [if_pos c107] at H
                          have c107b0 : decide (0 ≤ x17_4) = true := decide_eq_true c107
                          clear c107
                          replace H := Option.bind_eq_some_iff.mp H
                          obtain ⟨t215, A1080, H⟩ := H
                          replace H : (if t215 = true then ((amalgamref03_Check.f k4 l0_0 ((rd_T46 l0_7 x17_4).f1.f0) ((rd_T46 l0_7 x17_4).f1.f1) ((rd_T46 l0_7 x17_4).f1.f2)).bind fun t217 => (if t217 = 0 then (amalgamlaw05_TextBack.l0 k4 (wrap64 (x17_4 + 1)) l0_0 a0_1 a0_2 l0_3 a0_4 a0_5 l0_6 l0_7) else (some true))) else (some true)) = some r := H
                          have A108 := Aside0.mk A1080
                          clear A1080
                          by_cases c109 : t215 = true
                          · subst c109
                            have H1 : ((amalgamref03_Check.f k4 l0_0 ((rd_T46 l0_7 x17_4).f1.f0) ((rd_T46 l0_7 x17_4).f1.f1) ((rd_T46 l0_7 x17_4).f1.f2)).bind fun t217 => (if t217 = 0 then (amalgamlaw05_TextBack.l0 k4 (wrap64 (x17_4 + 1)) l0_0 a0_1 a0_2 l0_3 a0_4 a0_5 l0_6 l0_7) else (some true))) = some r := by rw [if_pos rfl] at H; exact H
                            clear H
                            have H := H1
                            clear H1
                            replace H := Option.bind_eq_some_iff.mp H
                            obtain ⟨t217, A1100, H⟩ := H
                            replace H : (if t217 = 0 then (amalgamlaw05_TextBack.l0 k4 (wrap64 (x17_4 + 1)) l0_0 a0_1 a0_2 l0_3 a0_4 a0_5 l0_6 l0_7) else (some true)) = some r := H
                            have A110 := Aside0.mk A1100
                            clear A1100
                            by_cases c111 : t217 = 0
                            · rw [if_pos c111] at H
                              have c111b0 : (t217 == 0) = true := beq_iff_eq.mpr c111
                              have c111b1 : (t217 != 0) = false := bne_eq_false_iff_eq.mpr c111
                              clear c111
                              have H' := Aside0.mk H
                              clear H
                              have hnb112 := NB183_196.out
                              have hnc112 := NB196_183.out
                              have hcz113_0 : wr.cell? ⟨gb183, 0, none⟩ = some (.slice A0_0 l0_0.length c0_0) := (blk_cell BK183.out 0).trans rfl
                              have hcz113_1 : wr.cell? ⟨gb183, 1, none⟩ = some (.string a0_1) := (blk_cell BK183.out 1).trans rfl
                              have hcz113_2 : wr.cell? ⟨gb183, 2, none⟩ = some (.int .i64 a0_2) := (blk_cell BK183.out 2).trans rfl
                              have hcz113_3 : wr.cell? ⟨gb183, 3, none⟩ = some (.slice A0_3 l0_3.length c0_3) := (blk_cell BK183.out 3).trans rfl
                              have hcz113_4 : wr.cell? ⟨gb183, 4, none⟩ = some (.string a0_4) := (blk_cell BK183.out 4).trans rfl
                              have hcz113_5 : wr.cell? ⟨gb183, 5, none⟩ = some (.int .i64 a0_5) := (blk_cell BK183.out 5).trans rfl
                              have hcz113_6 : wr.cell? ⟨gb183, 6, none⟩ = some (.slice A0_6 l0_6.length c0_6) := (blk_cell BK183.out 6).trans rfl
                              have hcz113_7 : wr.cell? ⟨gb183, 7, none⟩ = some (.slice A0_7 l0_7.length c0_7) := (blk_cell BK183.out 7).trans rfl
                              have hfz113_0 := blk_frozen BK183.out 0
                              have hfz113_1 := blk_frozen BK183.out 1
                              have hfz113_2 := blk_frozen BK183.out 2
                              have hfz113_3 := blk_frozen BK183.out 3
                              have hfz113_4 := blk_frozen BK183.out 4
                              have hfz113_5 := blk_frozen BK183.out 5
                              have hfz113_6 := blk_frozen BK183.out 6
                              have hfz113_7 := blk_frozen BK183.out 7
                              have p214 : 0 ≤ (x17_4 : Int) := of_decide_eq_true (by first | (with_reducible assumption) | assumption)
                              have q214 : x17_4 < (l0_7.length : Int) := of_decide_eq_true (by first | (with_reducible assumption) | assumption)
                              obtain ⟨ad214, A214_3, c214_3, e214, hx214_0, hx214_1, hx214_2, hx214_3, hl214_3, hi214_3⟩ := at_T46 HR0_7.out x17_4 p214 q214
                              cases e214
                              replace hx214_0 := (HB.out.cell (World.block_lt_of_cell? w _ hx214_0)).trans hx214_0
                              replace hx214_1 := (HB.out.cell (World.block_lt_of_cell? w _ hx214_1)).trans hx214_1
                              replace hx214_2 := (HB.out.cell (World.block_lt_of_cell? w _ hx214_2)).trans hx214_2
                              replace hx214_3 := (HB.out.cell (World.block_lt_of_cell? w _ hx214_3)).trans hx214_3
                              have HR214_3 := Aside0.mk hi214_3
                              have HC214_3 := Aside0.mk hl214_3
                              clear hi214_3 hl214_3
                              replace p214 := eq_true p214
                              replace q214 := eq_true q214
                              try go_wp2_with (first | ((with_reducible refine gate_callee (f := 14) rfl ?_); refine goesL_ (some 125) rfl rfl Try.func14 (by kernel_rfl) rfl #[.string ((rd_T46 l0_7 x17_4).f0)] rfl (by (try simp only [List.map_toArray, List.map_cons, List.map_nil]); first | done | rfl | (simp only [List.length_drop, List.length_take]; rfl)) ?_; (with_reducible refine (amalgamref01_Var.calls k4 ((rd_T46 l0_7 x17_4).f0) true _ A108.out).mono ?_); rintro e w' ⟨rfl, ⟨nd, rfl⟩⟩; refine ⟨_, rfl, ?_⟩))
                              (try (rw [drewN_self wr]; generalize hq_ : World.drewN wr _ = wr; have n0_ : Aside0 (Kd.R k27 27 wr w.heap.size (fun k_ => k_ ≠ gb196) (.slice Ao30 t191.length co30) t191) := ⟨by rw [← hq_]; exact (by (with_reducible repeat (first | apply Kd.R_alloc | apply Kd.R_drewN | apply Kd.R_drew)); exact HO_197002.out)⟩; have n1_ : Aside0 (wr.heap[gb183]? = some (.cells #[.slice A0_0 l0_0.length c0_0, .string a0_1, .int .i64 a0_2, .slice A0_3 l0_3.length c0_3, .string a0_4, .int .i64 a0_5, .slice A0_6 l0_6.length c0_6, .slice (some ad214) l0_7.length c0_7] 36 (0, 0))) := ⟨by rw [← hq_]; exact (by (with_reducible repeat (first | refine blk_drewN ?_ _ | refine blk_drew ?_ | refine blk_alloc ?_ _)); exact BK183.out)⟩; have n2_ : Aside0 (wr.heap[gb196]? = some (.cells #[.string t189, .int .i64 t190, .slice Ao30 t191.length co30] 27 (0, 0))) := ⟨by rw [← hq_]; exact (by (with_reducible repeat (first | refine blk_drewN ?_ _ | refine blk_drew ?_ | refine blk_alloc ?_ _)); exact BK196.out)⟩; have n3_ : Aside0 (Below w.heap.size w wr) := ⟨by rw [← hq_]; exact (by repeat (first | (with_reducible first | exact HB.out | apply below_alloc | apply pw_below_drewN | apply below_drew1 | refine below_set ?_ GE183.out | refine below_set ?_ GE196.out) | exact HB.out))⟩; clear HO_197002 BK183 BK196 HB hq_; have HO_197002 := n0_; have BK183 := n1_; have BK196 := n2_; have HB := n3_; clear n0_ n1_ n2_ n3_))
                              have n0_ := Aside0.mk (Kd.R_drew HO_197002.out)
                              have n1_ := Aside0.mk (blk_drew BK183.out)
                              have n2_ := Aside0.mk (blk_drew BK196.out)
                              have n3_ := Aside0.mk (below_drew1 HB.out)
                              clear HO_197002
                              clear BK183
                              clear BK196
                              clear HB
                              have HO_197002 := n0_
                              have BK183 := n1_
                              have BK196 := n2_
                              have HB := n3_
                              clear n0_ n1_ n2_ n3_
                              have p216 : 0 ≤ (x17_4 : Int) := of_decide_eq_true (by first | (with_reducible assumption) | assumption)
                              have q216 : x17_4 < (l0_7.length : Int) := of_decide_eq_true (by first | (with_reducible assumption) | assumption)
                              obtain ⟨ad216, A216_3, c216_3, e216, hx216_0, hx216_1, hx216_2, hx216_3, hl216_3, hi216_3⟩ := at_T46 HR0_7.out x17_4 p216 q216
                              have hw216_3 := hx216_3
                              have hw216_2 := hx216_2
                              have hw216_1 := hx216_1
                              have hw216_0 := hx216_0
                              obtain rfl : ad214 = ad216 := (by injection e216)
                              replace hx216_0 := (HB.out.cell (World.block_lt_of_cell? w _ hx216_0)).trans hx216_0
                              replace hx216_1 := (HB.out.cell (World.block_lt_of_cell? w _ hx216_1)).trans hx216_1
                              replace hx216_2 := (HB.out.cell (World.block_lt_of_cell? w _ hx216_2)).trans hx216_2
                              replace hx216_3 := (HB.out.cell (World.block_lt_of_cell? w _ hx216_3)).trans hx216_3
                              have HR216_3 := Aside0.mk hi216_3
                              have HC216_3 := Aside0.mk hl216_3
                              clear hi216_3 hl216_3
                              replace p216 := eq_true p216
                              replace q216 := eq_true q216
                              refine start_ (n := 14) (S := fun w' => w'.cell? ⟨gb183, 0, none⟩ = some (.slice A0_0 l0_0.length c0_0) ∧ w'.cell? ⟨gb183, 1, none⟩ = some (.string a0_1) ∧ w'.cell? ⟨gb183, 2, none⟩ = some (.int .i64 a0_2) ∧ w'.cell? ⟨gb183, 3, none⟩ = some (.slice A0_3 l0_3.length c0_3) ∧ w'.cell? ⟨gb183, 4, none⟩ = some (.string a0_4) ∧ w'.cell? ⟨gb183, 5, none⟩ = some (.int .i64 a0_5) ∧ w'.cell? ⟨gb183, 6, none⟩ = some (.slice A0_6 l0_6.length c0_6) ∧ w'.cell? ⟨gb183, 7, none⟩ = some (.slice (some ad214) l0_7.length c0_7) ∧ w'.cell? (ad214.add ((x17_4).toNat * 4)) = some (.string ((rd_T46 l0_7 x17_4).f0)) ∧ w'.cell? ⟨(ad214.add ((x17_4).toNat * 4)).block, (ad214.add ((x17_4).toNat * 4)).off + 1, none⟩ = some (.string ((rd_T46 l0_7 x17_4).f1.f0)) ∧ w'.cell? ⟨(ad214.add ((x17_4).toNat * 4)).block, (ad214.add ((x17_4).toNat * 4)).off + 2, none⟩ = some (.int .i64 ((rd_T46 l0_7 x17_4).f1.f1)) ∧ w'.cell? ⟨(ad214.add ((x17_4).toNat * 4)).block, (ad214.add ((x17_4).toNat * 4)).off + 3, none⟩ = some (.slice A216_3 ((rd_T46 l0_7 x17_4).f1.f2).length c216_3)) (ds := []) #[false, false, false, false, false, false, false, false, false, false, false, false, false, false] (by kernel_rfl) rfl rfl ⟨(blk_cell BK183.out 0).trans rfl, (blk_cell BK183.out 1).trans rfl, (blk_cell BK183.out 2).trans rfl, (blk_cell BK183.out 3).trans rfl, (blk_cell BK183.out 4).trans rfl, (blk_cell BK183.out 5).trans rfl, (blk_cell BK183.out 6).trans rfl, (blk_cell BK183.out 7).trans rfl, ((HB.out.cell (World.block_lt_of_cell? w _ hw216_0)).trans hw216_0), ((HB.out.cell (World.block_lt_of_cell? w _ hw216_1)).trans hw216_1), ((HB.out.cell (World.block_lt_of_cell? w _ hw216_2)).trans hw216_2), ((HB.out.cell (World.block_lt_of_cell? w _ hw216_3)).trans hw216_3)⟩ (fun hHeld => ?_); refine with_tabW amalgamlaw05_TextBack.tab22 amalgamlaw05_TextBack.bits22 (fun HT_ HW_ => ?_)
                              generalize wr.drew = w114 at HO_197002 BK183 BK196 HB HR216_3 hx216_0 hx216_1 hx216_2 hx216_3 hHeld ⊢
                              refine pure_ (i := 0) (N := some 126) (v := ?_) (a' := ?_) #[true, false, false, false, false, false, false, false, false, false, false, false, false, false] rfl rfl (any_of HT_.out (by kernel_rfl)) (fun _ _ _ h => h) (Or.inl ⟨by rfl, ?_⟩) ?_ ?_
                              rotate_left
                              · intro w'
                                go_simp
                                first | (with_reducible rfl) | (rw [if_neg (by simp only [decide_eq_true_eq, ByteArray.size_append] at *; omega)])
                              rotate_left
                              · simp only [Act.put, List.setIfInBounds_toArray, List.set_cons_zero, List.set_cons_succ, i64_w, i32_w]
                                rfl
                              refine pure_ (i := 1) (N := some 127) (v := ?_) (a' := ?_) #[true, true, false, false, false, false, false, false, false, false, false, false, false, false] rfl rfl (any_of HT_.out (by kernel_rfl)) (fun _ _ _ h => h) (Or.inl ⟨by rfl, ?_⟩) ?_ ?_
                              rotate_left
                              · intro w'
                                go_simp
                                first | (with_reducible rfl) | (rw [if_neg (by simp only [decide_eq_true_eq, ByteArray.size_append] at *; omega)])
                              rotate_left
                              · simp only [Act.put, List.setIfInBounds_toArray, List.set_cons_zero, List.set_cons_succ, i64_w, i32_w]
                                rfl
                              refine pure_ (i := 2) (N := some 128) (v := ?_) (a' := ?_) #[true, true, true, false, false, false, false, false, false, false, false, false, false, false] rfl rfl (any_of HT_.out (by kernel_rfl)) (fun _ _ _ h => h) (Or.inl ⟨by rfl, ?_⟩) ?_ ?_
                              rotate_left
                              · intro w'
                                go_simp
                                first | (with_reducible rfl) | (rw [if_neg (by simp only [decide_eq_true_eq, ByteArray.size_append] at *; omega)])
                              rotate_left
                              · simp only [Act.put, List.setIfInBounds_toArray, List.set_cons_zero, List.set_cons_succ, i64_w, i32_w]
                                rfl
                              refine pure_ (i := 3) (N := some 129) (v := ?_) (a' := ?_) #[true, true, true, true, false, false, false, false, false, false, false, false, false, false] rfl rfl (any_of HT_.out (by kernel_rfl)) (fun _ _ _ h => h) (Or.inl ⟨by rfl, ?_⟩) ?_ ?_
                              rotate_left
                              · intro w'
                                go_simp
                                first | (with_reducible rfl) | (rw [if_neg (by simp only [decide_eq_true_eq, ByteArray.size_append] at *; omega)])
                              rotate_left
                              · simp only [Act.put, List.setIfInBounds_toArray, List.set_cons_zero, List.set_cons_succ, i64_w, i32_w]
                                rfl
                              refine pure_ (i := 5) (N := some 131) (v := ?_) (a' := ?_) #[true, true, true, true, false, true, false, false, false, false, false, false, false, false] rfl rfl (any_of HT_.out (by kernel_rfl)) (fun _ _ _ h => h) (Or.inl ⟨by rfl, ?_⟩) ?_ ?_
                              rotate_left
                              · intro w'
                                go_simp
                                first | (with_reducible rfl) | (rw [if_neg (by simp only [decide_eq_true_eq, ByteArray.size_append] at *; omega)])
                              rotate_left
                              · simp only [Act.put, List.setIfInBounds_toArray, List.set_cons_zero, List.set_cons_succ, i64_w, i32_w]
                                rfl
                              refine pure_ (i := 7) (N := some 133) (v := ?_) (a' := ?_) #[true, true, true, true, false, true, false, true, false, false, false, false, false, false] rfl rfl (any_of HT_.out (by kernel_rfl)) (fun _ _ _ h => h) (Or.inl ⟨by rfl, ?_⟩) ?_ ?_
                              rotate_left
                              · intro w'
                                go_simp
                                first | (with_reducible rfl) | (rw [if_neg (by simp only [decide_eq_true_eq, ByteArray.size_append] at *; omega)])
                              rotate_left
                              · simp only [Act.put, List.setIfInBounds_toArray, List.set_cons_zero, List.set_cons_succ, i64_w, i32_w]
                                rfl
                              refine take_ (i := 4) (N := some 130) (v := ?_) (a' := ?_) #[true, true, true, true, true, true, false, true, false, false, false, false, false, false] rfl rfl (take_ofW HT_.out HW_.out (by kernel_rfl)) (fun _ _ _ h => h) (Or.inl ⟨by rfl, ?_⟩) hHeld ?_ ?_
                              rotate_left
                              · rintro w' ⟨s0, s1, s2, s3, s4, s5, s6, s7, s8, s9, s10, s11⟩
                                go_simp
                                first | (with_reducible rfl) | (rw [if_neg (by simp only [decide_eq_true_eq, ByteArray.size_append] at *; omega)])
                              rotate_left
                              · simp only [Act.put, List.setIfInBounds_toArray, List.set_cons_zero, List.set_cons_succ, i64_w, i32_w]
                                rfl
                              refine take_ (i := 6) (N := some 132) (v := ?_) (a' := ?_) #[true, true, true, true, true, true, true, true, false, false, false, false, false, false] rfl rfl (take_ofW HT_.out HW_.out (by kernel_rfl)) (fun _ _ _ h => h) (Or.inl ⟨by rfl, ?_⟩) hHeld ?_ ?_
                              rotate_left
                              · rintro w' ⟨s0, s1, s2, s3, s4, s5, s6, s7, s8, s9, s10, s11⟩
                                go_simp
                                first | (with_reducible rfl) | (rw [if_neg (by simp only [decide_eq_true_eq, ByteArray.size_append] at *; omega)])
                              rotate_left
                              · simp only [Act.put, List.setIfInBounds_toArray, List.set_cons_zero, List.set_cons_succ, i64_w, i32_w]
                                rfl
                              refine pure_ (i := 8) (N := some 134) (v := ?_) (a' := ?_) #[true, true, true, true, true, true, true, true, true, false, false, false, false, false] rfl rfl (any_of HT_.out (by kernel_rfl)) (fun _ _ _ h => h) (Or.inl ⟨by rfl, ?_⟩) ?_ ?_
                              rotate_left
                              · intro w'
                                go_simp
                                first | (with_reducible rfl) | (rw [if_neg (by simp only [decide_eq_true_eq, ByteArray.size_append] at *; omega)])
                              rotate_left
                              · simp only [Act.put, List.setIfInBounds_toArray, List.set_cons_zero, List.set_cons_succ, i64_w, i32_w]
                                rfl
                              refine pure_ (i := 9) (N := some 135) (v := ?_) (a' := ?_) #[true, true, true, true, true, true, true, true, true, true, false, false, false, false] rfl rfl (any_of HT_.out (by kernel_rfl)) (fun _ _ _ h => h) (Or.inl ⟨by rfl, ?_⟩) ?_ ?_
                              rotate_left
                              · intro w'
                                go_simp
                                first | (with_reducible rfl) | (rw [if_neg (by simp only [decide_eq_true_eq, ByteArray.size_append] at *; omega)])
                              rotate_left
                              · simp only [Act.put, List.setIfInBounds_toArray, List.set_cons_zero, List.set_cons_succ, i64_w, i32_w]
                                rfl
                              refine take_ (i := 10) (N := some 136) (v := ?_) (a' := ?_) #[true, true, true, true, true, true, true, true, true, true, true, false, false, false] rfl rfl (take_ofW HT_.out HW_.out (by kernel_rfl)) (fun _ _ _ h => h) (Or.inl ⟨by rfl, ?_⟩) hHeld ?_ ?_
                              rotate_left
                              · rintro w' ⟨s0, s1, s2, s3, s4, s5, s6, s7, s8, s9, s10, s11⟩
                                go_simp
                                first | (with_reducible rfl) | (rw [if_neg (by simp only [decide_eq_true_eq, ByteArray.size_append] at *; omega)])
                              rotate_left
                              · simp only [Act.put, List.setIfInBounds_toArray, List.set_cons_zero, List.set_cons_succ, i64_w, i32_w]
                                rfl
                              refine one_ (i := 11) (N := some 137) #[true, true, true, true, true, true, true, true, true, true, true, true, false, false] rfl rfl (one_of HT_.out (by kernel_rfl)) (by decide) (fun K hK => ?_)
                              refine goes_ Try.func11 (by kernel_rfl) rfl #[.slice A0_0 l0_0.length c0_0, .agg #[.string ((rd_T46 l0_7 x17_4).f1.f0), .int .i64 ((rd_T46 l0_7 x17_4).f1.f1), .slice A216_3 ((rd_T46 l0_7 x17_4).f1.f2).length c216_3]] (by rfl) rfl rfl (by (try simp only [List.map_toArray, List.map_cons, List.map_nil]); first | done | rfl | (simp only [List.length_drop, List.length_take]; rfl)) ?_
                              with_reducible refine (amalgamref03_Check.calls k4 _ _ l0_0 ((rd_T46 l0_7 x17_4).f1.f0) ((rd_T46 l0_7 x17_4).f1.f1) _ _ ((rd_T46 l0_7 x17_4).f1.f2) t217 _ ?side1 ?side2 ?side3 ?side4 A110.out).mono ?_
                              (case side1 => repeat (first | exact (Kd.C_below HR0_0.out HB.out) | (with_reducible refine Kd.C_alloc ?_ _) | (with_reducible refine Kd.C_drewN ?_ _) | (with_reducible refine Kd.C_drew ?_)))
                              (case side2 => exact HC0_0.out)
                              (case side3 => repeat (first | exact (Kd.C_below HR216_3.out HB.out) | (with_reducible refine Kd.C_alloc ?_ _) | (with_reducible refine Kd.C_drewN ?_ _) | (with_reducible refine Kd.C_drew ?_)))
                              (case side4 => exact HC216_3.out)
                              rintro e w115 ⟨rfl, hb⟩
                              refine ⟨_, rfl, ?_⟩
                              have n0_ := Aside0.mk (Kd.R_below (by (with_reducible repeat (first | apply Kd.R_alloc | apply Kd.R_drewN | apply Kd.R_drew)); exact HO_197002.out) hb)
                              have n1_ := Aside0.mk (blk_below (g := gb183) (o := .cells #[.slice A0_0 l0_0.length c0_0, .string a0_1, .int .i64 a0_2, .slice A0_3 l0_3.length c0_3, .string a0_4, .int .i64 a0_5, .slice A0_6 l0_6.length c0_6, .slice (some ad214) l0_7.length c0_7] 36 (0, 0)) (by (with_reducible repeat (first | refine blk_drewN ?_ _ | refine blk_drew ?_ | refine blk_alloc ?_ _)); exact BK183.out) hb)
                              have n2_ := Aside0.mk (blk_below (g := gb196) (o := .cells #[.string t189, .int .i64 t190, .slice Ao30 t191.length co30] 27 (0, 0)) (by (with_reducible repeat (first | refine blk_drewN ?_ _ | refine blk_drew ?_ | refine blk_alloc ?_ _)); exact BK196.out) hb)
                              have n3_ := Aside0.mk (below_step (by repeat (first | (with_reducible first | exact HB.out | apply below_alloc | apply pw_below_drewN | apply below_drew1 | refine below_set ?_ GE183.out | refine below_set ?_ GE196.out) | exact HB.out)) hb)
                              clear HO_197002
                              clear BK183
                              clear BK196
                              clear HB
                              have HO_197002 := n0_
                              have BK183 := n1_
                              have BK196 := n2_
                              have HB := n3_
                              clear n0_ n1_ n2_ n3_
                              (try clear hb)
                              (try clear hb2)
                              (try clear hk)
                              (try clear hi)
                              refine hK.out _ _ ⟨(blk_cell BK183.out 0).trans rfl, (blk_cell BK183.out 1).trans rfl, (blk_cell BK183.out 2).trans rfl, (blk_cell BK183.out 3).trans rfl, (blk_cell BK183.out 4).trans rfl, (blk_cell BK183.out 5).trans rfl, (blk_cell BK183.out 6).trans rfl, (blk_cell BK183.out 7).trans rfl, ((HB.out.cell (World.block_lt_of_cell? w _ hw216_0)).trans hw216_0), ((HB.out.cell (World.block_lt_of_cell? w _ hw216_1)).trans hw216_1), ((HB.out.cell (World.block_lt_of_cell? w _ hw216_2)).trans hw216_2), ((HB.out.cell (World.block_lt_of_cell? w _ hw216_3)).trans hw216_3)⟩ (fun hHeld => ?_)
                              clear hK K
                              refine norm_ (a' := ?_) ?_ ?_
                              rotate_left
                              · show Act.put _ (some 137) _ = _
                                simp only [Act.put, List.setIfInBounds_toArray, List.set_cons_zero, List.set_cons_succ, i64_w, i32_w]
                                rfl
                              refine pure_ (i := 12) (N := some 138) (v := ?_) (a' := ?_) #[true, true, true, true, true, true, true, true, true, true, true, true, true, false] rfl rfl (any_of HT_.out (by kernel_rfl)) (fun _ _ _ h => h) (Or.inl ⟨by rfl, ?_⟩) ?_ ?_
                              rotate_left
                              · intro w'
                                go_simp
                                first | (with_reducible rfl) | (rw [if_neg (by simp only [decide_eq_true_eq, ByteArray.size_append] at *; omega)])
                              rotate_left
                              · simp only [Act.put, List.setIfInBounds_toArray, List.set_cons_zero, List.set_cons_succ, i64_w, i32_w]
                                rfl
                              refine pure_ (i := 13) (N := some 139) (v := ?_) (a' := ?_) #[true, true, true, true, true, true, true, true, true, true, true, true, true, true] rfl rfl (any_of HT_.out (by kernel_rfl)) (fun _ _ _ h => h) (Or.inl ⟨by rfl, ?_⟩) ?_ ?_
                              rotate_left
                              · intro w'
                                go_simp
                                first | (with_reducible rfl) | (rw [if_neg (by simp only [decide_eq_true_eq, ByteArray.size_append] at *; omega)])
                              rotate_left
                              · simp only [Act.put, List.setIfInBounds_toArray, List.set_cons_zero, List.set_cons_succ, i64_w, i32_w]
                                rfl
                              refine done_ (done_of HT_.out (by kernel_rfl)) ?_
                              try go_wp2
                              go_roundg k4
                              case measure => have := HJ5.out; have := HJ21.out; have := HJ38.out; have := HK4.out; omega
                              case rel => exact ⟨(wrap64 (x17_4 + 1)), (by first | rfl | (simp; done) | (simp [*]; done)), H', ⟨by have := HJ5.out; have := HJ21.out; have := HJ38.out; have := HK4.out; omega⟩, ⟨by (with_reducible repeat (first | apply Kd.R_alloc | apply Kd.R_drewN | apply Kd.R_drew)); exact HO_197002.out⟩, ⟨by (with_reducible repeat (first | refine blk_drewN ?_ _ | refine blk_drew ?_ | refine blk_alloc ?_ _)); exact BK183.out⟩, ⟨by (with_reducible repeat (first | refine blk_drewN ?_ _ | refine blk_drew ?_ | refine blk_alloc ?_ _)); exact BK196.out⟩, ⟨by repeat (first | (with_reducible first | exact HB.out | apply below_alloc | apply pw_below_drewN | apply below_drew1 | refine below_set ?_ GE183.out | refine below_set ?_ GE196.out) | exact HB.out)⟩⟩
                            · rw [if_neg c111] at H
                              have c111b0 : (t217 == 0) = false := beq_eq_false_iff_ne.mpr c111
                              have c111b1 : (t217 != 0) = true := bne_iff_ne.mpr c111
                              obtain rfl := Option.some.inj H
                              have hnb116 := NB183_196.out
                              have hnc116 := NB196_183.out
                              have hcz117_0 : wr.cell? ⟨gb183, 0, none⟩ = some (.slice A0_0 l0_0.length c0_0) := (blk_cell BK183.out 0).trans rfl
                              have hcz117_1 : wr.cell? ⟨gb183, 1, none⟩ = some (.string a0_1) := (blk_cell BK183.out 1).trans rfl
                              have hcz117_2 : wr.cell? ⟨gb183, 2, none⟩ = some (.int .i64 a0_2) := (blk_cell BK183.out 2).trans rfl
                              have hcz117_3 : wr.cell? ⟨gb183, 3, none⟩ = some (.slice A0_3 l0_3.length c0_3) := (blk_cell BK183.out 3).trans rfl
                              have hcz117_4 : wr.cell? ⟨gb183, 4, none⟩ = some (.string a0_4) := (blk_cell BK183.out 4).trans rfl
                              have hcz117_5 : wr.cell? ⟨gb183, 5, none⟩ = some (.int .i64 a0_5) := (blk_cell BK183.out 5).trans rfl
                              have hcz117_6 : wr.cell? ⟨gb183, 6, none⟩ = some (.slice A0_6 l0_6.length c0_6) := (blk_cell BK183.out 6).trans rfl
                              have hcz117_7 : wr.cell? ⟨gb183, 7, none⟩ = some (.slice A0_7 l0_7.length c0_7) := (blk_cell BK183.out 7).trans rfl
                              have hfz117_0 := blk_frozen BK183.out 0
                              have hfz117_1 := blk_frozen BK183.out 1
                              have hfz117_2 := blk_frozen BK183.out 2
                              have hfz117_3 := blk_frozen BK183.out 3
                              have hfz117_4 := blk_frozen BK183.out 4
                              have hfz117_5 := blk_frozen BK183.out 5
                              have hfz117_6 := blk_frozen BK183.out 6
                              have hfz117_7 := blk_frozen BK183.out 7
                              have p214 : 0 ≤ (x17_4 : Int) := of_decide_eq_true (by first | (with_reducible assumption) | assumption)
                              have q214 : x17_4 < (l0_7.length : Int) := of_decide_eq_true (by first | (with_reducible assumption) | assumption)
                              obtain ⟨ad214, A214_3, c214_3, e214, hx214_0, hx214_1, hx214_2, hx214_3, hl214_3, hi214_3⟩ := at_T46 HR0_7.out x17_4 p214 q214
                              cases e214
                              replace hx214_0 := (HB.out.cell (World.block_lt_of_cell? w _ hx214_0)).trans hx214_0
                              replace hx214_1 := (HB.out.cell (World.block_lt_of_cell? w _ hx214_1)).trans hx214_1
                              replace hx214_2 := (HB.out.cell (World.block_lt_of_cell? w _ hx214_2)).trans hx214_2
                              replace hx214_3 := (HB.out.cell (World.block_lt_of_cell? w _ hx214_3)).trans hx214_3
                              have HR214_3 := Aside0.mk hi214_3
                              have HC214_3 := Aside0.mk hl214_3
                              clear hi214_3 hl214_3
                              replace p214 := eq_true p214
                              replace q214 := eq_true q214
                              try go_wp2_with (first | ((with_reducible refine gate_callee (f := 14) rfl ?_); refine goesL_ (some 125) rfl rfl Try.func14 (by kernel_rfl) rfl #[.string ((rd_T46 l0_7 x17_4).f0)] rfl (by (try simp only [List.map_toArray, List.map_cons, List.map_nil]); first | done | rfl | (simp only [List.length_drop, List.length_take]; rfl)) ?_; (with_reducible refine (amalgamref01_Var.calls k4 ((rd_T46 l0_7 x17_4).f0) true _ A108.out).mono ?_); rintro e w' ⟨rfl, ⟨nd, rfl⟩⟩; refine ⟨_, rfl, ?_⟩))
                              (try (rw [drewN_self wr]; generalize hq_ : World.drewN wr _ = wr; have n0_ : Aside0 (Kd.R k27 27 wr w.heap.size (fun k_ => k_ ≠ gb196) (.slice Ao30 t191.length co30) t191) := ⟨by rw [← hq_]; exact (by (with_reducible repeat (first | apply Kd.R_alloc | apply Kd.R_drewN | apply Kd.R_drew)); exact HO_197002.out)⟩; have n1_ : Aside0 (wr.heap[gb183]? = some (.cells #[.slice A0_0 l0_0.length c0_0, .string a0_1, .int .i64 a0_2, .slice A0_3 l0_3.length c0_3, .string a0_4, .int .i64 a0_5, .slice A0_6 l0_6.length c0_6, .slice (some ad214) l0_7.length c0_7] 36 (0, 0))) := ⟨by rw [← hq_]; exact (by (with_reducible repeat (first | refine blk_drewN ?_ _ | refine blk_drew ?_ | refine blk_alloc ?_ _)); exact BK183.out)⟩; have n2_ : Aside0 (wr.heap[gb196]? = some (.cells #[.string t189, .int .i64 t190, .slice Ao30 t191.length co30] 27 (0, 0))) := ⟨by rw [← hq_]; exact (by (with_reducible repeat (first | refine blk_drewN ?_ _ | refine blk_drew ?_ | refine blk_alloc ?_ _)); exact BK196.out)⟩; have n3_ : Aside0 (Below w.heap.size w wr) := ⟨by rw [← hq_]; exact (by repeat (first | (with_reducible first | exact HB.out | apply below_alloc | apply pw_below_drewN | apply below_drew1 | refine below_set ?_ GE183.out | refine below_set ?_ GE196.out) | exact HB.out))⟩; clear HO_197002 BK183 BK196 HB hq_; have HO_197002 := n0_; have BK183 := n1_; have BK196 := n2_; have HB := n3_; clear n0_ n1_ n2_ n3_))
                              have n0_ := Aside0.mk (Kd.R_drew HO_197002.out)
                              have n1_ := Aside0.mk (blk_drew BK183.out)
                              have n2_ := Aside0.mk (blk_drew BK196.out)
                              have n3_ := Aside0.mk (below_drew1 HB.out)
                              clear HO_197002
                              clear BK183
                              clear BK196
                              clear HB
                              have HO_197002 := n0_
                              have BK183 := n1_
                              have BK196 := n2_
                              have HB := n3_
                              clear n0_ n1_ n2_ n3_
                              have p216 : 0 ≤ (x17_4 : Int) := of_decide_eq_true (by first | (with_reducible assumption) | assumption)
                              have q216 : x17_4 < (l0_7.length : Int) := of_decide_eq_true (by first | (with_reducible assumption) | assumption)
                              obtain ⟨ad216, A216_3, c216_3, e216, hx216_0, hx216_1, hx216_2, hx216_3, hl216_3, hi216_3⟩ := at_T46 HR0_7.out x17_4 p216 q216
                              have hw216_3 := hx216_3
                              have hw216_2 := hx216_2
                              have hw216_1 := hx216_1
                              have hw216_0 := hx216_0
                              obtain rfl : ad214 = ad216 := (by injection e216)
                              replace hx216_0 := (HB.out.cell (World.block_lt_of_cell? w _ hx216_0)).trans hx216_0
                              replace hx216_1 := (HB.out.cell (World.block_lt_of_cell? w _ hx216_1)).trans hx216_1
                              replace hx216_2 := (HB.out.cell (World.block_lt_of_cell? w _ hx216_2)).trans hx216_2
                              replace hx216_3 := (HB.out.cell (World.block_lt_of_cell? w _ hx216_3)).trans hx216_3
                              have HR216_3 := Aside0.mk hi216_3
                              have HC216_3 := Aside0.mk hl216_3
                              clear hi216_3 hl216_3
                              replace p216 := eq_true p216
                              replace q216 := eq_true q216
                              refine start_ (n := 14) (S := fun w' => w'.cell? ⟨gb183, 0, none⟩ = some (.slice A0_0 l0_0.length c0_0) ∧ w'.cell? ⟨gb183, 1, none⟩ = some (.string a0_1) ∧ w'.cell? ⟨gb183, 2, none⟩ = some (.int .i64 a0_2) ∧ w'.cell? ⟨gb183, 3, none⟩ = some (.slice A0_3 l0_3.length c0_3) ∧ w'.cell? ⟨gb183, 4, none⟩ = some (.string a0_4) ∧ w'.cell? ⟨gb183, 5, none⟩ = some (.int .i64 a0_5) ∧ w'.cell? ⟨gb183, 6, none⟩ = some (.slice A0_6 l0_6.length c0_6) ∧ w'.cell? ⟨gb183, 7, none⟩ = some (.slice (some ad214) l0_7.length c0_7) ∧ w'.cell? (ad214.add ((x17_4).toNat * 4)) = some (.string ((rd_T46 l0_7 x17_4).f0)) ∧ w'.cell? ⟨(ad214.add ((x17_4).toNat * 4)).block, (ad214.add ((x17_4).toNat * 4)).off + 1, none⟩ = some (.string ((rd_T46 l0_7 x17_4).f1.f0)) ∧ w'.cell? ⟨(ad214.add ((x17_4).toNat * 4)).block, (ad214.add ((x17_4).toNat * 4)).off + 2, none⟩ = some (.int .i64 ((rd_T46 l0_7 x17_4).f1.f1)) ∧ w'.cell? ⟨(ad214.add ((x17_4).toNat * 4)).block, (ad214.add ((x17_4).toNat * 4)).off + 3, none⟩ = some (.slice A216_3 ((rd_T46 l0_7 x17_4).f1.f2).length c216_3)) (ds := []) #[false, false, false, false, false, false, false, false, false, false, false, false, false, false] (by kernel_rfl) rfl rfl ⟨(blk_cell BK183.out 0).trans rfl, (blk_cell BK183.out 1).trans rfl, (blk_cell BK183.out 2).trans rfl, (blk_cell BK183.out 3).trans rfl, (blk_cell BK183.out 4).trans rfl, (blk_cell BK183.out 5).trans rfl, (blk_cell BK183.out 6).trans rfl, (blk_cell BK183.out 7).trans rfl, ((HB.out.cell (World.block_lt_of_cell? w _ hw216_0)).trans hw216_0), ((HB.out.cell (World.block_lt_of_cell? w _ hw216_1)).trans hw216_1), ((HB.out.cell (World.block_lt_of_cell? w _ hw216_2)).trans hw216_2), ((HB.out.cell (World.block_lt_of_cell? w _ hw216_3)).trans hw216_3)⟩ (fun hHeld => ?_); refine with_tabW amalgamlaw05_TextBack.tab22 amalgamlaw05_TextBack.bits22 (fun HT_ HW_ => ?_)
                              generalize wr.drew = w118 at HO_197002 BK183 BK196 HB HR216_3 hx216_0 hx216_1 hx216_2 hx216_3 hHeld ⊢
                              refine pure_ (i := 0) (N := some 126) (v := ?_) (a' := ?_) #[true, false, false, false, false, false, false, false, false, false, false, false, false, false] rfl rfl (any_of HT_.out (by kernel_rfl)) (fun _ _ _ h => h) (Or.inl ⟨by rfl, ?_⟩) ?_ ?_
                              rotate_left
                              · intro w'
                                go_simp
                                first | (with_reducible rfl) | (rw [if_neg (by simp only [decide_eq_true_eq, ByteArray.size_append] at *; omega)])
                              rotate_left
                              · simp only [Act.put, List.setIfInBounds_toArray, List.set_cons_zero, List.set_cons_succ, i64_w, i32_w]
                                rfl
                              refine pure_ (i := 1) (N := some 127) (v := ?_) (a' := ?_) #[true, true, false, false, false, false, false, false, false, false, false, false, false, false] rfl rfl (any_of HT_.out (by kernel_rfl)) (fun _ _ _ h => h) (Or.inl ⟨by rfl, ?_⟩) ?_ ?_
                              rotate_left
                              · intro w'
                                go_simp
                                first | (with_reducible rfl) | (rw [if_neg (by simp only [decide_eq_true_eq, ByteArray.size_append] at *; omega)])
                              rotate_left
                              · simp only [Act.put, List.setIfInBounds_toArray, List.set_cons_zero, List.set_cons_succ, i64_w, i32_w]
                                rfl
                              refine pure_ (i := 2) (N := some 128) (v := ?_) (a' := ?_) #[true, true, true, false, false, false, false, false, false, false, false, false, false, false] rfl rfl (any_of HT_.out (by kernel_rfl)) (fun _ _ _ h => h) (Or.inl ⟨by rfl, ?_⟩) ?_ ?_
                              rotate_left
                              · intro w'
                                go_simp
                                first | (with_reducible rfl) | (rw [if_neg (by simp only [decide_eq_true_eq, ByteArray.size_append] at *; omega)])
                              rotate_left
                              · simp only [Act.put, List.setIfInBounds_toArray, List.set_cons_zero, List.set_cons_succ, i64_w, i32_w]
                                rfl
                              refine pure_ (i := 3) (N := some 129) (v := ?_) (a' := ?_) #[true, true, true, true, false, false, false, false, false, false, false, false, false, false] rfl rfl (any_of HT_.out (by kernel_rfl)) (fun _ _ _ h => h) (Or.inl ⟨by rfl, ?_⟩) ?_ ?_
                              rotate_left
                              · intro w'
                                go_simp
                                first | (with_reducible rfl) | (rw [if_neg (by simp only [decide_eq_true_eq, ByteArray.size_append] at *; omega)])
                              rotate_left
                              · simp only [Act.put, List.setIfInBounds_toArray, List.set_cons_zero, List.set_cons_succ, i64_w, i32_w]
                                rfl
                              refine pure_ (i := 5) (N := some 131) (v := ?_) (a' := ?_) #[true, true, true, true, false, true, false, false, false, false, false, false, false, false] rfl rfl (any_of HT_.out (by kernel_rfl)) (fun _ _ _ h => h) (Or.inl ⟨by rfl, ?_⟩) ?_ ?_
                              rotate_left
                              · intro w'
                                go_simp
                                first | (with_reducible rfl) | (rw [if_neg (by simp only [decide_eq_true_eq, ByteArray.size_append] at *; omega)])
                              rotate_left
                              · simp only [Act.put, List.setIfInBounds_toArray, List.set_cons_zero, List.set_cons_succ, i64_w, i32_w]
                                rfl
                              refine pure_ (i := 7) (N := some 133) (v := ?_) (a' := ?_) #[true, true, true, true, false, true, false, true, false, false, false, false, false, false] rfl rfl (any_of HT_.out (by kernel_rfl)) (fun _ _ _ h => h) (Or.inl ⟨by rfl, ?_⟩) ?_ ?_
                              rotate_left
                              · intro w'
                                go_simp
                                first | (with_reducible rfl) | (rw [if_neg (by simp only [decide_eq_true_eq, ByteArray.size_append] at *; omega)])
                              rotate_left
                              · simp only [Act.put, List.setIfInBounds_toArray, List.set_cons_zero, List.set_cons_succ, i64_w, i32_w]
                                rfl
                              refine take_ (i := 4) (N := some 130) (v := ?_) (a' := ?_) #[true, true, true, true, true, true, false, true, false, false, false, false, false, false] rfl rfl (take_ofW HT_.out HW_.out (by kernel_rfl)) (fun _ _ _ h => h) (Or.inl ⟨by rfl, ?_⟩) hHeld ?_ ?_
                              rotate_left
                              · rintro w' ⟨s0, s1, s2, s3, s4, s5, s6, s7, s8, s9, s10, s11⟩
                                go_simp
                                first | (with_reducible rfl) | (rw [if_neg (by simp only [decide_eq_true_eq, ByteArray.size_append] at *; omega)])
                              rotate_left
                              · simp only [Act.put, List.setIfInBounds_toArray, List.set_cons_zero, List.set_cons_succ, i64_w, i32_w]
                                rfl
                              refine take_ (i := 6) (N := some 132) (v := ?_) (a' := ?_) #[true, true, true, true, true, true, true, true, false, false, false, false, false, false] rfl rfl (take_ofW HT_.out HW_.out (by kernel_rfl)) (fun _ _ _ h => h) (Or.inl ⟨by rfl, ?_⟩) hHeld ?_ ?_
                              rotate_left
                              · rintro w' ⟨s0, s1, s2, s3, s4, s5, s6, s7, s8, s9, s10, s11⟩
                                go_simp
                                first | (with_reducible rfl) | (rw [if_neg (by simp only [decide_eq_true_eq, ByteArray.size_append] at *; omega)])
                              rotate_left
                              · simp only [Act.put, List.setIfInBounds_toArray, List.set_cons_zero, List.set_cons_succ, i64_w, i32_w]
                                rfl
                              refine pure_ (i := 8) (N := some 134) (v := ?_) (a' := ?_) #[true, true, true, true, true, true, true, true, true, false, false, false, false, false] rfl rfl (any_of HT_.out (by kernel_rfl)) (fun _ _ _ h => h) (Or.inl ⟨by rfl, ?_⟩) ?_ ?_
                              rotate_left
                              · intro w'
                                go_simp
                                first | (with_reducible rfl) | (rw [if_neg (by simp only [decide_eq_true_eq, ByteArray.size_append] at *; omega)])
                              rotate_left
                              · simp only [Act.put, List.setIfInBounds_toArray, List.set_cons_zero, List.set_cons_succ, i64_w, i32_w]
                                rfl
                              refine pure_ (i := 9) (N := some 135) (v := ?_) (a' := ?_) #[true, true, true, true, true, true, true, true, true, true, false, false, false, false] rfl rfl (any_of HT_.out (by kernel_rfl)) (fun _ _ _ h => h) (Or.inl ⟨by rfl, ?_⟩) ?_ ?_
                              rotate_left
                              · intro w'
                                go_simp
                                first | (with_reducible rfl) | (rw [if_neg (by simp only [decide_eq_true_eq, ByteArray.size_append] at *; omega)])
                              rotate_left
                              · simp only [Act.put, List.setIfInBounds_toArray, List.set_cons_zero, List.set_cons_succ, i64_w, i32_w]
                                rfl
                              refine take_ (i := 10) (N := some 136) (v := ?_) (a' := ?_) #[true, true, true, true, true, true, true, true, true, true, true, false, false, false] rfl rfl (take_ofW HT_.out HW_.out (by kernel_rfl)) (fun _ _ _ h => h) (Or.inl ⟨by rfl, ?_⟩) hHeld ?_ ?_
                              rotate_left
                              · rintro w' ⟨s0, s1, s2, s3, s4, s5, s6, s7, s8, s9, s10, s11⟩
                                go_simp
                                first | (with_reducible rfl) | (rw [if_neg (by simp only [decide_eq_true_eq, ByteArray.size_append] at *; omega)])
                              rotate_left
                              · simp only [Act.put, List.setIfInBounds_toArray, List.set_cons_zero, List.set_cons_succ, i64_w, i32_w]
                                rfl
                              refine one_ (i := 11) (N := some 137) #[true, true, true, true, true, true, true, true, true, true, true, true, false, false] rfl rfl (one_of HT_.out (by kernel_rfl)) (by decide) (fun K hK => ?_)
                              refine goes_ Try.func11 (by kernel_rfl) rfl #[.slice A0_0 l0_0.length c0_0, .agg #[.string ((rd_T46 l0_7 x17_4).f1.f0), .int .i64 ((rd_T46 l0_7 x17_4).f1.f1), .slice A216_3 ((rd_T46 l0_7 x17_4).f1.f2).length c216_3]] (by rfl) rfl rfl (by (try simp only [List.map_toArray, List.map_cons, List.map_nil]); first | done | rfl | (simp only [List.length_drop, List.length_take]; rfl)) ?_
                              with_reducible refine (amalgamref03_Check.calls k4 _ _ l0_0 ((rd_T46 l0_7 x17_4).f1.f0) ((rd_T46 l0_7 x17_4).f1.f1) _ _ ((rd_T46 l0_7 x17_4).f1.f2) t217 _ ?side1 ?side2 ?side3 ?side4 A110.out).mono ?_
                              (case side1 => repeat (first | exact (Kd.C_below HR0_0.out HB.out) | (with_reducible refine Kd.C_alloc ?_ _) | (with_reducible refine Kd.C_drewN ?_ _) | (with_reducible refine Kd.C_drew ?_)))
                              (case side2 => exact HC0_0.out)
                              (case side3 => repeat (first | exact (Kd.C_below HR216_3.out HB.out) | (with_reducible refine Kd.C_alloc ?_ _) | (with_reducible refine Kd.C_drewN ?_ _) | (with_reducible refine Kd.C_drew ?_)))
                              (case side4 => exact HC216_3.out)
                              rintro e w119 ⟨rfl, hb⟩
                              refine ⟨_, rfl, ?_⟩
                              have n0_ := Aside0.mk (Kd.R_below (by (with_reducible repeat (first | apply Kd.R_alloc | apply Kd.R_drewN | apply Kd.R_drew)); exact HO_197002.out) hb)
                              have n1_ := Aside0.mk (blk_below (g := gb183) (o := .cells #[.slice A0_0 l0_0.length c0_0, .string a0_1, .int .i64 a0_2, .slice A0_3 l0_3.length c0_3, .string a0_4, .int .i64 a0_5, .slice A0_6 l0_6.length c0_6, .slice (some ad214) l0_7.length c0_7] 36 (0, 0)) (by (with_reducible repeat (first | refine blk_drewN ?_ _ | refine blk_drew ?_ | refine blk_alloc ?_ _)); exact BK183.out) hb)
                              have n2_ := Aside0.mk (blk_below (g := gb196) (o := .cells #[.string t189, .int .i64 t190, .slice Ao30 t191.length co30] 27 (0, 0)) (by (with_reducible repeat (first | refine blk_drewN ?_ _ | refine blk_drew ?_ | refine blk_alloc ?_ _)); exact BK196.out) hb)
                              have n3_ := Aside0.mk (below_step (by repeat (first | (with_reducible first | exact HB.out | apply below_alloc | apply pw_below_drewN | apply below_drew1 | refine below_set ?_ GE183.out | refine below_set ?_ GE196.out) | exact HB.out)) hb)
                              clear HO_197002
                              clear BK183
                              clear BK196
                              clear HB
                              have HO_197002 := n0_
                              have BK183 := n1_
                              have BK196 := n2_
                              have HB := n3_
                              clear n0_ n1_ n2_ n3_
                              (try clear hb)
                              (try clear hb2)
                              (try clear hk)
                              (try clear hi)
                              refine hK.out _ _ ⟨(blk_cell BK183.out 0).trans rfl, (blk_cell BK183.out 1).trans rfl, (blk_cell BK183.out 2).trans rfl, (blk_cell BK183.out 3).trans rfl, (blk_cell BK183.out 4).trans rfl, (blk_cell BK183.out 5).trans rfl, (blk_cell BK183.out 6).trans rfl, (blk_cell BK183.out 7).trans rfl, ((HB.out.cell (World.block_lt_of_cell? w _ hw216_0)).trans hw216_0), ((HB.out.cell (World.block_lt_of_cell? w _ hw216_1)).trans hw216_1), ((HB.out.cell (World.block_lt_of_cell? w _ hw216_2)).trans hw216_2), ((HB.out.cell (World.block_lt_of_cell? w _ hw216_3)).trans hw216_3)⟩ (fun hHeld => ?_)
                              clear hK K
                              refine norm_ (a' := ?_) ?_ ?_
                              rotate_left
                              · show Act.put _ (some 137) _ = _
                                simp only [Act.put, List.setIfInBounds_toArray, List.set_cons_zero, List.set_cons_succ, i64_w, i32_w]
                                rfl
                              refine pure_ (i := 12) (N := some 138) (v := ?_) (a' := ?_) #[true, true, true, true, true, true, true, true, true, true, true, true, true, false] rfl rfl (any_of HT_.out (by kernel_rfl)) (fun _ _ _ h => h) (Or.inl ⟨by rfl, ?_⟩) ?_ ?_
                              rotate_left
                              · intro w'
                                go_simp
                                first | (with_reducible rfl) | (rw [if_neg (by simp only [decide_eq_true_eq, ByteArray.size_append] at *; omega)])
                              rotate_left
                              · simp only [Act.put, List.setIfInBounds_toArray, List.set_cons_zero, List.set_cons_succ, i64_w, i32_w]
                                rfl
                              refine pure_ (i := 13) (N := some 139) (v := ?_) (a' := ?_) #[true, true, true, true, true, true, true, true, true, true, true, true, true, true] rfl rfl (any_of HT_.out (by kernel_rfl)) (fun _ _ _ h => h) (Or.inl ⟨by rfl, ?_⟩) ?_ ?_
                              rotate_left
                              · intro w'
                                go_simp
                                first | (with_reducible rfl) | (rw [if_neg (by simp only [decide_eq_true_eq, ByteArray.size_append] at *; omega)])
                              rotate_left
                              · simp only [Act.put, List.setIfInBounds_toArray, List.set_cons_zero, List.set_cons_succ, i64_w, i32_w]
                                rfl
                              refine done_ (done_of HT_.out (by kernel_rfl)) ?_
                              try go_wp2
                              go_ret
                              exact ⟨by first | rfl | (simp [errW_none, errW_some] <;> rfl) | (simp [*, errW_none, errW_some] <;> rfl), by repeat (first | (with_reducible first | exact HB.out | apply below_alloc | apply pw_below_drewN | apply below_drew1 | refine below_set ?_ GE183.out | refine below_set ?_ GE196.out) | exact HB.out)⟩
                          · replace c109 := Bool.eq_false_iff.mpr c109
                            subst c109
                            have H1 : (some true) = some r := by rw [if_neg (show ¬ (false = true) by decide)] at H; exact H
                            clear H
                            have H := H1
                            clear H1
                            obtain rfl := Option.some.inj H
                            have hnb120 := NB183_196.out
                            have hnc120 := NB196_183.out
                            have hcz121_0 : wr.cell? ⟨gb183, 0, none⟩ = some (.slice A0_0 l0_0.length c0_0) := (blk_cell BK183.out 0).trans rfl
                            have hcz121_1 : wr.cell? ⟨gb183, 1, none⟩ = some (.string a0_1) := (blk_cell BK183.out 1).trans rfl
                            have hcz121_2 : wr.cell? ⟨gb183, 2, none⟩ = some (.int .i64 a0_2) := (blk_cell BK183.out 2).trans rfl
                            have hcz121_3 : wr.cell? ⟨gb183, 3, none⟩ = some (.slice A0_3 l0_3.length c0_3) := (blk_cell BK183.out 3).trans rfl
                            have hcz121_4 : wr.cell? ⟨gb183, 4, none⟩ = some (.string a0_4) := (blk_cell BK183.out 4).trans rfl
                            have hcz121_5 : wr.cell? ⟨gb183, 5, none⟩ = some (.int .i64 a0_5) := (blk_cell BK183.out 5).trans rfl
                            have hcz121_6 : wr.cell? ⟨gb183, 6, none⟩ = some (.slice A0_6 l0_6.length c0_6) := (blk_cell BK183.out 6).trans rfl
                            have hcz121_7 : wr.cell? ⟨gb183, 7, none⟩ = some (.slice A0_7 l0_7.length c0_7) := (blk_cell BK183.out 7).trans rfl
                            have hfz121_0 := blk_frozen BK183.out 0
                            have hfz121_1 := blk_frozen BK183.out 1
                            have hfz121_2 := blk_frozen BK183.out 2
                            have hfz121_3 := blk_frozen BK183.out 3
                            have hfz121_4 := blk_frozen BK183.out 4
                            have hfz121_5 := blk_frozen BK183.out 5
                            have hfz121_6 := blk_frozen BK183.out 6
                            have hfz121_7 := blk_frozen BK183.out 7
                            have p214 : 0 ≤ (x17_4 : Int) := of_decide_eq_true (by first | (with_reducible assumption) | assumption)
                            have q214 : x17_4 < (l0_7.length : Int) := of_decide_eq_true (by first | (with_reducible assumption) | assumption)
                            obtain ⟨ad214, A214_3, c214_3, e214, hx214_0, hx214_1, hx214_2, hx214_3, hl214_3, hi214_3⟩ := at_T46 HR0_7.out x17_4 p214 q214
                            cases e214
                            replace hx214_0 := (HB.out.cell (World.block_lt_of_cell? w _ hx214_0)).trans hx214_0
                            replace hx214_1 := (HB.out.cell (World.block_lt_of_cell? w _ hx214_1)).trans hx214_1
                            replace hx214_2 := (HB.out.cell (World.block_lt_of_cell? w _ hx214_2)).trans hx214_2
                            replace hx214_3 := (HB.out.cell (World.block_lt_of_cell? w _ hx214_3)).trans hx214_3
                            have HR214_3 := Aside0.mk hi214_3
                            have HC214_3 := Aside0.mk hl214_3
                            clear hi214_3 hl214_3
                            replace p214 := eq_true p214
                            replace q214 := eq_true q214
                            try go_wp2_with (first | ((with_reducible refine gate_callee (f := 14) rfl ?_); refine goesL_ (some 125) rfl rfl Try.func14 (by kernel_rfl) rfl #[.string ((rd_T46 l0_7 x17_4).f0)] rfl (by (try simp only [List.map_toArray, List.map_cons, List.map_nil]); first | done | rfl | (simp only [List.length_drop, List.length_take]; rfl)) ?_; (with_reducible refine (amalgamref01_Var.calls k4 ((rd_T46 l0_7 x17_4).f0) false _ A108.out).mono ?_); rintro e w' ⟨rfl, ⟨nd, rfl⟩⟩; refine ⟨_, rfl, ?_⟩))
                            (try (rw [drewN_self wr]; generalize hq_ : World.drewN wr _ = wr; have n0_ : Aside0 (Kd.R k27 27 wr w.heap.size (fun k_ => k_ ≠ gb196) (.slice Ao30 t191.length co30) t191) := ⟨by rw [← hq_]; exact (by (with_reducible repeat (first | apply Kd.R_alloc | apply Kd.R_drewN | apply Kd.R_drew)); exact HO_197002.out)⟩; have n1_ : Aside0 (wr.heap[gb183]? = some (.cells #[.slice A0_0 l0_0.length c0_0, .string a0_1, .int .i64 a0_2, .slice A0_3 l0_3.length c0_3, .string a0_4, .int .i64 a0_5, .slice A0_6 l0_6.length c0_6, .slice (some ad214) l0_7.length c0_7] 36 (0, 0))) := ⟨by rw [← hq_]; exact (by (with_reducible repeat (first | refine blk_drewN ?_ _ | refine blk_drew ?_ | refine blk_alloc ?_ _)); exact BK183.out)⟩; have n2_ : Aside0 (wr.heap[gb196]? = some (.cells #[.string t189, .int .i64 t190, .slice Ao30 t191.length co30] 27 (0, 0))) := ⟨by rw [← hq_]; exact (by (with_reducible repeat (first | refine blk_drewN ?_ _ | refine blk_drew ?_ | refine blk_alloc ?_ _)); exact BK196.out)⟩; have n3_ : Aside0 (Below w.heap.size w wr) := ⟨by rw [← hq_]; exact (by repeat (first | (with_reducible first | exact HB.out | apply below_alloc | apply pw_below_drewN | apply below_drew1 | refine below_set ?_ GE183.out | refine below_set ?_ GE196.out) | exact HB.out))⟩; clear HO_197002 BK183 BK196 HB hq_; have HO_197002 := n0_; have BK183 := n1_; have BK196 := n2_; have HB := n3_; clear n0_ n1_ n2_ n3_))
                            have n0_ := Aside0.mk (Kd.R_drew HO_197002.out)
                            have n1_ := Aside0.mk (blk_drew BK183.out)
                            have n2_ := Aside0.mk (blk_drew BK196.out)
                            have n3_ := Aside0.mk (below_drew1 HB.out)
                            clear HO_197002
                            clear BK183
                            clear BK196
                            clear HB
                            have HO_197002 := n0_
                            have BK183 := n1_
                            have BK196 := n2_
                            have HB := n3_
                            clear n0_ n1_ n2_ n3_
                            refine start_ (n := 14) (S := fun w' => True) (ds := []) #[false, false, false, false, false, false, false, false, false, false, false, false, false, false] (by kernel_rfl) rfl rfl trivial (fun hHeld => ?_); refine with_tabW amalgamlaw05_TextBack.tab22 amalgamlaw05_TextBack.bits22 (fun HT_ HW_ => ?_)
                            generalize wr.drew = w122 at HO_197002 BK183 BK196 HB hHeld ⊢
                            refine pure_ (i := 0) (N := some 126) (v := ?_) (a' := ?_) #[true, false, false, false, false, false, false, false, false, false, false, false, false, false] rfl rfl (any_of HT_.out (by kernel_rfl)) (fun _ _ _ h => h) (Or.inl ⟨by rfl, ?_⟩) ?_ ?_
                            rotate_left
                            · intro w'
                              go_simp
                              first | (with_reducible rfl) | (rw [if_neg (by simp only [decide_eq_true_eq, ByteArray.size_append] at *; omega)])
                            rotate_left
                            · simp only [Act.put, List.setIfInBounds_toArray, List.set_cons_zero, List.set_cons_succ, i64_w, i32_w]
                              rfl
                            refine pure_ (i := 1) (N := some 127) (v := ?_) (a' := ?_) #[true, true, false, false, false, false, false, false, false, false, false, false, false, false] rfl rfl (any_of HT_.out (by kernel_rfl)) (fun _ _ _ h => h) (Or.inl ⟨by rfl, ?_⟩) ?_ ?_
                            rotate_left
                            · intro w'
                              go_simp
                              first | (with_reducible rfl) | (rw [if_neg (by simp only [decide_eq_true_eq, ByteArray.size_append] at *; omega)])
                            rotate_left
                            · simp only [Act.put, List.setIfInBounds_toArray, List.set_cons_zero, List.set_cons_succ, i64_w, i32_w]
                              rfl
                            refine pure_ (i := 2) (N := some 128) (v := ?_) (a' := ?_) #[true, true, true, false, false, false, false, false, false, false, false, false, false, false] rfl rfl (any_of HT_.out (by kernel_rfl)) (fun _ _ _ h => h) (Or.inl ⟨by rfl, ?_⟩) ?_ ?_
                            rotate_left
                            · intro w'
                              go_simp
                              first | (with_reducible rfl) | (rw [if_neg (by simp only [decide_eq_true_eq, ByteArray.size_append] at *; omega)])
                            rotate_left
                            · simp only [Act.put, List.setIfInBounds_toArray, List.set_cons_zero, List.set_cons_succ, i64_w, i32_w]
                              rfl
                            refine pure_ (i := 3) (N := some 129) (v := undef) (a' := ?_) #[true, true, true, true, false, false, false, false, false, false, false, false, false, false] rfl rfl (any_of HT_.out (by kernel_rfl)) (fun _ _ _ h => h) (Or.inr ⟨by rfl, rfl⟩) ?_ ?_
                            rotate_left
                            · simp only [Act.put, List.setIfInBounds_toArray, List.set_cons_zero, List.set_cons_succ, i64_w, i32_w]
                              rfl
                            refine pure_ (i := 4) (N := some 130) (v := undef) (a' := ?_) #[true, true, true, true, true, false, false, false, false, false, false, false, false, false] rfl rfl (any_of HT_.out (by kernel_rfl)) (fun _ _ _ h => h) (Or.inr ⟨by rfl, rfl⟩) ?_ ?_
                            rotate_left
                            · simp only [Act.put, List.setIfInBounds_toArray, List.set_cons_zero, List.set_cons_succ, i64_w, i32_w]
                              rfl
                            refine pure_ (i := 5) (N := some 131) (v := undef) (a' := ?_) #[true, true, true, true, true, true, false, false, false, false, false, false, false, false] rfl rfl (any_of HT_.out (by kernel_rfl)) (fun _ _ _ h => h) (Or.inr ⟨by rfl, rfl⟩) ?_ ?_
                            rotate_left
                            · simp only [Act.put, List.setIfInBounds_toArray, List.set_cons_zero, List.set_cons_succ, i64_w, i32_w]
                              rfl
                            refine pure_ (i := 6) (N := some 132) (v := undef) (a' := ?_) #[true, true, true, true, true, true, true, false, false, false, false, false, false, false] rfl rfl (any_of HT_.out (by kernel_rfl)) (fun _ _ _ h => h) (Or.inr ⟨by rfl, rfl⟩) ?_ ?_
                            rotate_left
                            · simp only [Act.put, List.setIfInBounds_toArray, List.set_cons_zero, List.set_cons_succ, i64_w, i32_w]
                              rfl
                            refine pure_ (i := 7) (N := some 133) (v := undef) (a' := ?_) #[true, true, true, true, true, true, true, true, false, false, false, false, false, false] rfl rfl (any_of HT_.out (by kernel_rfl)) (fun _ _ _ h => h) (Or.inr ⟨by rfl, rfl⟩) ?_ ?_
                            rotate_left
                            · simp only [Act.put, List.setIfInBounds_toArray, List.set_cons_zero, List.set_cons_succ, i64_w, i32_w]
                              rfl
                            refine pure_ (i := 8) (N := some 134) (v := undef) (a' := ?_) #[true, true, true, true, true, true, true, true, true, false, false, false, false, false] rfl rfl (any_of HT_.out (by kernel_rfl)) (fun _ _ _ h => h) (Or.inr ⟨by rfl, rfl⟩) ?_ ?_
                            rotate_left
                            · simp only [Act.put, List.setIfInBounds_toArray, List.set_cons_zero, List.set_cons_succ, i64_w, i32_w]
                              rfl
                            refine pure_ (i := 9) (N := some 135) (v := undef) (a' := ?_) #[true, true, true, true, true, true, true, true, true, true, false, false, false, false] rfl rfl (any_of HT_.out (by kernel_rfl)) (fun _ _ _ h => h) (Or.inr ⟨by rfl, rfl⟩) ?_ ?_
                            rotate_left
                            · simp only [Act.put, List.setIfInBounds_toArray, List.set_cons_zero, List.set_cons_succ, i64_w, i32_w]
                              rfl
                            refine pure_ (i := 10) (N := some 136) (v := undef) (a' := ?_) #[true, true, true, true, true, true, true, true, true, true, true, false, false, false] rfl rfl (any_of HT_.out (by kernel_rfl)) (fun _ _ _ h => h) (Or.inr ⟨by rfl, rfl⟩) ?_ ?_
                            rotate_left
                            · simp only [Act.put, List.setIfInBounds_toArray, List.set_cons_zero, List.set_cons_succ, i64_w, i32_w]
                              rfl
                            refine pure_ (i := 11) (N := some 137) (v := undef) (a' := ?_) #[true, true, true, true, true, true, true, true, true, true, true, true, false, false] rfl rfl (any_of HT_.out (by kernel_rfl)) (fun _ _ _ h => h) (Or.inr ⟨by rfl, rfl⟩) ?_ ?_
                            rotate_left
                            · simp only [Act.put, List.setIfInBounds_toArray, List.set_cons_zero, List.set_cons_succ, i64_w, i32_w]
                              rfl
                            refine pure_ (i := 12) (N := some 138) (v := undef) (a' := ?_) #[true, true, true, true, true, true, true, true, true, true, true, true, true, false] rfl rfl (any_of HT_.out (by kernel_rfl)) (fun _ _ _ h => h) (Or.inr ⟨by rfl, rfl⟩) ?_ ?_
                            rotate_left
                            · simp only [Act.put, List.setIfInBounds_toArray, List.set_cons_zero, List.set_cons_succ, i64_w, i32_w]
                              rfl
                            refine pure_ (i := 13) (N := some 139) (v := ?_) (a' := ?_) #[true, true, true, true, true, true, true, true, true, true, true, true, true, true] rfl rfl (any_of HT_.out (by kernel_rfl)) (fun _ _ _ h => h) (Or.inl ⟨by rfl, ?_⟩) ?_ ?_
                            rotate_left
                            · intro w'
                              go_simp
                              first | (with_reducible rfl) | (rw [if_neg (by simp only [decide_eq_true_eq, ByteArray.size_append] at *; omega)])
                            rotate_left
                            · simp only [Act.put, List.setIfInBounds_toArray, List.set_cons_zero, List.set_cons_succ, i64_w, i32_w]
                              rfl
                            refine done_ (done_of HT_.out (by kernel_rfl)) ?_
                            try go_wp2
                            go_ret
                            exact ⟨by first | rfl | (simp [errW_none, errW_some] <;> rfl) | (simp [*, errW_none, errW_some] <;> rfl), by repeat (first | (with_reducible first | exact HB.out | apply below_alloc | apply pw_below_drewN | apply below_drew1 | refine below_set ?_ GE183.out | refine below_set ?_ GE196.out) | exact HB.out)⟩
                        · rw [if_neg c107] at H
                          exact absurd H (by simp)
                      · rw [if_neg c106] at H
                        have c106b0 : decide (x17_4 < (l0_7.length : Int)) = false := decide_eq_false c106
                        clear c106
                        replace H := Option.bind_eq_some_iff.mp H
                        obtain ⟨t218, A1230, H⟩ := H
                        replace H : (if (t218.size : Int) > 800 then (some true) else ((text_Binds.f k4 l0_0 t218).bind fun bt219 => (if bt219.2.1 = 0 then ((amalgamlaw05_same.f k4 bt219.1 l0_7).bind fun t224 => (some t224)) else (some false)))) = some r := H
                        have A123 := Aside0.mk A1230
                        clear A1230
                        by_cases c124 : (t218.size : Int) > 800
                        · rw [if_pos c124] at H
                          have c124b0 : decide (800 < (t218.size : Int)) = true := decide_eq_true c124
                          have c124b1 : decide (800 < t218.size) = true := decide_eq_true (by omega)
                          clear c124
                          obtain rfl := Option.some.inj H
                          have hnb125 := NB183_196.out
                          have hnc125 := NB196_183.out
                          have hcz126_0 : wr.cell? ⟨gb183, 0, none⟩ = some (.slice A0_0 l0_0.length c0_0) := (blk_cell BK183.out 0).trans rfl
                          have hcz126_1 : wr.cell? ⟨gb183, 1, none⟩ = some (.string a0_1) := (blk_cell BK183.out 1).trans rfl
                          have hcz126_2 : wr.cell? ⟨gb183, 2, none⟩ = some (.int .i64 a0_2) := (blk_cell BK183.out 2).trans rfl
                          have hcz126_3 : wr.cell? ⟨gb183, 3, none⟩ = some (.slice A0_3 l0_3.length c0_3) := (blk_cell BK183.out 3).trans rfl
                          have hcz126_4 : wr.cell? ⟨gb183, 4, none⟩ = some (.string a0_4) := (blk_cell BK183.out 4).trans rfl
                          have hcz126_5 : wr.cell? ⟨gb183, 5, none⟩ = some (.int .i64 a0_5) := (blk_cell BK183.out 5).trans rfl
                          have hcz126_6 : wr.cell? ⟨gb183, 6, none⟩ = some (.slice A0_6 l0_6.length c0_6) := (blk_cell BK183.out 6).trans rfl
                          have hcz126_7 : wr.cell? ⟨gb183, 7, none⟩ = some (.slice A0_7 l0_7.length c0_7) := (blk_cell BK183.out 7).trans rfl
                          have hfz126_0 := blk_frozen BK183.out 0
                          have hfz126_1 := blk_frozen BK183.out 1
                          have hfz126_2 := blk_frozen BK183.out 2
                          have hfz126_3 := blk_frozen BK183.out 3
                          have hfz126_4 := blk_frozen BK183.out 4
                          have hfz126_5 := blk_frozen BK183.out 5
                          have hfz126_6 := blk_frozen BK183.out 6
                          have hfz126_7 := blk_frozen BK183.out 7
                          go_wp2_with (first | ((with_reducible refine gate_callee (f := 15) rfl ?_); refine goesL_ (some 144) rfl rfl Try.func15 (by kernel_rfl) rfl #[.slice A0_0 l0_0.length c0_0, .slice A0_7 l0_7.length c0_7] rfl (by (try simp only [List.map_toArray, List.map_cons, List.map_nil]); first | done | rfl | (simp only [List.length_drop, List.length_take]; rfl)) ?_; (with_reducible refine (text_ShowBinds.calls k4 _ _ l0_0 _ _ l0_7 t218 _ ?side1 ?side2 ?side3 ?side4 A123.out).mono ?_); (case side1 => repeat (first | exact (Kd.C_below HR0_0.out HB.out) | (with_reducible refine Kd.C_alloc ?_ _) | (with_reducible refine Kd.C_drewN ?_ _) | (with_reducible refine Kd.C_drew ?_))); (case side2 => exact HC0_0.out); (case side3 => repeat (first | exact (Kd.C_below HR0_7.out HB.out) | (with_reducible refine Kd.C_alloc ?_ _) | (with_reducible refine Kd.C_drewN ?_ _) | (with_reducible refine Kd.C_drew ?_))); (case side4 => exact HC0_7.out); rintro e w127 ⟨rfl, hb⟩; refine ⟨_, rfl, ?_⟩; have n0_ := Aside0.mk (Kd.R_below (by (with_reducible repeat (first | apply Kd.R_alloc | apply Kd.R_drewN | apply Kd.R_drew)); exact HO_197002.out) hb); have n1_ := Aside0.mk (blk_below (g := gb183) (o := .cells #[.slice A0_0 l0_0.length c0_0, .string a0_1, .int .i64 a0_2, .slice A0_3 l0_3.length c0_3, .string a0_4, .int .i64 a0_5, .slice A0_6 l0_6.length c0_6, .slice A0_7 l0_7.length c0_7] 36 (0, 0)) (by (with_reducible repeat (first | refine blk_drewN ?_ _ | refine blk_drew ?_ | refine blk_alloc ?_ _)); exact BK183.out) hb); have n2_ := Aside0.mk (blk_below (g := gb196) (o := .cells #[.string t189, .int .i64 t190, .slice Ao30 t191.length co30] 27 (0, 0)) (by (with_reducible repeat (first | refine blk_drewN ?_ _ | refine blk_drew ?_ | refine blk_alloc ?_ _)); exact BK196.out) hb); have n3_ := Aside0.mk (below_step (by repeat (first | (with_reducible first | exact HB.out | apply below_alloc | apply pw_below_drewN | apply below_drew1 | refine below_set ?_ GE183.out | refine below_set ?_ GE196.out) | exact HB.out)) hb); clear HO_197002; clear BK183; clear BK196; clear HB; have HO_197002 := n0_; have BK183 := n1_; have BK196 := n2_; have HB := n3_; clear n0_ n1_ n2_ n3_; (try clear hb); (try clear hb2); (try clear hk); (try clear hi)))
                          go_ret
                          exact ⟨by first | rfl | (simp [errW_none, errW_some] <;> rfl) | (simp [*, errW_none, errW_some] <;> rfl), by repeat (first | (with_reducible first | exact HB.out | apply below_alloc | apply pw_below_drewN | apply below_drew1 | refine below_set ?_ GE183.out | refine below_set ?_ GE196.out) | exact HB.out)⟩
                        · rw [if_neg c124] at H
                          have c124b0 : decide (800 < (t218.size : Int)) = false := decide_eq_false c124
                          have c124b1 : decide (800 < t218.size) = false := decide_eq_false (by omega)
                          clear c124
                          replace H := Option.bind_eq_some_iff.mp H
                          obtain ⟨⟨t219, t220, t221⟩, A1280, H⟩ := H
                          replace H : (if t220 = 0 then ((amalgamlaw05_same.f k4 t219 l0_7).bind fun t224 => (some t224)) else (some false)) = some r := H
                          have A128 := Aside0.mk A1280
                          clear A1280
                          by_cases c129 : t220 = 0
                          · rw [if_pos c129] at H
                            have c129b0 : (t220 == 0) = true := beq_iff_eq.mpr c129
                            have c129b1 : (t220 != 0) = false := bne_eq_false_iff_eq.mpr c129
                            clear c129
                            replace H := Option.bind_eq_some_iff.mp H
                            obtain ⟨t224, A1300, H⟩ := H
                            replace H : (some t224) = some r := H
                            have A130 := Aside0.mk A1300
                            clear A1300
                            obtain rfl := Option.some.inj H
                            have hnb131 := NB183_196.out
                            have hnc131 := NB196_183.out
                            have hcz132_0 : wr.cell? ⟨gb183, 0, none⟩ = some (.slice A0_0 l0_0.length c0_0) := (blk_cell BK183.out 0).trans rfl
                            have hcz132_1 : wr.cell? ⟨gb183, 1, none⟩ = some (.string a0_1) := (blk_cell BK183.out 1).trans rfl
                            have hcz132_2 : wr.cell? ⟨gb183, 2, none⟩ = some (.int .i64 a0_2) := (blk_cell BK183.out 2).trans rfl
                            have hcz132_3 : wr.cell? ⟨gb183, 3, none⟩ = some (.slice A0_3 l0_3.length c0_3) := (blk_cell BK183.out 3).trans rfl
                            have hcz132_4 : wr.cell? ⟨gb183, 4, none⟩ = some (.string a0_4) := (blk_cell BK183.out 4).trans rfl
                            have hcz132_5 : wr.cell? ⟨gb183, 5, none⟩ = some (.int .i64 a0_5) := (blk_cell BK183.out 5).trans rfl
                            have hcz132_6 : wr.cell? ⟨gb183, 6, none⟩ = some (.slice A0_6 l0_6.length c0_6) := (blk_cell BK183.out 6).trans rfl
                            have hcz132_7 : wr.cell? ⟨gb183, 7, none⟩ = some (.slice A0_7 l0_7.length c0_7) := (blk_cell BK183.out 7).trans rfl
                            have hfz132_0 := blk_frozen BK183.out 0
                            have hfz132_1 := blk_frozen BK183.out 1
                            have hfz132_2 := blk_frozen BK183.out 2
                            have hfz132_3 := blk_frozen BK183.out 3
                            have hfz132_4 := blk_frozen BK183.out 4
                            have hfz132_5 := blk_frozen BK183.out 5
                            have hfz132_6 := blk_frozen BK183.out 6
                            have hfz132_7 := blk_frozen BK183.out 7
                            go_wp2_with (first | ((with_reducible refine gate_callee (f := 15) rfl ?_); refine goesL_ (some 144) rfl rfl Try.func15 (by kernel_rfl) rfl #[.slice A0_0 l0_0.length c0_0, .slice A0_7 l0_7.length c0_7] rfl (by (try simp only [List.map_toArray, List.map_cons, List.map_nil]); first | done | rfl | (simp only [List.length_drop, List.length_take]; rfl)) ?_; (with_reducible refine (text_ShowBinds.calls k4 _ _ l0_0 _ _ l0_7 t218 _ ?side1 ?side2 ?side3 ?side4 A123.out).mono ?_); (case side1 => repeat (first | exact (Kd.C_below HR0_0.out HB.out) | (with_reducible refine Kd.C_alloc ?_ _) | (with_reducible refine Kd.C_drewN ?_ _) | (with_reducible refine Kd.C_drew ?_))); (case side2 => exact HC0_0.out); (case side3 => repeat (first | exact (Kd.C_below HR0_7.out HB.out) | (with_reducible refine Kd.C_alloc ?_ _) | (with_reducible refine Kd.C_drewN ?_ _) | (with_reducible refine Kd.C_drew ?_))); (case side4 => exact HC0_7.out); rintro e w133 ⟨rfl, hb⟩; refine ⟨_, rfl, ?_⟩; have n0_ := Aside0.mk (Kd.R_below (by (with_reducible repeat (first | apply Kd.R_alloc | apply Kd.R_drewN | apply Kd.R_drew)); exact HO_197002.out) hb); have n1_ := Aside0.mk (blk_below (g := gb183) (o := .cells #[.slice A0_0 l0_0.length c0_0, .string a0_1, .int .i64 a0_2, .slice A0_3 l0_3.length c0_3, .string a0_4, .int .i64 a0_5, .slice A0_6 l0_6.length c0_6, .slice A0_7 l0_7.length c0_7] 36 (0, 0)) (by (with_reducible repeat (first | refine blk_drewN ?_ _ | refine blk_drew ?_ | refine blk_alloc ?_ _)); exact BK183.out) hb); have n2_ := Aside0.mk (blk_below (g := gb196) (o := .cells #[.string t189, .int .i64 t190, .slice Ao30 t191.length co30] 27 (0, 0)) (by (with_reducible repeat (first | refine blk_drewN ?_ _ | refine blk_drew ?_ | refine blk_alloc ?_ _)); exact BK196.out) hb); have n3_ := Aside0.mk (below_step (by repeat (first | (with_reducible first | exact HB.out | apply below_alloc | apply pw_below_drewN | apply below_drew1 | refine below_set ?_ GE183.out | refine below_set ?_ GE196.out) | exact HB.out)) hb); clear HO_197002; clear BK183; clear BK196; clear HB; have HO_197002 := n0_; have BK183 := n1_; have BK196 := n2_; have HB := n3_; clear n0_ n1_ n2_ n3_; (try clear hb); (try clear hb2); (try clear hk); (try clear hi); have hcz134_0 : w133.cell? ⟨gb183, 0, none⟩ = some (.slice A0_0 l0_0.length c0_0) := (blk_cell BK183.out 0).trans rfl; have hcz134_1 : w133.cell? ⟨gb183, 1, none⟩ = some (.string a0_1) := (blk_cell BK183.out 1).trans rfl; have hcz134_2 : w133.cell? ⟨gb183, 2, none⟩ = some (.int .i64 a0_2) := (blk_cell BK183.out 2).trans rfl; have hcz134_3 : w133.cell? ⟨gb183, 3, none⟩ = some (.slice A0_3 l0_3.length c0_3) := (blk_cell BK183.out 3).trans rfl; have hcz134_4 : w133.cell? ⟨gb183, 4, none⟩ = some (.string a0_4) := (blk_cell BK183.out 4).trans rfl; have hcz134_5 : w133.cell? ⟨gb183, 5, none⟩ = some (.int .i64 a0_5) := (blk_cell BK183.out 5).trans rfl; have hcz134_6 : w133.cell? ⟨gb183, 6, none⟩ = some (.slice A0_6 l0_6.length c0_6) := (blk_cell BK183.out 6).trans rfl; have hcz134_7 : w133.cell? ⟨gb183, 7, none⟩ = some (.slice A0_7 l0_7.length c0_7) := (blk_cell BK183.out 7).trans rfl; have hfz134_0 := blk_frozen BK183.out 0; have hfz134_1 := blk_frozen BK183.out 1; have hfz134_2 := blk_frozen BK183.out 2; have hfz134_3 := blk_frozen BK183.out 3; have hfz134_4 := blk_frozen BK183.out 4; have hfz134_5 := blk_frozen BK183.out 5; have hfz134_6 := blk_frozen BK183.out 6; have hfz134_7 := blk_frozen BK183.out 7) | ((with_reducible refine gate_callee (f := 16) rfl ?_); refine goesL_ (some 152) rfl rfl Try.func16 (by kernel_rfl) rfl #[.slice A0_0 l0_0.length c0_0, .string t218] rfl (by (try simp only [List.map_toArray, List.map_cons, List.map_nil]); first | done | rfl | (simp only [List.length_drop, List.length_take]; rfl)) ?_; (with_reducible refine (text_Binds.calls k4 _ _ l0_0 t218 t219 t220 t221 _ ?side1 ?side2 A128.out).mono ?_); (case side1 => repeat (first | exact (Kd.C_below HR0_0.out HB.out) | (with_reducible refine Kd.C_alloc ?_ _) | (with_reducible refine Kd.C_drewN ?_ _) | (with_reducible refine Kd.C_drew ?_))); (case side2 => exact HC0_0.out); rintro e w135 ⟨v222, rfl, ho0, hb⟩; refine ⟨_, rfl, ?_⟩; have n0_ := Aside0.mk (Kd.R_below (by (with_reducible repeat (first | apply Kd.R_alloc | apply Kd.R_drewN | apply Kd.R_drew)); exact HO_197002.out) hb); have n1_ := Aside0.mk (Kd.R_lower (Kd.R_newB (Kd.R_new' ho0 (Kd.R_lt (by (with_reducible repeat (first | apply Kd.R_alloc | apply Kd.R_drewN | apply Kd.R_drew)); exact HO_197002.out))) (g := gb196) (o := .cells #[.string t189, .int .i64 t190, .slice Ao30 t191.length co30] 27 (0, 0)) (by (with_reducible repeat (first | refine blk_drewN ?_ _ | refine blk_drew ?_ | refine blk_alloc ?_ _)); exact BK196.out)) (below_size (by repeat (first | (with_reducible first | exact HB.out | apply below_alloc | apply pw_below_drewN | apply below_drew1 | refine below_set ?_ GE183.out | refine below_set ?_ GE196.out) | exact HB.out)))); have n2_ := Aside0.mk (blk_below (g := gb183) (o := .cells #[.slice A0_0 l0_0.length c0_0, .string a0_1, .int .i64 a0_2, .slice A0_3 l0_3.length c0_3, .string a0_4, .int .i64 a0_5, .slice A0_6 l0_6.length c0_6, .slice A0_7 l0_7.length c0_7] 36 (0, 0)) (by (with_reducible repeat (first | refine blk_drewN ?_ _ | refine blk_drew ?_ | refine blk_alloc ?_ _)); exact BK183.out) hb); have n3_ := Aside0.mk (blk_below (g := gb196) (o := .cells #[.string t189, .int .i64 t190, .slice Ao30 t191.length co30] 27 (0, 0)) (by (with_reducible repeat (first | refine blk_drewN ?_ _ | refine blk_drew ?_ | refine blk_alloc ?_ _)); exact BK196.out) hb); have n4_ := Aside0.mk (below_step (by repeat (first | (with_reducible first | exact HB.out | apply below_alloc | apply pw_below_drewN | apply below_drew1 | refine below_set ?_ GE183.out | refine below_set ?_ GE196.out) | exact HB.out)) hb); clear HO_197002; clear BK183; clear BK196; clear HB; have HO_197002 := n0_; have HO223 := n1_; have BK183 := n2_; have BK196 := n3_; have HB := n4_; clear n0_ n1_ n2_ n3_ n4_; (try clear hb); (try clear hb2); (try clear hk); (try clear hi); (try clear ho0); have hcz136_0 : w135.cell? ⟨gb183, 0, none⟩ = some (.slice A0_0 l0_0.length c0_0) := (blk_cell BK183.out 0).trans rfl; have hcz136_1 : w135.cell? ⟨gb183, 1, none⟩ = some (.string a0_1) := (blk_cell BK183.out 1).trans rfl; have hcz136_2 : w135.cell? ⟨gb183, 2, none⟩ = some (.int .i64 a0_2) := (blk_cell BK183.out 2).trans rfl; have hcz136_3 : w135.cell? ⟨gb183, 3, none⟩ = some (.slice A0_3 l0_3.length c0_3) := (blk_cell BK183.out 3).trans rfl; have hcz136_4 : w135.cell? ⟨gb183, 4, none⟩ = some (.string a0_4) := (blk_cell BK183.out 4).trans rfl; have hcz136_5 : w135.cell? ⟨gb183, 5, none⟩ = some (.int .i64 a0_5) := (blk_cell BK183.out 5).trans rfl; have hcz136_6 : w135.cell? ⟨gb183, 6, none⟩ = some (.slice A0_6 l0_6.length c0_6) := (blk_cell BK183.out 6).trans rfl; have hcz136_7 : w135.cell? ⟨gb183, 7, none⟩ = some (.slice A0_7 l0_7.length c0_7) := (blk_cell BK183.out 7).trans rfl; have hfz136_0 := blk_frozen BK183.out 0; have hfz136_1 := blk_frozen BK183.out 1; have hfz136_2 := blk_frozen BK183.out 2; have hfz136_3 := blk_frozen BK183.out 3; have hfz136_4 := blk_frozen BK183.out 4; have hfz136_5 := blk_frozen BK183.out 5; have hfz136_6 := blk_frozen BK183.out 6; have hfz136_7 := blk_frozen BK183.out 7; obtain ⟨Ao137, co137, eo137⟩ := Kd.R_slice HO223.out; subst eo137) | (go_at_call 17; (with_reducible refine (amalgamlaw05_same.calls k4 _ _ t219 _ _ l0_7 t224 _ ?side1 ?side2 ?side3 ?side4 A130.out).mono ?_); (case side1 => repeat (first | exact (Kd.R_reads' HO223.out).2.2 | (with_reducible refine Kd.C_alloc ?_ _) | (with_reducible refine Kd.C_drewN ?_ _) | (with_reducible refine Kd.C_drew ?_))); (case side2 => exact (Kd.R_reads' HO223.out).2.1); (case side3 => repeat (first | exact (Kd.C_below HR0_7.out HB.out) | (with_reducible refine Kd.C_alloc ?_ _) | (with_reducible refine Kd.C_drewN ?_ _) | (with_reducible refine Kd.C_drew ?_))); (case side4 => exact HC0_7.out); rintro e w138 ⟨rfl, hb⟩; have n0_ := Aside0.mk (Kd.R_below (by (with_reducible repeat (first | apply Kd.R_alloc | apply Kd.R_drewN | apply Kd.R_drew)); exact HO_197002.out) hb); have n1_ := Aside0.mk (Kd.R_below (by (with_reducible repeat (first | apply Kd.R_alloc | apply Kd.R_drewN | apply Kd.R_drew)); exact HO223.out) hb); have n2_ := Aside0.mk (blk_below (g := gb183) (o := .cells #[.slice A0_0 l0_0.length c0_0, .string a0_1, .int .i64 a0_2, .slice A0_3 l0_3.length c0_3, .string a0_4, .int .i64 a0_5, .slice A0_6 l0_6.length c0_6, .slice A0_7 l0_7.length c0_7] 36 (0, 0)) (by (with_reducible repeat (first | refine blk_drewN ?_ _ | refine blk_drew ?_ | refine blk_alloc ?_ _)); exact BK183.out) hb); have n3_ := Aside0.mk (blk_below (g := gb196) (o := .cells #[.string t189, .int .i64 t190, .slice Ao30 t191.length co30] 27 (0, 0)) (by (with_reducible repeat (first | refine blk_drewN ?_ _ | refine blk_drew ?_ | refine blk_alloc ?_ _)); exact BK196.out) hb); have n4_ := Aside0.mk (below_step (by repeat (first | (with_reducible first | exact HB.out | apply below_alloc | apply pw_below_drewN | apply below_drew1 | refine below_set ?_ GE183.out | refine below_set ?_ GE196.out) | exact HB.out)) hb); clear HO_197002; clear HO223; clear BK183; clear BK196; clear HB; have HO_197002 := n0_; have HO223 := n1_; have BK183 := n2_; have BK196 := n3_; have HB := n4_; clear n0_ n1_ n2_ n3_ n4_; (try clear hb); (try clear hb2); (try clear hk); (try clear hi)))
                            go_ret
                            exact ⟨by first | rfl | (simp [errW_none, errW_some] <;> rfl) | (simp [*, errW_none, errW_some] <;> rfl), by repeat (first | (with_reducible first | exact HB.out | apply below_alloc | apply pw_below_drewN | apply below_drew1 | refine below_set ?_ GE183.out | refine below_set ?_ GE196.out) | exact HB.out)⟩
                          · rw [if_neg c129] at H
                            have c129b0 : (t220 == 0) = false := beq_eq_false_iff_ne.mpr c129
                            have c129b1 : (t220 != 0) = true := bne_iff_ne.mpr c129
                            exact absurd ((Option.some.inj H).trans HRT.out) (by decide)
end Go.Proofs.Ytpepjodkahdicaa.PTb
