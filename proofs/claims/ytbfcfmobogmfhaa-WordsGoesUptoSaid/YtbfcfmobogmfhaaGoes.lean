/-
  The walk of WordsGoes: two loops over an iterator, one in the other. Conditions: the theorem's own.
-/
import Derived.RangeFuncNested
import Derived.RangeFuncBound
import Derived.RangeFuncCalls
import Derived.RangeFuncLeaves
import Derived.Shelf.Abstract
import Derived.Shelf.RegionOpen
import Derived.WalkKit
import Derived.OwnWalkIn
import Derived.TacticsInMore
import Derived.LoopNIn
import Derived.LoopIn
import Derived.Maps.AppendAt
import Derived.Deep.RegionHeld
import Derived.Deep.RegionHeld3
import Derived.Test.YtbfcfmobogmfhaaSpecLex
namespace Go.Proofs.Ytbfcfmobogmfhaa.Sw
open Go.RowKit Go.Shelf Go.Proofs.YtbfcfmobogmfhaaW.PrintWords Go.Proofs.Ytbfcfmobogmfhaa.PWd
attribute [local go_sem] Oper.semAt_some
theorem run_store_fn {P : Program} {w : World} {a : Addr} {m : Mode} (f : Fn) (x y : Array Value) : (store a (.func f x y) m).run P w = stored P w a (.func f x y) m := run_store P w a _ m rfl
attribute [local go_sem] run_store_fn
theorem grown_of_below' {w w' : World} (h : Below w.heap.size w w') : w.grownBy w' none := ⟨h.os, h.tape, h.output, h.size, fun k hk _ => h.block k hk⟩
/-- between two rounds: gl has come, the inner count is n -/
def GoesI (s : ByteArray) (w3 : World) (g : List Wd × Int) (W : World) : Prop :=
  (∃ v, Boxed W (w3.heap.size + 2) 31 v ∧ W.ownsRow w3.heap.size 26 3 v g.1.length (flatW g.1)) ∧ Boxed W (w3.heap.size + 3) 3 (.int .i64 g.2) ∧
    Boxed W (w3.heap.size + 1) 38 (.func (.func 22) #[] #[.pointer (some ⟨w3.heap.size, 0, none⟩)]) ∧ Boxed W w3.heap.size 9 (.string s) ∧ Below w3.heap.size w3 W
theorem goesI_own (s : ByteArray) (w3 : World) (B : Nat) (hB : w3.heap.size ≤ B) : OwnFrom B (GoesI s w3) := by
  refine OwnFrom.and (Own.from ?_ _) (OwnFrom.and (Own.from (boxed_own _ _ _) _) (OwnFrom.and (Own.from (boxed_own _ _ _) _) (OwnFrom.and (Own.from (boxed_own _ _ _) _) (ownFrom_below (Nat.le_refl _) hB))))
  have := holdsRow_own w3.heap.size (w3.heap.size + 2) 31 26 3 (fun g : List Wd × Int => g.1.length) (fun g => flatW g.1) (fun _ _ => True)
  intro s A B row ⟨v, hv, hr⟩ hg hrow
  obtain ⟨v', hv', hr', _⟩ := this s A B row ⟨v, hv, hr, trivial⟩ hg hrow
  exact ⟨v', hv', hr'⟩
set_option maxRecDepth 100000 in
set_option maxHeartbeats 4000000 in
theorem goes_calls (k : Nat) (s : ByteArray) (most : Int) (ws : List Wd) (hws : wordsFrom k s 0 = some ws) (hbg : amalgamref02_Begin.f k s = some ws) (hh : amalgamlaw02_head.f k = some true) (hlen : ws.length ≤ 1048576) (w : World) :
    Calls Try.prog 5 #[.string s, .int .i64 most] w fun e w' => e = .returned (.bool true) ∧ Below w.heap.size w w' := by
  have HG := Aside0.mk hbg
  have HH := Aside0.mk hh
  clear hbg hh
  have hmx : Try.prog.follows .mixedOrders = true := by kernel_rfl
  refine (callsIn_wide (n := 7)).1 ?_
  refine callsIn_of_wp_marks Try.func5 rfl trivial ?_ rfl
  simp only [Try.ntmps5, List.size_toArray, List.length_cons, List.length_nil, Nat.reduceAdd, Nat.reduceSub, Array.replicate_succ, Array.replicate_zero, List.push_toArray, List.append_toArray, List.nil_append, List.cons_append]
  gi_upto_region 4 with (refine ⟨trivial, ?_⟩; gi_at_call 8; refine (callsIn_wide.2 (amalgamlaw02_head.calls k true _ HH.out)).mono ?_; rintro e w2 ⟨rfl, hb2⟩)
  have hm2 : Boxed w2 w.heap.size 3 (.int .i64 most) := (hb2.block w.heap.size (by simp)).trans (Boxed.new w 3 (.int .i64 most))
  have hbw2 : Below w.heap.size w w2 := ((Below.refl _ w).alloc (Nat.le_refl _) _).trans (hb2.mono (by simp))
  clear hb2
  gi_upto_region 5 with (refine ⟨trivial, ?_⟩; gi_at_call 14; refine (callsIn_wide.2 (amalgamref02_Begin.calls k s ws _ HG.out)).mono ?_; rintro e w3 ⟨vw, rfl, hRw, hb3⟩)
  have hm3 : Boxed w3 w.heap.size 3 (.int .i64 most) := (hb3.block w.heap.size hm2.lt).trans hm2
  have hbw3 := hbw2.trans (hb3.mono hbw2.size)
  obtain ⟨Aw, cw, rfl, hcw, hCw⟩ := Kd.R_reads hRw
  clear hRw hb3 hm2 hbw2
  gi_upto_region 6 with (refine ⟨trivial, ?_⟩; gi_at_call 15; refine (callsIn_wide.2 (words_All.calls s _)).mono ?_; rintro e w4 ⟨rfl, hw4'⟩; have hw4 := Aside0.mk hw4'; clear hw4')
  have h41 : w4.heap.size = w3.heap.size + 1 := by rw [hw4.out, World.size_alloc]
  have hst4 : Boxed w4 w3.heap.size 9 (.string s) := by rw [hw4.out]; exact Boxed.new w3 _ _
  have hb4 : Below w3.heap.size w3 w4 := by rw [hw4.out]; exact (Below.refl _ w3).alloc (Nat.le_refl _) _
  clear hw4
  obtain ⟨W5, hW5⟩ : ∃ W5, w4.alloc (.cells #[.func (.func 22) #[] #[.pointer (some ⟨w3.heap.size, 0, none⟩)]] 38) = W5 := ⟨_, rfl⟩
  have hs5 : W5.heap.size = w3.heap.size + 2 := by rw [← hW5, World.size_alloc, h41]
  have hst5 : Boxed W5 w3.heap.size 9 (.string s) := by rw [← hW5]; exact hst4.alloc _
  have hsq5 : Boxed W5 (w3.heap.size + 1) 38 (.func (.func 22) #[] #[.pointer (some ⟨w3.heap.size, 0, none⟩)]) := by rw [← hW5, ← h41]; exact Boxed.new w4 _ _
  have hb5 : Below w3.heap.size w3 W5 := by rw [← hW5]; exact hb4.alloc (by omega) _
  rw [hW5]
  try rw [h41]
  clear hW5 h41 hst4 hb4
  gi_upto_region 7 with (fail)
  obtain ⟨W6, hW6⟩ : ∃ W6, W5.alloc (.cells #[.slice none 0 0] 31) = W6 := ⟨_, rfl⟩
  have hs6 : W6.heap.size = w3.heap.size + 3 := by rw [← hW6, World.size_alloc, hs5]
  have hst6 : Boxed W6 w3.heap.size 9 (.string s) := by rw [← hW6]; exact hst5.alloc _
  have hsq6 : Boxed W6 (w3.heap.size + 1) 38 (.func (.func 22) #[] #[.pointer (some ⟨w3.heap.size, 0, none⟩)]) := by rw [← hW6]; exact hsq5.alloc _
  have hgt6 : Boxed W6 (w3.heap.size + 2) 31 (.slice none 0 0) := by rw [← hW6, ← hs5]; exact Boxed.new W5 _ _
  have hb6 : Below w3.heap.size w3 W6 := by rw [← hW6]; exact hb5.alloc (by omega) _
  rw [hW6]
  try rw [hs5]
  clear hW6 hs5 hst5 hsq5 hb5
  gi_upto_region 8 with (fail)
  obtain ⟨W0, hW0⟩ : ∃ W0, W6.alloc (.cells #[.int .i64 0] 3) = W0 := ⟨_, rfl⟩
  have hs0 : W0.heap.size = w3.heap.size + 4 := by rw [← hW0, World.size_alloc, hs6]
  have hst0 : Boxed W0 w3.heap.size 9 (.string s) := by rw [← hW0]; exact hst6.alloc _
  have hsq0 : Boxed W0 (w3.heap.size + 1) 38 (.func (.func 22) #[] #[.pointer (some ⟨w3.heap.size, 0, none⟩)]) := by rw [← hW0]; exact hsq6.alloc _
  have hgt0 : Boxed W0 (w3.heap.size + 2) 31 (.slice none 0 0) := by rw [← hW0]; exact hgt6.alloc _
  have hin0 : Boxed W0 (w3.heap.size + 3) 3 (.int .i64 0) := by rw [← hW0, ← hs6]; exact Boxed.new W6 _ _
  have hb0 : Below w3.heap.size w3 W0 := by rw [← hW0]; exact hb6.alloc (by omega) _
  rw [hW0]
  try rw [hs6]
  clear hW0 hs6 hst6 hsq6 hgt6 hb6
  have hsqc := hsq0.cell
  gi_wp2
  obtain ⟨i0, hi, hz0, hz1, hz2⟩ := info_parts infoW
  have hle0 : w3.heap.size + 4 ≤ W0.heap.size := by omega
  clear hs0
  refine wpIn_rangeFunc_ownH rfl (by omega) (gf := 22) (lb := #[.pointer (some ⟨w3.heap.size, 0, none⟩)]) rfl trivial (enters_of Try.func22 (by kernel_rfl) rfl)
    (all_stops k s ws hws (7 - 1) (by omega) w3.heap.size W0 hst0) (fun h k => k.trans h) (fun W l o o' hl _ _ _ => World.putObj_heap_other (by omega)) (Below.refl _ _) (fun _ => rfl)
    (fun pre W => GoesI s w3 (pre, if pre = [] then 0 else (ws.length : Int)) W ∧ (most < 1 ∨ (pre.length : Int) < most)) (fun c pre W => c = .exit 0 ∧ GoesI s w3 (pre, (ws.length : Int)) W ∧ (pre.length : Int) = most ∧ pre ≠ [])
    (fun pre A B row hs hg hr => ⟨goesI_own s w3 W0.heap.size (by omega) _ A B row hs.1 hg hr, hs.2⟩) (fun c pre A B row hs hg hr => ⟨hs.1, goesI_own s w3 W0.heap.size (by omega) _ A B row hs.2.1 hg hr, hs.2.2⟩) ?h0
    (fun x a' W => ∃ Bx, w3.heap.size + 3 < Bx ∧ W.heap[Bx]? = some (.cells #[.int .i64 x.f0, .string x.f1, .int .i64 x.f2] 26 (0, 0)) ∧ (∃ v, Boxed W (w3.heap.size + 2) 31 v ∧ some Bx ≠ v.ownBlock) ∧ a' = { tmps := #[.string s, .int .i64 most, undef, .pointer (some ⟨w.heap.size, 0, none⟩), .bool false, .bool true, .slice Aw ws.length cw, .pointer (some ⟨w3.heap.size + 1, 0, none⟩), .pointer (some ⟨w3.heap.size + 2, 0, none⟩), .pointer (some ⟨w3.heap.size + 3, 0, none⟩), .pointer (some ⟨Bx, 0, none⟩), undef, undef, .bool true, .bool true, .bool false, .string s, .slice Aw ws.length cw, .string s, .func (.func 22) #[] #[.pointer (some ⟨w3.heap.size, 0, none⟩)], .func (.func 22) #[] #[.pointer (some ⟨w3.heap.size, 0, none⟩)], .agg #[.int .i64 x.f0, .string x.f1, .int .i64 x.f2], undef, undef, undef, undef, undef, undef, undef, undef, undef, undef, undef, undef, undef, undef, undef, undef, undef, undef, undef, undef, undef, undef, undef, undef, undef, undef, undef, undef, undef, undef, undef, undef, undef, undef, undef, undef, undef, undef, undef, undef, undef], defers := [] })
    ?hAx ?assign ?body ?done ?stop
  case h0 => exact ⟨⟨⟨_, hgt0, World.ownsRow_nil _ _ _ _⟩, by simpa using hin0, hsq0, hst0, hb0⟩, by simp; omega⟩
  case hAx =>
    intro x a' _ A B row ⟨Bx, h1, h2, ⟨v, h4, h5⟩, h3⟩ hg hrow
    have hno : ∀ q (cs : Array Value) (tt : TypeId) (z : Nat × Nat), A.heap[q]? = some (.cells cs tt z) → some q ≠ row := fun q cs tt z hq e => by
      obtain ⟨_, o, ho, hno⟩ := hrow q e.symm
      rw [hq] at ho
      cases ho
      cases hno
    exact ⟨Bx, h1, (hg.block Bx (Array.getElem?_eq_some_iff.1 h2).1 (hno _ _ _ _ h2)).trans h2, ⟨v, h4.kept hg (hno _ _ _ _ h4), h5⟩, h3⟩
  case assign =>
    intro l pre x W K hI hK
    dsimp only [encW]
    gi_wp2
    obtain ⟨⟨⟨v, hv, hr⟩, hin, hsq, hst, hB⟩, hm⟩ := hI
    have hsz := hin.lt
    refine hK _ _ ((KeepsOthers.alloc _ _).from _) (Below.heap_alloc _ _ _ hst.lt) ⟨⟨⟨v, hv.alloc _, hr.alloc _⟩, hin.alloc _, hsq.alloc _, hst.alloc _, hB.alloc hB.size _⟩, hm⟩ ⟨W.heap.size, hsz, World.alloc_heap_new W _, ⟨v, hv.alloc _, fun e => ?_⟩, rfl⟩
    have := (hr.lt _ e.symm).2
    omega
  case body =>
    rintro l pre x a' W hl ⟨r, hr⟩ ⟨⟨⟨v, hv, hrow⟩, hin, hsq, hst, hB⟩, hm⟩ ⟨Bx, hBx, hbx, ⟨v2, hv2, hne⟩, rfl⟩ hlt
    obtain rfl : v2 = v := by
      have := hv.symm.trans hv2
      simp at this
      exact this.symm
    dsimp only at hrow hin
    obtain ⟨Ag, cg, rfl⟩ := Kd.R_slice (R_of_own hrow)
    have hgc := hv.cell
    have hgf := hv.frozen
    have hBxl : Bx < W.heap.size := (Array.getElem?_eq_some_iff.1 hbx).1
    have hslt := hst.lt
    by_cases c1 : pre = []
    · subst c1
      have hsc := hsq.cell
      have hin := (show Boxed W (w3.heap.size + 3) 3 (.int .i64 0) by simpa using hin)
      simp only [List.length_nil] at hgc hgf hv hrow hne
      gi_wp2
      refine wpIn_rangeFunc_ownN (l₀ := l) (r₀ := r) rfl hr (by omega) (gf := 22) (lb := #[.pointer (some ⟨w3.heap.size, 0, none⟩)]) rfl trivial (enters_of Try.func22 (by kernel_rfl) rfl)
        ((all_stops k s ws hws (7 - 1 - 1 - 1) (by omega) w3.heap.size W hst).inRound l) (fun h k => k.trans h) (fun W l o o' hl _ _ _ => World.putObj_heap_other (by omega)) (Below.refl _ _) (fun _ => rfl)
        (fun pre' W' => GoesI s w3 ([], (pre'.length : Int)) W' ∧ W'.heap[Bx]? = some (.cells #[.int .i64 x.f0, .string x.f1, .int .i64 x.f2] 26 (0, 0)) ∧ Boxed W' (w3.heap.size + 2) 31 (.slice Ag 0 cg) ∧ KeepsFrom W0.heap.size W W') (fun _ _ _ => False)
        ?hI2 (fun _ _ _ _ _ hs _ _ => hs) ⟨⟨⟨_, hv, hrow⟩, hin, hsq, hst, hB⟩, hbx, hv, KeepsFrom.refl _ _⟩
        (fun y a'' _ => a'' = { tmps := #[.string s, .int .i64 most, undef, .pointer (some ⟨w.heap.size, 0, none⟩), .bool false, .bool true, .slice Aw ws.length cw, .pointer (some ⟨w3.heap.size + 1, 0, none⟩), .pointer (some ⟨w3.heap.size + 2, 0, none⟩), .pointer (some ⟨w3.heap.size + 3, 0, none⟩), .pointer (some ⟨Bx, 0, none⟩), undef, undef, .bool true, .bool true, .bool false, .string s, .slice Aw ws.length cw, .string s, .func (.func 22) #[] #[.pointer (some ⟨w3.heap.size, 0, none⟩)], .func (.func 22) #[] #[.pointer (some ⟨w3.heap.size, 0, none⟩)], .agg #[.int .i64 x.f0, .string x.f1, .int .i64 x.f2], .slice Ag 0 cg, .int .i64 0, .bool true, .func (.func 22) #[] #[.pointer (some ⟨w3.heap.size, 0, none⟩)], .agg #[.int .i64 y.f0, .string y.f1, .int .i64 y.f2], undef, undef, undef, undef, undef, undef, undef, undef, undef, undef, undef, undef, undef, undef, undef, undef, undef, undef, undef, undef, undef, undef, undef, undef, undef, undef, undef, undef, undef, undef, undef, undef, undef, undef, undef, undef], defers := [] })
        (fun _ _ _ _ _ _ hs _ _ => hs) ?assign2 ?body2 ?done2 ?stop2
      case hI2 =>
        rintro pre' A B row ⟨h1, h2, h3, h4⟩ hg hrow
        have hno : ∀ q (cs : Array Value) (tt : TypeId) (z : Nat × Nat), A.heap[q]? = some (.cells cs tt z) → some q ≠ row := fun q cs tt z hq e => by
          obtain ⟨_, o, ho, hno⟩ := hrow q e.symm
          rw [hq] at ho
          cases ho
          cases hno
        exact ⟨goesI_own s w3 W.heap.size (by omega) _ A B row h1 hg hrow, (hg.block Bx (Array.getElem?_eq_some_iff.1 h2).1 (hno _ _ _ _ h2)).trans h2, h3.kept hg (hno _ _ _ _ h3), ownFrom_keepsFrom (B := W0.heap.size) (Nat.le_refl _) () A B row h4 hg hrow⟩
      case assign2 =>
        rintro l2 pre' y W' K hi' hK
        dsimp only [encW]
        gi_wp2
        exact hK _ _ (KeepsFrom.refl _ _) rfl hi' rfl
      case body2 =>
        rintro l2 pre' y a'' W' _ _ ⟨⟨⟨v', hv', hr'⟩, hin', hsq', hst', hB'⟩, hbx', hvv', hkf'⟩ rfl hlt2
        have cI := hin'.cell
        have fI := hin'.frozen
        gi_wp2
        have hw2 : (pre'.length : Int) + 1 = (((pre' ++ [y]).length : Nat) : Int) := by
          rw [List.length_append, List.length_singleton]
          omega
        have hg6 := grownBy_setCell' W' (w3.heap.size + 3) (.int .i64 ((pre'.length : Int) + 1))
        refine ⟨(KeepsOthers.setCell _ _ _).from _, (Boxed.other (B' := w3.heap.size + 3) hst' (by omega) _).trans hst'.symm, ⟨⟨v', Boxed.other (B' := w3.heap.size + 3) hv' (by omega) _, hr'.kept hg6 (.inr (hin'.not_row (by decide) hr').symm)⟩, ?_, Boxed.other (B' := w3.heap.size + 3) hsq' (by omega) _, Boxed.other (B' := w3.heap.size + 3) hst' (by omega) _, hB'.setCell (p := ⟨w3.heap.size + 3, 0, none⟩) (by simp) _⟩, (Below.heap_setCell W' ⟨w3.heap.size + 3, 0, none⟩ _ Bx (by simp; omega)).trans hbx', Boxed.other (B' := w3.heap.size + 3) hvv' (by omega) _, hkf'.trans ((KeepsOthers.setCell _ _ _).from _)⟩
        have := hin'.set (.int .i64 ((pre'.length : Int) + 1))
        rw [hw2] at this ⊢
        exact this
      case stop2 => exact fun c pre W _ h => h.elim
      case done2 =>
        rintro ys' W' rfl ⟨⟨⟨v', hv', hrA⟩, hinA, hsqA, hstA, hBA⟩, hbxA, hvA, hkfA⟩
        obtain rfl : v' = .slice Ag 0 cg := by
          have := hv'.symm.trans hvA
          simp at this
          exact this
        dsimp only at hrA hinA
        clear hv' hin hsq hB hv hrow hgc hgf hbx
        have hBxlA : Bx < W'.heap.size := (Array.getElem?_eq_some_iff.1 hbxA).1
        have hc5 := hvA.cell
        have hf5 := hvA.frozen
        have hb0' : W'.cell? ⟨Bx, 0, none⟩ = some (.int .i64 x.f0) := by simp [World.cell?, hbxA]
        have hb1' : W'.cell? ⟨Bx, 1, none⟩ = some (.string x.f1) := by simp [World.cell?, hbxA]
        have hb2' : W'.cell? ⟨Bx, 2, none⟩ = some (.int .i64 x.f2) := by simp [World.cell?, hbxA]
        have hszA := hinA.lt
        have hpl : ([] : List Wd).length ≤ 1048576 := Nat.le_of_lt (Nat.lt_of_lt_of_le hlt hlen)
        have hcn := Aside0.mk (cells_new W' #[.int .i64 x.f0, .string x.f1, .int .i64 x.f2] 26)
        gi_upto_region 14 with (gi_at_builtin; go_loud (refine wpListIn_append_own _ rfl _ _ 31 rfl w3.heap.size 26 i0 (.agg #[.int .i64 0, .string ⟨#[]⟩, .int .i64 0]) 3 32 Try.underlying31 hi hz0 hz1 hz2 rfl (by decide) _ _ _ rfl (hrA.alloc _) ⟨W'.heap.size, 0, none⟩ 1 1 (cellsW x) rfl rfl hcn.out (by simp [cellsW, Value.oneCell']) (by have := hpl; unfold maxLen; omega) (by have := hpl; omega) (by have := hBA.size; simp; omega) ?_); intro v' w1 hown' hgrow _; obtain ⟨g', cap', rfl⟩ := ownsRow_succ hown'; obtain ⟨hv1, hv2, hr2, hk2, hb2⟩ := hvA.appended (by decide) hrA hBA.size (Nat.le_add_right _ _) hown' hgrow; have hcc5 := hv1.cell; have hff5 := hv1.frozen)
        have hin1 := (hinA.alloc _).kept hgrow (hinA.not_row (by decide) hrA)
        have hsq1 := (hsqA.alloc _).kept hgrow (hsqA.not_row (by decide) hrA)
        have hst1 := (hstA.alloc _).kept hgrow (hstA.not_row (by decide) hrA)
        have hin2 := Boxed.other (B' := w3.heap.size + 2) hin1 (by omega) (.slice (some ⟨g', 0, none⟩) (([] : List Wd).length + 1) cap')
        have hsq2 := Boxed.other (B' := w3.heap.size + 2) hsq1 (by omega) (.slice (some ⟨g', 0, none⟩) (([] : List Wd).length + 1) cap')
        have hst2 := Boxed.other (B' := w3.heap.size + 2) hst1 (by omega) (.slice (some ⟨g', 0, none⟩) (([] : List Wd).length + 1) cap')
        skip
        generalize w1.setCell ⟨w3.heap.size + 2, 0, none⟩ (.slice (some ⟨g', 0, none⟩) (([] : List Wd).length + 1) cap') = W5 at hv2 hr2 hk2 hb2 hin2 hsq2 hst2 ⊢
        clear hcc5 hff5 hin1 hsq1 hst1 hc5 hf5 hb0' hb1' hb2' hcn
        have hmc : W5.cell? ⟨w.heap.size, 0, none⟩ = some (.int .i64 most) := Boxed.cell (((hBA.trans hb2).block w.heap.size hm3.lt).trans hm3)
        have hgc2 := hv2.cell
        have HH2 := Aside0.mk (And.intro hv2 (And.intro hr2 (And.intro hk2 (And.intro hb2 (And.intro hin2 (And.intro hsq2 (And.intro hst2 hBA)))))))
        clear hv2 hr2 hk2 hb2 hin2 hsq2 hst2 hown' hgrow
        by_cases c2 : (([] : List Wd).length : Int) + 1 = most
        · have c2b : (((([] : List Wd).length : Nat) : Int) + 1 == most) = true := beq_iff_eq.mpr c2
          have c2c : ((((([] : List Wd).length + 1 : Nat)) : Int) == most) = true := beq_iff_eq.mpr (by omega)
          have c2d : ((1 : Int) == most) = true := beq_iff_eq.mpr (by simpa using c2)
          gi_wp2
          skip
          obtain ⟨hv2, hr2, hk2, hb2, hin2, hsq2, hst2, hBA⟩ := HH2.out
          exact ⟨hkfA.trans (hk2.from _), rfl, ⟨⟨_, by simpa using hv2, by rw [flatW_snoc]; simpa using hr2⟩, hin2, hsq2, hst2, hBA.trans hb2⟩, by rw [List.length_append, List.length_singleton]; omega, by simp⟩
        · have c2b : (((([] : List Wd).length : Nat) : Int) + 1 == most) = false := beq_eq_false_iff_ne.mpr c2
          have c2c : ((((([] : List Wd).length + 1 : Nat)) : Int) == most) = false := beq_eq_false_iff_ne.mpr (by omega)
          have c2d : ((1 : Int) == most) = false := beq_eq_false_iff_ne.mpr (by simpa using c2)
          gi_wp2
          skip
          obtain ⟨hv2, hr2, hk2, hb2, hin2, hsq2, hst2, hBA⟩ := HH2.out
          exact ⟨hkfA.trans (hk2.from _), hst2.trans hst.symm, ⟨⟨_, by simpa using hv2, by rw [flatW_snoc]; simpa using hr2⟩, by simpa using hin2, hsq2, hst2, hBA.trans hb2⟩, by rw [List.length_append, List.length_singleton]; omega⟩
    · have c1b : (((pre.length : Nat) : Int) == 0) = false := by
        refine beq_eq_false_iff_ne.mpr (fun e => c1 (List.eq_nil_of_length_eq_zero (by omega)))
      rw [if_neg c1] at hin
      have hvA := hv
      have hrA := hrow
      have hinA := hin
      have hsqA := hsq
      have hstA := hst
      have hBA := hB
      have hbxA := hbx
      have hkfA := KeepsFrom.refl W0.heap.size W
      clear hv hrow hin hsq hB hbx
      have hc5 := hvA.cell
      have hf5 := hvA.frozen
      have hb0' : W.cell? ⟨Bx, 0, none⟩ = some (.int .i64 x.f0) := by simp [World.cell?, hbxA]
      have hb1' : W.cell? ⟨Bx, 1, none⟩ = some (.string x.f1) := by simp [World.cell?, hbxA]
      have hb2' : W.cell? ⟨Bx, 2, none⟩ = some (.int .i64 x.f2) := by simp [World.cell?, hbxA]
      have hszA := hinA.lt
      have hpl : pre.length ≤ 1048576 := Nat.le_of_lt (Nat.lt_of_lt_of_le hlt hlen)
      have hcn := Aside0.mk (cells_new W #[.int .i64 x.f0, .string x.f1, .int .i64 x.f2] 26)
      gi_upto_region 14 with (gi_at_builtin; go_loud (refine wpListIn_append_own _ rfl _ _ 31 rfl w3.heap.size 26 i0 (.agg #[.int .i64 0, .string ⟨#[]⟩, .int .i64 0]) 3 32 Try.underlying31 hi hz0 hz1 hz2 rfl (by decide) _ _ _ rfl (hrA.alloc _) ⟨W.heap.size, 0, none⟩ 1 1 (cellsW x) rfl rfl hcn.out (by simp [cellsW, Value.oneCell']) (by have := hpl; unfold maxLen; omega) (by have := hpl; omega) (by have := hBA.size; simp; omega) ?_); intro v' w1 hown' hgrow _; obtain ⟨g', cap', rfl⟩ := ownsRow_succ hown'; obtain ⟨hv1, hv2, hr2, hk2, hb2⟩ := hvA.appended (by decide) hrA hBA.size (Nat.le_add_right _ _) hown' hgrow; have hcc5 := hv1.cell; have hff5 := hv1.frozen)
      have hin1 := (hinA.alloc _).kept hgrow (hinA.not_row (by decide) hrA)
      have hsq1 := (hsqA.alloc _).kept hgrow (hsqA.not_row (by decide) hrA)
      have hst1 := (hstA.alloc _).kept hgrow (hstA.not_row (by decide) hrA)
      have hin2 := Boxed.other (B' := w3.heap.size + 2) hin1 (by omega) (.slice (some ⟨g', 0, none⟩) (pre.length + 1) cap')
      have hsq2 := Boxed.other (B' := w3.heap.size + 2) hsq1 (by omega) (.slice (some ⟨g', 0, none⟩) (pre.length + 1) cap')
      have hst2 := Boxed.other (B' := w3.heap.size + 2) hst1 (by omega) (.slice (some ⟨g', 0, none⟩) (pre.length + 1) cap')
      skip
      generalize w1.setCell ⟨w3.heap.size + 2, 0, none⟩ (.slice (some ⟨g', 0, none⟩) (pre.length + 1) cap') = W5 at hv2 hr2 hk2 hb2 hin2 hsq2 hst2 ⊢
      clear hcc5 hff5 hin1 hsq1 hst1 hc5 hf5 hb0' hb1' hb2' hcn
      have hmc : W5.cell? ⟨w.heap.size, 0, none⟩ = some (.int .i64 most) := Boxed.cell (((hBA.trans hb2).block w.heap.size hm3.lt).trans hm3)
      have hgc2 := hv2.cell
      have HH2 := Aside0.mk (And.intro hv2 (And.intro hr2 (And.intro hk2 (And.intro hb2 (And.intro hin2 (And.intro hsq2 (And.intro hst2 hBA)))))))
      clear hv2 hr2 hk2 hb2 hin2 hsq2 hst2 hown' hgrow
      by_cases c2 : (pre.length : Int) + 1 = most
      · have c2b : (((pre.length : Nat) : Int) + 1 == most) = true := beq_iff_eq.mpr c2
        have c2c : ((((pre.length + 1 : Nat)) : Int) == most) = true := beq_iff_eq.mpr (by omega)
        have c2d : (((pre.length : Int) + 1) == most) = true := beq_iff_eq.mpr (by simpa using c2)
        gi_wp2
        skip
        obtain ⟨hv2, hr2, hk2, hb2, hin2, hsq2, hst2, hBA⟩ := HH2.out
        exact ⟨hkfA.trans (hk2.from _), rfl, ⟨⟨_, by simpa using hv2, by rw [flatW_snoc]; simpa using hr2⟩, hin2, hsq2, hst2, hBA.trans hb2⟩, by rw [List.length_append, List.length_singleton]; omega, by simp⟩
      · have c2b : (((pre.length : Nat) : Int) + 1 == most) = false := beq_eq_false_iff_ne.mpr c2
        have c2c : ((((pre.length + 1 : Nat)) : Int) == most) = false := beq_eq_false_iff_ne.mpr (by omega)
        have c2d : (((pre.length : Int) + 1) == most) = false := beq_eq_false_iff_ne.mpr (by simpa using c2)
        gi_wp2
        skip
        obtain ⟨hv2, hr2, hk2, hb2, hin2, hsq2, hst2, hBA⟩ := HH2.out
        exact ⟨hkfA.trans (hk2.from _), hst2.trans hst.symm, ⟨⟨_, by simpa using hv2, by rw [flatW_snoc]; simpa using hr2⟩, by simpa using hin2, hsq2, hst2, hBA.trans hb2⟩, by rw [List.length_append, List.length_singleton]; omega⟩
  case done =>
    rintro D ys W hD hys ⟨⟨⟨v, hv, hrow⟩, hin, hsq, hst, hB⟩, hm⟩ hK
    obtain rfl : ys = ws := hys
    dsimp only at hrow hin
    have hmc : W.cell? ⟨w.heap.size, 0, none⟩ = some (.int .i64 most) := Boxed.cell ((hB.block w.heap.size hm3.lt).trans hm3)
    have hyl : ys.length ≤ ys.length := Nat.le_refl _
    have htk : ys.take ys.length = ys := List.take_of_length_le (Nat.le_refl _)
    by_cases c1 : most ≥ 1
    · have c1b : decide (most ≥ 1) = true := decide_eq_true c1
      gi_upto_region 18 with (fail)
      have hmn : min (ys.length : Int) most = (ys.length : Int) := by omega
      rw [hmn]
      obtain ⟨Ag, cg, rfl⟩ := Kd.R_slice (R_of_own hrow)
      have hgc := hv.cell
      have hinc := hin.cell
      have hCg := Kd.R_reads' (R_of_own hrow)
      have hC1 := Kd.C_take (m := ys.length) (Kd.C_below hCw hB) hyl
      rw [htk] at hC1
      have hcut := cut_to (P := Try.prog) 31 26 .i64 Try.underlying31 hi Aw ys.length cw (ys.length : Int) (by omega) (by omega) hcw
      rw [Int.toNat_natCast] at hcut
      have hsame := same_f ys (by omega) (ys.length + 1) (by omega)
      have HT := Aside0.mk (And.intro hCg.2.1 (And.intro hCg.2.2 (And.intro hC1 (And.intro (show ys.length ≤ cw by omega) hsame))))
      clear hCg hC1 hsame
      refine wpIn_wide.2 ?_
      go_region_held3 (fun w' => w'.cell? ⟨w3.heap.size + 2, 0, none⟩ = some (.slice Ag ys.length cg)) (go_keep) (first | (go_at_call 13; refine (amalgamlaw02_same.calls (ys.length + 1) Ag cg ys Aw cw ys true _ (by repeat (first | exact HT.out.2.1 | exact HT.out.2.2.1 | (with_reducible refine Kd.C_drew ?_) | (with_reducible refine Kd.C_drewN ?_ _))) HT.out.1 (by repeat (first | exact HT.out.2.1 | exact HT.out.2.2.1 | (with_reducible refine Kd.C_drew ?_) | (with_reducible refine Kd.C_drewN ?_ _))) HT.out.2.2.2.1 HT.out.2.2.2.2).mono ?_; rintro e w9 ⟨rfl, nd9, rfl⟩))
      all_goals (
        by_cases c5 : ys = []
        · have c5b : (((ys.length : Nat) : Int) == 0) = true := by rw [c5]; rfl
          gi_wp2
          have hbW := hbw3.trans (hB.mono hbw3.size)
          have hbD : Below w.heap.size w (W.drewN (1 + nd9)) := by apply pw_below_drewN; exact hbW
          have hsz9 := hbw3.size
          refine ⟨by simp, .inl ⟨_, _, rfl, run_takeDeferred (show (W.drewN (1 + nd9)).heap[D]? = some (.deferred (some [])) by simpa using hK), ?_⟩⟩
          exact ⟨_, by simp [results, Try.results5, go_sem], rfl, hbD.grown (grownBy_putObj' _ _ _) hbD.size (fun q e => by cases e; omega)⟩
        · have c5b : (((ys.length : Nat) : Int) == 0) = false := beq_eq_false_iff_ne.mpr (fun e => c5 (List.eq_nil_of_length_eq_zero (by omega)))
          (try rw [if_neg c5] at hinc)
          gi_wp2
          have hbW := hbw3.trans (hB.mono hbw3.size)
          have hbD : Below w.heap.size w (W.drewN (1 + nd9)) := by apply pw_below_drewN; exact hbW
          have hsz9 := hbw3.size
          refine ⟨by simp, .inl ⟨_, _, rfl, run_takeDeferred (show (W.drewN (1 + nd9)).heap[D]? = some (.deferred (some [])) by simpa using hK), ?_⟩⟩
          exact ⟨_, by simp [results, Try.results5, go_sem], rfl, hbD.grown (grownBy_putObj' _ _ _) hbD.size (fun q e => by cases e; omega)⟩)
    · have c1b : decide (most ≥ 1) = false := decide_eq_false c1
      gi_upto_region 18 with (fail)
      obtain ⟨Ag, cg, rfl⟩ := Kd.R_slice (R_of_own hrow)
      have hgc := hv.cell
      have hinc := hin.cell
      have hCg := Kd.R_reads' (R_of_own hrow)
      have hC1 := Kd.C_take (m := ys.length) (Kd.C_below hCw hB) hyl
      rw [htk] at hC1
      have hcut := cut_to (P := Try.prog) 31 26 .i64 Try.underlying31 hi Aw ys.length cw (ys.length : Int) (by omega) (by omega) hcw
      rw [Int.toNat_natCast] at hcut
      have hsame := same_f ys (by omega) (ys.length + 1) (by omega)
      have HT := Aside0.mk (And.intro hCg.2.1 (And.intro hCg.2.2 (And.intro hC1 (And.intro (show ys.length ≤ cw by omega) hsame))))
      clear hCg hC1 hsame
      refine wpIn_wide.2 ?_
      go_region_held3 (fun w' => w'.cell? ⟨w3.heap.size + 2, 0, none⟩ = some (.slice Ag ys.length cg)) (go_keep) (first | (go_at_call 13; refine (amalgamlaw02_same.calls (ys.length + 1) Ag cg ys Aw cw ys true _ (by repeat (first | exact HT.out.2.1 | exact HT.out.2.2.1 | (with_reducible refine Kd.C_drew ?_) | (with_reducible refine Kd.C_drewN ?_ _))) HT.out.1 (by repeat (first | exact HT.out.2.1 | exact HT.out.2.2.1 | (with_reducible refine Kd.C_drew ?_) | (with_reducible refine Kd.C_drewN ?_ _))) HT.out.2.2.2.1 HT.out.2.2.2.2).mono ?_; rintro e w9 ⟨rfl, nd9, rfl⟩))
      all_goals (
        by_cases c5 : ys = []
        · have c5b : (((ys.length : Nat) : Int) == 0) = true := by rw [c5]; rfl
          gi_wp2
          have hbW := hbw3.trans (hB.mono hbw3.size)
          have hbD : Below w.heap.size w (W.drewN (1 + nd9)) := by apply pw_below_drewN; exact hbW
          have hsz9 := hbw3.size
          refine ⟨by simp, .inl ⟨_, _, rfl, run_takeDeferred (show (W.drewN (1 + nd9)).heap[D]? = some (.deferred (some [])) by simpa using hK), ?_⟩⟩
          exact ⟨_, by simp [results, Try.results5, go_sem], rfl, hbD.grown (grownBy_putObj' _ _ _) hbD.size (fun q e => by cases e; omega)⟩
        · have c5b : (((ys.length : Nat) : Int) == 0) = false := beq_eq_false_iff_ne.mpr (fun e => c5 (List.eq_nil_of_length_eq_zero (by omega)))
          (try rw [if_neg c5] at hinc)
          gi_wp2
          have hbW := hbw3.trans (hB.mono hbw3.size)
          have hbD : Below w.heap.size w (W.drewN (1 + nd9)) := by apply pw_below_drewN; exact hbW
          have hsz9 := hbw3.size
          refine ⟨by simp, .inl ⟨_, _, rfl, run_takeDeferred (show (W.drewN (1 + nd9)).heap[D]? = some (.deferred (some [])) by simpa using hK), ?_⟩⟩
          exact ⟨_, by simp [results, Try.results5, go_sem], rfl, hbD.grown (grownBy_putObj' _ _ _) hbD.size (fun q e => by cases e; omega)⟩)
  case stop =>
    rintro D c ys W hD hys ⟨rfl, ⟨⟨v, hv, hrow⟩, hin, hsq, hst, hB⟩, rfl, hne⟩ hK
    dsimp only at hrow hin
    have hmc : W.cell? ⟨w.heap.size, 0, none⟩ = some (.int .i64 (ys.length : Int)) := Boxed.cell ((hB.block w.heap.size hm3.lt).trans hm3)
    have hyl : ys.length ≤ ws.length := hys.length_le
    have htk : ws.take ys.length = ys := (List.prefix_iff_eq_take.mp hys).symm
    have hy1 : 1 ≤ ys.length := by
      cases ys with
      | nil => exact absurd rfl hne
      | cons => simp
    have c1b : decide ((ys.length : Int) ≥ 1) = true := decide_eq_true (by omega)
    gi_upto_region 18 with (fail)
    have hmn : min (ws.length : Int) (ys.length : Int) = (ys.length : Int) := by omega
    rw [hmn]
    obtain ⟨Ag, cg, rfl⟩ := Kd.R_slice (R_of_own hrow)
    have hgc := hv.cell
    have hinc := hin.cell
    have hCg := Kd.R_reads' (R_of_own hrow)
    have hC1 := Kd.C_take (m := ys.length) (Kd.C_below hCw hB) hyl
    rw [htk] at hC1
    have hcut := cut_to (P := Try.prog) 31 26 .i64 Try.underlying31 hi Aw ws.length cw (ys.length : Int) (by omega) (by omega) hcw
    rw [Int.toNat_natCast] at hcut
    have hsame := same_f ys (by omega) (ys.length + 1) (by omega)
    have HT := Aside0.mk (And.intro hCg.2.1 (And.intro hCg.2.2 (And.intro hC1 (And.intro (show ys.length ≤ cw by omega) hsame))))
    clear hCg hC1 hsame
    refine wpIn_wide.2 ?_
    go_region_held3 (fun w' => w'.cell? ⟨w3.heap.size + 2, 0, none⟩ = some (.slice Ag ys.length cg)) (go_keep) (first | (go_at_call 13; refine (amalgamlaw02_same.calls (ys.length + 1) Ag cg ys Aw cw ys true _ (by repeat (first | exact HT.out.2.1 | exact HT.out.2.2.1 | (with_reducible refine Kd.C_drew ?_) | (with_reducible refine Kd.C_drewN ?_ _))) HT.out.1 (by repeat (first | exact HT.out.2.1 | exact HT.out.2.2.1 | (with_reducible refine Kd.C_drew ?_) | (with_reducible refine Kd.C_drewN ?_ _))) HT.out.2.2.2.1 HT.out.2.2.2.2).mono ?_; rintro e w9 ⟨rfl, nd9, rfl⟩))
    all_goals (
      by_cases c5 : ys = []
      · have c5b : (((ys.length : Nat) : Int) == 0) = true := by rw [c5]; rfl
        gi_wp2
        have hbW := hbw3.trans (hB.mono hbw3.size)
        have hbD : Below w.heap.size w (W.drewN (1 + nd9)) := by apply pw_below_drewN; exact hbW
        have hsz9 := hbw3.size
        refine ⟨by simp, .inl ⟨_, _, rfl, run_takeDeferred (show (W.drewN (1 + nd9)).heap[D]? = some (.deferred (some [])) by simpa using hK), ?_⟩⟩
        exact ⟨_, by simp [results, Try.results5, go_sem], rfl, hbD.grown (grownBy_putObj' _ _ _) hbD.size (fun q e => by cases e; omega)⟩
      · have c5b : (((ys.length : Nat) : Int) == 0) = false := beq_eq_false_iff_ne.mpr (fun e => c5 (List.eq_nil_of_length_eq_zero (by omega)))
        (try rw [if_neg c5] at hinc)
        gi_wp2
        have hbW := hbw3.trans (hB.mono hbw3.size)
        have hbD : Below w.heap.size w (W.drewN (1 + nd9)) := by apply pw_below_drewN; exact hbW
        have hsz9 := hbw3.size
        refine ⟨by simp, .inl ⟨_, _, rfl, run_takeDeferred (show (W.drewN (1 + nd9)).heap[D]? = some (.deferred (some [])) by simpa using hK), ?_⟩⟩
        exact ⟨_, by simp [results, Try.results5, go_sem], rfl, hbD.grown (grownBy_putObj' _ _ _) hbD.size (fun q e => by cases e; omega)⟩)
theorem WordsGoes (s : ByteArray) (hs : s.size ≤ 1048576) (most : Int) (w : World) : Calls Try.prog 5 #[.string s, .int .i64 most] w fun e w' => e = .returned (.bool true) ∧ Below w.heap.size w w' := by
  have hlen := bl_len s
  obtain ⟨ws, e, z, h⟩ := lex_ex _ (bl s) 0 (Nat.le_refl _)
  have hwl := lex_len h
  refine goes_calls (3 * (bl s).length + 60) s most ws ?_ (rbegin_f s (by omega) h (by omega) _ (by omega)) (head_true _ (by omega)) (by omega) w
  have := lex_from s (by omega) h (3 * (bl s).length + 60) (by simp) (by omega) (by omega)
  rw [show ((0 : Nat) : Int) = 0 from rfl] at this
  exact this
end Go.Proofs.Ytbfcfmobogmfhaa.Sw
