-- Written by a program of this session (wip/tools/myprint.py): functions, contracts, their proofs. Lean checks it.
import Derived.Test.YtbfcfmobogmfhaaPWdx0
import Derived.Test.YtbfcfmobogmfhaaPWdx1
namespace Go.Proofs.Ytbfcfmobogmfhaa.PWd
open Go.RowKit Go.Proofs.YtbfcfmobogmfhaaW.PrintWords Go.Proofs.YtbfcfmobogmfhaaW.PrintLast Go.Proofs.YtbfcfmobogmfhaaW.PrintMore
attribute [local go_sem] max2_int min2_int max_two min_two max_three min_three max_four min_four   -- for this text's walks alone
set_option linter.unusedVariables false
set_option linter.unusedSimpArgs false

/-! ### words_List: function 11 -/
section
open Go.Shelf
attribute [local go_sem] Oper.semAt_some
/-- the words from a place on, up to the first that is none -/
def wordsFrom : Nat → ByteArray → Int → Option (List S26)
  | 0, _, _ => none
  | k + 1, s, p => (words_Next.f k s p).bind fun x => if x.2.2.2.2 = 0 then (if x.1 = 0 then some [] else (wordsFrom k s x.2.2.2.1).bind fun r => some (⟨x.1, x.2.1, x.2.2.1⟩ :: r)) else some []
def encW (x : S26) : Array Value := #[.agg #[.int .i64 x.f0, .string x.f1, .int .i64 x.f2]]
theorem grown_of_below {w w' : World} (h : Below w.heap.size w w') : w.grownBy w' none := ⟨h.os, h.tape, h.output, h.size, fun k hk _ => h.block k hk⟩
/-- What a round must keep: the block that holds the text. -/
def KB (b : Nat) (W W' : World) : Prop := W'.heap[b]? = W.heap[b]?
set_option maxRecDepth 100000 in
set_option maxHeartbeats 2000000 in
/-- The iterator's own closure: for every loop body that keeps the block that holds the text. -/
theorem all1_in (k0 : Nat) (s : ByteArray) (ws : List S26) (hws : wordsFrom k0 s 0 = some ws) (n : Nat) (hn : 1 ≤ n) (l b : Nat) (J Jx : List S26 → World → Prop) (W : World) (hJ : AbidesFrom W.heap.size J)
    (hY : ∀ pre x W1, J pre W1 → pre.length < ws.length → YieldAt Fence.wide (n - 1) Try.prog l (encW x) W1 fun e W' =>
      (e = .returned (.bool true) ∧ J (pre ++ [x]) W' ∧ KB b W1 W') ∨ (e = .returned (.bool false) ∧ Jx (pre ++ [x]) W'))
    (hbox : W.heap[b]? = some (.cells #[.string s] 9 (0, 0))) (h0 : J [] W) :
    CallsIn Fence.wide n Try.prog 22 #[.func (.yield l) #[] #[], .pointer (some ⟨b, 0, none⟩)] W fun e W' => (∃ v, e = .returned v) ∧
      ((∃ xs, xs = ws ∧ J xs W') ∨ (∃ pre, pre <+: ws ∧ Jx pre W')) := by
  refine callsIn_of_wp Try.func22 rfl trivial ?_ rfl
  simp only [Try.ntmps22, List.size_toArray, List.length_cons, List.length_nil, Nat.reduceAdd, Nat.reduceSub, Array.replicate_succ, Array.replicate_zero, List.push_toArray, List.append_toArray, List.nil_append, List.cons_append]
  gi_wp2
  gi_loopg [3] k0 (fun kq v3 wr => ∃ (p : Int) (pre rest : List S26), v3 = .int .i64 p ∧ Aside0 (pre ++ rest = ws) ∧ Aside0 (wordsFrom kq s p = some rest) ∧ Aside0 (J pre wr) ∧ Aside0 (wr.heap[b]? = some (.cells #[.string s] 9 (0, 0))))
  case atStart => exact ⟨0, [], ws, rfl, ⟨rfl⟩, ⟨hws⟩, ⟨h0⟩, ⟨hbox⟩⟩
  case round =>
    obtain ⟨p, pre, rest, rfl, hpr, hf, hJp, hB⟩ := hrel
    cases gk with
    | zero => exact absurd hf.out (by simp [wordsFrom])
    | succ k1 =>
      have h := hf.out
      clear hf
      simp only [wordsFrom] at h
      obtain ⟨⟨kd, tx, wat, en, er⟩, hnx, h⟩ := Option.bind_eq_some_iff.mp h
      dsimp only at h
      have HN := Aside0.mk (words_Next.calls k1 s p kd tx wat en er wr hnx)
      clear hnx
      have hbx : wr.cell? ⟨b, 0, none⟩ = some (.string s) := Boxed.cell hB.out
      gi_upto_region 2 with (refine ⟨trivial, ?_⟩; gi_at_call 9; refine (callsIn_wide.2 HN.out).mono ?_; rintro e w2 ⟨rfl, hb2⟩)
      have hbl : Below wr.heap.size wr (w2.alloc (.cells #[.int .i64 kd, .string tx, .int .i64 wat] 26)) := hb2.alloc hb2.size _
      have hJ3 := Aside0.mk (hJ pre wr _ none hJp.out (grown_of_below hbl) (fun r e => by cases e))
      have hB3 := Aside0.mk ((hbl.block b (Boxed.lt hB.out)).trans hB.out)
      have hc0 : (w2.alloc (.cells #[.int .i64 kd, .string tx, .int .i64 wat] 26)).cell? ⟨w2.heap.size, 0, none⟩ = some (.int .i64 kd) := by simp
      have hc1 : (w2.alloc (.cells #[.int .i64 kd, .string tx, .int .i64 wat] 26)).cell? ⟨w2.heap.size, 1, none⟩ = some (.string tx) := by simp
      have hc2 : (w2.alloc (.cells #[.int .i64 kd, .string tx, .int .i64 wat] 26)).cell? ⟨w2.heap.size, 2, none⟩ = some (.int .i64 wat) := by simp
      obtain ⟨B2, hB2⟩ : ∃ B2, w2.heap.size = B2 := ⟨_, rfl⟩
      rw [hB2] at hc0 hc1 hc2 ⊢
      clear hB2 hbl hB hJp
      generalize w2.alloc (.cells #[.int .i64 kd, .string tx, .int .i64 wat] 26) = W3 at hJ3 hB3 hc0 hc1 hc2 ⊢
      clear hb2
      by_cases c1 : er = 0
      · rw [if_pos c1] at h
        have c1b : (er != 0) = false := bne_eq_false_iff_eq.mpr c1
        clear c1
        by_cases c2 : kd = 0
        · rw [if_pos c2] at h
          have c2b : (kd == 0) = true := beq_iff_eq.mpr c2
          clear c2
          obtain rfl := Option.some.inj h
          gi_wp2
          refine ⟨fun _ h => (by cases h), ?_⟩
          gi_wp2
          refine bodyPost_ret (results_none rfl _ _ _) rfl ?_
          exact ⟨⟨_, rfl⟩, .inl ⟨_, by simpa using hpr.out, hJ3.out⟩⟩
        · rw [if_neg c2] at h
          have c2b : (kd == 0) = false := beq_eq_false_iff_ne.mpr c2
          clear c2
          obtain ⟨rs, hrs, h⟩ := Option.bind_eq_some_iff.mp h
          obtain rfl := Option.some.inj h
          have Hrs := Aside0.mk hrs
          clear hrs
          obtain ⟨fn, tmps, assign, body, hy, hR⟩ := hY pre ⟨kd, tx, wat⟩ W3 hJ3.out (by rw [← hpr.out]; simp)
          dsimp only [encW] at hy
          have hR := Aside0.mk hR
          gi_wp2
          refine hR.out.mono ?_
          rintro e W4 (⟨rfl, hJ4, hk4⟩ | ⟨rfl, hJx4⟩)
          · have HJ4 := Aside0.mk hJ4
            have HK4 := Aside0.mk hk4
            clear hJ4 hk4
            gi_wp2
            go_roundg k1
            case rel => exact ⟨en, pre ++ [⟨kd, tx, wat⟩], rs, rfl, ⟨by simpa using hpr.out⟩, Hrs, HJ4, ⟨(show W4.heap[b]? = W3.heap[b]? from HK4.out).trans hB3.out⟩⟩
            case measure => omega
          · have HJ4 := Aside0.mk hJx4
            clear hJx4
            gi_wp2
            refine bodyPost_ret (results_none rfl _ _ _) rfl ?_
            exact ⟨⟨_, rfl⟩, .inr ⟨_, ⟨rs, by simpa using hpr.out⟩, HJ4.out⟩⟩
      · rw [if_neg c1] at h
        have c1b : (er != 0) = true := bne_iff_ne.mpr c1
        clear c1
        obtain rfl := Option.some.inj h
        gi_wp2
        refine ⟨fun _ h => (by cases h), ?_⟩
        gi_wp2
        refine bodyPost_ret (results_none rfl _ _ _) rfl ?_
        exact ⟨⟨_, rfl⟩, .inl ⟨_, by simpa using hpr.out, hJ3.out⟩⟩
/-- It is an iterator that stops when told. -/
theorem all_stops (k0 : Nat) (s : ByteArray) (ws : List S26) (hws : wordsFrom k0 s 0 = some ws) (n : Nat) (hn : 1 ≤ n) (b : Nat) (w : World) (hbox : w.heap[b]? = some (.cells #[.string s] 9 (0, 0))) :
    SeqStopsK Fence.wide n Try.prog 22 #[.pointer (some ⟨b, 0, none⟩)] encW (KB b) (fun xs => xs = ws) (fun pre => pre <+: ws) ws.length w := fun l J Jx W hW hJ _ hY h0 =>
  all1_in k0 s ws hws n hn l b J Jx W hJ hY ((hW.block b (Boxed.lt hbox)).trans hbox) h0
theorem words_All.calls (s : ByteArray) (w : World) :
    Calls Try.prog 15 #[.string s] w fun e w' => e = .returned (.func (.func 22) #[] #[.pointer (some ⟨w.heap.size, 0, none⟩)]) ∧ w' = w.alloc (.cells #[.string s] 9) := by
  go_enter Try.func15, Try.ntmps15
  go_wp2
  go_ret
  exact ⟨rfl, rfl⟩
def cellsW (x : S26) : List Value := [.int .i64 x.f0, .string x.f1, .int .i64 x.f2]
def flatW (l : List S26) : List Value := l.flatMap cellsW
theorem flatW_snoc (l : List S26) (x : S26) : flatW (l ++ [x]) = flatW l ++ cellsW x := by simp [flatW]
/-- the end of the last word -/
def endW : List S26 → Int
  | [] => 0
  | [x] => wrap64 (x.f2 + (x.f1.size : Int))
  | _ :: y :: r => endW (y :: r)
theorem endW_snoc : ∀ (l : List S26) (x : S26), endW (l ++ [x]) = wrap64 (x.f2 + (x.f1.size : Int))
  | [], _ => rfl
  | [_], _ => rfl
  | _ :: y :: r, x => endW_snoc (y :: r) x
def words_List.f (k : Nat) (s : ByteArray) : Option (List S26 × Int × Int) :=
  (wordsFrom k s 0).bind fun ws => if ws.length < 4398046511104 then ((words_Next.f k s (endW ws)).bind fun x => if x.2.2.2.2 = 0 then some (ws, 0, 0) else some (([] : List S26), x.2.2.2.2, x.2.2.2.1)) else none
theorem wordsFrom.mono : ∀ k s p, LeO (wordsFrom k s p) (wordsFrom (k + 1) s p)
  | 0, _, _ => fun r h => by simp [wordsFrom] at h
  | k + 1, s, p => by
    have ih := wordsFrom.mono k
    unfold wordsFrom
    exact LeO.bind (words_Next.mono _ _ _) (fun x => LeO.ite (LeO.ite (LeO.refl _) (LeO.bind (ih _ _) (fun _ => LeO.refl _))) (LeO.refl _))
theorem words_List.mono : ∀ a0 k, LeO (words_List.f k a0) (words_List.f (k + 1) a0) := by
  intro a0 k
  unfold words_List.f
  exact LeO.bind (wordsFrom.mono _ _ _) (fun ws => LeO.ite (LeO.bind (words_Next.mono _ _ _) (fun x => LeO.refl _)) (LeO.refl _))
/-- an owned row of words, as the printed words have it -/
theorem R_of_own {w : World} {base : Nat} {v : Value} : ∀ {l : List S26}, w.ownsRow base 26 3 v l.length (flatW l) → Kd.R k26 26 w base (fun _ => True) v l := by
  intro l h
  refine ⟨fun _ _ => trivial, flatW l, h, ?_, ?_⟩
  · clear h
    induction l with
    | nil => rfl
    | cons x r ih =>
      rw [show flatW (x :: r) = cellsW x ++ flatW r from rfl, List.length_append, ih, List.length_cons]
      show 3 + r.length * 3 = (r.length + 1) * 3
      omega
  · clear h
    induction l with
    | nil => intro j p h; simp at h
    | cons x r ih =>
      intro j p hj
      cases j with
      | zero =>
        simp at hj
        subst hj
        exact k26_mkM _ _ _ x
      | succ j =>
        have := ih j p (by simpa using hj)
        have e : (flatW (x :: r)).drop ((j + 1) * 3) = (flatW r).drop (j * 3) := by
          rw [show (j + 1) * 3 = 3 + j * 3 by omega, ← List.drop_drop]
          rfl
        show Kd.M k26 _ _ _ p (((flatW (x :: r)).drop ((j + 1) * k26.sz)).take k26.sz)
        rw [show k26.sz = 3 from rfl] at this ⊢
        rw [e]
        exact this
theorem infoW : (Try.prog.info? 26).map (fun i => (i.zero, i.size, i.bytes)) = some (some (.agg #[.int .i64 0, .string ⟨#[]⟩, .int .i64 0]), 3, 32) := by kernel_rfl
/-- between two rounds -/
def ListAt (a0 : ByteArray) (w : World) (pre : List S26) (W : World) : Prop :=
  (∃ v, Boxed W w.heap.size 31 v ∧ W.ownsRow w.heap.size 26 3 v pre.length (flatW pre)) ∧ Boxed W (w.heap.size + 1) 3 (.int .i64 (endW pre)) ∧ Below w.heap.size w W ∧ Boxed W (w.heap.size + 2) 9 (.string a0)
theorem cells_new (w : World) (cs : Array Value) (t : TypeId) : ∀ (j : Nat) (u : Value), cs.toList[j]? = some u → (w.alloc (.cells cs t)).cell? ((⟨w.heap.size, 0, none⟩ : Addr).add j) = some u := by
  intro j u hj
  rw [Array.getElem?_toList] at hj
  have h1 : (w.alloc (.cells cs t)).heap[w.heap.size]? = some (.cells cs t (0, 0)) := World.alloc_heap_new w _
  have h3 := blk_cell h1 j
  rw [hj] at h3
  cases j with
  | zero => simpa [Addr.add] using h3
  | succ j => simpa [Addr.add] using h3
set_option maxRecDepth 100000 in
set_option maxHeartbeats 4000000 in
theorem words_List.calls (k : Nat) (a0 : ByteArray) (r1 : List S26) (r2 : Int) (r3 : Int) (w : World) (h : words_List.f k a0 = some (r1, r2, r3)) :
    Calls Try.prog 11 #[.string a0] w fun e w' => ∃ v0_ : Value, e = .returned (.tuple #[v0_, .int .i64 r2, .int .i64 r3]) ∧ Kd.R k26 26 w' w.heap.size (fun _ => True) v0_ r1 ∧ Below w.heap.size w w' := by
  unfold words_List.f at h
  obtain ⟨ws, hws, h⟩ := Option.bind_eq_some_iff.mp h
  by_cases hlen : ws.length < 4398046511104
  · rw [if_pos hlen] at h
    obtain ⟨⟨kd, tx, wat, en, er⟩, hnx, h⟩ := Option.bind_eq_some_iff.mp h
    dsimp only at h
    have H := Aside0.mk h
    clear h
    refine (callsIn_wide (n := 6)).1 ?_
    refine callsIn_of_wp_marks Try.func11 rfl trivial ?_ rfl
    simp only [Try.ntmps11, List.size_toArray, List.length_cons, List.length_nil, Nat.reduceAdd, Nat.reduceSub, Array.replicate_succ, Array.replicate_zero, List.push_toArray, List.append_toArray, List.nil_append, List.cons_append]
    gi_wp2_with (refine ⟨trivial, ?_⟩; gi_at_call 15; refine (callsIn_wide.2 (words_All.calls a0 _)).mono ?_; rintro e w2 ⟨rfl, rfl⟩)
    obtain ⟨W0, hW0⟩ : ∃ W0, ((w.alloc (.cells #[.slice none 0 0] 31)).alloc (.cells #[.int .i64 0] 3)).alloc (.cells #[.string a0] 9) = W0 := ⟨_, rfl⟩
    have hs0 : W0.heap.size = w.heap.size + 3 := by rw [← hW0]; simp
    have hb0 : Below w.heap.size w W0 := by rw [← hW0]; exact (((Below.refl _ w).alloc (Nat.le_refl _) _).alloc (by simp) _).alloc (by simp; omega) _
    have hv5 : Boxed W0 w.heap.size 31 (.slice none 0 0) := by rw [← hW0]; exact ((Boxed.new w 31 (.slice none 0 0)).alloc _).alloc _
    have hv6 : Boxed W0 (w.heap.size + 1) 3 (.int .i64 0) := by
      rw [← hW0]
      have := (Boxed.new (w.alloc (.cells #[.slice none 0 0] 31)) 3 (.int .i64 0)).alloc (.cells #[.string a0] 9)
      rwa [World.size_alloc] at this
    have hv7 : W0.heap[w.heap.size + 2]? = some (.cells #[.string a0] 9 (0, 0)) := by
      rw [← hW0]
      have := Boxed.new ((w.alloc (.cells #[.slice none 0 0] 31)).alloc (.cells #[.int .i64 0] 3)) 9 (.string a0)
      rw [World.size_alloc, World.size_alloc] at this
      exact this
    rw [hW0]
    clear hW0
    obtain ⟨i0, hi, hz0, hz1, hz2⟩ := info_parts infoW
    refine wpIn_rangeFunc_ownH rfl (by omega) (gf := 22) (lb := #[.pointer (some ⟨w.heap.size + 2, 0, none⟩)]) rfl trivial (enters_of Try.func22 (by kernel_rfl) rfl)
      (all_stops k a0 ws hws (6 - 1) (by omega) (w.heap.size + 2) W0 hv7) (fun h k => k.trans h) (fun W l o o' hl _ _ _ => World.putObj_heap_other (by omega)) (Below.refl _ _) (fun _ => rfl)
      (ListAt a0 w) (fun _ _ _ => False) ?hI (fun _ _ _ _ _ hs _ _ => hs) ?h0
      (fun x a' W => ∃ Bx, w.heap.size + 2 < Bx ∧ W.heap[Bx]? = some (.cells #[.int .i64 x.f0, .string x.f1, .int .i64 x.f2] 26 (0, 0)) ∧ (∃ v, Boxed W w.heap.size 31 v ∧ some Bx ≠ v.ownBlock) ∧ a' = { tmps := #[.string a0, undef, .slice none 0 0, .int .i64 0, .int .i64 0, .pointer (some ⟨w.heap.size, 0, none⟩), .pointer (some ⟨w.heap.size + 1, 0, none⟩), .pointer (some ⟨Bx, 0, none⟩), undef, undef, undef, .string a0, .func (.func 22) #[] #[.pointer (some ⟨w.heap.size + 1 + 1, 0, none⟩)], .agg #[.int .i64 x.f0, .string x.f1, .int .i64 x.f2], undef, undef, undef, undef, undef, undef, undef, undef, undef, undef, undef, undef, undef, undef, undef, undef, undef, undef, undef, undef, undef, undef], defers := [] })
      ?hAx ?assign ?body ?done ?stop
    case hI =>
      refine OwnFrom.and (Own.from ?_ _) (OwnFrom.and (Own.from (boxed_own _ _ _) _) (OwnFrom.and (ownFrom_below (Nat.le_refl _) (by omega)) (Own.from (boxed_own _ _ _) _)))
      have := holdsRow_own w.heap.size w.heap.size 31 26 3 (fun pre : List S26 => pre.length) (fun pre => flatW pre) (fun _ _ => True)
      intro s A B row ⟨v, hv, hr⟩ hg hrow
      obtain ⟨v', hv', hr', _⟩ := this s A B row ⟨v, hv, hr, trivial⟩ hg hrow
      exact ⟨v', hv', hr'⟩
    case h0 => exact ⟨⟨_, hv5, World.ownsRow_nil _ _ _ _⟩, hv6, hb0, hv7⟩
    case hAx =>
      intro x a' _ A B row ⟨Bx, h1, h2, ⟨v, h4, h5⟩, h3⟩ hg hrow
      have hno : ∀ q (cs : Array Value) (tt : TypeId) (z : Nat × Nat), A.heap[q]? = some (.cells cs tt z) → some q ≠ row := fun q cs tt z hq e => by
        obtain ⟨_, o, ho, hno⟩ := hrow q e.symm
        rw [hq] at ho
        cases ho
        cases hno
      exact ⟨Bx, h1, (hg.block Bx (Array.getElem?_eq_some_iff.1 h2).1 (hno _ _ _ _ h2)).trans h2, ⟨v, h4.kept hg (hno _ _ _ _ h4), h5⟩, h3⟩
    case assign =>
      intro l pre x W K hI hK
      dsimp only [encW]
      gi_wp2
      obtain ⟨⟨v, hv, hr⟩, hv6', hB, hv7'⟩ := hI
      have hsz := hv7'.lt
      refine hK _ _ ((KeepsOthers.alloc _ _).from _) (Below.heap_alloc _ _ _ hsz) ⟨⟨v, hv.alloc _, hr.alloc _⟩, hv6'.alloc _, hB.alloc hB.size _, hv7'.alloc _⟩ ⟨W.heap.size, hsz, World.alloc_heap_new W _, ⟨v, hv.alloc _, fun e => ?_⟩, rfl⟩
      have := (hr.lt _ e.symm).2
      omega
    case body =>
      rintro l pre x a' W hl ⟨r, hr⟩ ⟨⟨v, hv, hrow⟩, hv6', hB, hv7'⟩ ⟨Bx, hBx, hbx, ⟨v2, hv2, hne⟩, rfl⟩ hlt
      obtain rfl : v2 = v := by
        have := hv.symm.trans hv2
        simp at this
        exact this.symm
      have hc5 := hv.cell
      have hf5 := hv.frozen
      have hc6 := hv6'.cell
      have hf6 := hv6'.frozen
      have hb0' : W.cell? ⟨Bx, 0, none⟩ = some (.int .i64 x.f0) := by simp [World.cell?, hbx]
      have hb1' : W.cell? ⟨Bx, 1, none⟩ = some (.string x.f1) := by simp [World.cell?, hbx]
      have hb2' : W.cell? ⟨Bx, 2, none⟩ = some (.int .i64 x.f2) := by simp [World.cell?, hbx]
      have hBxl : Bx < W.heap.size := (Array.getElem?_eq_some_iff.1 hbx).1
      have hsz := hv7'.lt
      have hcn := cells_new W #[.int .i64 x.f0, .string x.f1, .int .i64 x.f2] 26
      have hcn := Aside0.mk hcn
      gi_upto_region 6 with (gi_at_builtin; refine wpListIn_append_own _ rfl _ _ 31 rfl w.heap.size 26 i0 (.agg #[.int .i64 0, .string ⟨#[]⟩, .int .i64 0]) 3 32 Try.underlying31 hi hz0 hz1 hz2 rfl (by decide) _ _ _ rfl (hrow.alloc _) ⟨W.heap.size, 0, none⟩ 1 1 (cellsW x) rfl rfl hcn.out (by simp [cellsW, Value.oneCell']) (by unfold maxLen; omega) (by omega) (by have := hB.size; simp; omega) ?_; intro v' w1 hown' hgrow _; obtain ⟨g', cap', rfl⟩ := ownsRow_succ hown'; obtain ⟨hv1, hv2, hr2, hk2, hb2⟩ := hv.appended (by decide) hrow hB.size (Nat.le_refl _) hown' hgrow; have hcc5 := hv1.cell; have hff5 := hv1.frozen)
      have hx1 := (hgrow.block Bx (by simp; omega) hne).trans ((Below.heap_alloc W _ Bx hBxl).trans hbx)
      have hv61 := (hv6'.alloc _).kept hgrow (hv6'.not_row (by decide) hrow)
      have hv71 := (hv7'.alloc _).kept hgrow (hv7'.not_row (by decide) hrow)
      have hx2 := (Below.heap_setCell w1 ⟨w.heap.size, 0, none⟩ (.slice (some ⟨g', 0, none⟩) (pre.length + 1) cap') Bx (by simp; omega)).trans hx1
      have hv62 := Boxed.other (B' := w.heap.size) hv61 (by omega) (.slice (some ⟨g', 0, none⟩) (pre.length + 1) cap')
      have hv72 := Boxed.other (B' := w.heap.size) hv71 (by omega) (.slice (some ⟨g', 0, none⟩) (pre.length + 1) cap')
      generalize w1.setCell ⟨w.heap.size, 0, none⟩ (.slice (some ⟨g', 0, none⟩) (pre.length + 1) cap') = W5 at hv2 hr2 hk2 hb2 hx2 hv62 hv72 ⊢
      clear hcc5 hff5 hv61 hv71 hx1 hc5 hf5 hc6 hf6 hb0' hb1' hb2' hcn
      have hxc1 : W5.cell? ⟨Bx, 1, none⟩ = some (.string x.f1) := by simp [World.cell?, hx2]
      have hxc2 : W5.cell? ⟨Bx, 2, none⟩ = some (.int .i64 x.f2) := by simp [World.cell?, hx2]
      have hcc6 := hv62.cell
      have hff6 := hv62.frozen
      have HH := Aside0.mk (And.intro hv2 (And.intro hr2 (And.intro hk2 (And.intro hb2 (And.intro hv62 (And.intro hv72 (And.intro hB (And.intro hv7' hown'))))))))
      clear hv2 hr2 hk2 hb2 hv62 hv72 hB hv7' hx2 hv1 hgrow hown' hbx hv hrow hv6'
      gi_wp2
      obtain ⟨hv2, hr2, hk2, hb2, hv62, hv72, hB, hv7', _⟩ := HH.out
      have hg6 := grownBy_setCell' W5 (w.heap.size + 1) (.int .i64 (wrap64 (x.f2 + (x.f1.size : Int))))
      refine ⟨(hk2.trans (KeepsOthers.setCell _ _ _)).from _, ?_, ⟨⟨_, hv2.kept hg6 (by simp), ?_⟩, ?_, ?_, ?_⟩⟩
      · exact ((Boxed.other (B' := w.heap.size + 1) hv72 (by omega) _).trans hv7'.symm : _ = _)
      · rw [flatW_snoc, List.length_append, List.length_singleton]
        exact hr2.kept hg6 (.inr (hv62.not_row (by decide) hr2).symm)
      · rw [endW_snoc]
        exact hv62.set _
      · exact (hB.trans hb2).setCell (p := ⟨w.heap.size + 1, 0, none⟩) (by simp) _
      · exact Boxed.other (B' := w.heap.size + 1) hv72 (by omega) _
    case done =>
      rintro D ys W hD rfl ⟨⟨v, hv, hr⟩, hv6', hB, hv7'⟩ hK
      have hc5 := hv.cell
      have hc6 := hv6'.cell
      have HN := Aside0.mk (words_Next.calls k a0 (endW ys) kd tx wat en er W hnx)
      have HR := Aside0.mk (And.intro hr (And.intro hB hK))
      have hKlt := (Array.getElem?_eq_some_iff.1 hK).1
      clear hnx hr hB hK
      by_cases c1 : er = 0
      · have hh := H.out
        rw [if_pos c1] at hh
        simp only [Option.some.injEq, Prod.mk.injEq] at hh
        obtain ⟨rfl, rfl, rfl⟩ := hh
        have c1b : (er != 0) = false := bne_eq_false_iff_eq.mpr c1
        clear c1
        gi_upto_region 8 with (refine ⟨trivial, ?_⟩; gi_at_call 9; refine (callsIn_wide.2 HN.out).mono ?_; rintro e w2 ⟨rfl, hb2⟩)
        have hbl : Below W.heap.size W (w2.alloc (.cells #[.int .i64 kd, .string tx, .int .i64 wat] 26)) := hb2.alloc hb2.size _
        generalize w2.alloc (.cells #[.int .i64 kd, .string tx, .int .i64 wat] 26) = W3 at hbl ⊢
        have hc5' : W3.cell? ⟨w.heap.size, 0, none⟩ = some v := (hbl.cell (p := ⟨w.heap.size, 0, none⟩) hv.lt).trans hc5
        have hK3 := (hbl.block D hKlt).trans HR.out.2.2
        have HK3 := Aside0.mk hK3
        have HBL := Aside0.mk hbl
        clear hb2 hK3 hbl hc5 hc6
        gi_wp2
        refine ⟨by simp, .inl ⟨_, _, rfl, run_takeDeferred HK3.out, ?_⟩⟩
        refine ⟨_, by simp [results, Try.results11, go_sem], v, rfl, ?_, ?_⟩
        · exact R_of_own (ownsRow_putObj ((HR.out.1).kept (grown_of_below HBL.out) (by cases v.ownBlock with | none => exact .inl rfl | some _ => exact .inr (by simp))) _ HK3.out rfl)
        · exact (HR.out.2.1.trans (HBL.out.mono HR.out.2.1.size)).grown (grownBy_putObj' _ _ _) (HR.out.2.1.trans (HBL.out.mono HR.out.2.1.size)).size (fun q e => by cases e; omega)
      · have hh := H.out
        rw [if_neg c1] at hh
        simp only [Option.some.injEq, Prod.mk.injEq] at hh
        obtain ⟨rfl, rfl, rfl⟩ := hh
        have c1b : (er != 0) = true := bne_iff_ne.mpr c1
        clear c1
        gi_upto_region 8 with (refine ⟨trivial, ?_⟩; gi_at_call 9; refine (callsIn_wide.2 HN.out).mono ?_; rintro e w2 ⟨rfl, hb2⟩)
        have hbl : Below W.heap.size W (w2.alloc (.cells #[.int .i64 kd, .string tx, .int .i64 wat] 26)) := hb2.alloc hb2.size _
        generalize w2.alloc (.cells #[.int .i64 kd, .string tx, .int .i64 wat] 26) = W3 at hbl ⊢
        have hc5' : W3.cell? ⟨w.heap.size, 0, none⟩ = some v := (hbl.cell (p := ⟨w.heap.size, 0, none⟩) hv.lt).trans hc5
        have hK3 := (hbl.block D hKlt).trans HR.out.2.2
        have HK3 := Aside0.mk hK3
        have HBL := Aside0.mk hbl
        clear hb2 hK3 hbl hc5 hc6
        gi_wp2
        refine ⟨by simp, .inl ⟨_, _, rfl, run_takeDeferred HK3.out, ?_⟩⟩
        refine ⟨_, by simp [results, Try.results11, go_sem], .slice none 0 0, rfl, ?_, ?_⟩
        · exact Kd.R_nil _ _ _ _ _
        · exact (HR.out.2.1.trans (HBL.out.mono HR.out.2.1.size)).grown (grownBy_putObj' _ _ _) (HR.out.2.1.trans (HBL.out.mono HR.out.2.1.size)).size (fun q e => by cases e; omega)
    case stop => exact fun D c pre W _ _ h _ => h.elim
  · rw [if_neg hlen] at h
    cases h
end

/-! ### amalgamlaw02_head: function 8 -/
def amalgamlaw02_head.f (k : Nat)  : Option (Bool) := (words_List.f k (⟨#[102, 40, 88, 41, 32, 45, 62, 32, 95, 49]⟩ : ByteArray)).bind fun bt103 => (if bt103.2.1 = 0 then (if bt103.2.2 = 0 then (if (bt103.1.length : Int) = 6 then (if 0 < (bt103.1.length : Int) then (if ((rd_T26 bt103.1 0).f0) = 1 then (if 2 < (bt103.1.length : Int) then (if ((rd_T26 bt103.1 2).f0) = 2 then (if 4 < (bt103.1.length : Int) then (if ((rd_T26 bt103.1 4).f0) = 7 then (if 5 < (bt103.1.length : Int) then (if ((rd_T26 bt103.1 5).f1).toList = ([95, 49] : List UInt8) then (some (((rd_T26 bt103.1 5).f2) == 8)) else (some false)) else (none)) else (some false)) else (none)) else (some false)) else (none)) else (some false)) else (none)) else (some false)) else (some false)) else (some false))
theorem amalgamlaw02_head.mono : ∀ k, LeO (amalgamlaw02_head.f k ) (amalgamlaw02_head.f (k + 1) ) := by
  intro  k
  unfold amalgamlaw02_head.f
  repeat' first
      | (with_reducible exact words_List.mono _ _)
      | (with_reducible exact LeO.refl _)
      | (with_reducible exact LeO.none _)
      | (with_reducible refine LeO.ite ?_ ?_)
      | (with_reducible refine LeO.bind ?_ (fun _ => ?_))
      | exact words_List.mono _ _
      | exact LeO.none _
      | refine LeO.ite ?_ ?_
      | refine LeO.bind ?_ (fun _ => ?_)
set_option maxHeartbeats 4000000 in
set_option maxRecDepth 100000 in
theorem amalgamlaw02_head.calls (k : Nat)  (r : Bool) (w : World) (h : amalgamlaw02_head.f k  = some r) :
    Calls Try.prog 8 #[] w fun e w' => e = .returned (.bool r) ∧ Below w.heap.size w w' := by
  have HB := Aside0.mk (Below.refl w.heap.size w)
  have H : ((words_List.f k (⟨#[102, 40, 88, 41, 32, 45, 62, 32, 95, 49]⟩ : ByteArray)).bind fun bt103 => (if bt103.2.1 = 0 then (if bt103.2.2 = 0 then (if (bt103.1.length : Int) = 6 then (if 0 < (bt103.1.length : Int) then (if ((rd_T26 bt103.1 0).f0) = 1 then (if 2 < (bt103.1.length : Int) then (if ((rd_T26 bt103.1 2).f0) = 2 then (if 4 < (bt103.1.length : Int) then (if ((rd_T26 bt103.1 4).f0) = 7 then (if 5 < (bt103.1.length : Int) then (if ((rd_T26 bt103.1 5).f1).toList = ([95, 49] : List UInt8) then (some (((rd_T26 bt103.1 5).f2) == 8)) else (some false)) else (none)) else (some false)) else (none)) else (some false)) else (none)) else (some false)) else (none)) else (some false)) else (some false)) else (some false))) = some r := h
  clear h
  replace H := Option.bind_eq_some_iff.mp H
  obtain ⟨⟨t103, t104, t105⟩, A10, H⟩ := H
  replace H : (if t104 = 0 then (if t105 = 0 then (if (t103.length : Int) = 6 then (if 0 < (t103.length : Int) then (if ((rd_T26 t103 0).f0) = 1 then (if 2 < (t103.length : Int) then (if ((rd_T26 t103 2).f0) = 2 then (if 4 < (t103.length : Int) then (if ((rd_T26 t103 4).f0) = 7 then (if 5 < (t103.length : Int) then (if ((rd_T26 t103 5).f1).toList = ([95, 49] : List UInt8) then (some (((rd_T26 t103 5).f2) == 8)) else (some false)) else (none)) else (some false)) else (none)) else (some false)) else (none)) else (some false)) else (none)) else (some false)) else (some false)) else (some false)) = some r := H
  have A1 := Aside0.mk A10
  clear A10
  by_cases c2 : t104 = 0
  · rw [if_pos c2] at H
    have c2b0 : (t104 == 0) = true := beq_iff_eq.mpr c2
    have c2b1 : (t104 != 0) = false := bne_eq_false_iff_eq.mpr c2
    clear c2
    by_cases c3 : t105 = 0
    · rw [if_pos c3] at H
      have c3b0 : (t105 == 0) = true := beq_iff_eq.mpr c3
      have c3b1 : (t105 != 0) = false := bne_eq_false_iff_eq.mpr c3
      clear c3
      by_cases c4 : (t103.length : Int) = 6
      · rw [if_pos c4] at H
        have c4b0 : ((t103.length : Int) == 6) = true := beq_iff_eq.mpr c4
        have c4b1 : ((t103.length : Int) != 6) = false := bne_eq_false_iff_eq.mpr c4
        clear c4
        by_cases c5 : 0 < (t103.length : Int)
        · rw [if_pos c5] at H
          have c5b0 : decide (0 < (t103.length : Int)) = true := decide_eq_true c5
          have c5b1 : decide (0 < t103.length) = true := decide_eq_true (by omega)
          clear c5
          by_cases c6 : ((rd_T26 t103 0).f0) = 1
          · rw [if_pos c6] at H
            have c6b0 : (((rd_T26 t103 0).f0) == 1) = true := beq_iff_eq.mpr c6
            have c6b1 : (((rd_T26 t103 0).f0) != 1) = false := bne_eq_false_iff_eq.mpr c6
            clear c6
            by_cases c7 : 2 < (t103.length : Int)
            · rw [if_pos c7] at H
              have c7b0 : decide (2 < (t103.length : Int)) = true := decide_eq_true c7
              have c7b1 : decide (2 < t103.length) = true := decide_eq_true (by omega)
              clear c7
              by_cases c8 : ((rd_T26 t103 2).f0) = 2
              · rw [if_pos c8] at H
                have c8b0 : (((rd_T26 t103 2).f0) == 2) = true := beq_iff_eq.mpr c8
                have c8b1 : (((rd_T26 t103 2).f0) != 2) = false := bne_eq_false_iff_eq.mpr c8
                clear c8
                by_cases c9 : 4 < (t103.length : Int)
                · rw [if_pos c9] at H
                  have c9b0 : decide (4 < (t103.length : Int)) = true := decide_eq_true c9
                  have c9b1 : decide (4 < t103.length) = true := decide_eq_true (by omega)
                  clear c9
                  by_cases c10 : ((rd_T26 t103 4).f0) = 7
                  · rw [if_pos c10] at H
                    have c10b0 : (((rd_T26 t103 4).f0) == 7) = true := beq_iff_eq.mpr c10
                    have c10b1 : (((rd_T26 t103 4).f0) != 7) = false := bne_eq_false_iff_eq.mpr c10
                    clear c10
                    by_cases c11 : 5 < (t103.length : Int)
                    · rw [if_pos c11] at H
                      have c11b0 : decide (5 < (t103.length : Int)) = true := decide_eq_true c11
                      have c11b1 : decide (5 < t103.length) = true := decide_eq_true (by omega)
                      clear c11
                      by_cases c12 : ((rd_T26 t103 5).f1).toList = ([95, 49] : List UInt8)
                      · rw [if_pos c12] at H
                        have c12b0 : (((rd_T26 t103 5).f1).toList == ([95, 49] : List UInt8)) = true := beq_iff_eq.mpr c12
                        have c12b1 : (((rd_T26 t103 5).f1).toList != ([95, 49] : List UInt8)) = false := bne_eq_false_iff_eq.mpr c12
                        clear c12
                        obtain rfl := Option.some.inj H
                        go_enter Try.func8, Try.ntmps8
                        go_wp2_with (first | ((with_reducible refine gate_callee (f := 11) rfl ?_); refine goesL_ (some 5) rfl rfl Try.func11 (by kernel_rfl) rfl #[.string (⟨#[102, 40, 88, 41, 32, 45, 62, 32, 95, 49]⟩ : ByteArray)] rfl (by (try simp only [List.map_toArray, List.map_cons, List.map_nil]); first | done | rfl | (simp only [List.length_drop, List.length_take]; rfl)) ?_; (with_reducible refine (words_List.calls k (⟨#[102, 40, 88, 41, 32, 45, 62, 32, 95, 49]⟩ : ByteArray) t103 t104 t105 _ A1.out).mono ?_); rintro e w13 ⟨v106, rfl, ho0, hb⟩; refine ⟨_, rfl, ?_⟩; have n0_ := Aside0.mk (Kd.R_lower ho0 (below_size (by repeat (first | (with_reducible first | exact HB.out | apply below_alloc | apply pw_below_drewN | apply below_drew1) | exact HB.out)))); have n1_ := Aside0.mk (below_step (by repeat (first | (with_reducible first | exact HB.out | apply below_alloc | apply pw_below_drewN | apply below_drew1) | exact HB.out)) hb); clear HB; have HO107 := n0_; have HB := n1_; clear n0_ n1_; (try clear hb); (try clear hb2); (try clear hk); (try clear hi); (try clear ho0); obtain ⟨Ao14, co14, eo14⟩ := Kd.R_slice HO107.out; subst eo14; have p108 : 0 ≤ (0 : Int) := (by omega); have q108 : 0 < (t103.length : Int) := of_decide_eq_true (by first | (with_reducible assumption) | assumption); obtain ⟨ad108, e108, hx108_0, hx108_1, hx108_2⟩ := at_T26 (Kd.R_reads' HO107.out).2.2 0 p108 q108; cases e108; have qi108 : (0 < t103.length) = True := eq_true (by omega); (try rw [show ((0 : Int)).toNat = 0 from rfl] at hx108_0); (try rw [show 0 * 3 = 0 from rfl] at hx108_0); (try rw [Addr.add_zero'] at hx108_0); (try rw [show ((0 : Int)).toNat = 0 from rfl] at hx108_1); (try rw [show 0 * 3 = 0 from rfl] at hx108_1); (try rw [Addr.add_zero'] at hx108_1); (try rw [show ((0 : Int)).toNat = 0 from rfl] at hx108_2); (try rw [show 0 * 3 = 0 from rfl] at hx108_2); (try rw [Addr.add_zero'] at hx108_2); replace p108 := eq_true p108; replace q108 := eq_true q108; have p109 : 0 ≤ (2 : Int) := (by omega); have q109 : 2 < (t103.length : Int) := of_decide_eq_true (by first | (with_reducible assumption) | assumption); obtain ⟨ad109, e109, hx109_0, hx109_1, hx109_2⟩ := at_T26 (Kd.R_reads' HO107.out).2.2 2 p109 q109; obtain rfl : ad108 = ad109 := (by injection e109); (try simp only [show (2 : Int).toNat = 2 from rfl, Nat.reduceMul, Nat.reduceEqDiff, Go.Addr.add, ↓reduceIte] at hx109_0); (try simp only [show (2 : Int).toNat = 2 from rfl, Nat.reduceMul, Nat.reduceEqDiff, Go.Addr.add, ↓reduceIte] at hx109_1); (try simp only [show (2 : Int).toNat = 2 from rfl, Nat.reduceMul, Nat.reduceEqDiff, Go.Addr.add, ↓reduceIte] at hx109_2); have qi109 : (2 < t103.length) = True := eq_true (by omega); (try rw [show ((2 : Int)).toNat = 2 from rfl] at hx109_0); (try rw [show 2 * 3 = 6 from rfl] at hx109_0); (try rw [show ((2 : Int)).toNat = 2 from rfl] at hx109_1); (try rw [show 2 * 3 = 6 from rfl] at hx109_1); (try rw [show ((2 : Int)).toNat = 2 from rfl] at hx109_2); (try rw [show 2 * 3 = 6 from rfl] at hx109_2); replace p109 := eq_true p109; replace q109 := eq_true q109; have p110 : 0 ≤ (4 : Int) := (by omega); have q110 : 4 < (t103.length : Int) := of_decide_eq_true (by first | (with_reducible assumption) | assumption); obtain ⟨ad110, e110, hx110_0, hx110_1, hx110_2⟩ := at_T26 (Kd.R_reads' HO107.out).2.2 4 p110 q110; obtain rfl : ad108 = ad110 := (by injection e110); (try simp only [show (4 : Int).toNat = 4 from rfl, Nat.reduceMul, Nat.reduceEqDiff, Go.Addr.add, ↓reduceIte] at hx110_0); (try simp only [show (4 : Int).toNat = 4 from rfl, Nat.reduceMul, Nat.reduceEqDiff, Go.Addr.add, ↓reduceIte] at hx110_1); (try simp only [show (4 : Int).toNat = 4 from rfl, Nat.reduceMul, Nat.reduceEqDiff, Go.Addr.add, ↓reduceIte] at hx110_2); have qi110 : (4 < t103.length) = True := eq_true (by omega); (try rw [show ((4 : Int)).toNat = 4 from rfl] at hx110_0); (try rw [show 4 * 3 = 12 from rfl] at hx110_0); (try rw [show ((4 : Int)).toNat = 4 from rfl] at hx110_1); (try rw [show 4 * 3 = 12 from rfl] at hx110_1); (try rw [show ((4 : Int)).toNat = 4 from rfl] at hx110_2); (try rw [show 4 * 3 = 12 from rfl] at hx110_2); replace p110 := eq_true p110; replace q110 := eq_true q110; have p111 : 0 ≤ (5 : Int) := (by omega); have q111 : 5 < (t103.length : Int) := of_decide_eq_true (by first | (with_reducible assumption) | assumption); obtain ⟨ad111, e111, hx111_0, hx111_1, hx111_2⟩ := at_T26 (Kd.R_reads' HO107.out).2.2 5 p111 q111; obtain rfl : ad108 = ad111 := (by injection e111); (try simp only [show (5 : Int).toNat = 5 from rfl, Nat.reduceMul, Nat.reduceEqDiff, Go.Addr.add, ↓reduceIte] at hx111_0); (try simp only [show (5 : Int).toNat = 5 from rfl, Nat.reduceMul, Nat.reduceEqDiff, Go.Addr.add, ↓reduceIte] at hx111_1); (try simp only [show (5 : Int).toNat = 5 from rfl, Nat.reduceMul, Nat.reduceEqDiff, Go.Addr.add, ↓reduceIte] at hx111_2); have qi111 : (5 < t103.length) = True := eq_true (by omega); (try rw [show ((5 : Int)).toNat = 5 from rfl] at hx111_0); (try rw [show 5 * 3 = 15 from rfl] at hx111_0); (try rw [show ((5 : Int)).toNat = 5 from rfl] at hx111_1); (try rw [show 5 * 3 = 15 from rfl] at hx111_1); (try rw [show ((5 : Int)).toNat = 5 from rfl] at hx111_2); (try rw [show 5 * 3 = 15 from rfl] at hx111_2); replace p111 := eq_true p111; replace q111 := eq_true q111; have p112 : 0 ≤ (5 : Int) := (by omega); have q112 : 5 < (t103.length : Int) := of_decide_eq_true (by first | (with_reducible assumption) | assumption); obtain ⟨ad112, e112, hx112_0, hx112_1, hx112_2⟩ := at_T26 (Kd.R_reads' HO107.out).2.2 5 p112 q112; obtain rfl : ad108 = ad112 := (by injection e112); (try simp only [show (5 : Int).toNat = 5 from rfl, Nat.reduceMul, Nat.reduceEqDiff, Go.Addr.add, ↓reduceIte] at hx112_0); (try simp only [show (5 : Int).toNat = 5 from rfl, Nat.reduceMul, Nat.reduceEqDiff, Go.Addr.add, ↓reduceIte] at hx112_1); (try simp only [show (5 : Int).toNat = 5 from rfl, Nat.reduceMul, Nat.reduceEqDiff, Go.Addr.add, ↓reduceIte] at hx112_2); have qi112 : (5 < t103.length) = True := eq_true (by omega); (try rw [show ((5 : Int)).toNat = 5 from rfl] at hx112_0); (try rw [show 5 * 3 = 15 from rfl] at hx112_0); (try rw [show ((5 : Int)).toNat = 5 from rfl] at hx112_1); (try rw [show 5 * 3 = 15 from rfl] at hx112_1); (try rw [show ((5 : Int)).toNat = 5 from rfl] at hx112_2); (try rw [show 5 * 3 = 15 from rfl] at hx112_2); replace p112 := eq_true p112; replace q112 := eq_true q112))
                        go_ret
                        exact ⟨by first | rfl | (simp [errW_none, errW_some] <;> rfl) | (simp [*, errW_none, errW_some] <;> rfl), by repeat (first | (with_reducible first | exact HB.out | apply below_alloc | apply pw_below_drewN | apply below_drew1) | exact HB.out)⟩
                      · rw [if_neg c12] at H
                        have c12b0 : (((rd_T26 t103 5).f1).toList == ([95, 49] : List UInt8)) = false := beq_eq_false_iff_ne.mpr c12
                        have c12b1 : (((rd_T26 t103 5).f1).toList != ([95, 49] : List UInt8)) = true := bne_iff_ne.mpr c12
                        obtain rfl := Option.some.inj H
                        go_enter Try.func8, Try.ntmps8
                        go_wp2_with (first | ((with_reducible refine gate_callee (f := 11) rfl ?_); refine goesL_ (some 5) rfl rfl Try.func11 (by kernel_rfl) rfl #[.string (⟨#[102, 40, 88, 41, 32, 45, 62, 32, 95, 49]⟩ : ByteArray)] rfl (by (try simp only [List.map_toArray, List.map_cons, List.map_nil]); first | done | rfl | (simp only [List.length_drop, List.length_take]; rfl)) ?_; (with_reducible refine (words_List.calls k (⟨#[102, 40, 88, 41, 32, 45, 62, 32, 95, 49]⟩ : ByteArray) t103 t104 t105 _ A1.out).mono ?_); rintro e w15 ⟨v106, rfl, ho0, hb⟩; refine ⟨_, rfl, ?_⟩; have n0_ := Aside0.mk (Kd.R_lower ho0 (below_size (by repeat (first | (with_reducible first | exact HB.out | apply below_alloc | apply pw_below_drewN | apply below_drew1) | exact HB.out)))); have n1_ := Aside0.mk (below_step (by repeat (first | (with_reducible first | exact HB.out | apply below_alloc | apply pw_below_drewN | apply below_drew1) | exact HB.out)) hb); clear HB; have HO107 := n0_; have HB := n1_; clear n0_ n1_; (try clear hb); (try clear hb2); (try clear hk); (try clear hi); (try clear ho0); obtain ⟨Ao16, co16, eo16⟩ := Kd.R_slice HO107.out; subst eo16; have p108 : 0 ≤ (0 : Int) := (by omega); have q108 : 0 < (t103.length : Int) := of_decide_eq_true (by first | (with_reducible assumption) | assumption); obtain ⟨ad108, e108, hx108_0, hx108_1, hx108_2⟩ := at_T26 (Kd.R_reads' HO107.out).2.2 0 p108 q108; cases e108; have qi108 : (0 < t103.length) = True := eq_true (by omega); (try rw [show ((0 : Int)).toNat = 0 from rfl] at hx108_0); (try rw [show 0 * 3 = 0 from rfl] at hx108_0); (try rw [Addr.add_zero'] at hx108_0); (try rw [show ((0 : Int)).toNat = 0 from rfl] at hx108_1); (try rw [show 0 * 3 = 0 from rfl] at hx108_1); (try rw [Addr.add_zero'] at hx108_1); (try rw [show ((0 : Int)).toNat = 0 from rfl] at hx108_2); (try rw [show 0 * 3 = 0 from rfl] at hx108_2); (try rw [Addr.add_zero'] at hx108_2); replace p108 := eq_true p108; replace q108 := eq_true q108; have p109 : 0 ≤ (2 : Int) := (by omega); have q109 : 2 < (t103.length : Int) := of_decide_eq_true (by first | (with_reducible assumption) | assumption); obtain ⟨ad109, e109, hx109_0, hx109_1, hx109_2⟩ := at_T26 (Kd.R_reads' HO107.out).2.2 2 p109 q109; obtain rfl : ad108 = ad109 := (by injection e109); (try simp only [show (2 : Int).toNat = 2 from rfl, Nat.reduceMul, Nat.reduceEqDiff, Go.Addr.add, ↓reduceIte] at hx109_0); (try simp only [show (2 : Int).toNat = 2 from rfl, Nat.reduceMul, Nat.reduceEqDiff, Go.Addr.add, ↓reduceIte] at hx109_1); (try simp only [show (2 : Int).toNat = 2 from rfl, Nat.reduceMul, Nat.reduceEqDiff, Go.Addr.add, ↓reduceIte] at hx109_2); have qi109 : (2 < t103.length) = True := eq_true (by omega); (try rw [show ((2 : Int)).toNat = 2 from rfl] at hx109_0); (try rw [show 2 * 3 = 6 from rfl] at hx109_0); (try rw [show ((2 : Int)).toNat = 2 from rfl] at hx109_1); (try rw [show 2 * 3 = 6 from rfl] at hx109_1); (try rw [show ((2 : Int)).toNat = 2 from rfl] at hx109_2); (try rw [show 2 * 3 = 6 from rfl] at hx109_2); replace p109 := eq_true p109; replace q109 := eq_true q109; have p110 : 0 ≤ (4 : Int) := (by omega); have q110 : 4 < (t103.length : Int) := of_decide_eq_true (by first | (with_reducible assumption) | assumption); obtain ⟨ad110, e110, hx110_0, hx110_1, hx110_2⟩ := at_T26 (Kd.R_reads' HO107.out).2.2 4 p110 q110; obtain rfl : ad108 = ad110 := (by injection e110); (try simp only [show (4 : Int).toNat = 4 from rfl, Nat.reduceMul, Nat.reduceEqDiff, Go.Addr.add, ↓reduceIte] at hx110_0); (try simp only [show (4 : Int).toNat = 4 from rfl, Nat.reduceMul, Nat.reduceEqDiff, Go.Addr.add, ↓reduceIte] at hx110_1); (try simp only [show (4 : Int).toNat = 4 from rfl, Nat.reduceMul, Nat.reduceEqDiff, Go.Addr.add, ↓reduceIte] at hx110_2); have qi110 : (4 < t103.length) = True := eq_true (by omega); (try rw [show ((4 : Int)).toNat = 4 from rfl] at hx110_0); (try rw [show 4 * 3 = 12 from rfl] at hx110_0); (try rw [show ((4 : Int)).toNat = 4 from rfl] at hx110_1); (try rw [show 4 * 3 = 12 from rfl] at hx110_1); (try rw [show ((4 : Int)).toNat = 4 from rfl] at hx110_2); (try rw [show 4 * 3 = 12 from rfl] at hx110_2); replace p110 := eq_true p110; replace q110 := eq_true q110; have p111 : 0 ≤ (5 : Int) := (by omega); have q111 : 5 < (t103.length : Int) := of_decide_eq_true (by first | (with_reducible assumption) | assumption); obtain ⟨ad111, e111, hx111_0, hx111_1, hx111_2⟩ := at_T26 (Kd.R_reads' HO107.out).2.2 5 p111 q111; obtain rfl : ad108 = ad111 := (by injection e111); (try simp only [show (5 : Int).toNat = 5 from rfl, Nat.reduceMul, Nat.reduceEqDiff, Go.Addr.add, ↓reduceIte] at hx111_0); (try simp only [show (5 : Int).toNat = 5 from rfl, Nat.reduceMul, Nat.reduceEqDiff, Go.Addr.add, ↓reduceIte] at hx111_1); (try simp only [show (5 : Int).toNat = 5 from rfl, Nat.reduceMul, Nat.reduceEqDiff, Go.Addr.add, ↓reduceIte] at hx111_2); have qi111 : (5 < t103.length) = True := eq_true (by omega); (try rw [show ((5 : Int)).toNat = 5 from rfl] at hx111_0); (try rw [show 5 * 3 = 15 from rfl] at hx111_0); (try rw [show ((5 : Int)).toNat = 5 from rfl] at hx111_1); (try rw [show 5 * 3 = 15 from rfl] at hx111_1); (try rw [show ((5 : Int)).toNat = 5 from rfl] at hx111_2); (try rw [show 5 * 3 = 15 from rfl] at hx111_2); replace p111 := eq_true p111; replace q111 := eq_true q111))
                        go_ret
                        exact ⟨by first | rfl | (simp [errW_none, errW_some] <;> rfl) | (simp [*, errW_none, errW_some] <;> rfl), by repeat (first | (with_reducible first | exact HB.out | apply below_alloc | apply pw_below_drewN | apply below_drew1) | exact HB.out)⟩
                    · rw [if_neg c11] at H
                      exact absurd H (by simp)
                  · rw [if_neg c10] at H
                    have c10b0 : (((rd_T26 t103 4).f0) == 7) = false := beq_eq_false_iff_ne.mpr c10
                    have c10b1 : (((rd_T26 t103 4).f0) != 7) = true := bne_iff_ne.mpr c10
                    obtain rfl := Option.some.inj H
                    go_enter Try.func8, Try.ntmps8
                    go_wp2_with (first | ((with_reducible refine gate_callee (f := 11) rfl ?_); refine goesL_ (some 5) rfl rfl Try.func11 (by kernel_rfl) rfl #[.string (⟨#[102, 40, 88, 41, 32, 45, 62, 32, 95, 49]⟩ : ByteArray)] rfl (by (try simp only [List.map_toArray, List.map_cons, List.map_nil]); first | done | rfl | (simp only [List.length_drop, List.length_take]; rfl)) ?_; (with_reducible refine (words_List.calls k (⟨#[102, 40, 88, 41, 32, 45, 62, 32, 95, 49]⟩ : ByteArray) t103 t104 t105 _ A1.out).mono ?_); rintro e w17 ⟨v106, rfl, ho0, hb⟩; refine ⟨_, rfl, ?_⟩; have n0_ := Aside0.mk (Kd.R_lower ho0 (below_size (by repeat (first | (with_reducible first | exact HB.out | apply below_alloc | apply pw_below_drewN | apply below_drew1) | exact HB.out)))); have n1_ := Aside0.mk (below_step (by repeat (first | (with_reducible first | exact HB.out | apply below_alloc | apply pw_below_drewN | apply below_drew1) | exact HB.out)) hb); clear HB; have HO107 := n0_; have HB := n1_; clear n0_ n1_; (try clear hb); (try clear hb2); (try clear hk); (try clear hi); (try clear ho0); obtain ⟨Ao18, co18, eo18⟩ := Kd.R_slice HO107.out; subst eo18; have p108 : 0 ≤ (0 : Int) := (by omega); have q108 : 0 < (t103.length : Int) := of_decide_eq_true (by first | (with_reducible assumption) | assumption); obtain ⟨ad108, e108, hx108_0, hx108_1, hx108_2⟩ := at_T26 (Kd.R_reads' HO107.out).2.2 0 p108 q108; cases e108; have qi108 : (0 < t103.length) = True := eq_true (by omega); (try rw [show ((0 : Int)).toNat = 0 from rfl] at hx108_0); (try rw [show 0 * 3 = 0 from rfl] at hx108_0); (try rw [Addr.add_zero'] at hx108_0); (try rw [show ((0 : Int)).toNat = 0 from rfl] at hx108_1); (try rw [show 0 * 3 = 0 from rfl] at hx108_1); (try rw [Addr.add_zero'] at hx108_1); (try rw [show ((0 : Int)).toNat = 0 from rfl] at hx108_2); (try rw [show 0 * 3 = 0 from rfl] at hx108_2); (try rw [Addr.add_zero'] at hx108_2); replace p108 := eq_true p108; replace q108 := eq_true q108; have p109 : 0 ≤ (2 : Int) := (by omega); have q109 : 2 < (t103.length : Int) := of_decide_eq_true (by first | (with_reducible assumption) | assumption); obtain ⟨ad109, e109, hx109_0, hx109_1, hx109_2⟩ := at_T26 (Kd.R_reads' HO107.out).2.2 2 p109 q109; obtain rfl : ad108 = ad109 := (by injection e109); (try simp only [show (2 : Int).toNat = 2 from rfl, Nat.reduceMul, Nat.reduceEqDiff, Go.Addr.add, ↓reduceIte] at hx109_0); (try simp only [show (2 : Int).toNat = 2 from rfl, Nat.reduceMul, Nat.reduceEqDiff, Go.Addr.add, ↓reduceIte] at hx109_1); (try simp only [show (2 : Int).toNat = 2 from rfl, Nat.reduceMul, Nat.reduceEqDiff, Go.Addr.add, ↓reduceIte] at hx109_2); have qi109 : (2 < t103.length) = True := eq_true (by omega); (try rw [show ((2 : Int)).toNat = 2 from rfl] at hx109_0); (try rw [show 2 * 3 = 6 from rfl] at hx109_0); (try rw [show ((2 : Int)).toNat = 2 from rfl] at hx109_1); (try rw [show 2 * 3 = 6 from rfl] at hx109_1); (try rw [show ((2 : Int)).toNat = 2 from rfl] at hx109_2); (try rw [show 2 * 3 = 6 from rfl] at hx109_2); replace p109 := eq_true p109; replace q109 := eq_true q109; have p110 : 0 ≤ (4 : Int) := (by omega); have q110 : 4 < (t103.length : Int) := of_decide_eq_true (by first | (with_reducible assumption) | assumption); obtain ⟨ad110, e110, hx110_0, hx110_1, hx110_2⟩ := at_T26 (Kd.R_reads' HO107.out).2.2 4 p110 q110; obtain rfl : ad108 = ad110 := (by injection e110); (try simp only [show (4 : Int).toNat = 4 from rfl, Nat.reduceMul, Nat.reduceEqDiff, Go.Addr.add, ↓reduceIte] at hx110_0); (try simp only [show (4 : Int).toNat = 4 from rfl, Nat.reduceMul, Nat.reduceEqDiff, Go.Addr.add, ↓reduceIte] at hx110_1); (try simp only [show (4 : Int).toNat = 4 from rfl, Nat.reduceMul, Nat.reduceEqDiff, Go.Addr.add, ↓reduceIte] at hx110_2); have qi110 : (4 < t103.length) = True := eq_true (by omega); (try rw [show ((4 : Int)).toNat = 4 from rfl] at hx110_0); (try rw [show 4 * 3 = 12 from rfl] at hx110_0); (try rw [show ((4 : Int)).toNat = 4 from rfl] at hx110_1); (try rw [show 4 * 3 = 12 from rfl] at hx110_1); (try rw [show ((4 : Int)).toNat = 4 from rfl] at hx110_2); (try rw [show 4 * 3 = 12 from rfl] at hx110_2); replace p110 := eq_true p110; replace q110 := eq_true q110))
                    go_ret
                    exact ⟨by first | rfl | (simp [errW_none, errW_some] <;> rfl) | (simp [*, errW_none, errW_some] <;> rfl), by repeat (first | (with_reducible first | exact HB.out | apply below_alloc | apply pw_below_drewN | apply below_drew1) | exact HB.out)⟩
                · rw [if_neg c9] at H
                  exact absurd H (by simp)
              · rw [if_neg c8] at H
                have c8b0 : (((rd_T26 t103 2).f0) == 2) = false := beq_eq_false_iff_ne.mpr c8
                have c8b1 : (((rd_T26 t103 2).f0) != 2) = true := bne_iff_ne.mpr c8
                obtain rfl := Option.some.inj H
                go_enter Try.func8, Try.ntmps8
                go_wp2_with (first | ((with_reducible refine gate_callee (f := 11) rfl ?_); refine goesL_ (some 5) rfl rfl Try.func11 (by kernel_rfl) rfl #[.string (⟨#[102, 40, 88, 41, 32, 45, 62, 32, 95, 49]⟩ : ByteArray)] rfl (by (try simp only [List.map_toArray, List.map_cons, List.map_nil]); first | done | rfl | (simp only [List.length_drop, List.length_take]; rfl)) ?_; (with_reducible refine (words_List.calls k (⟨#[102, 40, 88, 41, 32, 45, 62, 32, 95, 49]⟩ : ByteArray) t103 t104 t105 _ A1.out).mono ?_); rintro e w19 ⟨v106, rfl, ho0, hb⟩; refine ⟨_, rfl, ?_⟩; have n0_ := Aside0.mk (Kd.R_lower ho0 (below_size (by repeat (first | (with_reducible first | exact HB.out | apply below_alloc | apply pw_below_drewN | apply below_drew1) | exact HB.out)))); have n1_ := Aside0.mk (below_step (by repeat (first | (with_reducible first | exact HB.out | apply below_alloc | apply pw_below_drewN | apply below_drew1) | exact HB.out)) hb); clear HB; have HO107 := n0_; have HB := n1_; clear n0_ n1_; (try clear hb); (try clear hb2); (try clear hk); (try clear hi); (try clear ho0); obtain ⟨Ao20, co20, eo20⟩ := Kd.R_slice HO107.out; subst eo20; have p108 : 0 ≤ (0 : Int) := (by omega); have q108 : 0 < (t103.length : Int) := of_decide_eq_true (by first | (with_reducible assumption) | assumption); obtain ⟨ad108, e108, hx108_0, hx108_1, hx108_2⟩ := at_T26 (Kd.R_reads' HO107.out).2.2 0 p108 q108; cases e108; have qi108 : (0 < t103.length) = True := eq_true (by omega); (try rw [show ((0 : Int)).toNat = 0 from rfl] at hx108_0); (try rw [show 0 * 3 = 0 from rfl] at hx108_0); (try rw [Addr.add_zero'] at hx108_0); (try rw [show ((0 : Int)).toNat = 0 from rfl] at hx108_1); (try rw [show 0 * 3 = 0 from rfl] at hx108_1); (try rw [Addr.add_zero'] at hx108_1); (try rw [show ((0 : Int)).toNat = 0 from rfl] at hx108_2); (try rw [show 0 * 3 = 0 from rfl] at hx108_2); (try rw [Addr.add_zero'] at hx108_2); replace p108 := eq_true p108; replace q108 := eq_true q108; have p109 : 0 ≤ (2 : Int) := (by omega); have q109 : 2 < (t103.length : Int) := of_decide_eq_true (by first | (with_reducible assumption) | assumption); obtain ⟨ad109, e109, hx109_0, hx109_1, hx109_2⟩ := at_T26 (Kd.R_reads' HO107.out).2.2 2 p109 q109; obtain rfl : ad108 = ad109 := (by injection e109); (try simp only [show (2 : Int).toNat = 2 from rfl, Nat.reduceMul, Nat.reduceEqDiff, Go.Addr.add, ↓reduceIte] at hx109_0); (try simp only [show (2 : Int).toNat = 2 from rfl, Nat.reduceMul, Nat.reduceEqDiff, Go.Addr.add, ↓reduceIte] at hx109_1); (try simp only [show (2 : Int).toNat = 2 from rfl, Nat.reduceMul, Nat.reduceEqDiff, Go.Addr.add, ↓reduceIte] at hx109_2); have qi109 : (2 < t103.length) = True := eq_true (by omega); (try rw [show ((2 : Int)).toNat = 2 from rfl] at hx109_0); (try rw [show 2 * 3 = 6 from rfl] at hx109_0); (try rw [show ((2 : Int)).toNat = 2 from rfl] at hx109_1); (try rw [show 2 * 3 = 6 from rfl] at hx109_1); (try rw [show ((2 : Int)).toNat = 2 from rfl] at hx109_2); (try rw [show 2 * 3 = 6 from rfl] at hx109_2); replace p109 := eq_true p109; replace q109 := eq_true q109))
                go_ret
                exact ⟨by first | rfl | (simp [errW_none, errW_some] <;> rfl) | (simp [*, errW_none, errW_some] <;> rfl), by repeat (first | (with_reducible first | exact HB.out | apply below_alloc | apply pw_below_drewN | apply below_drew1) | exact HB.out)⟩
            · rw [if_neg c7] at H
              exact absurd H (by simp)
          · rw [if_neg c6] at H
            have c6b0 : (((rd_T26 t103 0).f0) == 1) = false := beq_eq_false_iff_ne.mpr c6
            have c6b1 : (((rd_T26 t103 0).f0) != 1) = true := bne_iff_ne.mpr c6
            obtain rfl := Option.some.inj H
            go_enter Try.func8, Try.ntmps8
            go_wp2_with (first | ((with_reducible refine gate_callee (f := 11) rfl ?_); refine goesL_ (some 5) rfl rfl Try.func11 (by kernel_rfl) rfl #[.string (⟨#[102, 40, 88, 41, 32, 45, 62, 32, 95, 49]⟩ : ByteArray)] rfl (by (try simp only [List.map_toArray, List.map_cons, List.map_nil]); first | done | rfl | (simp only [List.length_drop, List.length_take]; rfl)) ?_; (with_reducible refine (words_List.calls k (⟨#[102, 40, 88, 41, 32, 45, 62, 32, 95, 49]⟩ : ByteArray) t103 t104 t105 _ A1.out).mono ?_); rintro e w21 ⟨v106, rfl, ho0, hb⟩; refine ⟨_, rfl, ?_⟩; have n0_ := Aside0.mk (Kd.R_lower ho0 (below_size (by repeat (first | (with_reducible first | exact HB.out | apply below_alloc | apply pw_below_drewN | apply below_drew1) | exact HB.out)))); have n1_ := Aside0.mk (below_step (by repeat (first | (with_reducible first | exact HB.out | apply below_alloc | apply pw_below_drewN | apply below_drew1) | exact HB.out)) hb); clear HB; have HO107 := n0_; have HB := n1_; clear n0_ n1_; (try clear hb); (try clear hb2); (try clear hk); (try clear hi); (try clear ho0); obtain ⟨Ao22, co22, eo22⟩ := Kd.R_slice HO107.out; subst eo22; have p108 : 0 ≤ (0 : Int) := (by omega); have q108 : 0 < (t103.length : Int) := of_decide_eq_true (by first | (with_reducible assumption) | assumption); obtain ⟨ad108, e108, hx108_0, hx108_1, hx108_2⟩ := at_T26 (Kd.R_reads' HO107.out).2.2 0 p108 q108; cases e108; have qi108 : (0 < t103.length) = True := eq_true (by omega); (try rw [show ((0 : Int)).toNat = 0 from rfl] at hx108_0); (try rw [show 0 * 3 = 0 from rfl] at hx108_0); (try rw [Addr.add_zero'] at hx108_0); (try rw [show ((0 : Int)).toNat = 0 from rfl] at hx108_1); (try rw [show 0 * 3 = 0 from rfl] at hx108_1); (try rw [Addr.add_zero'] at hx108_1); (try rw [show ((0 : Int)).toNat = 0 from rfl] at hx108_2); (try rw [show 0 * 3 = 0 from rfl] at hx108_2); (try rw [Addr.add_zero'] at hx108_2); replace p108 := eq_true p108; replace q108 := eq_true q108))
            go_ret
            exact ⟨by first | rfl | (simp [errW_none, errW_some] <;> rfl) | (simp [*, errW_none, errW_some] <;> rfl), by repeat (first | (with_reducible first | exact HB.out | apply below_alloc | apply pw_below_drewN | apply below_drew1) | exact HB.out)⟩
        · rw [if_neg c5] at H
          exact absurd H (by simp)
      · rw [if_neg c4] at H
        have c4b0 : ((t103.length : Int) == 6) = false := beq_eq_false_iff_ne.mpr c4
        have c4b1 : ((t103.length : Int) != 6) = true := bne_iff_ne.mpr c4
        obtain rfl := Option.some.inj H
        go_enter Try.func8, Try.ntmps8
        go_wp2_with (first | ((with_reducible refine gate_callee (f := 11) rfl ?_); refine goesL_ (some 5) rfl rfl Try.func11 (by kernel_rfl) rfl #[.string (⟨#[102, 40, 88, 41, 32, 45, 62, 32, 95, 49]⟩ : ByteArray)] rfl (by (try simp only [List.map_toArray, List.map_cons, List.map_nil]); first | done | rfl | (simp only [List.length_drop, List.length_take]; rfl)) ?_; (with_reducible refine (words_List.calls k (⟨#[102, 40, 88, 41, 32, 45, 62, 32, 95, 49]⟩ : ByteArray) t103 t104 t105 _ A1.out).mono ?_); rintro e w23 ⟨v106, rfl, ho0, hb⟩; refine ⟨_, rfl, ?_⟩; have n0_ := Aside0.mk (Kd.R_lower ho0 (below_size (by repeat (first | (with_reducible first | exact HB.out | apply below_alloc | apply pw_below_drewN | apply below_drew1) | exact HB.out)))); have n1_ := Aside0.mk (below_step (by repeat (first | (with_reducible first | exact HB.out | apply below_alloc | apply pw_below_drewN | apply below_drew1) | exact HB.out)) hb); clear HB; have HO107 := n0_; have HB := n1_; clear n0_ n1_; (try clear hb); (try clear hb2); (try clear hk); (try clear hi); (try clear ho0); obtain ⟨Ao24, co24, eo24⟩ := Kd.R_slice HO107.out; subst eo24))
        go_ret
        exact ⟨by first | rfl | (simp [errW_none, errW_some] <;> rfl) | (simp [*, errW_none, errW_some] <;> rfl), by repeat (first | (with_reducible first | exact HB.out | apply below_alloc | apply pw_below_drewN | apply below_drew1) | exact HB.out)⟩
    · rw [if_neg c3] at H
      have c3b0 : (t105 == 0) = false := beq_eq_false_iff_ne.mpr c3
      have c3b1 : (t105 != 0) = true := bne_iff_ne.mpr c3
      obtain rfl := Option.some.inj H
      go_enter Try.func8, Try.ntmps8
      go_wp2_with (first | ((with_reducible refine gate_callee (f := 11) rfl ?_); refine goesL_ (some 5) rfl rfl Try.func11 (by kernel_rfl) rfl #[.string (⟨#[102, 40, 88, 41, 32, 45, 62, 32, 95, 49]⟩ : ByteArray)] rfl (by (try simp only [List.map_toArray, List.map_cons, List.map_nil]); first | done | rfl | (simp only [List.length_drop, List.length_take]; rfl)) ?_; (with_reducible refine (words_List.calls k (⟨#[102, 40, 88, 41, 32, 45, 62, 32, 95, 49]⟩ : ByteArray) t103 t104 t105 _ A1.out).mono ?_); rintro e w25 ⟨v106, rfl, ho0, hb⟩; refine ⟨_, rfl, ?_⟩; have n0_ := Aside0.mk (Kd.R_lower ho0 (below_size (by repeat (first | (with_reducible first | exact HB.out | apply below_alloc | apply pw_below_drewN | apply below_drew1) | exact HB.out)))); have n1_ := Aside0.mk (below_step (by repeat (first | (with_reducible first | exact HB.out | apply below_alloc | apply pw_below_drewN | apply below_drew1) | exact HB.out)) hb); clear HB; have HO107 := n0_; have HB := n1_; clear n0_ n1_; (try clear hb); (try clear hb2); (try clear hk); (try clear hi); (try clear ho0)))
      go_ret
      exact ⟨by first | rfl | (simp [errW_none, errW_some] <;> rfl) | (simp [*, errW_none, errW_some] <;> rfl), by repeat (first | (with_reducible first | exact HB.out | apply below_alloc | apply pw_below_drewN | apply below_drew1) | exact HB.out)⟩
  · rw [if_neg c2] at H
    have c2b0 : (t104 == 0) = false := beq_eq_false_iff_ne.mpr c2
    have c2b1 : (t104 != 0) = true := bne_iff_ne.mpr c2
    obtain rfl := Option.some.inj H
    go_enter Try.func8, Try.ntmps8
    go_wp2_with (first | ((with_reducible refine gate_callee (f := 11) rfl ?_); refine goesL_ (some 5) rfl rfl Try.func11 (by kernel_rfl) rfl #[.string (⟨#[102, 40, 88, 41, 32, 45, 62, 32, 95, 49]⟩ : ByteArray)] rfl (by (try simp only [List.map_toArray, List.map_cons, List.map_nil]); first | done | rfl | (simp only [List.length_drop, List.length_take]; rfl)) ?_; (with_reducible refine (words_List.calls k (⟨#[102, 40, 88, 41, 32, 45, 62, 32, 95, 49]⟩ : ByteArray) t103 t104 t105 _ A1.out).mono ?_); rintro e w26 ⟨v106, rfl, ho0, hb⟩; refine ⟨_, rfl, ?_⟩; have n0_ := Aside0.mk (Kd.R_lower ho0 (below_size (by repeat (first | (with_reducible first | exact HB.out | apply below_alloc | apply pw_below_drewN | apply below_drew1) | exact HB.out)))); have n1_ := Aside0.mk (below_step (by repeat (first | (with_reducible first | exact HB.out | apply below_alloc | apply pw_below_drewN | apply below_drew1) | exact HB.out)) hb); clear HB; have HO107 := n0_; have HB := n1_; clear n0_ n1_; (try clear hb); (try clear hb2); (try clear hk); (try clear hi); (try clear ho0)))
    go_ret
    exact ⟨by first | rfl | (simp [errW_none, errW_some] <;> rfl) | (simp [*, errW_none, errW_some] <;> rfl), by repeat (first | (with_reducible first | exact HB.out | apply below_alloc | apply pw_below_drewN | apply below_drew1) | exact HB.out)⟩

/-! ### amalgamref02_sign: function 20 -/
def amalgamref02_sign.f (a0 : ByteArray) (a1 : Int) : Option (Int × Int) := if 0 ≤ a1 then (if a1 < (a0.size : Int) then (if (bt a0 a1) = 40 then (some (3, 1)) else (if (bt a0 a1) = 41 then (some (4, 1)) else (if (bt a0 a1) = 44 then (some (5, 1)) else (if (bt a0 a1) = 61 then (some (6, 1)) else (if (bt a0 a1) = 45 then (if (wrap64 (a1 + 1)) < (a0.size : Int) then (if 0 ≤ (wrap64 (a1 + 1)) then (if (bt a0 (wrap64 (a1 + 1))) = 62 then (some (7, 2)) else (some (0, 0))) else (none)) else (some (0, 0))) else (some (0, 0))))))) else (none)) else (none)
set_option maxHeartbeats 4000000 in
set_option maxRecDepth 100000 in
theorem amalgamref02_sign.calls (a0 : ByteArray) (a1 : Int) (r1 : Int) (r2 : Int) (w : World) (h : amalgamref02_sign.f a0 a1 = some (r1, r2)) :
    Calls Try.prog 20 #[.string a0, .int .i64 a1] w fun e w' => e = .returned (.tuple #[.int .i64 r1, .int .i64 r2]) ∧ Drawn0 w w' := by
  have H : (if 0 ≤ a1 then (if a1 < (a0.size : Int) then (if (bt a0 a1) = 40 then (some (3, 1)) else (if (bt a0 a1) = 41 then (some (4, 1)) else (if (bt a0 a1) = 44 then (some (5, 1)) else (if (bt a0 a1) = 61 then (some (6, 1)) else (if (bt a0 a1) = 45 then (if (wrap64 (a1 + 1)) < (a0.size : Int) then (if 0 ≤ (wrap64 (a1 + 1)) then (if (bt a0 (wrap64 (a1 + 1))) = 62 then (some (7, 2)) else (some (0, 0))) else (none)) else (some (0, 0))) else (some (0, 0))))))) else (none)) else (none)) = some (r1, r2) := h
  clear h
  by_cases c3 : 0 ≤ a1
  · rw [if_pos c3] at H
    have c3b0 : decide (0 ≤ a1) = true := decide_eq_true c3
    clear c3
    by_cases c4 : a1 < (a0.size : Int)
    · rw [if_pos c4] at H
      have c4b0 : decide (a1 < (a0.size : Int)) = true := decide_eq_true c4
      clear c4
      by_cases c6 : (bt a0 a1) = 40
      · rw [if_pos c6] at H
        have c6b0 : ((bt a0 a1) == 40) = true := beq_iff_eq.mpr c6
        have c6b1 : ((bt a0 a1) != 40) = false := bne_eq_false_iff_eq.mpr c6
        clear c6
        simp only [Option.some.injEq, Prod.mk.injEq] at H
        obtain ⟨rfl, rfl⟩ := H
        have p5 : 0 ≤ (a1 : Int) := of_decide_eq_true (by first | (with_reducible assumption) | assumption)
        have q5 : a1 < (a0.size : Int) := of_decide_eq_true (by first | (with_reducible assumption) | assumption)
        have hx5 := bt_at a0 a1
        replace p5 := eq_true p5
        replace q5 := eq_true q5
        go_enter Try.func20, Try.ntmps20
        go_wp2
        go_ret2
        exact ⟨by first | rfl | (simp; done) | (simp [*]; done), by repeat (first | exact Drawn0.refl _ | apply Drawn0.step)⟩
      · rw [if_neg c6] at H
        have c6b0 : ((bt a0 a1) == 40) = false := beq_eq_false_iff_ne.mpr c6
        have c6b1 : ((bt a0 a1) != 40) = true := bne_iff_ne.mpr c6
        by_cases c7 : (bt a0 a1) = 41
        · rw [if_pos c7] at H
          have c7b0 : ((bt a0 a1) == 41) = true := beq_iff_eq.mpr c7
          have c7b1 : ((bt a0 a1) != 41) = false := bne_eq_false_iff_eq.mpr c7
          clear c7
          simp only [Option.some.injEq, Prod.mk.injEq] at H
          obtain ⟨rfl, rfl⟩ := H
          have p5 : 0 ≤ (a1 : Int) := of_decide_eq_true (by first | (with_reducible assumption) | assumption)
          have q5 : a1 < (a0.size : Int) := of_decide_eq_true (by first | (with_reducible assumption) | assumption)
          have hx5 := bt_at a0 a1
          replace p5 := eq_true p5
          replace q5 := eq_true q5
          go_enter Try.func20, Try.ntmps20
          go_wp2
          go_ret2
          exact ⟨by first | rfl | (simp; done) | (simp [*]; done), by repeat (first | exact Drawn0.refl _ | apply Drawn0.step)⟩
        · rw [if_neg c7] at H
          have c7b0 : ((bt a0 a1) == 41) = false := beq_eq_false_iff_ne.mpr c7
          have c7b1 : ((bt a0 a1) != 41) = true := bne_iff_ne.mpr c7
          by_cases c8 : (bt a0 a1) = 44
          · rw [if_pos c8] at H
            have c8b0 : ((bt a0 a1) == 44) = true := beq_iff_eq.mpr c8
            have c8b1 : ((bt a0 a1) != 44) = false := bne_eq_false_iff_eq.mpr c8
            clear c8
            simp only [Option.some.injEq, Prod.mk.injEq] at H
            obtain ⟨rfl, rfl⟩ := H
            have p5 : 0 ≤ (a1 : Int) := of_decide_eq_true (by first | (with_reducible assumption) | assumption)
            have q5 : a1 < (a0.size : Int) := of_decide_eq_true (by first | (with_reducible assumption) | assumption)
            have hx5 := bt_at a0 a1
            replace p5 := eq_true p5
            replace q5 := eq_true q5
            go_enter Try.func20, Try.ntmps20
            go_wp2
            go_ret2
            exact ⟨by first | rfl | (simp; done) | (simp [*]; done), by repeat (first | exact Drawn0.refl _ | apply Drawn0.step)⟩
          · rw [if_neg c8] at H
            have c8b0 : ((bt a0 a1) == 44) = false := beq_eq_false_iff_ne.mpr c8
            have c8b1 : ((bt a0 a1) != 44) = true := bne_iff_ne.mpr c8
            by_cases c9 : (bt a0 a1) = 61
            · rw [if_pos c9] at H
              have c9b0 : ((bt a0 a1) == 61) = true := beq_iff_eq.mpr c9
              have c9b1 : ((bt a0 a1) != 61) = false := bne_eq_false_iff_eq.mpr c9
              clear c9
              simp only [Option.some.injEq, Prod.mk.injEq] at H
              obtain ⟨rfl, rfl⟩ := H
              have p5 : 0 ≤ (a1 : Int) := of_decide_eq_true (by first | (with_reducible assumption) | assumption)
              have q5 : a1 < (a0.size : Int) := of_decide_eq_true (by first | (with_reducible assumption) | assumption)
              have hx5 := bt_at a0 a1
              replace p5 := eq_true p5
              replace q5 := eq_true q5
              go_enter Try.func20, Try.ntmps20
              go_wp2
              go_ret2
              exact ⟨by first | rfl | (simp; done) | (simp [*]; done), by repeat (first | exact Drawn0.refl _ | apply Drawn0.step)⟩
            · rw [if_neg c9] at H
              have c9b0 : ((bt a0 a1) == 61) = false := beq_eq_false_iff_ne.mpr c9
              have c9b1 : ((bt a0 a1) != 61) = true := bne_iff_ne.mpr c9
              by_cases c10 : (bt a0 a1) = 45
              · rw [if_pos c10] at H
                have c10b0 : ((bt a0 a1) == 45) = true := beq_iff_eq.mpr c10
                have c10b1 : ((bt a0 a1) != 45) = false := bne_eq_false_iff_eq.mpr c10
                clear c10
                by_cases c11 : (wrap64 (a1 + 1)) < (a0.size : Int)
                · rw [if_pos c11] at H
                  have c11b0 : decide ((wrap64 (a1 + 1)) < (a0.size : Int)) = true := decide_eq_true c11
                  clear c11
                  obtain ⟨ji12, hji12⟩ : ∃ j_ : Int, (wrap64 (a1 + 1)) = j_ := ⟨_, rfl⟩
                  replace H : (if 0 ≤ (ji12) then (if (bt a0 (ji12)) = 62 then (some (7, 2)) else (some (0, 0))) else (none)) = some (r1, r2) := by first | (rw [hji12] at H; exact H) | (simp only [hji12] at H ⊢; exact H)
                  (try rw [hji12] at c11b0)
                  have hji12w : (IntKind.i64.wrap (a1 + 1)) = ji12 := (i64_w _).trans hji12
                  by_cases c13 : 0 ≤ (ji12)
                  · rw [if_pos c13] at H
                    have c13b0 : decide (0 ≤ (ji12)) = true := decide_eq_true c13
                    clear c13
                    by_cases c15 : (bt a0 (ji12)) = 62
                    · rw [if_pos c15] at H
                      have c15b0 : ((bt a0 (ji12)) == 62) = true := beq_iff_eq.mpr c15
                      have c15b1 : ((bt a0 (ji12)) != 62) = false := bne_eq_false_iff_eq.mpr c15
                      clear c15
                      simp only [Option.some.injEq, Prod.mk.injEq] at H
                      obtain ⟨rfl, rfl⟩ := H
                      have p5 : 0 ≤ (a1 : Int) := of_decide_eq_true (by first | (with_reducible assumption) | assumption)
                      have q5 : a1 < (a0.size : Int) := of_decide_eq_true (by first | (with_reducible assumption) | assumption)
                      have hx5 := bt_at a0 a1
                      replace p5 := eq_true p5
                      replace q5 := eq_true q5
                      have p14 : 0 ≤ ((ji12) : Int) := of_decide_eq_true (by first | (with_reducible assumption) | assumption)
                      have q14 : (ji12) < (a0.size : Int) := of_decide_eq_true (by first | (with_reducible assumption) | assumption)
                      have hx14 := bt_at a0 (ji12)
                      replace p14 := eq_true p14
                      replace q14 := eq_true q14
                      go_enter Try.func20, Try.ntmps20
                      go_wp2
                      go_ret2
                      exact ⟨by first | rfl | (simp; done) | (simp only [← hji12] <;> (first | rfl | simp)) | (simp [*]; done), by repeat (first | exact Drawn0.refl _ | apply Drawn0.step)⟩
                    · rw [if_neg c15] at H
                      have c15b0 : ((bt a0 (ji12)) == 62) = false := beq_eq_false_iff_ne.mpr c15
                      have c15b1 : ((bt a0 (ji12)) != 62) = true := bne_iff_ne.mpr c15
                      simp only [Option.some.injEq, Prod.mk.injEq] at H
                      obtain ⟨rfl, rfl⟩ := H
                      have p5 : 0 ≤ (a1 : Int) := of_decide_eq_true (by first | (with_reducible assumption) | assumption)
                      have q5 : a1 < (a0.size : Int) := of_decide_eq_true (by first | (with_reducible assumption) | assumption)
                      have hx5 := bt_at a0 a1
                      replace p5 := eq_true p5
                      replace q5 := eq_true q5
                      have p14 : 0 ≤ ((ji12) : Int) := of_decide_eq_true (by first | (with_reducible assumption) | assumption)
                      have q14 : (ji12) < (a0.size : Int) := of_decide_eq_true (by first | (with_reducible assumption) | assumption)
                      have hx14 := bt_at a0 (ji12)
                      replace p14 := eq_true p14
                      replace q14 := eq_true q14
                      go_enter Try.func20, Try.ntmps20
                      go_wp2
                      go_ret2
                      exact ⟨by first | rfl | (simp; done) | (simp only [← hji12] <;> (first | rfl | simp)) | (simp [*]; done), by repeat (first | exact Drawn0.refl _ | apply Drawn0.step)⟩
                  · rw [if_neg c13] at H
                    exact absurd H (by simp)
                · rw [if_neg c11] at H
                  have c11b0 : decide ((wrap64 (a1 + 1)) < (a0.size : Int)) = false := decide_eq_false c11
                  clear c11
                  simp only [Option.some.injEq, Prod.mk.injEq] at H
                  obtain ⟨rfl, rfl⟩ := H
                  have p5 : 0 ≤ (a1 : Int) := of_decide_eq_true (by first | (with_reducible assumption) | assumption)
                  have q5 : a1 < (a0.size : Int) := of_decide_eq_true (by first | (with_reducible assumption) | assumption)
                  have hx5 := bt_at a0 a1
                  replace p5 := eq_true p5
                  replace q5 := eq_true q5
                  go_enter Try.func20, Try.ntmps20
                  go_wp2
                  go_ret2
                  exact ⟨by first | rfl | (simp; done) | (simp [*]; done), by repeat (first | exact Drawn0.refl _ | apply Drawn0.step)⟩
              · rw [if_neg c10] at H
                have c10b0 : ((bt a0 a1) == 45) = false := beq_eq_false_iff_ne.mpr c10
                have c10b1 : ((bt a0 a1) != 45) = true := bne_iff_ne.mpr c10
                simp only [Option.some.injEq, Prod.mk.injEq] at H
                obtain ⟨rfl, rfl⟩ := H
                have p5 : 0 ≤ (a1 : Int) := of_decide_eq_true (by first | (with_reducible assumption) | assumption)
                have q5 : a1 < (a0.size : Int) := of_decide_eq_true (by first | (with_reducible assumption) | assumption)
                have hx5 := bt_at a0 a1
                replace p5 := eq_true p5
                replace q5 := eq_true q5
                go_enter Try.func20, Try.ntmps20
                go_wp2
                go_ret2
                exact ⟨by first | rfl | (simp; done) | (simp [*]; done), by repeat (first | exact Drawn0.refl _ | apply Drawn0.step)⟩
    · rw [if_neg c4] at H
      exact absurd H (by simp)
  · rw [if_neg c3] at H
    exact absurd H (by simp)

end Go.Proofs.Ytbfcfmobogmfhaa.PWd
