/- The contracts of the reader's next, want and rest: what each returns, or gives up with. Conditions: none. -/
-- Written by programs of this session (wip/tools), cut to what the claim uses (wip/tools/prune.py).
import Derived.Test.YtpepjodkahdicaaRdA
namespace Go.Proofs.Ytpepjodkahdicaa.PTb
open Go.RowKit Go.Proofs.YtpepjodkahdicaaW.PrintWords Go.Proofs.YtpepjodkahdicaaW.PrintLast Go.Proofs.YtpepjodkahdicaaW.PrintMore
set_option linter.unusedVariables false
set_option linter.unusedSimpArgs false
abbrev Wd := Int × ByteArray × Int
/-- what peek answers -/
def rdPeek (k : Nat) (s : ByteArray) (p : Int) : Option (Except (Int × Int) (Wd × Int)) :=
  (words_Next.f k s p).bind fun x => if x.2.2.2.2 = 0 then some (.ok ((x.1, x.2.1, x.2.2.1), x.2.2.2.1)) else some (.error (x.2.2.2.2, x.2.2.2.1))
/-- what next answers -/
def rdNext (k : Nat) (s : ByteArray) (p : Int) : Option (Except (Int × Int) (Wd × Int)) :=
  (rdPeek k s p).bind fun
    | .error e => some (.error e)
    | .ok (w, en) => if w.1 = 0 then some (.error (51, (s.size : Int))) else some (.ok (w, en))
theorem rdPeek_ok {k : Nat} {s : ByteArray} {p kd : Int} {tx : ByteArray} {wat en : Int} (h : rdPeek k s p = some (.ok ((kd, tx, wat), en))) : words_Next.f k s p = some (kd, tx, wat, en, 0) := by
  unfold rdPeek at h
  obtain ⟨⟨x1, x2, x3, x4, x5⟩, hx, h⟩ := Option.bind_eq_some_iff.mp h
  rw [hx]
  dsimp only at h
  by_cases h0 : x5 = 0
  · rw [if_pos h0] at h
    simp only [Option.some.injEq, Except.ok.injEq, Prod.mk.injEq] at h
    obtain ⟨⟨rfl, rfl, rfl⟩, rfl⟩ := h
    rw [h0]
  · rw [if_neg h0] at h
    simp at h
theorem rdPeek_no {k : Nat} {s : ByteArray} {p er a : Int} (h : rdPeek k s p = some (.error (er, a))) : ∃ kd tx wat, words_Next.f k s p = some (kd, tx, wat, a, er) ∧ ¬ er = 0 := by
  unfold rdPeek at h
  obtain ⟨⟨x1, x2, x3, x4, x5⟩, hx, h⟩ := Option.bind_eq_some_iff.mp h
  rw [hx]
  dsimp only at h
  by_cases h0 : x5 = 0
  · rw [if_pos h0] at h
    simp at h
  · rw [if_neg h0] at h
    simp only [Option.some.injEq, Except.error.injEq, Prod.mk.injEq] at h
    obtain ⟨rfl, rfl⟩ := h
    exact ⟨_, _, _, rfl, h0⟩
theorem rdNext_ok {k : Nat} {s : ByteArray} {p kd : Int} {tx : ByteArray} {wat en : Int} (h : rdNext k s p = some (.ok ((kd, tx, wat), en))) : words_Next.f k s p = some (kd, tx, wat, en, 0) ∧ ¬ kd = 0 := by
  unfold rdNext at h
  obtain ⟨x, hx, h⟩ := Option.bind_eq_some_iff.mp h
  rcases x with e | ⟨⟨x1, x2, x3⟩, x4⟩
  · simp at h
  · dsimp only at h
    by_cases h0 : x1 = 0
    · rw [if_pos h0] at h
      simp at h
    · rw [if_neg h0] at h
      simp only [Option.some.injEq, Except.ok.injEq, Prod.mk.injEq] at h
      obtain ⟨⟨rfl, rfl, rfl⟩, rfl⟩ := h
      exact ⟨rdPeek_ok hx, h0⟩
theorem rdNext_no {k : Nat} {s : ByteArray} {p er a : Int} (h : rdNext k s p = some (.error (er, a))) : (∃ kd tx wat, words_Next.f k s p = some (kd, tx, wat, a, er) ∧ ¬ er = 0) ∨ ∃ tx wat en, words_Next.f k s p = some (0, tx, wat, en, 0) ∧ er = 51 ∧ a = (s.size : Int) := by
  unfold rdNext at h
  obtain ⟨x, hx, h⟩ := Option.bind_eq_some_iff.mp h
  rcases x with e | ⟨⟨x1, x2, x3⟩, x4⟩
  · simp only [Option.some.injEq, Except.error.injEq] at h
    subst h
    exact .inl (rdPeek_no hx)
  · dsimp only at h
    by_cases h0 : x1 = 0
    · rw [if_pos h0] at h
      simp only [Option.some.injEq, Except.error.injEq, Prod.mk.injEq] at h
      obtain ⟨rfl, rfl⟩ := h
      subst h0
      exact .inr ⟨_, _, _, rdPeek_ok hx, rfl, rfl⟩
    · rw [if_neg h0] at h
      simp at h
section
theorem grown_of_below' {a w : World} (h : Below a.heap.size a w) (row : Option Nat) : a.grownBy w row := ⟨h.os, h.tape, h.output, h.size, fun i hi _ => h.block i hi⟩
theorem grown_below {a w w1 : World} {row : Option Nat} (h : a.grownBy w row) (hb : Below w.heap.size w w1) : a.grownBy w1 row :=
  ⟨hb.os.trans h.os, hb.tape.trans h.tape, hb.output.trans h.output, Nat.le_trans h.size hb.size, fun i hi hn => (hb.block i (Nat.lt_of_lt_of_le hi h.size)).trans (h.block i hi hn)⟩
theorem grown_grown {a w w1 : World} {row : Option Nat} (h : a.grownBy w row) (hb : w.grownBy w1 row) : a.grownBy w1 row :=
  ⟨hb.os.trans h.os, hb.tape.trans h.tape, hb.output.trans h.output, Nat.le_trans h.size hb.size, fun i hi hn => (hb.block i (Nat.lt_of_lt_of_le hi h.size) hn).trans (h.block i hi hn)⟩
theorem grown_set {a w : World} {g : Nat} (h : a.grownBy w (some g)) {p : Addr} (hp : p.block = g ∨ a.heap.size ≤ p.block) (u : Value) : a.grownBy (w.setCell p u) (some g) :=
  ⟨h.os, h.tape, h.output, by simpa [World.setCell] using h.size, fun i hi hne => (Below.heap_setCell w p u i (by
    rintro rfl
    rcases hp with hp | hp
    · exact hne (by rw [hp])
    · omega)).trans (h.block i hi hne)⟩
theorem grown_alloc {a w : World} {row : Option Nat} (h : a.grownBy w row) (o : Obj) : a.grownBy (w.alloc o) row := grown_below h (below_alloc (Below.refl _ _) o)
theorem grown_drew {a w : World} {row : Option Nat} (h : a.grownBy w row) : a.grownBy w.drew row := grown_below h (below_drew1 (Below.refl _ _))
theorem below_of_grown {w0 a w : World} {b : Nat} (h0 : Below w0.heap.size w0 a) (hb : w0.heap.size ≤ b) (h : a.grownBy w (some b)) : Below w0.heap.size w0 w :=
  h0.grown h h0.size (fun k hk => by injection hk with hk; omega)
end
section
variable {P : Program} {ops : Array Oper} {Q : Exit → Act → World → Prop}
/-- A call of a Go function that gives up. -/
theorem panics_ {oi : Oper} {N : Option Tmp} {a : Act} {w : World} {K : Act → World → Prop} {f : FuncId} {fn : Func} {us : Array Operand} {ts : Array TypeId} (hf : P.funcs[f]? = some fn) (hname : (fn.name == "runtime.NumGoroutine") = false) (hb : fn.body.isSome = true) (args : Array Value)
    (hw : Region.wanted oi (yielded ops a.tmps) = true) (hop : oi.op = .call { callee := .value (.func f), args := us, argTypes := ts }) (hargs : us.map a.eval = args)
    (h : Calls P f args w fun e w' => ∃ c, e = .panicked c ∧ Q (.panic c) a w') : if Region.wanted oi (yielded ops a.tmps) = true then Oper.wp P oi a w K Q else K (a.put N undef) w := by
  have he := enters_ hf hname hb args w
  have hrun : (execOp a.eval oi).run P w = .ok (.enter f args) w := by
    unfold execOp
    simp [hop, resolve, Deferred.ofValue, invoke, Act.eval, hargs, he]
  rw [if_pos hw]
  unfold Oper.wp
  rw [hrun, Oper.upon_enter]
  refine h.mono fun e w'' hh => ?_
  obtain ⟨c, rfl, hk⟩ := hh
  exact hk
/-- The same in a plain region, as an arm of go_wp2_with. -/
theorem panicsL_ {rest : List Oper} {oi : Oper} {a : Act} {w : World} (N : Option Tmp) (hd : oi.dst = N) (hg : oi.guard = none) {f : FuncId} {fn : Func} {us : Array Operand} {ts : Array TypeId} (hf : P.funcs[f]? = some fn) (hname : (fn.name == "runtime.NumGoroutine") = false) (hb : fn.body.isSome = true) (args : Array Value)
    (hop : oi.op = .call { callee := .value (.func f), args := us, argTypes := ts }) (hargs : us.map a.eval = args)
    (h : Calls P f args w fun e w' => ∃ c, e = .panicked c ∧ Q (.panic c) a w') : wpList P ops Q (oi :: rest) a w := by
  refine wpList_plain hg fun K hK => ?_
  have he := enters_ hf hname hb args w
  have hrun : (execOp a.eval oi).run P w = .ok (.enter f args) w := by
    unfold execOp
    simp [hop, resolve, Deferred.ofValue, invoke, Act.eval, hargs, he]
  unfold Oper.wp
  rw [hrun, Oper.upon_enter]
  refine h.mono fun e w'' hh => ?_
  obtain ⟨c, rfl, hk⟩ := hh
  exact hk
end
set_option maxHeartbeats 1000000 in
theorem next_ok (b : Nat) (A : Option Addr) (n c : Nat) (s : ByteArray) (p : Int) (k : Nat) (kd : Int) (tx : ByteArray) (wat en : Int) (w : World) (hb : RB w b A n c s p) (h : words_Next.f k s p = some (kd, tx, wat, en, 0)) (h0 : ¬ kd = 0) :
    Calls Try.prog 36 #[.pointer (some ⟨b, 0, none⟩)] w fun e w' => e = .returned (.agg #[.int .i64 kd, .string tx, .int .i64 wat]) ∧ RB w' b A n c s en ∧ w.grownBy w' (some b) := by
  have HN := fun W (q : RB W b A n c s p) => Aside0.mk (peek_ok b A n c s p k kd tx wat en W q h)
  have HRB := Aside0.mk hb
  have h0b : (kd != 0) = true := bne_iff_ne.mpr h0
  clear h0
  clear h hb
  go_enter Try.func36, Try.ntmps36
  go_wp2_with (first | ((with_reducible refine gate_dst (N := 2) rfl ?_); refine box_event ?hg (N := 2) ?hd (cs := #[.int .i64 0, .string (⟨#[]⟩ : ByteArray), .int .i64 0]) (t := 70) ?hr ?_; (case hd => rfl); (case hg => rfl); (case hr => first | (go_simp; done) | (go_simp; rfl)); intro g2 hg_g2 w1 hbox_g2 hb_g2; have HG_g2 := Aside0.mk hg_g2; have HX_g2 := Aside0.mk hbox_g2; have HB_g2 := Aside0.mk hb_g2; clear hg_g2 hbox_g2 hb_g2) | (go_at_call 34; refine (HN _ (HRB.out.below HB_g2.out)).out.mono ?_; rintro e w2 ⟨rfl, hb2⟩; have HB2 := Aside0.mk hb2; clear hb2))
  refine hold_world (G := Code.wp _ _ _ _) (fun W => W.heap[w2.heap.size]? = some (.cells #[.int .i64 kd, .string tx, .int .i64 wat] 70 (0, 0)) ∧ W.heap[g2]? = some (.cells #[.int .i64 0, .string (⟨#[]⟩ : ByteArray), .int .i64 0] 70 (0, 0)) ∧ RB W b A n c s p ∧ Below w.heap.size w W) ⟨blk_new _ _, blk_alloc (blk_below HX_g2.out HB2.out) _, ((HRB.out.below HB_g2.out).below HB2.out).below (below_alloc (Below.refl _ _) _), below_alloc (below_step HB_g2.out HB2.out) _⟩ ?_
  have LE := Aside0.mk (And.intro (show w.heap.size ≤ g2 by have := HG_g2.out; omega) (show b < w.heap.size from blk_lt HRB.out))
  have LE2 := Aside0.mk (show g2 < w2.heap.size from blk_lt (blk_below HX_g2.out HB2.out))
  clear HX_g2 HG_g2 HB_g2 HB2 HN HRB
  generalize w2.heap.size = g3 at *
  clear w2 w1
  rintro w3 ⟨bk3, bk2, hr3, hb3⟩
  have BK3 := Aside0.mk bk3
  have BK2 := Aside0.mk bk2
  have HR3 := Aside0.mk hr3
  have HB3 := Aside0.mk hb3
  clear bk3 bk2 hr3 hb3
  have q0 : w3.cell? ⟨g3, 0, none⟩ = some (.int .i64 kd) := (blk_cell BK3.out 0).trans rfl
  have c1 := HR3.out.cell1
  go_region_held3 (fun W => W.cell? ⟨g3, 0, none⟩ = some (.int .i64 kd) ∧ W.cell? ⟨b, 1, none⟩ = some (.string s)) (go_keep) ((go_at_call 35; refine (need_ok _ _ _).mono ?_; rintro e w5 ⟨rfl, rfl⟩))
  have c2 := HR3.out.cell2
  have f2 := blk_frozen HR3.out 2
  have q1 : w3.cell? ⟨g3, 1, none⟩ = some (.string tx) := (blk_cell BK3.out 1).trans rfl
  have q2 : w3.cell? ⟨g3, 2, none⟩ = some (.int .i64 wat) := (blk_cell BK3.out 2).trans rfl
  have r0 : w3.cell? ⟨g2, 0, none⟩ = some (.int .i64 0) := (blk_cell BK2.out 0).trans rfl
  have r1 : w3.cell? ⟨g2, 1, none⟩ = some (.string (⟨#[]⟩ : ByteArray)) := (blk_cell BK2.out 1).trans rfl
  have r2 : w3.cell? ⟨g2, 2, none⟩ = some (.int .i64 0) := (blk_cell BK2.out 2).trans rfl
  have s0 := blk_frozen BK2.out 0
  have s1 := blk_frozen BK2.out 1
  have s2 := blk_frozen BK2.out 2
  have n1 : ¬ b = g3 := blk_ne HR3.out BK3.out (by decide)
  have n2 : ¬ b = g2 := by have := LE.out; omega
  have n3 : ¬ g2 = b := by have := LE.out; omega
  have n4 : ¬ g3 = b := fun h => n1 h.symm
  go_wp2
  refine bodyPost_ret (v := .agg #[.int .i64 kd, .string tx, .int .i64 wat]) (by simp [results, Try.results36, go_sem, *]) rfl ⟨rfl, ?_, ?_⟩
  · exact blk_drew (blk_far (blk_far (blk_far (HR3.out.set en) n2 _) n2 _) n2 _)
  · exact grown_drew (grown_set (grown_set (grown_set (grown_set (grown_of_below' HB3.out _) (.inl rfl) _) (.inr LE.out.1) _) (.inr LE.out.1) _) (.inr LE.out.1) _)
set_option maxHeartbeats 1000000 in
theorem next_end (b : Nat) (A : Option Addr) (n c : Nat) (s : ByteArray) (p : Int) (k : Nat) (tx : ByteArray) (wat en : Int) (w : World) (hb : RB w b A n c s p) (h : words_Next.f k s p = some (0, tx, wat, en, 0)) :
    Calls Try.prog 36 #[.pointer (some ⟨b, 0, none⟩)] w fun e w' => e = gaveUp 51 (s.size : Int) ∧ w.grownBy w' (some b) := by
  have HN := fun W (q : RB W b A n c s p) => Aside0.mk (peek_ok b A n c s p k 0 tx wat en W q h)
  have HRB := Aside0.mk hb
  clear h hb
  go_enter Try.func36, Try.ntmps36
  go_wp2_with (first | ((with_reducible refine gate_dst (N := 2) rfl ?_); refine box_event ?hg (N := 2) ?hd (cs := #[.int .i64 0, .string (⟨#[]⟩ : ByteArray), .int .i64 0]) (t := 70) ?hr ?_; (case hd => rfl); (case hg => rfl); (case hr => first | (go_simp; done) | (go_simp; rfl)); intro g2 hg_g2 w1 hbox_g2 hb_g2; have HG_g2 := Aside0.mk hg_g2; have HX_g2 := Aside0.mk hbox_g2; have HB_g2 := Aside0.mk hb_g2; clear hg_g2 hbox_g2 hb_g2) | (go_at_call 34; refine (HN _ (HRB.out.below HB_g2.out)).out.mono ?_; rintro e w2 ⟨rfl, hb2⟩; have HB2 := Aside0.mk hb2; clear hb2))
  refine hold_world (G := Code.wp _ _ _ _) (fun W => W.heap[w2.heap.size]? = some (.cells #[.int .i64 0, .string tx, .int .i64 wat] 70 (0, 0)) ∧ W.heap[g2]? = some (.cells #[.int .i64 0, .string (⟨#[]⟩ : ByteArray), .int .i64 0] 70 (0, 0)) ∧ RB W b A n c s p ∧ Below w.heap.size w W) ⟨blk_new _ _, blk_alloc (blk_below HX_g2.out HB2.out) _, ((HRB.out.below HB_g2.out).below HB2.out).below (below_alloc (Below.refl _ _) _), below_alloc (below_step HB_g2.out HB2.out) _⟩ ?_
  have LE := Aside0.mk (And.intro (show w.heap.size ≤ g2 by have := HG_g2.out; omega) (show b < w.heap.size from blk_lt HRB.out))
  have LE2 := Aside0.mk (show g2 < w2.heap.size from blk_lt (blk_below HX_g2.out HB2.out))
  clear HX_g2 HG_g2 HB_g2 HB2 HN HRB
  generalize w2.heap.size = g3 at *
  clear w2 w1
  rintro w3 ⟨bk3, bk2, hr3, hb3⟩
  have BK3 := Aside0.mk bk3
  have BK2 := Aside0.mk bk2
  have HR3 := Aside0.mk hr3
  have HB3 := Aside0.mk hb3
  clear bk3 bk2 hr3 hb3
  have q0 : w3.cell? ⟨g3, 0, none⟩ = some (.int .i64 0) := (blk_cell BK3.out 0).trans rfl
  have c1 := HR3.out.cell1
  refine start_ (n := 9) (S := fun W => W.cell? ⟨g3, 0, none⟩ = some (.int .i64 0) ∧ W.cell? ⟨b, 1, none⟩ = some (.string s)) (ds := []) #[false, false, false, false, false, false, false, false, false] (by kernel_rfl) rfl rfl ⟨q0, c1⟩ (fun hHeld => ?_)
  refine pure_ (i := 0) (N := some 10) (v := ?_) (a' := ?_) #[true, false, false, false, false, false, false, false, false] rfl rfl (by kernel_rfl) (fun _ _ _ h => h) (Or.inl ⟨by rfl, ?_⟩) ?_ ?_
  rotate_left
  · intro w'
    go_simp
    with_reducible rfl
  rotate_left
  · simp only [Act.put, List.setIfInBounds_toArray, List.set_cons_zero, List.set_cons_succ, i64_w, i32_w]
    rfl
  refine take_ (i := 1) (N := some 11) (v := ?_) (a' := ?_) #[true, true, false, false, false, false, false, false, false] rfl rfl (by kernel_rfl) (fun _ _ _ h => h) (Or.inl ⟨by rfl, ?_⟩) hHeld ?_ ?_
  rotate_left
  · rintro w' ⟨s0, s1⟩
    go_simp
    with_reducible rfl
  rotate_left
  · simp only [Act.put, List.setIfInBounds_toArray, List.set_cons_zero, List.set_cons_succ, i64_w, i32_w]
    rfl
  refine pure_ (i := 2) (N := some 12) (v := ?_) (a' := ?_) #[true, true, true, false, false, false, false, false, false] rfl rfl (by kernel_rfl) (fun _ _ _ h => h) (Or.inl ⟨by rfl, ?_⟩) ?_ ?_
  rotate_left
  · intro w'
    go_simp
    with_reducible rfl
  rotate_left
  · simp only [Act.put, List.setIfInBounds_toArray, List.set_cons_zero, List.set_cons_succ, i64_w, i32_w]
    rfl
  refine pure_ (i := 3) (N := some 13) (v := ?_) (a' := ?_) #[true, true, true, true, false, false, false, false, false] rfl rfl (by kernel_rfl) (fun _ _ _ h => h) (Or.inl ⟨by rfl, ?_⟩) ?_ ?_
  rotate_left
  · intro w'
    go_simp
    with_reducible rfl
  rotate_left
  · simp only [Act.put, List.setIfInBounds_toArray, List.set_cons_zero, List.set_cons_succ, i64_w, i32_w]
    rfl
  refine pure_ (i := 4) (N := some 14) (v := ?_) (a' := ?_) #[true, true, true, true, true, false, false, false, false] rfl rfl (by kernel_rfl) (fun _ _ _ h => h) (Or.inl ⟨by rfl, ?_⟩) ?_ ?_
  rotate_left
  · intro w'
    go_simp
    with_reducible rfl
  rotate_left
  · simp only [Act.put, List.setIfInBounds_toArray, List.set_cons_zero, List.set_cons_succ, i64_w, i32_w]
    rfl
  refine pure_ (i := 5) (N := some 15) (v := ?_) (a' := ?_) #[true, true, true, true, true, true, false, false, false] rfl rfl (by kernel_rfl) (fun _ _ _ h => h) (Or.inl ⟨by rfl, ?_⟩) ?_ ?_
  rotate_left
  · intro w'
    go_simp
    with_reducible rfl
  rotate_left
  · simp only [Act.put, List.setIfInBounds_toArray, List.set_cons_zero, List.set_cons_succ, i64_w, i32_w]
    rfl
  refine take_ (i := 6) (N := some 16) (v := ?_) (a' := ?_) #[true, true, true, true, true, true, true, false, false] rfl rfl (by kernel_rfl) (fun _ _ _ h => h) (Or.inl ⟨by rfl, ?_⟩) hHeld ?_ ?_
  rotate_left
  · rintro w' ⟨s0, s1⟩
    go_simp
    with_reducible rfl
  rotate_left
  · simp only [Act.put, List.setIfInBounds_toArray, List.set_cons_zero, List.set_cons_succ, i64_w, i32_w]
    rfl
  refine pure_ (i := 7) (N := some 17) (v := ?_) (a' := ?_) #[true, true, true, true, true, true, true, true, false] rfl rfl (by kernel_rfl) (fun _ _ _ h => h) (Or.inl ⟨by rfl, ?_⟩) ?_ ?_
  rotate_left
  · intro w'
    go_simp
    with_reducible rfl
  rotate_left
  · simp only [Act.put, List.setIfInBounds_toArray, List.set_cons_zero, List.set_cons_succ, i64_w, i32_w]
    rfl
  refine one_ (i := 8) (N := some 18) #[true, true, true, true, true, true, true, true, true] rfl rfl (by kernel_rfl) (by decide) (fun K hK => ?_)
  refine panics_ Try.func35 (by kernel_rfl) rfl #[.bool false, .int .i64 51, .int .i64 (s.size : Int)] rfl rfl (by (try simp only [List.map_toArray, List.map_cons, List.map_nil]); first | done | rfl) ?_
  refine (need_no _ _ _).mono ?_
  rintro e w5 ⟨rfl, rfl⟩
  exact ⟨_, rfl, rfl, rfl, grown_drew (grown_of_below' HB3.out _)⟩
set_option maxHeartbeats 1000000 in
theorem next_no (b : Nat) (A : Option Addr) (n c : Nat) (s : ByteArray) (p : Int) (k : Nat) (kd : Int) (tx : ByteArray) (wat en er : Int) (w : World) (hb : RB w b A n c s p) (h : words_Next.f k s p = some (kd, tx, wat, en, er)) (he : ¬ er = 0) :
    Calls Try.prog 36 #[.pointer (some ⟨b, 0, none⟩)] w fun e w' => e = gaveUp er en ∧ w.grownBy w' (some b) := by
  have HN := fun W (q : RB W b A n c s p) => Aside0.mk (peek_no b A n c s p k kd tx wat en er W q h he)
  have HRB := Aside0.mk hb
  clear h hb he
  go_enter Try.func36, Try.ntmps36
  go_wp2_with (first | ((with_reducible refine gate_dst (N := 2) rfl ?_); refine box_event ?hg (N := 2) ?hd (cs := #[.int .i64 0, .string (⟨#[]⟩ : ByteArray), .int .i64 0]) (t := 70) ?hr ?_; (case hd => rfl); (case hg => rfl); (case hr => first | (go_simp; done) | (go_simp; rfl)); intro g2 hg_g2 w1 hbox_g2 hb_g2; have HG_g2 := Aside0.mk hg_g2; have HX_g2 := Aside0.mk hbox_g2; have HB_g2 := Aside0.mk hb_g2; clear hg_g2 hbox_g2 hb_g2) | (go_at_call 34; refine (HN _ (HRB.out.below HB_g2.out)).out.mono ?_; rintro e w2 ⟨rfl, hb2⟩))
  exact ⟨rfl, rfl, grown_of_below' (below_step HB_g2.out hb2) _⟩
end Go.Proofs.Ytpepjodkahdicaa.PTb
