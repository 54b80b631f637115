/- The contracts of text.reads and of its deferred closure. Conditions: none. -/
-- Written by programs of this session (wip/tools), cut to what the claim uses (wip/tools/prune.py).
import Derived.Test.YtpepjodkahdicaaRdL
import Derived.Recover
import Derived.WalkSmall
namespace Go.Proofs.Ytpepjodkahdicaa.PTb
open Go.RowKit Go.Proofs.YtpepjodkahdicaaW.PrintWords Go.Proofs.YtpepjodkahdicaaW.PrintLast Go.Proofs.YtpepjodkahdicaaW.PrintMore
set_option linter.unusedVariables false
set_option linter.unusedSimpArgs false
set_option maxRecDepth 100000 in
set_option maxHeartbeats 2000000 in
theorem catch_panicking (ge gt : Nat) (e a x0 y0 : Int) (older : List PanicEntry) (w : World) (he : w.heap[ge]? = some (.cells #[.int .i64 x0] 28 (0, 0))) (ht : w.heap[gt]? = some (.cells #[.int .i64 y0] 3 (0, 0))) :
    CallsD Try.prog 37 #[.pointer (some ⟨ge, 0, none⟩), .pointer (some ⟨gt, 0, none⟩)] (.panicking ({ v := .iface 76 (.agg #[.int .i64 e, .int .i64 a]), recovered := false } :: older)) w fun x u' w' =>
      x = .returned (.tuple #[]) ∧ u' = .panicking ({ v := .iface 76 (.agg #[.int .i64 e, .int .i64 a]), recovered := true } :: older) ∧ Chg ge gt w w' ∧ w'.heap[ge]? = some (.cells #[.int .i64 e] 28 (0, 0)) ∧ w'.heap[gt]? = some (.cells #[.int .i64 a] 3 (0, 0)) := by
  refine callsD_of_wpS Try.func37 rfl fun c₀ cs hu => ?_
  simp only [Try.ntmps37]
  apply wpS_seq
  apply wpS_region
  simp [wpOpsS, go_sem, recoverD, hu, Exit.thenS]
  refine wpS_of_wp ?_
  generalize hQ : (fun (e : Exit) (a' : Act) (w' : World) => bodyPostS Try.prog Try.f37 c₀ cs _ e a' _ w') = Q
  have HQ := Aside0.mk hQ
  have HE := Aside0.mk he
  have HT := Aside0.mk ht
  clear hQ hu he ht
  simp only [List.size_toArray, List.length_cons, List.length_nil, Nat.reduceAdd, Nat.reduceSub, Array.replicate_succ, Array.replicate_zero, List.push_toArray, List.append_toArray, List.nil_append, List.cons_append, List.setIfInBounds_toArray, List.set_cons_zero, List.set_cons_succ]
  have hta : ∀ W, (Instr.typeAssert (.iface 76 (.agg #[.int .i64 e, .int .i64 a])) 20 76 true).run Try.prog W = .ok (.tuple #[.agg #[.int .i64 e, .int .i64 a], .bool true]) W := fun _ => by kernel_rfl
  go_wp2
  refine hold_world (G := Code.wp _ _ _ _) (fun W => W.heap[w.heap.size]? = some (.cells #[.int .i64 e, .int .i64 a] 76 (0, 0)) ∧ W.heap[ge]? = some (.cells #[.int .i64 x0] 28 (0, 0)) ∧ W.heap[gt]? = some (.cells #[.int .i64 y0] 3 (0, 0)) ∧ Chg ge gt w W) ⟨blk_new _ _, blk_alloc HE.out _, blk_alloc HT.out _, (Chg.refl _).alloc _⟩ ?_
  generalize w.heap.size = g3
  rintro w1 ⟨bk, be, bt, hc⟩
  have BE := Aside0.mk be
  have BT := Aside0.mk bt
  have HC := Aside0.mk hc
  have r0 : w1.cell? ⟨g3, 0, none⟩ = some (.int .i64 e) := (blk_cell bk 0).trans rfl
  have r1 : w1.cell? ⟨g3, 1, none⟩ = some (.int .i64 a) := (blk_cell bk 1).trans rfl
  have c0 : w1.cell? ⟨ge, 0, none⟩ = some (.int .i64 x0) := (blk_cell be 0).trans rfl
  have c1 : w1.cell? ⟨gt, 0, none⟩ = some (.int .i64 y0) := (blk_cell bt 0).trans rfl
  have f0 := blk_frozen be 0
  have f1 := blk_frozen bt 0
  have n1 : ¬ ge = gt := blk_ne be bt (by decide)
  have n2 : ¬ gt = ge := fun e => n1 e.symm
  have n3 : ¬ ge = g3 := blk_ne be bk (by decide)
  have n4 : ¬ gt = g3 := blk_ne bt bk (by decide)
  clear bk be bt hc HE HT
  go_region_held3 (fun W => W.cell? ⟨g3, 0, none⟩ = some (.int .i64 e) ∧ W.cell? ⟨g3, 1, none⟩ = some (.int .i64 a)) (go_keep) (fail)
  rw [← HQ.out]
  refine ⟨rfl, _, rfl, .tuple #[], by simp [results, Try.results37], rfl, rfl, ?_, ?_, ?_⟩
  · exact ((HC.out.drew).setn _ _).sete _ _
  · exact blk_far (blk_put (blk_drew BE.out) 0 _ rfl) n1 _
  · exact blk_put (blk_far (blk_drew BT.out) n2 _) 0 _ rfl
set_option maxRecDepth 100000 in
theorem catch_idle (p q : Value) (w : World) :
    CallsD Try.prog 37 #[p, q] .returning w fun x u' w' => x = .returned (.tuple #[]) ∧ u' = .returning ∧ w' = w := by
  refine callsD_of_wpS Try.func37 rfl fun c₀ cs hu => ?_
  simp only [Try.ntmps37]
  apply wpS_seq
  apply wpS_region
  simp [wpOpsS, go_sem, recoverD, hu, Exit.thenS]
  refine wpS_of_wp ?_
  generalize hQ : (fun (e : Exit) (a' : Act) (w' : World) => bodyPostS Try.prog Try.f37 c₀ cs _ e a' _ w') = Q
  have HQ := Aside0.mk hQ
  have HU := Aside0.mk hu
  clear hQ hu
  simp only [List.size_toArray, List.length_cons, List.length_nil, Nat.reduceAdd, Nat.reduceSub, Array.replicate_succ, Array.replicate_zero, List.push_toArray, List.append_toArray, List.nil_append, List.cons_append, List.setIfInBounds_toArray, List.set_cons_zero, List.set_cons_succ]
  go_wp2
  rw [← HQ.out]
  have hu := HU.out
  refine ⟨rfl, .returning, ?_, .tuple #[], by simp [results, Try.results37], rfl, rfl, rfl⟩
  rw [← hu]
theorem grown_chg {a w w' : World} {b1 b2 bo : Nat} (h : a.grownBy w (some bo)) (hc : Chg b1 b2 w w') (h1 : b1 = bo ∨ a.heap.size ≤ b1) (h2 : b2 = bo ∨ a.heap.size ≤ b2) : a.grownBy w' (some bo) :=
  ⟨hc.os.trans h.os, hc.tape.trans h.tape, hc.output.trans h.output, Nat.le_trans h.size hc.size, fun k hk hn => (hc.block k (Nat.lt_of_lt_of_le hk h.size) (fun e => by rcases h1 with h1 | h1; exact hn (by rw [e, h1]); omega) (fun e => by rcases h2 with h2 | h2; exact hn (by rw [e, h2]); omega)).trans (h.block k hk hn)⟩
/-- what the closure of Term has laid -/
def TermFin (bo base : Nat) (W : World) (t : S27) : Prop := ∃ v, W.heap[bo]? = some (.cells #[.string t.f0, .int .i64 t.f1, v] 27 (0, 0)) ∧ Kd.R k27 27 W base (fun _ => True) v t.f2
set_option maxRecDepth 100000 in
set_option maxHeartbeats 4000000 in
theorem reads_term_long (A : Option Addr) (c : Nat) (g : List S62) (s : ByteArray) (bo : Nat) (w : World) (hs : 800 < s.size) :
    Calls Try.prog 19 #[.slice A g.length c, .string s, .func (.func 20) #[] #[.pointer (some ⟨bo, 0, none⟩)]] w fun e w' => e = .returned (.tuple #[.int .i64 55, .int .i64 0]) ∧ Below w.heap.size w w' := by
  have hmf : ∀ (fn : Fn) (first cap : Array Value) (w : World), (Instr.makeFunc fn first cap).run Try.prog w = .ok (.func fn first cap) w := fun _ _ _ _ => rfl
  have hsb : decide ((s.size : Int) ≤ 800) = false := decide_eq_false (by omega)
  clear hs
  go_enter_defers Try.func19, Try.ntmps19
  go_wp2_with (first | ((with_reducible refine gate_dst (N := 6) rfl ?_); refine box_event ?hg (N := 6) ?hd (cs := #[.int .i64 0]) (t := 28) ?hr ?_; (case hd => rfl); (case hg => rfl); (case hr => first | (go_simp; done) | (go_simp; rfl)); intro ge hg_ge w1 hbox_ge hb_ge; have HG_ge := Aside0.mk hg_ge; have HX_ge := Aside0.mk hbox_ge; have HB_ge := Aside0.mk hb_ge; clear hg_ge hbox_ge hb_ge) | ((with_reducible refine gate_dst (N := 7) rfl ?_); refine box_event ?hg (N := 7) ?hd (cs := #[.int .i64 0]) (t := 3) ?hr ?_; (case hd => rfl); (case hg => rfl); (case hr => first | (go_simp; done) | (go_simp; rfl)); intro gt hg_gt w2 hbox_gt hb_gt; have HG_gt := Aside0.mk hg_gt; have HX_gt := Aside0.mk hbox_gt; have HB_gt := Aside0.mk hb_gt; clear hg_gt hbox_gt hb_gt) | (go_at_call 35; refine (need_no _ _ _).mono ?_; rintro e w5 ⟨rfl, rfl⟩))
  refine leaves_cons (f := 37) (args := #[.pointer (some ⟨ge, 0, none⟩), .pointer (some ⟨gt, 0, none⟩)]) (by simp) (by simp [go_sem]) ?_
  refine (catch_panicking ge gt 55 0 0 0 [] _ (blk_below HX_ge.out HB_gt.out) HX_gt.out).mono ?_
  rintro e u' w6 ⟨rfl, rfl, hc, h1, h2⟩
  have k1 : w6.cell? ⟨ge, 0, none⟩ = some (.int .i64 55) := (blk_cell h1 0).trans rfl
  have k2 : w6.cell? ⟨gt, 0, none⟩ = some (.int .i64 0) := (blk_cell h2 0).trans rfl
  have LE := Aside0.mk (And.intro (show w.heap.size ≤ ge by have := HG_ge.out; omega) (show w.heap.size ≤ gt by have := HG_gt.out; have := HB_ge.out.size; omega))
  have HCX := Aside0.mk hc
  clear hc h1 h2
  simp [Leaves, settle, results, Try.results19, go_sem, k1, k2]
  exact HCX.out.base (below_step HB_ge.out HB_gt.out) LE.out.1 LE.out.2
set_option maxRecDepth 100000 in
set_option maxHeartbeats 4000000 in
theorem reads_term_no (A : Option Addr) (c : Nat) (g : List S62) (s : ByteArray) (bo : Nat) (res : Except (Int × Int) S27) (er a : Int) (w : World) (hs : s.size ≤ 800) (hbo : bo < w.heap.size) (hr : res = .error (er, a)) (hH : ∀ (W : World) (b : Nat), Below w.heap.size w W → RB W b A g.length c s 0 → w.heap.size ≤ b → Calls Try.prog 20 #[.pointer (some ⟨b, 0, none⟩), .pointer (some ⟨bo, 0, none⟩)] W fun e W' => match res with | .error x => e = gaveUp x.1 x.2 ∧ Chg b b W W' | .ok t => e = .returned (.tuple #[]) ∧ Chg b bo W W' ∧ TermFin bo W.heap.size W' t) :
    Calls Try.prog 19 #[.slice A g.length c, .string s, .func (.func 20) #[] #[.pointer (some ⟨bo, 0, none⟩)]] w fun e w' => e = .returned (.tuple #[.int .i64 er, .int .i64 a]) ∧ Below w.heap.size w w' := by
  subst hr
  have hmf : ∀ (fn : Fn) (first cap : Array Value) (w : World), (Instr.makeFunc fn first cap).run Try.prog w = .ok (.func fn first cap) w := fun _ _ _ _ => rfl
  have hsb : decide ((s.size : Int) ≤ 800) = true := decide_eq_true (by omega)
  have HH := fun W b q1 q2 q3 => Aside0.mk (hH W b q1 q2 q3)
  have HBO := Aside0.mk hbo
  clear hs hH hbo
  go_enter_defers Try.func19, Try.ntmps19
  go_wp2_with (first | ((with_reducible refine gate_dst (N := 6) rfl ?_); refine box_event ?hg (N := 6) ?hd (cs := #[.int .i64 0]) (t := 28) ?hr ?_; (case hd => rfl); (case hg => rfl); (case hr => first | (go_simp; done) | (go_simp; rfl)); intro ge hg_ge w1 hbox_ge hb_ge; have HG_ge := Aside0.mk hg_ge; have HX_ge := Aside0.mk hbox_ge; have HB_ge := Aside0.mk hb_ge; clear hg_ge hbox_ge hb_ge) | ((with_reducible refine gate_dst (N := 7) rfl ?_); refine box_event ?hg (N := 7) ?hd (cs := #[.int .i64 0]) (t := 3) ?hr ?_; (case hd => rfl); (case hg => rfl); (case hr => first | (go_simp; done) | (go_simp; rfl)); intro gt hg_gt w2 hbox_gt hb_gt; have HG_gt := Aside0.mk hg_gt; have HX_gt := Aside0.mk hbox_gt; have HB_gt := Aside0.mk hb_gt; clear hg_gt hbox_gt hb_gt) | (go_at_call 35; refine (need_ok _ _ _).mono ?_; rintro e w5 ⟨rfl, rfl⟩) | ((with_reducible refine gate_dst (N := 17) rfl ?_); refine box_event ?hg (N := 17) ?hd (cs := #[.slice A g.length c, .string s, .int .i64 0]) (t := 79) ?hr ?_; (case hd => rfl); (case hg => rfl); (case hr => first | (go_simp; done) | (go_simp; rfl)); intro gb hg_gb w3 hbox_gb hb_gb; have HG_gb := Aside0.mk hg_gb; have HX_gb := Aside0.mk hbox_gb; have HB_gb := Aside0.mk hb_gb; clear hg_gb hbox_gb hb_gb; have GB := Aside0.mk (show w.heap.size ≤ gb by have := HG_gb.out; have := (below_step HB_ge.out HB_gt.out).size; omega)) | (go_at_call 20; refine (HH _ _ (below_step (below_step HB_ge.out HB_gt.out) HB_gb.out) HX_gb.out GB.out).out.mono ?_; rintro e w5 ⟨rfl, hc5⟩))
  have HC5 := Aside0.mk hc5
  clear hc5
  have E3 := blk_below (blk_below HX_ge.out HB_gt.out) HB_gb.out
  have T3 := blk_below HX_gt.out HB_gb.out
  have E5 := HC5.out.blk E3 (blk_ne E3 HX_gb.out (by decide)) (blk_ne E3 HX_gb.out (by decide))
  have T5 := HC5.out.blk T3 (blk_ne T3 HX_gb.out (by decide)) (blk_ne T3 HX_gb.out (by decide))
  refine leaves_cons (f := 37) (args := #[.pointer (some ⟨ge, 0, none⟩), .pointer (some ⟨gt, 0, none⟩)]) (by simp) (by simp [go_sem]) ?_
  refine (catch_panicking ge gt er a 0 0 [] _ E5 T5).mono ?_
  rintro e u' w6 ⟨rfl, rfl, hc, h1, h2⟩
  have k1 : w6.cell? ⟨ge, 0, none⟩ = some (.int .i64 er) := (blk_cell h1 0).trans rfl
  have k2 : w6.cell? ⟨gt, 0, none⟩ = some (.int .i64 a) := (blk_cell h2 0).trans rfl
  have LE := Aside0.mk (And.intro (show w.heap.size ≤ ge by have := HG_ge.out; omega) (show w.heap.size ≤ gt by have := HG_gt.out; have := HB_ge.out.size; omega))
  have HCX := Aside0.mk hc
  clear hc h1 h2
  simp [Leaves, settle, results, Try.results19, go_sem, k1, k2]
  exact HCX.out.base (HC5.out.base (below_step (below_step HB_ge.out HB_gt.out) HB_gb.out) GB.out GB.out) LE.out.1 LE.out.2
set_option maxRecDepth 100000 in
set_option maxHeartbeats 4000000 in
theorem reads_term_ok (A : Option Addr) (c : Nat) (g : List S62) (s : ByteArray) (bo : Nat) (res : Except (Int × Int) S27) (t : S27) (w : World) (hs : s.size ≤ 800) (hbo : bo < w.heap.size) (hr : res = .ok t) (hH : ∀ (W : World) (b : Nat), Below w.heap.size w W → RB W b A g.length c s 0 → w.heap.size ≤ b → Calls Try.prog 20 #[.pointer (some ⟨b, 0, none⟩), .pointer (some ⟨bo, 0, none⟩)] W fun e W' => match res with | .error x => e = gaveUp x.1 x.2 ∧ Chg b b W W' | .ok t => e = .returned (.tuple #[]) ∧ Chg b bo W W' ∧ TermFin bo W.heap.size W' t) :
    Calls Try.prog 19 #[.slice A g.length c, .string s, .func (.func 20) #[] #[.pointer (some ⟨bo, 0, none⟩)]] w fun e w' => e = .returned (.tuple #[.int .i64 0, .int .i64 0]) ∧ w.grownBy w' (some bo) ∧ ∃ B W1, TermFin bo B W1 t ∧ w.heap.size ≤ B ∧ W1.heap.size ≤ w'.heap.size ∧ ∀ k, (B ≤ k ∨ k = bo) → k < W1.heap.size → w'.heap[k]? = W1.heap[k]? := by
  subst hr
  have hmf : ∀ (fn : Fn) (first cap : Array Value) (w : World), (Instr.makeFunc fn first cap).run Try.prog w = .ok (.func fn first cap) w := fun _ _ _ _ => rfl
  have hsb : decide ((s.size : Int) ≤ 800) = true := decide_eq_true (by omega)
  have HH := fun W b q1 q2 q3 => Aside0.mk (hH W b q1 q2 q3)
  have HBO := Aside0.mk hbo
  clear hs hH hbo
  go_enter_defers Try.func19, Try.ntmps19
  go_wp2_with (first | ((with_reducible refine gate_dst (N := 6) rfl ?_); refine box_event ?hg (N := 6) ?hd (cs := #[.int .i64 0]) (t := 28) ?hr ?_; (case hd => rfl); (case hg => rfl); (case hr => first | (go_simp; done) | (go_simp; rfl)); intro ge hg_ge w1 hbox_ge hb_ge; have HG_ge := Aside0.mk hg_ge; have HX_ge := Aside0.mk hbox_ge; have HB_ge := Aside0.mk hb_ge; clear hg_ge hbox_ge hb_ge) | ((with_reducible refine gate_dst (N := 7) rfl ?_); refine box_event ?hg (N := 7) ?hd (cs := #[.int .i64 0]) (t := 3) ?hr ?_; (case hd => rfl); (case hg => rfl); (case hr => first | (go_simp; done) | (go_simp; rfl)); intro gt hg_gt w2 hbox_gt hb_gt; have HG_gt := Aside0.mk hg_gt; have HX_gt := Aside0.mk hbox_gt; have HB_gt := Aside0.mk hb_gt; clear hg_gt hbox_gt hb_gt) | (go_at_call 35; refine (need_ok _ _ _).mono ?_; rintro e w5 ⟨rfl, rfl⟩) | ((with_reducible refine gate_dst (N := 17) rfl ?_); refine box_event ?hg (N := 17) ?hd (cs := #[.slice A g.length c, .string s, .int .i64 0]) (t := 79) ?hr ?_; (case hd => rfl); (case hg => rfl); (case hr => first | (go_simp; done) | (go_simp; rfl)); intro gb hg_gb w3 hbox_gb hb_gb; have HG_gb := Aside0.mk hg_gb; have HX_gb := Aside0.mk hbox_gb; have HB_gb := Aside0.mk hb_gb; clear hg_gb hbox_gb hb_gb; have GB := Aside0.mk (show w.heap.size ≤ gb by have := HG_gb.out; have := (below_step HB_ge.out HB_gt.out).size; omega)) | (go_at_call 20; refine (HH _ _ (below_step (below_step HB_ge.out HB_gt.out) HB_gb.out) HX_gb.out GB.out).out.mono ?_; rintro e w5 ⟨rfl, hc5, hf5⟩; have HC5 := Aside0.mk hc5; have HF5 := Aside0.mk hf5; clear hc5 hf5; have N1 := Aside0.mk (show ge ≠ bo by have := HG_ge.out; have := HBO.out; omega); have N2 := Aside0.mk (show gt ≠ bo by have := HG_gt.out; have := HB_ge.out.size; have := HBO.out; omega); have E3 := Aside0.mk (blk_below (blk_below HX_ge.out HB_gt.out) HB_gb.out); have T3 := Aside0.mk (blk_below HX_gt.out HB_gb.out); have E5 := Aside0.mk (HC5.out.blk E3.out (blk_ne E3.out HX_gb.out (by decide)) N1.out); have T5 := Aside0.mk (HC5.out.blk T3.out (blk_ne T3.out HX_gb.out (by decide)) N2.out); have yq0 : w5.cell? ⟨ge, 0, none⟩ = some (.int .i64 0) := (blk_cell E5.out 0).trans rfl; have yf0 : w5.frozen? ⟨ge, 0, none⟩ = false := blk_frozen E5.out 0; have zq0 : w5.cell? ⟨gt, 0, none⟩ = some (.int .i64 0) := (blk_cell T5.out 0).trans rfl; have zf0 : w5.frozen? ⟨gt, 0, none⟩ = false := blk_frozen T5.out 0; have m1 : ¬ ge = gt := (blk_ne E5.out T5.out (by decide)); have m2 : ¬ gt = ge := (fun e => m1 e.symm)))
  refine leaves_cons (f := 37) (args := #[.pointer (some ⟨ge, 0, none⟩), .pointer (some ⟨gt, 0, none⟩)]) (by simp) (by simp [go_sem]) ?_
  refine (catch_idle _ _ _).mono ?_
  rintro e u' w6 ⟨rfl, rfl, rfl⟩
  simp [Leaves, settle, results, Try.results19, go_sem, *]
  have HB3 := below_step (below_step HB_ge.out HB_gt.out) HB_gb.out
  have L1 : w.heap.size ≤ ge := by have := HG_ge.out; omega
  have L2 : w.heap.size ≤ gt := by have := HG_gt.out; have := HB_ge.out.size; omega
  refine ⟨?_, w3.heap.size, w5, HF5.out, HB3.size, Nat.le_refl _, fun k hk hlt => ?_⟩
  · exact grown_set (p := ⟨gt, 0, none⟩) (grown_set (p := ⟨ge, 0, none⟩) (grown_chg (grown_of_below' HB3 _) HC5.out (.inr GB.out) (.inl rfl)) (.inr L1) _) (.inr L2) _
  · have l1 := blk_lt E3.out
    have l2 := blk_lt T3.out
    have m3 := N1.out
    have m4 := N2.out
    rw [Below.heap_setCell _ ⟨gt, 0, none⟩ _ k (by rcases hk with hk | hk <;> (simp; omega)), Below.heap_setCell _ ⟨ge, 0, none⟩ _ k (by rcases hk with hk | hk <;> (simp; omega))]
end Go.Proofs.Ytpepjodkahdicaa.PTb
