/- The contract of text.Binds, where it reads them. Conditions: none. -/
-- Written by programs of this session (wip/tools), cut to what the claim uses (wip/tools/prune.py).
import Derived.Test.YtpepjodkahdicaaRdQ
namespace Go.Proofs.Ytpepjodkahdicaa.PTb
open Go.RowKit Go.Proofs.YtpepjodkahdicaaW.PrintWords Go.Proofs.YtpepjodkahdicaaW.PrintLast Go.Proofs.YtpepjodkahdicaaW.PrintMore
set_option linter.unusedVariables false
set_option linter.unusedSimpArgs false
set_option maxRecDepth 100000 in
set_option maxHeartbeats 4000000 in
theorem reads_binds_ok (A : Option Addr) (c : Nat) (g : List S62) (s : ByteArray) (bo : Nat) (res : Except (Int × Int) (List S46)) (t : (List S46)) (w : World) (hs : s.size ≤ 800) (hbo : bo < w.heap.size) (hr : res = .ok t) (hH : ∀ (W : World) (b : Nat), Below w.heap.size w W → RB W b A g.length c s 0 → w.heap.size ≤ b → Calls Try.prog 33 #[.pointer (some ⟨b, 0, none⟩), .pointer (some ⟨bo, 0, none⟩)] W fun e W' => match res with | .error x => e = gaveUp x.1 x.2 ∧ Chg b b W W' | .ok t => e = .returned (.tuple #[]) ∧ Chg b bo W W' ∧ BindsFin bo W.heap.size W' t) :
    Calls Try.prog 19 #[.slice A g.length c, .string s, .func (.func 33) #[] #[.pointer (some ⟨bo, 0, none⟩)]] w fun e w' => e = .returned (.tuple #[.int .i64 0, .int .i64 0]) ∧ w.grownBy w' (some bo) ∧ ∃ B W1, BindsFin bo B W1 t ∧ w.heap.size ≤ B ∧ W1.heap.size ≤ w'.heap.size ∧ ∀ k, (B ≤ k ∨ k = bo) → k < W1.heap.size → w'.heap[k]? = W1.heap[k]? := by
  subst hr
  have hmf : ∀ (fn : Fn) (first cap : Array Value) (w : World), (Instr.makeFunc fn first cap).run Try.prog w = .ok (.func fn first cap) w := fun _ _ _ _ => rfl
  have hsb : decide ((s.size : Int) ≤ 800) = true := decide_eq_true (by omega)
  have HH := fun W b q1 q2 q3 => Aside0.mk (hH W b q1 q2 q3)
  have HBO := Aside0.mk hbo
  clear hs hH hbo
  go_enter_defers Try.func19, Try.ntmps19
  go_wp2_with (first | ((with_reducible refine gate_dst (N := 6) rfl ?_); refine box_event ?hg (N := 6) ?hd (cs := #[.int .i64 0]) (t := 28) ?hr ?_; (case hd => rfl); (case hg => rfl); (case hr => first | (go_simp; done) | (go_simp; rfl)); intro ge hg_ge w1 hbox_ge hb_ge; have HG_ge := Aside0.mk hg_ge; have HX_ge := Aside0.mk hbox_ge; have HB_ge := Aside0.mk hb_ge; clear hg_ge hbox_ge hb_ge) | ((with_reducible refine gate_dst (N := 7) rfl ?_); refine box_event ?hg (N := 7) ?hd (cs := #[.int .i64 0]) (t := 3) ?hr ?_; (case hd => rfl); (case hg => rfl); (case hr => first | (go_simp; done) | (go_simp; rfl)); intro gt hg_gt w2 hbox_gt hb_gt; have HG_gt := Aside0.mk hg_gt; have HX_gt := Aside0.mk hbox_gt; have HB_gt := Aside0.mk hb_gt; clear hg_gt hbox_gt hb_gt) | (go_at_call 35; refine (need_ok _ _ _).mono ?_; rintro e w5 ⟨rfl, rfl⟩) | ((with_reducible refine gate_dst (N := 17) rfl ?_); refine box_event ?hg (N := 17) ?hd (cs := #[.slice A g.length c, .string s, .int .i64 0]) (t := 79) ?hr ?_; (case hd => rfl); (case hg => rfl); (case hr => first | (go_simp; done) | (go_simp; rfl)); intro gb hg_gb w3 hbox_gb hb_gb; have HG_gb := Aside0.mk hg_gb; have HX_gb := Aside0.mk hbox_gb; have HB_gb := Aside0.mk hb_gb; clear hg_gb hbox_gb hb_gb; have GB := Aside0.mk (show w.heap.size ≤ gb by have := HG_gb.out; have := (below_step HB_ge.out HB_gt.out).size; omega)) | (go_at_call 33; refine (HH _ _ (below_step (below_step HB_ge.out HB_gt.out) HB_gb.out) HX_gb.out GB.out).out.mono ?_; rintro e w5 ⟨rfl, hc5, hf5⟩; have HC5 := Aside0.mk hc5; have HF5 := Aside0.mk hf5; clear hc5 hf5; have N1 := Aside0.mk (show ge ≠ bo by have := HG_ge.out; have := HBO.out; omega); have N2 := Aside0.mk (show gt ≠ bo by have := HG_gt.out; have := HB_ge.out.size; have := HBO.out; omega); have E3 := Aside0.mk (blk_below (blk_below HX_ge.out HB_gt.out) HB_gb.out); have T3 := Aside0.mk (blk_below HX_gt.out HB_gb.out); have E5 := Aside0.mk (HC5.out.blk E3.out (blk_ne E3.out HX_gb.out (by decide)) N1.out); have T5 := Aside0.mk (HC5.out.blk T3.out (blk_ne T3.out HX_gb.out (by decide)) N2.out); have yq0 : w5.cell? ⟨ge, 0, none⟩ = some (.int .i64 0) := (blk_cell E5.out 0).trans rfl; have yf0 : w5.frozen? ⟨ge, 0, none⟩ = false := blk_frozen E5.out 0; have zq0 : w5.cell? ⟨gt, 0, none⟩ = some (.int .i64 0) := (blk_cell T5.out 0).trans rfl; have zf0 : w5.frozen? ⟨gt, 0, none⟩ = false := blk_frozen T5.out 0; have m1 : ¬ ge = gt := (blk_ne E5.out T5.out (by decide)); have m2 : ¬ gt = ge := (fun e => m1 e.symm)))
  refine leaves_cons (f := 37) (args := #[.pointer (some ⟨ge, 0, none⟩), .pointer (some ⟨gt, 0, none⟩)]) (by simp) (by simp [go_sem]) ?_
  refine (catch_idle _ _ _).mono ?_
  rintro e u' w6 ⟨rfl, rfl, rfl⟩
  simp [Leaves, settle, results, Try.results19, go_sem, *]
  have HB3 := below_step (below_step HB_ge.out HB_gt.out) HB_gb.out
  have L1 : w.heap.size ≤ ge := by have := HG_ge.out; omega
  have L2 : w.heap.size ≤ gt := by have := HG_gt.out; have := HB_ge.out.size; omega
  refine ⟨?_, w3.heap.size, w5, HF5.out, HB3.size, Nat.le_refl _, fun k hk hlt => ?_⟩
  · exact grown_set (p := ⟨gt, 0, none⟩) (grown_set (p := ⟨ge, 0, none⟩) (grown_chg (grown_of_below' HB3 _) HC5.out (.inr GB.out) (.inl rfl)) (.inr L1) _) (.inr L2) _
  · have l1 := blk_lt E3.out
    have l2 := blk_lt T3.out
    have m3 := N1.out
    have m4 := N2.out
    rw [Below.heap_setCell _ ⟨gt, 0, none⟩ _ k (by rcases hk with hk | hk <;> (simp; omega)), Below.heap_setCell _ ⟨ge, 0, none⟩ _ k (by rcases hk with hk | hk <;> (simp; omega))]
def bindsHow (k : Nat) (g : List S62) (s : ByteArray) : Option (List S46) := (rdPeek k s 0).bind fun
  | .error _ => none
  | .ok (x, _) => (rdBinds k g s x.1 0 []).bind fun l => (rdMays k g l 0).bind fun _ => some l
theorem binds1_any (b bo : Nat) (A : Option Addr) (c : Nat) (g : List S62) (s : ByteArray) (k : Nat) (w0 w : World) (hS : Kd.C k62 w0 A g.length g) (hc : g.length ≤ c) (H0 : Below w0.heap.size w0 w) (hb0 : w0.heap.size ≤ b) (hb : RB w b A g.length c s 0) (hbo : w.heap[bo]? = some (.cells #[.slice none 0 0] 34 (0, 0))) (hne : bo ≠ b) (l : List S46) (h : bindsHow k g s = some l) :
    Calls Try.prog 33 #[.pointer (some ⟨b, 0, none⟩), .pointer (some ⟨bo, 0, none⟩)] w fun e w' => e = .returned (.tuple #[]) ∧ Chg b bo w w' ∧ BindsFin bo w.heap.size w' l := by
  unfold bindsHow at h
  obtain ⟨rx, hx, h⟩ := Option.bind_eq_some_iff.mp h
  rcases rx with e | ⟨⟨kd, tx, wt⟩, en⟩
  · cases h
  dsimp only at h
  obtain ⟨l', hl, h⟩ := Option.bind_eq_some_iff.mp h
  obtain ⟨⟨⟩, hm, h⟩ := Option.bind_eq_some_iff.mp h
  obtain rfl := Option.some.inj h
  exact binds1_ok b bo A c g s k w0 w hS hc H0 hb0 hb kd tx wt en (rdPeek_ok hx) l' hl hm hbo hne
def rdBindsF (k : Nat) (g : List S62) (s : ByteArray) : Option (List S46 × Int × Int) :=
  if s.size ≤ 800 then (bindsHow k g s).bind fun l => some (l, 0, 0)
  else none
set_option maxHeartbeats 4000000 in
set_option maxRecDepth 100000 in
theorem Binds_ok (k : Nat) (A : Option Addr) (c : Nat) (g : List S62) (s : ByteArray) (l : List S46) (w : World) (hr0 : Kd.C k62 w A g.length g) (hc0 : g.length ≤ c) (hs : s.size ≤ 800) (h : bindsHow k g s = some l) :
    Calls Try.prog 16 #[.slice A g.length c, .string s] w fun e w' => (∃ v, e = .returned (.tuple #[v, .int .i64 0, .int .i64 0]) ∧ Kd.R k46 46 w' w.heap.size (fun _ => True) v l) ∧ Below w.heap.size w w' := by
  have hmf : ∀ (fn : Fn) (first cap : Array Value) (w : World), (Instr.makeFunc fn first cap).run Try.prog w = .ok (.func fn first cap) w := fun _ _ _ _ => rfl
  have HS := Aside0.mk hr0
  have HC := Aside0.mk hc0
  have HH := Aside0.mk h
  clear hr0 hc0 h
  go_enter Try.func16, Try.ntmps16
  go_wp2_with (first | ((with_reducible refine gate_dst (N := 7) rfl ?_); refine box_event ?hg (N := 7) ?hd (cs := #[.slice none 0 0]) (t := 34) ?hr ?_; (case hd => rfl); (case hg => rfl); (case hr => first | (go_simp; done) | (go_simp; rfl)); intro g7 hg_g7 w1 hbox_g7 hb_g7; have HG_g7 := Aside0.mk hg_g7; have HX_g7 := Aside0.mk hbox_g7; have HB_g7 := Aside0.mk hb_g7; clear hg_g7 hbox_g7 hb_g7) | (go_at_call 19; refine (reads_binds_ok A c g s g7 (.ok l) l _ hs (blk_lt HX_g7.out) rfl (fun W b q1 q2 q3 => binds1_any b g7 A c g s k w1 W (Kd.C_below HS.out HB_g7.out) HC.out q1 q3 q2 (blk_below HX_g7.out q1) (by have := blk_lt HX_g7.out; omega) l HH.out)).mono ?_; rintro e w5 ⟨rfl, hg5, hf5⟩; obtain ⟨B, W1, ⟨v, hbv, hrv⟩, hB1, hB2, hB3⟩ := hf5; have hR := Kd.R_bound hrv; have hR5 : Kd.R k46 46 w5 B (fun k_ => B ≤ k_) v l := Kd.R_mono (Kd.R_move hR (fun k_ hk => hB3 k_ (.inl hk.2.1) hk.2.2.1)) (fun k_ hk => hk.2.1); have hb7 := (hB3 g7 (.inr rfl) (blk_lt hbv)).trans hbv; obtain ⟨Av, cv, ev⟩ := Kd.R_slice hR5; subst ev; have HR5 := Aside0.mk hR5; have HLE := Aside0.mk hB1; clear hrv hR hR5 hB1 hB2 hB3 hbv; have HG5 := Aside0.mk (grown_grown (grown_of_below' HB_g7.out (some g7)) hg5); have y7 : w5.cell? ⟨g7, 0, none⟩ = some (.slice Av l.length cv) := (blk_cell hb7 0).trans rfl; have GW7 := Aside0.mk (show w.heap.size ≤ g7 by have := HG_g7.out; omega); clear hg5 hb7))
  refine bodyPost_ret (v := .tuple #[.slice Av l.length cv, .int .i64 0, .int .i64 0]) (by simp [results, Try.results16, go_sem, *]) rfl ⟨⟨_, rfl, ?_⟩, ?_⟩
  · refine Kd.R_mono (Kd.R_lower HR5.out ?_) (fun _ _ => trivial)
    have := HLE.out; have := HB_g7.out.size; omega
  · have hg := HG5.out
    exact ⟨hg.os, hg.tape, hg.output, hg.size, fun k_ hk => hg.block k_ hk (fun e => by have := Option.some.inj e; have := GW7.out; omega)⟩
theorem Binds_calls (k : Nat) (A : Option Addr) (c : Nat) (g : List S62) (s : ByteArray) (r1 : List S46) (r2 r3 : Int) (w : World) (hr0 : Kd.C k62 w A g.length g) (hc0 : g.length ≤ c) (h : rdBindsF k g s = some (r1, r2, r3)) :
    Calls Try.prog 16 #[.slice A g.length c, .string s] w fun e w' => ∃ v, e = .returned (.tuple #[v, .int .i64 r2, .int .i64 r3]) ∧ Kd.R k46 46 w' w.heap.size (fun _ => True) v r1 ∧ Below w.heap.size w w' := by
  unfold rdBindsF at h
  by_cases hs : s.size ≤ 800
  · rw [if_pos hs] at h
    obtain ⟨l, hx, h⟩ := Option.bind_eq_some_iff.mp h
    simp only [Option.some.injEq, Prod.mk.injEq] at h
    obtain ⟨rfl, rfl, rfl⟩ := h
    exact (Binds_ok k A c g s l w hr0 hc0 hs hx).mono fun e w' ⟨⟨v, he, hr⟩, hb⟩ => ⟨v, he, hr, hb⟩
  · rw [if_neg hs] at h
    cases h
end Go.Proofs.Ytpepjodkahdicaa.PTb
