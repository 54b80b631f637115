/- The contract of text.Equation, where it reads one. Conditions: none. -/
-- Written by programs of this session (wip/tools), cut to what the claim uses (wip/tools/prune.py).
import Derived.Test.YtpepjodkahdicaaRdO
namespace Go.Proofs.Ytpepjodkahdicaa.PTb
open Go.RowKit Go.Proofs.YtpepjodkahdicaaW.PrintWords Go.Proofs.YtpepjodkahdicaaW.PrintLast Go.Proofs.YtpepjodkahdicaaW.PrintMore
set_option linter.unusedVariables false
set_option linter.unusedSimpArgs false
/-- what the closure of Equation has laid -/
def EqFin (bo base : Nat) (W : World) (t : S27 × S27) : Prop := ∃ v1 v2, W.heap[bo]? = some (.cells #[.string t.1.f0, .int .i64 t.1.f1, v1, .string t.2.f0, .int .i64 t.2.f1, v2] 41 (0, 0)) ∧ Kd.R k27 27 W base (fun k => some k ≠ v2.ownBlock) v1 t.1.f2 ∧ Kd.R k27 27 W base (fun k => some k ≠ v1.ownBlock) v2 t.2.f2
set_option maxRecDepth 100000 in
set_option maxHeartbeats 4000000 in
theorem reads_eq_ok (A : Option Addr) (c : Nat) (g : List S62) (s : ByteArray) (bo : Nat) (res : Except (Int × Int) (S27 × S27)) (t : (S27 × S27)) (w : World) (hs : s.size ≤ 800) (hbo : bo < w.heap.size) (hr : res = .ok t) (hH : ∀ (W : World) (b : Nat), Below w.heap.size w W → RB W b A g.length c s 0 → w.heap.size ≤ b → Calls Try.prog 28 #[.pointer (some ⟨b, 0, none⟩), .pointer (some ⟨bo, 0, none⟩)] W fun e W' => match res with | .error x => e = gaveUp x.1 x.2 ∧ Chg b b W W' | .ok t => e = .returned (.tuple #[]) ∧ Chg b bo W W' ∧ EqFin bo W.heap.size W' t) :
    Calls Try.prog 19 #[.slice A g.length c, .string s, .func (.func 28) #[] #[.pointer (some ⟨bo, 0, none⟩)]] w fun e w' => e = .returned (.tuple #[.int .i64 0, .int .i64 0]) ∧ w.grownBy w' (some bo) ∧ ∃ B W1, EqFin bo B W1 t ∧ w.heap.size ≤ B ∧ W1.heap.size ≤ w'.heap.size ∧ ∀ k, (B ≤ k ∨ k = bo) → k < W1.heap.size → w'.heap[k]? = W1.heap[k]? := by
  subst hr
  have hmf : ∀ (fn : Fn) (first cap : Array Value) (w : World), (Instr.makeFunc fn first cap).run Try.prog w = .ok (.func fn first cap) w := fun _ _ _ _ => rfl
  have hsb : decide ((s.size : Int) ≤ 800) = true := decide_eq_true (by omega)
  have HH := fun W b q1 q2 q3 => Aside0.mk (hH W b q1 q2 q3)
  have HBO := Aside0.mk hbo
  clear hs hH hbo
  go_enter_defers Try.func19, Try.ntmps19
  go_wp2_with (first | ((with_reducible refine gate_dst (N := 6) rfl ?_); refine box_event ?hg (N := 6) ?hd (cs := #[.int .i64 0]) (t := 28) ?hr ?_; (case hd => rfl); (case hg => rfl); (case hr => first | (go_simp; done) | (go_simp; rfl)); intro ge hg_ge w1 hbox_ge hb_ge; have HG_ge := Aside0.mk hg_ge; have HX_ge := Aside0.mk hbox_ge; have HB_ge := Aside0.mk hb_ge; clear hg_ge hbox_ge hb_ge) | ((with_reducible refine gate_dst (N := 7) rfl ?_); refine box_event ?hg (N := 7) ?hd (cs := #[.int .i64 0]) (t := 3) ?hr ?_; (case hd => rfl); (case hg => rfl); (case hr => first | (go_simp; done) | (go_simp; rfl)); intro gt hg_gt w2 hbox_gt hb_gt; have HG_gt := Aside0.mk hg_gt; have HX_gt := Aside0.mk hbox_gt; have HB_gt := Aside0.mk hb_gt; clear hg_gt hbox_gt hb_gt) | (go_at_call 35; refine (need_ok _ _ _).mono ?_; rintro e w5 ⟨rfl, rfl⟩) | ((with_reducible refine gate_dst (N := 17) rfl ?_); refine box_event ?hg (N := 17) ?hd (cs := #[.slice A g.length c, .string s, .int .i64 0]) (t := 79) ?hr ?_; (case hd => rfl); (case hg => rfl); (case hr => first | (go_simp; done) | (go_simp; rfl)); intro gb hg_gb w3 hbox_gb hb_gb; have HG_gb := Aside0.mk hg_gb; have HX_gb := Aside0.mk hbox_gb; have HB_gb := Aside0.mk hb_gb; clear hg_gb hbox_gb hb_gb; have GB := Aside0.mk (show w.heap.size ≤ gb by have := HG_gb.out; have := (below_step HB_ge.out HB_gt.out).size; omega)) | (go_at_call 28; refine (HH _ _ (below_step (below_step HB_ge.out HB_gt.out) HB_gb.out) HX_gb.out GB.out).out.mono ?_; rintro e w5 ⟨rfl, hc5, hf5⟩; have HC5 := Aside0.mk hc5; have HF5 := Aside0.mk hf5; clear hc5 hf5; have N1 := Aside0.mk (show ge ≠ bo by have := HG_ge.out; have := HBO.out; omega); have N2 := Aside0.mk (show gt ≠ bo by have := HG_gt.out; have := HB_ge.out.size; have := HBO.out; omega); have E3 := Aside0.mk (blk_below (blk_below HX_ge.out HB_gt.out) HB_gb.out); have T3 := Aside0.mk (blk_below HX_gt.out HB_gb.out); have E5 := Aside0.mk (HC5.out.blk E3.out (blk_ne E3.out HX_gb.out (by decide)) N1.out); have T5 := Aside0.mk (HC5.out.blk T3.out (blk_ne T3.out HX_gb.out (by decide)) N2.out); have yq0 : w5.cell? ⟨ge, 0, none⟩ = some (.int .i64 0) := (blk_cell E5.out 0).trans rfl; have yf0 : w5.frozen? ⟨ge, 0, none⟩ = false := blk_frozen E5.out 0; have zq0 : w5.cell? ⟨gt, 0, none⟩ = some (.int .i64 0) := (blk_cell T5.out 0).trans rfl; have zf0 : w5.frozen? ⟨gt, 0, none⟩ = false := blk_frozen T5.out 0; have m1 : ¬ ge = gt := (blk_ne E5.out T5.out (by decide)); have m2 : ¬ gt = ge := (fun e => m1 e.symm)))
  refine leaves_cons (f := 37) (args := #[.pointer (some ⟨ge, 0, none⟩), .pointer (some ⟨gt, 0, none⟩)]) (by simp) (by simp [go_sem]) ?_
  refine (catch_idle _ _ _).mono ?_
  rintro e u' w6 ⟨rfl, rfl, rfl⟩
  simp [Leaves, settle, results, Try.results19, go_sem, *]
  have HB3 := below_step (below_step HB_ge.out HB_gt.out) HB_gb.out
  have L1 : w.heap.size ≤ ge := by have := HG_ge.out; omega
  have L2 : w.heap.size ≤ gt := by have := HG_gt.out; have := HB_ge.out.size; omega
  refine ⟨?_, w3.heap.size, w5, HF5.out, HB3.size, Nat.le_refl _, fun k hk hlt => ?_⟩
  · exact grown_set (p := ⟨gt, 0, none⟩) (grown_set (p := ⟨ge, 0, none⟩) (grown_chg (grown_of_below' HB3 _) HC5.out (.inr GB.out) (.inl rfl)) (.inr L1) _) (.inr L2) _
  · have l1 := blk_lt E3.out
    have l2 := blk_lt T3.out
    have m3 := N1.out
    have m4 := N2.out
    rw [Below.heap_setCell _ ⟨gt, 0, none⟩ _ k (by rcases hk with hk | hk <;> (simp; omega)), Below.heap_setCell _ ⟨ge, 0, none⟩ _ k (by rcases hk with hk | hk <;> (simp; omega))]
theorem eqHow_parts {k : Nat} {g : List S62} {s : ByteArray} {t1 t2 : S27} (h : eqHow k g s = some (t1, t2)) : ∃ p txe wte p1 p2 tx wat en, rdTerm k g s 0 = some (.ok (t1, p)) ∧ words_Next.f k s p = some (6, txe, wte, p1, 0) ∧ rdTerm k g s p1 = some (.ok (t2, p2)) ∧ words_Next.f k s p2 = some (0, tx, wat, en, 0) ∧ rdMay k g [t1, t2] 0 = some (.ok ()) := by
  unfold eqHow at h
  obtain ⟨rt, ht, h⟩ := Option.bind_eq_some_iff.mp h
  rcases rt with e | ⟨a1, p⟩
  · cases h
  obtain ⟨rx, hx, h⟩ := Option.bind_eq_some_iff.mp h
  rcases rx with e | ⟨⟨kd, txe, wte⟩, p1⟩
  · cases h
  dsimp only at h
  by_cases h6 : kd = 6
  · subst h6
    rw [if_pos rfl] at h
    obtain ⟨rt2, ht2, h⟩ := Option.bind_eq_some_iff.mp h
    rcases rt2 with e | ⟨a2, p2⟩
    · cases h
    dsimp only at h
    obtain ⟨ry, hy, h⟩ := Option.bind_eq_some_iff.mp h
    rcases ry with e | ⟨⟨ky, tx, wat⟩, en⟩
    · cases h
    dsimp only at h
    by_cases h0 : ky = 0
    · subst h0
      rw [if_pos rfl] at h
      obtain ⟨rm, hm, h⟩ := Option.bind_eq_some_iff.mp h
      rcases rm with e | ⟨⟨⟩⟩
      · cases h
      simp only [Option.some.injEq, Prod.mk.injEq] at h
      obtain ⟨rfl, rfl⟩ := h
      exact ⟨p, txe, wte, p1, p2, tx, wat, en, ht, (rdNext_ok hx).1, ht2, rdPeek_ok hy, hm⟩
    · rw [if_neg h0] at h
      cases h
  · rw [if_neg h6] at h
    cases h
theorem eq1_any (b bo : Nat) (A : Option Addr) (c : Nat) (g : List S62) (s : ByteArray) (k : Nat) (w0 w : World) (hS : Kd.C k62 w0 A g.length g) (hc : g.length ≤ c) (H0 : Below w0.heap.size w0 w) (hb0 : w0.heap.size ≤ b) (hb : RB w b A g.length c s 0) (hbo : w.heap[bo]? = some (.cells #[.string (⟨#[]⟩ : ByteArray), .int .i64 0, .slice none 0 0, .string (⟨#[]⟩ : ByteArray), .int .i64 0, .slice none 0 0] 41 (0, 0))) (hne : bo ≠ b) (t1 t2 : S27) (h : eqHow k g s = some (t1, t2)) :
    Calls Try.prog 28 #[.pointer (some ⟨b, 0, none⟩), .pointer (some ⟨bo, 0, none⟩)] w (EqPost b bo w t1 t2) := by
  obtain ⟨p, txe, wte, p1, p2, tx, wat, en, h1, h2, h3, h4, h5⟩ := eqHow_parts h
  exact eq1_ok b bo A c g s k w0 w hS hc H0 hb0 hb t1 t2 p p1 p2 h1 txe wte h2 h3 tx wat en h4 h5 hbo hne
def rdEqF (k : Nat) (g : List S62) (s : ByteArray) : Option (ByteArray × Int × List S27 × ByteArray × Int × List S27 × Int × Int) :=
  if s.size ≤ 800 then (eqHow k g s).bind fun t => some (t.1.f0, t.1.f1, t.1.f2, t.2.f0, t.2.f1, t.2.f2, 0, 0)
  else none
set_option maxHeartbeats 4000000 in
set_option maxRecDepth 100000 in
theorem Equation_ok (k : Nat) (A : Option Addr) (c : Nat) (g : List S62) (s : ByteArray) (t1 t2 : S27) (w : World) (hr0 : Kd.C k62 w A g.length g) (hc0 : g.length ≤ c) (hs : s.size ≤ 800) (h : eqHow k g s = some (t1, t2)) :
    Calls Try.prog 13 #[.slice A g.length c, .string s] w fun e w' => (∃ v1 v2, e = .returned (.tuple #[.agg #[.string t1.f0, .int .i64 t1.f1, v1, .string t2.f0, .int .i64 t2.f1, v2], .int .i64 0, .int .i64 0]) ∧ Kd.R k27 27 w' w.heap.size (fun k_ => some k_ ≠ v2.ownBlock) v1 t1.f2 ∧ Kd.R k27 27 w' w.heap.size (fun k_ => some k_ ≠ v1.ownBlock) v2 t2.f2) ∧ Below w.heap.size w w' := by
  have hmf : ∀ (fn : Fn) (first cap : Array Value) (w : World), (Instr.makeFunc fn first cap).run Try.prog w = .ok (.func fn first cap) w := fun _ _ _ _ => rfl
  have HS := Aside0.mk hr0
  have HC := Aside0.mk hc0
  have HH := Aside0.mk h
  clear hr0 hc0 h
  go_enter Try.func13, Try.ntmps13
  go_wp2_with (first | ((with_reducible refine gate_dst (N := 4) rfl ?_); refine box_event ?hg (N := 4) ?hd (cs := #[.string (⟨#[]⟩ : ByteArray), .int .i64 0, .slice none 0 0, .string (⟨#[]⟩ : ByteArray), .int .i64 0, .slice none 0 0]) (t := 41) ?hr ?_; (case hd => rfl); (case hg => rfl); (case hr => first | (go_simp; done) | (go_simp; rfl)); intro g4 hg_g4 w1 hbox_g4 hb_g4; have HG_g4 := Aside0.mk hg_g4; have HX_g4 := Aside0.mk hbox_g4; have HB_g4 := Aside0.mk hb_g4; clear hg_g4 hbox_g4 hb_g4) | ((with_reducible refine gate_dst (N := 7) rfl ?_); refine box_event ?hg (N := 7) ?hd (cs := #[.string (⟨#[]⟩ : ByteArray), .int .i64 0, .slice none 0 0, .string (⟨#[]⟩ : ByteArray), .int .i64 0, .slice none 0 0]) (t := 41) ?hr ?_; (case hd => rfl); (case hg => rfl); (case hr => first | (go_simp; done) | (go_simp; rfl)); intro g7 hg_g7 w2 hbox_g7 hb_g7; have HG_g7 := Aside0.mk hg_g7; have HX_g7 := Aside0.mk hbox_g7; have HB_g7 := Aside0.mk hb_g7; clear hg_g7 hbox_g7 hb_g7) | (go_at_call 19; refine (reads_eq_ok A c g s g7 (.ok (t1, t2)) (t1, t2) _ hs (blk_lt HX_g7.out) rfl (fun W b q1 q2 q3 => eq1_any b g7 A c g s k w2 W (Kd.C_below HS.out (below_step HB_g4.out HB_g7.out)) HC.out q1 q3 q2 (blk_below HX_g7.out q1) (by have := blk_lt HX_g7.out; omega) t1 t2 HH.out)).mono ?_; rintro e w5 ⟨rfl, hg5, hf5⟩; obtain ⟨B, W1, ⟨v1, v2, hbv, hrv1, hrv2⟩, hB1, hB2, hB3⟩ := hf5; have hR1 := Kd.R_bound hrv1; have hR2 := Kd.R_bound hrv2; have hR5 : Kd.R k27 27 w5 B (fun k_ => B ≤ k_ ∧ some k_ ≠ v2.ownBlock) v1 t1.f2 := Kd.R_mono (Kd.R_move hR1 (fun k_ hk => hB3 k_ (.inl hk.2.1) hk.2.2.1)) (fun k_ hk => ⟨hk.2.1, hk.1⟩); have hR6 : Kd.R k27 27 w5 B (fun k_ => B ≤ k_ ∧ some k_ ≠ v1.ownBlock) v2 t2.f2 := Kd.R_mono (Kd.R_move hR2 (fun k_ hk => hB3 k_ (.inl hk.2.1) hk.2.2.1)) (fun k_ hk => ⟨hk.2.1, hk.1⟩); have hb7 := (hB3 g7 (.inr rfl) (blk_lt hbv)).trans hbv; obtain ⟨Av, cv, ev1⟩ := Kd.R_slice hR5; obtain ⟨Bv, dv, ev2⟩ := Kd.R_slice hR6; subst ev1; subst ev2; have HR5 := Aside0.mk hR5; have HR6 := Aside0.mk hR6; have HLE := Aside0.mk hB1; clear hrv1 hrv2 hR1 hR2 hR5 hR6 hB1 hB2 hB3 hbv; have HG5 := Aside0.mk (grown_grown (grown_of_below' (below_step HB_g4.out HB_g7.out) (some g7)) hg5); have BK4 := Aside0.mk (blk_grown (blk_below HX_g4.out HB_g7.out) hg5 (fun e => by have := Option.some.inj e; have := HG_g7.out; have := blk_lt HX_g4.out; omega)); have yq0 : w5.cell? ⟨g4, 0, none⟩ = some (.string (⟨#[]⟩ : ByteArray)) := (blk_cell BK4.out 0).trans rfl; have yf0 : w5.frozen? ⟨g4, 0, none⟩ = false := blk_frozen BK4.out 0; have yq1 : w5.cell? ⟨g4, 1, none⟩ = some (.int .i64 0) := (blk_cell BK4.out 1).trans rfl; have yf1 : w5.frozen? ⟨g4, 1, none⟩ = false := blk_frozen BK4.out 1; have yq2 : w5.cell? ⟨g4, 2, none⟩ = some (.slice none 0 0) := (blk_cell BK4.out 2).trans rfl; have yf2 : w5.frozen? ⟨g4, 2, none⟩ = false := blk_frozen BK4.out 2; have yq3 : w5.cell? ⟨g4, 3, none⟩ = some (.string (⟨#[]⟩ : ByteArray)) := (blk_cell BK4.out 3).trans rfl; have yf3 : w5.frozen? ⟨g4, 3, none⟩ = false := blk_frozen BK4.out 3; have yq4 : w5.cell? ⟨g4, 4, none⟩ = some (.int .i64 0) := (blk_cell BK4.out 4).trans rfl; have yf4 : w5.frozen? ⟨g4, 4, none⟩ = false := blk_frozen BK4.out 4; have yq5 : w5.cell? ⟨g4, 5, none⟩ = some (.slice none 0 0) := (blk_cell BK4.out 5).trans rfl; have yf5 : w5.frozen? ⟨g4, 5, none⟩ = false := blk_frozen BK4.out 5; have BK7 := Aside0.mk (hb7); have zq0 : w5.cell? ⟨g7, 0, none⟩ = some (.string t1.f0) := (blk_cell BK7.out 0).trans rfl; have zq1 : w5.cell? ⟨g7, 1, none⟩ = some (.int .i64 t1.f1) := (blk_cell BK7.out 1).trans rfl; have zq2 : w5.cell? ⟨g7, 2, none⟩ = some (.slice Av t1.f2.length cv) := (blk_cell BK7.out 2).trans rfl; have zq3 : w5.cell? ⟨g7, 3, none⟩ = some (.string t2.f0) := (blk_cell BK7.out 3).trans rfl; have zq4 : w5.cell? ⟨g7, 4, none⟩ = some (.int .i64 t2.f1) := (blk_cell BK7.out 4).trans rfl; have zq5 : w5.cell? ⟨g7, 5, none⟩ = some (.slice Bv t2.f2.length dv) := (blk_cell BK7.out 5).trans rfl; have m1 : ¬ g4 = g7 := (by have := HG_g7.out; have := blk_lt HX_g4.out; omega); have m2 : ¬ g7 = g4 := (fun e => m1 e.symm); have GW := Aside0.mk (show w.heap.size ≤ g4 by have := HG_g4.out; omega); have GW7 := Aside0.mk (show w.heap.size ≤ g7 by have := HG_g7.out; have := HB_g4.out.size; omega); clear hg5 hb7))
  refine bodyPost_ret (v := .tuple #[.agg #[.string t1.f0, .int .i64 t1.f1, .slice Av t1.f2.length cv, .string t2.f0, .int .i64 t2.f1, .slice Bv t2.f2.length dv], .int .i64 0, .int .i64 0]) (by simp [results, Try.results13, go_sem, *]) rfl ⟨⟨_, _, rfl, ?_, ?_⟩, ?_⟩
  · have hl4 : g4 < B := by have := HLE.out; have := blk_lt HX_g4.out; have := HB_g7.out.size; omega
    refine Kd.R_mono (Kd.R_lower (Kd.R_far (p := ⟨g4, 5, none⟩) (Kd.R_far (p := ⟨g4, 4, none⟩) (Kd.R_far (p := ⟨g4, 3, none⟩) (Kd.R_far (p := ⟨g4, 2, none⟩) (Kd.R_far (p := ⟨g4, 1, none⟩) (Kd.R_far (p := ⟨g4, 0, none⟩) HR5.out ?_ _) ?_ _) ?_ _) ?_ _) ?_ _) ?_ _) ?_) (fun _ hk => hk.2)
    · exact fun k_ hk => by have h_ : B ≤ k_ := hk.1; show k_ ≠ g4; omega
    · exact fun k_ hk => by have h_ : B ≤ k_ := hk.1; show k_ ≠ g4; omega
    · exact fun k_ hk => by have h_ : B ≤ k_ := hk.1; show k_ ≠ g4; omega
    · exact fun k_ hk => by have h_ : B ≤ k_ := hk.1; show k_ ≠ g4; omega
    · exact fun k_ hk => by have h_ : B ≤ k_ := hk.1; show k_ ≠ g4; omega
    · exact fun k_ hk => by have h_ : B ≤ k_ := hk.1; show k_ ≠ g4; omega
    · have := HLE.out; have := (below_step HB_g4.out HB_g7.out).size; omega
  · have hl4 : g4 < B := by have := HLE.out; have := blk_lt HX_g4.out; have := HB_g7.out.size; omega
    refine Kd.R_mono (Kd.R_lower (Kd.R_far (p := ⟨g4, 5, none⟩) (Kd.R_far (p := ⟨g4, 4, none⟩) (Kd.R_far (p := ⟨g4, 3, none⟩) (Kd.R_far (p := ⟨g4, 2, none⟩) (Kd.R_far (p := ⟨g4, 1, none⟩) (Kd.R_far (p := ⟨g4, 0, none⟩) HR6.out ?_ _) ?_ _) ?_ _) ?_ _) ?_ _) ?_ _) ?_) (fun _ hk => hk.2)
    · exact fun k_ hk => by have h_ : B ≤ k_ := hk.1; show k_ ≠ g4; omega
    · exact fun k_ hk => by have h_ : B ≤ k_ := hk.1; show k_ ≠ g4; omega
    · exact fun k_ hk => by have h_ : B ≤ k_ := hk.1; show k_ ≠ g4; omega
    · exact fun k_ hk => by have h_ : B ≤ k_ := hk.1; show k_ ≠ g4; omega
    · exact fun k_ hk => by have h_ : B ≤ k_ := hk.1; show k_ ≠ g4; omega
    · exact fun k_ hk => by have h_ : B ≤ k_ := hk.1; show k_ ≠ g4; omega
    · have := HLE.out; have := (below_step HB_g4.out HB_g7.out).size; omega
  · have hg := HG5.out
    exact below_set (below_set (below_set (below_set (below_set (below_set ⟨hg.os, hg.tape, hg.output, hg.size, fun k_ hk => hg.block k_ hk (fun e => by have := Option.some.inj e; have := GW7.out; omega)⟩ GW.out) GW.out) GW.out) GW.out) GW.out) GW.out
theorem Equation_calls (k : Nat) (A : Option Addr) (c : Nat) (g : List S62) (s : ByteArray) (r1 : ByteArray) (r2 : Int) (r3 : List S27) (r4 : ByteArray) (r5 : Int) (r6 : List S27) (r7 r8 : Int) (w : World) (hr0 : Kd.C k62 w A g.length g) (hc0 : g.length ≤ c) (h : rdEqF k g s = some (r1, r2, r3, r4, r5, r6, r7, r8)) :
    Calls Try.prog 13 #[.slice A g.length c, .string s] w fun e w' => ∃ v1 v2, e = .returned (.tuple #[.agg #[.string r1, .int .i64 r2, v1, .string r4, .int .i64 r5, v2], .int .i64 r7, .int .i64 r8]) ∧ Kd.R k27 27 w' w.heap.size (fun k_ => some k_ ≠ v2.ownBlock) v1 r3 ∧ Kd.R k27 27 w' w.heap.size (fun k_ => some k_ ≠ v1.ownBlock) v2 r6 ∧ Below w.heap.size w w' := by
  unfold rdEqF at h
  by_cases hs : s.size ≤ 800
  · rw [if_pos hs] at h
    obtain ⟨⟨t1, t2⟩, hx, h⟩ := Option.bind_eq_some_iff.mp h
    simp only [Option.some.injEq, Prod.mk.injEq] at h
    obtain ⟨rfl, rfl, rfl, rfl, rfl, rfl, rfl, rfl⟩ := h
    exact (Equation_ok k A c g s t1 t2 w hr0 hc0 hs hx).mono fun e w' ⟨⟨v1, v2, he, hr1, hr2⟩, hb⟩ => ⟨v1, v2, he, hr1, hr2, hb⟩
  · rw [if_neg hs] at h
    cases h
end Go.Proofs.Ytpepjodkahdicaa.PTb
