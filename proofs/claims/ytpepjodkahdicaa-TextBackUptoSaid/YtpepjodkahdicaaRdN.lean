/- The contract of text.Term, and its plain function. Conditions: none. -/
-- Written by programs of this session (wip/tools), cut to what the claim uses (wip/tools/prune.py).
import Derived.Test.YtpepjodkahdicaaRdM
namespace Go.Proofs.Ytpepjodkahdicaa.PTb
open Go.RowKit Go.Proofs.YtpepjodkahdicaaW.PrintWords Go.Proofs.YtpepjodkahdicaaW.PrintLast Go.Proofs.YtpepjodkahdicaaW.PrintMore
set_option linter.unusedVariables false
set_option linter.unusedSimpArgs false
theorem term1_any (b bo : Nat) (A : Option Addr) (c : Nat) (g : List S62) (s : ByteArray) (k : Nat) (w0 w : World) (hS : Kd.C k62 w0 A g.length g) (hc : g.length ≤ c) (H0 : Below w0.heap.size w0 w) (hb0 : w0.heap.size ≤ b) (hb : RB w b A g.length c s 0) (hbo : w.heap[bo]? = some (.cells #[.string (⟨#[]⟩ : ByteArray), .int .i64 0, .slice none 0 0] 27 (0, 0))) (hne : bo ≠ b) (res : Except (Int × Int) S27) (h : termHow k g s = some res) :
    Calls Try.prog 20 #[.pointer (some ⟨b, 0, none⟩), .pointer (some ⟨bo, 0, none⟩)] w (HowPost b bo w res) := by
  unfold termHow at h
  obtain ⟨rt, ht, h⟩ := Option.bind_eq_some_iff.mp h
  rcases rt with ⟨er, ea⟩ | ⟨t, p⟩
  · obtain rfl := Option.some.inj h
    exact term1_no1 b bo A c g s k w0 w hS hc H0 hb0 hb er ea ht
  · dsimp only at h
    obtain ⟨rp, hp, h⟩ := Option.bind_eq_some_iff.mp h
    rcases rp with ⟨er, ea⟩ | ⟨⟨kd, tx, wat⟩, en⟩
    · obtain rfl := Option.some.inj h
      obtain ⟨kd, tx, wat, h1, he⟩ := rdPeek_no hp
      exact term1_no2 b bo A c g s k w0 w hS hc H0 hb0 hb t p ht kd tx wat ea er h1 he
    · have h1 := rdPeek_ok hp
      dsimp only at h
      by_cases h0 : kd = 0
      · rw [if_pos h0] at h
        subst h0
        obtain ⟨rm, hm, h⟩ := Option.bind_eq_some_iff.mp h
        rcases rm with ⟨er, ea⟩ | ⟨⟨⟩⟩
        · obtain rfl := Option.some.inj h
          exact term1_no4 b bo A c g s k w0 w hS hc H0 hb0 hb t p ht tx wat en h1 er ea hm
        · obtain rfl := Option.some.inj h
          exact term1_ok b bo A c g s k w0 w hS hc H0 hb0 hb t p ht tx wat en h1 hm hbo hne
      · rw [if_neg h0] at h
        obtain rfl := Option.some.inj h
        exact term1_no3 b bo A c g s k w0 w hS hc H0 hb0 hb t p ht kd tx wat en h1 h0
theorem rdPeek.mono : ∀ s p k, LeO (rdPeek k s p) (rdPeek (k + 1) s p) := by
  intro s p k
  unfold rdPeek
  exact LeO.bind (words_Next.mono _ _ _) (fun x => LeO.refl _)
theorem rdNext.mono : ∀ s p k, LeO (rdNext k s p) (rdNext (k + 1) s p) := by
  intro s p k
  unfold rdNext
  exact LeO.bind (rdPeek.mono _ _ _) (fun x => LeO.refl _)
theorem rdTerm.mono_l : ∀ k, (∀ g s p, LeO (rdTerm k g s p) (rdTerm (k + 1) g s p)) ∧ (∀ g s p kd acc, LeO (rdArgs k g s p kd acc) (rdArgs (k + 1) g s p kd acc))
  | 0 => ⟨fun _ _ _ r h => by simp [rdTerm] at h, fun _ _ _ _ _ r h => by simp [rdArgs] at h⟩
  | k + 1 => by
    obtain ⟨ih1, ih2⟩ := rdTerm.mono_l k
    constructor
    · intro g s p
      unfold rdTerm
      refine LeO.bind (rdNext.mono _ _ _) (fun x => ?_)
      rcases x with e | ⟨x, p1⟩
      · exact LeO.refl _
      · refine LeO.ite (LeO.refl _) (LeO.ite (LeO.bind (sig_Find.mono _ _ _) (fun y => LeO.ite (LeO.bind (rdPeek.mono _ _ _) (fun z => ?_)) (LeO.refl _))) (LeO.refl _))
        rcases z with e | ⟨z, p2⟩
        · exact LeO.refl _
        · refine LeO.ite (LeO.bind (rdNext.mono _ _ _) (fun u => ?_)) (LeO.refl _)
          rcases u with e | ⟨u, p3⟩
          · exact LeO.refl _
          · refine LeO.bind (ih2 _ _ _ _ _) (fun v => LeO.refl _)
    · intro g s p kd acc
      unfold rdArgs
      refine LeO.ite (LeO.refl _) (LeO.bind (ih1 _ _ _) (fun x => ?_))
      rcases x with e | ⟨x, p1⟩
      · exact LeO.refl _
      · refine LeO.ite (LeO.bind (rdNext.mono _ _ _) (fun u => ?_)) (LeO.refl _)
        rcases u with e | ⟨u, p3⟩
        · exact LeO.refl _
        · exact LeO.ite (ih2 _ _ _ _ _) (LeO.refl _)
theorem rdTerm.mono : ∀ g s p k, LeO (rdTerm k g s p) (rdTerm (k + 1) g s p) := fun g s p k => (rdTerm.mono_l k).1 g s p
theorem ckTerm.mono_l : ∀ k, (∀ g t n e, LeO (ckTerm k g t n e) (ckTerm (k + 1) g t n e)) ∧ (∀ g l i n e, LeO (ckArgs k g l i n e) (ckArgs (k + 1) g l i n e))
  | 0 => ⟨fun _ _ _ _ r h => by simp [ckTerm] at h, fun _ _ _ _ _ r h => by simp [ckArgs] at h⟩
  | k + 1 => by
    obtain ⟨ih1, ih2⟩ := ckTerm.mono_l k
    constructor
    · intro g t n e
      unfold ckTerm
      exact LeO.bind (LeO.ite (terms_wrong.mono _ _ _ _ _) (LeO.refl _)) (fun x => LeO.ite (ih2 _ _ _ _ _) (LeO.refl _))
    · intro g l i n e
      unfold ckArgs
      exact LeO.ite (LeO.bind (ih1 _ _ _ _) (fun x => LeO.ite (ih2 _ _ _ _ _) (LeO.refl _))) (LeO.refl _)
theorem terms_Check.mono : ∀ g t k, LeO (terms_Check.f k g t) (terms_Check.f (k + 1) g t) := by
  intro g t k
  unfold terms_Check.f
  exact LeO.bind ((ckTerm.mono_l k).1 _ _ _ _) (fun x => LeO.refl _)
theorem rdMay.mono : ∀ k g l i, LeO (rdMay k g l i) (rdMay (k + 1) g l i)
  | 0, _, _, _ => fun r h => by simp [rdMay] at h
  | k + 1, g, l, i => by
    unfold rdMay
    exact LeO.ite (LeO.bind (terms_Check.mono _ _ _) (fun x => LeO.ite (rdMay.mono k _ _ _) (LeO.refl _))) (LeO.refl _)
theorem termHow.mono : ∀ g s k, LeO (termHow k g s) (termHow (k + 1) g s) := by
  intro g s k
  unfold termHow
  refine LeO.bind (rdTerm.mono _ _ _ _) (fun x => ?_)
  rcases x with e | ⟨t, p⟩
  · exact LeO.refl _
  · refine LeO.bind (rdPeek.mono _ _ _) (fun y => ?_)
    rcases y with e | ⟨y, q⟩
    · exact LeO.refl _
    · exact LeO.ite (LeO.bind (rdMay.mono _ _ _ _) (fun z => LeO.refl _)) (LeO.refl _)
def rdTermF (k : Nat) (g : List S62) (s : ByteArray) : Option (ByteArray × Int × List S27 × Int × Int) :=
  if s.size ≤ 800 then (termHow k g s).bind fun
    | .error e => some ((⟨#[]⟩ : ByteArray), 0, ([] : List S27), e.1, e.2)
    | .ok t => some (t.f0, t.f1, t.f2, 0, 0)
  else some ((⟨#[]⟩ : ByteArray), 0, ([] : List S27), 55, 0)
theorem rdTermF.mono : ∀ g s k, LeO (rdTermF k g s) (rdTermF (k + 1) g s) := by
  intro g s k
  unfold rdTermF
  exact LeO.ite (LeO.bind (termHow.mono _ _ _) (fun x => LeO.refl _)) (LeO.refl _)
set_option maxHeartbeats 4000000 in
set_option maxRecDepth 100000 in
theorem Term_long (k : Nat) (A : Option Addr) (c : Nat) (g : List S62) (s : ByteArray) (w : World) (hr0 : Kd.C k62 w A g.length g) (hc0 : g.length ≤ c) (hs : 800 < s.size) :
    Calls Try.prog 7 #[.slice A g.length c, .string s] w fun e w' => e = .returned (.tuple #[.agg #[.string (⟨#[]⟩ : ByteArray), .int .i64 0, .slice none 0 0], .int .i64 55, .int .i64 0]) ∧ Below w.heap.size w w' := by
  have hmf : ∀ (fn : Fn) (first cap : Array Value) (w : World), (Instr.makeFunc fn first cap).run Try.prog w = .ok (.func fn first cap) w := fun _ _ _ _ => rfl
  clear hr0 hc0
  go_enter Try.func7, Try.ntmps7
  go_wp2_with (first | ((with_reducible refine gate_dst (N := 4) rfl ?_); refine box_event ?hg (N := 4) ?hd (cs := #[.string (⟨#[]⟩ : ByteArray), .int .i64 0, .slice none 0 0]) (t := 27) ?hr ?_; (case hd => rfl); (case hg => rfl); (case hr => first | (go_simp; done) | (go_simp; rfl)); intro g4 hg_g4 w1 hbox_g4 hb_g4; have HG_g4 := Aside0.mk hg_g4; have HX_g4 := Aside0.mk hbox_g4; have HB_g4 := Aside0.mk hb_g4; clear hg_g4 hbox_g4 hb_g4) | ((with_reducible refine gate_dst (N := 7) rfl ?_); refine box_event ?hg (N := 7) ?hd (cs := #[.string (⟨#[]⟩ : ByteArray), .int .i64 0, .slice none 0 0]) (t := 27) ?hr ?_; (case hd => rfl); (case hg => rfl); (case hr => first | (go_simp; done) | (go_simp; rfl)); intro g7 hg_g7 w2 hbox_g7 hb_g7; have HG_g7 := Aside0.mk hg_g7; have HX_g7 := Aside0.mk hbox_g7; have HB_g7 := Aside0.mk hb_g7; clear hg_g7 hbox_g7 hb_g7) | (go_at_call 19; refine (reads_term_long A c g s g7 _ hs).mono ?_; rintro e w5 ⟨rfl, hb5⟩; have HB5 := Aside0.mk (below_step (below_step HB_g4.out HB_g7.out) hb5); have BK4 := Aside0.mk (blk_below (blk_below HX_g4.out HB_g7.out) hb5); have yq0 : w5.cell? ⟨g4, 0, none⟩ = some (.string (⟨#[]⟩ : ByteArray)) := (blk_cell BK4.out 0).trans rfl; have yf0 : w5.frozen? ⟨g4, 0, none⟩ = false := blk_frozen BK4.out 0; have yq1 : w5.cell? ⟨g4, 1, none⟩ = some (.int .i64 0) := (blk_cell BK4.out 1).trans rfl; have yf1 : w5.frozen? ⟨g4, 1, none⟩ = false := blk_frozen BK4.out 1; have yq2 : w5.cell? ⟨g4, 2, none⟩ = some (.slice none 0 0) := (blk_cell BK4.out 2).trans rfl; have yf2 : w5.frozen? ⟨g4, 2, none⟩ = false := blk_frozen BK4.out 2; have BK7 := Aside0.mk (blk_below HX_g7.out hb5); have zq0 : w5.cell? ⟨g7, 0, none⟩ = some (.string (⟨#[]⟩ : ByteArray)) := (blk_cell BK7.out 0).trans rfl; have zq1 : w5.cell? ⟨g7, 1, none⟩ = some (.int .i64 0) := (blk_cell BK7.out 1).trans rfl; have zq2 : w5.cell? ⟨g7, 2, none⟩ = some (.slice none 0 0) := (blk_cell BK7.out 2).trans rfl; have m1 : ¬ g4 = g7 := (by have := HG_g7.out; have := blk_lt HX_g4.out; omega); have m2 : ¬ g7 = g4 := (fun e => m1 e.symm); have GW := Aside0.mk (show w.heap.size ≤ g4 by have := HG_g4.out; omega); have GW7 := Aside0.mk (show w.heap.size ≤ g7 by have := HG_g7.out; have := HB_g4.out.size; omega); clear hb5))
  refine bodyPost_ret (v := .tuple #[.agg #[.string (⟨#[]⟩ : ByteArray), .int .i64 0, .slice none 0 0], .int .i64 55, .int .i64 0]) (by simp [results, Try.results7, go_sem, *]) rfl ⟨rfl, ?_⟩
  exact below_set (below_set (below_set HB5.out GW.out) GW.out) GW.out
set_option maxHeartbeats 4000000 in
set_option maxRecDepth 100000 in
theorem Term_no (k : Nat) (A : Option Addr) (c : Nat) (g : List S62) (s : ByteArray) (er a : Int) (w : World) (hr0 : Kd.C k62 w A g.length g) (hc0 : g.length ≤ c) (hs : s.size ≤ 800) (h : termHow k g s = some (.error (er, a))) :
    Calls Try.prog 7 #[.slice A g.length c, .string s] w fun e w' => e = .returned (.tuple #[.agg #[.string (⟨#[]⟩ : ByteArray), .int .i64 0, .slice none 0 0], .int .i64 er, .int .i64 a]) ∧ Below w.heap.size w w' := by
  have hmf : ∀ (fn : Fn) (first cap : Array Value) (w : World), (Instr.makeFunc fn first cap).run Try.prog w = .ok (.func fn first cap) w := fun _ _ _ _ => rfl
  have HS := Aside0.mk hr0
  have HC := Aside0.mk hc0
  have HH := Aside0.mk h
  clear hr0 hc0 h
  go_enter Try.func7, Try.ntmps7
  go_wp2_with (first | ((with_reducible refine gate_dst (N := 4) rfl ?_); refine box_event ?hg (N := 4) ?hd (cs := #[.string (⟨#[]⟩ : ByteArray), .int .i64 0, .slice none 0 0]) (t := 27) ?hr ?_; (case hd => rfl); (case hg => rfl); (case hr => first | (go_simp; done) | (go_simp; rfl)); intro g4 hg_g4 w1 hbox_g4 hb_g4; have HG_g4 := Aside0.mk hg_g4; have HX_g4 := Aside0.mk hbox_g4; have HB_g4 := Aside0.mk hb_g4; clear hg_g4 hbox_g4 hb_g4) | ((with_reducible refine gate_dst (N := 7) rfl ?_); refine box_event ?hg (N := 7) ?hd (cs := #[.string (⟨#[]⟩ : ByteArray), .int .i64 0, .slice none 0 0]) (t := 27) ?hr ?_; (case hd => rfl); (case hg => rfl); (case hr => first | (go_simp; done) | (go_simp; rfl)); intro g7 hg_g7 w2 hbox_g7 hb_g7; have HG_g7 := Aside0.mk hg_g7; have HX_g7 := Aside0.mk hbox_g7; have HB_g7 := Aside0.mk hb_g7; clear hg_g7 hbox_g7 hb_g7) | (go_at_call 19; refine (reads_term_no A c g s g7 (.error (er, a)) er a _ hs (blk_lt HX_g7.out) rfl (fun W b q1 q2 q3 => term1_any b g7 A c g s k w2 W (Kd.C_below HS.out (below_step HB_g4.out HB_g7.out)) HC.out q1 q3 q2 (blk_below HX_g7.out q1) (by have := blk_lt HX_g7.out; omega) (.error (er, a)) HH.out)).mono ?_; rintro e w5 ⟨rfl, hb5⟩; have HB5 := Aside0.mk (below_step (below_step HB_g4.out HB_g7.out) hb5); have BK4 := Aside0.mk (blk_below (blk_below HX_g4.out HB_g7.out) hb5); have yq0 : w5.cell? ⟨g4, 0, none⟩ = some (.string (⟨#[]⟩ : ByteArray)) := (blk_cell BK4.out 0).trans rfl; have yf0 : w5.frozen? ⟨g4, 0, none⟩ = false := blk_frozen BK4.out 0; have yq1 : w5.cell? ⟨g4, 1, none⟩ = some (.int .i64 0) := (blk_cell BK4.out 1).trans rfl; have yf1 : w5.frozen? ⟨g4, 1, none⟩ = false := blk_frozen BK4.out 1; have yq2 : w5.cell? ⟨g4, 2, none⟩ = some (.slice none 0 0) := (blk_cell BK4.out 2).trans rfl; have yf2 : w5.frozen? ⟨g4, 2, none⟩ = false := blk_frozen BK4.out 2; have BK7 := Aside0.mk (blk_below HX_g7.out hb5); have zq0 : w5.cell? ⟨g7, 0, none⟩ = some (.string (⟨#[]⟩ : ByteArray)) := (blk_cell BK7.out 0).trans rfl; have zq1 : w5.cell? ⟨g7, 1, none⟩ = some (.int .i64 0) := (blk_cell BK7.out 1).trans rfl; have zq2 : w5.cell? ⟨g7, 2, none⟩ = some (.slice none 0 0) := (blk_cell BK7.out 2).trans rfl; have m1 : ¬ g4 = g7 := (by have := HG_g7.out; have := blk_lt HX_g4.out; omega); have m2 : ¬ g7 = g4 := (fun e => m1 e.symm); have GW := Aside0.mk (show w.heap.size ≤ g4 by have := HG_g4.out; omega); have GW7 := Aside0.mk (show w.heap.size ≤ g7 by have := HG_g7.out; have := HB_g4.out.size; omega); clear hb5))
  refine bodyPost_ret (v := .tuple #[.agg #[.string (⟨#[]⟩ : ByteArray), .int .i64 0, .slice none 0 0], .int .i64 er, .int .i64 a]) (by simp [results, Try.results7, go_sem, *]) rfl ⟨rfl, ?_⟩
  exact below_set (below_set (below_set HB5.out GW.out) GW.out) GW.out
set_option maxHeartbeats 4000000 in
set_option maxRecDepth 100000 in
theorem Term_ok (k : Nat) (A : Option Addr) (c : Nat) (g : List S62) (s : ByteArray) (t : S27) (w : World) (hr0 : Kd.C k62 w A g.length g) (hc0 : g.length ≤ c) (hs : s.size ≤ 800) (h : termHow k g s = some (.ok t)) :
    Calls Try.prog 7 #[.slice A g.length c, .string s] w fun e w' => (∃ v, e = .returned (.tuple #[.agg #[.string t.f0, .int .i64 t.f1, v], .int .i64 0, .int .i64 0]) ∧ Kd.R k27 27 w' w.heap.size (fun _ => True) v t.f2) ∧ Below w.heap.size w w' := by
  have hmf : ∀ (fn : Fn) (first cap : Array Value) (w : World), (Instr.makeFunc fn first cap).run Try.prog w = .ok (.func fn first cap) w := fun _ _ _ _ => rfl
  have HS := Aside0.mk hr0
  have HC := Aside0.mk hc0
  have HH := Aside0.mk h
  clear hr0 hc0 h
  go_enter Try.func7, Try.ntmps7
  go_wp2_with (first | ((with_reducible refine gate_dst (N := 4) rfl ?_); refine box_event ?hg (N := 4) ?hd (cs := #[.string (⟨#[]⟩ : ByteArray), .int .i64 0, .slice none 0 0]) (t := 27) ?hr ?_; (case hd => rfl); (case hg => rfl); (case hr => first | (go_simp; done) | (go_simp; rfl)); intro g4 hg_g4 w1 hbox_g4 hb_g4; have HG_g4 := Aside0.mk hg_g4; have HX_g4 := Aside0.mk hbox_g4; have HB_g4 := Aside0.mk hb_g4; clear hg_g4 hbox_g4 hb_g4) | ((with_reducible refine gate_dst (N := 7) rfl ?_); refine box_event ?hg (N := 7) ?hd (cs := #[.string (⟨#[]⟩ : ByteArray), .int .i64 0, .slice none 0 0]) (t := 27) ?hr ?_; (case hd => rfl); (case hg => rfl); (case hr => first | (go_simp; done) | (go_simp; rfl)); intro g7 hg_g7 w2 hbox_g7 hb_g7; have HG_g7 := Aside0.mk hg_g7; have HX_g7 := Aside0.mk hbox_g7; have HB_g7 := Aside0.mk hb_g7; clear hg_g7 hbox_g7 hb_g7) | (go_at_call 19; refine (reads_term_ok A c g s g7 (.ok t) t _ hs (blk_lt HX_g7.out) rfl (fun W b q1 q2 q3 => term1_any b g7 A c g s k w2 W (Kd.C_below HS.out (below_step HB_g4.out HB_g7.out)) HC.out q1 q3 q2 (blk_below HX_g7.out q1) (by have := blk_lt HX_g7.out; omega) (.ok t) HH.out)).mono ?_; rintro e w5 ⟨rfl, hg5, hf5⟩; obtain ⟨B, W1, ⟨v, hbv, hrv⟩, hB1, hB2, hB3⟩ := hf5; have hR := Kd.R_bound hrv; have hR5 : Kd.R k27 27 w5 B (fun k_ => B ≤ k_) v t.f2 := Kd.R_mono (Kd.R_move hR (fun k_ hk => hB3 k_ (.inl hk.2.1) hk.2.2.1)) (fun k_ hk => hk.2.1); have hb7 := (hB3 g7 (.inr rfl) (blk_lt hbv)).trans hbv; obtain ⟨Av, cv, ev⟩ := Kd.R_slice hR5; subst ev; have HR5 := Aside0.mk hR5; have HLE := Aside0.mk hB1; clear hrv hR hR5 hB1 hB2 hB3 hbv; have HG5 := Aside0.mk (grown_grown (grown_of_below' (below_step HB_g4.out HB_g7.out) (some g7)) hg5); have BK4 := Aside0.mk (blk_grown (blk_below HX_g4.out HB_g7.out) hg5 (fun e => by have := Option.some.inj e; have := HG_g7.out; have := blk_lt HX_g4.out; omega)); have yq0 : w5.cell? ⟨g4, 0, none⟩ = some (.string (⟨#[]⟩ : ByteArray)) := (blk_cell BK4.out 0).trans rfl; have yf0 : w5.frozen? ⟨g4, 0, none⟩ = false := blk_frozen BK4.out 0; have yq1 : w5.cell? ⟨g4, 1, none⟩ = some (.int .i64 0) := (blk_cell BK4.out 1).trans rfl; have yf1 : w5.frozen? ⟨g4, 1, none⟩ = false := blk_frozen BK4.out 1; have yq2 : w5.cell? ⟨g4, 2, none⟩ = some (.slice none 0 0) := (blk_cell BK4.out 2).trans rfl; have yf2 : w5.frozen? ⟨g4, 2, none⟩ = false := blk_frozen BK4.out 2; have BK7 := Aside0.mk (hb7); have zq0 : w5.cell? ⟨g7, 0, none⟩ = some (.string t.f0) := (blk_cell BK7.out 0).trans rfl; have zq1 : w5.cell? ⟨g7, 1, none⟩ = some (.int .i64 t.f1) := (blk_cell BK7.out 1).trans rfl; have zq2 : w5.cell? ⟨g7, 2, none⟩ = some (.slice Av t.f2.length cv) := (blk_cell BK7.out 2).trans rfl; have m1 : ¬ g4 = g7 := (by have := HG_g7.out; have := blk_lt HX_g4.out; omega); have m2 : ¬ g7 = g4 := (fun e => m1 e.symm); have GW := Aside0.mk (show w.heap.size ≤ g4 by have := HG_g4.out; omega); have GW7 := Aside0.mk (show w.heap.size ≤ g7 by have := HG_g7.out; have := HB_g4.out.size; omega); clear hg5 hb7))
  refine bodyPost_ret (v := .tuple #[.agg #[.string t.f0, .int .i64 t.f1, .slice Av t.f2.length cv], .int .i64 0, .int .i64 0]) (by simp [results, Try.results7, go_sem, *]) rfl ⟨⟨_, rfl, ?_⟩, ?_⟩
  · have hl4 : g4 < B := by have := HLE.out; have := blk_lt HX_g4.out; have := HB_g7.out.size; omega
    refine Kd.R_mono (Kd.R_lower (Kd.R_far (p := ⟨g4, 2, none⟩) (Kd.R_far (p := ⟨g4, 1, none⟩) (Kd.R_far (p := ⟨g4, 0, none⟩) HR5.out ?_ _) ?_ _) ?_ _) ?_) (fun _ _ => trivial)
    · exact fun k_ hk => by have h_ : B ≤ k_ := hk; show k_ ≠ g4; omega
    · exact fun k_ hk => by have h_ : B ≤ k_ := hk; show k_ ≠ g4; omega
    · exact fun k_ hk => by have h_ : B ≤ k_ := hk; show k_ ≠ g4; omega
    · have := HLE.out; have := (below_step HB_g4.out HB_g7.out).size; omega
  · have hg := HG5.out
    exact below_set (below_set (below_set ⟨hg.os, hg.tape, hg.output, hg.size, fun k_ hk => hg.block k_ hk (fun e => by have := Option.some.inj e; have := GW7.out; omega)⟩ GW.out) GW.out) GW.out
theorem Term_calls (k : Nat) (A : Option Addr) (c : Nat) (g : List S62) (s : ByteArray) (r1 : ByteArray) (r2 : Int) (r3 : List S27) (r4 r5 : Int) (w : World) (hr0 : Kd.C k62 w A g.length g) (hc0 : g.length ≤ c) (h : rdTermF k g s = some (r1, r2, r3, r4, r5)) :
    Calls Try.prog 7 #[.slice A g.length c, .string s] w fun e w' => ∃ v, e = .returned (.tuple #[.agg #[.string r1, .int .i64 r2, v], .int .i64 r4, .int .i64 r5]) ∧ Kd.R k27 27 w' w.heap.size (fun _ => True) v r3 ∧ Below w.heap.size w w' := by
  unfold rdTermF at h
  by_cases hs : s.size ≤ 800
  · rw [if_pos hs] at h
    obtain ⟨x, hx, h⟩ := Option.bind_eq_some_iff.mp h
    rcases x with ⟨er, ea⟩ | t
    · simp only [Option.some.injEq, Prod.mk.injEq] at h
      obtain ⟨rfl, rfl, rfl, rfl, rfl⟩ := h
      exact (Term_no k A c g s er ea w hr0 hc0 hs hx).mono fun e w' ⟨he, hb⟩ => ⟨_, he, Kd.R_nil _ _ _ _ _, hb⟩
    · simp only [Option.some.injEq, Prod.mk.injEq] at h
      obtain ⟨rfl, rfl, rfl, rfl, rfl⟩ := h
      exact (Term_ok k A c g s t w hr0 hc0 hs hx).mono fun e w' ⟨⟨v, he, hr⟩, hb⟩ => ⟨v, he, hr, hb⟩
  · rw [if_neg hs] at h
    simp only [Option.some.injEq, Prod.mk.injEq] at h
    obtain ⟨rfl, rfl, rfl, rfl, rfl⟩ := h
    exact (Term_long k A c g s w hr0 hc0 (by omega)).mono fun e w' ⟨he, hb⟩ => ⟨_, he, Kd.R_nil _ _ _ _ _, hb⟩
end Go.Proofs.Ytpepjodkahdicaa.PTb
