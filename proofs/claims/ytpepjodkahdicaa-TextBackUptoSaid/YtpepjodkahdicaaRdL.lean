/- The contract of text.Term's closure. Conditions: none. -/
-- Written by programs of this session (wip/tools), cut to what the claim uses (wip/tools/prune.py).
import Derived.Test.YtpepjodkahdicaaRdK
import Derived.Test.YtpepjodkahdicaaRdG
namespace Go.Proofs.Ytpepjodkahdicaa.PTb
open Go.RowKit Go.Proofs.YtpepjodkahdicaaW.PrintWords Go.Proofs.YtpepjodkahdicaaW.PrintLast Go.Proofs.YtpepjodkahdicaaW.PrintMore
set_option linter.unusedVariables false
set_option linter.unusedSimpArgs false
theorem lit_C {α : Type} {d : Kd α} {xs : List α} {inner : List Value} {W : World} {g : Nat} {e : TypeId} (hrep : Reps (d.K W) d.sz xs inner) (hb : W.heap[g]? = some (.cells inner.toArray e (0, 0))) (hm : xs.length ≤ 9223372036854775807) : d.C W (some ⟨g, 0, none⟩) xs.length xs := by
  refine ⟨rfl, hm, fun _ => ⟨_, rfl, fun j p hj => ⟨(inner.drop (j * d.sz)).take d.sz, ?_, hrep.2 j p hj, fun i u hu => ?_⟩⟩⟩
  · have h1 := hrep.1
    have h2 : j < xs.length := (List.getElem?_eq_some_iff.1 hj).1
    have h3 : (j + 1) * d.sz ≤ xs.length * d.sz := Nat.mul_le_mul_right _ h2
    rw [Nat.succ_mul] at h3
    simp
    omega
  · rw [Addr.add_lit, Nat.zero_add, blk_cell hb]
    have h4 := List.getElem?_take (l := inner.drop (j * d.sz)) (i := d.sz) (j := i)
    rw [hu] at h4
    split at h4
    · rw [List.getElem?_drop] at h4
      simpa using h4.symm
    · cases h4
theorem reps_one {α : Type} {R : α → List Value → Prop} {size : Nat} {p : α} {c : List Value} (hp : R p c) (hc : c.length = size) : Reps R size [p] c := by
  have := (Reps.none R size).snoc hp hc
  simpa using this
theorem chg_of_grown {b bo : Nat} {w w' : World} (h : w.grownBy w' (some b)) : Chg b bo w w' := ⟨h.os, h.tape, h.output, h.size, fun k hk h1 _ => h.block k hk (fun e => h1 (Option.some.inj e))⟩
/-- what the closure of Term does: its term, or what it gives up with -/
def termHow (k : Nat) (g : List S62) (s : ByteArray) : Option (Except (Int × Int) S27) := (rdTerm k g s 0).bind fun
  | .error e => some (.error e)
  | .ok (t, p) => (rdPeek k s p).bind fun
    | .error e => some (.error e)
    | .ok (x, _) => if x.1 = 0 then (rdMay k g [t] 0).bind fun
        | .error e => some (.error e)
        | .ok _ => some (.ok t)
      else some (.error (54, x.2.2))
def HowPost (b bo : Nat) (W : World) (r : Except (Int × Int) S27) (e : Ending) (W' : World) : Prop :=
  match r with
  | .error x => e = gaveUp x.1 x.2 ∧ Chg b b W W'
  | .ok t => e = .returned (.tuple #[]) ∧ Chg b bo W W' ∧ ∃ v, W'.heap[bo]? = some (.cells #[.string t.f0, .int .i64 t.f1, v] 27 (0, 0)) ∧ Kd.R k27 27 W' W.heap.size (fun _ => True) v t.f2
set_option maxHeartbeats 2000000 in
theorem term1_no1 (b bo : Nat) (A : Option Addr) (c : Nat) (g : List S62) (s : ByteArray) (k : Nat) (w0 w : World) (hS : Kd.C k62 w0 A g.length g) (hc : g.length ≤ c) (H0 : Below w0.heap.size w0 w) (hb0 : w0.heap.size ≤ b) (hb : RB w b A g.length c s 0) (er a : Int) (ht : rdTerm k g s 0 = some (.error (er, a))) :
    Calls Try.prog 20 #[.pointer (some ⟨b, 0, none⟩), .pointer (some ⟨bo, 0, none⟩)] w fun e w' => e = gaveUp er a ∧ Chg b b w w' := by
  have HT := fun W (q : RB W b A g.length c s 0) => (fun (q1 : Below w0.heap.size w0 W) => term_calls k b A c g s 0 _ w0 W hS hc q1 hb0 q ht)
  have HRB := Aside0.mk hb
  have H00 := Aside0.mk H0
  clear hb H0 ht hS hc
  go_enter Try.func20, Try.ntmps20
  go_wp2_with ((with_reducible refine gate_dst (N := 5) rfl ?_); refine panicsL_ (some 5) rfl rfl Try.func21 (by kernel_rfl) rfl #[.pointer (some ⟨b, 0, none⟩)] rfl (by (try simp only [List.map_toArray, List.map_cons, List.map_nil]); first | done | rfl) ?_; refine ((HT _ HRB.out H00.out)).mono ?_; rintro e w2 ⟨rfl, hg2⟩; refine ⟨_, rfl, ?_⟩)
  exact ⟨rfl, rfl, chg_of_grown hg2⟩
set_option maxHeartbeats 2000000 in
theorem term1_no2 (b bo : Nat) (A : Option Addr) (c : Nat) (g : List S62) (s : ByteArray) (k : Nat) (w0 w : World) (hS : Kd.C k62 w0 A g.length g) (hc : g.length ≤ c) (H0 : Below w0.heap.size w0 w) (hb0 : w0.heap.size ≤ b) (hb : RB w b A g.length c s 0) (t : S27) (p : Int) (ht : rdTerm k g s 0 = some (.ok (t, p))) (kd : Int) (tx : ByteArray) (wat en er : Int) (hr : words_Next.f k s p = some (kd, tx, wat, en, er)) (he : ¬ er = 0) :
    Calls Try.prog 20 #[.pointer (some ⟨b, 0, none⟩), .pointer (some ⟨bo, 0, none⟩)] w fun e w' => e = gaveUp er en ∧ Chg b b w w' := by
  have HT := fun W (q : RB W b A g.length c s 0) => (fun (q1 : Below w0.heap.size w0 W) => term_calls k b A c g s 0 _ w0 W hS hc q1 hb0 q ht)
  have HRB := Aside0.mk hb
  have H00 := Aside0.mk H0
  have HQ := fun W (q : RB W b A g.length c s p) => Aside0.mk (rest_no b A g.length c s p k kd tx wat en er W q hr he)
  clear he
  clear hb H0 ht hS hc hr
  go_enter Try.func20, Try.ntmps20
  go_wp2_with (first | ((with_reducible refine gate_dst (N := 5) rfl ?_); refine goesL_ (some 5) rfl rfl Try.func21 (by kernel_rfl) rfl #[.pointer (some ⟨b, 0, none⟩)] rfl (by (try simp only [List.map_toArray, List.map_cons, List.map_nil]); first | done | rfl) ?_; refine ((HT _ HRB.out H00.out)).mono ?_; rintro e w2 ⟨v, rfl, ho, hr2, hg2⟩; refine ⟨_, rfl, ?_⟩; obtain ⟨Av, cv, ev⟩ := Kd.R_slice ho; subst ev; have HO2 := Aside0.mk ho; have HR2 := Aside0.mk hr2; have HG2 := Aside0.mk hg2; have BK3 := Aside0.mk (blk_new w2 (.cells #[.string t.f0, .int .i64 t.f1, .slice Av t.f2.length cv] 27 (0, 0))); have HR3 := Aside0.mk (hr2.below (below_alloc (Below.refl _ _) (.cells #[.string t.f0, .int .i64 t.f1, .slice Av t.f2.length cv] 27 (0, 0)))); clear ho hr2 hg2) | ((with_reducible refine gate_dst (N := 7) rfl ?_); refine panicsL_ (some 7) rfl rfl Try.func22 (by kernel_rfl) rfl #[.pointer (some ⟨b, 0, none⟩)] rfl (by (try simp only [List.map_toArray, List.map_cons, List.map_nil]); first | done | rfl) ?_; refine ((HQ _ HR3.out).out).mono ?_; rintro e w4 ⟨rfl, hb4⟩; refine ⟨_, rfl, ?_⟩))
  exact ⟨rfl, rfl, ((chg_of_grown HG2.out).alloc _).below hb4⟩
set_option maxHeartbeats 2000000 in
theorem term1_no3 (b bo : Nat) (A : Option Addr) (c : Nat) (g : List S62) (s : ByteArray) (k : Nat) (w0 w : World) (hS : Kd.C k62 w0 A g.length g) (hc : g.length ≤ c) (H0 : Below w0.heap.size w0 w) (hb0 : w0.heap.size ≤ b) (hb : RB w b A g.length c s 0) (t : S27) (p : Int) (ht : rdTerm k g s 0 = some (.ok (t, p))) (kd : Int) (tx : ByteArray) (wat en : Int) (hr : words_Next.f k s p = some (kd, tx, wat, en, 0)) (he : ¬ kd = 0) :
    Calls Try.prog 20 #[.pointer (some ⟨b, 0, none⟩), .pointer (some ⟨bo, 0, none⟩)] w fun e w' => e = gaveUp 54 wat ∧ Chg b b w w' := by
  have HT := fun W (q : RB W b A g.length c s 0) => (fun (q1 : Below w0.heap.size w0 W) => term_calls k b A c g s 0 _ w0 W hS hc q1 hb0 q ht)
  have HRB := Aside0.mk hb
  have H00 := Aside0.mk H0
  have HQ := fun W (q : RB W b A g.length c s p) => Aside0.mk (rest_bad b A g.length c s p k kd tx wat en W q hr he)
  clear he
  clear hb H0 ht hS hc hr
  go_enter Try.func20, Try.ntmps20
  go_wp2_with (first | ((with_reducible refine gate_dst (N := 5) rfl ?_); refine goesL_ (some 5) rfl rfl Try.func21 (by kernel_rfl) rfl #[.pointer (some ⟨b, 0, none⟩)] rfl (by (try simp only [List.map_toArray, List.map_cons, List.map_nil]); first | done | rfl) ?_; refine ((HT _ HRB.out H00.out)).mono ?_; rintro e w2 ⟨v, rfl, ho, hr2, hg2⟩; refine ⟨_, rfl, ?_⟩; obtain ⟨Av, cv, ev⟩ := Kd.R_slice ho; subst ev; have HO2 := Aside0.mk ho; have HR2 := Aside0.mk hr2; have HG2 := Aside0.mk hg2; have BK3 := Aside0.mk (blk_new w2 (.cells #[.string t.f0, .int .i64 t.f1, .slice Av t.f2.length cv] 27 (0, 0))); have HR3 := Aside0.mk (hr2.below (below_alloc (Below.refl _ _) (.cells #[.string t.f0, .int .i64 t.f1, .slice Av t.f2.length cv] 27 (0, 0)))); clear ho hr2 hg2) | ((with_reducible refine gate_dst (N := 7) rfl ?_); refine panicsL_ (some 7) rfl rfl Try.func22 (by kernel_rfl) rfl #[.pointer (some ⟨b, 0, none⟩)] rfl (by (try simp only [List.map_toArray, List.map_cons, List.map_nil]); first | done | rfl) ?_; refine ((HQ _ HR3.out).out).mono ?_; rintro e w4 ⟨rfl, hb4⟩; refine ⟨_, rfl, ?_⟩))
  exact ⟨rfl, rfl, ((chg_of_grown HG2.out).alloc _).below hb4⟩
set_option maxHeartbeats 4000000 in
theorem term1_no4 (b bo : Nat) (A : Option Addr) (c : Nat) (g : List S62) (s : ByteArray) (k : Nat) (w0 w : World) (hS : Kd.C k62 w0 A g.length g) (hc : g.length ≤ c) (H0 : Below w0.heap.size w0 w) (hb0 : w0.heap.size ≤ b) (hb : RB w b A g.length c s 0) (t : S27) (p : Int) (ht : rdTerm k g s 0 = some (.ok (t, p))) (tx : ByteArray) (wat en : Int) (hr : words_Next.f k s p = some (0, tx, wat, en, 0)) (er a : Int) (hm : rdMay k g [t] 0 = some (.error (er, a))) :
    Calls Try.prog 20 #[.pointer (some ⟨b, 0, none⟩), .pointer (some ⟨bo, 0, none⟩)] w fun e w' => e = gaveUp er a ∧ Chg b b w w' := by
  have HT := fun W (q : RB W b A g.length c s 0) => (fun (q1 : Below w0.heap.size w0 W) => term_calls k b A c g s 0 _ w0 W hS hc q1 hb0 q ht)
  have HRB := Aside0.mk hb
  have H00 := Aside0.mk H0
  have HQ := fun W (q : RB W b A g.length c s p) => Aside0.mk (rest_ok b A g.length c s p k tx wat en W q hr)
  have HB0 := Aside0.mk hb0
  have HM := fun W Al cl (q1 : Below w0.heap.size w0 W) (q2 : Kd.C k27 W Al [t].length [t]) (q3 : [t].length ≤ cl) (q : RB W b A g.length c s p) => Aside0.mk (may_calls k b A c g s p [t] Al cl (.error (er, a)) W (Kd.C_below hS q1) hc q2 q3 q hm)
  clear hb H0 ht hS hc hr hm hb0
  go_enter Try.func20, Try.ntmps20
  go_wp2_with (first | ((with_reducible refine gate_dst (N := 5) rfl ?_); refine goesL_ (some 5) rfl rfl Try.func21 (by kernel_rfl) rfl #[.pointer (some ⟨b, 0, none⟩)] rfl (by (try simp only [List.map_toArray, List.map_cons, List.map_nil]); first | done | rfl) ?_; refine ((HT _ HRB.out H00.out)).mono ?_; rintro e w2 ⟨v, rfl, ho, hr2, hg2⟩; refine ⟨_, rfl, ?_⟩; obtain ⟨Av, cv, ev⟩ := Kd.R_slice ho; subst ev; have HO2 := Aside0.mk ho; have HR2 := Aside0.mk hr2; have HG2 := Aside0.mk hg2; have BK3 := Aside0.mk (blk_new w2 (.cells #[.string t.f0, .int .i64 t.f1, .slice Av t.f2.length cv] 27 (0, 0))); have HR3 := Aside0.mk (hr2.below (below_alloc (Below.refl _ _) (.cells #[.string t.f0, .int .i64 t.f1, .slice Av t.f2.length cv] 27 (0, 0)))); clear ho hr2 hg2) | ((with_reducible refine gate_dst (N := 7) rfl ?_); refine goesL_ (some 7) rfl rfl Try.func22 (by kernel_rfl) rfl #[.pointer (some ⟨b, 0, none⟩)] rfl (by (try simp only [List.map_toArray, List.map_cons, List.map_nil]); first | done | rfl) ?_; refine ((HQ _ HR3.out).out).mono ?_; rintro e w4 ⟨rfl, hb4⟩; refine ⟨_, rfl, ?_⟩; have HB4 := Aside0.mk hb4; have BK4 := Aside0.mk (blk_below BK3.out hb4); have HR4 := Aside0.mk (HR3.out.below hb4); have HO4 := Aside0.mk (Kd.R_below (Kd.R_alloc HO2.out (.cells #[.string t.f0, .int .i64 t.f1, .slice Av t.f2.length cv] 27 (0, 0))) hb4); have HC4 := Aside0.mk (((chg_of_grown (bo := b) HG2.out).alloc (.cells #[.string t.f0, .int .i64 t.f1, .slice Av t.f2.length cv] 27 (0, 0))).below hb4); have HX4 := Aside0.mk (below_step (below_alloc (below_of_grown H00.out HB0.out HG2.out) (.cells #[.string t.f0, .int .i64 t.f1, .slice Av t.f2.length cv] 27 (0, 0))) hb4); clear hb4 BK3 HR3; have yq0 : w4.cell? ⟨w2.heap.size, 0, none⟩ = some (.string t.f0) := (blk_cell BK4.out 0).trans rfl; have yq1 : w4.cell? ⟨w2.heap.size, 1, none⟩ = some (.int .i64 t.f1) := (blk_cell BK4.out 1).trans rfl; have yq2 : w4.cell? ⟨w2.heap.size, 2, none⟩ = some (.slice Av t.f2.length cv) := (blk_cell BK4.out 2).trans rfl; have HL := Aside0.mk (Kd.R_reads' HO4.out)) | ((with_reducible refine gate_dst (N := 11) rfl ?_); have BK5 := Aside0.mk (blk_new w4 (.cells #[.string t.f0, .int .i64 t.f1, .slice Av t.f2.length cv] 27 (0, 0))); have HC5 := Aside0.mk (lit_C (d := k27) (xs := [t]) (inner := [.string t.f0, .int .i64 t.f1, .slice Av t.f2.length cv]) (reps_one (k27_mk _ t HL.out.2.1 (Kd.C_alloc HL.out.2.2 _)) rfl) BK5.out (by simp)); refine panicsL_ (some 11) rfl rfl Try.func23 (by kernel_rfl) rfl #[.pointer (some ⟨b, 0, none⟩), .slice (some ⟨w4.heap.size, 0, none⟩) 1 1] rfl (by (try simp only [List.map_toArray, List.map_cons, List.map_nil]); first | done | rfl) ?_; refine (HM _ (some ⟨w4.heap.size, 0, none⟩) 1 (below_alloc HX4.out _) HC5.out (by simp) (HR4.out.below (below_alloc (Below.refl _ _) _))).out.mono ?_; rintro e w6 ⟨rfl, hb6⟩; refine ⟨_, rfl, ?_⟩))
  exact ⟨rfl, rfl, (HC4.out.alloc _).below hb6⟩
set_option maxHeartbeats 4000000 in
theorem term1_ok (b bo : Nat) (A : Option Addr) (c : Nat) (g : List S62) (s : ByteArray) (k : Nat) (w0 w : World) (hS : Kd.C k62 w0 A g.length g) (hc : g.length ≤ c) (H0 : Below w0.heap.size w0 w) (hb0 : w0.heap.size ≤ b) (hb : RB w b A g.length c s 0) (t : S27) (p : Int) (ht : rdTerm k g s 0 = some (.ok (t, p))) (tx : ByteArray) (wat en : Int) (hr : words_Next.f k s p = some (0, tx, wat, en, 0)) (hm : rdMay k g [t] 0 = some (.ok ())) (hbo : w.heap[bo]? = some (.cells #[.string (⟨#[]⟩ : ByteArray), .int .i64 0, .slice none 0 0] 27 (0, 0))) (hne : bo ≠ b) :
    Calls Try.prog 20 #[.pointer (some ⟨b, 0, none⟩), .pointer (some ⟨bo, 0, none⟩)] w (HowPost b bo w (.ok t)) := by
  have HT := fun W (q : RB W b A g.length c s 0) => (fun (q1 : Below w0.heap.size w0 W) => term_calls k b A c g s 0 _ w0 W hS hc q1 hb0 q ht)
  have HRB := Aside0.mk hb
  have H00 := Aside0.mk H0
  have HQ := fun W (q : RB W b A g.length c s p) => Aside0.mk (rest_ok b A g.length c s p k tx wat en W q hr)
  have HB0 := Aside0.mk hb0
  have HBO := Aside0.mk hbo
  have NBO := Aside0.mk hne
  have HM := fun W Al cl (q1 : Below w0.heap.size w0 W) (q2 : Kd.C k27 W Al [t].length [t]) (q3 : [t].length ≤ cl) (q : RB W b A g.length c s p) => Aside0.mk (may_calls k b A c g s p [t] Al cl (.ok ()) W (Kd.C_below hS q1) hc q2 q3 q hm)
  clear hb H0 ht hS hc hr hm hb0 hbo hne
  go_enter Try.func20, Try.ntmps20
  go_wp2_with (first | ((with_reducible refine gate_dst (N := 5) rfl ?_); refine goesL_ (some 5) rfl rfl Try.func21 (by kernel_rfl) rfl #[.pointer (some ⟨b, 0, none⟩)] rfl (by (try simp only [List.map_toArray, List.map_cons, List.map_nil]); first | done | rfl) ?_; refine ((HT _ HRB.out H00.out)).mono ?_; rintro e w2 ⟨v, rfl, ho, hr2, hg2⟩; refine ⟨_, rfl, ?_⟩; obtain ⟨Av, cv, ev⟩ := Kd.R_slice ho; subst ev; have HO2 := Aside0.mk ho; have HR2 := Aside0.mk hr2; have HG2 := Aside0.mk hg2; have BK3 := Aside0.mk (blk_new w2 (.cells #[.string t.f0, .int .i64 t.f1, .slice Av t.f2.length cv] 27 (0, 0))); have HR3 := Aside0.mk (hr2.below (below_alloc (Below.refl _ _) (.cells #[.string t.f0, .int .i64 t.f1, .slice Av t.f2.length cv] 27 (0, 0)))); clear ho hr2 hg2) | ((with_reducible refine gate_dst (N := 7) rfl ?_); refine goesL_ (some 7) rfl rfl Try.func22 (by kernel_rfl) rfl #[.pointer (some ⟨b, 0, none⟩)] rfl (by (try simp only [List.map_toArray, List.map_cons, List.map_nil]); first | done | rfl) ?_; refine ((HQ _ HR3.out).out).mono ?_; rintro e w4 ⟨rfl, hb4⟩; refine ⟨_, rfl, ?_⟩; have HB4 := Aside0.mk hb4; have BK4 := Aside0.mk (blk_below BK3.out hb4); have HR4 := Aside0.mk (HR3.out.below hb4); have HO4 := Aside0.mk (Kd.R_below (Kd.R_alloc HO2.out (.cells #[.string t.f0, .int .i64 t.f1, .slice Av t.f2.length cv] 27 (0, 0))) hb4); have HC4 := Aside0.mk (((chg_of_grown (bo := bo) HG2.out).alloc (.cells #[.string t.f0, .int .i64 t.f1, .slice Av t.f2.length cv] 27 (0, 0))).below hb4); have HX4 := Aside0.mk (below_step (below_alloc (below_of_grown H00.out HB0.out HG2.out) (.cells #[.string t.f0, .int .i64 t.f1, .slice Av t.f2.length cv] 27 (0, 0))) hb4); clear hb4 BK3 HR3; have yq0 : w4.cell? ⟨w2.heap.size, 0, none⟩ = some (.string t.f0) := (blk_cell BK4.out 0).trans rfl; have yq1 : w4.cell? ⟨w2.heap.size, 1, none⟩ = some (.int .i64 t.f1) := (blk_cell BK4.out 1).trans rfl; have yq2 : w4.cell? ⟨w2.heap.size, 2, none⟩ = some (.slice Av t.f2.length cv) := (blk_cell BK4.out 2).trans rfl; have HL := Aside0.mk (Kd.R_reads' HO4.out)) | ((with_reducible refine gate_dst (N := 11) rfl ?_); have BK5 := Aside0.mk (blk_new w4 (.cells #[.string t.f0, .int .i64 t.f1, .slice Av t.f2.length cv] 27 (0, 0))); have HC5 := Aside0.mk (lit_C (d := k27) (xs := [t]) (inner := [.string t.f0, .int .i64 t.f1, .slice Av t.f2.length cv]) (reps_one (k27_mk _ t HL.out.2.1 (Kd.C_alloc HL.out.2.2 _)) rfl) BK5.out (by simp)); refine goesL_ (some 11) rfl rfl Try.func23 (by kernel_rfl) rfl #[.pointer (some ⟨b, 0, none⟩), .slice (some ⟨w4.heap.size, 0, none⟩) 1 1] rfl (by (try simp only [List.map_toArray, List.map_cons, List.map_nil]); first | done | rfl) ?_; refine (HM _ (some ⟨w4.heap.size, 0, none⟩) 1 (below_alloc HX4.out _) HC5.out (by simp) (HR4.out.below (below_alloc (Below.refl _ _) _))).out.mono ?_; rintro e w6 ⟨rfl, hb6⟩; refine ⟨_, rfl, ?_⟩; have BK6 := Aside0.mk (blk_below (blk_alloc BK4.out (.cells #[.string t.f0, .int .i64 t.f1, .slice Av t.f2.length cv] 27 (0, 0))) hb6); have BO6 := Aside0.mk (blk_below (blk_alloc (blk_below (blk_alloc (blk_grown HBO.out HG2.out (fun e => NBO.out (Option.some.inj e))) (.cells #[.string t.f0, .int .i64 t.f1, .slice Av t.f2.length cv] 27 (0, 0))) HB4.out) (.cells #[.string t.f0, .int .i64 t.f1, .slice Av t.f2.length cv] 27 (0, 0))) hb6); have HC6 := Aside0.mk ((HC4.out.alloc (.cells #[.string t.f0, .int .i64 t.f1, .slice Av t.f2.length cv] 27 (0, 0))).below hb6); have HO6 := Aside0.mk (Kd.R_below (Kd.R_alloc HO4.out (.cells #[.string t.f0, .int .i64 t.f1, .slice Av t.f2.length cv] 27 (0, 0))) hb6); clear hb6; have zq0 : w6.cell? ⟨w2.heap.size, 0, none⟩ = some (.string t.f0) := (blk_cell BK6.out 0).trans rfl; have zq1 : w6.cell? ⟨w2.heap.size, 1, none⟩ = some (.int .i64 t.f1) := (blk_cell BK6.out 1).trans rfl; have zq2 : w6.cell? ⟨w2.heap.size, 2, none⟩ = some (.slice Av t.f2.length cv) := (blk_cell BK6.out 2).trans rfl; have oq0 : w6.cell? ⟨bo, 0, none⟩ = some (.string (⟨#[]⟩ : ByteArray)) := (blk_cell BO6.out 0).trans rfl; have of0 : w6.frozen? ⟨bo, 0, none⟩ = false := blk_frozen BO6.out 0; have oq1 : w6.cell? ⟨bo, 1, none⟩ = some (.int .i64 0) := (blk_cell BO6.out 1).trans rfl; have of1 : w6.frozen? ⟨bo, 1, none⟩ = false := blk_frozen BO6.out 1; have oq2 : w6.cell? ⟨bo, 2, none⟩ = some (.slice none 0 0) := (blk_cell BO6.out 2).trans rfl; have of2 : w6.frozen? ⟨bo, 2, none⟩ = false := blk_frozen BO6.out 2; have n1 : ¬ w2.heap.size = bo := (by have := HG2.out.size; have := blk_lt HBO.out; omega); have n2 : ¬ bo = w2.heap.size := (fun e => n1 e.symm)))
  go_end0
  refine ⟨rfl, ?_, .slice Av t.f2.length cv, ?_, ?_⟩
  · exact ((HC6.out.sete _ _).sete _ _).sete _ _
  · exact blk_put (cs := #[.string t.f0, .int .i64 t.f1, .slice none 0 0]) (blk_put (cs := #[.string t.f0, .int .i64 0, .slice none 0 0]) (blk_put BO6.out 0 _ rfl) 1 _ rfl) 2 _ rfl
  · exact Kd.R_mono (Kd.R_far (p := ⟨bo, 2, none⟩) (Kd.R_far (p := ⟨bo, 1, none⟩) (Kd.R_far (p := ⟨bo, 0, none⟩) (Kd.R_newB HO6.out HBO.out) (fun _ hk => hk.2) _) (fun _ hk => hk.2) _) (fun _ hk => hk.2) _) (fun _ _ => trivial)
end Go.Proofs.Ytpepjodkahdicaa.PTb
