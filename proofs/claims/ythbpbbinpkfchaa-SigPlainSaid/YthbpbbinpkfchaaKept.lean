/-
  The marked copy that the laws lend, and that it is kept; the laws SigChecks and SigPlain walked. Conditions: each theorem's own.
-/
import Derived.Test.YthbpbbinpkfchaaPSigx8
import Derived.Test.YthbpbbinpkfchaaPSigx10
import Derived.Test.YthbpbbinpkfchaaPSigx10
import Derived.Test.YthbpbbinpkfchaaPSigx12
import Derived.Test.YthbpbbinpkfchaaPSigx12
namespace Go.Proofs.Ythbpbbinpkfchaa.Kp
open Go.RowKit Go.Proofs.YthbpbbinpkfchaaW.PrintWords Go.Proofs.YthbpbbinpkfchaaW.PrintLast Go.Proofs.YthbpbbinpkfchaaW.PrintMore Go.Proofs.Ythbpbbinpkfchaa.PSig
attribute [local go_sem] max2_int min2_int max_two min_two max_three min_three max_four min_four
set_option linter.unusedVariables false
set_option linter.unusedSimpArgs false
def mark : S36 := ⟨(⟨#[109, 97, 114, 107]⟩ : ByteArray), 0, 0, (⟨#[]⟩ : ByteArray)⟩
/-- A row whose spare room begins with the mark. -/
def Marked (w : World) (base : Nat) (l : List S36) (v : Value) : Prop := ∃ (A : Option Addr) (c : Nat), v = .slice A l.length c ∧ Kd.R k36 36 w base (fun _ => True) (.slice A (l.length + 1) c) (l ++ [mark])
set_option maxHeartbeats 4000000 in
set_option maxRecDepth 100000 in
theorem lent_calls (A0 : Option Addr) (c0 : Nat) (l0 : List (S36)) (w : World) (hr0 : Kd.C k36 w A0 l0.length l0) (hc0 : l0.length ≤ c0) (hl : l0.length < 2932031007401) :
    Calls Try.prog 14 #[.slice A0 l0.length c0] w fun e w' => ∃ v0_ : Value, e = .returned v0_ ∧ Marked w' w.heap.size l0 v0_ ∧ Below w.heap.size w w' := by
  have hu36 := Try.underlying36
  have HR0 := Aside0.mk hr0
  have HC0 := Aside0.mk hc0
  clear hr0 hc0
  have HB := Aside0.mk (Below.refl w.heap.size w)
  obtain ⟨y157, hy0⟩ : ∃ y_ : List S36, y_ = ([] : List S36) := ⟨_, rfl⟩
  obtain ⟨y160, hy1⟩ : ∃ y_ : List S36, y_ = (y157 ++ l0) := ⟨_, rfl⟩
  obtain ⟨y163, hy2⟩ : ∃ y_ : List S36, y_ = (y160 ++ [(⟨(⟨#[109, 97, 114, 107]⟩ : ByteArray), 0, 0, (⟨#[]⟩ : ByteArray)⟩ : S36)]) := ⟨_, rfl⟩
  have c2 : y157.length + l0.length < 2932031007402 := by rw [hy0]; simp; omega
  have c3 : y160.length < 2932031007402 := by rw [hy1, hy0]; simp; omega
  have c5 : (l0.length : Int) ≤ (y163.length : Int) := by rw [hy2, hy1, hy0]; simp; omega
  have hfin : y163.length = l0.length + 1 ∧ y163 = l0 ++ [(⟨(⟨#[109, 97, 114, 107]⟩ : ByteArray), 0, 0, (⟨#[]⟩ : ByteArray)⟩ : S36)] := by rw [hy2, hy1, hy0]; simp
  have HFIN := Aside0.mk hfin
  have Ny157 := Aside0.mk hy0
  have Ny160 := Aside0.mk hy1
  have Ny163 := Aside0.mk hy2
  have LMc2 := Aside0.mk c2
  have LMc3 := Aside0.mk c3
  have c4 : 0 ≤ (l0.length : Int) := by omega
  have c4b0 := eq_true c4
  have c4b1 : decide (0 ≤ (l0.length : Int)) = true := decide_eq_true c4
  have c5b0 := eq_true c5
  have c5b1 : decide ((l0.length : Int) ≤ (y163.length : Int)) = true := decide_eq_true c5
  clear hy0 hy1 hy2 c2 c3 c4 c5 hfin hl
  go_enter Try.func14, Try.ntmps14
  go_wp2_with (first | ((with_reducible refine gate_dst (N := 4) rfl ?_); refine Kd.R_lit k36 _ 36 ?hg (N := 4) ?hd (xs := ([] : List (S36))) (inner := []) (ok := fun _ => True) (okp := fun _ => True) ?hr ?hp (fun _ hk => hk) trivial (Below.refl _ _) (Nat.le_refl _) (by simp) ?_; (case hd => rfl); (case hg => rfl); (case hr => first | (go_simp; done) | (go_simp; rfl)); (case hp => exact (Reps.none _ _)); intro v158 w6 ho7 hb hg_ hnew_; clear hg_ hnew_; (first | rw [← Ny157.out] at ho7 | (simp only [Int.reduceToNat] at ho7; rw [← Ny157.out] at ho7)); have n0_ := Aside0.mk (Kd.R_lower ho7 (below_size (by repeat (first | (with_reducible first | exact HB.out | apply below_alloc | apply pw_below_drewN | apply below_drew1) | exact HB.out)))); have n1_ := Aside0.mk (below_step (by repeat (first | (with_reducible first | exact HB.out | apply below_alloc | apply pw_below_drewN | apply below_drew1) | exact HB.out)) hb); clear HB; have HO159 := n0_; have HB := n1_; clear n0_ n1_; clear hb ho7) | ((with_reducible refine gate_builtin (b := .append) (xs := #[.tmp 4, .tmp 5]) rfl ?_); at_builtin; refine Kd.R_append_rows k36 (w0 := w) w.heap.size rfl (.tmp 4) (.tmp 5) 27 36 (.agg #[(.string ⟨#[]⟩), (.int .i64 0), (.int .i64 0), (.string ⟨#[]⟩)]) 48 rfl Try.underlying27 info36 rfl (by decide) (by omega) v158 y157 l0 _ _ _ (fun _ => True) (fun _ => False) rfl rfl ?aO ?aR (fun _ _ h => h) (fun _ h => h.elim) ?aF ?aB ?aS ?aL ?_; (case aR => repeat (first | exact (Kd.C_below HR0.out HB.out) | (with_reducible refine Kd.C_alloc ?_ _) | (with_reducible refine Kd.C_drewN ?_ _) | (with_reducible refine Kd.C_drew ?_))); (case aB => exact (by repeat (first | (with_reducible first | exact HB.out | apply below_alloc | apply pw_below_drewN | apply below_drew1) | exact HB.out))); (case aF => exact (fun _ _ => trivial)); (case aO => exact (by (with_reducible repeat (first | apply Kd.R_alloc | apply Kd.R_drewN | apply Kd.R_drew)); exact HO159.out)); (case aS => exact (below_size (by repeat (first | (with_reducible first | exact HB.out | apply below_alloc | apply pw_below_drewN | apply below_drew1) | exact HB.out)))); (case aL => have := LMc2.out; omega); intro v161 w8 ho hb hg hat; rw [← Ny160.out] at ho; have n0_ := Aside0.mk (hb); have n1_ := Aside0.mk (ho); clear HB; clear HO159; have HB := n0_; have HO162 := n1_; clear n0_ n1_; clear ho hb hg hat) | ((with_reducible refine gate_builtin (b := .append) (xs := #[.tmp 7, .tmp 9]) rfl ?_); at_builtin; refine Kd.R_append k36 (w0 := w) w.heap.size rfl (.tmp 7) (.tmp 9) 27 36 (.agg #[(.string ⟨#[]⟩), (.int .i64 0), (.int .i64 0), (.string ⟨#[]⟩)]) 48 rfl Try.underlying27 info36 rfl (by decide) (by omega) v161 y160 (⟨(⟨#[109, 97, 114, 107]⟩ : ByteArray), 0, 0, (⟨#[]⟩ : ByteArray)⟩ : S36) [.string (⟨#[109, 97, 114, 107]⟩ : ByteArray), .int .i64 0, .int .i64 0, .string (⟨#[]⟩ : ByteArray)] (fun _ => True) (fun _ => False) rfl rfl ?aP (fun _ hk => hk.elim) ?aF ?aO ?aB ?aS ?aL ?_; (case aP => exact k36_mkM _ _ _ (⟨(⟨#[109, 97, 114, 107]⟩ : ByteArray), 0, 0, (⟨#[]⟩ : ByteArray)⟩ : S36)); (case aB => exact (by repeat (first | (with_reducible first | exact HB.out | apply below_alloc | apply pw_below_drewN | apply below_drew1) | exact HB.out))); (case aF => exact (fun _ _ => trivial)); (case aO => exact (by (with_reducible repeat (first | apply Kd.R_alloc | apply Kd.R_drewN | apply Kd.R_drew)); exact HO162.out)); (case aS => exact (below_size (by repeat (first | (with_reducible first | exact HB.out | apply below_alloc | apply pw_below_drewN | apply below_drew1) | exact HB.out)))); (case aL => have := LMc3.out; omega); intro v164 w9 ho hb hg hat; rw [← Ny163.out] at ho; have n0_ := Aside0.mk (hb); have n1_ := Aside0.mk (ho); clear HB; clear HO162; have HB := n0_; have HO165 := n1_; clear n0_ n1_; clear ho hb hg hat; obtain ⟨Ao10, co10, eo10⟩ := Kd.R_slice HO165.out; subst eo10; have q11 : ((l0.length : Int) : Int) ≤ ((y163.length : Int) : Int) := of_decide_eq_true (by first | (with_reducible assumption) | assumption); obtain ⟨i011, hi011, _, hsz11, _⟩ := info_parts info36; have hcut11 := cut_to (P := Try.prog) 27 36 .i64 Try.underlying27 hi011 Ao10 y163.length co10 (l0.length : Int) (of_decide_eq_true (by first | (with_reducible assumption) | assumption)) q11 (Kd.R_reads' HO165.out).2.1; clear hi011 hsz11; replace q11 := eq_true q11))
  go_ret
  refine ⟨_, rfl, ⟨Ao10, co10, ?_, ?_⟩, ?_⟩
  · first | rfl | (simp; done)
  · have hz := HFIN.out
    have ho := HO165.out
    rw [hz.1, hz.2] at ho
    (with_reducible repeat (first | apply Kd.R_alloc | apply Kd.R_drewN | apply Kd.R_drew))
    exact ho
  · repeat (first | (with_reducible first | exact HB.out | apply below_alloc | apply pw_below_drewN | apply below_drew1) | exact HB.out)

theorem C_prefix {α : Type} {K : Kd α} {w : World} {A : Option Addr} {xs ys : List α} {n : Nat} (h : Kd.C K w A n (xs ++ ys)) : Kd.C K w A xs.length xs := by
  obtain ⟨h1, h2, h3⟩ := h
  rw [List.length_append] at h1
  refine ⟨rfl, by omega, fun hp => ?_⟩
  obtain ⟨ad, e, hc⟩ := h3 (by omega)
  refine ⟨ad, e, fun j p hj => hc j p ?_⟩
  have hjl : j < xs.length := by
    rcases Nat.lt_or_ge j xs.length with h | h
    · exact h
    · rw [List.getElem?_eq_none h] at hj; cases hj
  rw [List.getElem?_append_left hjl]
  exact hj
theorem cut_up {P : Program} (t e : TypeId) (kh : IntKind) {i : TypeInfo} (ht : P.underlying t = some (.slice e)) (hi : P.info? e = some i) (A : Option Addr) (n c : Nat) (j : Int) (h0 : 0 ≤ j) (hm : j ≤ c) :
    ∀ W : World, (Instr.slice t (.slice A n c) none (some (.int kh j)) none).run P W = .ok (.slice A j.toNat c) W := by
  intro W
  have hel : P.elem t = e := by simp [Program.elem, ht]
  have hu : P.underlying t = some (.slice (P.elem t)) := by rw [hel]; exact ht
  have ha : (A.map fun x => x.add 0) = A := by cases A <;> simp [Addr.add]
  rw [run_slice_h W t A n c hu kh j h0 hm, hel]
  simp [sizeOf, typeInfo, hi, sliced, Result.andThen, ha]
set_option maxHeartbeats 1000000 in
set_option maxRecDepth 100000 in
theorem kept_calls (k : Nat) (A0 : Option Addr) (c0 : Nat) (l0 : List S36) (A1 : Option Addr) (c1 : Nat) (l1 : List S36) (w : World)
    (hr0 : Kd.C k36 w A0 (l0.length + 1) (l0 ++ [mark])) (hc0 : l0.length + 1 ≤ c0) (hr1 : Kd.C k36 w A1 l1.length l1) (hc1 : l1.length ≤ c1) (h : amalgamref01_Same.f k l0 l1 = some true) (hlen : l1.length = l0.length) :
    Calls Try.prog 17 #[.slice A0 l0.length c0, .slice A1 l1.length c1] w fun e w' => e = .returned (.bool true) ∧ Drawn0 w w' := by
  have hn := hr0.2.1
  obtain ⟨i0, hi0, _, hsz0, _⟩ := info_parts info36
  have hcut := cut_up (P := Try.prog) 27 36 .i64 Try.underlying27 hi0 A0 l0.length c0 ((l0.length : Int) + 1) (by omega) (by omega)
  rw [show ((l0.length : Int) + 1).toNat = l0.length + 1 from by omega] at hcut
  obtain ⟨ad, rfl, hx0, hx1, hx2, hx3⟩ := at_T36 hr0 (l0.length : Int) (by omega) (by omega)
  rw [show rd_T36 (l0 ++ [mark]) (l0.length : Int) = mark from by simp [rd_T36]] at hx0
  have HL := Aside0.mk hlen
  have hlt : (l1.length : Int) < (l0.length : Int) + 1 := by omega
  have hr2 := C_prefix hr0
  rw [← hlen, Int.toNat_natCast] at hx0
  have HC := Aside0.mk (amalgamref01_Same.calls k _ c0 l0 _ c1 l1 true w hr2 (by omega) hr1 hc1 h)
  clear hsz0 hi0 hr0 hr1 hr2 hlen h hx1 hx2 hx3
  go_enter Try.func17, Try.ntmps17
  go_wp2_with fail
  refine HC.out.mono ?_
  rintro e w' ⟨rfl, ⟨m, rfl⟩⟩
  go_wp2
  go_ret
  exact ⟨by first | rfl | (simp [mark]; done), by repeat (first | exact Drawn0.refl _ | apply Drawn0.step)⟩

theorem Below.join {w w1 w2 : World} (h : Below w.heap.size w w1) (k : Below w1.heap.size w1 w2) : Below w.heap.size w w2 := below_step h k
/-- What the law SigChecks asks of its parts. -/
def ChecksP (k : Nat) (l : List S36) : Prop := l.length < 2932031007401 ∧ amalgamlaw01_head.f k = some true ∧ (∃ e a, sig_Check.f k l = some (e, a) ∧ amalgamref01_Check.f k l = some (e, a)) ∧ amalgamref01_Same.f k l l = some true
set_option maxHeartbeats 1000000 in
set_option maxRecDepth 100000 in
theorem SigChecks_calls (k : Nat) (A0 : Option Addr) (c0 : Nat) (l0 : List S36) (_r : Bool) (w : World) (hr0 : Kd.C k36 w A0 l0.length l0) (hc0 : l0.length ≤ c0) (h : ChecksP k l0) :
    Calls Try.prog 4 #[.slice A0 l0.length c0] w fun e w' => e = .returned (.bool true) ∧ Below w.heap.size w w' := by
  obtain ⟨hl, hh, ⟨er, at_, h1, h2⟩, h3⟩ := h
  go_enter Try.func4, Try.ntmps4
  go_wp2_with fail
  refine (amalgamlaw01_head.calls k true _ hh).mono ?_
  rintro e w1 ⟨rfl, hb1⟩
  go_wp2_with fail
  refine (lent_calls A0 c0 l0 w1 (Kd.C_below hr0 hb1) hc0 hl).mono ?_
  rintro e w2 ⟨v, rfl, ⟨A, c, rfl, hR⟩, hb2⟩
  have hX := Kd.R_reads' hR
  rw [List.length_append] at hX
  obtain ⟨_, hXc, hXC⟩ := hX
  have hXC' : Kd.C k36 w2 A (l0.length + 1) (l0 ++ [mark]) := hXC
  have hB2 := Below.join hb1 hb2
  go_wp2_with fail
  refine (sig_Check.calls k A c l0 er at_ w2 (C_prefix hXC') (by omega) h1).mono ?_
  rintro e w3 ⟨rfl, hb3⟩
  have hB3 := Below.join hB2 hb3
  go_wp2_with fail
  refine (amalgamref01_Check.calls k A0 c0 l0 er at_ w3 (Kd.C_below hr0 hB3) hc0 h2).mono ?_
  rintro e w4 ⟨rfl, hb4⟩
  have hB4 := Below.join hB3 hb4
  go_wp2_with fail
  refine (kept_calls k A c l0 A0 c0 l0 w4 (Kd.C_below (Kd.C_below hXC' hb3) hb4) hXc (Kd.C_below hr0 hB4) hc0 h3 rfl).mono ?_
  rintro e w5 ⟨rfl, ⟨m5, rfl⟩⟩
  clear hXC' hXC hr0 hR
  go_wp2
  go_ret
  exact ⟨by first | rfl | (simp; done), by repeat (first | exact hB4 | apply pw_below_drewN)⟩
/-- What the law SigPlain asks of its parts. -/
def PlainP (k : Nat) (l : List S36) : Prop := l.length < 2932031007401 ∧ amalgamlaw01_head.f k = some true ∧ (∃ p, sig_Plain.f k l = some p ∧ amalgamref01_Plain.f k l = some p ∧ amalgamref01_Same.f k p p = some true) ∧ amalgamref01_Same.f k l l = some true
set_option maxHeartbeats 1000000 in
set_option maxRecDepth 100000 in
theorem SigPlain_calls (k : Nat) (A0 : Option Addr) (c0 : Nat) (l0 : List S36) (_r : Bool) (w : World) (hr0 : Kd.C k36 w A0 l0.length l0) (hc0 : l0.length ≤ c0) (h : PlainP k l0) :
    Calls Try.prog 6 #[.slice A0 l0.length c0] w fun e w' => e = .returned (.bool true) ∧ Below w.heap.size w w' := by
  obtain ⟨hl, hh, ⟨p, h1, h2, h2'⟩, h3⟩ := h
  go_enter Try.func6, Try.ntmps6
  go_wp2_with fail
  refine (amalgamlaw01_head.calls k true _ hh).mono ?_
  rintro e w1 ⟨rfl, hb1⟩
  go_wp2_with fail
  refine (lent_calls A0 c0 l0 w1 (Kd.C_below hr0 hb1) hc0 hl).mono ?_
  rintro e w2 ⟨v, rfl, ⟨A, c, rfl, hR⟩, hb2⟩
  have hX := Kd.R_reads' hR
  rw [List.length_append] at hX
  obtain ⟨_, hXc, hXC⟩ := hX
  have hXC' : Kd.C k36 w2 A (l0.length + 1) (l0 ++ [mark]) := hXC
  have hB2 := Below.join hb1 hb2
  go_wp2_with fail
  refine (sig_Plain.calls k A c l0 p w2 (C_prefix hXC') (by omega) h1).mono ?_
  rintro e w3 ⟨vp, rfl, hRp, hb3⟩
  obtain ⟨Ap, cp, rfl⟩ := Kd.R_slice hRp
  have hB3 := Below.join hB2 hb3
  go_wp2_with fail
  refine (amalgamref01_Plain.calls k A0 c0 l0 p w3 (Kd.C_below hr0 hB3) hc0 h2).mono ?_
  rintro e w4 ⟨vq, rfl, hRq, hb4⟩
  obtain ⟨Aq, cq, rfl⟩ := Kd.R_slice hRq
  have hB4 := Below.join hB3 hb4
  have hRp4 := Kd.R_below hRp hb4
  have hb24 := Below.join hb3 hb4
  go_wp2_with fail
  refine (amalgamref01_Same.calls k Ap cp p Aq cq p true w4 (Kd.R_reads' hRp4).2.2 (Kd.R_reads' hRp4).2.1 (Kd.R_reads' hRq).2.2 (Kd.R_reads' hRq).2.1 h2').mono ?_
  rintro e w5 ⟨rfl, ⟨m5, rfl⟩⟩
  have HX := Aside0.mk hXC'
  have HXc := Aside0.mk hXc
  have HR0 := Aside0.mk hr0
  have HB2 := Aside0.mk hB2
  have HP := Aside0.mk hRp4
  have HB := Aside0.mk hb24
  have H3 := Aside0.mk h3
  have hpl : p.length ≤ 9223372036854775807 := (Kd.R_reads' hRp4).2.2.2.1
  clear hXC' hXC hXc hr0 hR hRp hRp4 hRq h1 h2 h2' h3 hh hb3 hb4 hB3 hB4 hb24 hB2 hb1 hb2
  go_wp2
  go_loopw [7] (fun v7 w' => ∃ (i : Nat) (xs : List S36), v7 = .int .i64 i ∧ i ≤ p.length ∧ Aside0 (Kd.R k36 36 w' w2.heap.size (fun _ => True) (.slice Ap p.length cp) xs) ∧ Aside0 (Below w2.heap.size w2 w')) (fun v7 _ => p.length - (intOf v7).toNat)
  case atStart => exact ⟨0, p, rfl, Nat.zero_le _, ⟨by (with_reducible repeat (first | apply Kd.R_alloc | apply Kd.R_drewN | apply Kd.R_drew)); exact HP.out⟩, ⟨by repeat (first | exact HB.out | apply pw_below_drewN)⟩⟩
  case round =>
    obtain ⟨i, xs, rfl, hi, HQ, HBr⟩ := hrel
    by_cases hlt : i < p.length
    · have hxl := (Kd.R_reads' HQ.out).1
      obtain ⟨g, cap, eq, gb, gl, _⟩ := Kd.R_form HQ.out (by omega)
      injection eq with ea en ec
      subst ea
      clear ec en
      obtain ⟨ce, hcl, hM, hcc, hfr⟩ := Kd.R_elem HQ.out z36 (i : Int) (by omega) (by omega)
      obtain rfl := k36_openM hM
      have HS := Aside0.mk (Kd.R_seg HQ.out (i : Int) (by omega) (by omega) (seg := [.string (⟨#[115, 112, 111, 105, 108, 116]⟩ : ByteArray)]) (j := 0) hcl hcc (show 1 ≤ 4 from by decide) (x' := (⟨(⟨#[115, 112, 111, 105, 108, 116]⟩ : ByteArray), (xs.getD (i : Int).toNat z36).f1, (xs.getD (i : Int).toNat z36).f2, (xs.getD (i : Int).toNat z36).f3⟩ : S36)) (k36_mkM _ _ _ _) (fun _ hk => hk))
      have hc0 : wr.cell? ⟨g, i * 4, none⟩ = some (.string (xs.getD i z36).f0) := hcc 0 _ rfl
      have hf0 : wr.frozen? ⟨g, i * 4, none⟩ = false := hfr 0
      have hi1 : (i : Int) < (p.length : Int) := by omega
      have HG := Aside0.mk gb
      clear hcl hM hcc hfr hxl gb gl
      go_wp2
      go_roundw
      case rel => exact ⟨i + 1, _, by go_num, by omega, ⟨HS.out.1⟩, ⟨below_set HBr.out HG.out⟩⟩
      case measure => simp [intOf]; omega
    · go_wp2_with fail
      refine (kept_calls k A c l0 A0 c0 l0 _ (Kd.C_below HX.out HBr.out) HXc.out (Kd.C_below HR0.out (Below.join HB2.out HBr.out)) hc0 H3.out rfl).mono ?_
      rintro e w6 ⟨rfl, ⟨m6, rfl⟩⟩
      go_wp2
      go_ret
      exact ⟨by first | rfl | (simp; done), by repeat (first | exact Below.join HB2.out HBr.out | apply pw_below_drewN)⟩
end Go.Proofs.Ythbpbbinpkfchaa.Kp
