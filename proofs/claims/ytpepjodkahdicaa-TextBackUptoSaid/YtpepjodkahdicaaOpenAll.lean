/-
  What TextBack's argument reads as: a signature, two terms, binds; of binds no more than the reading's bulk. Conditions: none beyond each theorem's own hypotheses.
-/
-- Written by programs of this session (wip/tools), cut to what the claim uses (wip/tools/prune.py).
import Derived.Test.YtpepjodkahdicaaRows
import Derived.Test.YtpepjodkahdicaaPTbx0
import Derived.Deep.Slices
import Derived.ChangeArms
import Derived.Lib.SmallJoins
namespace Go.Proofs.Ytpepjodkahdicaa.Rd
open Go.RowKit Go.Deep Go.Proofs.YtpepjodkahdicaaW.PrintWords Go.Proofs.Ytpepjodkahdicaa.PTb
/-- Whatever reads as a datum of type t (by n steps at most) reads as a value of the kind; V: what is known of it, by the reading's bulk. -/
def OpensN {α : Type} (n : Nat) (K : Kd α) (P : Program) (t : TypeId) (V : α → Nat → Prop) : Prop :=
  ∀ (H : Type) (enc : TypeId × Value → H) (w : World) (base : Nat) (spare : Nat → Bool) (held : Bool) (fuel : Nat) (cs : List Value) (d : DataW H) (p : List MemPlace), fuel ≤ n →
    DataW.trod enc P w base spare held fuel t cs = some (d, p) → ∃ a : α, K.K w a cs ∧ V a (Rows.uptoBulk d)
theorem list_of {α : Type} {n : Nat} {q : Nat → α → Prop} (h : ∀ i, i < n → ∃ a, q i a) : ∃ l : List α, l.length = n ∧ ∀ j a, l[j]? = some a → q j a := by
  induction n with
  | zero => exact ⟨[], rfl, fun j a h => by simp at h⟩
  | succ n ih =>
    obtain ⟨l, hl, hq⟩ := ih (fun i hi => h i (by omega))
    obtain ⟨a, ha⟩ := h n (by omega)
    refine ⟨l ++ [a], by simp [hl], fun j b hb => ?_⟩
    by_cases hj : j < n
    · rw [List.getElem?_append_left (by omega)] at hb
      exact hq j b hb
    · rw [List.getElem?_append_right (by omega)] at hb
      have : j = n := by
        rcases Nat.lt_or_ge (j - l.length) 1 with h | h
        · omega
        · rw [List.getElem?_eq_none (by simpa using h)] at hb
          cases hb
      subst this
      simp [hl] at hb
      subst hb
      exact ha
theorem bulk_one {H : Type} (d : DataW H) : 1 ≤ Rows.uptoBulk d := by
  cases d with
  | lit l => cases l <;> simp [Rows.uptoBulk]
  | nil => simp [Rows.uptoBulk]
  | ptr d => simp [Rows.uptoBulk]
  | slice elems spare => simp [Rows.uptoBulk]
  | agg parts => simp [Rows.uptoBulk]
  | iface t d => simp [Rows.uptoBulk]
  | map entries => simp [Rows.uptoBulk]
  | held h => simp [Rows.uptoBulk]
theorem bulk_len {H : Type} (l : List (DataW H)) : l.length ≤ Rows.uptoBulkAll l := by
  induction l with
  | nil => simp [Rows.uptoBulkAll]
  | cons x r ih => have := bulk_one x; simp only [Rows.uptoBulkAll, List.length_cons]; omega
theorem opensN_slice {α : Type} {K : Kd α} {P : Program} {t e : TypeId} {V : α → Nat → Prop} {n : Nat} (ht : P.underlying t = some (.slice e)) (hc : P.cellsOf e = K.sz) (he : OpensN n K P e V) :
    OpensN (n + 1) (Kd.slice e K) P t (fun l b => l.length ≤ b) := by
  intro H enc w base spare held fuel cs d p hn h
  rcases DataW.trod_slice ht h with ⟨rfl, _⟩ | ⟨a, len, cap, elems, rest, n', rfl, rfl, hx, hb, hl, hm, hlen, hel, _, _⟩
  · exact ⟨[], ⟨none, 0, rfl, Nat.le_refl _, rfl, by simp, fun h => by simp at h⟩, by simp⟩
  · obtain ⟨rfl, _⟩ := Prod.mk.inj hx
    have hE : ∀ i, i < len → ∃ x : α, ∃ c, c.length = K.sz ∧ K.K w x c ∧ ∀ j u, c[j]? = some u → w.cell? (a.add (i * K.sz + j)) = some u := by
      intro i hi
      have h1 := hel i hi
      rw [List.getElem?_eq_getElem (by omega)] at h1
      obtain ⟨c, hc1, hc2⟩ := Option.bind_eq_some_iff.1 h1
      obtain ⟨x, hK, _⟩ := he H enc w base spare held n' c _ _ (by omega) hc2
      refine ⟨x, c, K.K_len hK, hK, fun j u hj => ?_⟩
      obtain ⟨_, hl2, hcells⟩ := World.cells?_some hc1
      have hj2 : j < P.cellsOf e := by
        rcases Nat.lt_or_ge j c.length with h | h
        · omega
        · rw [List.getElem?_eq_none h] at hj
          cases hj
      have h3 := hcells j hj2
      rw [hj] at h3
      rw [hc] at h3
      rw [← h3, Go.Deep.add_add]
    obtain ⟨l, hll, hq⟩ := list_of hE
    refine ⟨l, ⟨some a, cap, by rw [hll], by omega, ⟨rfl, ?_, fun _ => ⟨a, rfl, fun j x hx => ?_⟩⟩⟩, ?_⟩
    · unfold maxLen at hm; omega
    · obtain ⟨c, h1, h2, h3⟩ := hq j x hx
      exact ⟨c, h1, h2, h3⟩
    · have h4 := bulk_len (elems.map (·.1))
      rw [List.length_map] at h4
      simp only [Rows.uptoBulk]
      omega
theorem cells_sym : Try.prog.cellsOf 62 = 4 := by kernel_rfl
theorem cells_term : Try.prog.cellsOf 27 = 3 := by kernel_rfl
theorem cells_bind : Try.prog.cellsOf 46 = 4 := by kernel_rfl
set_option maxRecDepth 100000 in
theorem opensN_sym (n : Nat) : OpensN n k62 Try.prog 62 (fun _ _ => True) := by
  intro H enc w base spare held fuel cs d p _ h
  obtain ⟨y0, y1, y2, y3, m, hx, hl, h0, h1, h2, h3⟩ := Go.Joins.trod_struct4 Try.underlying62 h
  rw [cells_sym] at hl
  match cs, hl with
  | [c0, c1, c2, c3], _ =>
    have h0' : DataW.trod enc Try.prog w base spare held m 9 [c0] = some y0 := h0
    have h1' : DataW.trod enc Try.prog w base spare held m 60 [c1] = some y1 := h1
    have h2' : DataW.trod enc Try.prog w base spare held m 3 [c2] = some y2 := h2
    have h3' : DataW.trod enc Try.prog w base spare held m 9 [c3] = some y3 := h3
    obtain ⟨a0, k0, _⟩ := DataW.trod_string Try.underlying9 h0'
    obtain ⟨a1, k1, _⟩ := DataW.trod_int Try.underlying60 h1'
    obtain ⟨a2, k2, _⟩ := DataW.trod_int Try.underlying3 h2'
    obtain ⟨a3, k3, _⟩ := DataW.trod_string Try.underlying9 h3'
    obtain rfl := List.head_eq_of_cons_eq k0
    obtain rfl := List.head_eq_of_cons_eq k1
    obtain rfl := List.head_eq_of_cons_eq k2
    obtain rfl := List.head_eq_of_cons_eq k3
    exact ⟨⟨a0, a1, a2, a3⟩, k62_mk w ⟨a0, a1, a2, a3⟩, trivial⟩
theorem opensN_sig (n : Nat) : OpensN (n + 1) (Kd.slice 62 k62) Try.prog 23 (fun l b => l.length ≤ b) :=
  opensN_slice Try.underlying23 (cells_sym.trans rfl) (opensN_sym n)
set_option maxRecDepth 100000 in
theorem opensN_term (n : Nat) : OpensN n k27 Try.prog 27 (fun _ _ => True) := by
  induction n using Nat.strongRecOn with
  | _ n ih =>
  intro H enc w base spare held fuel cs d p hn h
  obtain ⟨xs, m, hm, hx, hl, hlen, hf⟩ := DataW.trod_struct Try.underlying27 h
  rw [cells_term] at hl
  match xs, hlen, cs, hl with
  | [y0, y1, y2], _, [c0, c1, c2], _ =>
    have h0' : DataW.trod enc Try.prog w base spare held m 9 [c0] = some y0 := hf 0 _ rfl
    have h1' : DataW.trod enc Try.prog w base spare held m 3 [c1] = some y1 := hf 1 _ rfl
    have h2' : DataW.trod enc Try.prog w base spare held m 25 [c2] = some y2 := hf 2 _ rfl
    obtain ⟨a0, k0, _⟩ := DataW.trod_string Try.underlying9 h0'
    obtain ⟨a1, k1, _⟩ := DataW.trod_int Try.underlying3 h1'
    obtain ⟨l, ⟨A2, n2, k2, l2, g2⟩, _⟩ := opensN_slice Try.underlying25 (cells_term.trans rfl) (ih m (by omega)) H enc w base spare held m [c2] y2.1 y2.2 (by omega) h2'
    obtain rfl := List.head_eq_of_cons_eq k0
    obtain rfl := List.head_eq_of_cons_eq k1
    obtain rfl := List.head_eq_of_cons_eq k2
    exact ⟨⟨a0, a1, l⟩, k27_mk w ⟨a0, a1, l⟩ l2 g2, trivial⟩
set_option maxRecDepth 100000 in
theorem opensN_bind (n : Nat) : OpensN n k46 Try.prog 46 (fun _ _ => True) := by
  intro H enc w base spare held fuel cs d p hn h
  obtain ⟨xs, m, hm, hx, hl, hlen, hf⟩ := DataW.trod_struct Try.underlying46 h
  rw [cells_bind] at hl
  match xs, hlen, cs, hl with
  | [y0, y1], _, [c0, c1, c2, c3], _ =>
    have h0' : DataW.trod enc Try.prog w base spare held m 9 [c0] = some y0 := hf 0 _ rfl
    have h1' : DataW.trod enc Try.prog w base spare held m 27 [c1, c2, c3] = some y1 := hf 1 _ rfl
    obtain ⟨a0, k0, _⟩ := DataW.trod_string Try.underlying9 h0'
    obtain ⟨x, hK, _⟩ := opensN_term m H enc w base spare held m [c1, c2, c3] y1.1 y1.2 (Nat.le_refl _) h1'
    obtain ⟨A2, n2, k2, l2, g2⟩ := k27_open hK
    obtain rfl := List.head_eq_of_cons_eq k0
    rw [k2]
    exact ⟨⟨a0, x⟩, k46_mk w ⟨a0, x⟩ l2 g2, trivial⟩
theorem opensN_binds (n : Nat) : OpensN (n + 1) (Kd.slice 46 k46) Try.prog 34 (fun l b => l.length ≤ b) :=
  opensN_slice Try.underlying34 (cells_bind.trans rfl) (opensN_bind n)
theorem cells_all : Try.prog.cellsOf 36 = 8 := by kernel_rfl
set_option maxRecDepth 100000 in
theorem opens_all {H : Type} {enc : TypeId × Value → H} {w : World} {base : Nat} {spare : Nat → Bool} {held : Bool} {v : Value} {d : DataW H} {p : List MemPlace} (h : DataW.Trod enc Try.prog w base spare held 36 v d p) :
    ∃ (A0 : Option Addr) (c0 : Nat) (g : List S62) (L R : S27) (A1 : Option Addr) (c1 : Nat) (A2 : Option Addr) (c2 : Nat) (A3 : Option Addr) (c3 : Nat) (B : List S46),
      v.cells.toList = [.slice A0 g.length c0, .string L.f0, .int .i64 L.f1, .slice A1 L.f2.length c1, .string R.f0, .int .i64 R.f1, .slice A2 R.f2.length c2, .slice A3 B.length c3] ∧
      Kd.C k62 w A0 g.length g ∧ g.length ≤ c0 ∧ Kd.C k27 w A1 L.f2.length L.f2 ∧ L.f2.length ≤ c1 ∧ Kd.C k27 w A2 R.f2.length R.f2 ∧ R.f2.length ≤ c2 ∧ Kd.C k46 w A3 B.length B ∧ B.length ≤ c3 ∧ B.length ≤ Rows.uptoBulk d := by
  obtain ⟨fuel, h⟩ := h
  obtain ⟨xs, m, hm, hx, hl, hlen, hf⟩ := DataW.trod_struct Try.underlying36 h
  rw [cells_all] at hl
  generalize v.cells.toList = cs at hl hf ⊢
  match xs, hlen, cs, hl with
  | [y0, y1, y2, y3], _, [e0, e1, e2, e3, e4, e5, e6, e7], _ =>
    have h0' : DataW.trod enc Try.prog w base spare held m 23 [e0] = some y0 := hf 0 _ rfl
    have h1' : DataW.trod enc Try.prog w base spare held m 27 [e1, e2, e3] = some y1 := hf 1 _ rfl
    have h2' : DataW.trod enc Try.prog w base spare held m 27 [e4, e5, e6] = some y2 := hf 2 _ rfl
    have h3' : DataW.trod enc Try.prog w base spare held m 34 [e7] = some y3 := hf 3 _ rfl
    obtain ⟨g, ⟨A0, c0, k0, l0, g0⟩, _⟩ := opensN_sig m H enc w base spare held m [e0] y0.1 y0.2 (by omega) h0'
    obtain ⟨L, hL, _⟩ := opensN_term m H enc w base spare held m [e1, e2, e3] y1.1 y1.2 (by omega) h1'
    obtain ⟨R, hR, _⟩ := opensN_term m H enc w base spare held m [e4, e5, e6] y2.1 y2.2 (by omega) h2'
    obtain ⟨B, ⟨A3, c3, k3, l3, g3⟩, hB⟩ := opensN_binds m H enc w base spare held m [e7] y3.1 y3.2 (by omega) h3'
    obtain ⟨A1, c1, k1, l1, g1⟩ := k27_open hL
    obtain ⟨A2, c2, k2, l2, g2⟩ := k27_open hR
    obtain rfl := List.head_eq_of_cons_eq k0
    obtain rfl := List.head_eq_of_cons_eq k3
    simp only [List.cons.injEq, and_true] at k1 k2
    obtain ⟨rfl, rfl, rfl⟩ := k1
    obtain ⟨rfl, rfl, rfl⟩ := k2
    refine ⟨A0, c0, g, L, R, A1, c1, A2, c2, A3, c3, B, rfl, g0, l0, g1, l1, g2, l2, g3, l3, ?_⟩
    obtain ⟨rfl, _⟩ := Prod.mk.inj hx
    simp only [List.map_cons, List.map_nil, Rows.uptoBulk, Rows.uptoBulkAll]
    omega
end Go.Proofs.Ytpepjodkahdicaa.Rd
