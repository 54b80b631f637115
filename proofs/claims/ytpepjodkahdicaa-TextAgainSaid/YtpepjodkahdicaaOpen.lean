/-
  What an argument reads as, kind by kind: a type's reading gives the printed words' relation 'Kd'. Conditions: none beyond each theorem's own hypotheses.
-/
import Derived.Test.YtpepjodkahdicaaProg
import Derived.Test.YtpepjodkahdicaaWWords
import Derived.Deep.Slices
import Derived.ChangeArms
import Derived.Lib.SmallJoins
import Derived.SizedLaws
namespace Go.Proofs.Ytpepjodkahdicaa.Rd
open Go.RowKit Go.Deep Go.Proofs.YtpepjodkahdicaaW.PrintWords

/-- Whatever reads as a datum of type t (by n steps at most) whose parts weigh no more than may be, reads as a value of the kind. -/
def OpensF {α : Type} (n : Nat) (K : Kd α) (P : Program) (t : TypeId) (V : α → Prop) : Prop :=
  ∀ (H : Type) (enc : TypeId × Value → H) (w : World) (base : Nat) (spare : Nat → Bool) (held : Bool) (fuel : Nat) (cs : List Value) (d : DataW H) (p : List MemPlace), fuel ≤ n →
    DataW.trod enc P w base spare held fuel t cs = some (d, p) → (∀ m ∈ d.weights P t, m ≤ reachBytes) → ∃ a : α, K.K w a cs ∧ V a
def Opens {α : Type} (K : Kd α) (P : Program) (t : TypeId) (V : α → Prop) : Prop := ∀ n, OpensF n K P t V

theorem opens_int {P : Program} {t : TypeId} {k : IntKind} (ht : P.underlying t = some (.int k)) : Opens (Kd.int k) P t (fun n => (Lit.int k n).wf = true) := by
  intro n H enc w base spare held fuel cs d p _ h _
  obtain ⟨m, rfl, _, hw⟩ := DataW.trod_int ht h
  exact ⟨m, rfl, hw⟩
theorem opens_bool {P : Program} {t : TypeId} (ht : P.underlying t = some .bool) : Opens Kd.bool P t (fun _ => True) := by
  intro n H enc w base spare held fuel cs d p _ h _
  obtain ⟨m, rfl, _⟩ := DataW.trod_bool ht h
  exact ⟨m, rfl, trivial⟩
theorem opens_string {P : Program} {t : TypeId} (ht : P.underlying t = some .string) : Opens Kd.string P t (fun s => s.size ≤ 140737488351232) := by
  intro n H enc w base spare held fuel cs d p _ h hz
  obtain ⟨s, rfl, hx, _⟩ := DataW.trod_string ht h
  obtain ⟨rfl, rfl⟩ := Prod.mk.inj hx
  refine ⟨s, rfl, ?_⟩
  have := hz s.data.toList.length (by simp [DataW.weights])
  rw [Array.length_toList] at this
  exact this

theorem weightsAll_mem {H : Type} {P : Program} {e : TypeId} {l : List (DataW H)} {d : DataW H} (h : d ∈ l) {m : Nat} (hm : m ∈ d.weights P e) : m ∈ DataW.weightsAll P e l := by
  induction l with
  | nil => cases h
  | cons x r ih =>
    simp only [DataW.weightsAll, List.mem_append]
    rcases List.mem_cons.1 h with rfl | h
    · exact .inl hm
    · exact .inr (ih h)

theorem list_of {α : Type} {n : Nat} {q : Nat → α → Prop} (h : ∀ i, i < n → ∃ a, q i a) : ∃ l : List α, l.length = n ∧ ∀ j a, l[j]? = some a → q j a := by
  induction n with
  | zero => exact ⟨[], rfl, fun j a h => by simp at h⟩
  | succ n ih =>
    obtain ⟨l, hl, hq⟩ := ih (fun i hi => h i (by omega))
    obtain ⟨a, ha⟩ := h n (by omega)
    refine ⟨l ++ [a], by simp [hl], fun j b hb => ?_⟩
    by_cases hj : j < n
    · rw [List.getElem?_append_left (by omega)] at hb
      exact hq j b hb
    · rw [List.getElem?_append_right (by omega)] at hb
      have : j = n := by
        rcases Nat.lt_or_ge (j - l.length) 1 with h | h
        · omega
        · rw [List.getElem?_eq_none (by simpa using h)] at hb
          cases hb
      subst this
      simp [hl] at hb
      subst hb
      exact ha

theorem opensF_slice {α : Type} {K : Kd α} {P : Program} {t e : TypeId} {V : α → Prop} {n : Nat} (ht : P.underlying t = some (.slice e)) (hc : P.cellsOf e = K.sz) (he : OpensF n K P e V) :
    OpensF (n + 1) (Kd.slice e K) P t (fun l => l.length * P.bytesOf e ≤ 140737488351232 ∧ ∀ x ∈ l, V x) := by
  intro H enc w base spare held fuel cs d p hn h hz
  rcases DataW.trod_slice ht h with ⟨rfl, _⟩ | ⟨a, len, cap, elems, rest, n', rfl, rfl, hx, hb, hl, hm, hlen, hel, _, _⟩
  · exact ⟨[], ⟨none, 0, rfl, Nat.le_refl _, rfl, by simp, fun h => by simp at h⟩, by simp, fun x hx => by cases hx⟩
  · obtain ⟨rfl, _⟩ := Prod.mk.inj hx
    have hw : ∀ m, m ∈ (elems.length + rest.length) * P.bytesOf e :: (DataW.weightsAll P e (elems.map (·.1)) ++ DataW.weightsAll P e (rest.map (·.1))) → m ≤ reachBytes := by
      intro m hmem
      refine hz m ?_
      unfold DataW.weights
      rw [ht]
      simpa using hmem
    have hE : ∀ i, i < len → ∃ x : α, V x ∧ ∃ c, c.length = K.sz ∧ K.K w x c ∧ ∀ j u, c[j]? = some u → w.cell? (a.add (i * K.sz + j)) = some u := by
      intro i hi
      have h1 := hel i hi
      rw [List.getElem?_eq_getElem (by omega)] at h1
      obtain ⟨c, hc1, hc2⟩ := Option.bind_eq_some_iff.1 h1
      obtain ⟨x, hK, hV⟩ := he H enc w base spare held n' c _ _ (by omega) hc2 (fun m hm' => hw m (by
        refine List.mem_cons_of_mem _ (List.mem_append_left _ (weightsAll_mem (d := (elems[i]'(by omega)).1) ?_ hm'))
        exact List.mem_map.2 ⟨_, List.getElem_mem _, rfl⟩))
      refine ⟨x, hV, c, K.K_len hK, hK, fun j u hj => ?_⟩
      obtain ⟨_, hl2, hcells⟩ := World.cells?_some hc1
      have hj2 : j < P.cellsOf e := by
        rcases Nat.lt_or_ge j c.length with h | h
        · omega
        · rw [List.getElem?_eq_none h] at hj
          cases hj
      have h3 := hcells j hj2
      rw [hj] at h3
      rw [hc] at h3
      rw [← h3, Go.Deep.add_add]
    obtain ⟨l, hll, hq⟩ := list_of hE
    refine ⟨l, ⟨some a, cap, by rw [hll], by omega, ⟨rfl, ?_, fun _ => ⟨a, rfl, fun j x hx => ?_⟩⟩⟩, ?_, fun x hx => ?_⟩
    · unfold maxLen at hm; omega
    · obtain ⟨_, c, h1, h2, h3⟩ := hq j x hx
      exact ⟨c, h1, h2, h3⟩
    · have h4 := hw _ (List.mem_cons_self)
      have h5 : l.length * P.bytesOf e ≤ (elems.length + rest.length) * P.bytesOf e := Nat.mul_le_mul_right _ (by omega)
      exact Nat.le_trans h5 h4
    · obtain ⟨j, hj, hjx⟩ := List.getElem_of_mem hx
      exact (hq j x (by rw [List.getElem?_eq_getElem hj, hjx])).1
theorem opens_slice {α : Type} {K : Kd α} {P : Program} {t e : TypeId} {V : α → Prop} (ht : P.underlying t = some (.slice e)) (hc : P.cellsOf e = K.sz) (he : Opens K P e V) :
    Opens (Kd.slice e K) P t (fun l => l.length * P.bytesOf e ≤ 140737488351232 ∧ ∀ x ∈ l, V x) := by
  intro n H enc w base spare held fuel cs d p hn h hz
  exact opensF_slice ht hc (he n) H enc w base spare held fuel cs d p (by omega) h hz

/-- One argument of a row: what it reads as. -/
theorem opens_arg {α : Type} {K : Kd α} {P : Program} {t : TypeId} {V : α → Prop} (h : Opens K P t V) {H : Type} {enc : TypeId × Value → H} {w : World} {base : Nat} {spare : Nat → Bool} {held : Bool} {v : Value} {d : DataW H} {ps : List MemPlace}
    (hr : DataW.Trod enc P w base spare held t v d ps) (hz : ∀ m ∈ d.weights P t, m ≤ reachBytes) : ∃ a : α, K.K w a v.cells.toList ∧ V a := by
  obtain ⟨fuel, hf⟩ := hr
  exact h fuel H enc w base spare held fuel _ d ps (Nat.le_refl _) hf hz
/-- A row's weights, argument by argument. -/
theorem weights_cons {H : Type} {P : Program} {t : TypeId} {ts : List TypeId} {d : DataW H} {ds : List (DataW H)} (h : (DataW.weightsEach P (t :: ts) (d :: ds)).all (· ≤ reachBytes) = true) :
    (∀ m ∈ d.weights P t, m ≤ reachBytes) ∧ (DataW.weightsEach P ts ds).all (· ≤ reachBytes) = true := by
  unfold DataW.weightsEach at h
  rw [List.all_append, Bool.and_eq_true] at h
  exact ⟨fun m hm => by simpa using List.all_eq_true.1 h.1 m hm, h.2⟩
theorem slice_value {α : Type} {e : Nat} {K : Kd α} {w : World} {l : List α} {v : Value} (h : (Kd.slice e K).K w l v.cells.toList) (hs : ∃ a n c, v = .slice a n c) :
    ∃ A c, v = .slice A l.length c ∧ l.length ≤ c ∧ Kd.C K w A l.length l := by
  obtain ⟨a, n, c, rfl⟩ := hs
  obtain ⟨A, c', h1, h2, h3⟩ := h
  simp [Value.cells] at h1
  obtain ⟨rfl, rfl, rfl⟩ := h1
  exact ⟨_, _, rfl, h2, h3⟩
end Go.Proofs.Ytpepjodkahdicaa.Rd
