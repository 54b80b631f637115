/-
  A symbol (api.Symbol) and a signature as they come in: what they read as. Conditions: none beyond each theorem's own hypotheses.
-/
import Derived.Test.YtpepjodkahdicaaOpen
import Derived.Test.YtpepjodkahdicaaPTxx0
namespace Go.Proofs.Ytpepjodkahdicaa.Rd
open Go.RowKit Go.Deep Go.Proofs.YtpepjodkahdicaaW.PrintWords Go.Proofs.Ytpepjodkahdicaa.PTx
/-- What is known of a symbol that came in. -/
def OkSym (x : S62) : Prop := x.f0.size ≤ 140737488351232 ∧ (Lit.int .i64 x.f1).wf = true ∧ (Lit.int .i64 x.f2).wf = true ∧ x.f3.size ≤ 140737488351232
theorem cells_sym : Try.prog.cellsOf 62 = 4 := by kernel_rfl
theorem bytes_sym : Try.prog.bytesOf 62 = 48 := by kernel_rfl
set_option maxRecDepth 100000 in
theorem opens_sym : Opens k62 Try.prog 62 OkSym := by
  intro n H enc w base spare held fuel cs d p _ h hz
  obtain ⟨y0, y1, y2, y3, m, hx, hl, h0, h1, h2, h3⟩ := Go.Joins.trod_struct4 Try.underlying62 h
  obtain ⟨rfl, _⟩ := Prod.mk.inj hx
  rw [cells_sym] at hl
  have hw : ∀ m ∈ DataW.weightsEach Try.prog [9, 60, 3, 9] [y0.1, y1.1, y2.1, y3.1], m ≤ reachBytes := by
    intro m hm
    refine hz m ?_
    unfold DataW.weights
    rw [Try.underlying62]
    exact hm
  match cs, hl with
  | [c0, c1, c2, c3], _ =>
    obtain ⟨a0, k0, v0⟩ := opens_string Try.underlying9 m H enc w base spare held m [c0] y0.1 y0.2 (Nat.le_refl _) h0 (fun q hq => hw q (DataW.weights_mem_each (j := 0) rfl rfl q hq))
    obtain ⟨a1, k1, v1⟩ := opens_int Try.underlying60 m H enc w base spare held m [c1] y1.1 y1.2 (Nat.le_refl _) h1 (fun q hq => hw q (DataW.weights_mem_each (j := 1) rfl rfl q hq))
    obtain ⟨a2, k2, v2⟩ := opens_int Try.underlying3 m H enc w base spare held m [c2] y2.1 y2.2 (Nat.le_refl _) h2 (fun q hq => hw q (DataW.weights_mem_each (j := 2) rfl rfl q hq))
    obtain ⟨a3, k3, v3⟩ := opens_string Try.underlying9 m H enc w base spare held m [c3] y3.1 y3.2 (Nat.le_refl _) h3 (fun q hq => hw q (DataW.weights_mem_each (j := 3) rfl rfl q hq))
    obtain rfl := List.head_eq_of_cons_eq k0
    obtain rfl := List.head_eq_of_cons_eq k1
    obtain rfl := List.head_eq_of_cons_eq k2
    obtain rfl := List.head_eq_of_cons_eq k3
    exact ⟨⟨a0, a1, a2, a3⟩, k62_mk w ⟨a0, a1, a2, a3⟩, v0, v1, v2, v3⟩
theorem opens_sig : Opens (Kd.slice 62 k62) Try.prog 23 (fun l => l.length * 48 ≤ 140737488351232 ∧ ∀ x ∈ l, OkSym x) := by
  have h := opens_slice (t := 23) Try.underlying23 (cells_sym.trans rfl) opens_sym
  rw [bytes_sym] at h
  exact h
end Go.Proofs.Ytpepjodkahdicaa.Rd
