/-
  A slice of texts and one of whole numbers as they come in: what they read as. Conditions: none beyond each theorem's own hypotheses.
-/
import Derived.Test.YthbpbbinpkfchaaOpen
namespace Go.Proofs.Ythbpbbinpkfchaa.Rd
open Go.RowKit Go.Deep Go.Proofs.YthbpbbinpkfchaaW.PrintWords
theorem cells_str : Try.prog.cellsOf 9 = 1 := by kernel_rfl
theorem bytes_str : Try.prog.bytesOf 9 = 16 := by kernel_rfl
theorem opens_strs : Opens (Kd.slice 9 Kd.string) Try.prog 22 (fun l => l.length * 16 ≤ 140737488351232 ∧ ∀ s ∈ l, s.size ≤ 140737488351232) := by
  have h := opens_slice (t := 22) Try.underlying22 (cells_str.trans rfl) (opens_string Try.underlying9)
  rw [bytes_str] at h
  exact h
theorem cells_int : Try.prog.cellsOf 3 = 1 := by kernel_rfl
theorem bytes_int : Try.prog.bytesOf 3 = 8 := by kernel_rfl
theorem opens_ints : Opens (Kd.slice 3 (Kd.int .i64)) Try.prog 41 (fun l => l.length * 8 ≤ 140737488351232 ∧ ∀ n ∈ l, (Lit.int .i64 n).wf = true) := by
  have h := opens_slice (t := 41) Try.underlying41 (cells_int.trans rfl) (opens_int Try.underlying3)
  rw [bytes_int] at h
  exact h
end Go.Proofs.Ythbpbbinpkfchaa.Rd
