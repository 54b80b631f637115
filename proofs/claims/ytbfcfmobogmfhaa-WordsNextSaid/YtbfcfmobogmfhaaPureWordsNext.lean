/-
  The plain law of WordsNext. Conditions: as stated.
-/
import Derived.Test.YtbfcfmobogmfhaaSpecLex
import Derived.Test.YtbfcfmobogmfhaaPWdx5
namespace Go.Proofs.Ytbfcfmobogmfhaa.Pure
open Go.RowKit Go.Proofs.Ytbfcfmobogmfhaa.PWd Go.Proofs.YtbfcfmobogmfhaaW.PrintWords Go.Proofs.YtbfcfmobogmfhaaW.PrintLast Go.Proofs.Ytbfcfmobogmfhaa.Sw
theorem next_l0 (s : ByteArray) (hs : s.size ≤ 140737488351232) (l : List Int) (hm : l.length * 8 ≤ 140737488351232) : ∀ (d i k : Nat), i + d = l.length → d + (2 * (bl s).length + 6) < k → amalgamlaw02_WordsNext.l0 k s l true i = some true := by
  have hm2 : l.length ≤ 4611686018427387904 := by omega
  intro d
  induction d with
  | zero =>
    intro i k hi hk
    obtain ⟨k, rfl, _⟩ := k_succ hk
    simp only [amalgamlaw02_WordsNext.l0]
    rw [if_neg (by omega)]
  | succ d ih =>
    intro i k hi hk
    obtain ⟨k, rfl, _⟩ := k_succ hk
    simp only [amalgamlaw02_WordsNext.l0]
    rw [if_pos (by omega), if_pos (by omega), next_f s hs _ k (by omega), rnext_f s hs _ k (by omega), wrap_nat (show i < l.length by omega) hm2, ih (i + 1) k (by omega) (by omega)]
    simp
theorem WordsNext : amalgamlaw02_WordsNext.Pure := by
  intro s l hs _ hm _
  refine ⟨l.length + (2 * (bl s).length + 50), ?_⟩
  unfold amalgamlaw02_WordsNext.f
  rw [head_true _ (by omega), Option.bind_some]
  exact next_l0 s hs l hm l.length 0 _ (by omega) (by omega)
end Go.Proofs.Ytbfcfmobogmfhaa.Pure
