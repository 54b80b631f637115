/-
  The document's Check of a term, plainly: what a term is that it lets in; the program's Check lets it in too. Conditions: each theorem's own.
-/
-- Written by programs of this session (wip/tools), cut to what the claim uses (wip/tools/prune.py).
import Derived.Test.YtpepjodkahdicaaRef01
import Derived.Test.YtpepjodkahdicaaEnd
import Derived.Test.YtpepjodkahdicaaPTbx10
import Derived.Test.YtpepjodkahdicaaPTbx8
namespace Go.Proofs.Ytpepjodkahdicaa.Sw
open Go.RowKit Go.Proofs.YtpepjodkahdicaaW.PrintWords Go.Proofs.Ytpepjodkahdicaa.PTb
mutual
/-- nodes -/
def cnt : S27 → Nat
  | ⟨_, _, l⟩ => 1 + cntL l
def cntL : List S27 → Nat
  | [] => 0
  | t :: l => cnt t + cntL l
end
theorem cnt_eq (t : Tr) : cnt t = 1 + cntL t.f2 := by
  cases t
  rw [cnt]
theorem cntL_drop (l : List Tr) (i : Nat) (h : i < l.length) : cntL (l.drop i) = cnt l[i] + cntL (l.drop (i + 1)) := by
  rw [List.drop_eq_getElem_cons h, cntL]
theorem cnt_pos (t : Tr) : 1 ≤ cnt t := by rw [cnt_eq]; omega
theorem cntL_len : ∀ l : List Tr, l.length ≤ cntL l
  | [] => by simp
  | t :: l => by
    have := cntL_len l
    have := cnt_pos t
    rw [cntL, List.length_cons]
    omega
theorem cntL_mem : ∀ (l : List Tr) (i : Nat) (h : i < l.length), cnt l[i] ≤ cntL l
  | t :: l, 0, _ => by rw [cntL]; exact Nat.le_add_right _ _
  | t :: l, i + 1, h => by
    have := cntL_mem l i (by simpa using h)
    rw [cntL, List.getElem_cons_succ]
    omega
theorem over_l0 (l : List Tr) (a : ByteArray) (b : Int) (hc : ∀ i (h : i < l.length), ∀ m : Nat, m ≤ 40 → ∃ K, ∀ k, K ≤ k → amalgamref03_over.f k (l[i]).f0 (l[i]).f1 (l[i]).f2 (m : Int) = some (if cnt l[i] ≤ m then ((m - cnt l[i] : Nat) : Int) else -1)) :
    ∀ (m : Nat), m ≤ 40 → ∀ i, i ≤ l.length → i + m ≤ 100 → ∃ K, ∀ k, K ≤ k → amalgamref03_over.l0 k (m : Int) (i : Int) a b l = some (if cntL (l.drop i) ≤ m then ((m - cntL (l.drop i) : Nat) : Int) else -1) := by
  intro m
  induction m using Nat.strongRecOn with
  | _ m ih =>
  intro hm i hi hb
  by_cases he : i < l.length
  · obtain ⟨K1, h1⟩ := hc i he m hm
    have hp := cnt_pos l[i]
    have hd := cntL_drop l i he
    by_cases hle : cnt l[i] ≤ m
    · obtain ⟨K2, h2⟩ := ih (m - cnt l[i]) (by omega) (by omega) (i + 1) (by omega) (by omega)
      refine ⟨K1 + K2 + 1, fun k hk => ?_⟩
      obtain ⟨k, rfl, hk⟩ := k_succ (show K1 + K2 < k by omega)
      rw [amalgamref03_over.l0, if_pos (by omega), if_pos (by omega), if_pos (by omega), rdT_at l i he, h1 k (by omega), Option.bind_some, if_pos hle, wrap_nat (n := 101) (show i < 101 by omega) (by omega), h2 k (by omega)]
      by_cases h3 : cntL (l.drop (i + 1)) ≤ m - cnt l[i]
      · rw [if_pos h3, if_pos (by omega)]
        congr 2
        omega
      · rw [if_neg h3, if_neg (by omega)]
    · refine ⟨K1 + 2, fun k hk => ?_⟩
      obtain ⟨k, rfl, hk⟩ := k_succ (show K1 + 1 < k by omega)
      rw [amalgamref03_over.l0, if_pos (by omega), if_pos (by omega), if_pos (by omega), rdT_at l i he, h1 k (by omega), Option.bind_some, if_neg hle, if_neg (show ¬ cntL (l.drop i) ≤ m by omega)]
      obtain ⟨k, rfl, hk⟩ := k_succ (show K1 < k by omega)
      rw [amalgamref03_over.l0]
      split
      · rw [if_neg (by omega)]
      · rfl
  · refine ⟨1, fun k hk => ?_⟩
    obtain ⟨k, rfl, hk⟩ := k_succ (show 0 < k by omega)
    rw [amalgamref03_over.l0, if_neg (by omega), List.drop_eq_nil_of_le (by omega), cntL, if_pos (by omega), Nat.sub_zero]
theorem over_f (t : Tr) : ∀ m : Nat, m ≤ 40 → ∃ K, ∀ k, K ≤ k → amalgamref03_over.f k t.f0 t.f1 t.f2 (m : Int) = some (if cnt t ≤ m then ((m - cnt t : Nat) : Int) else -1) :=
  tree_ind (fun t => ∀ m : Nat, m ≤ 40 → ∃ K, ∀ k, K ≤ k → amalgamref03_over.f k t.f0 t.f1 t.f2 (m : Int) = some (if cnt t ≤ m then ((m - cnt t : Nat) : Int) else -1)) (fun t ih m hm => by
    have hc := cnt_eq t
    cases m with
    | zero =>
      refine ⟨2, fun k hk => ?_⟩
      obtain ⟨k, rfl, hk⟩ := k_succ (show 1 < k by omega)
      obtain ⟨k, rfl, hk⟩ := k_succ (show 0 < k by omega)
      rw [amalgamref03_over.f, show wrap64 (((0 : Nat) : Int) - 1) = -1 by unfold wrap64; omega, amalgamref03_over.l0, if_neg (show ¬ cnt t ≤ 0 by omega)]
      split
      · rw [if_neg (by omega)]
      · rfl
    | succ m =>
      obtain ⟨K, h⟩ := over_l0 t.f2 t.f0 t.f1 ih m (by omega) 0 (by omega) (by omega)
      refine ⟨K + 1, fun k hk => ?_⟩
      obtain ⟨k, rfl, hk⟩ := k_succ (show K < k by omega)
      have hw : wrap64 (((m + 1 : Nat) : Int) - 1) = (m : Int) := by unfold wrap64; omega
      have h2 := h k (by omega)
      rw [show ((0 : Nat) : Int) = 0 from rfl] at h2
      rw [amalgamref03_over.f, hw, h2, List.drop_zero]
      by_cases h3 : cntL t.f2 ≤ m
      · rw [if_pos h3, if_pos (by omega)]
        congr 2
        omega
      · rw [if_neg h3, if_neg (by omega)]) t
/-- one node that may be -/
def NodeOk (g : List Sym) (t : Tr) : Prop := (bl t.f0 ≠ [] ∧ varB t.f0 = true ∧ t.f1 = 0 ∧ t.f2 = []) ∨
  (bl t.f0 = [] ∧ ∃ i : Nat, ∃ h : i < g.length, t.f1 = (i : Int) ∧ ((g[i].f1 = 1 ∧ (t.f2.length : Int) = g[i].f2) ∨ (g[i].f1 ≠ 1 ∧ 2 ≤ t.f2.length)))
inductive Good (g : List Sym) : Tr → Prop
  | mk (t : Tr) (h : NodeOk g t) (hs : ∀ i (hi : i < t.f2.length), Good g (t.f2[i])) : Good g t
theorem node_f (g : List Sym) (t : Tr) : ∃ c K, (∀ k, K ≤ k → amalgamref03_node.f k g t.f0 t.f1 t.f2 = some c) ∧ (c = 0 → NodeOk g t) := by
  by_cases h0 : t.f0.toList = ([] : List UInt8)
  · have hb : bl t.f0 = [] := by rw [← toList_bl]; exact h0
    by_cases h1 : t.f1 < 0
    · refine ⟨32, 1, fun k hk => ?_, fun h => absurd h (by decide)⟩
      obtain ⟨k, rfl, _⟩ := k_succ (show 0 < k by omega)
      unfold amalgamref03_node.f
      rw [if_pos h0, if_pos h1, amalgamref03_node.j0, if_pos rfl]
    · by_cases h2 : t.f1 ≥ (g.length : Int)
      · refine ⟨32, 1, fun k hk => ?_, fun h => absurd h (by decide)⟩
        obtain ⟨k, rfl, _⟩ := k_succ (show 0 < k by omega)
        unfold amalgamref03_node.f
        rw [if_pos h0, if_neg h1, decide_eq_true h2, amalgamref03_node.j0, if_pos rfl]
      · obtain ⟨i, hi⟩ : ∃ i : Nat, t.f1 = (i : Int) := ⟨t.f1.toNat, by omega⟩
        have hlt : i < g.length := by omega
        have hgo : ∀ k, 1 ≤ k → amalgamref03_node.f k g t.f0 t.f1 t.f2 = (if g[i].f1 = 1 then (if (t.f2.length : Int) = g[i].f2 then (some 0) else (some 33)) else (if (t.f2.length : Int) < 2 then (some 33) else (some 0))) := fun k hk => by
          obtain ⟨k, rfl, _⟩ := k_succ (show 0 < k by omega)
          unfold amalgamref03_node.f
          rw [if_pos h0, if_neg h1, decide_eq_false h2, amalgamref03_node.j0, if_neg (by simp), if_pos (by omega), if_pos (by omega), hi, rd_sym g i hlt]
        by_cases h3 : g[i].f1 = 1
        · by_cases h4 : (t.f2.length : Int) = g[i].f2
          · exact ⟨0, 1, fun k hk => by rw [hgo k hk, if_pos h3, if_pos h4], fun _ => .inr ⟨hb, i, hlt, hi, .inl ⟨h3, h4⟩⟩⟩
          · exact ⟨33, 1, fun k hk => by rw [hgo k hk, if_pos h3, if_neg h4], fun h => absurd h (by decide)⟩
        · by_cases h4 : (t.f2.length : Int) < 2
          · exact ⟨33, 1, fun k hk => by rw [hgo k hk, if_neg h3, if_pos h4], fun h => absurd h (by decide)⟩
          · exact ⟨0, 1, fun k hk => by rw [hgo k hk, if_neg h3, if_neg h4], fun _ => .inr ⟨hb, i, hlt, hi, .inr ⟨h3, by omega⟩⟩⟩
  · have hb : bl t.f0 ≠ [] := by rw [← toList_bl]; exact h0
    have hgo : ∀ k, t.f0.size + 3 ≤ k → amalgamref03_node.f k g t.f0 t.f1 t.f2 = (if varB t.f0 = true then (if t.f1 = 0 then (if (t.f2.length : Int) > 0 then (some 31) else (some 0)) else (some 31)) else (some 31)) := fun k hk => by
      unfold amalgamref03_node.f
      rw [if_neg h0, r_var _ k (by omega), Option.bind_some]
    by_cases h1 : varB t.f0 = true
    · by_cases h2 : t.f1 = 0
      · by_cases h3 : (t.f2.length : Int) > 0
        · exact ⟨31, _, fun k hk => by rw [hgo k hk, if_pos h1, if_pos h2, if_pos h3], fun h => absurd h (by decide)⟩
        · exact ⟨0, _, fun k hk => by rw [hgo k hk, if_pos h1, if_pos h2, if_neg h3], fun _ => .inl ⟨hb, h1, h2, List.length_eq_zero_iff.1 (by omega)⟩⟩
      · exact ⟨31, _, fun k hk => by rw [hgo k hk, if_pos h1, if_neg h2], fun h => absurd h (by decide)⟩
    · exact ⟨31, _, fun k hk => by rw [hgo k hk, if_neg h1], fun h => absurd h (by decide)⟩
theorem wrong_ok (g : List Sym) (t : Tr) (h : NodeOk g t) (k : Nat) (hk : 5 ≤ k) : terms_wrong.f k g t.f0 t.f1 t.f2 = some 0 := by
  obtain ⟨k, rfl, hk⟩ := k_succ (show 4 < k by omega)
  unfold terms_wrong.f
  rcases h with ⟨hb, hv, h1, h2⟩ | ⟨hb, i, hi, h1, h2⟩
  · have h0 : ¬ t.f0.toList = ([] : List UInt8) := by rw [toList_bl]; exact hb
    rw [if_neg h0]
    unfold sig_Var.f
    rw [Option.bind_some, if_pos hv, if_pos h1, decide_eq_false (by rw [h2]; simp), terms_wrong.j0, if_neg (by simp), if_neg h0]
  · have h0 : t.f0.toList = ([] : List UInt8) := by rw [toList_bl]; exact hb
    obtain ⟨k, rfl, hk⟩ := k_succ (show 3 < k by omega)
    obtain ⟨k, rfl, hk⟩ := k_succ (show 2 < k by omega)
    rw [if_pos h0, terms_wrong.j0, if_neg (by simp), if_pos h0, if_neg (show ¬ t.f1 < 0 by omega), decide_eq_false (show ¬ t.f1 ≥ (g.length : Int) by omega), terms_wrong.j1, if_neg (by simp), if_pos (by omega), if_pos (by omega), h1, rd_sym g i hi]
    rcases h2 with ⟨h3, h4⟩ | ⟨h3, h4⟩
    · rw [if_pos h3, h4, terms_wrong.j2, if_neg (by simp), if_pos (by omega), if_pos (by omega), rd_sym g i hi, if_pos h3]
    · rw [if_neg h3, terms_wrong.j2, if_neg (by simp), if_pos (by omega), if_pos (by omega), rd_sym g i hi, if_neg h3, if_neg (by omega)]
theorem nodes_l0 (g : List Sym) (l : List Tr) (hl : l.length ≤ 40) (a : ByteArray) (b : Int) (hc : ∀ i (h : i < l.length), ∃ c K, (∀ k, K ≤ k → amalgamref03_nodes.f k g (l[i]).f0 (l[i]).f1 (l[i]).f2 = some c) ∧ (c = 0 → Good g l[i])) :
    ∀ (d i : Nat), i + d = l.length → ∀ e : Int, ∃ c K, (∀ k, K ≤ k → amalgamref03_nodes.l0 k g e (i : Int) a b l = some c) ∧ (c = 0 → e = 0 ∧ ∀ j (h : j < l.length), i ≤ j → Good g l[j]) := by
  intro d
  induction d with
  | zero =>
    intro i hi e
    refine ⟨e, 1, fun k hk => ?_, fun h => ⟨h, fun j h1 h2 => by omega⟩⟩
    obtain ⟨k, rfl, _⟩ := k_succ (show 0 < k by omega)
    rw [amalgamref03_nodes.l0, if_neg (by omega)]
  | succ d ih =>
    intro i hi e
    have hlt : i < l.length := by omega
    by_cases he : e = 0
    · obtain ⟨c1, K1, h1, h2⟩ := hc i hlt
      obtain ⟨c, K, h3, h4⟩ := ih (i + 1) (by omega) c1
      refine ⟨c, K1 + K + 1, fun k hk => ?_, fun h => ⟨he, fun j hj hij => ?_⟩⟩
      · obtain ⟨k, rfl, _⟩ := k_succ (show K1 + K < k by omega)
        rw [amalgamref03_nodes.l0, if_pos (by omega), if_pos he, if_pos (by omega), rdT_at l i hlt, h1 k (by omega), Option.bind_some, wrap_nat hlt (by omega), h3 k (by omega)]
      · obtain ⟨h5, h6⟩ := h4 h
        rcases Nat.eq_or_lt_of_le hij with rfl | h7
        · exact h2 h5
        · exact h6 j hj h7
    · refine ⟨e, 1, fun k hk => ?_, fun h => absurd h he⟩
      obtain ⟨k, rfl, _⟩ := k_succ (show 0 < k by omega)
      rw [amalgamref03_nodes.l0, if_pos (by omega), if_neg he]
theorem nodes_f (g : List Sym) (t : Tr) : cnt t ≤ 40 → ∃ c K, (∀ k, K ≤ k → amalgamref03_nodes.f k g t.f0 t.f1 t.f2 = some c) ∧ (c = 0 → Good g t) :=
  tree_ind (fun t => cnt t ≤ 40 → ∃ c K, (∀ k, K ≤ k → amalgamref03_nodes.f k g t.f0 t.f1 t.f2 = some c) ∧ (c = 0 → Good g t)) (fun t ih ht => by
    have hc := cnt_eq t
    have hlen := cntL_len t.f2
    obtain ⟨c1, K1, h1, h2⟩ := node_f g t
    obtain ⟨c, K, h3, h4⟩ := nodes_l0 g t.f2 (by omega) t.f0 t.f1 (fun i hi => ih i hi (by have := cntL_mem t.f2 i hi; omega)) t.f2.length 0 (by omega) c1
    refine ⟨c, K1 + K + 1, fun k hk => ?_, fun h => ?_⟩
    · obtain ⟨k, rfl, _⟩ := k_succ (show K1 + K < k by omega)
      have h5 := h3 k (by omega)
      rw [show ((0 : Nat) : Int) = 0 from rfl] at h5
      rw [amalgamref03_nodes.f, h1 k (by omega), Option.bind_some, h5]
    · obtain ⟨h5, h6⟩ := h4 h
      exact .mk t (h2 h5) (fun i hi => h6 i hi (by omega))) t
theorem check03 (g : List Sym) (t : Tr) : ∃ c K, (∀ k, K ≤ k → amalgamref03_Check.f k g t.f0 t.f1 t.f2 = some c) ∧ (c = 0 → Good g t ∧ cnt t ≤ 40) := by
  obtain ⟨K1, h1⟩ := over_f t 40 (by omega)
  by_cases hc : cnt t ≤ 40
  · obtain ⟨c, K2, h2, h3⟩ := nodes_f g t hc
    refine ⟨c, K1 + K2, fun k hk => ?_, fun h => ⟨h3 h, hc⟩⟩
    have h4 := h1 k (by omega)
    rw [show ((40 : Nat) : Int) = 40 from rfl, if_pos hc] at h4
    unfold amalgamref03_Check.f amalgamref03_Over.f
    rw [h4, Option.bind_some, Option.bind_some, decide_eq_false (by omega), if_neg (by simp), h2 k (by omega), Option.bind_some]
  · refine ⟨34, K1, fun k hk => ?_, fun h => absurd h (by decide)⟩
    have h4 := h1 k (by omega)
    rw [show ((40 : Nat) : Int) = 40 from rfl, if_neg hc] at h4
    unfold amalgamref03_Check.f amalgamref03_Over.f
    rw [h4, Option.bind_some, Option.bind_some, decide_eq_true (by decide), if_pos rfl]
theorem ckA_good (g : List Sym) (l : List Tr) (hc : ∀ i (h : i < l.length), ∀ n : Nat, n + cnt l[i] ≤ 40 → ∃ K, ∀ k, K ≤ k → ckTerm k g l[i] (n : Int) 0 = some (true, ((n + cnt l[i] : Nat) : Int), 0)) :
    ∀ (d i : Nat), i + d = l.length → ∀ n : Nat, n + cntL (l.drop i) ≤ 40 → ∃ K, ∀ k, K ≤ k → ckArgs k g l i (n : Int) 0 = some (true, ((n + cntL (l.drop i) : Nat) : Int), 0) := by
  intro d
  induction d with
  | zero =>
    intro i hi n hn
    refine ⟨1, fun k hk => ?_⟩
    obtain ⟨k, rfl, _⟩ := k_succ (show 0 < k by omega)
    rw [ckArgs, if_neg (by omega), List.drop_eq_nil_of_le (by omega), cntL, Nat.add_zero]
  | succ d ih =>
    intro i hi n hn
    have hlt : i < l.length := by omega
    have hd := cntL_drop l i hlt
    obtain ⟨K1, h1⟩ := hc i hlt n (by omega)
    obtain ⟨K2, h2⟩ := ih (i + 1) (by omega) (n + cnt l[i]) (by omega)
    refine ⟨K1 + K2 + 1, fun k hk => ?_⟩
    obtain ⟨k, rfl, _⟩ := k_succ (show K1 + K2 < k by omega)
    rw [ckArgs, if_pos hlt, rdT_at l i hlt, h1 k (by omega), Option.bind_some, if_pos rfl, h2 k (by omega), hd, Nat.add_assoc]
theorem ck_good (g : List Sym) (t : Tr) : Good g t → ∀ n : Nat, n + cnt t ≤ 40 → ∃ K, ∀ k, K ≤ k → ckTerm k g t (n : Int) 0 = some (true, ((n + cnt t : Nat) : Int), 0) :=
  tree_ind (fun t => Good g t → ∀ n : Nat, n + cnt t ≤ 40 → ∃ K, ∀ k, K ≤ k → ckTerm k g t (n : Int) 0 = some (true, ((n + cnt t : Nat) : Int), 0)) (fun t ih hg n hn => by
    have hc := cnt_eq t
    obtain ⟨_, h, hs⟩ := hg
    obtain ⟨K, h1⟩ := ckA_good g t.f2 (fun i hi => ih i hi (hs i hi)) t.f2.length 0 (by omega) (n + 1) (by rw [List.drop_zero]; omega)
    refine ⟨K + 6, fun k hk => ?_⟩
    obtain ⟨k, rfl, _⟩ := k_succ (show K + 5 < k by omega)
    have h2 := h1 k (by omega)
    rw [List.drop_zero] at h2
    rw [ckTerm, if_pos rfl, wrong_ok g t h k (by omega), Option.bind_some, if_pos (by omega), show ((n : Int) + 1) = ((n + 1 : Nat) : Int) by omega, h2, hc, Nat.add_assoc]) t
theorem ckV_good (g : List Sym) (t : Tr) (hg : Good g t) (hc : cnt t ≤ 40) : ckV g t = 0 := by
  obtain ⟨K1, h1⟩ := ckV_spec g t
  obtain ⟨K2, h2⟩ := ck_good g t hg 0 (by omega)
  have h3 := h1 (K1 + K2) (by omega)
  have h4 := h2 (K1 + K2) (by omega)
  rw [show ((0 : Nat) : Int) = 0 from rfl] at h4
  unfold terms_Check.f at h3
  rw [h4, Option.bind_some] at h3
  dsimp only at h3
  rw [if_neg (by omega)] at h3
  exact (Option.some.inj h3).symm
end Go.Proofs.Ytpepjodkahdicaa.Sw
