/-
  Texts, plainly: what Show, Exact and Check answer of a term that has words. Conditions: each theorem's own.
-/
-- Written by programs of this session (wip/tools), cut to what the claim uses (wip/tools/prune.py).
import Derived.Test.YtpepjodkahdicaaShow
import Derived.Test.YtpepjodkahdicaaPTbx3
import Derived.Test.YtpepjodkahdicaaPTbx5
import Derived.Test.YtpepjodkahdicaaPTbx18
namespace Go.Proofs.Ytpepjodkahdicaa.Sw
open Go.RowKit Go.Proofs.YtpepjodkahdicaaW.PrintWords Go.Proofs.Ytpepjodkahdicaa.PTb
theorem join_more (x y : List UInt8) (r : List (List UInt8)) (sep : List UInt8) : Lib.join (x :: y :: r) sep = x ++ sep ++ Lib.join (y :: r) sep := by
  simp [Lib.join, List.intercalate, List.intersperse]
theorem ne_toList {s : ByteArray} (h : bl s ≠ []) : ¬ s.toList = ([] : List UInt8) := by rw [toList_bl]; exact h
theorem emp_toList : (⟨#[]⟩ : ByteArray).toList = ([] : List UInt8) := by rw [toList_bl]
theorem shA_ne (g : List S62) {n : Nat} {l : List Tr} {ts : List Tk} (h : ShA g n l ts) : l ≠ [] ∧ l.length ≤ ts.length ∧ 1 ≤ (flat ts).length := by
  induction n generalizing l ts with
  | zero => simp [ShA] at h
  | succ n ih =>
    rw [ShA] at h
    obtain ⟨t, ts1, _, h2⟩ := h
    rcases h2 with ⟨rfl, rfl⟩ | ⟨l', ts2, hA, rfl, rfl⟩
    · rw [flat_app]; simp [flat, b41]
    · have := ih hA
      rw [flat_app, flat_cons, b44]
      simp only [List.length_append, List.length_cons]
      refine ⟨by simp, by omega, by omega⟩
theorem show_l0 (g : List S62) (l : List Tr) (hl : l.length ≤ 1000000) (v : ByteArray) (i0 : Int) (m : List Tr) (K : Nat) (strs : List ByteArray) (hs : strs.length = l.length) (hK : ∀ i (h : i < l.length), ∀ k, K ≤ k → text_Show.f k g (l[i]).f0 (l[i]).f1 (l[i]).f2 = some (strs[i]'(by omega))) :
    ∀ (d i k : Nat), i + d = l.length → K + d < k → text_Show.l0 k g (strs.take i) l (l.length : Int) (i : Int) v i0 m = text_Show.l0 (k - d) g strs l (l.length : Int) (l.length : Int) v i0 m := by
  intro d
  induction d with
  | zero =>
    intro i k hi hk
    have : i = l.length := by omega
    subst this
    rw [List.take_of_length_le (by omega), Nat.sub_zero]
  | succ d ih =>
    intro i k hi hk
    obtain ⟨k, rfl, _⟩ := k_succ hk
    have hlt : i < l.length := by omega
    conv => lhs; rw [text_Show.l0]
    rw [if_pos (by omega), if_pos (by omega), if_pos (by omega), rdT_at l i hlt, hK i hlt k (by omega), Option.bind_some]
    rw [if_pos (by rw [List.length_take]; omega), wrap_nat (n := l.length) (by omega) (by omega)]
    have : strs.take i ++ [strs[i]'(by omega)] = strs.take (i + 1) := by rw [List.take_succ_eq_append_getElem (by omega)]
    rw [this, ih (i + 1) k (by omega) (by omega)]
    congr 1
    omega
theorem app_size (a b : ByteArray) : (a ++ b).size = a.size + b.size := ByteArray.size_append
theorem bl_app (a b : ByteArray) : bl (a ++ b) = bl a ++ bl b := by simp [bl, ByteArray.data_append]
theorem bl_size (a : ByteArray) : a.size = (bl a).length := (bl_len a).symm
theorem mk_size (l : List UInt8) : (⟨l.toArray⟩ : ByteArray).size = l.length := by show l.toArray.size = _; simp
theorem sz40 : (⟨#[40]⟩ : ByteArray).size = 1 := rfl
theorem sz44 : (⟨#[44]⟩ : ByteArray).data.toList = [44] := rfl
theorem show_sh (g : List S62) : ∀ n, (∀ t ts, Sh g n t ts → (flat ts).length ≤ 1000000 → ts.length ≤ 1000000 → ∃ K, ∀ k, K ≤ k → text_Show.f k g t.f0 t.f1 t.f2 = some ⟨(flat ts).toArray⟩) ∧
    (∀ l ts, ShA g n l ts → (flat ts).length ≤ 1000000 → ts.length ≤ 1000000 → ∃ K, ∃ strs : List ByteArray, ∃ hs : strs.length = l.length, (∀ i (h : i < l.length), ∀ k, K ≤ k → text_Show.f k g (l[i]).f0 (l[i]).f1 (l[i]).f2 = some (strs[i]'(by omega))) ∧ Lib.join (strs.map (·.data.toList)) [44] ++ [41] = flat ts) := by
  intro n
  induction n with
  | zero => exact ⟨fun t ts h => by simp [Sh] at h, fun l ts h => by simp [ShA] at h⟩
  | succ n ih =>
    constructor
    · intro t ts h hfl htl
      rw [Sh] at h
      rcases h with ⟨tx, hv, rfl, rfl⟩ | ⟨i, tx, hv, hf, rfl, rfl⟩ | ⟨i, tx, l, ts', hv, hf, rfl, rfl, hA⟩
      · refine ⟨1, fun k hk => ?_⟩
        obtain ⟨k, rfl, _⟩ := k_succ (show 0 < k by omega)
        rw [text_Show.f]
        rw [if_neg (ne_toList (VV_ne hv).1)]
        simp [flat]
      · obtain ⟨m, hm, rfl, hname⟩ := fnd_some hf
        refine ⟨3, fun k hk => ?_⟩
        obtain ⟨k, rfl, hk⟩ := k_succ (show 2 < k by omega)
        obtain ⟨k, rfl, hk⟩ := k_succ (show 1 < k by omega)
        obtain ⟨k, rfl, hk⟩ := k_succ (show 0 < k by omega)
        rw [text_Show.f]
        dsimp only
        rw [if_pos emp_toList, if_neg (by omega)]
        rw [text_Show.j0]
        rw [if_neg (by simp; omega)]
        rw [text_Show.l0]
        simp only [List.length_nil]
        rw [if_neg (by omega), if_pos (by simp), if_pos (by omega), if_pos (by omega), rdS_at g m hm, hname]
        simp [flat]
      · obtain ⟨m, hm, rfl, hname⟩ := fnd_some hf
        have hne := shA_ne g hA
        rw [flat_cons, flat_cons, b40] at hfl
        simp only [List.length_append, List.length_cons, List.length_nil] at hfl htl
        obtain ⟨K, strs, hs, hK, hj⟩ := ih.2 l ts' hA (by omega) (by omega)
        have hjl : (Lib.join (strs.map (·.data.toList)) [44]).length + 1 = (flat ts').length := by rw [← hj]; simp
        refine ⟨K + l.length + 4, fun k hk => ?_⟩
        obtain ⟨k, rfl, hk⟩ := k_succ (show K + l.length + 3 < k by omega)
        obtain ⟨k, rfl, hk⟩ := k_succ (show K + l.length + 2 < k by omega)
        rw [text_Show.f]
        dsimp only
        rw [if_pos emp_toList, if_neg (by omega)]
        rw [text_Show.j0]
        rw [if_neg (by simp; omega)]
        have hl0 := show_l0 g l (by omega) ⟨#[]⟩ (m : Int) l K strs hs hK l.length 0 k (by omega) (by omega)
        rw [List.take_zero, show ((0 : Nat) : Int) = 0 from rfl] at hl0
        rw [hl0]
        obtain ⟨k2, hk2, _⟩ := k_succ (show K < k - l.length by omega)
        rw [hk2]
        rw [text_Show.l0]
        rw [if_neg (by omega), if_neg (by rw [hs]; have := List.length_pos_iff.mpr hne.1; omega), if_pos (by omega), if_pos (by omega), rdS_at g m hm, hname]
        have hjoin : strings_Join.f strs (⟨#[44]⟩ : ByteArray) = some ⟨(Lib.join (strs.map (·.data.toList)) [44]).toArray⟩ := by
          unfold strings_Join.f
          rw [sz44, if_pos (by omega), if_pos (by omega)]
        have hb := bl_size tx
        have hjs : (⟨(Lib.join (strs.map (·.data.toList)) [44]).toArray⟩ : ByteArray).size = (Lib.join (strs.map (·.data.toList)) [44]).length := mk_size _
        rw [if_pos (by omega), hjoin, Option.bind_some, if_pos (by rw [app_size, sz40, hjs]; omega), if_pos (by rw [app_size, app_size, sz40, hjs]; omega)]
        congr 1
        apply bl_ext
        rw [bl_app, bl_app, bl_app, b40, b41]
        show bl tx ++ [40] ++ Lib.join (strs.map (·.data.toList)) [44] ++ [41] = flat ((1, tx) :: (3, ⟨#[40]⟩) :: ts')
        rw [flat_cons, flat_cons, b40, ← hj]
        simp
    · intro l ts h hfl htl
      rw [ShA] at h
      obtain ⟨t, ts1, h1, h2⟩ := h
      rcases h2 with ⟨rfl, rfl⟩ | ⟨l', ts2, hA, rfl, rfl⟩
      · rw [flat_app, List.length_append] at hfl
        rw [List.length_append] at htl
        obtain ⟨K, hK⟩ := ih.1 t ts1 h1 (by omega) (by omega)
        refine ⟨K, [⟨(flat ts1).toArray⟩], rfl, fun i hi k hk => ?_, ?_⟩
        · obtain rfl : i = 0 := by simp at hi; omega
          exact hK k hk
        · rw [flat_app]
          simp [flat, b41, Lib.join_one]
      · rw [flat_app, flat_cons, b44, List.length_append] at hfl
        simp only [List.length_append, List.length_cons, List.length_nil] at hfl htl
        obtain ⟨K, hK⟩ := ih.1 t ts1 h1 (by omega) (by omega)
        obtain ⟨K2, strs, hs, hK2, hj⟩ := ih.2 l' ts2 hA (by omega) (by omega)
        have hne := (shA_ne g hA).1
        refine ⟨max K K2, ⟨(flat ts1).toArray⟩ :: strs, by simp [hs], fun i hi k hk => ?_, ?_⟩
        · cases i with
          | zero => exact hK k (by omega)
          | succ i => exact hK2 i (by simpa using hi) k (by omega)
        · rw [flat_app, flat_cons, b44, ← hj]
          cases strs with
          | nil => exact absurd (List.eq_nil_of_length_eq_zero (by simpa using hs.symm)) hne
          | cons s0 strs =>
            rw [List.map_cons, List.map_cons, join_more]
            simp
theorem exact_l0 (l : List Tr) (hl : l.length ≤ 1000000) (a : ByteArray) (x : Int) (b : ByteArray) (y : Int) (K : Nat) (hK : ∀ i (h : i < l.length), ∀ k, K ≤ k → amalgamref03_Exact.f k (l[i]).f0 (l[i]).f1 (l[i]).f2 (l[i]).f0 (l[i]).f1 (l[i]).f2 = some true) :
    ∀ (d i k : Nat), i + d = l.length → K + d < k → amalgamref03_Exact.l0 k (i : Int) a x l b y l = some true := by
  intro d
  induction d with
  | zero =>
    intro i k hi hk
    obtain ⟨k, rfl, _⟩ := k_succ hk
    rw [amalgamref03_Exact.l0]
    rw [if_neg (by omega)]
  | succ d ih =>
    intro i k hi hk
    obtain ⟨k, rfl, _⟩ := k_succ hk
    have hlt : i < l.length := by omega
    rw [amalgamref03_Exact.l0]
    rw [if_pos (by omega), if_pos (by omega), if_pos (by omega), rdT_at l i hlt, hK i hlt k (by omega), Option.bind_some, if_pos rfl, wrap_nat (n := l.length) (by omega) (by omega)]
    exact ih (i + 1) k (by omega) (by omega)
theorem exact_of (a : ByteArray) (x : Int) (l : List Tr) (hl : l.length ≤ 1000000) (K : Nat) (hK : ∀ i (h : i < l.length), ∀ k, K ≤ k → amalgamref03_Exact.f k (l[i]).f0 (l[i]).f1 (l[i]).f2 (l[i]).f0 (l[i]).f1 (l[i]).f2 = some true) :
    ∀ k, K + l.length + 3 ≤ k → amalgamref03_Exact.f k a x l a x l = some true := by
  intro k hk
  obtain ⟨k, rfl, hk⟩ := k_succ (show K + l.length + 2 < k by omega)
  obtain ⟨k, rfl, hk⟩ := k_succ (show K + l.length + 1 < k by omega)
  rw [amalgamref03_Exact.f]
  rw [if_pos rfl, if_pos rfl]
  rw [amalgamref03_Exact.j0]
  rw [if_neg (by simp)]
  exact exact_l0 l hl a x a x K hK l.length 0 k (by omega) (by omega)
theorem exact_sh (g : List S62) : ∀ n, (∀ t ts, Sh g n t ts → ts.length ≤ 1000000 → ∃ K, ∀ k, K ≤ k → amalgamref03_Exact.f k t.f0 t.f1 t.f2 t.f0 t.f1 t.f2 = some true) ∧
    (∀ l ts, ShA g n l ts → ts.length ≤ 1000000 → ∃ K, ∀ i (h : i < l.length), ∀ k, K ≤ k → amalgamref03_Exact.f k (l[i]).f0 (l[i]).f1 (l[i]).f2 (l[i]).f0 (l[i]).f1 (l[i]).f2 = some true) := by
  intro n
  induction n with
  | zero => exact ⟨fun t ts h => by simp [Sh] at h, fun l ts h => by simp [ShA] at h⟩
  | succ n ih =>
    constructor
    · intro t ts h htl
      rw [Sh] at h
      rcases h with ⟨tx, hv, rfl, rfl⟩ | ⟨i, tx, hv, hf, rfl, rfl⟩ | ⟨i, tx, l, ts', hv, hf, rfl, rfl, hA⟩
      · exact ⟨_, exact_of tx 0 [] (by simp) 0 (fun i h => by simp at h)⟩
      · exact ⟨_, exact_of _ i [] (by simp) 0 (fun i h => by simp at h)⟩
      · simp only [List.length_cons] at htl
        obtain ⟨K, hK⟩ := ih.2 l ts' hA (by omega)
        have := (shA_ne g hA).2.1
        exact ⟨_, exact_of _ i l (by omega) K hK⟩
    · intro l ts h htl
      rw [ShA] at h
      obtain ⟨t, ts1, h1, h2⟩ := h
      rcases h2 with ⟨rfl, rfl⟩ | ⟨l', ts2, hA, rfl, rfl⟩
      · rw [List.length_append] at htl
        obtain ⟨K, hK⟩ := ih.1 t ts1 h1 (by omega)
        refine ⟨K, fun i hi k hk => ?_⟩
        obtain rfl : i = 0 := by simp at hi; omega
        exact hK k hk
      · simp only [List.length_append, List.length_cons] at htl
        obtain ⟨K, hK⟩ := ih.1 t ts1 h1 (by omega)
        obtain ⟨K2, hK2⟩ := ih.2 l' ts2 hA (by omega)
        refine ⟨max K K2, fun i hi k hk => ?_⟩
        cases i with
        | zero => exact hK k (by omega)
        | succ i => exact hK2 i (by simpa using hi) k (by omega)
theorem wrong_ex (g : List S62) (t : Tr) : ∃ c, ∀ k, 5 ≤ k → terms_wrong.f k g t.f0 t.f1 t.f2 = some c := by
  have hj2 : ∀ (x5 : Int) (b : Bool), 0 ≤ t.f1 → t.f1 < (g.length : Int) → ∃ c, ∀ k, 1 ≤ k → terms_wrong.j2 k g x5 b t.f0 t.f1 t.f2 = some c := by
    intro x5 b h1 h2
    cases b with
    | true => exact ⟨33, fun k hk => by obtain ⟨k, rfl, _⟩ := k_succ (show 0 < k by omega); rw [terms_wrong.j2, if_pos rfl]⟩
    | false =>
      by_cases c1 : (rd_T62 g t.f1).f1 = 1
      · exact ⟨0, fun k hk => by obtain ⟨k, rfl, _⟩ := k_succ (show 0 < k by omega); rw [terms_wrong.j2, if_neg (by simp), if_pos h1, if_pos h2, if_pos c1]⟩
      · by_cases c2 : x5 < 2
        · exact ⟨33, fun k hk => by obtain ⟨k, rfl, _⟩ := k_succ (show 0 < k by omega); rw [terms_wrong.j2, if_neg (by simp), if_pos h1, if_pos h2, if_neg c1, if_pos c2]⟩
        · exact ⟨0, fun k hk => by obtain ⟨k, rfl, _⟩ := k_succ (show 0 < k by omega); rw [terms_wrong.j2, if_neg (by simp), if_pos h1, if_pos h2, if_neg c1, if_neg c2]⟩
  have hj1 : ∀ (x5 : Int) (b : Bool), (b = false → 0 ≤ t.f1 ∧ t.f1 < (g.length : Int)) → ∃ c, ∀ k, 2 ≤ k → terms_wrong.j1 k g x5 b t.f0 t.f1 t.f2 = some c := by
    intro x5 b hb
    cases b with
    | true => exact ⟨32, fun k hk => by obtain ⟨k, rfl, _⟩ := k_succ (show 0 < k by omega); rw [terms_wrong.j1, if_pos rfl]⟩
    | false =>
      obtain ⟨h1, h2⟩ := hb rfl
      by_cases c1 : (rd_T62 g t.f1).f1 = 1
      · obtain ⟨c, hc⟩ := hj2 x5 (x5 != (rd_T62 g t.f1).f2) h1 h2
        exact ⟨c, fun k hk => by obtain ⟨k, rfl, _⟩ := k_succ (show 0 < k by omega); rw [terms_wrong.j1, if_neg (by simp), if_pos h1, if_pos h2, if_pos c1]; exact hc k (by omega)⟩
      · obtain ⟨c, hc⟩ := hj2 x5 false h1 h2
        exact ⟨c, fun k hk => by obtain ⟨k, rfl, _⟩ := k_succ (show 0 < k by omega); rw [terms_wrong.j1, if_neg (by simp), if_pos h1, if_pos h2, if_neg c1]; exact hc k (by omega)⟩
  have hj0 : ∀ (x5 : Int) (b : Bool), ∃ c, ∀ k, 3 ≤ k → terms_wrong.j0 k g x5 b t.f0 t.f1 t.f2 = some c := by
    intro x5 b
    cases b with
    | true => exact ⟨31, fun k hk => by obtain ⟨k, rfl, _⟩ := k_succ (show 0 < k by omega); rw [terms_wrong.j0, if_pos rfl]⟩
    | false =>
      by_cases ce : t.f0.toList = ([] : List UInt8)
      · by_cases cn : t.f1 < 0
        · obtain ⟨c, hc⟩ := hj1 x5 true (fun h => by cases h)
          exact ⟨c, fun k hk => by obtain ⟨k, rfl, _⟩ := k_succ (show 0 < k by omega); rw [terms_wrong.j0, if_neg (by simp), if_pos ce, if_pos cn]; exact hc k (by omega)⟩
        · obtain ⟨c, hc⟩ := hj1 x5 (decide (t.f1 ≥ (g.length : Int))) (fun h => by simp at h; omega)
          exact ⟨c, fun k hk => by obtain ⟨k, rfl, _⟩ := k_succ (show 0 < k by omega); rw [terms_wrong.j0, if_neg (by simp), if_pos ce, if_neg cn]; exact hc k (by omega)⟩
      · exact ⟨0, fun k hk => by obtain ⟨k, rfl, _⟩ := k_succ (show 0 < k by omega); rw [terms_wrong.j0, if_neg (by simp), if_neg ce]⟩
  unfold terms_wrong.f
  by_cases ce : t.f0.toList = ([] : List UInt8)
  · obtain ⟨c, hc⟩ := hj0 (t.f2.length : Int) false
    exact ⟨c, fun k hk => by rw [if_pos ce]; exact hc k (by omega)⟩
  · have hv : sig_Var.f t.f0 = some (varB t.f0) := rfl
    cases hb : varB t.f0 with
    | true =>
      by_cases c0 : t.f1 = 0
      · obtain ⟨c, hc⟩ := hj0 (t.f2.length : Int) (decide ((t.f2.length : Int) > 0))
        exact ⟨c, fun k hk => by rw [if_neg ce, hv, Option.bind_some, hb, if_pos rfl, if_pos c0]; exact hc k (by omega)⟩
      · obtain ⟨c, hc⟩ := hj0 (t.f2.length : Int) true
        exact ⟨c, fun k hk => by rw [if_neg ce, hv, Option.bind_some, hb, if_pos rfl, if_neg c0]; exact hc k (by omega)⟩
    | false =>
      obtain ⟨c, hc⟩ := hj0 (t.f2.length : Int) true
      exact ⟨c, fun k hk => by rw [if_neg ce, hv, Option.bind_some, hb, if_neg (by simp)]; exact hc k (by omega)⟩
theorem ckA_ex (g : List S62) (l : List Tr) (hc : ∀ i (h : i < l.length), ∀ n e, ∃ K r, ∀ k, K ≤ k → ckTerm k g (l[i]) n e = some r) : ∀ (d i : Nat), i + d = l.length → ∀ n e, ∃ K r, ∀ k, K ≤ k → ckArgs k g l i n e = some r := by
  intro d
  induction d with
  | zero =>
    intro i hi n e
    exact ⟨1, _, fun k hk => by obtain ⟨k, rfl, _⟩ := k_succ (show 0 < k by omega); rw [ckArgs, if_neg (by omega)]⟩
  | succ d ih =>
    intro i hi n e
    have hlt : i < l.length := by omega
    obtain ⟨K, r, hK⟩ := hc i hlt n e
    obtain ⟨r1, r2, r3⟩ := r
    cases r1 with
    | false => exact ⟨K + 1, _, fun k hk => by obtain ⟨k, rfl, _⟩ := k_succ (show 0 < k by omega); rw [ckArgs, if_pos hlt, rdT_at l i hlt, hK k (by omega), Option.bind_some, if_neg (by simp)]⟩
    | true =>
      obtain ⟨K2, r, hK2⟩ := ih (i + 1) (by omega) r2 r3
      exact ⟨max K K2 + 1, r, fun k hk => by obtain ⟨k, rfl, _⟩ := k_succ (show 0 < k by omega); rw [ckArgs, if_pos hlt, rdT_at l i hlt, hK k (by omega), Option.bind_some, if_pos rfl]; exact hK2 k (by omega)⟩
theorem ck_of (g : List S62) (t : Tr) (hc : ∀ i (h : i < t.f2.length), ∀ n e, ∃ K r, ∀ k, K ≤ k → ckTerm k g (t.f2[i]) n e = some r) (n e : Int) : ∃ K r, ∀ k, K ≤ k → ckTerm k g t n e = some r := by
  obtain ⟨c, hw⟩ := wrong_ex g t
  have he : ∃ e', ∀ k, 5 ≤ k → (if e = 0 then terms_wrong.f k g t.f0 t.f1 t.f2 else some e) = some e' := by
    by_cases h : e = 0
    · exact ⟨c, fun k hk => by rw [if_pos h]; exact hw k hk⟩
    · exact ⟨e, fun k hk => by rw [if_neg h]⟩
  obtain ⟨e', he'⟩ := he
  by_cases hn : n + 1 ≤ 40
  · obtain ⟨K, r, hK⟩ := ckA_ex g t.f2 hc t.f2.length 0 (by omega) (n + 1) e'
    exact ⟨max K 5 + 1, r, fun k hk => by obtain ⟨k, rfl, _⟩ := k_succ (show 0 < k by omega); rw [ckTerm, he' k (by omega), Option.bind_some, if_pos hn]; exact hK k (by omega)⟩
  · exact ⟨6, _, fun k hk => by obtain ⟨k, rfl, _⟩ := k_succ (show 0 < k by omega); rw [ckTerm, he' k (by omega), Option.bind_some, if_neg hn]⟩
/-- a claim of all trees, from the arguments to the tree -/
theorem tree_ind (p : Tr → Prop) (h : ∀ t, (∀ i (hi : i < t.f2.length), p (t.f2[i])) → p t) (t : Tr) : p t := by
  have : ∀ n t, SizeOf.sizeOf t ≤ n → p t := by
    intro n
    induction n with
    | zero =>
      intro t ht
      cases t
      simp at ht
    | succ n ih =>
      intro t ht
      refine h t (fun i hi => ih _ ?_)
      have h1 := List.sizeOf_lt_of_mem (List.getElem_mem hi)
      cases t with
      | mk a b c =>
        simp only [S27.mk.sizeOf_spec] at ht
        show SizeOf.sizeOf (c[i]) ≤ n
        have h2 : SizeOf.sizeOf (c[i]) < SizeOf.sizeOf c := h1
        omega
  exact this (SizeOf.sizeOf t) t (Nat.le_refl _)
theorem ck_ex (g : List S62) (t : Tr) : ∀ n e, ∃ K r, ∀ k, K ≤ k → ckTerm k g t n e = some r :=
  tree_ind (fun t => ∀ n e, ∃ K r, ∀ k, K ≤ k → ckTerm k g t n e = some r) (fun t h n e => ck_of g t h n e) t
theorem check_ex (g : List S62) (t : Tr) : ∃ c K, ∀ k, K ≤ k → terms_Check.f k g t = some c := by
  obtain ⟨K, r, hK⟩ := ck_ex g t 0 0
  by_cases h : r.2.1 > 40
  · exact ⟨34, K, fun k hk => by unfold terms_Check.f; rw [hK k hk, Option.bind_some, if_pos h]⟩
  · exact ⟨r.2.2, K, fun k hk => by unfold terms_Check.f; rw [hK k hk, Option.bind_some, if_neg h]⟩
/-- what Check answers -/
noncomputable def ckV (g : List S62) (t : Tr) : Int := Classical.choose (check_ex g t)
theorem ckV_spec (g : List S62) (t : Tr) : ∃ K, ∀ k, K ≤ k → terms_Check.f k g t = some (ckV g t) := Classical.choose_spec (check_ex g t)
theorem may_one (g : List S62) (t : Tr) : ∃ K, ∀ k, K ≤ k → rdMay k g [t] 0 = some (if ckV g t = 0 then .ok () else .error (ckV g t, 0)) := by
  obtain ⟨K, hK⟩ := ckV_spec g t
  refine ⟨K + 2, fun k hk => ?_⟩
  obtain ⟨k, rfl, hk⟩ := k_succ (show K + 1 < k by omega)
  obtain ⟨k, rfl, hk⟩ := k_succ (show K < k by omega)
  rw [rdMay]
  have h0 : rd_T27 [t] ((0 : Nat) : Int) = t := rfl
  rw [if_pos (by simp), h0, hK (k + 1) (by omega), Option.bind_some]
  by_cases c : ckV g t = 0
  · rw [if_pos c, if_pos c]
    rw [rdMay]
    rw [if_neg (by simp)]
  · rw [if_neg c, if_neg c]
end Go.Proofs.Ytpepjodkahdicaa.Sw
