/-
  The plain law of WordsStand, for texts of at most 1048576 bytes. Conditions: as stated.
-/
import Derived.Test.YtbfcfmobogmfhaaPureUpto
import Derived.Test.YtbfcfmobogmfhaaPWdx8
import Derived.Test.YtbfcfmobogmfhaaPWdx7
namespace Go.Proofs.Ytbfcfmobogmfhaa.Sw
open Go.RowKit Go.Proofs.YtbfcfmobogmfhaaW.PrintWords Go.Proofs.Ytbfcfmobogmfhaa.PWd
theorem g_low (c : UInt8) : amalgamref01_low.f (c.toNat : Int) = some (lowU c) := by
  unfold amalgamref01_low.f lowU
  by_cases h : 97 ≤ c.toNat
  · rw [if_pos (by omega), decide_eq_true h, Bool.true_and]
    exact congrArg some (decide_eq_decide.mpr (by omega))
  · rw [if_neg (by omega), decide_eq_false h, Bool.false_and]
theorem g_up (c : UInt8) : amalgamref01_up.f (c.toNat : Int) = some (upU c) := by
  unfold amalgamref01_up.f upU
  by_cases h : 65 ≤ c.toNat
  · rw [if_pos (by omega), decide_eq_true h, Bool.true_and]
    exact congrArg some (decide_eq_decide.mpr (by omega))
  · rw [if_neg (by omega), decide_eq_false h, Bool.false_and]
theorem g_digit (c : UInt8) : amalgamref01_digit.f (c.toNat : Int) = some (digU c) := by
  unfold amalgamref01_digit.f digU
  by_cases h : 48 ≤ c.toNat
  · rw [if_pos (by omega), decide_eq_true h, Bool.true_and]
    exact congrArg some (decide_eq_decide.mpr (by omega))
  · rw [if_neg (by omega), decide_eq_false h, Bool.false_and]
theorem g_name (s : ByteArray) (hs : s.size ≤ 12) : ∀ (d i k : Nat), i + d = (bl s).length → d < k → (∀ c ∈ (bl s).drop i, lowdigU c = true) → amalgamref01_Name.l0 k s i = some true := by
  have hl := bl_len s
  intro d
  induction d with
  | zero =>
    intro i k hi hk _
    obtain ⟨k, rfl, _⟩ := k_succ hk
    simp only [amalgamref01_Name.l0]
    rw [if_neg (by omega)]
  | succ d ih =>
    intro i k hi hk hc
    obtain ⟨k, rfl, _⟩ := k_succ hk
    have hil : i < (bl s).length := by omega
    rw [List.drop_eq_getElem_cons hil] at hc
    have h0 := hc _ (List.mem_cons_self ..)
    simp only [amalgamref01_Name.l0]
    rw [if_pos (by omega), if_pos (by omega), bt_bl s i hil, g_low, g_digit, wrap_nat hil (by omega), ih (i + 1) k (by omega) (by omega) (fun c h => hc c (List.mem_cons_of_mem _ h))]
    simp only [lowdigU, Bool.or_eq_true] at h0
    simp only [Option.bind_some]
    rcases h0 with h0 | h0
    · rw [h0]; rfl
    · rw [h0]; simp
theorem g_var0 (s : ByteArray) (hs : s.size ≤ 12) : ∀ (d i k : Nat), i + d = (bl s).length → d < k → (∀ c ∈ (bl s).drop i, digU c = true) → amalgamref01_Var.l0 k s i = some true := by
  have hl := bl_len s
  intro d
  induction d with
  | zero =>
    intro i k hi hk _
    obtain ⟨k, rfl, _⟩ := k_succ hk
    simp only [amalgamref01_Var.l0]
    rw [if_neg (by omega)]
  | succ d ih =>
    intro i k hi hk hc
    obtain ⟨k, rfl, _⟩ := k_succ hk
    have hil : i < (bl s).length := by omega
    rw [List.drop_eq_getElem_cons hil] at hc
    have h0 := hc _ (List.mem_cons_self ..)
    simp only [amalgamref01_Var.l0]
    rw [if_pos (by omega), if_pos (by omega), bt_bl s i hil, g_digit, wrap_nat hil (by omega), ih (i + 1) k (by omega) (by omega) (fun c h => hc c (List.mem_cons_of_mem _ h)), h0]
    rfl
theorem g_var1 (s : ByteArray) (hs : s.size ≤ 12) : ∀ (d i k : Nat), i + d = (bl s).length → d < k → (∀ c ∈ (bl s).drop i, allU c = true) → amalgamref01_Var.l1 k s i = some true := by
  have hl := bl_len s
  intro d
  induction d with
  | zero =>
    intro i k hi hk _
    obtain ⟨k, rfl, _⟩ := k_succ hk
    simp only [amalgamref01_Var.l1]
    rw [if_neg (by omega)]
  | succ d ih =>
    intro i k hi hk hc
    obtain ⟨k, rfl, _⟩ := k_succ hk
    have hil : i < (bl s).length := by omega
    rw [List.drop_eq_getElem_cons hil] at hc
    have h0 := hc _ (List.mem_cons_self ..)
    simp only [amalgamref01_Var.l1]
    rw [if_pos (by omega), if_pos (by omega), bt_bl s i hil, g_low, g_up, g_digit, wrap_nat hil (by omega), ih (i + 1) k (by omega) (by omega) (fun c h => hc c (List.mem_cons_of_mem _ h))]
    simp only [allU, Bool.or_eq_true] at h0
    simp only [Option.bind_some]
    rcases h0 with (h0 | h0) | h0
    · rw [h0]; cases lowU (bl s)[i] <;> rfl
    · rw [h0]; rfl
    · rw [h0]; cases lowU (bl s)[i] <;> cases upU (bl s)[i] <;> rfl
theorem span_all (q : UInt8 → Bool) (t : List UInt8) : ∀ c ∈ t.take (span q t), q c = true := by
  have h : t.take (span q t) = t.takeWhile q := by
    have := List.takeWhile_append_dropWhile (p := q) (l := t)
    unfold span
    conv => lhs; arg 2; rw [← this]
    exact List.take_left
  rw [h]
  intro c hc
  exact (List.all_eq_true.mp (List.all_takeWhile)) c hc
theorem g_Name (s : ByteArray) (c : UInt8) (t : List UInt8) (h : bl s = c :: t) (hn : (bl s).length ≤ 12) (hc : lowU c = true) (ht : ∀ x ∈ t, lowdigU x = true) (k : Nat) (hk : 20 < k) : amalgamref01_Name.f k s = some true := by
  have hl := bl_len s
  obtain ⟨k, rfl, _⟩ := k_succ hk
  have hll : (bl s).length = t.length + 1 := by rw [h]; rfl
  unfold amalgamref01_Name.f
  rw [if_neg (by omega), if_neg (by omega), if_pos (by omega), bt_cons h, g_low, hc, Option.bind_some]
  simp only [amalgamref01_Name.j0]
  rw [if_neg (by simp)]
  exact g_name s (by omega) t.length 1 k (by omega) (by omega) (by rw [h]; simpa using ht)
theorem g_Var1 (s : ByteArray) (c : UInt8) (t : List UInt8) (h : bl s = c :: t) (hn : (bl s).length ≤ 12) (hc : upU c = true) (ht : ∀ x ∈ t, allU x = true) (k : Nat) (hk : 20 < k) : amalgamref01_Var.f k s = some true := by
  have hl := bl_len s
  obtain ⟨k, rfl, _⟩ := k_succ hk
  have hll : (bl s).length = t.length + 1 := by rw [h]; rfl
  have e95 : ¬ (c.toNat : Int) = 95 := fun e => by
    have := (up_pos c).mp hc
    omega
  unfold amalgamref01_Var.f
  rw [if_neg (by omega), decide_eq_false (by omega)]
  simp only [amalgamref01_Var.j0]
  rw [if_neg Bool.false_ne_true, if_pos (by omega), bt_cons h, if_neg e95, g_up, hc, Option.bind_some, if_pos rfl]
  exact g_var1 s (by omega) t.length 1 k (by omega) (by omega) (by rw [h]; simpa using ht)
theorem g_Var0 (s : ByteArray) (d : UInt8) (t : List UInt8) (h : bl s = 95 :: d :: t) (hn : (bl s).length ≤ 12) (hd : d ≠ 48) (ht : ∀ x ∈ d :: t, digU x = true) (k : Nat) (hk : 20 < k) : amalgamref01_Var.f k s = some true := by
  have hl := bl_len s
  obtain ⟨k, rfl, _⟩ := k_succ hk
  obtain ⟨k, rfl, _⟩ := k_succ (show 10 < k by omega)
  have hll : (bl s).length = t.length + 1 + 1 := by rw [h]; rfl
  unfold amalgamref01_Var.f
  rw [if_neg (by omega), decide_eq_false (by omega)]
  simp only [amalgamref01_Var.j0]
  have e48 : (d.toNat : Int) = 48 ↔ d = 48 := u8_eq d 48 (by omega)
  rw [if_neg Bool.false_ne_true, if_pos (by omega), bt_cons h, if_pos (show ((UInt8.toNat 95 : Nat) : Int) = 95 from rfl), if_neg (by omega), if_pos (by omega), bt_cons1 h, beq_eq_false_iff_ne.mpr (fun e => hd (e48.mp e))]
  simp only [amalgamref01_Var.j1]
  rw [if_neg Bool.false_ne_true]
  exact g_var0 s (by omega) (t.length + 1) 1 k (by omega) (by omega) (by rw [h]; simpa using ht)
theorem bl_mk (l : List UInt8) : bl (⟨l.toArray⟩ : ByteArray) = l := rfl
theorem toList_bl (s : ByteArray) : s.toList = bl s := by rw [ByteArray.toList_eq]
theorem fits_f {m : List UInt8} (hm : m ≠ []) {kd : Int} {n : Nat} (ht : tokL m = (kd, n, 0)) (at' : Int) (k : Nat) (hk : 20 < k) : amalgamref02_Fits.f k kd ⟨(m.take n).toArray⟩ at' = some true := by
  have hok := tok_ok hm ht
  obtain ⟨c, t, rfl⟩ := List.exists_cons_of_ne_nil hm
  unfold amalgamref02_Fits.f
  have hbm := bl_mk ((c :: t).take n)
  by_cases h0 : signL (c :: t) = (0, 0)
  · rw [tok_word h0] at ht
    cases c1 : lowU c with
    | true =>
      rw [if_pos c1] at ht
      obtain ⟨rfl, rfl, h3⟩ := finT_ok ht
      rw [Nat.add_comm 1, List.take_succ_cons] at hbm ⊢
      rw [if_pos rfl, g_Name _ c _ hbm (by rw [hbm, List.length_cons, List.length_take]; omega) c1 (span_all lowdigU t) k hk]
      rfl
    | false =>
      rw [c1, if_neg Bool.false_ne_true] at ht
      cases c2 : upU c with
      | true =>
        rw [if_pos c2] at ht
        obtain ⟨rfl, rfl, h3⟩ := finT_ok ht
        rw [Nat.add_comm 1, List.take_succ_cons] at hbm ⊢
        rw [if_neg (by decide), if_pos rfl, g_Var1 _ c _ hbm (by rw [hbm, List.length_cons, List.length_take]; omega) c2 (span_all allU t) k hk]
        rfl
      | false =>
        rw [c2, if_neg Bool.false_ne_true] at ht
        by_cases c3 : c = 95
        · rw [if_pos c3] at ht
          by_cases c4 : span digU t = 0 ∨ t.head? = some 48
          · rw [if_pos c4] at ht
            simp at ht
          · rw [if_neg c4] at ht
            obtain ⟨rfl, rfl, h3⟩ := finT_ok ht
            obtain ⟨c5, c6⟩ := not_or.mp c4
            rw [Nat.add_comm 1, List.take_succ_cons] at hbm ⊢
            cases t with
            | nil => exact absurd rfl c5
            | cons d t =>
              have hd : d ≠ 48 := fun e => c6 (by rw [e]; rfl)
              have hall := span_all digU (d :: t)
              obtain ⟨j, hj⟩ : ∃ j, span digU (d :: t) = j + 1 := ⟨span digU (d :: t) - 1, by omega⟩
              rw [hj, List.take_succ_cons] at hbm hall ⊢
              subst c3
              rw [if_neg (by decide), if_pos rfl, g_Var0 _ d _ hbm (by rw [hbm, List.length_cons, List.length_cons, List.length_take]; omega) hd hall k hk]
              rfl
        · rw [if_neg c3] at ht
          simp at ht
  · unfold tokL at ht
    dsimp only at ht
    unfold signL at h0
    dsimp only at h0
    by_cases a : c = 40
    · rw [if_pos a] at ht
      cases ht
      subst a
      simp [toList_bl, bl_mk]
    rw [if_neg a] at ht h0
    by_cases b : c = 41
    · rw [if_pos b] at ht
      cases ht
      subst b
      simp [toList_bl, bl_mk]
    rw [if_neg b] at ht h0
    by_cases d : c = 44
    · rw [if_pos d] at ht
      cases ht
      subst d
      simp [toList_bl, bl_mk]
    rw [if_neg d] at ht h0
    by_cases e : c = 61
    · rw [if_pos e] at ht
      cases ht
      subst e
      simp [toList_bl, bl_mk]
    rw [if_neg e] at ht h0
    by_cases g : c = 45 ∧ t.head? = some 62
    · rw [if_pos g] at ht
      cases ht
      obtain ⟨rfl, g2⟩ := g
      cases t with
      | nil => cases g2
      | cons x t =>
        obtain rfl : x = 62 := by simpa using g2
        simp [toList_bl, bl_mk]
    · rw [if_neg g] at h0
      exact absurd rfl h0
theorem span_first (q : UInt8 → Bool) (l : List UInt8) (j : Nat) (hj : j < span q l) : ∃ c, l[j]? = some c ∧ q c = true := by
  have hle := span_le q l
  refine ⟨l[j]'(by omega), List.getElem?_eq_getElem (by omega), span_all q l _ ?_⟩
  rw [List.mem_take_iff_getElem]
  exact ⟨j, by omega, rfl⟩
theorem blank_at {s : ByteArray} {p : Nat} {j : Nat} (hj : j < span spU ((bl s).drop p)) : p + j < (bl s).length ∧ bt s ((p + j : Nat) : Int) = 32 := by
  obtain ⟨c, h1, h2⟩ := span_first spU _ j hj
  have hc : c = 32 := by simpa [spU] using h2
  subst hc
  rw [List.getElem?_drop] at h1
  obtain ⟨h3, h4⟩ := List.getElem?_eq_some_iff.mp h1
  refine ⟨h3, ?_⟩
  rw [bt_bl s (p + j) h3, h4]
  rfl
theorem st_l2 (s : ByteArray) (hs : s.size ≤ 1048576) (p : Nat) (hall : p + span spU ((bl s).drop p) = (bl s).length) : ∀ (d j k : Nat), j + d = span spU ((bl s).drop p) → d < k → amalgamlaw02_WordsStand.l2 k s ((p + j : Nat) : Int) = some true := by
  have hl := bl_len s
  intro d
  induction d with
  | zero =>
    intro j k hj hk
    obtain ⟨k, rfl, _⟩ := k_succ hk
    simp only [amalgamlaw02_WordsStand.l2]
    rw [if_neg (by omega)]
  | succ d ih =>
    intro j k hj hk
    obtain ⟨k, rfl, _⟩ := k_succ hk
    obtain ⟨b1, b2⟩ := blank_at (s := s) (p := p) (j := j) (by omega)
    simp only [amalgamlaw02_WordsStand.l2]
    rw [if_pos (by omega), if_pos (by omega), b2, if_pos rfl, wrap_nat b1 (by omega)]
    exact ih (j + 1) k (by omega) (by omega)
theorem st_l1 (s : ByteArray) (hs : s.size ≤ 1048576) (p : Nat) (x4 : List Wd) (x8 kd : Int) (tx : ByteArray) (r : Option Bool) (K : Nat)
    (hr : ∀ k, K < k → amalgamlaw02_WordsStand.l0 k s x4 (wrap64 (((p + span spU ((bl s).drop p) : Nat) : Int) + (tx.size : Int))) (wrap64 (x8 + 1)) = r) : ∀ (d j k : Nat), j + d = span spU ((bl s).drop p) → d + K + 1 < k →
    amalgamlaw02_WordsStand.l1 k s x4 ((p + j : Nat) : Int) x8 kd tx ((p + span spU ((bl s).drop p) : Nat) : Int) = r := by
  have hl := bl_len s
  intro d
  induction d with
  | zero =>
    intro j k hj hk
    obtain ⟨k, rfl, _⟩ := k_succ hk
    simp only [amalgamlaw02_WordsStand.l1]
    rw [if_neg (by omega)]
    exact hr k (by omega)
  | succ d ih =>
    intro j k hj hk
    obtain ⟨k, rfl, _⟩ := k_succ hk
    obtain ⟨b1, b2⟩ := blank_at (s := s) (p := p) (j := j) (by omega)
    simp only [amalgamlaw02_WordsStand.l1]
    rw [if_pos (by omega), if_pos (by omega), if_pos (by omega), b2, if_pos rfl, wrap_nat b1 (by omega)]
    exact ih (j + 1) k (by omega) (by omega)
theorem st_l0 (s : ByteArray) (hs : s.size ≤ 1048576) {l : List UInt8} {p : Nat} {ws : List Wd} {e z : Int} (h : Lex l p ws e z) : ∀ (pre : List Wd) (k : Nat), l = (bl s).drop p → p ≤ (bl s).length → e = 0 → (pre ++ ws).length ≤ 1048576 → 3 * l.length + 60 < k →
    amalgamlaw02_WordsStand.l0 k s (pre ++ ws) p (pre.length : Nat) = some true := by
  have hlen := bl_len s
  induction h with
  | stop l p h =>
    intro pre k hl hp he hn hk
    obtain ⟨k, rfl, _⟩ := k_succ hk
    simp only [amalgamlaw02_WordsStand.l0, List.append_nil]
    rw [if_neg (by omega)]
    have hsl := span_le spU l
    have := congrArg List.length h
    rw [List.length_drop, List.length_nil] at this
    have hll : l.length = (bl s).length - p := by rw [hl, List.length_drop]
    have := st_l2 s hs p (by rw [← hl]; omega) (span spU l) 0 k (by rw [← hl]; omega) (by omega)
    simpa using this
  | bad l p h kd n e ht he => exact fun _ _ _ _ h0 => absurd h0 he
  | word l p h kd n ht ws e z hr ih =>
    intro pre k hl hp he hn hk
    obtain ⟨h1, h2, h3, h4⟩ := lex_at hl hp h ht
    have hok := tok_ok h ht
    have hn' := hn
    rw [List.length_append, List.length_cons] at hn
    have hsl := span_le spU l
    have hll : l.length = (bl s).length - p := by rw [hl, List.length_drop]
    rw [List.length_drop] at hok
    obtain ⟨k, rfl, _⟩ := k_succ hk
    have hk20 : 20 < k := by omega
    have hkf : span spU l + (3 * (l.length - span spU l - n) + 60) + 1 + 1 < k := by omega
    have hn'' : (pre ++ (⟨kd, ⟨((l.drop (span spU l)).take n).toArray⟩, ((p + span spU l : Nat) : Int)⟩ : Wd) :: ws).length ≤ 4611686018427387904 := Nat.le_trans hn' (by decide)
    have hrd : rd_T26 (pre ++ ⟨kd, ⟨((l.drop (span spU l)).take n).toArray⟩, ((p + span spU l : Nat) : Int)⟩ :: ws) ((pre.length : Nat) : Int) = ⟨kd, ⟨((l.drop (span spU l)).take n).toArray⟩, ((p + span spU l : Nat) : Int)⟩ := by
      unfold rd_T26
      rw [Int.toNat_natCast, List.getD_eq_getElem?_getD, List.getElem?_append_right (Nat.le_refl _), Nat.sub_self]
      rfl
    have htl : (⟨((l.drop (span spU l)).take n).toArray⟩ : ByteArray).toList = (l.drop (span spU l)).take n := by rw [toList_bl, bl_mk]
    have hsz : ((⟨((l.drop (span spU l)).take n).toArray⟩ : ByteArray).size : Int) = (n : Int) := by
      rw [← bl_len, bl_mk, List.length_take, List.length_drop]
      omega
    have hw : wrap64 (((p + span spU l : Nat) : Int) + (n : Int)) = ((p + span spU l + n : Nat) : Int) := by
      unfold wrap64
      omega
    have hex : (s.extract (p + span spU l) (p + span spU l + n)).toList = (l.drop (span spU l)).take n := by
      rw [toList_bl, bl_extract, Nat.add_sub_cancel_left]
      conv => rhs; rw [hl]
      rw [List.drop_drop, ← hl]
    simp only [amalgamlaw02_WordsStand.l0, hrd]
    have hne : ¬ (l.drop (span spU l)).take n = [] := fun e => by
      have := congrArg List.length e
      rw [List.length_take, List.length_drop, List.length_nil] at this
      omega
    rw [htl, hsz, hw]
    have h2' : p + span spU l + n ≤ s.size := by rw [← hlen]; exact h2
    have hlt : pre.length < (pre ++ (⟨kd, ⟨((l.drop (span spU l)).take n).toArray⟩, ((p + span spU l : Nat) : Int)⟩ : Wd) :: ws).length := by
      rw [List.length_append, List.length_cons]
      exact Nat.lt_add_of_pos_right (Nat.succ_pos _)
    refine (if_pos (Int.ofNat_lt.mpr hlt)).trans ?_
    refine (if_pos (Int.natCast_nonneg _)).trans ?_
    refine (if_neg (fun h => absurd (Int.ofNat_lt.mp h) (Nat.not_lt.mpr (Nat.le_add_right _ _)))).trans ?_
    refine (if_neg hne).trans ?_
    refine (if_neg (fun h => absurd (Int.ofNat_lt.mp h) (Nat.not_lt.mpr h2'))).trans ?_
    refine (if_pos (Int.natCast_nonneg _)).trans ?_
    refine (if_pos (Int.ofNat_le.mpr (Nat.le_add_right _ _))).trans ?_
    refine (if_pos (Int.ofNat_le.mpr h2')).trans ?_
    simp only [Int.toNat_natCast]
    refine (if_pos hex).trans ?_
    rw [fits_f h ht _ k hk20, Option.bind_some]
    obtain ⟨k, rfl, _⟩ := k_succ (show 0 < k from Nat.lt_of_le_of_lt (Nat.zero_le _) hk20)
    simp only [amalgamlaw02_WordsStand.j2]
    rw [if_neg (by simp)]
    have hw2 : wrap64 ((pre.length : Nat) + 1 : Int) = (((pre ++ [(⟨kd, ⟨((l.drop (span spU l)).take n).toArray⟩, ((p + span spU l : Nat) : Int)⟩ : Wd)]).length : Nat) : Int) := by
      rw [List.length_append, List.length_singleton]
      exact wrap_nat hlt hn''
    have := st_l1 s hs p (pre ++ ⟨kd, ⟨((l.drop (span spU l)).take n).toArray⟩, ((p + span spU l : Nat) : Int)⟩ :: ws) (pre.length : Nat) kd ⟨((l.drop (span spU l)).take n).toArray⟩ (some true) (3 * (l.length - span spU l - n) + 60) (fun k hk => by
      rw [← hl, hsz, hw, hw2, List.append_cons]
      exact ih _ k h1 h2 he (by rw [← List.append_cons]; exact hn') (by rw [List.length_drop, List.length_drop]; exact hk)) (span spU l) 0 k (by rw [← hl]; exact Nat.zero_add _) (Nat.lt_of_succ_lt_succ hkf)
    rw [← hl] at this
    simpa using this
theorem WordsStand (s : ByteArray) (hs : s.size ≤ 1048576) : ∃ k, amalgamlaw02_WordsStand.f k s = some true := by
  have hlen := bl_len s
  obtain ⟨ws, e, z, h⟩ := lex_ex _ (bl s) 0 (Nat.le_refl _)
  have hwl := lex_len h
  refine ⟨3 * (bl s).length + 70 + 1, ?_⟩
  unfold amalgamlaw02_WordsStand.f
  rw [head_true _ (by omega), Option.bind_some, list_f s (by omega) h (by omega) _ (by omega), Option.bind_some, if_pos rfl]
  unfold listR
  by_cases he : e = 0
  · rw [if_pos he]
    dsimp only
    rw [show ((0 : Int) != 0) = false from rfl]
    simp only [amalgamlaw02_WordsStand.j0]
    rw [if_neg Bool.false_ne_true]
    exact st_l0 s hs h [] (3 * (bl s).length + 70) (by simp) (by omega) he (by simp; omega) (by omega)
  · rw [if_neg he]
    dsimp only
    rw [bne_iff_ne.mpr he]
    simp only [amalgamlaw02_WordsStand.j0]
    rfl
end Go.Proofs.Ytbfcfmobogmfhaa.Sw
