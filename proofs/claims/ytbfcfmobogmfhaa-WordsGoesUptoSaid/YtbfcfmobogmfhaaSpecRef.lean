/-
  Words, plainly: the document's Next comes to nextS. Conditions: each theorem's own.
-/
import Derived.Test.YtbfcfmobogmfhaaSpecProg
namespace Go.Proofs.Ytbfcfmobogmfhaa.Sw
open Go.RowKit Go.Proofs.YtbfcfmobogmfhaaW.PrintWords Go.Proofs.Ytbfcfmobogmfhaa.PWd
def clsU (lo up : Bool) (c : UInt8) : Bool := digU c || (lo && lowU c) || (up && upU c)
theorem low_pos (c : UInt8) : lowU c = true ↔ ((c.toNat : Int) ≥ 97 ∧ (c.toNat : Int) ≤ 122) := by
  unfold lowU; simp; omega
theorem up_pos (c : UInt8) : upU c = true ↔ ((c.toNat : Int) ≥ 65 ∧ (c.toNat : Int) ≤ 90) := by
  unfold upU; simp; omega
theorem dig_pos (c : UInt8) : digU c = true ↔ ((c.toNat : Int) ≥ 48 ∧ (c.toNat : Int) ≤ 57) := by
  unfold digU; simp; omega
theorem rref_l0 (s : ByteArray) (lo up : Bool) (hs : s.size ≤ 140737488351232) : ∀ (d i k : Nat), i + d = (bl s).length → d < k →
    amalgamref02_run.l0 k s i lo up = some ((i + span (clsU lo up) ((bl s).drop i) : Nat) : Int) := by
  intro d
  have hl := bl_len s
  induction d with
  | zero =>
    intro i k hi hk
    obtain ⟨k, rfl, _⟩ := k_succ hk
    simp only [amalgamref02_run.l0]
    rw [if_neg (by omega), List.drop_eq_nil_of_le (by omega)]
    simp [span]
  | succ d ih =>
    intro i k hi hk
    obtain ⟨k, rfl, _⟩ := k_succ hk
    have hil : i < (bl s).length := by omega
    have ih := ih (i + 1) k (by omega) (by omega)
    simp only [amalgamref02_run.l0]
    rw [if_pos (by omega), if_pos (by omega), wrap_nat hil (by omega), ih, bt_bl s i hil]
    rw [List.drop_eq_getElem_cons hil]
    have hd := dig_pos (bl s)[i]
    have hlo := low_pos (bl s)[i]
    have hu := up_pos (bl s)[i]
    generalize (bl s)[i] = c at hd hlo hu ⊢
    by_cases hc : clsU lo up c = true
    · rw [span_cons_pos hc]
      have e : ((i + 1 + span (clsU lo up) (List.drop (i + 1) (bl s)) : Nat) : Int) = ((i + (1 + span (clsU lo up) (List.drop (i + 1) (bl s))) : Nat) : Int) := by omega
      rw [e]
      generalize ((i + (1 + span (clsU lo up) (List.drop (i + 1) (bl s))) : Nat) : Int) = X
      unfold clsU at hc
      simp only [Bool.or_eq_true, Bool.and_eq_true, hd, hlo, hu] at hc
      repeat' split
      all_goals first
        | rfl
        | (exfalso; omega)
        | (exfalso; simp_all; done)
        | (exfalso; simp_all; omega)
    · have e : span (clsU lo up) (c :: List.drop (i + 1) (bl s)) = 0 := by
        unfold span
        rw [List.takeWhile_cons]
        simp [hc]
      rw [e]
      unfold clsU at hc
      simp only [Bool.or_eq_true, Bool.and_eq_true, hd, hlo, hu] at hc
      repeat' split
      all_goals first
        | rfl
        | (exfalso; omega)
        | (exfalso; simp_all; done)
        | (exfalso; simp_all; omega)
theorem cls_tf : clsU true false = lowdigU := by funext c; simp [clsU, lowdigU, Bool.or_comm]
theorem cls_tt : clsU true true = allU := by funext c; simp [clsU, allU, Bool.or_comm, Bool.or_assoc]
theorem cls_ff : clsU false false = digU := by funext c; simp [clsU]
theorem rref_f (s : ByteArray) (lo up : Bool) (hs : s.size ≤ 140737488351232) (i k : Nat) (hi : i ≤ (bl s).length) (hk : (bl s).length < k) :
    amalgamref02_run.f k s i lo up = some ((i + span (clsU lo up) ((bl s).drop i) : Nat) : Int) := rref_l0 s lo up hs ((bl s).length - i) i k (by omega) (by omega)
theorem bt_drop {s : ByteArray} {i : Nat} {c : UInt8} {t : List UInt8} (h : (bl s).drop i = c :: t) : bt s i = (c.toNat : Int) := by
  have hi : i < (bl s).length := by
    apply Classical.byContradiction
    intro e
    rw [List.drop_eq_nil_of_le (by omega)] at h
    cases h
  rw [bt_bl s i hi]
  rw [List.drop_eq_getElem_cons hi] at h
  rw [(List.cons.inj h).1]
theorem drop_succ {s : ByteArray} {i : Nat} {c : UInt8} {t : List UInt8} (h : (bl s).drop i = c :: t) : (bl s).drop (i + 1) = t := by
  rw [← List.drop_drop, h, List.drop_succ_cons, List.drop_zero]
theorem drop_len {s : ByteArray} {i : Nat} {c : UInt8} {t : List UInt8} (h : (bl s).drop i = c :: t) : i + t.length + 1 = (bl s).length := by
  have := congrArg List.length h
  rw [List.length_drop, List.length_cons] at this
  omega
theorem rsign_f (s : ByteArray) (i : Nat) (hs : s.size ≤ 140737488351232) (c : UInt8) (t : List UInt8) (h : (bl s).drop i = c :: t) : amalgamref02_sign.f s i = some (signL (c :: t)) := by
  have hl := bl_len s
  have hd := drop_len h
  unfold amalgamref02_sign.f
  rw [if_pos (by omega), if_pos (by omega), bt_drop h, wrap_nat (i := i) (n := (bl s).length) (by omega) (by omega)]
  have e40 : (c.toNat : Int) = 40 ↔ c = 40 := u8_eq c 40 (by omega)
  have e41 : (c.toNat : Int) = 41 ↔ c = 41 := u8_eq c 41 (by omega)
  have e44 : (c.toNat : Int) = 44 ↔ c = 44 := u8_eq c 44 (by omega)
  have e45 : (c.toNat : Int) = 45 ↔ c = 45 := u8_eq c 45 (by omega)
  have e61 : (c.toNat : Int) = 61 ↔ c = 61 := u8_eq c 61 (by omega)
  unfold signL
  dsimp only
  simp only [e40, e41, e44, e45, e61]
  by_cases a : c = 40
  · rw [if_pos a, if_pos a]
  rw [if_neg a, if_neg a]
  by_cases b : c = 41
  · rw [if_pos b, if_pos b]
  rw [if_neg b, if_neg b]
  by_cases d : c = 44
  · rw [if_pos d, if_pos d]
  rw [if_neg d, if_neg d]
  by_cases e : c = 61
  · rw [if_pos e, if_pos e]
  rw [if_neg e, if_neg e]
  by_cases g : c = 45
  · rw [if_pos g]
    cases t with
    | nil =>
      simp only [List.length_nil] at hd
      rw [if_neg (by omega), if_neg (by simp)]
    | cons x t =>
      simp only [List.length_cons] at hd
      rw [if_pos (by omega), if_pos (by omega), bt_drop (drop_succ h)]
      have e62 : (x.toNat : Int) = 62 ↔ x = 62 := u8_eq x 62 (by omega)
      simp only [e62, List.head?_cons, Option.some.injEq, g, true_and]
      by_cases y : x = 62
      · rw [if_pos y, if_pos y]
      · rw [if_neg y, if_neg y]
  · rw [if_neg g, if_neg (fun q => g q.1)]
theorem ext_take (s : ByteArray) (i n : Nat) : s.extract i (i + n) = ⟨(((bl s).drop i).take n).toArray⟩ := by
  apply bl_ext
  rw [bl_extract]
  simp [bl]
theorem fin_r (s : ByteArray) (i n : Nat) (kd : Int) (hs : s.size ≤ 140737488351232) (hn : i + n ≤ (bl s).length) :
    (if (wrap64 (((i + n : Nat) : Int) - (i : Int))) > 12 then (some (0, (⟨#[]⟩ : ByteArray), 0, (i : Int), 22)) else (if 0 ≤ (i : Int) then (if (i : Int) ≤ ((i + n : Nat) : Int) then (if ((i + n : Nat) : Int) ≤ (s.size : Int) then (some (kd, s.extract ((i : Int)).toNat (((i + n : Nat) : Int)).toNat, (i : Int), ((i + n : Nat) : Int), 0)) else (none)) else (none)) else (none)) : Option NextR)
      = some (mkL i ((bl s).drop i) (finT kd n)) := by
  have hl := bl_len s
  have hw : wrap64 (((i + n : Nat) : Int) - (i : Int)) = (n : Int) := by
    unfold wrap64
    omega
  rw [hw]
  unfold mkL finT
  by_cases h : 12 < n
  · rw [if_pos (by omega), if_pos h, if_neg (by decide)]
  · rw [if_neg (by omega), if_neg h, if_pos (by omega), if_pos (by omega), if_pos (by omega), if_pos rfl]
    simp only [Int.toNat_natCast]
    rw [ext_take]
theorem tok_word {c : UInt8} {t : List UInt8} (h0 : signL (c :: t) = (0, 0)) : tokL (c :: t) = if lowU c = true then finT 1 (1 + span lowdigU t) else if upU c = true then finT 2 (1 + span allU t) else if c = 95 then (if span digU t = 0 ∨ t.head? = some 48 then (0, 0, 21) else finT 2 (1 + span digU t)) else (0, 0, 21) := by
  unfold signL at h0
  unfold tokL
  dsimp only at h0 ⊢
  by_cases a : c = 40
  · rw [if_pos a] at h0; simp at h0
  by_cases b : c = 41
  · rw [if_neg a, if_pos b] at h0; simp at h0
  by_cases d : c = 44
  · rw [if_neg a, if_neg b, if_pos d] at h0; simp at h0
  by_cases e : c = 61
  · rw [if_neg a, if_neg b, if_neg d, if_pos e] at h0; simp at h0
  by_cases g : c = 45 ∧ t.head? = some 62
  · rw [if_neg a, if_neg b, if_neg d, if_neg e, if_pos g] at h0; simp at h0
  rw [if_neg a, if_neg b, if_neg d, if_neg e, if_neg g]
theorem tok_sign {c : UInt8} {t : List UInt8} (h0 : signL (c :: t) ≠ (0, 0)) : ∃ kd n : Nat, signL (c :: t) = ((kd : Int), (n : Int)) ∧ tokL (c :: t) = finT kd n ∧ (kd : Int) ≠ 0 ∧ n ≤ (c :: t).length := by
  unfold signL at h0 ⊢
  unfold tokL
  dsimp only at h0 ⊢
  by_cases a : c = 40
  · exact ⟨3, 1, by rw [if_pos a]; rfl, by rw [if_pos a]; rfl, by decide, by simp⟩
  rw [if_neg a] at h0
  by_cases b : c = 41
  · exact ⟨4, 1, by rw [if_neg a, if_pos b]; rfl, by rw [if_neg a, if_pos b]; rfl, by decide, by simp⟩
  rw [if_neg b] at h0
  by_cases d : c = 44
  · exact ⟨5, 1, by rw [if_neg a, if_neg b, if_pos d]; rfl, by rw [if_neg a, if_neg b, if_pos d]; rfl, by decide, by simp⟩
  rw [if_neg d] at h0
  by_cases e : c = 61
  · exact ⟨6, 1, by rw [if_neg a, if_neg b, if_neg d, if_pos e]; rfl, by rw [if_neg a, if_neg b, if_neg d, if_pos e]; rfl, by decide, by simp⟩
  rw [if_neg e] at h0
  by_cases g : c = 45 ∧ t.head? = some 62
  · refine ⟨7, 2, by rw [if_neg a, if_neg b, if_neg d, if_neg e, if_pos g]; rfl, by rw [if_neg a, if_neg b, if_neg d, if_neg e, if_pos g]; rfl, by decide, ?_⟩
    cases t with
    | nil => exact absurd g.2 (by simp)
    | cons => simp
  rw [if_neg g] at h0
  exact absurd rfl h0
theorem rj4_f (s : ByteArray) (hs : s.size ≤ 140737488351232) (i k : Nat) (c : UInt8) (t : List UInt8) (h : (bl s).drop i = c :: t) (hk : (bl s).length + 1 < k) (up : Bool) (hup : up = upU c) :
    amalgamref02_Next.j4 k s i (c.toNat : Int) up = some (mkL i (c :: t) (if upU c = true then finT 2 (1 + span allU t) else if c = 95 then (if span digU t = 0 ∨ t.head? = some 48 then (0, 0, 21) else finT 2 (1 + span digU t)) else (0, 0, 21))) := by
  subst hup
  have hl := bl_len s
  have hd := drop_len h
  obtain ⟨k, rfl, hk2⟩ := k_succ hk
  have s1 := span_le allU t
  have s2 := span_le digU t
  have e95 : (c.toNat : Int) = 95 ↔ c = 95 := u8_eq c 95 (by omega)
  simp only [amalgamref02_Next.j4, e95]
  cases c2 : upU c with
  | true =>
    rw [if_pos (rfl : true = true), if_pos (rfl : true = true), rref_f s true true hs i k (by omega) (by omega), Option.bind_some, cls_tt, h, span_cons_pos (by simp [allU, c2])]
    have := fin_r s i (1 + span allU t) 2 hs (by omega)
    rw [h] at this
    exact this
  | false =>
    rw [if_neg Bool.false_ne_true, if_neg Bool.false_ne_true]
    by_cases c3 : c = 95
    · rw [if_pos c3, if_pos c3, wrap_nat (i := i) (n := (bl s).length) (by omega) (by omega), rref_f s false false hs (i + 1) k (by omega) (by omega), Option.bind_some, cls_ff, drop_succ h]
      have hj5 : ∀ b : Bool, amalgamref02_Next.j5 k s i 2 ((i + 1 + span digU t : Nat) : Int) b = some (if b = true then mkL i (c :: t) (0, 0, 21) else mkL i (c :: t) (finT 2 (1 + span digU t))) := by
        intro b
        obtain ⟨k, rfl, hk3⟩ := k_succ (show 0 < k by omega)
        simp only [amalgamref02_Next.j5]
        cases b with
        | true =>
          rw [if_pos (rfl : true = true), if_pos (rfl : true = true)]
          simp [mkL]
        | false =>
          rw [if_neg Bool.false_ne_true, if_neg Bool.false_ne_true]
          have := fin_r s i (1 + span digU t) 2 hs (by omega)
          rw [h, show i + (1 + span digU t) = i + 1 + span digU t by omega] at this
          exact this
      by_cases c4 : span digU t = 0
      · rw [if_pos (by omega), if_pos (.inl c4), hj5, if_pos rfl]
      · rw [if_neg (by omega)]
        cases t with
        | nil => simp [span] at c4
        | cons d t =>
          simp only [List.length_cons] at hd
          rw [if_pos (by omega), if_pos (by omega), bt_drop (drop_succ h), hj5]
          have e48 : (d.toNat : Int) = 48 ↔ d = 48 := u8_eq d 48 (by omega)
          simp only [beq_iff_eq, e48]
          by_cases c5 : d = 48
          · rw [if_pos c5, if_pos (by simp [c5])]
          · rw [if_neg c5, if_neg (by simp [c4, c5])]
    · rw [if_neg c3, if_neg c3]
      simp [mkL]
theorem rj3_f (s : ByteArray) (hs : s.size ≤ 140737488351232) (i k : Nat) (c : UInt8) (t : List UInt8) (h : (bl s).drop i = c :: t) (h0 : signL (c :: t) = (0, 0)) (hk : (bl s).length + 2 < k) (lo : Bool) (hlo : lo = lowU c) :
    amalgamref02_Next.j3 k s i (c.toNat : Int) lo = some (mkL i (c :: t) (tokL (c :: t))) := by
  subst hlo
  have hl := bl_len s
  have hd := drop_len h
  obtain ⟨k, rfl, hk2⟩ := k_succ hk
  have s1 := span_le lowdigU t
  rw [tok_word h0]
  simp only [amalgamref02_Next.j3]
  cases c2 : lowU c with
  | true =>
    rw [if_pos (rfl : true = true), if_pos (rfl : true = true), rref_f s true false hs i k (by omega) (by omega), Option.bind_some, cls_tf, h, span_cons_pos (by simp [lowdigU, c2])]
    have := fin_r s i (1 + span lowdigU t) 1 hs (by omega)
    rw [h] at this
    exact this
  | false =>
    rw [if_neg Bool.false_ne_true, if_neg Bool.false_ne_true]
    have hu := up_pos c
    by_cases c3 : (c.toNat : Int) ≥ 65
    · rw [if_pos c3]
      refine rj4_f s hs i k c t h (by omega) _ ?_
      cases c4 : upU c with
      | true => exact decide_eq_true (hu.mp c4).2
      | false => exact decide_eq_false (fun e => by rw [hu.mpr ⟨c3, e⟩] at c4; cases c4)
    · rw [if_neg c3]
      refine rj4_f s hs i k c t h (by omega) _ ?_
      cases c4 : upU c with
      | true => exact absurd (hu.mp c4).1 c3
      | false => rfl
theorem rj2_f (s : ByteArray) (hs : s.size ≤ 140737488351232) (i k : Nat) (hi : i ≤ (bl s).length) (hk : (bl s).length + 3 < k) :
    amalgamref02_Next.j2 k s i = some (if (bl s).drop i = [] then (0, (⟨#[]⟩ : ByteArray), 0, (i : Int), 0) else mkL i ((bl s).drop i) (tokL ((bl s).drop i))) := by
  have hl := bl_len s
  obtain ⟨k, rfl, hk2⟩ := k_succ hk
  simp only [amalgamref02_Next.j2]
  by_cases c1 : i = (bl s).length
  · rw [if_pos (by omega), if_pos (List.drop_eq_nil_of_le (by omega))]
  · have hne : (bl s).drop i ≠ [] := fun e => by
      have := congrArg List.length e
      rw [List.length_drop, List.length_nil] at this
      omega
    rw [if_neg (by omega), if_neg hne]
    obtain ⟨c, t, h⟩ := List.exists_cons_of_ne_nil hne
    rw [rsign_f s i hs c t h, Option.bind_some, if_pos (by omega), if_pos (by omega), bt_drop h]
    by_cases h0 : signL (c :: t) = (0, 0)
    · rw [h0, if_pos rfl, h]
      have hlo := low_pos c
      by_cases c3 : (c.toNat : Int) ≥ 97
      · rw [if_pos c3]
        refine rj3_f s hs i k c t h h0 (by omega) _ ?_
        cases c4 : lowU c with
        | true => exact decide_eq_true (hlo.mp c4).2
        | false => exact decide_eq_false (fun e => by rw [hlo.mpr ⟨c3, e⟩] at c4; cases c4)
      · rw [if_neg c3]
        refine rj3_f s hs i k c t h h0 (by omega) _ ?_
        cases c4 : lowU c with
        | true => exact absurd (hlo.mp c4).1 c3
        | false => rfl
    · obtain ⟨kd, n, e1, e2, e3, e4⟩ := tok_sign h0
      have hd := drop_len h
      simp only [List.length_cons] at e4
      rw [e1, if_neg e3, h, e2]
      have hw : wrap64 ((i : Int) + (n : Int)) = ((i + n : Nat) : Int) := by
        unfold wrap64
        omega
      dsimp only
      rw [hw]
      have := fin_r s i n kd hs (by omega)
      rw [h, if_pos (show 0 ≤ (i : Int) by omega)] at this
      exact this
theorem rl0_f (s : ByteArray) (hs : s.size ≤ 140737488351232) : ∀ (d i k : Nat), i + d = (bl s).length → (bl s).length + 4 + d < k → amalgamref02_Next.l0 k s i = some (nextL ((bl s).drop i) i) := by
  intro d
  have hl := bl_len s
  induction d with
  | zero =>
    intro i k hi hk
    obtain ⟨k, rfl, _⟩ := k_succ hk
    simp only [amalgamref02_Next.l0]
    rw [if_neg (by omega), rj2_f s hs i k (by omega) (by omega)]
    unfold nextL
    rw [List.drop_eq_nil_of_le (by omega)]
    simp [span]
  | succ d ih =>
    intro i k hi hk
    obtain ⟨k, rfl, _⟩ := k_succ hk
    have hil : i < (bl s).length := by omega
    have ih := ih (i + 1) k (by omega) (by omega)
    simp only [amalgamref02_Next.l0]
    rw [if_pos (by omega), if_pos (by omega), wrap_nat hil (by omega), ih, bt_bl s i hil, rj2_f s hs i k (by omega) (by omega)]
    have hcc := List.drop_eq_getElem_cons hil
    generalize (bl s)[i] = c at hcc ⊢
    have e32 : (c.toNat : Int) = 32 ↔ c = 32 := u8_eq c 32 (by omega)
    simp only [e32]
    unfold nextL
    rw [hcc]
    by_cases c1 : c = 32
    · have hsp : spU c = true := by subst c1; rfl
      rw [if_pos c1, span_cons_pos hsp, show 1 + span spU (List.drop (i + 1) (bl s)) = span spU (List.drop (i + 1) (bl s)) + 1 by omega, List.drop_succ_cons, show i + 1 + span spU (List.drop (i + 1) (bl s)) = i + (span spU (List.drop (i + 1) (bl s)) + 1) by omega]
    · have hsp : span spU (c :: List.drop (i + 1) (bl s)) = 0 := by
        unfold span
        rw [List.takeWhile_cons]
        simp [spU, c1]
      rw [if_neg c1, hsp]
      rfl
theorem rnext_f (s : ByteArray) (hs : s.size ≤ 140737488351232) (a : Int) (k : Nat) (hk : 2 * (bl s).length + 6 < k) : amalgamref02_Next.f k s a = some (nextS s a) := by
  have hl := bl_len s
  obtain ⟨k, rfl, _⟩ := k_succ hk
  unfold amalgamref02_Next.f nextS
  by_cases c1 : a < 0
  · rw [if_pos c1, if_pos (.inl c1)]
    rfl
  · rw [if_neg c1]
    by_cases c2 : (s.size : Int) < a
    · rw [if_pos (.inr c2), decide_eq_true (by omega)]
      rfl
    · rw [if_neg (by omega), decide_eq_false (by omega)]
      obtain ⟨i, rfl⟩ : ∃ i : Nat, a = (i : Int) := ⟨a.toNat, by omega⟩
      exact rl0_f s hs ((bl s).length - i) i k (by omega) (by omega)
end Go.Proofs.Ytbfcfmobogmfhaa.Sw
