/-
  The plain laws of WordsLists and WordsApart, for texts of at most 1048576 bytes. Conditions: as stated.
-/
import Derived.Test.YtbfcfmobogmfhaaSpecLex
import Derived.Test.YtbfcfmobogmfhaaPWdx5
import Derived.Test.YtbfcfmobogmfhaaPWdx9
namespace Go.Proofs.Ytbfcfmobogmfhaa.Sw
open Go.RowKit Go.Proofs.YtbfcfmobogmfhaaW.PrintWords Go.Proofs.Ytbfcfmobogmfhaa.PWd
theorem listR_len (ws : List Wd) (e z : Int) : (listR ws e z).1.length ≤ ws.length := by
  unfold listR
  split <;> simp
theorem WordsLists (s : ByteArray) (hs : s.size ≤ 1048576) : ∃ k, amalgamlaw02_WordsLists.f k s = some true := by
  have hlen := bl_len s
  obtain ⟨ws, e, z, h⟩ := lex_ex _ (bl s) 0 (Nat.le_refl _)
  have hwl := lex_len h
  have hrl := listR_len ws e z
  refine ⟨3 * (bl s).length + 60, ?_⟩
  unfold amalgamlaw02_WordsLists.f
  rw [head_true _ (by omega), Option.bind_some, list_f s (by omega) h (by omega) _ (by omega), Option.bind_some, rlist_f s (by omega) h (by omega) _ (by omega), Option.bind_some, same_f _ (by omega) _ (by omega)]
  simp
/-! two texts with a blank between -/
theorem span_blank {l : List UInt8} (h : l.drop (span spU l) = []) : ∀ c ∈ l, c = 32 := by
  induction l with
  | nil => intro c hc; cases hc
  | cons x l ih =>
    cases hx : spU x with
    | true =>
      have hx2 : x = 32 := by simpa [spU] using hx
      rw [span_cons_pos hx, Nat.add_comm, List.drop_succ_cons] at h
      intro c hc
      rcases List.mem_cons.mp hc with rfl | hc
      · exact hx2
      · exact ih h c hc
    | false =>
      have : span spU (x :: l) = 0 := by simp [span, hx]
      rw [this] at h
      cases h
theorem lex_blank {l : List UInt8} {p : Nat} {ws : List Wd} {e z : Int} (h : Lex l (p + 1) ws e z) : Lex (32 :: l) p ws e z := by
  have hsp : span spU (32 :: l) = 1 + span spU l := span_cons_pos rfl
  have hd : (32 :: l).drop (span spU (32 :: l)) = l.drop (span spU l) := by rw [hsp, Nat.add_comm, List.drop_succ_cons]
  have hp : p + span spU (32 :: l) = p + 1 + span spU l := by rw [hsp]; omega
  generalize hq : p + 1 = q at h
  subst hq
  cases h with
  | stop _ _ h => exact .stop _ _ (by rw [hd]; exact h)
  | bad _ _ h kd n e ht he =>
    rw [← hp]
    exact .bad _ _ (by rw [hd]; exact h) kd n e (by rw [hd]; exact ht) he
  | word _ _ h kd n ht ws e z hr =>
    have := Lex.word (32 :: l) p (by rw [hd]; exact h) kd n (by rw [hd]; exact ht) ws e z (by rw [hd, hp]; exact hr)
    rw [hd, hp] at this
    exact this
theorem lex_blanks : ∀ (a : List UInt8) {l : List UInt8} {p : Nat} {ws : List Wd} {e z : Int}, (∀ c ∈ a, c = 32) → Lex l (p + a.length) ws e z → Lex (a ++ l) p ws e z
  | [], _, _, _, _, _, _, h => h
  | c :: a, l, p, ws, e, z, hc, h => by
    obtain rfl := hc c (by simp)
    exact lex_blank (lex_blanks a (fun c hc' => hc c (by simp [hc'])) (by rw [show p + 1 + a.length = p + (32 :: a).length by simp; omega]; exact h))
theorem span_app {q : UInt8 → Bool} {l : List UInt8} (x : List UInt8) (h : l.drop (span q l) ≠ []) : span q (l ++ x) = span q l := by
  induction l with
  | nil => simp at h
  | cons c l ih =>
    cases hc : q c with
    | true =>
      rw [span_cons_pos hc, Nat.add_comm, List.drop_succ_cons] at h
      rw [List.cons_append, span_cons_pos hc, span_cons_pos hc, ih h]
    | false => simp [span, hc]
theorem span_end {q : UInt8 → Bool} (hq : q 32 = false) (t b : List UInt8) : span q (t ++ 32 :: b) = span q t := by
  induction t with
  | nil => simp [span, hq]
  | cons c t ih =>
    cases hc : q c with
    | true => rw [List.cons_append, span_cons_pos hc, span_cons_pos hc, ih]
    | false => simp [span, hc]
theorem head_end (t b : List UInt8) (c : UInt8) (hc : c ≠ 32) : ((t ++ 32 :: b).head? = some c) = (t.head? = some c) := by
  cases t with
  | nil =>
    simp only [List.nil_append, List.head?_cons, Option.some.injEq, List.head?_nil]
    exact propext ⟨fun h => absurd h.symm hc, fun h => by cases h⟩
  | cons x t => rfl
theorem tok_end {m : List UInt8} (hm : m ≠ []) (b : List UInt8) : tokL (m ++ 32 :: b) = tokL m := by
  obtain ⟨c, t, rfl⟩ := List.exists_cons_of_ne_nil hm
  rw [List.cons_append]
  simp only [tokL, head_end t b 62 (by decide), head_end t b 48 (by decide), span_end (q := lowdigU) (by decide) t b, span_end (q := allU) (by decide) t b, span_end (q := digU) (by decide) t b]
theorem lex_apart {a : List UInt8} {p : Nat} {ws : List Wd} {e z : Int} (h : Lex a p ws e z) (b : List UInt8) (ms : List Wd) (f y : Int) : e = 0 → Lex b (p + a.length + 1) ms f y → Lex (a ++ 32 :: b) p (ws ++ ms) f y := by
  induction h with
  | stop l p h =>
    intro _ hb
    exact lex_blanks l (span_blank h) (lex_blank hb)
  | bad l p h kd n e ht he => exact fun h0 => absurd h0 he
  | word l p h kd n ht ws e z hr ih =>
    intro h0 hb
    have hok := tok_ok h ht
    have hsp := span_app (32 :: b) h
    have hle := span_le spU l
    have hd : (l ++ 32 :: b).drop (span spU (l ++ 32 :: b)) = l.drop (span spU l) ++ 32 :: b := by rw [hsp, List.drop_append_of_le_length hle]
    rw [List.length_drop] at hok
    have ih := ih h0 (by
      rw [List.length_drop, List.length_drop, show p + span spU l + n + (l.length - span spU l - n) + 1 = p + l.length + 1 by omega]
      exact hb)
    have ht2 := tok_end h b
    have hn : n ≤ (l.drop (span spU l)).length := by rw [List.length_drop]; omega
    have := Lex.word (l ++ 32 :: b) p (by rw [hd]; simp) kd n (by rw [hd, ht2]; exact ht) (ws ++ ms) f y (by rw [hd, hsp, List.drop_append_of_le_length hn]; exact ih)
    rw [hd, hsp, List.take_append_of_le_length hn] at this
    exact this
def shN (d : Nat) (w : Wd) : Wd := ⟨w.f0, w.f1, w.f2 + (d : Int)⟩
theorem lex_shift {l : List UInt8} {p : Nat} {ws : List Wd} {e z : Int} (h : Lex l p ws e z) (d : Nat) : ∃ y, Lex l (p + d) (ws.map (shN d)) e y := by
  induction h with
  | stop l p h => exact ⟨0, .stop l _ h⟩
  | bad l p h kd n e ht he => exact ⟨_, .bad l _ h kd n e ht he⟩
  | word l p h kd n ht ws e z hr ih =>
    obtain ⟨y, ih⟩ := ih
    refine ⟨y, ?_⟩
    have := Lex.word l (p + d) h kd n ht (ws.map (shN d)) e y (by rw [show p + d + span spU l + n = p + span spU l + n + d by omega]; exact ih)
    rw [show ((p + d + span spU l : Nat) : Int) = ((p + span spU l : Nat) : Int) + (d : Int) by omega] at this
    exact this
theorem lex_bound {l : List UInt8} {p : Nat} {ws : List Wd} {e z : Int} (h : Lex l p ws e z) : ∀ w ∈ ws, 0 ≤ w.f2 ∧ w.f2 ≤ (p + l.length : Nat) := by
  induction h with
  | stop => intro w hw; cases hw
  | bad => intro w hw; cases hw
  | word l p h kd n ht ws e z hr ih =>
    intro w hw
    have hle := span_le spU l
    have hok := tok_ok h ht
    rw [List.length_drop] at hok
    rcases List.mem_cons.mp hw with rfl | hw
    · dsimp only
      omega
    · have := ih w hw
      rw [List.length_drop, List.length_drop] at this
      omega
theorem rd_at (l : List Wd) (i : Nat) (h : i < l.length) : rd_T26 l (i : Int) = l[i] := by
  unfold rd_T26
  rw [Int.toNat_natCast, List.getD_eq_getElem?_getD, List.getElem?_eq_getElem h]
  rfl
theorem apart_l0 (a : ByteArray) (ha : a.size ≤ 1048576) (x6 x12 ms : List Wd) (hm : ms.length ≤ 1048576) (hb : ∀ w ∈ ms, 0 ≤ w.f2 ∧ w.f2 ≤ 1048576) (h12 : x12 = x6 ++ ms.map (shN (a.size + 1))) (h6 : x6.length ≤ 1048576) :
    ∀ (d i k : Nat), i + d = ms.length → d + 3000000 < k → amalgamlaw02_WordsApart.l0 k a x6 ((ms.take i).map (shN (a.size + 1)) ++ ms.drop i) x12 i = some true := by
  intro d
  induction d with
  | zero =>
    intro i k hi hk
    obtain ⟨k, rfl, _⟩ := k_succ hk
    have hx : (ms.take i).map (shN (a.size + 1)) ++ ms.drop i = ms.map (shN (a.size + 1)) := by
      rw [List.take_of_length_le (by omega), List.drop_eq_nil_of_le (by omega), List.append_nil]
    rw [hx]
    simp only [amalgamlaw02_WordsApart.l0]
    rw [List.length_map, if_neg (by omega), if_pos (by omega), if_pos (by rw [h12]; simp; omega), Int.toNat_natCast, h12]
    rw [List.take_left, List.drop_left, same_f _ (by omega) _ (by omega), Option.bind_some, if_pos rfl, same_f _ (by rw [List.length_map]; omega) _ (by rw [List.length_map]; omega)]
    rfl
  | succ d ih =>
    intro i k hi hk
    obtain ⟨k, rfl, _⟩ := k_succ hk
    have hil : i < ms.length := by omega
    have hL : ((ms.take i).map (shN (a.size + 1))).length = i := by rw [List.length_map, List.length_take]; omega
    have hlen : ((ms.take i).map (shN (a.size + 1)) ++ ms.drop i).length = ms.length := by rw [List.length_append, hL, List.length_drop]; omega
    have hget : rd_T26 ((ms.take i).map (shN (a.size + 1)) ++ ms.drop i) (i : Int) = ms[i] := by
      unfold rd_T26
      rw [Int.toNat_natCast, List.getD_eq_getElem?_getD, List.getElem?_append_right (by omega), hL, Nat.sub_self, List.getElem?_drop, Nat.add_zero, List.getElem?_eq_getElem hil]
      rfl
    have hbi := hb ms[i] (List.getElem_mem hil)
    have hw : wrap64 (wrap64 (ms[i].f2 + (a.size : Int)) + 1) = ms[i].f2 + ((a.size + 1 : Nat) : Int) := by
      unfold wrap64
      omega
    have hset : ((ms.take i).map (shN (a.size + 1)) ++ ms.drop i).set i (shN (a.size + 1) ms[i]) = (ms.take (i + 1)).map (shN (a.size + 1)) ++ ms.drop (i + 1) := by
      rw [List.set_append_right _ _ (by omega), hL, Nat.sub_self, List.drop_eq_getElem_cons hil, List.set_cons_zero, List.take_succ_eq_append_getElem hil, List.map_append, List.append_assoc]
      rfl
    simp only [amalgamlaw02_WordsApart.l0]
    rw [if_pos (by rw [hlen]; omega), if_pos (by omega), hget, hw, Int.toNat_natCast]
    have he : (⟨ms[i].f0, ms[i].f1, ms[i].f2 + ((a.size + 1 : Nat) : Int)⟩ : Wd) = shN (a.size + 1) ms[i] := rfl
    rw [he, hset, wrap_nat hil (by omega)]
    exact ih (i + 1) k (by omega) (by omega)
theorem bl_append (a b : ByteArray) : bl (a ++ b) = bl a ++ bl b := by
  simp [bl, ByteArray.data_append]
theorem WordsApart (a b : ByteArray) (ha : a.size + b.size ≤ 1048576) : ∃ k, amalgamlaw02_WordsApart.f k a b = some true := by
  have hla := bl_len a
  have hlb := bl_len b
  obtain ⟨ws, e, z, h⟩ := lex_ex _ (bl a) 0 (Nat.le_refl _)
  obtain ⟨ms, f, y, g⟩ := lex_ex _ (bl b) 0 (Nat.le_refl _)
  have hwl := lex_len h
  have hml := lex_len g
  refine ⟨9000000, ?_⟩
  unfold amalgamlaw02_WordsApart.f
  rw [head_true _ (by omega), Option.bind_some, list_f a (by omega) h (by omega) _ (by omega), Option.bind_some, list_f b (by omega) g (by omega) _ (by omega), Option.bind_some, if_pos rfl]
  have hj0 : ∀ x9, amalgamlaw02_WordsApart.j0 9000000 a b true (listR ws e z).1 x9 true = some true := fun x9 => by
    rw [show (9000000 : Nat) = 8999999 + 1 from rfl]
    simp only [amalgamlaw02_WordsApart.j0]
    simp
  by_cases he : e = 0
  · have hz := lex_zero h he
    subst he
    by_cases hf : f = 0
    · subst hf
      have hlr : ∀ (ws : List Wd) (z : Int), listR ws 0 z = (ws, 0, 0) := fun ws z => by unfold listR; rw [if_pos rfl]
      rw [hlr, hlr, if_pos rfl, show (9000000 : Nat) = 8999999 + 1 from rfl]
      obtain ⟨y', g2⟩ := lex_shift g (a.size + 1)
      rw [show 0 + (a.size + 1) = 0 + (bl a).length + 1 by omega] at g2
      have hx := lex_apart h (bl b) _ _ _ rfl g2
      have hbl : bl ((a ++ (⟨#[32]⟩ : ByteArray)) ++ b) = bl a ++ 32 :: bl b := by
        rw [bl_append, bl_append, List.append_assoc]
        rfl
      rw [← hbl] at hx
      have hs1 : (a ++ (⟨#[32]⟩ : ByteArray)).size = a.size + 1 := by rw [ByteArray.size_append]; rfl
      have hs2 : ((a ++ (⟨#[32]⟩ : ByteArray)) ++ b).size = a.size + 1 + b.size := by rw [ByteArray.size_append, hs1]
      have hbs := bl_len ((a ++ (⟨#[32]⟩ : ByteArray)) ++ b)
      simp only [amalgamlaw02_WordsApart.j0]
      rw [if_neg (by simp), if_pos (by omega), if_pos (by omega), list_f _ (by omega) hx (by rw [List.length_append, List.length_map]; omega) _ (by omega), Option.bind_some, hlr, if_pos rfl]
      have hc : ((((ws ++ ms.map (shN (a.size + 1))).length : Nat) : Int) != wrap64 ((ws.length : Int) + (ms.length : Int))) = false := by
        rw [bne_eq_false_iff_eq, List.length_append, List.length_map]
        unfold wrap64
        omega
      dsimp only
      rw [hc, show (8999999 : Nat) = 8999998 + 1 from rfl]
      simp only [amalgamlaw02_WordsApart.j1]
      rw [if_neg Bool.false_ne_true]
      have := apart_l0 a (by omega) ws _ ms (by omega) (fun w hw => by have := lex_bound g w hw; omega) rfl (by omega) ms.length 0 8999998 (by omega) (by omega)
      simpa using this
    · have hb1 : (listR ms f y).2.1 = f := by unfold listR; rw [if_neg hf]
      have hb2 : (f != 0) = true := bne_iff_ne.mpr hf
      have ha1 : (listR ws 0 z).2.1 = 0 := by unfold listR; rw [if_pos rfl]
      rw [if_pos ha1, hb1, hb2]
      exact hj0 _
  · have ha1 : (listR ws e z).2.1 = e := by unfold listR; rw [if_neg he]
    rw [ha1, if_neg he]
    exact hj0 _
end Go.Proofs.Ytbfcfmobogmfhaa.Sw
