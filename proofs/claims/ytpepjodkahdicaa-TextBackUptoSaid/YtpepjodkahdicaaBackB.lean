/-
  The plain law of TextBack: what is shown is read as the same. Conditions: not too many binds.
-/
-- Written by programs of this session (wip/tools), cut to what the claim uses (wip/tools/prune.py).
import Derived.Test.YtpepjodkahdicaaBackA
import Derived.Test.YtpepjodkahdicaaPTbx12
import Derived.Test.YtpepjodkahdicaaPTbx13
import Derived.Test.YtpepjodkahdicaaPTbx14
import Derived.Test.YtpepjodkahdicaaPTbx15
namespace Go.Proofs.Ytpepjodkahdicaa.Sw
open Go.RowKit Go.Proofs.YtpepjodkahdicaaW.PrintWords Go.Proofs.Ytpepjodkahdicaa.PTb
abbrev Bd := S46
theorem join_one (x sep : List UInt8) : Lib.join [x] sep = x := by
  simp [Lib.join, List.intercalate, List.intersperse]
theorem rdB_at (l : List Bd) (i : Nat) (h : i < l.length) : rd_T46 l (i : Int) = l[i] := rd_nat l _ i h
def itm (x : Bd) (ts : List Tk) : List UInt8 := bl x.f0 ++ 32 :: 45 :: 62 :: 32 :: flat ts
/-- binds, the words that show them, the texts of each -/
inductive BT (g : List Sym) : List Bd → List Tk → List (List UInt8) → Prop
  | nil : BT g [] [] []
  | one (x : Bd) (n : Nat) (ts : List Tk) (hv : varB x.f0 = true) (hs : Sh g n x.f1 ts) (hf : (flat ts).length ≤ 559) (hl : ts.length ≤ 119) (hc : ckV g x.f1 = 0) : BT g [x] ((2, x.f0) :: (7, ⟨#[45, 62]⟩) :: ts) [itm x ts]
  | cons (x : Bd) (n : Nat) (ts : List Tk) (hv : varB x.f0 = true) (hs : Sh g n x.f1 ts) (hf : (flat ts).length ≤ 559) (hl : ts.length ≤ 119) (hc : ckV g x.f1 = 0) (y : Bd) (l : List Bd) (us : List Tk) (s2 : List UInt8) (ss : List (List UInt8)) (h : BT g (y :: l) us (s2 :: ss)) :
      BT g (x :: y :: l) ((2, x.f0) :: (7, ⟨#[45, 62]⟩) :: (ts ++ (5, ⟨#[44]⟩) :: us)) (itm x ts :: s2 :: ss)
theorem BT_ex (g : List Sym) (hg : Syms g) : ∀ (l : List Bd), (∀ x ∈ l, varB x.f0 = true ∧ Good g x.f1 ∧ cnt x.f1 ≤ 40) → ∃ us ss, BT g l us ss ∧ (l ≠ [] → ∃ s2 ss2, ss = s2 :: ss2)
  | [], _ => ⟨[], [], .nil, fun h => absurd rfl h⟩
  | [x], h => by
    obtain ⟨h1, h2, h3⟩ := h x (by simp)
    obtain ⟨n, ts, h4, h5, h6⟩ := sh_ex g hg x.f1 h2
    exact ⟨_, _, .one x n ts h1 h4 (by omega) (by omega) (ckV_good g x.f1 h2 h3), fun _ => ⟨_, _, rfl⟩⟩
  | x :: y :: l, h => by
    obtain ⟨h1, h2, h3⟩ := h x (by simp)
    obtain ⟨n, ts, h4, h5, h6⟩ := sh_ex g hg x.f1 h2
    obtain ⟨us, ss, h7, h8⟩ := BT_ex g hg (y :: l) (fun z hz => h z (by simp at hz ⊢; exact .inr hz))
    obtain ⟨s2, ss2, rfl⟩ := h8 (by simp)
    exact ⟨_, _, .cons x n ts h1 h4 (by omega) (by omega) (ckV_good g x.f1 h2 h3) y l us s2 ss2 h7, fun _ => ⟨_, _, rfl⟩⟩
theorem BT_all {g : List Sym} {l : List Bd} {us : List Tk} {ss : List (List UInt8)} (h : BT g l us ss) : ∀ x ∈ l, ckV g x.f1 = 0 ∧ ∃ n ts, Sh g n x.f1 ts ∧ ts.length ≤ 119 := by
  induction h with
  | nil => intro x hx; cases hx
  | one x n ts hv hs hf hl hc =>
    intro z hz
    obtain rfl := List.mem_singleton.1 hz
    exact ⟨hc, n, ts, hs, hl⟩
  | cons x n ts hv hs hf hl hc y l us s2 ss h ih =>
    intro z hz
    rcases List.mem_cons.1 hz with rfl | hz
    · exact ⟨hc, n, ts, hs, hl⟩
    · exact ih z hz
theorem BT_len {g : List Sym} {l : List Bd} {us : List Tk} {ss : List (List UInt8)} (h : BT g l us ss) : ss.length = l.length ∧ l.length ≤ us.length ∧ (Lib.join ss [44, 32]).length ≤ 600 * l.length := by
  induction h with
  | nil => simp [Lib.join]
  | one x n ts hv hs hf hl hc =>
    have := varB_len hv
    have := bl_len x.f0
    refine ⟨rfl, by simp, ?_⟩
    rw [join_one]
    simp only [List.length_cons, List.length_nil, itm, List.length_append]
    omega
  | cons x n ts hv hs hf hl hc y l us s2 ss h ih =>
    have := varB_len hv
    have := bl_len x.f0
    rw [join_more]
    simp only [List.length_cons, List.length_nil, itm, List.length_append] at ih ⊢
    omega
theorem itm_lex {g : List Sym} {x : Bd} {n : Nat} {ts us : List Tk} {r : List UInt8} (hv : varB x.f0 = true) (hs : Sh g n x.f1 ts) (hr : Stop r) (h : Lex r us 0) : Lex (itm x ts ++ r) ((2, x.f0) :: (7, ⟨#[45, 62]⟩) :: (ts ++ us)) 0 := by
  have hV := VV_of hv
  have hL : Lex (flat ts ++ r) (ts ++ us) 0 := (sh_lex g n).1 x.f1 ts r us 0 hs hr h
  have := lex_one (m := bl x.f0) (kd := 2) (VV_ne hV).1 (span_head (VV_ne hV).1 (VV_ne hV).2) (tok_VV hV _ (.inr ⟨32, _, rfl, by simp⟩)) (lex_blank (lex_arrow (lex_blank hL)))
  simpa [itm] using this
theorem BT_lex {g : List Sym} {l : List Bd} {us : List Tk} {ss : List (List UInt8)} (h : BT g l us ss) : Lex (Lib.join ss [44, 32]) us 0 := by
  induction h with
  | nil => exact .stop [] rfl
  | one x n ts hv hs hf hl hc =>
    have := itm_lex hv hs (.inl rfl) (.stop [] rfl)
    simpa [join_one] using this
  | cons x n ts hv hs hf hl hc y l us s2 ss h ih =>
    rw [join_more, List.append_assoc]
    exact itm_lex hv hs (.inr ⟨44, _, rfl, by simp⟩) (lex_sign (.inr (.inr ⟨rfl, rfl⟩)) (lex_blank ih))
theorem BT_rd {g : List Sym} (hg : g.length ≤ 140737488351232) (s : ByteArray) (hs : s.size ≤ 140737488351232) {l : List Bd} {us : List Tk} {ss : List (List UInt8)} (h : BT g l us ss) : l ≠ [] → ∀ (p : Nat), p ≤ (bl s).length → Lex ((bl s).drop p) us 0 → us.length ≤ 1000000 → ∀ (acc : List Bd) (kd : Int), kd ≠ 0 → acc.length + l.length ≤ 1000000 → ∃ K, ∀ k, K ≤ k → rdBinds k g s kd (p : Int) acc = some (acc ++ l) := by
  induction h with
  | nil => intro h; exact absurd rfl h
  | one x n ts hv hsh hf hl hc =>
    intro _ p hp L hus acc kd hkd hacc
    obtain ⟨w1, p1, r1, hp1, L1⟩ := rnext_cons s hs p ((bl s).length + 1) hp (by omega) _ _ _ _ L
    obtain ⟨w2, p2, r2, hp2, L2⟩ := rnext_cons s hs p1 ((bl s).length + 1) hp1 (by omega) _ _ _ _ L1
    obtain ⟨K3, p3, r3, hp3, L3⟩ := rd_sh g hg s hs p2 hp2 n x.f1 ts [] hsh (fun y us' e => by cases e) (by rw [List.append_nil]; exact L2) (by simp; omega)
    obtain ⟨tx, w4, en, r4⟩ := peek_nil0 s hs p3 ((bl s).length + 1) hp3 (by omega) L3
    refine ⟨K3 + (bl s).length + 3, fun k hk => ?_⟩
    obtain ⟨k, rfl, _⟩ := k_succ (show K3 + (bl s).length + 2 < k by omega)
    rw [rdBinds, if_neg hkd, at_rounds (fun k => rdNext.mono s p k) (show (bl s).length + 1 ≤ k by omega) r1, Option.bind_some]
    dsimp only
    rw [if_pos rfl, at_rounds (fun k => rdNext.mono s p1 k) (show (bl s).length + 1 ≤ k by omega) r2, Option.bind_some]
    dsimp only
    rw [if_pos rfl, r3 k (by omega), Option.bind_some]
    dsimp only
    rw [if_pos (by omega), at_rounds (fun k => rdPeek.mono s p3 k) (show (bl s).length + 1 ≤ k by omega) r4, Option.bind_some]
    dsimp only
    rw [if_pos rfl]
    obtain ⟨k, rfl, _⟩ := k_succ (show 0 < k by omega)
    rw [rdBinds, if_pos rfl]
  | cons x n ts hv hsh hf hl hc y l us s2 ss h ih =>
    intro _ p hp L hus acc kd hkd hacc
    simp only [List.length_cons, List.length_append] at hus hacc
    obtain ⟨w1, p1, r1, hp1, L1⟩ := rnext_cons s hs p ((bl s).length + 1) hp (by omega) _ _ _ _ L
    obtain ⟨w2, p2, r2, hp2, L2⟩ := rnext_cons s hs p1 ((bl s).length + 1) hp1 (by omega) _ _ _ _ L1
    obtain ⟨K3, p3, r3, hp3, L3⟩ := rd_sh g hg s hs p2 hp2 n x.f1 ts ((5, ⟨#[44]⟩) :: us) hsh (fun y us' e => by cases e; decide) L2 (by simp; omega)
    obtain ⟨_, w4, p4, r4, hp4, L4⟩ := peek_cons s hs p3 ((bl s).length + 1) hp3 (by omega) _ _ _ _ L3
    obtain ⟨K5, r5⟩ := ih (by simp) p4 hp4 L4 (by omega) (acc ++ [x]) 5 (by decide) (by simp; omega)
    refine ⟨K3 + K5 + (bl s).length + 3, fun k hk => ?_⟩
    obtain ⟨k, rfl, _⟩ := k_succ (show K3 + K5 + (bl s).length + 2 < k by omega)
    rw [rdBinds, if_neg hkd, at_rounds (fun k => rdNext.mono s p k) (show (bl s).length + 1 ≤ k by omega) r1, Option.bind_some]
    dsimp only
    rw [if_pos rfl, at_rounds (fun k => rdNext.mono s p1 k) (show (bl s).length + 1 ≤ k by omega) r2, Option.bind_some]
    dsimp only
    rw [if_pos rfl, r3 k (by omega), Option.bind_some]
    dsimp only
    rw [if_pos (by omega), at_rounds (fun k => rdPeek.mono s p3 k) (show (bl s).length + 1 ≤ k by omega) r4, Option.bind_some]
    dsimp only
    rw [if_neg (by decide), if_pos rfl]
    have := r5 k (by omega)
    rw [List.append_assoc, List.singleton_append] at this
    exact this
theorem mays_all (g : List Sym) (l : List Bd) (hl : ∀ x ∈ l, ckV g x.f1 = 0) : ∀ (d i : Nat), i + d = l.length → ∃ K, ∀ k, K ≤ k → rdMays k g l i = some () := by
  intro d
  induction d with
  | zero =>
    intro i hi
    refine ⟨1, fun k hk => ?_⟩
    obtain ⟨k, rfl, _⟩ := k_succ (show 0 < k by omega)
    rw [rdMays, if_neg (by omega)]
  | succ d ih =>
    intro i hi
    have hlt : i < l.length := by omega
    obtain ⟨K1, h1⟩ := ih (i + 1) (by omega)
    obtain ⟨K2, h2⟩ := may_all g [(l[i]).f1] (fun t ht => by rw [List.mem_singleton.1 ht]; exact hl _ (List.getElem_mem hlt)) 1 0 rfl
    refine ⟨K1 + K2 + 1, fun k hk => ?_⟩
    obtain ⟨k, rfl, _⟩ := k_succ (show K1 + K2 < k by omega)
    rw [rdMays, if_pos hlt, rdB_at l i hlt, h2 k (by omega), Option.bind_some]
    exact h1 k (by omega)
theorem binds_f {g : List Sym} (hg : g.length ≤ 140737488351232) (s : ByteArray) (hs : s.size ≤ 800) {l : List Bd} {us : List Tk} {ss : List (List UInt8)} (h : BT g l us ss) (hb : bl s = Lib.join ss [44, 32]) : ∃ K, ∀ k, K ≤ k → text_Binds.f k g s = some (l, 0, 0) := by
  have hlen := bl_len s
  have L := BT_lex h
  rw [← hb] at L
  have hus := lex_len L
  have hl := (BT_len h).2.1
  obtain ⟨K1, r1⟩ := mays_all g l (fun x hx => (BT_all h x hx).1) l.length 0 (by omega)
  by_cases hz : l = []
  · subst hz
    cases h with
    | nil =>
      obtain ⟨tx, wt, en, r2⟩ := peek_nil0 s (by omega) 0 ((bl s).length + 1) (by omega) (by omega) (by rw [List.drop_zero]; exact L)
      refine ⟨K1 + (bl s).length + 2, fun k hk => ?_⟩
      unfold text_Binds.f rdBindsF bindsHow
      have e2 := at_rounds (fun k => rdPeek.mono s 0 k) (show (bl s).length + 1 ≤ k by omega) r2
      rw [if_pos hs, e2, Option.bind_some]
      dsimp only
      obtain ⟨k, rfl, _⟩ := k_succ (show K1 < k by omega)
      rw [rdBinds, if_pos rfl, Option.bind_some, r1 (k + 1) (by omega), Option.bind_some, Option.bind_some]
  · obtain ⟨K2, r2⟩ := BT_rd hg s (by omega) h hz 0 (by omega) (by rw [List.drop_zero]; exact L) (by omega) [] 2 (by decide) (by simp; omega)
    obtain ⟨x, tx, hh⟩ : ∃ tx us', us = (2, tx) :: us' := by
      cases h with
      | nil => exact absurd rfl hz
      | one => exact ⟨_, _, rfl⟩
      | cons => exact ⟨_, _, rfl⟩
    subst hh
    obtain ⟨_, wt, q, r3, _, _⟩ := peek_cons s (by omega) 0 ((bl s).length + 1) (by omega) (by omega) _ _ _ _ (by rw [List.drop_zero]; exact L)
    refine ⟨K1 + K2 + (bl s).length + 2, fun k hk => ?_⟩
    unfold text_Binds.f rdBindsF bindsHow
    have e2 := at_rounds (fun k => rdPeek.mono s ((0 : Nat) : Int) k) (show (bl s).length + 1 ≤ k by omega) r3
    have e3 := r2 k (by omega)
    rw [show ((0 : Nat) : Int) = 0 from rfl] at e2 e3
    rw [if_pos hs, e2, Option.bind_some]
    dsimp only
    rw [e3, List.nil_append, Option.bind_some, r1 k (by omega), Option.bind_some, Option.bind_some]
def mkB (m : List UInt8) : ByteArray := ⟨m.toArray⟩
theorem itm_bytes (x : Bd) (ts : List Tk) : (x.f0 ++ (⟨#[32, 45, 62, 32]⟩ : ByteArray)) ++ (⟨(flat ts).toArray⟩ : ByteArray) = mkB (itm x ts) := by
  apply bl_ext
  rw [bl_app, bl_app]
  simp [itm, mkB, bl]
theorem show_one {g : List Sym} {B : List Bd} {i : Nat} (hi : i < B.length) {x : Bd} (hx : B[i] = x) {n : Nat} {ts : List Tk} (hB : B.length ≤ 1048576) (hv : varB x.f0 = true) (hs : Sh g n x.f1 ts) (hf : (flat ts).length ≤ 559) (hl : ts.length ≤ 119) :
    ∃ K, ∀ k, K ≤ k → ∀ acc : List ByteArray, acc.length ≤ i → text_ShowBinds.l0 (k + 1) g acc B (B.length : Int) (i : Int) = text_ShowBinds.l0 k g (acc ++ [mkB (itm x ts)]) B (B.length : Int) ((i + 1 : Nat) : Int) := by
  obtain ⟨K, h⟩ := (show_sh g n).1 x.f1 ts hs (by omega) (by omega)
  have h1 := varB_len hv
  refine ⟨K, fun k hk acc hacc => ?_⟩
  have hsz : (⟨(flat ts).toArray⟩ : ByteArray).size = (flat ts).length := mk_size _
  rw [text_ShowBinds.l0, if_pos (by omega), if_pos (by omega), if_pos (by omega), rdB_at B i hi, hx, if_pos (by omega), h k hk, Option.bind_some, if_pos (by rw [app_size, hsz]; show x.f0.size + 4 + _ ≤ _; omega), if_pos (by omega), wrap_nat hi (by omega), itm_bytes]
theorem BT_show {g : List Sym} {l : List Bd} {us : List Tk} {ss : List (List UInt8)} (h : BT g l us ss) (B : List Bd) (hB : B.length ≤ 1048576) : ∀ i, B.drop i = l → i + l.length = B.length → ∃ K, ∀ k, K ≤ k → ∀ acc : List ByteArray, acc.length ≤ i → text_ShowBinds.l0 k g acc B (B.length : Int) (i : Int) = (strings_Join.f (acc ++ ss.map mkB) (⟨#[44, 32]⟩ : ByteArray)).bind fun t => some t := by
  have fin : ∀ i, i = B.length → ∀ k, 1 ≤ k → ∀ acc : List ByteArray, text_ShowBinds.l0 k g acc B (B.length : Int) (i : Int) = (strings_Join.f acc (⟨#[44, 32]⟩ : ByteArray)).bind fun t => some t := fun i hi k hk acc => by
    obtain ⟨k, rfl, _⟩ := k_succ (show 0 < k by omega)
    rw [text_ShowBinds.l0, if_neg (by omega)]
  induction h with
  | nil =>
    intro i hd hi
    refine ⟨1, fun k hk acc hacc => ?_⟩
    rw [fin i (by simpa using hi) k hk acc, List.map_nil, List.append_nil]
  | one x n ts hv hs hf hl hc =>
    intro i hd hi
    simp only [List.length_cons, List.length_nil] at hi
    have hlt : i < B.length := by omega
    rw [List.drop_eq_getElem_cons hlt] at hd
    obtain ⟨K, h⟩ := show_one hlt (List.cons.inj hd).1 hB hv hs hf hl
    refine ⟨K + 2, fun k hk acc hacc => ?_⟩
    obtain ⟨k, rfl, _⟩ := k_succ (show K + 1 < k by omega)
    rw [h k (by omega) acc hacc, fin (i + 1) (by omega) k (by omega)]
    rfl
  | cons x n ts hv hs hf hl hc y l us s2 ss h ih =>
    intro i hd hi
    simp only [List.length_cons] at hi
    have hlt : i < B.length := by omega
    rw [List.drop_eq_getElem_cons hlt] at hd
    obtain ⟨K, h1⟩ := show_one hlt (List.cons.inj hd).1 hB hv hs hf hl
    obtain ⟨K2, h2⟩ := ih (i + 1) (List.cons.inj hd).2 (by simp only [List.length_cons]; omega)
    refine ⟨K + K2 + 2, fun k hk acc hacc => ?_⟩
    obtain ⟨k, rfl, _⟩ := k_succ (show K + K2 + 1 < k by omega)
    rw [h1 k (by omega) acc hacc, h2 k (by omega) _ (by simp; omega), List.append_assoc]
    rfl
theorem showBinds_f {g : List Sym} {B : List Bd} {us : List Tk} {ss : List (List UInt8)} (h : BT g B us ss) (hB : B.length ≤ 1048576) : ∃ K, ∀ k, K ≤ k → text_ShowBinds.f k g B = some (mkB (Lib.join ss [44, 32])) := by
  obtain ⟨K, h1⟩ := BT_show h B hB 0 (List.drop_zero) (by omega)
  obtain ⟨e1, _, e3⟩ := BT_len h
  refine ⟨K, fun k hk => ?_⟩
  have h2 := h1 k hk [] (by simp)
  rw [List.nil_append, show ((0 : Nat) : Int) = 0 from rfl] at h2
  unfold text_ShowBinds.f
  rw [h2]
  have hm : (ss.map mkB).map (fun x => x.data.toList) = ss := by
    rw [List.map_map]
    conv => rhs; rw [← List.map_id ss]
    apply List.map_congr_left
    intro m _
    simp [mkB]
  unfold strings_Join.f
  rw [hm]
  rw [if_pos (by rw [List.length_map, e1]; omega), if_pos (by show (Lib.join ss [44, 32]).length ≤ _; omega), Option.bind_some]
  rfl
theorem same_f {g : List Sym} {B : List Bd} {us : List Tk} {ss : List (List UInt8)} (h : BT g B us ss) (hB : B.length ≤ 1048576) : ∃ K, ∀ k, K ≤ k → amalgamlaw05_same.f k B B = some true := by
  have H : ∀ (d i : Nat), i + d = B.length → ∃ K, ∀ k, K ≤ k → amalgamlaw05_same.l0 k B B (i : Int) = some true := by
    intro d
    induction d with
    | zero =>
      intro i hi
      refine ⟨1, fun k hk => ?_⟩
      obtain ⟨k, rfl, _⟩ := k_succ (show 0 < k by omega)
      rw [amalgamlaw05_same.l0, if_neg (by omega)]
    | succ d ih =>
      intro i hi
      have hlt : i < B.length := by omega
      obtain ⟨K1, h1⟩ := ih (i + 1) (by omega)
      obtain ⟨_, n, ts, h2, h3⟩ := BT_all h B[i] (List.getElem_mem hlt)
      obtain ⟨K2, h4⟩ := (exact_sh g n).1 (B[i]).f1 ts h2 (by omega)
      refine ⟨K1 + K2 + 1, fun k hk => ?_⟩
      obtain ⟨k, rfl, _⟩ := k_succ (show K1 + K2 < k by omega)
      rw [amalgamlaw05_same.l0, if_pos (by omega), if_pos (by omega), if_pos (by omega), rdB_at B i hlt, h4 k (by omega), Option.bind_some, if_pos rfl, if_pos rfl, wrap_nat hlt (by omega), h1 k (by omega)]
  obtain ⟨K, h1⟩ := H B.length 0 (by omega)
  refine ⟨K, fun k hk => ?_⟩
  unfold amalgamlaw05_same.f
  rw [if_pos rfl]
  exact h1 k hk
theorem back_l0 (g : List Sym) (hg : g.length ≤ 16) (hS : Syms g) (B : List Bd) (hB : B.length ≤ 1048576) (a a' : ByteArray) (b b' : Int) (c c' : List Tr) : ∀ (d i : Nat), i + d = B.length → (∀ j (h : j < B.length), j < i → varB (B[j]).f0 = true ∧ Good g (B[j]).f1 ∧ cnt (B[j]).f1 ≤ 40) →
    ∃ K, ∀ k, K ≤ k → amalgamlaw05_TextBack.l0 k (i : Int) g a b c a' b' c' B = some true := by
  intro d
  induction d with
  | zero =>
    intro i hi hok
    obtain ⟨us, ss, hT, _⟩ := BT_ex g hS B (fun x hx => by
      obtain ⟨j, hj, rfl⟩ := List.mem_iff_getElem.1 hx
      exact hok j hj (by omega))
    obtain ⟨K1, h1⟩ := showBinds_f hT hB
    obtain ⟨K2, h2⟩ := same_f hT hB
    have hsz : (mkB (Lib.join ss [44, 32])).size = (Lib.join ss [44, 32]).length := mk_size _
    by_cases h8 : ((mkB (Lib.join ss [44, 32])).size : Int) > 800
    · refine ⟨K1 + 1, fun k hk => ?_⟩
      obtain ⟨k, rfl, _⟩ := k_succ (show K1 < k by omega)
      rw [amalgamlaw05_TextBack.l0, if_neg (by omega), h1 k (by omega), Option.bind_some, if_pos h8]
    · obtain ⟨K3, h3⟩ := binds_f (by omega) (mkB (Lib.join ss [44, 32])) (by omega) hT (by simp [mkB, bl])
      refine ⟨K1 + K2 + K3 + 1, fun k hk => ?_⟩
      obtain ⟨k, rfl, _⟩ := k_succ (show K1 + K2 + K3 < k by omega)
      rw [amalgamlaw05_TextBack.l0, if_neg (by omega), h1 k (by omega), Option.bind_some, if_neg h8, h3 k (by omega), Option.bind_some, if_pos rfl, h2 k (by omega), Option.bind_some]
  | succ d ih =>
    intro i hi hok
    have hlt : i < B.length := by omega
    have hv := r_var (B[i]).f0
    by_cases h1 : varB (B[i]).f0 = true
    · obtain ⟨cc, K2, h2, h3⟩ := check03 g (B[i]).f1
      by_cases h4 : cc = 0
      · obtain ⟨K5, h5⟩ := ih (i + 1) (by omega) (fun j hj hji => by
          by_cases hj2 : j = i
          · subst hj2
            exact ⟨h1, (h3 h4).1, (h3 h4).2⟩
          · exact hok j hj (by omega))
        refine ⟨K2 + K5 + (B[i]).f0.size + 4, fun k hk => ?_⟩
        obtain ⟨k, rfl, _⟩ := k_succ (show K2 + K5 + (B[i]).f0.size + 3 < k by omega)
        rw [amalgamlaw05_TextBack.l0, if_pos (by omega), if_pos (by omega), rdB_at B i hlt, hv k (by omega), Option.bind_some, if_pos h1, h2 k (by omega), Option.bind_some, if_pos h4, wrap_nat hlt (by omega), h5 k (by omega)]
      · refine ⟨K2 + (B[i]).f0.size + 4, fun k hk => ?_⟩
        obtain ⟨k, rfl, _⟩ := k_succ (show K2 + (B[i]).f0.size + 3 < k by omega)
        rw [amalgamlaw05_TextBack.l0, if_pos (by omega), if_pos (by omega), rdB_at B i hlt, hv k (by omega), Option.bind_some, if_pos h1, h2 k (by omega), Option.bind_some, if_neg h4]
    · refine ⟨(B[i]).f0.size + 4, fun k hk => ?_⟩
      obtain ⟨k, rfl, _⟩ := k_succ (show (B[i]).f0.size + 3 < k by omega)
      rw [amalgamlaw05_TextBack.l0, if_pos (by omega), if_pos (by omega), rdB_at B i hlt, hv k (by omega), Option.bind_some, if_neg h1]
theorem TextBack (g : List Sym) (L R : Tr) (B : List Bd) (hB : B.length ≤ 1048576) : ∃ k, amalgamlaw05_TextBack.f k g L.f0 L.f1 L.f2 R.f0 R.f1 R.f2 B = some true := by
  obtain ⟨b, K1, h1, h2⟩ := right_ex g
  obtain ⟨cL, K3, h3, h4⟩ := check03 g L
  obtain ⟨cR, K5, h5, h6⟩ := check03 g R
  have start : ∀ k, K1 + K3 + K5 + 60 ≤ k → amalgamlaw05_TextBack.f k g L.f0 L.f1 L.f2 R.f0 R.f1 R.f2 B = (if b = true then (if cL = 0 then (amalgamlaw05_TextBack.j0 k true (cR != 0) g L.f0 L.f1 L.f2 R.f0 R.f1 R.f2 B) else (amalgamlaw05_TextBack.j0 k true true g L.f0 L.f1 L.f2 R.f0 R.f1 R.f2 B)) else (amalgamlaw05_TextBack.j0 k true true g L.f0 L.f1 L.f2 R.f0 R.f1 R.f2 B)) := fun k hk => by
    unfold amalgamlaw05_TextBack.f
    rw [head_true _ (by omega), Option.bind_some, h1 k (by omega), Option.bind_some, h3 k (by omega), Option.bind_some, h5 k (by omega), Option.bind_some, if_pos rfl]
  have quick : ∀ k, 1 ≤ k → amalgamlaw05_TextBack.j0 k true true g L.f0 L.f1 L.f2 R.f0 R.f1 R.f2 B = some true := fun k hk => by
    obtain ⟨k, rfl, _⟩ := k_succ (show 0 < k by omega)
    rw [amalgamlaw05_TextBack.j0, if_pos rfl]
  by_cases hb : b = true
  · by_cases hL : cL = 0
    · by_cases hR : cR = 0
      · obtain ⟨hg, hS⟩ := h2 hb
        obtain ⟨gL, nL⟩ := h4 hL
        obtain ⟨gR, nR⟩ := h6 hR
        obtain ⟨n1, ts1, s1, f1, l1⟩ := sh_ex g hS L gL
        obtain ⟨n2, ts2, s2, f2, l2⟩ := sh_ex g hS R gR
        have c1 := ckV_good g L gL nL
        have c2 := ckV_good g R gR nR
        obtain ⟨Ka, ha⟩ := (show_sh g n1).1 L ts1 s1 (by omega) (by omega)
        obtain ⟨Kb, hb2⟩ := (show_sh g n2).1 R ts2 s2 (by omega) (by omega)
        obtain ⟨Kc, hc⟩ := (exact_sh g n1).1 L ts1 s1 (by omega)
        obtain ⟨Kd, hd⟩ := (exact_sh g n2).1 R ts2 s2 (by omega)
        have hz1 : (⟨(flat ts1).toArray⟩ : ByteArray).size = (flat ts1).length := mk_size _
        have hz2 : (⟨(flat ts2).toArray⟩ : ByteArray).size = (flat ts2).length := mk_size _
        have hW : Lex (bl (⟨(flat ts1).toArray⟩ : ByteArray)) ts1 0 := by
          have := (sh_lex g n1).1 L ts1 [] [] 0 s1 (.inl rfl) (.stop [] rfl)
          simpa using this
        obtain ⟨d0, hp⟩ := (pT_of g n1).1 L ts1 [] s1 (fun y us' e => by cases e)
        have hp0 := hp d0 (Nat.le_refl _)
        rw [List.append_nil] at hp0
        obtain ⟨Ke, a, he⟩ := term_f g (by omega) ⟨(flat ts1).toArray⟩ (by omega) ts1 0 hW d0 _ hp0
        have hres : resT g 0 (.ok (L, [])) = .ok L := by simp [resT, c1]
        rw [hres] at he
        simp only [outT] at he
        obtain ⟨Kl, hl⟩ := back_l0 g hg hS B hB L.f0 R.f0 L.f1 R.f1 L.f2 R.f2 B.length 0 (by omega) (fun j h hj => by omega)
        rw [show ((0 : Nat) : Int) = 0 from rfl] at hl
        have hShow : ∀ k, Ka + Kb ≤ k → text_ShowEquation.f k g L.f0 L.f1 L.f2 R.f0 R.f1 R.f2 = some (((⟨(flat ts1).toArray⟩ : ByteArray) ++ (⟨#[32, 61, 32]⟩ : ByteArray)) ++ (⟨(flat ts2).toArray⟩ : ByteArray)) := fun k hk => by
          unfold text_ShowEquation.f
          rw [ha k (by omega), Option.bind_some, if_pos (by omega), hb2 k (by omega), Option.bind_some, if_pos (by rw [app_size, hz1, hz2]; show _ + 3 + _ ≤ _; omega)]
        generalize hE : (((⟨(flat ts1).toArray⟩ : ByteArray) ++ (⟨#[32, 61, 32]⟩ : ByteArray)) ++ (⟨(flat ts2).toArray⟩ : ByteArray)) = E at hShow
        have hbE : bl E = flat ts1 ++ 32 :: 61 :: 32 :: flat ts2 := by
          rw [← hE, bl_app, bl_app]
          simp [bl]
        have goj : ∀ k, Ka + Kc + Ke ≤ k → ∀ r, amalgamlaw05_TextBack.j1 k false g L.f0 L.f1 L.f2 R.f0 R.f1 R.f2 B = r → amalgamlaw05_TextBack.j0 (k + 1) true (cR != 0) g L.f0 L.f1 L.f2 R.f0 R.f1 R.f2 B = r := fun k hk r hr => by
          rw [amalgamlaw05_TextBack.j0, hR, if_neg (by decide), ha k (by omega), Option.bind_some, he k (by omega), Option.bind_some, hc k (by omega), Option.bind_some, if_pos rfl]
          exact hr
        by_cases h8 : (E.size : Int) ≤ 800
        · obtain ⟨Kq, hq⟩ := eq_f g (by omega) n1 n2 L R ts1 ts2 s1 s2 c1 c2 E (by omega) hbE (by omega)
          refine ⟨K1 + K3 + K5 + Ka + Kb + Kc + Kd + Ke + Kl + Kq + 60 + 1 + 1 + 1, ?_⟩
          rw [start _ (by omega), if_pos hb, if_pos hL]
          refine goj _ (by omega) _ ?_
          rw [amalgamlaw05_TextBack.j1, if_neg (by decide), hShow _ (by omega), Option.bind_some, if_pos h8, hq _ (by omega), Option.bind_some, hc _ (by omega), Option.bind_some, hd _ (by omega), Option.bind_some, if_pos rfl, if_pos rfl, if_pos rfl, amalgamlaw05_TextBack.j2]
          exact hl _ (by omega)
        · refine ⟨K1 + K3 + K5 + Ka + Kb + Kc + Kd + Ke + Kl + 60 + 1 + 1 + 1, ?_⟩
          rw [start _ (by omega), if_pos hb, if_pos hL]
          refine goj _ (by omega) _ ?_
          rw [amalgamlaw05_TextBack.j1, if_neg (by decide), hShow _ (by omega), Option.bind_some, if_neg h8, amalgamlaw05_TextBack.j2]
          exact hl _ (by omega)
      · refine ⟨K1 + K3 + K5 + 60, ?_⟩
        rw [start _ (by omega), if_pos hb, if_pos hL, show (cR != 0) = true from bne_iff_ne.mpr hR, quick _ (by omega)]
    · refine ⟨K1 + K3 + K5 + 60, ?_⟩
      rw [start _ (by omega), if_pos hb, if_neg hL, quick _ (by omega)]
  · refine ⟨K1 + K3 + K5 + 60, ?_⟩
    rw [start _ (by omega), if_neg hb, quick _ (by omega)]
end Go.Proofs.Ytpepjodkahdicaa.Sw
