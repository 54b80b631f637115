/-
  Plain and Units, and the document's Find, Unit, Units, Plain: what they come to; program and document the same. Conditions: each theorem's own.
-/
import Derived.Test.YthbpbbinpkfchaaSpecSig
import Derived.Test.YthbpbbinpkfchaaPSigx13
import Derived.Test.YthbpbbinpkfchaaPSigx12
import Derived.Test.YthbpbbinpkfchaaPSigx13
import Derived.Test.YthbpbbinpkfchaaPSigx12
import Derived.Test.YthbpbbinpkfchaaPSigx12
import Derived.Test.YthbpbbinpkfchaaPSigx12
namespace Go.Proofs.Ythbpbbinpkfchaa.Sp
open Go.RowKit Go.Proofs.YthbpbbinpkfchaaW.PrintWords Go.Proofs.Ythbpbbinpkfchaa.PSig
/-! Plain -/
def plain1 (x : Sym) : Sym := if x.f1 = 3 then ⟨x.f0, 2, x.f2, ⟨#[]⟩⟩ else x
theorem plain_l0 (l : List Sym) (hl : l.length ≤ 2932031007402) : ∀ (d i k : Nat) (acc : List Sym), i + d = l.length → acc.length = i → d < k →
    sig_Plain.l0 k acc l (l.length : Int) i = some (acc ++ (l.drop i).map plain1) := by
  intro d
  induction d with
  | zero =>
    intro i k acc hi ha hk
    obtain ⟨k, rfl, _⟩ := k_succ hk
    simp only [sig_Plain.l0]
    rw [if_neg (by omega), List.drop_eq_nil_of_le (by omega)]
    simp
  | succ d ih =>
    intro i k acc hi ha hk
    obtain ⟨k, rfl, _⟩ := k_succ hk
    have hil : i < l.length := by omega
    simp only [sig_Plain.l0]
    rw [if_pos (by omega), if_pos (by omega), if_pos (by omega), rd_sym l i hil, wrap_nat hil (by omega), List.drop_eq_getElem_cons hil, List.map_cons]
    by_cases h : l[i].f1 = 3
    · rw [if_pos h, if_pos (show acc.length < 2932031007402 by omega), ih (i + 1) k _ (by omega) (by simp; omega) (by omega)]
      unfold plain1
      rw [if_pos h]; simp
    · rw [if_neg h, if_pos (show acc.length < 2932031007402 by omega), ih (i + 1) k _ (by omega) (by simp; omega) (by omega)]
      unfold plain1
      rw [if_neg h]; simp
theorem plain_f (l : List Sym) (hl : l.length ≤ 2932031007402) (k : Nat) (hk : l.length < k) : sig_Plain.f k l = some (l.map plain1) := by
  unfold sig_Plain.f
  have := plain_l0 l hl l.length 0 k [] (by omega) rfl hk
  simpa using this
theorem r_plain_l0 (l : List Sym) (hl : l.length ≤ 2932031007402) : ∀ (d i k : Nat) (acc : List Sym), i + d = l.length → acc.length = i → d < k →
    amalgamref01_Plain.l0 k l acc i = some (acc ++ (l.drop i).map plain1) := by
  intro d
  induction d with
  | zero =>
    intro i k acc hi ha hk
    obtain ⟨k, rfl, _⟩ := k_succ hk
    simp only [amalgamref01_Plain.l0]
    rw [if_neg (by omega), List.drop_eq_nil_of_le (by omega)]
    simp
  | succ d ih =>
    intro i k acc hi ha hk
    obtain ⟨k, rfl, _⟩ := k_succ hk
    have hil : i < l.length := by omega
    simp only [amalgamref01_Plain.l0]
    rw [if_pos (by omega), if_pos (by omega), rd_sym l i hil, wrap_nat hil (by omega), List.drop_eq_getElem_cons hil, List.map_cons]
    by_cases h : l[i].f1 = 3
    · rw [if_pos h, if_pos (show acc.length < 2932031007402 by omega), ih (i + 1) k _ (by omega) (by simp; omega) (by omega)]
      unfold plain1
      rw [if_pos h]; simp
    · rw [if_neg h, if_pos (show acc.length < 2932031007402 by omega), ih (i + 1) k _ (by omega) (by simp; omega) (by omega)]
      unfold plain1
      rw [if_neg h]; simp
theorem r_plain_f (l : List Sym) (hl : l.length ≤ 2932031007402) (k : Nat) (hk : l.length < k) : amalgamref01_Plain.f k l = some (l.map plain1) := by
  unfold amalgamref01_Plain.f
  have := r_plain_l0 l hl l.length 0 k [] (by omega) rfl hk
  simpa using this
/-! the document's Find, Unit -/
theorem r_find_l0 (l : List Sym) (nm : ByteArray) (hl : l.length ≤ 4611686018427387904) : ∀ (d i k : Nat), i + d = l.length → d < k → amalgamref01_Find.l0 k l nm i = some (findFrom nm (l.drop i) i) := by
  intro d
  induction d with
  | zero =>
    intro i k hi hk
    obtain ⟨k, rfl, _⟩ := k_succ hk
    simp only [amalgamref01_Find.l0]
    rw [if_neg (by omega), List.drop_eq_nil_of_le (by omega)]
    rfl
  | succ d ih =>
    intro i k hi hk
    obtain ⟨k, rfl, _⟩ := k_succ hk
    have hil : i < l.length := by omega
    simp only [amalgamref01_Find.l0]
    rw [if_pos (by omega), if_pos (by omega), rd_sym l i hil, wrap_nat hil hl, ih (i + 1) k (by omega) (by omega), List.drop_eq_getElem_cons hil]
    simp only [findFrom]
    split <;> rfl
theorem r_find_f (l : List Sym) (nm : ByteArray) (hl : l.length ≤ 4611686018427387904) (k : Nat) (hk : l.length < k) : amalgamref01_Find.f k l nm = some (find l nm) := by
  unfold amalgamref01_Find.f
  exact r_find_l0 l nm hl l.length 0 k (by omega) hk
theorem r_unit_f (l : List Sym) (i : Int) (hl : l.length ≤ 4611686018427387904) (k : Nat) (hk : l.length < k) : amalgamref01_Unit.f k l i = some (unit l i) := by
  have h1 := unit_f l i hl k hk
  rw [← h1]
  unfold amalgamref01_Unit.f sig_Unit.f
  rw [find_f l _ hl k hk, r_find_f l _ hl k hk]
/-! Units -/
def anyFrom (l : List Sym) (i : Nat) : Nat → Nat → Bool
  | 0, _ => false
  | d + 1, j => decide (unit l (j : Int) = ((i : Int), true)) || anyFrom l i d (j + 1)
theorem anyFrom_iff (l : List Sym) (i : Nat) : ∀ (d j : Nat), anyFrom l i d j = true ↔ ∃ m, j ≤ m ∧ m < j + d ∧ unit l (m : Int) = ((i : Int), true)
  | 0, j => by simp [anyFrom]; intro x h1 h2; omega
  | d + 1, j => by
    simp only [anyFrom, Bool.or_eq_true, decide_eq_true_eq, anyFrom_iff l i d (j + 1)]
    constructor
    · rintro (h | ⟨m, h1, h2, h3⟩)
      · exact ⟨j, Nat.le_refl _, by omega, h⟩
      · exact ⟨m, by omega, by omega, h3⟩
    · rintro ⟨m, h1, h2, h3⟩
      rcases Nat.eq_or_lt_of_le h1 with rfl | h
      · exact .inl h3
      · exact .inr ⟨m, by omega, by omega, h3⟩
def isUnit (l : List Sym) (i : Nat) : Bool := anyFrom l i l.length 0
def sel (q : Nat → Bool) : Nat → Nat → List Int
  | 0, _ => []
  | d + 1, i => if q i then (i : Int) :: sel q d (i + 1) else sel q d (i + 1)
theorem sel_length (q : Nat → Bool) : ∀ (d i : Nat), (sel q d i).length ≤ d
  | 0, _ => Nat.le_refl _
  | d + 1, i => by
    have := sel_length q d (i + 1)
    unfold sel
    split
    · simp; omega
    · omega
theorem sel_congr {q q' : Nat → Bool} : ∀ (d i : Nat), (∀ j, i ≤ j → j < i + d → q j = q' j) → sel q d i = sel q' d i
  | 0, _, _ => rfl
  | d + 1, i, h => by
    unfold sel
    rw [h i (Nat.le_refl _) (by omega), sel_congr d (i + 1) (fun j h1 h2 => h j (by omega) (by omega))]
def units (l : List Sym) : List Int := sel (isUnit l) l.length 0
theorem units_l1 (xs : List Int) (hl : xs.length ≤ 2932031007402) : ∀ (d i k : Nat) (acc : List Int), i + d = xs.length → acc.length ≤ i → d < k →
    sig_Units.l1 k acc xs (xs.length : Int) i = some (acc ++ sel (fun j => decide (0 < xs.getD j 0)) d i) := by
  intro d
  induction d with
  | zero =>
    intro i k acc hi ha hk
    obtain ⟨k, rfl, _⟩ := k_succ hk
    simp only [sig_Units.l1]
    rw [if_neg (by omega)]
    simp [sel]
  | succ d ih =>
    intro i k acc hi ha hk
    obtain ⟨k, rfl, _⟩ := k_succ hk
    have hil : i < xs.length := by omega
    simp only [sig_Units.l1]
    rw [if_pos (by omega), if_pos (by omega), if_pos (by omega), wrap_nat hil (by omega)]
    simp only [sel]
    have e : rd xs (i : Int) = xs.getD i 0 := by unfold rd; rw [Int.toNat_natCast]
    rw [e]
    by_cases h : 0 < xs.getD i 0
    · rw [if_pos h, if_pos (show acc.length < 17592186044416 by omega), ih (i + 1) k _ (by omega) (by simp; omega) (by omega), if_pos (decide_eq_true h)]; simp
    · rw [if_neg h, ih (i + 1) k acc (by omega) (by omega) (by omega), if_neg (by simpa using h)]
/-- the counts behind j rounds -/
structure Counts (l : List Sym) (j : Nat) (xs : List Int) : Prop where
  len : xs.length = l.length
  bd : ∀ i, 0 ≤ xs.getD i 0 ∧ xs.getD i 0 ≤ j
  pos : ∀ i, 0 < xs.getD i 0 ↔ ∃ m, m < j ∧ unit l (m : Int) = ((i : Int), true)
theorem unit_lt {l : List Sym} {j : Int} {i : Int} (h : unit l j = (i, true)) : 0 ≤ i ∧ i < l.length := by
  unfold unit at h
  split at h
  · dsimp only at h
    split at h
    · obtain ⟨m, hm, e, _⟩ := find_true (congrArg Prod.snd h)
      rw [h] at e
      have := congrArg Prod.fst e
      simp at this
      omega
    · cases h
  · cases h
theorem getD_set_self (xs : List Int) (i : Nat) (v : Int) (h : i < xs.length) : (xs.set i v).getD i 0 = v := by
  rw [List.getD_eq_getElem?_getD, List.getElem?_set_self h]; rfl
theorem getD_set_ne (xs : List Int) (i j : Nat) (v : Int) (h : i ≠ j) : (xs.set i v).getD j 0 = xs.getD j 0 := by
  rw [List.getD_eq_getElem?_getD, List.getElem?_set_ne h, List.getD_eq_getElem?_getD]
theorem units_l0 (l : List Sym) (hl : l.length ≤ 2932031007402) : ∀ (d j k : Nat) (xs : List Int), j + d = l.length → Counts l j xs → d + l.length + 1 < k →
    sig_Units.l0 k l xs (l.length : Int) j = some (units l) := by
  intro d
  induction d with
  | zero =>
    intro j k xs hj hc hk
    obtain ⟨k, rfl, _⟩ := k_succ hk
    simp only [sig_Units.l0]
    have := units_l1 xs (by rw [hc.len]; exact hl) xs.length 0 k [] (by omega) (by simp) (by rw [hc.len]; omega)
    rw [if_neg (by omega)]
    refine (show sig_Units.l1 k [] xs (xs.length : Int) 0 = _ from this).trans ?_
    rw [List.nil_append, hc.len]
    congr 1
    refine sel_congr _ _ (fun i _ _ => ?_)
    rw [Bool.eq_iff_iff, decide_eq_true_eq, hc.pos i, isUnit, anyFrom_iff]
    constructor
    · rintro ⟨m, h1, h2⟩; exact ⟨m, by omega, by omega, h2⟩
    · rintro ⟨m, _, h1, h2⟩; exact ⟨m, by omega, h2⟩
  | succ d ih =>
    intro j k xs hj hc hk
    obtain ⟨k, rfl, _⟩ := k_succ hk
    have hjl : j < l.length := by omega
    simp only [sig_Units.l0]
    rw [if_pos (by omega), unit_f l _ (by omega) k (by omega)]
    simp only [Option.bind_some]
    rw [wrap_nat hjl (by omega)]
    by_cases hu : (unit l (j : Int)).2 = true
    · rw [if_pos hu]
      obtain ⟨u, hu'⟩ : ∃ u, unit l (j : Int) = (u, true) := ⟨(unit l (j : Int)).1, Prod.ext rfl hu⟩
      obtain ⟨h0, h1⟩ := unit_lt hu'
      obtain ⟨u, rfl⟩ := Int.eq_ofNat_of_zero_le h0
      rw [hu']
      dsimp only
      rw [if_pos h0, if_pos (by rw [hc.len]; omega), Int.toNat_natCast]
      have e : rd xs (u : Int) = xs.getD u 0 := by unfold rd; rw [Int.toNat_natCast]
      have hb := hc.bd u
      have hul : u < xs.length := by rw [hc.len]; omega
      have ew : wrap64 (rd xs (u : Int) + 1) = xs.getD u 0 + 1 := by
        rw [e]
        unfold wrap64
        omega
      rw [ew]
      refine ih (j + 1) k _ (by omega) ⟨by simp [hc.len], fun i => ?_, fun i => ?_⟩ (by omega)
      · by_cases hi : u = i
        · subst hi; rw [getD_set_self xs u _ hul]; omega
        · rw [getD_set_ne xs u i _ hi]; have := hc.bd i; omega
      · by_cases hi : u = i
        · subst hi
          rw [getD_set_self xs u _ hul]
          exact ⟨fun _ => ⟨j, by omega, hu'⟩, fun _ => by omega⟩
        · rw [getD_set_ne xs u i _ hi, hc.pos i]
          constructor
          · rintro ⟨m, h2, h3⟩; exact ⟨m, by omega, h3⟩
          · rintro ⟨m, h2, h3⟩
            refine ⟨m, ?_, h3⟩
            rcases Nat.lt_or_ge m j with h4 | h4
            · exact h4
            · have : m = j := by omega
              subst this
              rw [hu'] at h3
              have := congrArg Prod.fst h3
              simp at this
              omega
    · rw [if_neg hu]
      refine ih (j + 1) k xs (by omega) ⟨hc.len, fun i => ?_, fun i => ?_⟩ (by omega)
      · have := hc.bd i; omega
      · rw [hc.pos i]
        constructor
        · rintro ⟨m, h2, h3⟩; exact ⟨m, by omega, h3⟩
        · rintro ⟨m, h2, h3⟩
          refine ⟨m, ?_, h3⟩
          rcases Nat.lt_or_ge m j with h4 | h4
          · exact h4
          · have : m = j := by omega
            subst this
            rw [h3] at hu
            exact absurd rfl hu
theorem units_f (l : List Sym) (hl : l.length ≤ 2932031007402) (k : Nat) (hk : 2 * l.length + 1 < k) : sig_Units.f k l = some (units l) := by
  unfold sig_Units.f
  rw [if_pos (by omega), Int.toNat_natCast, if_pos (by omega)]
  refine units_l0 l hl l.length 0 k _ (by omega) ⟨by simp, fun i => ?_, fun i => ?_⟩ (by omega)
  · rw [List.getD_eq_getElem?_getD, List.getElem?_replicate]
    split <;> simp
  · rw [List.getD_eq_getElem?_getD, List.getElem?_replicate]
    constructor
    · intro h; split at h <;> simp at h
    · rintro ⟨m, h, _⟩; omega
theorem r_units_l1 (l : List Sym) (hl : l.length ≤ 2932031007402) (acc : List Int) (i K : Nat) (hi : i < l.length) (ha : acc.length ≤ i) (R1 R0 : List Int)
    (h1 : ∀ k, K ≤ k → amalgamref01_Units.l0 k l (acc ++ [(i : Int)]) ((i + 1 : Nat) : Int) = some R1) (h0 : ∀ k, K ≤ k → amalgamref01_Units.l0 k l acc ((i + 1 : Nat) : Int) = some R0) :
    ∀ (d j k : Nat), j + d = l.length → K + d + l.length < k → amalgamref01_Units.l1 k l acc i j = some (if anyFrom l i d j = true then R1 else R0) := by
  intro d
  induction d with
  | zero =>
    intro j k hj hk
    obtain ⟨k, rfl, _⟩ := k_succ hk
    simp only [amalgamref01_Units.l1]
    rw [if_neg (by omega), wrap_nat hi (by omega), h0 k (by omega)]
    simp [anyFrom]
  | succ d ih =>
    intro j k hj hk
    obtain ⟨k, rfl, _⟩ := k_succ hk
    have hjl : j < l.length := by omega
    simp only [amalgamref01_Units.l1]
    rw [if_pos (by omega), r_unit_f l _ (by omega) k (by omega)]
    simp only [Option.bind_some]
    rw [wrap_nat hjl (by omega), wrap_nat hi (by omega), ih (j + 1) k (by omega) (by omega), h1 k (by omega)]
    by_cases hu : (unit l (j : Int)).2 = true
    · rw [if_pos hu]
      by_cases hi' : (unit l (j : Int)).1 = (i : Int)
      · rw [if_pos hi', if_pos (show acc.length < 17592186044416 by omega)]
        have e : anyFrom l i (d + 1) j = true := by simp [anyFrom, show unit l (j : Int) = ((i : Int), true) from Prod.ext hi' hu]
        rw [if_pos e]
      · rw [if_neg hi']
        have e : anyFrom l i (d + 1) j = anyFrom l i d (j + 1) := by simp [anyFrom, show ¬ unit l (j : Int) = ((i : Int), true) from fun h => hi' (by rw [h])]
        rw [e]
    · rw [if_neg hu]
      have e : anyFrom l i (d + 1) j = anyFrom l i d (j + 1) := by simp [anyFrom, show ¬ unit l (j : Int) = ((i : Int), true) from fun h => hu (by rw [h])]
      rw [e]
theorem r_units_l0 (l : List Sym) (hl : l.length ≤ 2932031007402) : ∀ (d i : Nat), i + d = l.length → ∃ K, ∀ k, K ≤ k → ∀ acc : List Int, acc.length ≤ i → amalgamref01_Units.l0 k l acc i = some (acc ++ sel (isUnit l) d i) := by
  intro d
  induction d with
  | zero =>
    intro i hi
    refine ⟨1, fun k hk acc _ => ?_⟩
    obtain ⟨k, rfl, _⟩ := k_succ (show 0 < k by omega)
    simp only [amalgamref01_Units.l0]
    rw [if_neg (by omega)]
    simp [sel]
  | succ d ih =>
    intro i hi
    obtain ⟨K, hK⟩ := ih (i + 1) (by omega)
    refine ⟨K + 2 * l.length + 5, fun k hk acc ha => ?_⟩
    obtain ⟨k, rfl, _⟩ := k_succ (show 0 < k by omega)
    simp only [amalgamref01_Units.l0]
    rw [if_pos (by omega)]
    have := r_units_l1 l hl acc i K (by omega) ha _ _ (fun k hk => hK k hk (acc ++ [(i : Int)]) (by simp; omega)) (fun k hk => hK k hk acc (by omega)) l.length 0 k (by omega) (by omega)
    refine (show amalgamref01_Units.l1 k l acc i 0 = _ from this).trans ?_
    simp only [sel]
    change _ = some (acc ++ if anyFrom l i l.length 0 = true then _ else _)
    split <;> simp
theorem r_units_f (l : List Sym) (hl : l.length ≤ 2932031007402) : ∃ K, ∀ k, K ≤ k → amalgamref01_Units.f k l = some (units l) := by
  obtain ⟨K, hK⟩ := r_units_l0 l hl l.length 0 (by omega)
  refine ⟨K, fun k hk => ?_⟩
  unfold amalgamref01_Units.f
  have := hK k hk [] (by simp)
  simpa [units] using this
end Go.Proofs.Ythbpbbinpkfchaa.Sp
