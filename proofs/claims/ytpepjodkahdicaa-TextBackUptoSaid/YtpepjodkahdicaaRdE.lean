/- The contract of the reader's term where no bracket follows, or what follows is wrong. Conditions: none. -/
-- Written by programs of this session (wip/tools), cut to what the claim uses (wip/tools/prune.py).
import Derived.Test.YtpepjodkahdicaaRdD
namespace Go.Proofs.Ytpepjodkahdicaa.PTb
open Go.RowKit Go.Proofs.YtpepjodkahdicaaW.PrintWords Go.Proofs.YtpepjodkahdicaaW.PrintLast Go.Proofs.YtpepjodkahdicaaW.PrintMore
set_option linter.unusedVariables false
set_option linter.unusedSimpArgs false
set_option maxHeartbeats 1000000 in
theorem term_find_no (b : Nat) (A : Option Addr) (c : Nat) (g : List S62) (s : ByteArray) (p : Int) (k : Nat) (tx : ByteArray) (wat p1 : Int) (y1 : Int) (w0 w : World) (hS : Kd.C k62 w0 A g.length g) (hc : g.length ≤ c) (H0 : Below w0.heap.size w0 w) (hb0 : w0.heap.size ≤ b) (hb : RB w b A g.length c s p) (hn : words_Next.f k s p = some (1, tx, wat, p1, 0)) (hf : sig_Find.f k g tx = some (y1, false)) :
    Calls Try.prog 21 #[.pointer (some ⟨b, 0, none⟩)] w fun e w' => e = gaveUp 53 wat ∧ w.grownBy w' (some b) := by
  have HN := fun W (q : RB W b A g.length c s p) => Aside0.mk (next_ok b A g.length c s p k 1 tx wat p1 W q hn (by decide))
  have HRB := Aside0.mk hb
  have HS := fun W (q : Below w0.heap.size w0 W) => Aside0.mk (sig_Find.calls k A c g tx y1 false W (Kd.C_below hS q) hc hf)
  have H00 := Aside0.mk (And.intro H0 hb0)
  clear hn hb hS hf H0 hb0 hc
  go_enter Try.func21, Try.ntmps21
  go_wp2_with (first | ((with_reducible refine gate_dst (N := 2) rfl ?_); refine box_event ?hg (N := 2) ?hd (cs := #[.string (⟨#[]⟩ : ByteArray), .int .i64 0, .slice none 0 0]) (t := 27) ?hr ?_; (case hd => rfl); (case hg => rfl); (case hr => first | (go_simp; done) | (go_simp; rfl)); intro g2 hg_g2 w1 hbox_g2 hb_g2; have HG_g2 := Aside0.mk hg_g2; have HX_g2 := Aside0.mk hbox_g2; have HB_g2 := Aside0.mk hb_g2; clear hg_g2 hbox_g2 hb_g2) | ((with_reducible refine gate_dst (N := 11) rfl ?_); refine goesL_ (some 11) rfl rfl Try.func36 (by kernel_rfl) rfl #[.pointer (some ⟨b, 0, none⟩)] rfl (by (try simp only [List.map_toArray, List.map_cons, List.map_nil]); first | done | rfl) ?_; refine ((HN _ (HRB.out.below HB_g2.out)).out).mono ?_; rintro e w2 ⟨rfl, hr2, hg2⟩; refine ⟨_, rfl, ?_⟩; have HR_w2 := Aside0.mk hr2; have HG_w2 := Aside0.mk hg2; clear hr2 hg2; have LE := Aside0.mk (And.intro (show w.heap.size ≤ g2 by have := HG_g2.out; omega) (show g2 ≠ b by have := HG_g2.out; have := blk_lt HRB.out; omega)); have BK2 := Aside0.mk (blk_grown HX_g2.out HG_w2.out (fun e => LE.out.2 (Option.some.inj e)))) | (go_at_call 35; refine (need_ok _ _ _).mono ?_; rintro e w5 ⟨rfl, rfl⟩))
  refine hold_world (G := Code.wp _ _ _ _) (fun W => W.heap[w2.heap.size]? = some (.cells #[.int .i64 1, .string tx, .int .i64 wat] 70 (0, 0)) ∧ W.heap[g2]? = some (.cells #[.string (⟨#[]⟩ : ByteArray), .int .i64 0, .slice none 0 0] 27 (0, 0)) ∧ RB W b A g.length c s p1 ∧ w.grownBy W (some b)) ⟨blk_new _ _, blk_alloc BK2.out _, blk_alloc HR_w2.out _, grown_alloc (grown_grown (grown_of_below' HB_g2.out _) HG_w2.out) _⟩ ?_
  have LE2 := Aside0.mk (And.intro (show g2 < w2.heap.size from blk_lt BK2.out) (show b < w.heap.size from blk_lt HRB.out))
  clear HX_g2 HG_g2 HB_g2 HR_w2 HG_w2 BK2 HN HRB
  generalize w2.heap.size = g3 at LE2 ⊢
  clear w2 w1
  rintro w3 ⟨bk3, bk2, hr3, hg3⟩
  have BK3 := Aside0.mk bk3
  have BK2 := Aside0.mk bk2
  have HR3 := Aside0.mk hr3
  have HG3 := Aside0.mk hg3
  clear bk3 bk2 hr3 hg3
  have HB3 := Aside0.mk (below_of_grown H00.out.1 H00.out.2 HG3.out)
  have c0 := HR3.out.cell0
  have q1 : w3.cell? ⟨g3, 1, none⟩ = some (.string tx) := (blk_cell BK3.out 1).trans rfl
  go_region_held3 (fun W => W.cell? ⟨b, 0, none⟩ = some (.slice A g.length c) ∧ W.cell? ⟨g3, 1, none⟩ = some (.string tx)) (go_keep) ((go_at_call 38; refine (HS _ (below_drew1 HB3.out)).out.mono ?_; rintro e w5 ⟨rfl, hd⟩; obtain ⟨nd, rfl⟩ := hd.out))
  refine hold_world (G := Exit.then _ _ _ _) (fun W => W.heap[g3]? = some (.cells #[.int .i64 1, .string tx, .int .i64 wat] 70 (0, 0)) ∧ W.heap[g2]? = some (.cells #[.string (⟨#[]⟩ : ByteArray), .int .i64 0, .slice none 0 0] 27 (0, 0)) ∧ RB W b A g.length c s p1 ∧ w.grownBy W (some b)) ⟨BK3.out, BK2.out, HR3.out, grown_below HG3.out (pw_below_drewN (Below.refl _ _) _)⟩ ?_
  clear BK3 BK2 HR3 HG3 HB3 c0 q1 HS hd
  rintro w4 ⟨bk3, bk2, hr3, hg3⟩
  have BK3 := Aside0.mk bk3
  have BK2 := Aside0.mk bk2
  have HR3 := Aside0.mk hr3
  have HG3 := Aside0.mk hg3
  clear bk3 bk2 hr3 hg3
  have q2 : w4.cell? ⟨g3, 2, none⟩ = some (.int .i64 wat) := (blk_cell BK3.out 2).trans rfl
  go_wp2_with (go_at_call 35; refine (need_no _ _ _).mono ?_; rintro e w5 ⟨rfl, rfl⟩)
  exact ⟨rfl, rfl, (by repeat (first | exact HG3.out | refine grown_alloc ?_ _ | refine grown_drew ?_ | refine grown_below ?_ (pw_below_drewN (Below.refl _ _) _)))⟩
set_option maxHeartbeats 1000000 in
theorem term_peek_no (b : Nat) (A : Option Addr) (c : Nat) (g : List S62) (s : ByteArray) (p : Int) (k : Nat) (tx : ByteArray) (wat p1 : Int) (y1 : Int) (kd2 : Int) (tx2 : ByteArray) (wat2 er a : Int) (w0 w : World) (hS : Kd.C k62 w0 A g.length g) (hc : g.length ≤ c) (H0 : Below w0.heap.size w0 w) (hb0 : w0.heap.size ≤ b) (hb : RB w b A g.length c s p) (hn : words_Next.f k s p = some (1, tx, wat, p1, 0)) (hf : sig_Find.f k g tx = some (y1, true)) (h2 : words_Next.f k s p1 = some (kd2, tx2, wat2, a, er)) (he : ¬ er = 0) :
    Calls Try.prog 21 #[.pointer (some ⟨b, 0, none⟩)] w fun e w' => e = gaveUp er a ∧ w.grownBy w' (some b) := by
  have HP := fun W (q : RB W b A g.length c s p1) => Aside0.mk (peek_no b A g.length c s p1 k kd2 tx2 wat2 a er W q h2 he)
  clear h2 he
  have HN := fun W (q : RB W b A g.length c s p) => Aside0.mk (next_ok b A g.length c s p k 1 tx wat p1 W q hn (by decide))
  have HRB := Aside0.mk hb
  have HS := fun W (q : Below w0.heap.size w0 W) => Aside0.mk (sig_Find.calls k A c g tx y1 true W (Kd.C_below hS q) hc hf)
  have H00 := Aside0.mk (And.intro H0 hb0)
  clear hn hb hS hf H0 hb0 hc
  go_enter Try.func21, Try.ntmps21
  go_wp2_with (first | ((with_reducible refine gate_dst (N := 2) rfl ?_); refine box_event ?hg (N := 2) ?hd (cs := #[.string (⟨#[]⟩ : ByteArray), .int .i64 0, .slice none 0 0]) (t := 27) ?hr ?_; (case hd => rfl); (case hg => rfl); (case hr => first | (go_simp; done) | (go_simp; rfl)); intro g2 hg_g2 w1 hbox_g2 hb_g2; have HG_g2 := Aside0.mk hg_g2; have HX_g2 := Aside0.mk hbox_g2; have HB_g2 := Aside0.mk hb_g2; clear hg_g2 hbox_g2 hb_g2) | ((with_reducible refine gate_dst (N := 11) rfl ?_); refine goesL_ (some 11) rfl rfl Try.func36 (by kernel_rfl) rfl #[.pointer (some ⟨b, 0, none⟩)] rfl (by (try simp only [List.map_toArray, List.map_cons, List.map_nil]); first | done | rfl) ?_; refine ((HN _ (HRB.out.below HB_g2.out)).out).mono ?_; rintro e w2 ⟨rfl, hr2, hg2⟩; refine ⟨_, rfl, ?_⟩; have HR_w2 := Aside0.mk hr2; have HG_w2 := Aside0.mk hg2; clear hr2 hg2; have LE := Aside0.mk (And.intro (show w.heap.size ≤ g2 by have := HG_g2.out; omega) (show g2 ≠ b by have := HG_g2.out; have := blk_lt HRB.out; omega)); have BK2 := Aside0.mk (blk_grown HX_g2.out HG_w2.out (fun e => LE.out.2 (Option.some.inj e)))) | (go_at_call 35; refine (need_ok _ _ _).mono ?_; rintro e w5 ⟨rfl, rfl⟩))
  refine hold_world (G := Code.wp _ _ _ _) (fun W => W.heap[w2.heap.size]? = some (.cells #[.int .i64 1, .string tx, .int .i64 wat] 70 (0, 0)) ∧ W.heap[g2]? = some (.cells #[.string (⟨#[]⟩ : ByteArray), .int .i64 0, .slice none 0 0] 27 (0, 0)) ∧ RB W b A g.length c s p1 ∧ w.grownBy W (some b)) ⟨blk_new _ _, blk_alloc BK2.out _, blk_alloc HR_w2.out _, grown_alloc (grown_grown (grown_of_below' HB_g2.out _) HG_w2.out) _⟩ ?_
  have LE2 := Aside0.mk (And.intro (show g2 < w2.heap.size from blk_lt BK2.out) (show b < w.heap.size from blk_lt HRB.out))
  clear HX_g2 HG_g2 HB_g2 HR_w2 HG_w2 BK2 HN HRB
  generalize w2.heap.size = g3 at LE2 ⊢
  clear w2 w1
  rintro w3 ⟨bk3, bk2, hr3, hg3⟩
  have BK3 := Aside0.mk bk3
  have BK2 := Aside0.mk bk2
  have HR3 := Aside0.mk hr3
  have HG3 := Aside0.mk hg3
  clear bk3 bk2 hr3 hg3
  have HB3 := Aside0.mk (below_of_grown H00.out.1 H00.out.2 HG3.out)
  have c0 := HR3.out.cell0
  have q1 : w3.cell? ⟨g3, 1, none⟩ = some (.string tx) := (blk_cell BK3.out 1).trans rfl
  go_region_held3 (fun W => W.cell? ⟨b, 0, none⟩ = some (.slice A g.length c) ∧ W.cell? ⟨g3, 1, none⟩ = some (.string tx)) (go_keep) ((go_at_call 38; refine (HS _ (below_drew1 HB3.out)).out.mono ?_; rintro e w5 ⟨rfl, hd⟩; obtain ⟨nd, rfl⟩ := hd.out))
  refine hold_world (G := Exit.then _ _ _ _) (fun W => W.heap[g3]? = some (.cells #[.int .i64 1, .string tx, .int .i64 wat] 70 (0, 0)) ∧ W.heap[g2]? = some (.cells #[.string (⟨#[]⟩ : ByteArray), .int .i64 0, .slice none 0 0] 27 (0, 0)) ∧ RB W b A g.length c s p1 ∧ w.grownBy W (some b)) ⟨BK3.out, BK2.out, HR3.out, grown_below HG3.out (pw_below_drewN (Below.refl _ _) _)⟩ ?_
  clear BK3 BK2 HR3 HG3 HB3 c0 q1 HS hd
  rintro w4 ⟨bk3, bk2, hr3, hg3⟩
  have BK3 := Aside0.mk bk3
  have BK2 := Aside0.mk bk2
  have HR3 := Aside0.mk hr3
  have HG3 := Aside0.mk hg3
  clear bk3 bk2 hr3 hg3
  have q2 : w4.cell? ⟨g3, 2, none⟩ = some (.int .i64 wat) := (blk_cell BK3.out 2).trans rfl
  go_wp2_with (first | (go_at_call 35; refine (need_ok _ _ _).mono ?_; rintro e w5 ⟨rfl, rfl⟩) | ((with_reducible refine gate_dst (N := 42) rfl ?_); have LE3 := Aside0.mk (And.intro (show g2 < w4.heap.size from blk_lt BK2.out) (show g3 < w4.heap.size from blk_lt BK3.out)); refine hold_world (G := wpList _ _ _ _ _) (fun W => W.heap[w4.heap.size]? = some (.cells #[.string (⟨#[]⟩ : ByteArray), .int .i64 y1, .slice none 0 0] 27 (0, 0)) ∧ W.heap[g2]? = some (.cells #[.string (⟨#[]⟩ : ByteArray), .int .i64 0, .slice none 0 0] 27 (0, 0)) ∧ RB W b A g.length c s p1 ∧ w.grownBy W (some b)) ⟨(by repeat (first | exact blk_new _ _ | refine blk_alloc ?_ _ | refine blk_drew ?_ | refine blk_drewN ?_ _)), (by repeat (first | exact BK2.out | refine blk_alloc ?_ _ | refine blk_drew ?_ | refine blk_drewN ?_ _)), (by unfold RB; repeat (first | exact HR3.out | refine blk_alloc ?_ _ | refine blk_drew ?_ | refine blk_drewN ?_ _)), (by repeat (first | exact HG3.out | refine grown_alloc ?_ _ | refine grown_drew ?_ | refine grown_below ?_ (pw_below_drewN (Below.refl _ _) _)))⟩ ?_; generalize w4.heap.size = g6 at LE3 ⊢; clear BK3 BK2 HR3 HG3 q2; (try clear hHeld); clear w4; rintro w5 ⟨bk6, bk2, hr5, hg5⟩; have BK6 := Aside0.mk bk6; have BK2 := Aside0.mk bk2; have HR5 := Aside0.mk hr5; have HG5 := Aside0.mk hg5; clear bk6 bk2 hr5 hg5; refine panicsL_ (some 42) rfl rfl Try.func34 (by kernel_rfl) rfl #[.pointer (some ⟨b, 0, none⟩)] rfl (by (try simp only [List.map_toArray, List.map_cons, List.map_nil]); first | done | rfl) ?_; refine (HP _ HR5.out).out.mono ?_; rintro e w6 ⟨rfl, hb6⟩; refine ⟨_, rfl, ?_⟩))
  exact ⟨rfl, rfl, grown_below HG5.out hb6⟩
set_option maxHeartbeats 2000000 in
theorem term_leaf (b : Nat) (A : Option Addr) (c : Nat) (g : List S62) (s : ByteArray) (p : Int) (k : Nat) (tx : ByteArray) (wat p1 : Int) (y1 : Int) (kd2 : Int) (tx2 : ByteArray) (wat2 a : Int) (w0 w : World) (hS : Kd.C k62 w0 A g.length g) (hc : g.length ≤ c) (H0 : Below w0.heap.size w0 w) (hb0 : w0.heap.size ≤ b) (hb : RB w b A g.length c s p) (hn : words_Next.f k s p = some (1, tx, wat, p1, 0)) (hf : sig_Find.f k g tx = some (y1, true)) (h2 : words_Next.f k s p1 = some (kd2, tx2, wat2, a, 0)) (h3 : ¬ kd2 = 3) :
    Calls Try.prog 21 #[.pointer (some ⟨b, 0, none⟩)] w fun e w' => e = .returned (.agg #[.string (⟨#[]⟩ : ByteArray), .int .i64 y1, .slice none 0 0]) ∧ RB w' b A g.length c s p1 ∧ w.grownBy w' (some b) := by
  have HP := fun W (q : RB W b A g.length c s p1) => Aside0.mk (peek_ok b A g.length c s p1 k kd2 tx2 wat2 a W q h2)
  have h3b : (kd2 != 3) = true := bne_iff_ne.mpr h3
  clear h2 h3
  have HN := fun W (q : RB W b A g.length c s p) => Aside0.mk (next_ok b A g.length c s p k 1 tx wat p1 W q hn (by decide))
  have HRB := Aside0.mk hb
  have HS := fun W (q : Below w0.heap.size w0 W) => Aside0.mk (sig_Find.calls k A c g tx y1 true W (Kd.C_below hS q) hc hf)
  have H00 := Aside0.mk (And.intro H0 hb0)
  clear hn hb hS hf H0 hb0 hc
  go_enter Try.func21, Try.ntmps21
  go_wp2_with (first | ((with_reducible refine gate_dst (N := 2) rfl ?_); refine box_event ?hg (N := 2) ?hd (cs := #[.string (⟨#[]⟩ : ByteArray), .int .i64 0, .slice none 0 0]) (t := 27) ?hr ?_; (case hd => rfl); (case hg => rfl); (case hr => first | (go_simp; done) | (go_simp; rfl)); intro g2 hg_g2 w1 hbox_g2 hb_g2; have HG_g2 := Aside0.mk hg_g2; have HX_g2 := Aside0.mk hbox_g2; have HB_g2 := Aside0.mk hb_g2; clear hg_g2 hbox_g2 hb_g2) | ((with_reducible refine gate_dst (N := 11) rfl ?_); refine goesL_ (some 11) rfl rfl Try.func36 (by kernel_rfl) rfl #[.pointer (some ⟨b, 0, none⟩)] rfl (by (try simp only [List.map_toArray, List.map_cons, List.map_nil]); first | done | rfl) ?_; refine ((HN _ (HRB.out.below HB_g2.out)).out).mono ?_; rintro e w2 ⟨rfl, hr2, hg2⟩; refine ⟨_, rfl, ?_⟩; have HR_w2 := Aside0.mk hr2; have HG_w2 := Aside0.mk hg2; clear hr2 hg2; have LE := Aside0.mk (And.intro (show w.heap.size ≤ g2 by have := HG_g2.out; omega) (show g2 ≠ b by have := HG_g2.out; have := blk_lt HRB.out; omega)); have BK2 := Aside0.mk (blk_grown HX_g2.out HG_w2.out (fun e => LE.out.2 (Option.some.inj e)))) | (go_at_call 35; refine (need_ok _ _ _).mono ?_; rintro e w5 ⟨rfl, rfl⟩))
  refine hold_world (G := Code.wp _ _ _ _) (fun W => W.heap[w2.heap.size]? = some (.cells #[.int .i64 1, .string tx, .int .i64 wat] 70 (0, 0)) ∧ W.heap[g2]? = some (.cells #[.string (⟨#[]⟩ : ByteArray), .int .i64 0, .slice none 0 0] 27 (0, 0)) ∧ RB W b A g.length c s p1 ∧ w.grownBy W (some b)) ⟨blk_new _ _, blk_alloc BK2.out _, blk_alloc HR_w2.out _, grown_alloc (grown_grown (grown_of_below' HB_g2.out _) HG_w2.out) _⟩ ?_
  have LE2 := Aside0.mk (And.intro (show g2 < w2.heap.size from blk_lt BK2.out) (show b < w.heap.size from blk_lt HRB.out))
  clear HX_g2 HG_g2 HB_g2 HR_w2 HG_w2 BK2 HN HRB
  generalize w2.heap.size = g3 at LE2 ⊢
  clear w2 w1
  rintro w3 ⟨bk3, bk2, hr3, hg3⟩
  have BK3 := Aside0.mk bk3
  have BK2 := Aside0.mk bk2
  have HR3 := Aside0.mk hr3
  have HG3 := Aside0.mk hg3
  clear bk3 bk2 hr3 hg3
  have HB3 := Aside0.mk (below_of_grown H00.out.1 H00.out.2 HG3.out)
  have c0 := HR3.out.cell0
  have q1 : w3.cell? ⟨g3, 1, none⟩ = some (.string tx) := (blk_cell BK3.out 1).trans rfl
  go_region_held3 (fun W => W.cell? ⟨b, 0, none⟩ = some (.slice A g.length c) ∧ W.cell? ⟨g3, 1, none⟩ = some (.string tx)) (go_keep) ((go_at_call 38; refine (HS _ (below_drew1 HB3.out)).out.mono ?_; rintro e w5 ⟨rfl, hd⟩; obtain ⟨nd, rfl⟩ := hd.out))
  refine hold_world (G := Exit.then _ _ _ _) (fun W => W.heap[g3]? = some (.cells #[.int .i64 1, .string tx, .int .i64 wat] 70 (0, 0)) ∧ W.heap[g2]? = some (.cells #[.string (⟨#[]⟩ : ByteArray), .int .i64 0, .slice none 0 0] 27 (0, 0)) ∧ RB W b A g.length c s p1 ∧ w.grownBy W (some b)) ⟨BK3.out, BK2.out, HR3.out, grown_below HG3.out (pw_below_drewN (Below.refl _ _) _)⟩ ?_
  clear BK3 BK2 HR3 HG3 HB3 c0 q1 HS hd
  rintro w4 ⟨bk3, bk2, hr3, hg3⟩
  have BK3 := Aside0.mk bk3
  have BK2 := Aside0.mk bk2
  have HR3 := Aside0.mk hr3
  have HG3 := Aside0.mk hg3
  clear bk3 bk2 hr3 hg3
  have q2 : w4.cell? ⟨g3, 2, none⟩ = some (.int .i64 wat) := (blk_cell BK3.out 2).trans rfl
  go_wp2_with (first | (go_at_call 35; refine (need_ok _ _ _).mono ?_; rintro e w5 ⟨rfl, rfl⟩) | ((with_reducible refine gate_dst (N := 42) rfl ?_); have LE3 := Aside0.mk (And.intro (show g2 < w4.heap.size from blk_lt BK2.out) (show g3 < w4.heap.size from blk_lt BK3.out)); refine hold_world (G := wpList _ _ _ _ _) (fun W => W.heap[w4.heap.size]? = some (.cells #[.string (⟨#[]⟩ : ByteArray), .int .i64 y1, .slice none 0 0] 27 (0, 0)) ∧ W.heap[g2]? = some (.cells #[.string (⟨#[]⟩ : ByteArray), .int .i64 0, .slice none 0 0] 27 (0, 0)) ∧ RB W b A g.length c s p1 ∧ w.grownBy W (some b)) ⟨(by repeat (first | exact blk_new _ _ | refine blk_alloc ?_ _ | refine blk_drew ?_ | refine blk_drewN ?_ _)), (by repeat (first | exact BK2.out | refine blk_alloc ?_ _ | refine blk_drew ?_ | refine blk_drewN ?_ _)), (by unfold RB; repeat (first | exact HR3.out | refine blk_alloc ?_ _ | refine blk_drew ?_ | refine blk_drewN ?_ _)), (by repeat (first | exact HG3.out | refine grown_alloc ?_ _ | refine grown_drew ?_ | refine grown_below ?_ (pw_below_drewN (Below.refl _ _) _)))⟩ ?_; generalize w4.heap.size = g6 at LE3 ⊢; clear BK3 BK2 HR3 HG3 q2; (try clear hHeld); clear w4; rintro w5 ⟨bk6, bk2, hr5, hg5⟩; have BK6 := Aside0.mk bk6; have BK2 := Aside0.mk bk2; have HR5 := Aside0.mk hr5; have HG5 := Aside0.mk hg5; clear bk6 bk2 hr5 hg5; refine goesL_ (some 42) rfl rfl Try.func34 (by kernel_rfl) rfl #[.pointer (some ⟨b, 0, none⟩)] rfl (by (try simp only [List.map_toArray, List.map_cons, List.map_nil]); first | done | rfl) ?_; refine (HP _ HR5.out).out.mono ?_; rintro e w6 ⟨rfl, hb6⟩; refine ⟨_, rfl, ?_⟩; have HB6 := Aside0.mk hb6; clear hb6; have BK6' := Aside0.mk (blk_below BK6.out HB6.out); have BK2' := Aside0.mk (blk_below BK2.out HB6.out); have HR6 := Aside0.mk (HR5.out.below HB6.out); have HG6 := Aside0.mk (grown_below HG5.out HB6.out); clear BK6 BK2 HR5 HG5 HB6 w5; have yq0 : w6.cell? ⟨g6, 0, none⟩ = some (.string (⟨#[]⟩ : ByteArray)) := (blk_cell BK6'.out 0).trans rfl; have yq1 : w6.cell? ⟨g6, 1, none⟩ = some (.int .i64 y1) := (blk_cell BK6'.out 1).trans rfl; have yq2 : w6.cell? ⟨g6, 2, none⟩ = some (.slice none 0 0) := (blk_cell BK6'.out 2).trans rfl; have zq0 : w6.cell? ⟨g2, 0, none⟩ = some (.string (⟨#[]⟩ : ByteArray)) := (blk_cell BK2'.out 0).trans rfl; have zf0 : w6.frozen? ⟨g2, 0, none⟩ = false := blk_frozen BK2'.out 0; have zq1 : w6.cell? ⟨g2, 1, none⟩ = some (.int .i64 0) := (blk_cell BK2'.out 1).trans rfl; have zf1 : w6.frozen? ⟨g2, 1, none⟩ = false := blk_frozen BK2'.out 1; have zq2 : w6.cell? ⟨g2, 2, none⟩ = some (.slice none 0 0) := (blk_cell BK2'.out 2).trans rfl; have zf2 : w6.frozen? ⟨g2, 2, none⟩ = false := blk_frozen BK2'.out 2; have l6 : g6 < w6.heap.size := blk_lt BK6'.out; have l2 : g2 < w6.heap.size := blk_lt BK2'.out; have m6 : ¬ g6 = w6.heap.size := (by omega); have m2 : ¬ g2 = w6.heap.size := (by omega); have m3 : ¬ w6.heap.size = g2 := (by omega); have m4 : ¬ w6.heap.size = g6 := (by omega); have n26 : ¬ g2 = g6 := (by have := LE3.out.1; omega); have n62 : ¬ g6 = g2 := (by have := LE3.out.1; omega)))
  refine bodyPost_ret (v := .agg #[.string (⟨#[]⟩ : ByteArray), .int .i64 y1, .slice none 0 0]) (by simp [results, Try.results21, go_sem, *]) rfl ⟨rfl, ?_, ?_⟩
  · unfold RB
    repeat (first | exact HR6.out | refine blk_alloc ?_ _ | refine blk_drew ?_ | refine blk_drewN ?_ _ | refine blk_far ?_ (Ne.symm LE.out.2) _)
  · repeat (first | exact HG6.out | refine grown_alloc ?_ _ | refine grown_drew ?_ | refine grown_below ?_ (pw_below_drewN (Below.refl _ _) _) | refine grown_set ?_ (.inr LE.out.1) _)
set_option maxHeartbeats 2000000 in
theorem term_open_no (b : Nat) (A : Option Addr) (c : Nat) (g : List S62) (s : ByteArray) (p : Int) (k : Nat) (tx : ByteArray) (wat p1 : Int) (y1 : Int) (tx2 : ByteArray) (wat2 en2 er a : Int) (w0 w : World) (hS : Kd.C k62 w0 A g.length g) (hc : g.length ≤ c) (H0 : Below w0.heap.size w0 w) (hb0 : w0.heap.size ≤ b) (hb : RB w b A g.length c s p) (hn : words_Next.f k s p = some (1, tx, wat, p1, 0)) (hf : sig_Find.f k g tx = some (y1, true)) (h2 : words_Next.f k s p1 = some (3, tx2, wat2, en2, 0)) (h3 : rdNext k s p1 = some (.error (er, a))) :
    Calls Try.prog 21 #[.pointer (some ⟨b, 0, none⟩)] w fun e w' => e = gaveUp er a ∧ w.grownBy w' (some b) := by
  have HP := fun W (q : RB W b A g.length c s p1) => Aside0.mk (peek_ok b A g.length c s p1 k 3 tx2 wat2 en2 W q h2)
  have HN3 := fun W (q : RB W b A g.length c s p1) => Aside0.mk (next_gives b A g.length c s p1 k er a W q h3)
  clear h2 h3
  have HN := fun W (q : RB W b A g.length c s p) => Aside0.mk (next_ok b A g.length c s p k 1 tx wat p1 W q hn (by decide))
  have HRB := Aside0.mk hb
  have HS := fun W (q : Below w0.heap.size w0 W) => Aside0.mk (sig_Find.calls k A c g tx y1 true W (Kd.C_below hS q) hc hf)
  have H00 := Aside0.mk (And.intro H0 hb0)
  clear hn hb hS hf H0 hb0 hc
  go_enter Try.func21, Try.ntmps21
  go_wp2_with (first | ((with_reducible refine gate_dst (N := 2) rfl ?_); refine box_event ?hg (N := 2) ?hd (cs := #[.string (⟨#[]⟩ : ByteArray), .int .i64 0, .slice none 0 0]) (t := 27) ?hr ?_; (case hd => rfl); (case hg => rfl); (case hr => first | (go_simp; done) | (go_simp; rfl)); intro g2 hg_g2 w1 hbox_g2 hb_g2; have HG_g2 := Aside0.mk hg_g2; have HX_g2 := Aside0.mk hbox_g2; have HB_g2 := Aside0.mk hb_g2; clear hg_g2 hbox_g2 hb_g2) | ((with_reducible refine gate_dst (N := 11) rfl ?_); refine goesL_ (some 11) rfl rfl Try.func36 (by kernel_rfl) rfl #[.pointer (some ⟨b, 0, none⟩)] rfl (by (try simp only [List.map_toArray, List.map_cons, List.map_nil]); first | done | rfl) ?_; refine ((HN _ (HRB.out.below HB_g2.out)).out).mono ?_; rintro e w2 ⟨rfl, hr2, hg2⟩; refine ⟨_, rfl, ?_⟩; have HR_w2 := Aside0.mk hr2; have HG_w2 := Aside0.mk hg2; clear hr2 hg2; have LE := Aside0.mk (And.intro (show w.heap.size ≤ g2 by have := HG_g2.out; omega) (show g2 ≠ b by have := HG_g2.out; have := blk_lt HRB.out; omega)); have BK2 := Aside0.mk (blk_grown HX_g2.out HG_w2.out (fun e => LE.out.2 (Option.some.inj e)))) | (go_at_call 35; refine (need_ok _ _ _).mono ?_; rintro e w5 ⟨rfl, rfl⟩))
  refine hold_world (G := Code.wp _ _ _ _) (fun W => W.heap[w2.heap.size]? = some (.cells #[.int .i64 1, .string tx, .int .i64 wat] 70 (0, 0)) ∧ W.heap[g2]? = some (.cells #[.string (⟨#[]⟩ : ByteArray), .int .i64 0, .slice none 0 0] 27 (0, 0)) ∧ RB W b A g.length c s p1 ∧ w.grownBy W (some b)) ⟨blk_new _ _, blk_alloc BK2.out _, blk_alloc HR_w2.out _, grown_alloc (grown_grown (grown_of_below' HB_g2.out _) HG_w2.out) _⟩ ?_
  have LE2 := Aside0.mk (And.intro (show g2 < w2.heap.size from blk_lt BK2.out) (show b < w.heap.size from blk_lt HRB.out))
  clear HX_g2 HG_g2 HB_g2 HR_w2 HG_w2 BK2 HN HRB
  generalize w2.heap.size = g3 at LE2 ⊢
  clear w2 w1
  rintro w3 ⟨bk3, bk2, hr3, hg3⟩
  have BK3 := Aside0.mk bk3
  have BK2 := Aside0.mk bk2
  have HR3 := Aside0.mk hr3
  have HG3 := Aside0.mk hg3
  clear bk3 bk2 hr3 hg3
  have HB3 := Aside0.mk (below_of_grown H00.out.1 H00.out.2 HG3.out)
  have c0 := HR3.out.cell0
  have q1 : w3.cell? ⟨g3, 1, none⟩ = some (.string tx) := (blk_cell BK3.out 1).trans rfl
  go_region_held3 (fun W => W.cell? ⟨b, 0, none⟩ = some (.slice A g.length c) ∧ W.cell? ⟨g3, 1, none⟩ = some (.string tx)) (go_keep) ((go_at_call 38; refine (HS _ (below_drew1 HB3.out)).out.mono ?_; rintro e w5 ⟨rfl, hd⟩; obtain ⟨nd, rfl⟩ := hd.out))
  refine hold_world (G := Exit.then _ _ _ _) (fun W => W.heap[g3]? = some (.cells #[.int .i64 1, .string tx, .int .i64 wat] 70 (0, 0)) ∧ W.heap[g2]? = some (.cells #[.string (⟨#[]⟩ : ByteArray), .int .i64 0, .slice none 0 0] 27 (0, 0)) ∧ RB W b A g.length c s p1 ∧ w.grownBy W (some b)) ⟨BK3.out, BK2.out, HR3.out, grown_below HG3.out (pw_below_drewN (Below.refl _ _) _)⟩ ?_
  clear BK3 BK2 HR3 HG3 HB3 c0 q1 HS hd
  rintro w4 ⟨bk3, bk2, hr3, hg3⟩
  have BK3 := Aside0.mk bk3
  have BK2 := Aside0.mk bk2
  have HR3 := Aside0.mk hr3
  have HG3 := Aside0.mk hg3
  clear bk3 bk2 hr3 hg3
  have q2 : w4.cell? ⟨g3, 2, none⟩ = some (.int .i64 wat) := (blk_cell BK3.out 2).trans rfl
  go_wp2_with (first | (go_at_call 35; refine (need_ok _ _ _).mono ?_; rintro e w5 ⟨rfl, rfl⟩) | ((with_reducible refine gate_dst (N := 42) rfl ?_); have LE3 := Aside0.mk (And.intro (show g2 < w4.heap.size from blk_lt BK2.out) (show g3 < w4.heap.size from blk_lt BK3.out)); refine hold_world (G := wpList _ _ _ _ _) (fun W => W.heap[w4.heap.size]? = some (.cells #[.string (⟨#[]⟩ : ByteArray), .int .i64 y1, .slice none 0 0] 27 (0, 0)) ∧ W.heap[g2]? = some (.cells #[.string (⟨#[]⟩ : ByteArray), .int .i64 0, .slice none 0 0] 27 (0, 0)) ∧ RB W b A g.length c s p1 ∧ w.grownBy W (some b)) ⟨(by repeat (first | exact blk_new _ _ | refine blk_alloc ?_ _ | refine blk_drew ?_ | refine blk_drewN ?_ _)), (by repeat (first | exact BK2.out | refine blk_alloc ?_ _ | refine blk_drew ?_ | refine blk_drewN ?_ _)), (by unfold RB; repeat (first | exact HR3.out | refine blk_alloc ?_ _ | refine blk_drew ?_ | refine blk_drewN ?_ _)), (by repeat (first | exact HG3.out | refine grown_alloc ?_ _ | refine grown_drew ?_ | refine grown_below ?_ (pw_below_drewN (Below.refl _ _) _)))⟩ ?_; generalize w4.heap.size = g6 at LE3 ⊢; clear BK3 BK2 HR3 HG3 q2; (try clear hHeld); clear w4; rintro w5 ⟨bk6, bk2, hr5, hg5⟩; have BK6 := Aside0.mk bk6; have BK2 := Aside0.mk bk2; have HR5 := Aside0.mk hr5; have HG5 := Aside0.mk hg5; clear bk6 bk2 hr5 hg5; refine goesL_ (some 42) rfl rfl Try.func34 (by kernel_rfl) rfl #[.pointer (some ⟨b, 0, none⟩)] rfl (by (try simp only [List.map_toArray, List.map_cons, List.map_nil]); first | done | rfl) ?_; refine (HP _ HR5.out).out.mono ?_; rintro e w6 ⟨rfl, hb6⟩; refine ⟨_, rfl, ?_⟩; have HB6 := Aside0.mk hb6; clear hb6; have BK6' := Aside0.mk (blk_below BK6.out HB6.out); have BK2' := Aside0.mk (blk_below BK2.out HB6.out); have HR6 := Aside0.mk (HR5.out.below HB6.out); have HG6 := Aside0.mk (grown_below HG5.out HB6.out); clear BK6 BK2 HR5 HG5 HB6 w5; skip) | ((with_reducible refine gate_dst (N := 50) rfl ?_); refine panicsL_ (some 50) rfl rfl Try.func36 (by kernel_rfl) rfl #[.pointer (some ⟨b, 0, none⟩)] rfl (by (try simp only [List.map_toArray, List.map_cons, List.map_nil]); first | done | rfl) ?_; refine ((HN3 _ (blk_alloc HR6.out _)).out).mono ?_; rintro e w7 ⟨rfl, HG_w7⟩; refine ⟨_, rfl, ?_⟩))
  exact ⟨rfl, rfl, grown_grown (grown_alloc HG6.out _) HG_w7⟩
end Go.Proofs.Ytpepjodkahdicaa.PTb
