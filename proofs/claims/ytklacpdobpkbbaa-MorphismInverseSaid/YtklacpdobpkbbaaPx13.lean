-- Written by wip/drive.py of this session's repo over the kit's print.py (with contracts of the session's own): not the print's own text
import Derived.Test.YtklacpdobpkbbaaPx0
import Derived.Test.YtklacpdobpkbbaaPx8
namespace Go.Proofs.Ytklacpdobpkbbaa.P
open Go.RowKit Go.Proofs.YtklacpdobpkbbaaW.PrintWords Go.Proofs.YtklacpdobpkbbaaW.PrintLast Go.Proofs.YtklacpdobpkbbaaW.PrintMore
attribute [local go_sem] max2_int min2_int max_two min_two max_three min_three max_four min_four   -- for this text's walks alone
set_option linter.unusedVariables false
set_option linter.unusedSimpArgs false

/-! ### scarfjointref05_Few: function 23 -/
def scarfjointref05_Few.f (l0_0 : List Int) (l0_1 : List (S65)) : Option (Bool) := if (l0_0.length : Int) ≤ 45 then (some (decide ((l0_1.length : Int) ≤ 90))) else (some false)
set_option maxHeartbeats 8000000 in
set_option maxRecDepth 100000 in
theorem scarfjointref05_Few.calls (A0_0 : Option Addr) (c0_0 : Nat) (l0_0 : List Int) (A0_1 : Option Addr) (c0_1 : Nat) (l0_1 : List (S65)) (r : Bool) (w : World) (hr0_0 : Kd.C (Kd.int .i64) w A0_0 l0_0.length l0_0) (hc0_0 : l0_0.length ≤ c0_0) (hr0_1 : Kd.C k65 w A0_1 l0_1.length l0_1) (hc0_1 : l0_1.length ≤ c0_1) (h : scarfjointref05_Few.f l0_0 l0_1 = some r) :
  Calls Try.prog 23 #[.agg #[.slice A0_0 l0_0.length c0_0, .slice A0_1 l0_1.length c0_1]] w fun e w' => e = .returned (.bool r) ∧ Below w.heap.size w w' := by
 have hu25 := Try.underlying25
 have HR0_0 := Aside0.mk hr0_0
 have HC0_0 := Aside0.mk hc0_0
 clear hr0_0 hc0_0
 have HR0_1 := Aside0.mk hr0_1
 have HC0_1 := Aside0.mk hc0_1
 clear hr0_1 hc0_1
 have HB := Aside0.mk (Below.refl w.heap.size w)
 have H : (if (l0_0.length : Int) ≤ 45 then (some (decide ((l0_1.length : Int) ≤ 90))) else (some false)) = some r := h
 clear h
 by_cases c2 : (l0_0.length : Int) ≤ 45
 ·rw [if_pos c2] at H
  have c2b0 : decide ((l0_0.length : Int) ≤ 45) = true := decide_eq_true c2
  have c2b1 : decide (l0_0.length ≤ 45) = true := decide_eq_true (by omega)
  clear c2
  obtain rfl := Option.some.inj H
  go_enter Try.func23, Try.ntmps23
  go_wp2_with (first | ((with_reducible refine gate_dst (N := 1) rfl ?_); (try (refine gate_guard (by rfl) ?_; dsimp only)); refine box_event ?hg (N := 1) ?hd (cs := #[.slice A0_0 l0_0.length c0_0, .slice A0_1 l0_1.length c0_1]) (t := 25) ?hr ?_; (case hd => rfl); (case hg => rfl); (case hr => first | (go_simp; done) | (go_simp; rfl)); intro gb192 hg w3 hbox hb; have BK192 := Aside0.mk (hbox); have GW192 := Aside0.mk (gw_ hg (mb_ HB.out)); have GE192 := Aside0.mk (gw_ hg (mb_ HB.out)); replace HB := Aside0.mk (below_step (mb_ HB.out) hb); clear hb hbox hg; have hcz4_0 := bc0_ BK192.out; have hcz4_1 := bc1_ BK192.out; have hfz4_0 := blk_frozen BK192.out 0; have hfz4_1 := blk_frozen BK192.out 1))
  go_ret
  exact ⟨by first | rfl | (simp [errW_none, errW_some] <;> rfl) | (simp [*, errW_none, errW_some] <;> rfl), mbs_ HB.out⟩
 rw [if_neg c2] at H
 have c2b0 : decide ((l0_0.length : Int) ≤ 45) = false := decide_eq_false c2
 have c2b1 : decide (l0_0.length ≤ 45) = false := decide_eq_false (by omega)
 clear c2
 obtain rfl := Option.some.inj H
 go_enter Try.func23, Try.ntmps23
 go_wp2_with (first | ((with_reducible refine gate_dst (N := 1) rfl ?_); (try (refine gate_guard (by rfl) ?_; dsimp only)); refine box_event ?hg (N := 1) ?hd (cs := #[.slice A0_0 l0_0.length c0_0, .slice A0_1 l0_1.length c0_1]) (t := 25) ?hr ?_; (case hd => rfl); (case hg => rfl); (case hr => first | (go_simp; done) | (go_simp; rfl)); intro gb192 hg w5 hbox hb; have BK192 := Aside0.mk (hbox); have GW192 := Aside0.mk (gw_ hg (mb_ HB.out)); have GE192 := Aside0.mk (gw_ hg (mb_ HB.out)); replace HB := Aside0.mk (below_step (mb_ HB.out) hb); clear hb hbox hg; have hcz6_0 := bc0_ BK192.out; have hcz6_1 := bc1_ BK192.out; have hfz6_0 := blk_frozen BK192.out 0; have hfz6_1 := blk_frozen BK192.out 1))
 go_ret
 exact ⟨by first | rfl | (simp [errW_none, errW_some] <;> rfl) | (simp [*, errW_none, errW_some] <;> rfl), mbs_ HB.out⟩

/-! ### scarfjointref06_Few: function 24 -/
def scarfjointref06_Few.f (l0_0 : List Int) (l0_1 : List Int) (a1 : Int) : Option (Bool) := some (decide ((wrap64 ((l0_0.length : Int) + (l0_1.length : Int))) ≤ a1))
set_option maxHeartbeats 8000000 in
set_option maxRecDepth 100000 in
theorem scarfjointref06_Few.calls (A0_0 : Option Addr) (c0_0 : Nat) (l0_0 : List Int) (A0_1 : Option Addr) (c0_1 : Nat) (l0_1 : List Int) (a1 : Int) (r : Bool) (w : World) (hr0_0 : Kd.C (Kd.int .i64) w A0_0 l0_0.length l0_0) (hc0_0 : l0_0.length ≤ c0_0) (hr0_1 : Kd.C (Kd.int .i64) w A0_1 l0_1.length l0_1) (hc0_1 : l0_1.length ≤ c0_1) (h : scarfjointref06_Few.f l0_0 l0_1 a1 = some r) :
  Calls Try.prog 24 #[.agg #[.slice A0_0 l0_0.length c0_0, .slice A0_1 l0_1.length c0_1], .int .i64 a1] w fun e w' => e = .returned (.bool r) ∧ Below w.heap.size w w' := by
 have hu27 := Try.underlying27
 have HR0_0 := Aside0.mk hr0_0
 have HC0_0 := Aside0.mk hc0_0
 clear hr0_0 hc0_0
 have HR0_1 := Aside0.mk hr0_1
 have HC0_1 := Aside0.mk hc0_1
 clear hr0_1 hc0_1
 have HB := Aside0.mk (Below.refl w.heap.size w)
 have H : (some (decide ((wrap64 ((l0_0.length : Int) + (l0_1.length : Int))) ≤ a1))) = some r := h
 clear h
 obtain rfl := Option.some.inj H
 go_enter Try.func24, Try.ntmps24
 go_wp2_with (first | ((with_reducible refine gate_dst (N := 2) rfl ?_); refine box_event ?hg (N := 2) ?hd (cs := #[.slice A0_0 l0_0.length c0_0, .slice A0_1 l0_1.length c0_1]) (t := 27) ?hr ?_; (case hd => rfl); (case hg => rfl); (case hr => first | (go_simp; done) | (go_simp; rfl)); intro gb193 hg w3 hbox hb; have BK193 := Aside0.mk (hbox); have GW193 := Aside0.mk (gw_ hg (mb_ HB.out)); have GE193 := Aside0.mk (gw_ hg (mb_ HB.out)); replace HB := Aside0.mk (below_step (mb_ HB.out) hb); clear hb hbox hg; have hcz4_0 := bc0_ BK193.out; have hcz4_1 := bc1_ BK193.out; have hfz4_0 := blk_frozen BK193.out 0; have hfz4_1 := blk_frozen BK193.out 1))
 go_ret
 exact ⟨by first | rfl | (simp [errW_none, errW_some] <;> rfl) | (simp [*, errW_none, errW_some] <;> rfl), mbs_ HB.out⟩

/-! ### scarfjointlaw06_copied: function 13 -/
def scarfjointlaw06_copied.f (l0_0 : List Int) (l0_1 : List Int) : Option (List Int × List Int) := (slices_Clone_int_int.f l0_0).bind fun t202 => ((slices_Clone_int_int.f l0_1).bind fun t205 => (some (t202, t205)))
def scarfjointlaw06_copied.T1 : Bool × List (List Nat × List Nat) := (true, [([], []), ([0], [0]), ([1], [1]), ([], []), ([3], [3]), ([4, 2], [4]), ([2, 5], [2, 5]), ([6, 5, 0, 1, 2, 3, 4, 5, 6], [6])])
def scarfjointlaw06_copied.B1 : List Nat := [0, 1, 3, 0, 8, 31, 63, 127]
theorem scarfjointlaw06_copied.tab1 : rtab .any (opsOf Try.f13 1) = scarfjointlaw06_copied.T1 := by kernel_rfl
theorem scarfjointlaw06_copied.bits1 : waitsOk scarfjointlaw06_copied.T1.2 scarfjointlaw06_copied.B1 = true := by kernel_rfl
set_option maxHeartbeats 8000000 in
set_option maxRecDepth 100000 in
theorem scarfjointlaw06_copied.calls (A0_0 : Option Addr) (c0_0 : Nat) (l0_0 : List Int) (A0_1 : Option Addr) (c0_1 : Nat) (l0_1 : List Int) (r1 : List Int) (r2 : List Int) (w : World) (hr0_0 : Kd.C (Kd.int .i64) w A0_0 l0_0.length l0_0) (hc0_0 : l0_0.length ≤ c0_0) (hr0_1 : Kd.C (Kd.int .i64) w A0_1 l0_1.length l0_1) (hc0_1 : l0_1.length ≤ c0_1) (h : scarfjointlaw06_copied.f l0_0 l0_1 = some (r1, r2)) :
  Calls Try.prog 13 #[.agg #[.slice A0_0 l0_0.length c0_0, .slice A0_1 l0_1.length c0_1]] w fun e w' => ∃ v0_ v1_ : Value, e = .returned (.agg #[v0_, v1_]) ∧ Kd.R (Kd.int .i64) 3 w' w.heap.size (fun k_ => some k_ ≠ (v1_ : Value).ownBlock) v0_ r1 ∧ Kd.R (Kd.int .i64) 3 w' w.heap.size (fun k_ => some k_ ≠ (v0_ : Value).ownBlock) v1_ r2 ∧ Below w.heap.size w w' := by
 have hu27 := Try.underlying27
 have HR0_0 := Aside0.mk hr0_0
 have HC0_0 := Aside0.mk hc0_0
 clear hr0_0 hc0_0
 have HR0_1 := Aside0.mk hr0_1
 have HC0_1 := Aside0.mk hc0_1
 clear hr0_1 hc0_1
 have HB := Aside0.mk (Below.refl w.heap.size w)
 have H : ((slices_Clone_int_int.f l0_0).bind fun t202 => ((slices_Clone_int_int.f l0_1).bind fun t205 => (some (t202, t205)))) = some (r1, r2) := h
 clear h
 replace H := Option.bind_eq_some_iff.mp H
 obtain ⟨t202, A20, H⟩ := H
 replace H : ((slices_Clone_int_int.f l0_1).bind fun t205 => (some (t202, t205))) = some (r1, r2) := H
 have A2 := Aside0.mk A20
 clear A20
 replace H := Option.bind_eq_some_iff.mp H
 obtain ⟨t205, A30, H⟩ := H
 replace H : (some (t202, t205)) = some (r1, r2) := H
 have A3 := Aside0.mk A30
 clear A30
 simp only [Option.some.injEq, Prod.mk.injEq] at H
 obtain ⟨rfl, rfl⟩ := H
 go_enter Try.func13, Try.ntmps13
 try go_wp2_with (first | ((with_reducible refine gate_dst (N := 1) rfl ?_); refine box_event ?hg (N := 1) ?hd (cs := #[.slice A0_0 l0_0.length c0_0, .slice A0_1 l0_1.length c0_1]) (t := 27) ?hr ?_; (case hd => rfl); (case hg => rfl); (case hr => first | (go_simp; done) | (go_simp; rfl)); intro gb200 hg w4 hbox hb; have BK200 := Aside0.mk (hbox); have GW200 := Aside0.mk (gw_ hg (mb_ HB.out)); have GE200 := Aside0.mk (gw_ hg (mb_ HB.out)); replace HB := Aside0.mk (below_step (mb_ HB.out) hb); clear hb hbox hg) | ((with_reducible refine gate_dst (N := 2) rfl ?_); refine box_event ?hg (N := 2) ?hd (cs := #[.slice none 0 0, .slice none 0 0]) (t := 27) ?hr ?_; (case hd => rfl); (case hg => rfl); (case hr => first | (go_simp; done) | (go_simp; rfl)); intro gb201 hg w5 hbox hb; have BK201 := Aside0.mk (hbox); have GW201 := Aside0.mk (gw_ hg (mbs_ HB.out)); have GE201 := Aside0.mk (gw_ hg (mbs_ HB.out)); replace HB := Aside0.mk (below_step (mbs_ HB.out) hb); have NB200_201 := Aside0.mk (nb_ hg (bk_ BK200.out)); have NB201_200 := Aside0.mk (nc_ hg (bk_ BK200.out)); replace BK200 := kb_ (bk_ BK200.out) hb; clear hb hbox hg))
 replace BK200 := Aside0.mk (blk_drew BK200.out)
 replace BK201 := Aside0.mk (blk_drew BK201.out)
 replace HB := Aside0.mk (below_drew1 HB.out)
 refine start_ (n := 8) (S := fun w' => w'.cell? ⟨gb200, 0, none⟩ = some (.slice A0_0 l0_0.length c0_0) ∧ w'.cell? ⟨gb200, 1, none⟩ = some (.slice A0_1 l0_1.length c0_1)) (ds := []) #[false, false, false, false, false, false, false, false] (by kernel_rfl) rfl rfl ⟨(blk_cell BK200.out 0).trans rfl, (blk_cell BK200.out 1).trans rfl⟩ (fun hHeld => ?_); refine with_tabW scarfjointlaw06_copied.tab1 scarfjointlaw06_copied.bits1 (fun HT_ HW_ => ?_)
 generalize w5.drew = w6 at BK200 BK201 HB hHeld ⊢
 refine pw_ (i := 0) (N := some 3) (bm_ 8 1) rfl HT_.out ?_
 refine pw_ (i := 3) (N := some 6) (bm_ 8 9) rfl HT_.out ?_
 refine tw_ (i := 1) (N := some 4) (bm_ 8 11) rfl HT_.out HW_.out hHeld ?_
 refine tw_ (i := 4) (N := some 7) (bm_ 8 27) rfl HT_.out HW_.out hHeld ?_
 refine one_ (i := 2) (N := some 5) (bm_ 8 31) rfl rfl (one_of HT_.out (by kernel_rfl)) (by decide) (fun K hK => ?_)
 refine goes_ Try.func39 (by kernel_rfl) rfl #[.slice A0_0 l0_0.length c0_0] (by rfl) rfl rfl (by (try simp only [List.map_toArray, List.map_cons, List.map_nil]); first | done | rfl | (simp only [List.length_drop, List.length_take]; rfl)) ?_
 with_reducible refine (slices_Clone_int_int.calls _ _ l0_0 t202 _ ?side1 ?side2 A2.out).mono ?_
 (case side1 => exact mc_ (Kd.C_below HR0_0.out HB.out))
 (case side2 => exact HC0_0.out)
 rintro e w7 ⟨v203, rfl, ho0, hb⟩
 refine ⟨_, rfl, ?_⟩
 have HO204 := Aside0.mk (Kd.R_lower ho0 (below_size (mbs_ HB.out)))
 replace BK200 := kb_ (bk_ BK200.out) hb
 replace BK201 := kb_ (bk_ BK201.out) hb
 replace HB := Aside0.mk (below_step (mbs_ HB.out) hb)
 (try clear hb)
 (try clear hb2)
 (try clear hk)
 (try clear hi)
 (try clear ho0)
 refine hK.out _ _ ⟨(blk_cell BK200.out 0).trans rfl, (blk_cell BK200.out 1).trans rfl⟩ (fun hHeld => ?_)
 clear hK K
 refine norm_ (a' := ?_) ?_ ?_
 rotate_left
 ·show Act.put _ (some 5) _ = _
  simp only [Act.put, List.setIfInBounds_toArray, List.set_cons_zero, List.set_cons_succ, i64_w, i32_w]
  rfl
 refine one_ (i := 5) (N := some 8) (bm_ 8 63) rfl rfl (one_of HT_.out (by kernel_rfl)) (by decide) (fun K hK => ?_)
 refine goes_ Try.func39 (by kernel_rfl) rfl #[.slice A0_1 l0_1.length c0_1] (by rfl) rfl rfl (by (try simp only [List.map_toArray, List.map_cons, List.map_nil]); first | done | rfl | (simp only [List.length_drop, List.length_take]; rfl)) ?_
 with_reducible refine (slices_Clone_int_int.calls _ _ l0_1 t205 _ ?side1 ?side2 A3.out).mono ?_
 (case side1 => exact mc_ (Kd.C_below HR0_1.out HB.out))
 (case side2 => exact HC0_1.out)
 rintro e w8 ⟨v206, rfl, ho0, hb⟩
 refine ⟨_, rfl, ?_⟩
 have HO207 := Aside0.mk (Kd.R_lower (Kd.R_new' ho0 (Kd.R_lt (mr_ HO204.out))) (below_size (mbs_ HB.out)))
 replace HO204 := Aside0.mk (Kd.R_elder' (mr_ HO204.out) (Kd.R_base ho0) hb)
 replace BK200 := kb_ (bk_ BK200.out) hb
 replace BK201 := kb_ (bk_ BK201.out) hb
 replace HB := Aside0.mk (below_step (mbs_ HB.out) hb)
 (try clear hb)
 (try clear hb2)
 (try clear hk)
 (try clear hi)
 (try clear ho0)
 obtain ⟨Ao9, co9, eo9⟩ := Kd.R_slice HO207.out
 (first | subst eo9 | (injection eo9 with f1_ f2_ f3_; have f4_ := f1_.symm; have f5_ := f3_.symm; clear f1_ f2_ f3_; subst f4_; subst f5_))
 obtain ⟨Ao10, co10, eo10⟩ := Kd.R_slice HO204.out
 (first | subst eo10 | (injection eo10 with f1_ f2_ f3_; have f4_ := f1_.symm; have f5_ := f3_.symm; clear f1_ f2_ f3_; subst f4_; subst f5_))
 refine hK.out _ _ ⟨(blk_cell BK200.out 0).trans rfl, (blk_cell BK200.out 1).trans rfl⟩ (fun hHeld => ?_)
 clear hK K
 refine norm_ (a' := ?_) ?_ ?_
 rotate_left
 ·show Act.put _ (some 8) _ = _
  simp only [Act.put, List.setIfInBounds_toArray, List.set_cons_zero, List.set_cons_succ, i64_w, i32_w]
  rfl
 refine pw_ (i := 6) (N := some 9) (bm_ 8 127) rfl HT_.out ?_
 refine one_ (i := 7) (N := none) (bm_ 8 255) rfl rfl (one_of HT_.out (by kernel_rfl)) (by decide) (fun K hK => ?_)
 have hs11 : w8.cell? ⟨gb201, 0, none⟩ = some (.slice none 0 0) := (blk_cell BK201.out 0).trans rfl
 have hfs11 := blk_frozen BK201.out 0
 have hns11_0 := NB200_201.out
 have hms11_0 := NB201_200.out
 have hs12 : w8.cell? ⟨gb201, 1, none⟩ = some (.slice none 0 0) := (blk_cell BK201.out 1).trans rfl
 have hfs12 := blk_frozen BK201.out 1
 have hns12_0 := NB200_201.out
 have hms12_0 := NB201_200.out
 refine skip_ (w1 := ?_) (by rfl) rfl ?_ ?_
 rotate_left
 ·go_simp
  rfl
 refine hK.out _ _ ⟨((cell_far (p := ⟨gb201, _, none⟩) NB200_201.out _).trans (((cell_far (p := ⟨gb201, _, none⟩) NB200_201.out _).trans (hHeld.1)))), ((cell_far (p := ⟨gb201, _, none⟩) NB200_201.out _).trans (((cell_far (p := ⟨gb201, _, none⟩) NB200_201.out _).trans (hHeld.2))))⟩ (fun hHeld => ?_)
 clear hK K
 refine done_ (done_of HT_.out (by kernel_rfl)) ?_
 try go_wp2
 refine bodyPost_ret (results_cell_row rfl _ _ gb201 27 #[.slice Ao10 t202.length co10, .slice Ao9 t205.length co9] (0, 0) _ rfl (by (with_reducible repeat (first | refine blk_drewN ?_ _ | refine blk_drew ?_ | refine blk_alloc ?_ _)); refine blk_put (cs := #[.slice Ao10 t202.length co10, .slice none 0 0]) ?_ 1 _ rfl; (with_reducible repeat (first | refine blk_drewN ?_ _ | refine blk_drew ?_ | refine blk_alloc ?_ _)); refine blk_put (cs := #[.slice none 0 0, .slice none 0 0]) ?_ 0 _ rfl; (with_reducible repeat (first | refine blk_drewN ?_ _ | refine blk_drew ?_ | refine blk_alloc ?_ _)); exact BK201.out) Try.underlying27 rfl (by kernel_rfl)) rfl ?_
 exact ⟨_, _, by first | rfl | (simp [errW_none, errW_some] <;> rfl) | (simp [*, errW_none, errW_some] <;> rfl), by (with_reducible repeat (first | apply Kd.R_alloc | apply Kd.R_drewN | apply Kd.R_drew)); exact Kd.R_mono (Kd.R_far (p := ⟨gb201, 1, none⟩) (Kd.R_far (p := ⟨gb201, 0, none⟩) (Kd.R_types HO204.out BK201.out (by decide)) (fun _ hk => hk.2) (.slice Ao10 t202.length co10)) (fun _ hk => hk.2) (.slice Ao9 t205.length co9)) (fun _ hk => hk.1.2), by (with_reducible repeat (first | apply Kd.R_alloc | apply Kd.R_drewN | apply Kd.R_drew)); exact Kd.R_mono (Kd.R_far (p := ⟨gb201, 1, none⟩) (Kd.R_far (p := ⟨gb201, 0, none⟩) (Kd.R_types HO207.out BK201.out (by decide)) (fun _ hk => hk.2) (.slice Ao10 t202.length co10)) (fun _ hk => hk.2) (.slice Ao9 t205.length co9)) (fun _ hk => hk.1.2), mbs_ HB.out⟩

/-! ### scarfjointref05_kind: function 43 -/
def scarfjointref05_kind.f (a0 : Int) : Option (Bool) := if a0 ≥ 0 then (some (decide (a0 ≤ 99))) else (some false)
set_option maxHeartbeats 8000000 in
set_option maxRecDepth 100000 in
theorem scarfjointref05_kind.calls (a0 : Int) (r : Bool) (w : World) (h : scarfjointref05_kind.f a0 = some r) :
  Calls Try.prog 43 #[.int .i64 a0] w fun e w' => e = .returned (.bool r) ∧ Drawn0 w w' := by
 have H : (if a0 ≥ 0 then (some (decide (a0 ≤ 99))) else (some false)) = some r := h
 clear h
 by_cases c2 : a0 ≥ 0
 ·rw [if_pos c2] at H
  have c2b0 : decide (0 ≤ a0) = true := decide_eq_true c2
  clear c2
  obtain rfl := Option.some.inj H
  go_enter Try.func43, Try.ntmps43
  go_wp2
  go_ret
  exact ⟨by first | rfl | (simp; done) | (simp [*]; done), by repeat (first | exact Drawn0.refl _ | apply Drawn0.step)⟩
 rw [if_neg c2] at H
 have c2b0 : decide (0 ≤ a0) = false := decide_eq_false c2
 clear c2
 obtain rfl := Option.some.inj H
 go_enter Try.func43, Try.ntmps43
 go_wp2
 go_ret
 exact ⟨by first | rfl | (simp; done) | (simp [*]; done), by repeat (first | exact Drawn0.refl _ | apply Drawn0.step)⟩

/-! ### scarfjointref05_right: function 44 -/
def scarfjointref05_right.f (a0_0 : Int) (a0_1 : Int) (a0_2 : Int) (a1 : Int) : Option (Bool) := (scarfjointref05_kind.f a0_0).bind fun t209 => (if t209 = true then (if a0_1 ≥ 0 then (if a0_1 < a1 then (if a0_2 ≥ 0 then (some (decide (a0_2 < a1))) else (some false)) else (some false)) else (some false)) else (some false))
set_option maxHeartbeats 8000000 in
set_option maxRecDepth 100000 in
theorem scarfjointref05_right.calls (a0_0 : Int) (a0_1 : Int) (a0_2 : Int) (a1 : Int) (r : Bool) (w : World) (h : scarfjointref05_right.f a0_0 a0_1 a0_2 a1 = some r) :
  Calls Try.prog 44 #[.agg #[.int .i64 a0_0, .int .i64 a0_1, .int .i64 a0_2], .int .i64 a1] w fun e w' => e = .returned (.bool r) ∧ Below w.heap.size w w' := by
 have hu65 := Try.underlying65
 have HB := Aside0.mk (Below.refl w.heap.size w)
 have H : ((scarfjointref05_kind.f a0_0).bind fun t209 => (if t209 = true then (if a0_1 ≥ 0 then (if a0_1 < a1 then (if a0_2 ≥ 0 then (some (decide (a0_2 < a1))) else (some false)) else (some false)) else (some false)) else (some false))) = some r := h
 clear h
 replace H := Option.bind_eq_some_iff.mp H
 obtain ⟨t209, A30, H⟩ := H
 replace H : (if t209 = true then (if a0_1 ≥ 0 then (if a0_1 < a1 then (if a0_2 ≥ 0 then (some (decide (a0_2 < a1))) else (some false)) else (some false)) else (some false)) else (some false)) = some r := H
 have A3 := Aside0.mk A30
 clear A30
 by_cases c4 : t209 = true
 ·subst c4
  have H1 : (if a0_1 ≥ 0 then (if a0_1 < a1 then (if a0_2 ≥ 0 then (some (decide (a0_2 < a1))) else (some false)) else (some false)) else (some false)) = some r := by rw [if_pos rfl] at H; exact H
  clear H
  have H := H1
  clear H1
  by_cases c5 : a0_1 ≥ 0
  ·rw [if_pos c5] at H
   have c5b0 : decide (0 ≤ a0_1) = true := decide_eq_true c5
   clear c5
   by_cases c6 : a0_1 < a1
   ·rw [if_pos c6] at H
    have c6b0 : decide (a0_1 < a1) = true := decide_eq_true c6
    clear c6
    by_cases c7 : a0_2 ≥ 0
    ·rw [if_pos c7] at H
     have c7b0 : decide (0 ≤ a0_2) = true := decide_eq_true c7
     clear c7
     obtain rfl := Option.some.inj H
     go_enter Try.func44, Try.ntmps44
     go_wp2_with (first | ((with_reducible refine gate_dst (N := 2) rfl ?_); refine box_event ?hg (N := 2) ?hd (cs := #[.int .i64 a0_0, .int .i64 a0_1, .int .i64 a0_2]) (t := 65) ?hr ?_; (case hd => rfl); (case hg => rfl); (case hr => first | (go_simp; done) | (go_simp; rfl)); intro gb208 hg w8 hbox hb; have BK208 := Aside0.mk (hbox); have GW208 := Aside0.mk (gw_ hg (mb_ HB.out)); have GE208 := Aside0.mk (gw_ hg (mb_ HB.out)); replace HB := Aside0.mk (below_step (mb_ HB.out) hb); clear hb hbox hg; have hcz9_0 := bc0_ BK208.out; have hcz9_1 := bc1_ BK208.out; have hcz9_2 := bc2_ BK208.out; have hfz9_0 := blk_frozen BK208.out 0; have hfz9_1 := blk_frozen BK208.out 1; have hfz9_2 := blk_frozen BK208.out 2) | ((with_reducible refine gate_callee (f := 43) rfl ?_); refine goesL_ (some 7) rfl rfl Try.func43 (by kernel_rfl) rfl #[.int .i64 a0_0] rfl (by (try simp only [List.map_toArray, List.map_cons, List.map_nil]); first | done | rfl | (simp only [List.length_drop, List.length_take]; rfl)) ?_; (with_reducible refine (scarfjointref05_kind.calls a0_0 true _ A3.out).mono ?_); rintro e w' ⟨rfl, ⟨nd, rfl⟩⟩; refine ⟨_, rfl, ?_⟩))
     go_ret
     exact ⟨by first | rfl | (simp [errW_none, errW_some] <;> rfl) | (simp [*, errW_none, errW_some] <;> rfl), mbs_ HB.out⟩
    rw [if_neg c7] at H
    have c7b0 : decide (0 ≤ a0_2) = false := decide_eq_false c7
    clear c7
    obtain rfl := Option.some.inj H
    go_enter Try.func44, Try.ntmps44
    go_wp2_with (first | ((with_reducible refine gate_dst (N := 2) rfl ?_); refine box_event ?hg (N := 2) ?hd (cs := #[.int .i64 a0_0, .int .i64 a0_1, .int .i64 a0_2]) (t := 65) ?hr ?_; (case hd => rfl); (case hg => rfl); (case hr => first | (go_simp; done) | (go_simp; rfl)); intro gb208 hg w10 hbox hb; have BK208 := Aside0.mk (hbox); have GW208 := Aside0.mk (gw_ hg (mb_ HB.out)); have GE208 := Aside0.mk (gw_ hg (mb_ HB.out)); replace HB := Aside0.mk (below_step (mb_ HB.out) hb); clear hb hbox hg; have hcz11_0 := bc0_ BK208.out; have hcz11_1 := bc1_ BK208.out; have hcz11_2 := bc2_ BK208.out; have hfz11_0 := blk_frozen BK208.out 0; have hfz11_1 := blk_frozen BK208.out 1; have hfz11_2 := blk_frozen BK208.out 2) | ((with_reducible refine gate_callee (f := 43) rfl ?_); refine goesL_ (some 7) rfl rfl Try.func43 (by kernel_rfl) rfl #[.int .i64 a0_0] rfl (by (try simp only [List.map_toArray, List.map_cons, List.map_nil]); first | done | rfl | (simp only [List.length_drop, List.length_take]; rfl)) ?_; (with_reducible refine (scarfjointref05_kind.calls a0_0 true _ A3.out).mono ?_); rintro e w' ⟨rfl, ⟨nd, rfl⟩⟩; refine ⟨_, rfl, ?_⟩))
    go_ret
    exact ⟨by first | rfl | (simp [errW_none, errW_some] <;> rfl) | (simp [*, errW_none, errW_some] <;> rfl), mbs_ HB.out⟩
   rw [if_neg c6] at H
   have c6b0 : decide (a0_1 < a1) = false := decide_eq_false c6
   clear c6
   obtain rfl := Option.some.inj H
   go_enter Try.func44, Try.ntmps44
   go_wp2_with (first | ((with_reducible refine gate_dst (N := 2) rfl ?_); refine box_event ?hg (N := 2) ?hd (cs := #[.int .i64 a0_0, .int .i64 a0_1, .int .i64 a0_2]) (t := 65) ?hr ?_; (case hd => rfl); (case hg => rfl); (case hr => first | (go_simp; done) | (go_simp; rfl)); intro gb208 hg w12 hbox hb; have BK208 := Aside0.mk (hbox); have GW208 := Aside0.mk (gw_ hg (mb_ HB.out)); have GE208 := Aside0.mk (gw_ hg (mb_ HB.out)); replace HB := Aside0.mk (below_step (mb_ HB.out) hb); clear hb hbox hg; have hcz13_0 := bc0_ BK208.out; have hcz13_1 := bc1_ BK208.out; have hcz13_2 := bc2_ BK208.out; have hfz13_0 := blk_frozen BK208.out 0; have hfz13_1 := blk_frozen BK208.out 1; have hfz13_2 := blk_frozen BK208.out 2) | ((with_reducible refine gate_callee (f := 43) rfl ?_); refine goesL_ (some 7) rfl rfl Try.func43 (by kernel_rfl) rfl #[.int .i64 a0_0] rfl (by (try simp only [List.map_toArray, List.map_cons, List.map_nil]); first | done | rfl | (simp only [List.length_drop, List.length_take]; rfl)) ?_; (with_reducible refine (scarfjointref05_kind.calls a0_0 true _ A3.out).mono ?_); rintro e w' ⟨rfl, ⟨nd, rfl⟩⟩; refine ⟨_, rfl, ?_⟩))
   go_ret
   exact ⟨by first | rfl | (simp [errW_none, errW_some] <;> rfl) | (simp [*, errW_none, errW_some] <;> rfl), mbs_ HB.out⟩
  rw [if_neg c5] at H
  have c5b0 : decide (0 ≤ a0_1) = false := decide_eq_false c5
  clear c5
  obtain rfl := Option.some.inj H
  go_enter Try.func44, Try.ntmps44
  go_wp2_with (first | ((with_reducible refine gate_dst (N := 2) rfl ?_); refine box_event ?hg (N := 2) ?hd (cs := #[.int .i64 a0_0, .int .i64 a0_1, .int .i64 a0_2]) (t := 65) ?hr ?_; (case hd => rfl); (case hg => rfl); (case hr => first | (go_simp; done) | (go_simp; rfl)); intro gb208 hg w14 hbox hb; have BK208 := Aside0.mk (hbox); have GW208 := Aside0.mk (gw_ hg (mb_ HB.out)); have GE208 := Aside0.mk (gw_ hg (mb_ HB.out)); replace HB := Aside0.mk (below_step (mb_ HB.out) hb); clear hb hbox hg; have hcz15_0 := bc0_ BK208.out; have hcz15_1 := bc1_ BK208.out; have hcz15_2 := bc2_ BK208.out; have hfz15_0 := blk_frozen BK208.out 0; have hfz15_1 := blk_frozen BK208.out 1; have hfz15_2 := blk_frozen BK208.out 2) | ((with_reducible refine gate_callee (f := 43) rfl ?_); refine goesL_ (some 7) rfl rfl Try.func43 (by kernel_rfl) rfl #[.int .i64 a0_0] rfl (by (try simp only [List.map_toArray, List.map_cons, List.map_nil]); first | done | rfl | (simp only [List.length_drop, List.length_take]; rfl)) ?_; (with_reducible refine (scarfjointref05_kind.calls a0_0 true _ A3.out).mono ?_); rintro e w' ⟨rfl, ⟨nd, rfl⟩⟩; refine ⟨_, rfl, ?_⟩))
  go_ret
  exact ⟨by first | rfl | (simp [errW_none, errW_some] <;> rfl) | (simp [*, errW_none, errW_some] <;> rfl), mbs_ HB.out⟩
 replace c4 := Bool.eq_false_iff.mpr c4
 subst c4
 have H1 : (some false) = some r := by rw [if_neg (show ¬ (false = true) by decide)] at H; exact H
 clear H
 have H := H1
 clear H1
 obtain rfl := Option.some.inj H
 go_enter Try.func44, Try.ntmps44
 go_wp2_with (first | ((with_reducible refine gate_dst (N := 2) rfl ?_); refine box_event ?hg (N := 2) ?hd (cs := #[.int .i64 a0_0, .int .i64 a0_1, .int .i64 a0_2]) (t := 65) ?hr ?_; (case hd => rfl); (case hg => rfl); (case hr => first | (go_simp; done) | (go_simp; rfl)); intro gb208 hg w16 hbox hb; have BK208 := Aside0.mk (hbox); have GW208 := Aside0.mk (gw_ hg (mb_ HB.out)); have GE208 := Aside0.mk (gw_ hg (mb_ HB.out)); replace HB := Aside0.mk (below_step (mb_ HB.out) hb); clear hb hbox hg; have hcz17_0 := bc0_ BK208.out; have hcz17_1 := bc1_ BK208.out; have hcz17_2 := bc2_ BK208.out; have hfz17_0 := blk_frozen BK208.out 0; have hfz17_1 := blk_frozen BK208.out 1; have hfz17_2 := blk_frozen BK208.out 2) | ((with_reducible refine gate_callee (f := 43) rfl ?_); refine goesL_ (some 7) rfl rfl Try.func43 (by kernel_rfl) rfl #[.int .i64 a0_0] rfl (by (try simp only [List.map_toArray, List.map_cons, List.map_nil]); first | done | rfl | (simp only [List.length_drop, List.length_take]; rfl)) ?_; (with_reducible refine (scarfjointref05_kind.calls a0_0 false _ A3.out).mono ?_); rintro e w' ⟨rfl, ⟨nd, rfl⟩⟩; refine ⟨_, rfl, ?_⟩))
 go_ret
 exact ⟨by first | rfl | (simp [errW_none, errW_some] <;> rfl) | (simp [*, errW_none, errW_some] <;> rfl), mbs_ HB.out⟩

/-! ### scarfjointref05_Valid: function 19 -/
mutual
def scarfjointref05_Valid.j0 : Nat → Bool → List Int → List (S65) → Option (Int)
 | 0, _, _, _ => none
 | k + 1, x14, x211000, x211001 => if x14 = true then (some 3) else (scarfjointref05_Valid.l0 k 0 x211000 x211001)
def scarfjointref05_Valid.l0 : Nat → Int → List Int → List (S65) → Option (Int)
 | 0, _, _, _ => none
 | k + 1, x3, x211000, x211001 => if x3 < (x211000.length : Int) then (if 0 ≤ x3 then ((scarfjointref05_kind.f (rd x211000 x3)).bind fun t212 => (if t212 = true then (scarfjointref05_Valid.l0 k (wrap64 (x3 + 1)) x211000 x211001) else (some 6))) else (none)) else (scarfjointref05_Valid.l1 k 0 x211000 x211001)
def scarfjointref05_Valid.l1 : Nat → Int → List Int → List (S65) → Option (Int)
 | 0, _, _, _ => none
 | k + 1, x4, x211000, x211001 => if x4 < (x211001.length : Int) then (if 0 ≤ x4 then ((scarfjointref05_right.f ((rd_T65 x211001 x4).f0) ((rd_T65 x211001 x4).f1) ((rd_T65 x211001 x4).f2) (x211000.length : Int)).bind fun t214 => (if t214 = true then (scarfjointref05_Valid.l1 k (wrap64 (x4 + 1)) x211000 x211001) else (some 6))) else (none)) else (some 0)
end
def scarfjointref05_Valid.f (k : Nat) (l0_0 : List Int) (l0_1 : List (S65)) : Option (Int) := if (l0_0.length : Int) > 40 then (scarfjointref05_Valid.j0 k true l0_0 l0_1) else (scarfjointref05_Valid.j0 k (decide ((l0_1.length : Int) > 80)) l0_0 l0_1)
theorem scarfjointref05_Valid.mono_l : ∀ k, (∀ y0 y1 y2, LeO (scarfjointref05_Valid.j0 k y0 y1 y2) (scarfjointref05_Valid.j0 (k + 1) y0 y1 y2)) ∧ (∀ y0 y1 y2, LeO (scarfjointref05_Valid.l0 k y0 y1 y2) (scarfjointref05_Valid.l0 (k + 1) y0 y1 y2)) ∧ (∀ y0 y1 y2, LeO (scarfjointref05_Valid.l1 k y0 y1 y2) (scarfjointref05_Valid.l1 (k + 1) y0 y1 y2))
 | 0 => ⟨fun _ _ _ r h => by simp [scarfjointref05_Valid.j0] at h, fun _ _ _ r h => by simp [scarfjointref05_Valid.l0] at h, fun _ _ _ r h => by simp [scarfjointref05_Valid.l1] at h⟩
 | k + 1 => by
  obtain ⟨ih0, ih1, ih2⟩ := scarfjointref05_Valid.mono_l k
  refine ⟨?_, ?_, ?_⟩
  ·intro y0 y1 y2
   unfold scarfjointref05_Valid.j0
   repeat' first
   | (with_reducible exact ih0 _ _ _)
   | (with_reducible exact ih1 _ _ _)
   | (with_reducible exact ih2 _ _ _)
   | (with_reducible exact LeO.refl _)
   | (with_reducible exact LeO.none _)
   | (with_reducible refine LeO.ite ?_ ?_)
   | (with_reducible refine LeO.bind ?_ (fun _ => ?_))
   | exact ih0 _ _ _
   | exact ih1 _ _ _
   | exact ih2 _ _ _
   | exact LeO.none _
   | refine LeO.ite ?_ ?_
   | refine LeO.bind ?_ (fun _ => ?_)
  ·intro y0 y1 y2
   unfold scarfjointref05_Valid.l0
   repeat' first
   | (with_reducible exact ih0 _ _ _)
   | (with_reducible exact ih1 _ _ _)
   | (with_reducible exact ih2 _ _ _)
   | (with_reducible exact LeO.refl _)
   | (with_reducible exact LeO.none _)
   | (with_reducible refine LeO.ite ?_ ?_)
   | (with_reducible refine LeO.bind ?_ (fun _ => ?_))
   | exact ih0 _ _ _
   | exact ih1 _ _ _
   | exact ih2 _ _ _
   | exact LeO.none _
   | refine LeO.ite ?_ ?_
   | refine LeO.bind ?_ (fun _ => ?_)
  ·intro y0 y1 y2
   unfold scarfjointref05_Valid.l1
   repeat' first
   | (with_reducible exact ih0 _ _ _)
   | (with_reducible exact ih1 _ _ _)
   | (with_reducible exact ih2 _ _ _)
   | (with_reducible exact LeO.refl _)
   | (with_reducible exact LeO.none _)
   | (with_reducible refine LeO.ite ?_ ?_)
   | (with_reducible refine LeO.bind ?_ (fun _ => ?_))
   | exact ih0 _ _ _
   | exact ih1 _ _ _
   | exact ih2 _ _ _
   | exact LeO.none _
   | refine LeO.ite ?_ ?_
   | refine LeO.bind ?_ (fun _ => ?_)
theorem scarfjointref05_Valid.mono : ∀ a0 a1 k, LeO (scarfjointref05_Valid.f k a0 a1) (scarfjointref05_Valid.f (k + 1) a0 a1) := by
 intro a0 a1 k
 obtain ⟨ih0, ih1, ih2⟩ := scarfjointref05_Valid.mono_l k
 unfold scarfjointref05_Valid.f
 repeat' first
   | (with_reducible exact ih0 _ _ _)
   | (with_reducible exact ih1 _ _ _)
   | (with_reducible exact ih2 _ _ _)
   | (with_reducible exact LeO.refl _)
   | (with_reducible exact LeO.none _)
   | (with_reducible refine LeO.ite ?_ ?_)
   | (with_reducible refine LeO.bind ?_ (fun _ => ?_))
   | exact ih0 _ _ _
   | exact ih1 _ _ _
   | exact ih2 _ _ _
   | exact LeO.none _
   | refine LeO.ite ?_ ?_
   | refine LeO.bind ?_ (fun _ => ?_)
def scarfjointref05_Valid.T11 : Bool × List (List Nat × List Nat) := (true, [([], []), ([0], [0]), ([], []), ([1, 2], [1, 2]), ([3], [3]), ([], []), ([5], [5]), ([6], [6]), ([4, 7], [4, 7]), ([8], [8])])
def scarfjointref05_Valid.B11 : List Nat := [0, 1, 0, 7, 15, 0, 32, 96, 255, 511]
theorem scarfjointref05_Valid.tab11 : rtab .any (opsOf Try.f19 11) = scarfjointref05_Valid.T11 := by kernel_rfl
theorem scarfjointref05_Valid.bits11 : waitsOk scarfjointref05_Valid.T11.2 scarfjointref05_Valid.B11 = true := by kernel_rfl
set_option maxHeartbeats 8000000 in
set_option maxRecDepth 100000 in
theorem scarfjointref05_Valid.calls (k : Nat) (A0_0 : Option Addr) (c0_0 : Nat) (l0_0 : List Int) (A0_1 : Option Addr) (c0_1 : Nat) (l0_1 : List (S65)) (r : Int) (w : World) (hr0_0 : Kd.C (Kd.int .i64) w A0_0 l0_0.length l0_0) (hc0_0 : l0_0.length ≤ c0_0) (hr0_1 : Kd.C k65 w A0_1 l0_1.length l0_1) (hc0_1 : l0_1.length ≤ c0_1) (h : scarfjointref05_Valid.f k l0_0 l0_1 = some r) :
  Calls Try.prog 19 #[.agg #[.slice A0_0 l0_0.length c0_0, .slice A0_1 l0_1.length c0_1]] w fun e w' => e = .returned (.int .i64 r) ∧ Below w.heap.size w w' := by
 have hu25 := Try.underlying25
 have hu65 := Try.underlying65
 have HR0_0 := Aside0.mk hr0_0
 have HC0_0 := Aside0.mk hc0_0
 clear hr0_0 hc0_0
 have HR0_1 := Aside0.mk hr0_1
 have HC0_1 := Aside0.mk hc0_1
 clear hr0_1 hc0_1
 have HB := Aside0.mk (Below.refl w.heap.size w)
 have H : (if (l0_0.length : Int) > 40 then (scarfjointref05_Valid.j0 k true l0_0 l0_1) else (scarfjointref05_Valid.j0 k (decide ((l0_1.length : Int) > 80)) l0_0 l0_1)) = some r := h
 clear h
 have HC2 := Aside0.mk H
 clear H
 go_enter Try.func19, Try.ntmps19
 go_upto_region 1 with (first | ((with_reducible refine gate_dst (N := 1) rfl ?_); (try (refine gate_guard (by rfl) ?_; dsimp only)); refine box_event ?hg (N := 1) ?hd (cs := #[.slice A0_0 l0_0.length c0_0, .slice A0_1 l0_1.length c0_1]) (t := 25) ?hr ?_; (case hd => rfl); (case hg => rfl); (case hr => first | (go_simp; done) | (go_simp; rfl)); intro gb210 hg w3 hbox hb; have BK210 := Aside0.mk (hbox); have GW210 := Aside0.mk (gw_ hg (mb_ HB.out)); have GE210 := Aside0.mk (gw_ hg (mb_ HB.out)); replace HB := Aside0.mk (below_step (mb_ HB.out) hb); clear hb hbox hg))
 (try simp only [Act.put, List.setIfInBounds_toArray, List.set_cons_zero, List.set_cons_succ])
 go_cut [14] (fun v14 wc => ∃ (kq : Nat) (x14_1 : Bool), v14 = .bool x14_1 ∧ Aside0 (scarfjointref05_Valid.j0 kq x14_1 l0_0 l0_1 = some r) ∧ Aside0 (kq ≤ k) ∧ Aside0 (wc.heap[gb210]? = some (.cells #[(.slice A0_0 l0_0.length c0_0), (.slice A0_1 l0_1.length c0_1)] 25 (0, 0))) ∧ Aside0 (Below w.heap.size w wc))
 case first =>
  have H := HC2.out
  clear HC2
  by_cases c4 : (l0_0.length : Int) > 40
  ·rw [if_pos c4] at H
   have c4b0 : decide (40 < (l0_0.length : Int)) = true := decide_eq_true c4
   have c4b1 : decide (40 < l0_0.length) = true := decide_eq_true (by omega)
   clear c4
   (first | rw [c4b0] | (simp only [i64_w, i32_w]; rw [c4b0]) | skip)
   have H' := Aside0.mk H
   clear H
   have hcz5_0 := bc0_ BK210.out
   have hcz5_1 := bc1_ BK210.out
   have hfz5_0 := blk_frozen BK210.out 0
   have hfz5_1 := blk_frozen BK210.out 1
   go_wp2
   go_meet
   case rel => exact ⟨_, (true), (by first | rfl | (simp; done) | (simp [*]; done)), H', ⟨by first | omega | exact Nat.le_refl _⟩, ⟨bk_ BK210.out⟩, ⟨mbs_ HB.out⟩⟩
  rw [if_neg c4] at H
  have c4b0 : decide (40 < (l0_0.length : Int)) = false := decide_eq_false c4
  have c4b1 : decide (40 < l0_0.length) = false := decide_eq_false (by omega)
  clear c4
  (first | rw [c4b0] | (simp only [i64_w, i32_w]; rw [c4b0]) | skip)
  have H' := Aside0.mk H
  clear H
  have hcz6_0 := bc0_ BK210.out
  have hcz6_1 := bc1_ BK210.out
  have hfz6_0 := blk_frozen BK210.out 0
  have hfz6_1 := blk_frozen BK210.out 1
  go_wp2
  go_meet
  case rel => exact ⟨_, (decide ((l0_1.length : Int) > 80)), (by first | rfl | (simp; done) | (simp [*]; done)), H', ⟨by first | omega | exact Nat.le_refl _⟩, ⟨bk_ BK210.out⟩, ⟨mbs_ HB.out⟩⟩
 case rest =>
  clear HC2
  try clear c1
  try clear p2
  try clear c4
  try clear c4b0
  try clear c4b1
  try clear hcz5_0
  try clear hcz5_1
  try clear hcz6_0
  try clear hcz6_1
  try clear hfz5_0
  try clear hfz5_1
  try clear hfz6_0
  try clear hfz6_1
  obtain ⟨kq, x14_1, rfl, HA, HJ1, BK210, HB⟩ := hcut
  cases kq with
  | zero => exact absurd HA.out (by simp [scarfjointref05_Valid.j0])
  | succ kj1 =>
   have H := HA.out
   clear HA
   simp only [scarfjointref05_Valid.j0] at H
   by_cases c7 : x14_1 = true
   ·subst c7
    have H1 : (some 3) = some r := by rw [if_pos rfl] at H; exact H
    clear H
    have H := H1
    clear H1
    obtain rfl := Option.some.inj H
    go_wp2
    go_ret
    exact ⟨by first | rfl | (simp [errW_none, errW_some] <;> rfl) | (simp [*, errW_none, errW_some] <;> rfl), mbs_ HB.out⟩
   replace c7 := Bool.eq_false_iff.mpr c7
   subst c7
   have H1 : (scarfjointref05_Valid.l0 kj1 0 l0_0 l0_1) = some r := by rw [if_neg (show ¬ (false = true) by decide)] at H; exact H
   clear H
   have H := H1
   clear H1
   have H' := Aside0.mk H
   clear H
   go_wp2
   go_loopg [3] kj1 (fun kq v3 w' => ∃ (x3_2 : Int), v3 = .int .i64 x3_2 ∧ Aside0 (scarfjointref05_Valid.l0 kq x3_2 l0_0 l0_1 = some r) ∧ Aside0 (kq ≤ kj1) ∧ Aside0 (w'.heap[gb210]? = some (.cells #[(.slice A0_0 l0_0.length c0_0), (.slice A0_1 l0_1.length c0_1)] 25 (0, 0))) ∧ Aside0 (Below w.heap.size w w'))
   case atStart => exact ⟨(0), (by first | rfl | (simp; done) | (simp [*]; done)), H', ⟨Nat.le_refl _⟩, ⟨bk_ BK210.out⟩, ⟨mbs_ HB.out⟩⟩
   case round =>
    clear H'
    try clear c1
    try clear p2
    try clear c4
    try clear c4b0
    try clear c4b1
    try clear c7
    try clear hcz5_0
    try clear hcz5_1
    try clear hcz6_0
    try clear hcz6_1
    try clear hfz5_0
    try clear hfz5_1
    try clear hfz6_0
    try clear hfz6_1
    try clear p2
    obtain ⟨x3_2, rfl, HA, HK2, BK210, HB⟩ := hrel
    cases gk with
    | zero => exact absurd HA.out (by simp [scarfjointref05_Valid.l0])
    | succ k2 =>
     have H := HA.out
     clear HA
     simp only [scarfjointref05_Valid.l0] at H
     by_cases c8 : x3_2 < (l0_0.length : Int)
     ·rw [if_pos c8] at H
      have c8b0 : decide (x3_2 < (l0_0.length : Int)) = true := decide_eq_true c8
      clear c8
      by_cases c9 : 0 ≤ x3_2
      ·rw [if_pos c9] at H
       have c9b0 : decide (0 ≤ x3_2) = true := decide_eq_true c9
       clear c9
       replace H := Option.bind_eq_some_iff.mp H
       obtain ⟨t212, A100, H⟩ := H
       replace H : (if t212 = true then (scarfjointref05_Valid.l0 k2 (wrap64 (x3_2 + 1)) l0_0 l0_1) else (some 6)) = some r := H
       have A10 := Aside0.mk A100
       clear A100
       by_cases c11 : t212 = true
       ·subst c11
        have H1 : (scarfjointref05_Valid.l0 k2 (wrap64 (x3_2 + 1)) l0_0 l0_1) = some r := by rw [if_pos rfl] at H; exact H
        clear H
        have H := H1
        clear H1
        have H' := Aside0.mk H
        clear H
        have hcz12_0 := bc0_ BK210.out
        have hcz12_1 := bc1_ BK210.out
        have hfz12_0 := blk_frozen BK210.out 0
        have hfz12_1 := blk_frozen BK210.out 1
        have p211 : 0 ≤ (x3_2 : Int) := of_decide_eq_true (by first | (with_reducible assumption) | assumption)
        have q211 : x3_2 < (l0_0.length : Int) := of_decide_eq_true (by first | (with_reducible assumption) | assumption)
        obtain ⟨ad211, e211, hx211_0⟩ := Kd.at_int HR0_0.out x3_2 p211 q211
        cases e211
        (try replace hx211_0 := (HB.out.cell (World.block_lt_of_cell? w _ hx211_0)).trans hx211_0)
        replace p211 := eq_true p211
        replace q211 := eq_true q211
        go_wp2_with (first | ((with_reducible refine gate_callee (f := 43) rfl ?_); refine goesL_ (some 27) rfl rfl Try.func43 (by kernel_rfl) rfl #[.int .i64 (rd l0_0 x3_2)] rfl (by (try simp only [List.map_toArray, List.map_cons, List.map_nil]); first | done | rfl | (simp only [List.length_drop, List.length_take]; rfl)) ?_; (with_reducible refine (scarfjointref05_kind.calls (rd l0_0 x3_2) true _ A10.out).mono ?_); rintro e w' ⟨rfl, ⟨nd, rfl⟩⟩; refine ⟨_, rfl, ?_⟩))
        go_roundg k2
        case measure => have := HJ1.out; have := HK2.out; omega
        case rel => exact ⟨(wrap64 (x3_2 + 1)), (by first | rfl | (simp; done) | (simp [*]; done)), H', ⟨by have := HJ1.out; have := HK2.out; omega⟩, ⟨bk_ BK210.out⟩, ⟨mbs_ HB.out⟩⟩
       replace c11 := Bool.eq_false_iff.mpr c11
       subst c11
       have H1 : (some 6) = some r := by rw [if_neg (show ¬ (false = true) by decide)] at H; exact H
       clear H
       have H := H1
       clear H1
       obtain rfl := Option.some.inj H
       have hcz13_0 := bc0_ BK210.out
       have hcz13_1 := bc1_ BK210.out
       have hfz13_0 := blk_frozen BK210.out 0
       have hfz13_1 := blk_frozen BK210.out 1
       have p211 : 0 ≤ (x3_2 : Int) := of_decide_eq_true (by first | (with_reducible assumption) | assumption)
       have q211 : x3_2 < (l0_0.length : Int) := of_decide_eq_true (by first | (with_reducible assumption) | assumption)
       obtain ⟨ad211, e211, hx211_0⟩ := Kd.at_int HR0_0.out x3_2 p211 q211
       cases e211
       (try replace hx211_0 := (HB.out.cell (World.block_lt_of_cell? w _ hx211_0)).trans hx211_0)
       replace p211 := eq_true p211
       replace q211 := eq_true q211
       go_wp2_with (first | ((with_reducible refine gate_callee (f := 43) rfl ?_); refine goesL_ (some 27) rfl rfl Try.func43 (by kernel_rfl) rfl #[.int .i64 (rd l0_0 x3_2)] rfl (by (try simp only [List.map_toArray, List.map_cons, List.map_nil]); first | done | rfl | (simp only [List.length_drop, List.length_take]; rfl)) ?_; (with_reducible refine (scarfjointref05_kind.calls (rd l0_0 x3_2) false _ A10.out).mono ?_); rintro e w' ⟨rfl, ⟨nd, rfl⟩⟩; refine ⟨_, rfl, ?_⟩))
       go_ret
       exact ⟨by first | rfl | (simp [errW_none, errW_some] <;> rfl) | (simp [*, errW_none, errW_some] <;> rfl), mbs_ HB.out⟩
      rw [if_neg c9] at H
      exact absurd H (by simp)
     rw [if_neg c8] at H
     have c8b0 : decide (x3_2 < (l0_0.length : Int)) = false := decide_eq_false c8
     clear c8
     have H' := Aside0.mk H
     clear H
     have hcz14_0 := bc0_ BK210.out
     have hcz14_1 := bc1_ BK210.out
     have hfz14_0 := blk_frozen BK210.out 0
     have hfz14_1 := blk_frozen BK210.out 1
     go_wp2
     go_loopg [4] k2 (fun kq v4 w' => ∃ (x4_3 : Int), v4 = .int .i64 x4_3 ∧ Aside0 (scarfjointref05_Valid.l1 kq x4_3 l0_0 l0_1 = some r) ∧ Aside0 (kq ≤ k2) ∧ Aside0 (w'.heap[gb210]? = some (.cells #[(.slice A0_0 l0_0.length c0_0), (.slice A0_1 l0_1.length c0_1)] 25 (0, 0))) ∧ Aside0 (Below w.heap.size w w'))
     case atStart => exact ⟨(0), (by first | rfl | (simp; done) | (simp [*]; done)), H', ⟨Nat.le_refl _⟩, ⟨bk_ BK210.out⟩, ⟨mbs_ HB.out⟩⟩
     case round =>
      clear H'
      try clear c1
      try clear p2
      try clear q2
      try clear hx2
      try clear c4
      try clear c4b0
      try clear c4b1
      try clear p6
      try clear c7
      try clear c8
      try clear c8b0
      try clear c9
      try clear c9b0
      try clear c11
      try clear hcz12_0
      try clear hcz12_1
      try clear hcz13_0
      try clear hcz13_1
      try clear hcz14_0
      try clear hcz14_1
      try clear hcz5_0
      try clear hcz5_1
      try clear hcz6_0
      try clear hcz6_1
      try clear hfz12_0
      try clear hfz12_1
      try clear hfz13_0
      try clear hfz13_1
      try clear hfz14_0
      try clear hfz14_1
      try clear hfz5_0
      try clear hfz5_1
      try clear hfz6_0
      try clear hfz6_1
      try clear hx211_0
      try clear p2
      try clear p211
      try clear q211
      obtain ⟨x4_3, rfl, HA, HK3, BK210, HB⟩ := hrel
      cases gk with
      | zero => exact absurd HA.out (by simp [scarfjointref05_Valid.l1])
      | succ k3 =>
       have H := HA.out
       clear HA
       simp only [scarfjointref05_Valid.l1] at H
       by_cases c15 : x4_3 < (l0_1.length : Int)
       ·rw [if_pos c15] at H
        have c15b0 : decide (x4_3 < (l0_1.length : Int)) = true := decide_eq_true c15
        clear c15
        by_cases c16 : 0 ≤ x4_3
        ·rw [if_pos c16] at H
         have c16b0 : decide (0 ≤ x4_3) = true := decide_eq_true c16
         clear c16
         replace H := Option.bind_eq_some_iff.mp H
         obtain ⟨t214, A170, H⟩ := H
         replace H : (if t214 = true then (scarfjointref05_Valid.l1 k3 (wrap64 (x4_3 + 1)) l0_0 l0_1) else (some 6)) = some r := H
         have A17 := Aside0.mk A170
         clear A170
         by_cases c18 : t214 = true
         ·subst c18
          have H1 : (scarfjointref05_Valid.l1 k3 (wrap64 (x4_3 + 1)) l0_0 l0_1) = some r := by rw [if_pos rfl] at H; exact H
          clear H
          have H := H1
          clear H1
          have H' := Aside0.mk H
          clear H
          have hcz19_0 := bc0_ BK210.out
          have hcz19_1 := bc1_ BK210.out
          have hfz19_0 := blk_frozen BK210.out 0
          have hfz19_1 := blk_frozen BK210.out 1
          try go_wp2
          replace BK210 := Aside0.mk (blk_drew BK210.out)
          replace HB := Aside0.mk (below_drew1 HB.out)
          have p213 : 0 ≤ (x4_3 : Int) := of_decide_eq_true (by first | (with_reducible assumption) | assumption)
          have q213 : x4_3 < (l0_1.length : Int) := of_decide_eq_true (by first | (with_reducible assumption) | assumption)
          obtain ⟨ad213, e213, hx213_0, hx213_1, hx213_2⟩ := at_T65 HR0_1.out x4_3 p213 q213
          have hw213_2 := hx213_2
          have hw213_1 := hx213_1
          have hw213_0 := hx213_0
          cases e213
          (try replace hx213_0 := (HB.out.cell (World.block_lt_of_cell? w _ hx213_0)).trans hx213_0)
          (try replace hx213_1 := (HB.out.cell (World.block_lt_of_cell? w _ hx213_1)).trans hx213_1)
          (try replace hx213_2 := (HB.out.cell (World.block_lt_of_cell? w _ hx213_2)).trans hx213_2)
          replace p213 := eq_true p213
          replace q213 := eq_true q213
          refine start_ (n := 10) (S := fun w' => w'.cell? ⟨gb210, 0, none⟩ = some (.slice A0_0 l0_0.length c0_0) ∧ w'.cell? ⟨gb210, 1, none⟩ = some (.slice (some ad213) l0_1.length c0_1) ∧ w'.cell? (ad213.add ((x4_3).toNat * 3)) = some (.int .i64 ((rd_T65 l0_1 x4_3).f0)) ∧ w'.cell? ⟨(ad213.add ((x4_3).toNat * 3)).block, (ad213.add ((x4_3).toNat * 3)).off + 1, none⟩ = some (.int .i64 ((rd_T65 l0_1 x4_3).f1)) ∧ w'.cell? ⟨(ad213.add ((x4_3).toNat * 3)).block, (ad213.add ((x4_3).toNat * 3)).off + 2, none⟩ = some (.int .i64 ((rd_T65 l0_1 x4_3).f2))) (ds := []) #[false, false, false, false, false, false, false, false, false, false] (by kernel_rfl) rfl rfl ⟨(blk_cell BK210.out 0).trans rfl, (blk_cell BK210.out 1).trans rfl, ((HB.out.cell (World.block_lt_of_cell? w _ hw213_0)).trans hw213_0), ((HB.out.cell (World.block_lt_of_cell? w _ hw213_1)).trans hw213_1), ((HB.out.cell (World.block_lt_of_cell? w _ hw213_2)).trans hw213_2)⟩ (fun hHeld => ?_); refine with_tabW scarfjointref05_Valid.tab11 scarfjointref05_Valid.bits11 (fun HT_ HW_ => ?_)
          generalize wr.drew = w20 at BK210 HB hx213_0 hx213_1 hx213_2 hHeld ⊢
          refine pw_ (i := 0) (N := some 36) (bm_ 10 1) rfl HT_.out ?_
          refine pw_ (i := 2) (N := some 38) (bm_ 10 5) rfl HT_.out ?_
          refine pw_ (i := 5) (N := some 41) (bm_ 10 37) rfl HT_.out ?_
          refine tw_ (i := 1) (N := some 37) (bm_ 10 39) rfl HT_.out HW_.out hHeld ?_
          refine pw_ (i := 3) (N := some 39) (bm_ 10 47) rfl HT_.out ?_
          refine tw_ (i := 4) (N := some 40) (bm_ 10 63) rfl HT_.out HW_.out hHeld ?_
          refine tw_ (i := 6) (N := some 42) (bm_ 10 127) rfl HT_.out HW_.out hHeld ?_
          refine pw_ (i := 7) (N := some 43) (bm_ 10 255) rfl HT_.out ?_
          refine one_ (i := 8) (N := some 44) (bm_ 10 511) rfl rfl (one_of HT_.out (by kernel_rfl)) (by decide) (fun K hK => ?_)
          refine goes_ Try.func44 (by kernel_rfl) rfl #[.agg #[.int .i64 ((rd_T65 l0_1 x4_3).f0), .int .i64 ((rd_T65 l0_1 x4_3).f1), .int .i64 ((rd_T65 l0_1 x4_3).f2)], .int .i64 (l0_0.length : Int)] (by rfl) rfl rfl (by (try simp only [List.map_toArray, List.map_cons, List.map_nil]); first | done | rfl | (simp only [List.length_drop, List.length_take]; rfl)) ?_
          with_reducible refine (scarfjointref05_right.calls ((rd_T65 l0_1 x4_3).f0) ((rd_T65 l0_1 x4_3).f1) ((rd_T65 l0_1 x4_3).f2) (l0_0.length : Int) true _ A17.out).mono ?_
          rintro e w21 ⟨rfl, hb⟩
          refine ⟨_, rfl, ?_⟩
          replace BK210 := kb_ (bk_ BK210.out) hb
          replace HB := Aside0.mk (below_step (mbs_ HB.out) hb)
          (try clear hb)
          (try clear hb2)
          (try clear hk)
          (try clear hi)
          refine hK.out _ _ ⟨(blk_cell BK210.out 0).trans rfl, (blk_cell BK210.out 1).trans rfl, ((HB.out.cell (World.block_lt_of_cell? w _ hw213_0)).trans hw213_0), ((HB.out.cell (World.block_lt_of_cell? w _ hw213_1)).trans hw213_1), ((HB.out.cell (World.block_lt_of_cell? w _ hw213_2)).trans hw213_2)⟩ (fun hHeld => ?_)
          clear hK K
          refine norm_ (a' := ?_) ?_ ?_
          rotate_left
          ·show Act.put _ (some 44) _ = _
           simp only [Act.put, List.setIfInBounds_toArray, List.set_cons_zero, List.set_cons_succ, i64_w, i32_w]
           rfl
          refine pw_ (i := 9) (N := some 45) (bm_ 10 1023) rfl HT_.out ?_
          refine done_ (done_of HT_.out (by kernel_rfl)) ?_
          try go_wp2
          go_roundg k3
          case measure => have := HJ1.out; have := HK2.out; have := HK3.out; omega
          case rel => exact ⟨(wrap64 (x4_3 + 1)), (by first | rfl | (simp; done) | (simp [*]; done)), H', ⟨by have := HJ1.out; have := HK2.out; have := HK3.out; omega⟩, ⟨bk_ BK210.out⟩, ⟨mbs_ HB.out⟩⟩
         replace c18 := Bool.eq_false_iff.mpr c18
         subst c18
         have H1 : (some 6) = some r := by rw [if_neg (show ¬ (false = true) by decide)] at H; exact H
         clear H
         have H := H1
         clear H1
         obtain rfl := Option.some.inj H
         have hcz22_0 := bc0_ BK210.out
         have hcz22_1 := bc1_ BK210.out
         have hfz22_0 := blk_frozen BK210.out 0
         have hfz22_1 := blk_frozen BK210.out 1
         try go_wp2
         replace BK210 := Aside0.mk (blk_drew BK210.out)
         replace HB := Aside0.mk (below_drew1 HB.out)
         have p213 : 0 ≤ (x4_3 : Int) := of_decide_eq_true (by first | (with_reducible assumption) | assumption)
         have q213 : x4_3 < (l0_1.length : Int) := of_decide_eq_true (by first | (with_reducible assumption) | assumption)
         obtain ⟨ad213, e213, hx213_0, hx213_1, hx213_2⟩ := at_T65 HR0_1.out x4_3 p213 q213
         have hw213_2 := hx213_2
         have hw213_1 := hx213_1
         have hw213_0 := hx213_0
         cases e213
         (try replace hx213_0 := (HB.out.cell (World.block_lt_of_cell? w _ hx213_0)).trans hx213_0)
         (try replace hx213_1 := (HB.out.cell (World.block_lt_of_cell? w _ hx213_1)).trans hx213_1)
         (try replace hx213_2 := (HB.out.cell (World.block_lt_of_cell? w _ hx213_2)).trans hx213_2)
         replace p213 := eq_true p213
         replace q213 := eq_true q213
         refine start_ (n := 10) (S := fun w' => w'.cell? ⟨gb210, 0, none⟩ = some (.slice A0_0 l0_0.length c0_0) ∧ w'.cell? ⟨gb210, 1, none⟩ = some (.slice (some ad213) l0_1.length c0_1) ∧ w'.cell? (ad213.add ((x4_3).toNat * 3)) = some (.int .i64 ((rd_T65 l0_1 x4_3).f0)) ∧ w'.cell? ⟨(ad213.add ((x4_3).toNat * 3)).block, (ad213.add ((x4_3).toNat * 3)).off + 1, none⟩ = some (.int .i64 ((rd_T65 l0_1 x4_3).f1)) ∧ w'.cell? ⟨(ad213.add ((x4_3).toNat * 3)).block, (ad213.add ((x4_3).toNat * 3)).off + 2, none⟩ = some (.int .i64 ((rd_T65 l0_1 x4_3).f2))) (ds := []) #[false, false, false, false, false, false, false, false, false, false] (by kernel_rfl) rfl rfl ⟨(blk_cell BK210.out 0).trans rfl, (blk_cell BK210.out 1).trans rfl, ((HB.out.cell (World.block_lt_of_cell? w _ hw213_0)).trans hw213_0), ((HB.out.cell (World.block_lt_of_cell? w _ hw213_1)).trans hw213_1), ((HB.out.cell (World.block_lt_of_cell? w _ hw213_2)).trans hw213_2)⟩ (fun hHeld => ?_); refine with_tabW scarfjointref05_Valid.tab11 scarfjointref05_Valid.bits11 (fun HT_ HW_ => ?_)
         generalize wr.drew = w23 at BK210 HB hx213_0 hx213_1 hx213_2 hHeld ⊢
         refine pw_ (i := 0) (N := some 36) (bm_ 10 1) rfl HT_.out ?_
         refine pw_ (i := 2) (N := some 38) (bm_ 10 5) rfl HT_.out ?_
         refine pw_ (i := 5) (N := some 41) (bm_ 10 37) rfl HT_.out ?_
         refine tw_ (i := 1) (N := some 37) (bm_ 10 39) rfl HT_.out HW_.out hHeld ?_
         refine pw_ (i := 3) (N := some 39) (bm_ 10 47) rfl HT_.out ?_
         refine tw_ (i := 4) (N := some 40) (bm_ 10 63) rfl HT_.out HW_.out hHeld ?_
         refine tw_ (i := 6) (N := some 42) (bm_ 10 127) rfl HT_.out HW_.out hHeld ?_
         refine pw_ (i := 7) (N := some 43) (bm_ 10 255) rfl HT_.out ?_
         refine one_ (i := 8) (N := some 44) (bm_ 10 511) rfl rfl (one_of HT_.out (by kernel_rfl)) (by decide) (fun K hK => ?_)
         refine goes_ Try.func44 (by kernel_rfl) rfl #[.agg #[.int .i64 ((rd_T65 l0_1 x4_3).f0), .int .i64 ((rd_T65 l0_1 x4_3).f1), .int .i64 ((rd_T65 l0_1 x4_3).f2)], .int .i64 (l0_0.length : Int)] (by rfl) rfl rfl (by (try simp only [List.map_toArray, List.map_cons, List.map_nil]); first | done | rfl | (simp only [List.length_drop, List.length_take]; rfl)) ?_
         with_reducible refine (scarfjointref05_right.calls ((rd_T65 l0_1 x4_3).f0) ((rd_T65 l0_1 x4_3).f1) ((rd_T65 l0_1 x4_3).f2) (l0_0.length : Int) false _ A17.out).mono ?_
         rintro e w24 ⟨rfl, hb⟩
         refine ⟨_, rfl, ?_⟩
         replace BK210 := kb_ (bk_ BK210.out) hb
         replace HB := Aside0.mk (below_step (mbs_ HB.out) hb)
         (try clear hb)
         (try clear hb2)
         (try clear hk)
         (try clear hi)
         refine hK.out _ _ ⟨(blk_cell BK210.out 0).trans rfl, (blk_cell BK210.out 1).trans rfl, ((HB.out.cell (World.block_lt_of_cell? w _ hw213_0)).trans hw213_0), ((HB.out.cell (World.block_lt_of_cell? w _ hw213_1)).trans hw213_1), ((HB.out.cell (World.block_lt_of_cell? w _ hw213_2)).trans hw213_2)⟩ (fun hHeld => ?_)
         clear hK K
         refine norm_ (a' := ?_) ?_ ?_
         rotate_left
         ·show Act.put _ (some 44) _ = _
          simp only [Act.put, List.setIfInBounds_toArray, List.set_cons_zero, List.set_cons_succ, i64_w, i32_w]
          rfl
         refine pw_ (i := 9) (N := some 45) (bm_ 10 1023) rfl HT_.out ?_
         refine done_ (done_of HT_.out (by kernel_rfl)) ?_
         try go_wp2
         go_ret
         exact ⟨by first | rfl | (simp [errW_none, errW_some] <;> rfl) | (simp [*, errW_none, errW_some] <;> rfl), mbs_ HB.out⟩
        rw [if_neg c16] at H
        exact absurd H (by simp)
       rw [if_neg c15] at H
       have c15b0 : decide (x4_3 < (l0_1.length : Int)) = false := decide_eq_false c15
       clear c15
       obtain rfl := Option.some.inj H
       have hcz25_0 := bc0_ BK210.out
       have hcz25_1 := bc1_ BK210.out
       have hfz25_0 := blk_frozen BK210.out 0
       have hfz25_1 := blk_frozen BK210.out 1
       go_wp2
       go_ret
       exact ⟨by first | rfl | (simp [errW_none, errW_some] <;> rfl) | (simp [*, errW_none, errW_some] <;> rfl), mbs_ HB.out⟩

end Go.Proofs.Ytklacpdobpkbbaa.P
