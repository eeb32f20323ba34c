-- Written by wip/drive.py of this session's repo over the kit's print.py (with contracts of the session's own): not the print's own text
import Derived.Test.YtklacpdobpkbbaaPx0
import Derived.Test.YtklacpdobpkbbaaPx9
import Derived.Test.YtklacpdobpkbbaaPx14
namespace Go.Proofs.Ytklacpdobpkbbaa.P
open Go.RowKit Go.Proofs.YtklacpdobpkbbaaW.PrintWords Go.Proofs.YtklacpdobpkbbaaW.PrintLast Go.Proofs.YtklacpdobpkbbaaW.PrintMore
attribute [local go_sem] max2_int min2_int max_two min_two max_three min_three max_four min_four   -- for this text's walks alone
set_option linter.unusedVariables false
set_option linter.unusedSimpArgs false

/-! ### scarfjointref06_Of: function 37 -/
def scarfjointref06_Of.f (k : Nat) (l0_0 : List Int) (l0_1 : List (S65)) : Option (List Int × List Int) := (scarfjointref02_Finest.f k (l0_0.length : Int)).bind fun t332 => ((scarfjointref02_Finest.f k (l0_1.length : Int)).bind fun t335 => (some (t332, t335)))
theorem scarfjointref06_Of.mono : ∀ a0 a1 k, LeO (scarfjointref06_Of.f k a0 a1) (scarfjointref06_Of.f (k + 1) a0 a1) := by
 intro a0 a1 k
 unfold scarfjointref06_Of.f
 repeat' first
   | (with_reducible exact scarfjointref02_Finest.mono _ _)
   | (with_reducible exact LeO.refl _)
   | (with_reducible exact LeO.none _)
   | (with_reducible refine LeO.ite ?_ ?_)
   | (with_reducible refine LeO.bind ?_ (fun _ => ?_))
   | exact scarfjointref02_Finest.mono _ _
   | exact LeO.none _
   | refine LeO.ite ?_ ?_
   | refine LeO.bind ?_ (fun _ => ?_)
def scarfjointref06_Of.T1 : Bool × List (List Nat × List Nat) := (true, [([], []), ([0], [0]), ([1], [1]), ([2], [2]), ([], []), ([4], [4]), ([5], [5]), ([6, 3], [6]), ([3, 7], [3, 7]), ([8, 7, 0, 1, 2, 3, 4, 5, 6, 7, 8], [8])])
def scarfjointref06_Of.B1 : List Nat := [0, 1, 3, 7, 0, 16, 48, 127, 255, 511]
theorem scarfjointref06_Of.tab1 : rtab .any (opsOf Try.f37 1) = scarfjointref06_Of.T1 := by kernel_rfl
theorem scarfjointref06_Of.bits1 : waitsOk scarfjointref06_Of.T1.2 scarfjointref06_Of.B1 = true := by kernel_rfl
set_option maxHeartbeats 8000000 in
set_option maxRecDepth 100000 in
theorem scarfjointref06_Of.calls (k : Nat) (A0_0 : Option Addr) (c0_0 : Nat) (l0_0 : List Int) (A0_1 : Option Addr) (c0_1 : Nat) (l0_1 : List (S65)) (r1 : List Int) (r2 : List Int) (w : World) (hr0_0 : Kd.C (Kd.int .i64) w A0_0 l0_0.length l0_0) (hc0_0 : l0_0.length ≤ c0_0) (hr0_1 : Kd.C k65 w A0_1 l0_1.length l0_1) (hc0_1 : l0_1.length ≤ c0_1) (h : scarfjointref06_Of.f k l0_0 l0_1 = some (r1, r2)) :
  Calls Try.prog 37 #[.agg #[.slice A0_0 l0_0.length c0_0, .slice A0_1 l0_1.length c0_1]] w fun e w' => ∃ v0_ v1_ : Value, e = .returned (.agg #[v0_, v1_]) ∧ Kd.R (Kd.int .i64) 3 w' w.heap.size (fun k_ => some k_ ≠ (v1_ : Value).ownBlock) v0_ r1 ∧ Kd.R (Kd.int .i64) 3 w' w.heap.size (fun k_ => some k_ ≠ (v0_ : Value).ownBlock) v1_ r2 ∧ Below w.heap.size w w' := by
 have hu25 := Try.underlying25
 have hu27 := Try.underlying27
 have HR0_0 := Aside0.mk hr0_0
 have HC0_0 := Aside0.mk hc0_0
 clear hr0_0 hc0_0
 have HR0_1 := Aside0.mk hr0_1
 have HC0_1 := Aside0.mk hc0_1
 clear hr0_1 hc0_1
 have HB := Aside0.mk (Below.refl w.heap.size w)
 have H : ((scarfjointref02_Finest.f k (l0_0.length : Int)).bind fun t332 => ((scarfjointref02_Finest.f k (l0_1.length : Int)).bind fun t335 => (some (t332, t335)))) = some (r1, r2) := h
 clear h
 replace H := Option.bind_eq_some_iff.mp H
 obtain ⟨t332, A20, H⟩ := H
 replace H : ((scarfjointref02_Finest.f k (l0_1.length : Int)).bind fun t335 => (some (t332, t335))) = some (r1, r2) := H
 have A2 := Aside0.mk A20
 clear A20
 replace H := Option.bind_eq_some_iff.mp H
 obtain ⟨t335, A30, H⟩ := H
 replace H : (some (t332, t335)) = some (r1, r2) := H
 have A3 := Aside0.mk A30
 clear A30
 simp only [Option.some.injEq, Prod.mk.injEq] at H
 obtain ⟨rfl, rfl⟩ := H
 go_enter Try.func37, Try.ntmps37
 try go_wp2_with (first | ((with_reducible refine gate_dst (N := 1) rfl ?_); refine box_event ?hg (N := 1) ?hd (cs := #[.slice A0_0 l0_0.length c0_0, .slice A0_1 l0_1.length c0_1]) (t := 25) ?hr ?_; (case hd => rfl); (case hg => rfl); (case hr => first | (go_simp; done) | (go_simp; rfl)); intro gb330 hg w4 hbox hb; have BK330 := Aside0.mk (hbox); have GW330 := Aside0.mk (gw_ hg (mb_ HB.out)); have GE330 := Aside0.mk (gw_ hg (mb_ HB.out)); replace HB := Aside0.mk (below_step (mb_ HB.out) hb); clear hb hbox hg) | ((with_reducible refine gate_dst (N := 2) rfl ?_); refine box_event ?hg (N := 2) ?hd (cs := #[.slice none 0 0, .slice none 0 0]) (t := 27) ?hr ?_; (case hd => rfl); (case hg => rfl); (case hr => first | (go_simp; done) | (go_simp; rfl)); intro gb331 hg w5 hbox hb; have BK331 := Aside0.mk (hbox); have GW331 := Aside0.mk (gw_ hg (mbs_ HB.out)); have GE331 := Aside0.mk (gw_ hg (mbs_ HB.out)); replace HB := Aside0.mk (below_step (mbs_ HB.out) hb); have NB330_331 := Aside0.mk (nb_ hg (bk_ BK330.out)); have NB331_330 := Aside0.mk (nc_ hg (bk_ BK330.out)); replace BK330 := Aside0.mk (blk_below (bk_ BK330.out) hb); clear hb hbox hg))
 replace BK330 := Aside0.mk (blk_drew BK330.out)
 replace BK331 := Aside0.mk (blk_drew BK331.out)
 replace HB := Aside0.mk (below_drew1 HB.out)
 refine start_ (n := 10) (S := fun w' => w'.cell? ⟨gb330, 0, none⟩ = some (.slice A0_0 l0_0.length c0_0) ∧ w'.cell? ⟨gb330, 1, none⟩ = some (.slice A0_1 l0_1.length c0_1)) (ds := []) #[false, false, false, false, false, false, false, false, false, false] (by kernel_rfl) rfl rfl ⟨(blk_cell BK330.out 0).trans rfl, (blk_cell BK330.out 1).trans rfl⟩ (fun hHeld => ?_); refine with_tabW scarfjointref06_Of.tab1 scarfjointref06_Of.bits1 (fun HT_ HW_ => ?_)
 generalize w5.drew = w6 at BK330 BK331 HB hHeld ⊢
 refine pure_ (i := 0) (N := some 3) (v := ?_) (a' := ?_) #[true, false, false, false, false, false, false, false, false, false] rfl rfl (any_of HT_.out (by kernel_rfl)) (fun _ _ _ h => h) (Or.inl ⟨by rfl, ?_⟩) ?_ ?_
 rotate_left
 ·intro w'
  go_simp
  with_reducible rfl
 rotate_left
 ·simp only [Act.put, List.setIfInBounds_toArray, List.set_cons_zero, List.set_cons_succ, i64_w, i32_w]
  rfl
 refine pure_ (i := 4) (N := some 7) (v := ?_) (a' := ?_) #[true, false, false, false, true, false, false, false, false, false] rfl rfl (any_of HT_.out (by kernel_rfl)) (fun _ _ _ h => h) (Or.inl ⟨by rfl, ?_⟩) ?_ ?_
 rotate_left
 ·intro w'
  go_simp
  with_reducible rfl
 rotate_left
 ·simp only [Act.put, List.setIfInBounds_toArray, List.set_cons_zero, List.set_cons_succ, i64_w, i32_w]
  rfl
 refine take_ (i := 1) (N := some 4) (v := ?_) (a' := ?_) #[true, true, false, false, true, false, false, false, false, false] rfl rfl (take_ofW HT_.out HW_.out (by kernel_rfl)) (fun _ _ _ h => h) (Or.inl ⟨by rfl, ?_⟩) hHeld ?_ ?_
 rotate_left
 ·rintro w' ⟨s0, s1⟩
  go_simp
  with_reducible rfl
 rotate_left
 ·simp only [Act.put, List.setIfInBounds_toArray, List.set_cons_zero, List.set_cons_succ, i64_w, i32_w]
  rfl
 refine pure_ (i := 2) (N := some 5) (v := ?_) (a' := ?_) #[true, true, true, false, true, false, false, false, false, false] rfl rfl (any_of HT_.out (by kernel_rfl)) (fun _ _ _ h => h) (Or.inl ⟨by rfl, ?_⟩) ?_ ?_
 rotate_left
 ·intro w'
  go_simp
  with_reducible rfl
 rotate_left
 ·simp only [Act.put, List.setIfInBounds_toArray, List.set_cons_zero, List.set_cons_succ, i64_w, i32_w]
  rfl
 refine take_ (i := 5) (N := some 8) (v := ?_) (a' := ?_) #[true, true, true, false, true, true, false, false, false, false] rfl rfl (take_ofW HT_.out HW_.out (by kernel_rfl)) (fun _ _ _ h => h) (Or.inl ⟨by rfl, ?_⟩) hHeld ?_ ?_
 rotate_left
 ·rintro w' ⟨s0, s1⟩
  go_simp
  with_reducible rfl
 rotate_left
 ·simp only [Act.put, List.setIfInBounds_toArray, List.set_cons_zero, List.set_cons_succ, i64_w, i32_w]
  rfl
 refine pure_ (i := 6) (N := some 9) (v := ?_) (a' := ?_) #[true, true, true, false, true, true, true, false, false, false] rfl rfl (any_of HT_.out (by kernel_rfl)) (fun _ _ _ h => h) (Or.inl ⟨by rfl, ?_⟩) ?_ ?_
 rotate_left
 ·intro w'
  go_simp
  with_reducible rfl
 rotate_left
 ·simp only [Act.put, List.setIfInBounds_toArray, List.set_cons_zero, List.set_cons_succ, i64_w, i32_w]
  rfl
 refine one_ (i := 3) (N := some 6) #[true, true, true, true, true, true, true, false, false, false] rfl rfl (one_of HT_.out (by kernel_rfl)) (by decide) (fun K hK => ?_)
 refine goes_ Try.func54 (by kernel_rfl) rfl #[.int .i64 (l0_0.length : Int)] (by rfl) rfl rfl (by (try simp only [List.map_toArray, List.map_cons, List.map_nil]); first | done | rfl | (simp only [List.length_drop, List.length_take]; rfl)) ?_
 with_reducible refine (scarfjointref02_Finest.calls k (l0_0.length : Int) t332 _ A2.out).mono ?_
 rintro e w7 ⟨v333, rfl, ho0, hb⟩
 refine ⟨_, rfl, ?_⟩
 have HO334 := Aside0.mk (Kd.R_lower ho0 (below_size (mbs_ HB.out)))
 replace BK330 := Aside0.mk (blk_below (bk_ BK330.out) hb)
 replace BK331 := Aside0.mk (blk_below (bk_ BK331.out) hb)
 replace HB := Aside0.mk (below_step (mbs_ HB.out) hb)
 (try clear hb)
 (try clear hb2)
 (try clear hk)
 (try clear hi)
 (try clear ho0)
 refine hK.out _ _ ⟨(blk_cell BK330.out 0).trans rfl, (blk_cell BK330.out 1).trans rfl⟩ (fun hHeld => ?_)
 clear hK K
 refine norm_ (a' := ?_) ?_ ?_
 rotate_left
 ·show Act.put _ (some 6) _ = _
  simp only [Act.put, List.setIfInBounds_toArray, List.set_cons_zero, List.set_cons_succ, i64_w, i32_w]
  rfl
 refine one_ (i := 7) (N := some 10) #[true, true, true, true, true, true, true, true, false, false] rfl rfl (one_of HT_.out (by kernel_rfl)) (by decide) (fun K hK => ?_)
 refine goes_ Try.func54 (by kernel_rfl) rfl #[.int .i64 (l0_1.length : Int)] (by rfl) rfl rfl (by (try simp only [List.map_toArray, List.map_cons, List.map_nil]); first | done | rfl | (simp only [List.length_drop, List.length_take]; rfl)) ?_
 with_reducible refine (scarfjointref02_Finest.calls k (l0_1.length : Int) t335 _ A3.out).mono ?_
 rintro e w8 ⟨v336, rfl, ho0, hb⟩
 refine ⟨_, rfl, ?_⟩
 have HO337 := Aside0.mk (Kd.R_lower (Kd.R_new' ho0 (Kd.R_lt (mr_ HO334.out))) (below_size (mbs_ HB.out)))
 replace HO334 := Aside0.mk (Kd.R_elder' (mr_ HO334.out) (Kd.R_base ho0) hb)
 replace BK330 := Aside0.mk (blk_below (bk_ BK330.out) hb)
 replace BK331 := Aside0.mk (blk_below (bk_ BK331.out) hb)
 replace HB := Aside0.mk (below_step (mbs_ HB.out) hb)
 (try clear hb)
 (try clear hb2)
 (try clear hk)
 (try clear hi)
 (try clear ho0)
 obtain ⟨Ao9, co9, eo9⟩ := Kd.R_slice HO337.out
 (first | subst eo9 | (injection eo9 with f1_ f2_ f3_; have f4_ := f1_.symm; have f5_ := f3_.symm; clear f1_ f2_ f3_; subst f4_; subst f5_))
 obtain ⟨Ao10, co10, eo10⟩ := Kd.R_slice HO334.out
 (first | subst eo10 | (injection eo10 with f1_ f2_ f3_; have f4_ := f1_.symm; have f5_ := f3_.symm; clear f1_ f2_ f3_; subst f4_; subst f5_))
 refine hK.out _ _ ⟨(blk_cell BK330.out 0).trans rfl, (blk_cell BK330.out 1).trans rfl⟩ (fun hHeld => ?_)
 clear hK K
 refine norm_ (a' := ?_) ?_ ?_
 rotate_left
 ·show Act.put _ (some 10) _ = _
  simp only [Act.put, List.setIfInBounds_toArray, List.set_cons_zero, List.set_cons_succ, i64_w, i32_w]
  rfl
 refine pure_ (i := 8) (N := some 11) (v := ?_) (a' := ?_) #[true, true, true, true, true, true, true, true, true, false] rfl rfl (any_of HT_.out (by kernel_rfl)) (fun _ _ _ h => h) (Or.inl ⟨by rfl, ?_⟩) ?_ ?_
 rotate_left
 ·intro w'
  go_simp
  with_reducible rfl
 rotate_left
 ·simp only [Act.put, List.setIfInBounds_toArray, List.set_cons_zero, List.set_cons_succ, i64_w, i32_w]
  rfl
 refine one_ (i := 9) (N := none) #[true, true, true, true, true, true, true, true, true, true] rfl rfl (one_of HT_.out (by kernel_rfl)) (by decide) (fun K hK => ?_)
 have hs11 : w8.cell? ⟨gb331, 0, none⟩ = some (.slice none 0 0) := (blk_cell BK331.out 0).trans rfl
 have hfs11 := blk_frozen BK331.out 0
 have hns11_0 := NB330_331.out
 have hms11_0 := NB331_330.out
 have hs12 : w8.cell? ⟨gb331, 1, none⟩ = some (.slice none 0 0) := (blk_cell BK331.out 1).trans rfl
 have hfs12 := blk_frozen BK331.out 1
 have hns12_0 := NB330_331.out
 have hms12_0 := NB331_330.out
 refine skip_ (w1 := ?_) (by rfl) rfl ?_ ?_
 rotate_left
 ·go_simp
  rfl
 refine hK.out _ _ ⟨((cell_far (p := ⟨gb331, _, none⟩) NB330_331.out _).trans (((cell_far (p := ⟨gb331, _, none⟩) NB330_331.out _).trans (hHeld.1)))), ((cell_far (p := ⟨gb331, _, none⟩) NB330_331.out _).trans (((cell_far (p := ⟨gb331, _, none⟩) NB330_331.out _).trans (hHeld.2))))⟩ (fun hHeld => ?_)
 clear hK K
 refine done_ (done_of HT_.out (by kernel_rfl)) ?_
 try go_wp2
 refine bodyPost_ret (results_cell_row rfl _ _ gb331 27 #[.slice Ao10 t332.length co10, .slice Ao9 t335.length co9] (0, 0) _ rfl (by (with_reducible repeat (first | refine blk_drewN ?_ _ | refine blk_drew ?_ | refine blk_alloc ?_ _)); refine blk_put (cs := #[.slice Ao10 t332.length co10, .slice none 0 0]) ?_ 1 _ rfl; (with_reducible repeat (first | refine blk_drewN ?_ _ | refine blk_drew ?_ | refine blk_alloc ?_ _)); refine blk_put (cs := #[.slice none 0 0, .slice none 0 0]) ?_ 0 _ rfl; (with_reducible repeat (first | refine blk_drewN ?_ _ | refine blk_drew ?_ | refine blk_alloc ?_ _)); exact BK331.out) Try.underlying27 rfl (by kernel_rfl)) rfl ?_
 exact ⟨_, _, by first | rfl | (simp [errW_none, errW_some] <;> rfl) | (simp [*, errW_none, errW_some] <;> rfl), by (with_reducible repeat (first | apply Kd.R_alloc | apply Kd.R_drewN | apply Kd.R_drew)); exact Kd.R_mono (Kd.R_far (p := ⟨gb331, 1, none⟩) (Kd.R_far (p := ⟨gb331, 0, none⟩) (Kd.R_types HO334.out BK331.out (by decide)) (fun _ hk => hk.2) (.slice Ao10 t332.length co10)) (fun _ hk => hk.2) (.slice Ao9 t335.length co9)) (fun _ hk => hk.1.2), by (with_reducible repeat (first | apply Kd.R_alloc | apply Kd.R_drewN | apply Kd.R_drew)); exact Kd.R_mono (Kd.R_far (p := ⟨gb331, 1, none⟩) (Kd.R_far (p := ⟨gb331, 0, none⟩) (Kd.R_types HO337.out BK331.out (by decide)) (fun _ hk => hk.2) (.slice Ao10 t332.length co10)) (fun _ hk => hk.2) (.slice Ao9 t335.length co9)) (fun _ hk => hk.1.2), mbs_ HB.out⟩

/-! ### scarfjointref06_Identity: function 26 -/
def scarfjointref06_Identity.f (k : Nat) (l0_0 : List Int) (l0_1 : List (S65)) : Option (List Int × List Int × Int) := (scarfjointref05_Valid.f k l0_0 l0_1).bind fun t340 => (if t340 = 0 then ((scarfjointref06_Of.f k l0_0 l0_1).bind fun bt341 => (some (bt341.1, bt341.2, 0))) else (some (([] : List Int), ([] : List Int), t340)))
theorem scarfjointref06_Identity.mono : ∀ a0 a1 k, LeO (scarfjointref06_Identity.f k a0 a1) (scarfjointref06_Identity.f (k + 1) a0 a1) := by
 intro a0 a1 k
 unfold scarfjointref06_Identity.f
 repeat' first
   | (with_reducible exact scarfjointref05_Valid.mono _ _ _)
   | (with_reducible exact scarfjointref06_Of.mono _ _ _)
   | (with_reducible exact LeO.refl _)
   | (with_reducible exact LeO.none _)
   | (with_reducible refine LeO.ite ?_ ?_)
   | (with_reducible refine LeO.bind ?_ (fun _ => ?_))
   | exact scarfjointref05_Valid.mono _ _ _
   | exact scarfjointref06_Of.mono _ _ _
   | exact LeO.none _
   | refine LeO.ite ?_ ?_
   | refine LeO.bind ?_ (fun _ => ?_)
set_option maxHeartbeats 8000000 in
set_option maxRecDepth 100000 in
theorem scarfjointref06_Identity.calls (k : Nat) (A0_0 : Option Addr) (c0_0 : Nat) (l0_0 : List Int) (A0_1 : Option Addr) (c0_1 : Nat) (l0_1 : List (S65)) (r1 : List Int) (r2 : List Int) (r3 : Int) (w : World) (hr0_0 : Kd.C (Kd.int .i64) w A0_0 l0_0.length l0_0) (hc0_0 : l0_0.length ≤ c0_0) (hr0_1 : Kd.C k65 w A0_1 l0_1.length l0_1) (hc0_1 : l0_1.length ≤ c0_1) (h : scarfjointref06_Identity.f k l0_0 l0_1 = some (r1, r2, r3)) :
  Calls Try.prog 26 #[.agg #[.slice A0_0 l0_0.length c0_0, .slice A0_1 l0_1.length c0_1]] w fun e w' => ∃ v0_ v1_ : Value, e = .returned (.tuple #[.agg #[v0_, v1_], .int .i64 r3]) ∧ Kd.R (Kd.int .i64) 3 w' w.heap.size (fun k_ => some k_ ≠ (v1_ : Value).ownBlock) v0_ r1 ∧ Kd.R (Kd.int .i64) 3 w' w.heap.size (fun k_ => some k_ ≠ (v0_ : Value).ownBlock) v1_ r2 ∧ Below w.heap.size w w' := by
 have hu25 := Try.underlying25
 have hu27 := Try.underlying27
 have HR0_0 := Aside0.mk hr0_0
 have HC0_0 := Aside0.mk hc0_0
 clear hr0_0 hc0_0
 have HR0_1 := Aside0.mk hr0_1
 have HC0_1 := Aside0.mk hc0_1
 clear hr0_1 hc0_1
 have HB := Aside0.mk (Below.refl w.heap.size w)
 have H : ((scarfjointref05_Valid.f k l0_0 l0_1).bind fun t340 => (if t340 = 0 then ((scarfjointref06_Of.f k l0_0 l0_1).bind fun bt341 => (some (bt341.1, bt341.2, 0))) else (some (([] : List Int), ([] : List Int), t340)))) = some (r1, r2, r3) := h
 clear h
 replace H := Option.bind_eq_some_iff.mp H
 obtain ⟨t340, A20, H⟩ := H
 replace H : (if t340 = 0 then ((scarfjointref06_Of.f k l0_0 l0_1).bind fun bt341 => (some (bt341.1, bt341.2, 0))) else (some (([] : List Int), ([] : List Int), t340))) = some (r1, r2, r3) := H
 have A2 := Aside0.mk A20
 clear A20
 by_cases c3 : t340 = 0
 ·rw [if_pos c3] at H
  have c3b0 : (t340 == 0) = true := beq_iff_eq.mpr c3
  have c3b1 : (t340 != 0) = false := bne_eq_false_iff_eq.mpr c3
  clear c3
  replace H := Option.bind_eq_some_iff.mp H
  obtain ⟨⟨t341, t344⟩, A40, H⟩ := H
  replace H : (some (t341, t344, 0)) = some (r1, r2, r3) := H
  have A4 := Aside0.mk A40
  clear A40
  simp only [Option.some.injEq, Prod.mk.injEq] at H
  obtain ⟨rfl, rfl, rfl⟩ := H
  go_enter Try.func26, Try.ntmps26
  go_wp2_with (first | ((with_reducible refine gate_dst (N := 1) rfl ?_); refine box_event ?hg (N := 1) ?hd (cs := #[.slice A0_0 l0_0.length c0_0, .slice A0_1 l0_1.length c0_1]) (t := 25) ?hr ?_; (case hd => rfl); (case hg => rfl); (case hr => first | (go_simp; done) | (go_simp; rfl)); intro gb338 hg w5 hbox hb; have BK338 := Aside0.mk (hbox); have GW338 := Aside0.mk (gw_ hg (mb_ HB.out)); have GE338 := Aside0.mk (gw_ hg (mb_ HB.out)); replace HB := Aside0.mk (below_step (mb_ HB.out) hb); clear hb hbox hg) | ((with_reducible refine gate_dst (N := 2) rfl ?_); refine box_event ?hg (N := 2) ?hd (cs := #[.slice none 0 0, .slice none 0 0]) (t := 27) ?hr ?_; (case hd => rfl); (case hg => rfl); (case hr => first | (go_simp; done) | (go_simp; rfl)); intro gb339 hg w6 hbox hb; have BK339 := Aside0.mk (hbox); have GW339 := Aside0.mk (gw_ hg (mbs_ HB.out)); have GE339 := Aside0.mk (gw_ hg (mbs_ HB.out)); replace HB := Aside0.mk (below_step (mbs_ HB.out) hb); have NB338_339 := Aside0.mk (nb_ hg (bk_ BK338.out)); have NB339_338 := Aside0.mk (nc_ hg (bk_ BK338.out)); replace BK338 := Aside0.mk (blk_below (bk_ BK338.out) hb); clear hb hbox hg; have hnb7 := NB338_339.out; have hnc7 := NB339_338.out; have hcz8_0 := bc0_ BK338.out; have hcz8_1 := bc1_ BK338.out; have hfz8_0 := blk_frozen BK338.out 0; have hfz8_1 := blk_frozen BK338.out 1) | ((with_reducible refine gate_callee (f := 19) rfl ?_); refine goesL_ (some 6) rfl rfl Try.func19 (by kernel_rfl) rfl #[.agg #[.slice A0_0 l0_0.length c0_0, .slice A0_1 l0_1.length c0_1]] rfl (by (try simp only [List.map_toArray, List.map_cons, List.map_nil]); first | done | rfl | (simp only [List.length_drop, List.length_take]; rfl)) ?_; (with_reducible refine (scarfjointref05_Valid.calls k _ _ l0_0 _ _ l0_1 t340 _ ?side1 ?side2 ?side3 ?side4 A2.out).mono ?_); (case side1 => exact mc_ (Kd.C_below HR0_0.out HB.out)); (case side2 => exact HC0_0.out); (case side3 => exact mc_ (Kd.C_below HR0_1.out HB.out)); (case side4 => exact HC0_1.out); rintro e w9 ⟨rfl, hb⟩; refine ⟨_, rfl, ?_⟩; replace BK338 := Aside0.mk (blk_below (bk_ BK338.out) hb); replace BK339 := Aside0.mk (blk_below (bk_ BK339.out) hb); replace HB := Aside0.mk (below_step (mbs_ HB.out) hb); (try clear hb); (try clear hb2); (try clear hk); (try clear hi); have hcz10_0 := bc0_ BK338.out; have hcz10_1 := bc1_ BK338.out; have hfz10_0 := blk_frozen BK338.out 0; have hfz10_1 := blk_frozen BK338.out 1) | ((with_reducible refine gate_callee (f := 37) rfl ?_); refine goesL_ (some 12) rfl rfl Try.func37 (by kernel_rfl) rfl #[.agg #[.slice A0_0 l0_0.length c0_0, .slice A0_1 l0_1.length c0_1]] rfl (by (try simp only [List.map_toArray, List.map_cons, List.map_nil]); first | done | rfl | (simp only [List.length_drop, List.length_take]; rfl)) ?_; (with_reducible refine (scarfjointref06_Of.calls k _ _ l0_0 _ _ l0_1 t341 t344 _ ?side1 ?side2 ?side3 ?side4 A4.out).mono ?_); (case side1 => exact mc_ (Kd.C_below HR0_0.out HB.out)); (case side2 => exact HC0_0.out); (case side3 => exact mc_ (Kd.C_below HR0_1.out HB.out)); (case side4 => exact HC0_1.out); rintro e w11 ⟨v342, v345, rfl, ho0, ho1, hb⟩; refine ⟨_, rfl, ?_⟩; have HO343 := Aside0.mk (Kd.R_lower ho0 (below_size (mbs_ HB.out))); have HO346 := Aside0.mk (Kd.R_lower ho1 (below_size (mbs_ HB.out))); replace BK338 := Aside0.mk (blk_below (bk_ BK338.out) hb); replace BK339 := Aside0.mk (blk_below (bk_ BK339.out) hb); replace HB := Aside0.mk (below_step (mbs_ HB.out) hb); (try clear hb); (try clear hb2); (try clear hk); (try clear hi); (try clear ho0); (try clear ho1); obtain ⟨Ao12, co12, eo12⟩ := Kd.R_slice HO343.out; subst eo12; have hcz13_0 := bc0_ BK339.out; have hcz13_1 := bc1_ BK339.out; have hfz13_0 := blk_frozen BK339.out 0; have hfz13_1 := blk_frozen BK339.out 1; obtain ⟨Ao14, co14, eo14⟩ := Kd.R_slice HO346.out; subst eo14))
  refine bodyPost_ret (results_ct rfl _ _ gb339 27 #[.slice Ao12 t341.length co12, .slice Ao14 t344.length co14] (0, 0) _ rfl (by (with_reducible repeat (first | refine blk_drewN ?_ _ | refine blk_drew ?_ | refine blk_alloc ?_ _)); refine blk_put (cs := #[.slice Ao12 t341.length co12, .slice none 0 0]) ?_ 1 _ rfl; (with_reducible repeat (first | refine blk_drewN ?_ _ | refine blk_drew ?_ | refine blk_alloc ?_ _)); refine blk_put (cs := #[.slice none 0 0, .slice none 0 0]) ?_ 0 _ rfl; (with_reducible repeat (first | refine blk_drewN ?_ _ | refine blk_drew ?_ | refine blk_alloc ?_ _)); exact BK339.out) Try.underlying27 rfl (by kernel_rfl)) rfl ?_
  exact ⟨_, _, by first | rfl | (simp [errW_none, errW_some] <;> rfl) | (simp [*, errW_none, errW_some] <;> rfl), by (with_reducible repeat (first | apply Kd.R_alloc | apply Kd.R_drewN | apply Kd.R_drew)); exact Kd.R_mono (Kd.R_far (p := ⟨gb339, 1, none⟩) (Kd.R_far (p := ⟨gb339, 0, none⟩) (Kd.R_types HO343.out BK339.out (by decide)) (fun _ hk => hk.2) (.slice Ao12 t341.length co12)) (fun _ hk => hk.2) (.slice Ao14 t344.length co14)) (fun _ hk => hk.1), by (with_reducible repeat (first | apply Kd.R_alloc | apply Kd.R_drewN | apply Kd.R_drew)); exact Kd.R_mono (Kd.R_far (p := ⟨gb339, 1, none⟩) (Kd.R_far (p := ⟨gb339, 0, none⟩) (Kd.R_types HO346.out BK339.out (by decide)) (fun _ hk => hk.2) (.slice Ao12 t341.length co12)) (fun _ hk => hk.2) (.slice Ao14 t344.length co14)) (fun _ hk => hk.1), mbs_ HB.out⟩
 ·rw [if_neg c3] at H
  have c3b0 : (t340 == 0) = false := beq_eq_false_iff_ne.mpr c3
  have c3b1 : (t340 != 0) = true := bne_iff_ne.mpr c3
  simp only [Option.some.injEq, Prod.mk.injEq] at H
  obtain ⟨rfl, rfl, rfl⟩ := H
  go_enter Try.func26, Try.ntmps26
  go_wp2_with (first | ((with_reducible refine gate_dst (N := 1) rfl ?_); refine box_event ?hg (N := 1) ?hd (cs := #[.slice A0_0 l0_0.length c0_0, .slice A0_1 l0_1.length c0_1]) (t := 25) ?hr ?_; (case hd => rfl); (case hg => rfl); (case hr => first | (go_simp; done) | (go_simp; rfl)); intro gb338 hg w15 hbox hb; have BK338 := Aside0.mk (hbox); have GW338 := Aside0.mk (gw_ hg (mb_ HB.out)); have GE338 := Aside0.mk (gw_ hg (mb_ HB.out)); replace HB := Aside0.mk (below_step (mb_ HB.out) hb); clear hb hbox hg) | ((with_reducible refine gate_dst (N := 2) rfl ?_); refine box_event ?hg (N := 2) ?hd (cs := #[.slice none 0 0, .slice none 0 0]) (t := 27) ?hr ?_; (case hd => rfl); (case hg => rfl); (case hr => first | (go_simp; done) | (go_simp; rfl)); intro gb339 hg w16 hbox hb; have BK339 := Aside0.mk (hbox); have GW339 := Aside0.mk (gw_ hg (mbs_ HB.out)); have GE339 := Aside0.mk (gw_ hg (mbs_ HB.out)); replace HB := Aside0.mk (below_step (mbs_ HB.out) hb); have NB338_339 := Aside0.mk (nb_ hg (bk_ BK338.out)); have NB339_338 := Aside0.mk (nc_ hg (bk_ BK338.out)); replace BK338 := Aside0.mk (blk_below (bk_ BK338.out) hb); clear hb hbox hg; have hnb17 := NB338_339.out; have hnc17 := NB339_338.out; have hcz18_0 := bc0_ BK338.out; have hcz18_1 := bc1_ BK338.out; have hfz18_0 := blk_frozen BK338.out 0; have hfz18_1 := blk_frozen BK338.out 1) | ((with_reducible refine gate_callee (f := 19) rfl ?_); refine goesL_ (some 6) rfl rfl Try.func19 (by kernel_rfl) rfl #[.agg #[.slice A0_0 l0_0.length c0_0, .slice A0_1 l0_1.length c0_1]] rfl (by (try simp only [List.map_toArray, List.map_cons, List.map_nil]); first | done | rfl | (simp only [List.length_drop, List.length_take]; rfl)) ?_; (with_reducible refine (scarfjointref05_Valid.calls k _ _ l0_0 _ _ l0_1 t340 _ ?side1 ?side2 ?side3 ?side4 A2.out).mono ?_); (case side1 => exact mc_ (Kd.C_below HR0_0.out HB.out)); (case side2 => exact HC0_0.out); (case side3 => exact mc_ (Kd.C_below HR0_1.out HB.out)); (case side4 => exact HC0_1.out); rintro e w19 ⟨rfl, hb⟩; refine ⟨_, rfl, ?_⟩; replace BK338 := Aside0.mk (blk_below (bk_ BK338.out) hb); replace BK339 := Aside0.mk (blk_below (bk_ BK339.out) hb); replace HB := Aside0.mk (below_step (mbs_ HB.out) hb); (try clear hb); (try clear hb2); (try clear hk); (try clear hi); have hcz20_0 := bc0_ BK339.out; have hcz20_1 := bc1_ BK339.out; have hfz20_0 := blk_frozen BK339.out 0; have hfz20_1 := blk_frozen BK339.out 1))
  refine bodyPost_ret (results_ct rfl _ _ gb339 27 #[.slice none 0 0, .slice none 0 0] (0, 0) _ rfl (by (with_reducible repeat (first | refine blk_drewN ?_ _ | refine blk_drew ?_ | refine blk_alloc ?_ _)); refine blk_put (cs := #[.slice none 0 0, .slice none 0 0]) ?_ 1 _ rfl; (with_reducible repeat (first | refine blk_drewN ?_ _ | refine blk_drew ?_ | refine blk_alloc ?_ _)); refine blk_put (cs := #[.slice none 0 0, .slice none 0 0]) ?_ 0 _ rfl; (with_reducible repeat (first | refine blk_drewN ?_ _ | refine blk_drew ?_ | refine blk_alloc ?_ _)); exact BK339.out) Try.underlying27 rfl (by kernel_rfl)) rfl ?_
  exact ⟨_, _, by first | rfl | (simp [errW_none, errW_some] <;> rfl) | (simp [*, errW_none, errW_some] <;> rfl), by first | exact Kd.R_nil _ _ _ _ _ | exact Kd.N_nil _ _ _ _ _ | exact Kd.V_nil _ _ _ _ _ | exact Kd.Q_nil _ _ _ _ _ | exact Kd.S_nil _ _ _ _ _, by first | exact Kd.R_nil _ _ _ _ _ | exact Kd.N_nil _ _ _ _ _ | exact Kd.V_nil _ _ _ _ _ | exact Kd.Q_nil _ _ _ _ _ | exact Kd.S_nil _ _ _ _ _, mbs_ HB.out⟩

end Go.Proofs.Ytklacpdobpkbbaa.P
