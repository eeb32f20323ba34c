-- Written by wip/drive.py of this session's repo over the kit's print.py (with contracts of the session's own): not the print's own text
import Derived.Test.YtklacpdobpkbbaaPx0
import Derived.Test.YtklacpdobpkbbaaPx14
import Derived.Test.YtklacpdobpkbbaaPx15
import Derived.Test.YtklacpdobpkbbaaPx24
namespace Go.Proofs.Ytklacpdobpkbbaa.P
open Go.RowKit Go.Proofs.YtklacpdobpkbbaaW.PrintWords Go.Proofs.YtklacpdobpkbbaaW.PrintLast Go.Proofs.YtklacpdobpkbbaaW.PrintMore
attribute [local go_sem] max2_int min2_int max_two min_two max_three min_three max_four min_four   -- for this text's walks alone
set_option linter.unusedVariables false
set_option linter.unusedSimpArgs false

/-! ### scarfjointref06_Inverse: function 36 -/
def scarfjointref06_Inverse.j0 : Nat → Bool → List Int → List (S65) → List Int → List Int → Option (List Int × List Int × Int)
 | 0, _, _, _, _, _ => none
 | k + 1, x28, x410000, x410001, x411000, x411001 => if x28 = true then (some (([] : List Int), ([] : List Int), 10)) else ((scarfjointref06_Back.f k x411000 (x410000.length : Int)).bind fun t415 => ((scarfjointref06_Back.f k x411001 (x410001.length : Int)).bind fun t418 => (some (t415, t418, 0))))
def scarfjointref06_Inverse.f (k : Nat) (l0_0 : List Int) (l0_1 : List (S65)) (l1_0 : List Int) (l1_1 : List (S65)) (l2_0 : List Int) (l2_1 : List Int) : Option (List Int × List Int × Int) := (scarfjointref06_Valid.f k l0_0 l0_1 l1_0 l1_1 l2_0 l2_1).bind fun t412 => (if t412 = 0 then ((scarfjointref06_Injective.f k l0_0 l0_1 l1_0 l1_1 l2_0 l2_1).bind fun t413 => (if t413 = true then ((scarfjointref06_Surjective.f k l0_0 l0_1 l1_0 l1_1 l2_0 l2_1).bind fun t414 => (scarfjointref06_Inverse.j0 k (!t414) l1_0 l1_1 l2_0 l2_1)) else (scarfjointref06_Inverse.j0 k true l1_0 l1_1 l2_0 l2_1))) else (some (([] : List Int), ([] : List Int), t412)))
theorem scarfjointref06_Inverse.mono_l : ∀ k, (∀ y0 y1 y2 y3 y4, LeO (scarfjointref06_Inverse.j0 k y0 y1 y2 y3 y4) (scarfjointref06_Inverse.j0 (k + 1) y0 y1 y2 y3 y4))
 | 0 => fun _ _ _ _ _ r h => by simp [scarfjointref06_Inverse.j0] at h
 | k + 1 => by
  have ih0 := scarfjointref06_Inverse.mono_l k
  ·intro y0 y1 y2 y3 y4
   unfold scarfjointref06_Inverse.j0
   repeat' first
   | (with_reducible exact ih0 _ _ _ _ _)
   | (with_reducible exact scarfjointref06_Back.mono _ _ _)
   | (with_reducible exact scarfjointref06_Injective.mono _ _ _ _ _ _ _)
   | (with_reducible exact scarfjointref06_Surjective.mono _ _ _ _ _ _ _)
   | (with_reducible exact scarfjointref06_Valid.mono _ _ _ _ _ _ _)
   | (with_reducible exact LeO.refl _)
   | (with_reducible exact LeO.none _)
   | (with_reducible refine LeO.ite ?_ ?_)
   | (with_reducible refine LeO.bind ?_ (fun _ => ?_))
   | exact ih0 _ _ _ _ _
   | exact scarfjointref06_Back.mono _ _ _
   | exact scarfjointref06_Injective.mono _ _ _ _ _ _ _
   | exact scarfjointref06_Surjective.mono _ _ _ _ _ _ _
   | exact scarfjointref06_Valid.mono _ _ _ _ _ _ _
   | exact LeO.none _
   | refine LeO.ite ?_ ?_
   | refine LeO.bind ?_ (fun _ => ?_)
theorem scarfjointref06_Inverse.mono : ∀ a0 a1 a2 a3 a4 a5 k, LeO (scarfjointref06_Inverse.f k a0 a1 a2 a3 a4 a5) (scarfjointref06_Inverse.f (k + 1) a0 a1 a2 a3 a4 a5) := by
 intro a0 a1 a2 a3 a4 a5 k
 have ih0 := scarfjointref06_Inverse.mono_l k
 unfold scarfjointref06_Inverse.f
 repeat' first
   | (with_reducible exact ih0 _ _ _ _ _)
   | (with_reducible exact scarfjointref06_Back.mono _ _ _)
   | (with_reducible exact scarfjointref06_Injective.mono _ _ _ _ _ _ _)
   | (with_reducible exact scarfjointref06_Surjective.mono _ _ _ _ _ _ _)
   | (with_reducible exact scarfjointref06_Valid.mono _ _ _ _ _ _ _)
   | (with_reducible exact LeO.refl _)
   | (with_reducible exact LeO.none _)
   | (with_reducible refine LeO.ite ?_ ?_)
   | (with_reducible refine LeO.bind ?_ (fun _ => ?_))
   | exact ih0 _ _ _ _ _
   | exact scarfjointref06_Back.mono _ _ _
   | exact scarfjointref06_Injective.mono _ _ _ _ _ _ _
   | exact scarfjointref06_Surjective.mono _ _ _ _ _ _ _
   | exact scarfjointref06_Valid.mono _ _ _ _ _ _ _
   | exact LeO.none _
   | refine LeO.ite ?_ ?_
   | refine LeO.bind ?_ (fun _ => ?_)
def scarfjointref06_Inverse.T6 : Bool × List (List Nat × List Nat) := (true, [([], []), ([0], [0]), ([], []), ([2], [2]), ([3], [3]), ([1, 4], [1, 4]), ([], []), ([6], [6]), ([], []), ([8], [8]), ([9], [9]), ([7, 10, 5], [7, 10]), ([5, 11], [5, 11]), ([12, 11, 0, 1, 2, 3, 4, 5, 6, 7, 8, 9, 10, 11, 12], [12]), ([13, 0, 1, 2, 3, 4, 5, 6, 7, 8, 9, 10, 11, 12, 13], [])])
def scarfjointref06_Inverse.B6 : List Nat := [0, 1, 0, 4, 12, 31, 0, 64, 0, 256, 768, 2047, 4095, 8191, 16383]
theorem scarfjointref06_Inverse.tab6 : rtab .any (opsOf Try.f36 6) = scarfjointref06_Inverse.T6 := by kernel_rfl
theorem scarfjointref06_Inverse.bits6 : waitsOk scarfjointref06_Inverse.T6.2 scarfjointref06_Inverse.B6 = true := by kernel_rfl
set_option maxHeartbeats 8000000 in
set_option maxRecDepth 100000 in
theorem scarfjointref06_Inverse.calls (k : Nat) (A0_0 : Option Addr) (c0_0 : Nat) (l0_0 : List Int) (A0_1 : Option Addr) (c0_1 : Nat) (l0_1 : List (S65)) (A1_0 : Option Addr) (c1_0 : Nat) (l1_0 : List Int) (A1_1 : Option Addr) (c1_1 : Nat) (l1_1 : List (S65)) (A2_0 : Option Addr) (c2_0 : Nat) (l2_0 : List Int) (A2_1 : Option Addr) (c2_1 : Nat) (l2_1 : List Int) (r1 : List Int) (r2 : List Int) (r3 : Int) (w : World) (hr0_0 : Kd.C (Kd.int .i64) w A0_0 l0_0.length l0_0) (hc0_0 : l0_0.length ≤ c0_0) (hr0_1 : Kd.C k65 w A0_1 l0_1.length l0_1) (hc0_1 : l0_1.length ≤ c0_1) (hr1_0 : Kd.C (Kd.int .i64) w A1_0 l1_0.length l1_0) (hc1_0 : l1_0.length ≤ c1_0) (hr1_1 : Kd.C k65 w A1_1 l1_1.length l1_1) (hc1_1 : l1_1.length ≤ c1_1) (hr2_0 : Kd.C (Kd.int .i64) w A2_0 l2_0.length l2_0) (hc2_0 : l2_0.length ≤ c2_0) (hr2_1 : Kd.C (Kd.int .i64) w A2_1 l2_1.length l2_1) (hc2_1 : l2_1.length ≤ c2_1) (h : scarfjointref06_Inverse.f k l0_0 l0_1 l1_0 l1_1 l2_0 l2_1 = some (r1, r2, r3)) :
  Calls Try.prog 36 #[.agg #[.slice A0_0 l0_0.length c0_0, .slice A0_1 l0_1.length c0_1], .agg #[.slice A1_0 l1_0.length c1_0, .slice A1_1 l1_1.length c1_1], .agg #[.slice A2_0 l2_0.length c2_0, .slice A2_1 l2_1.length c2_1]] w fun e w' => ∃ v0_ v1_ : Value, e = .returned (.tuple #[.agg #[v0_, v1_], .int .i64 r3]) ∧ Kd.R (Kd.int .i64) 3 w' w.heap.size (fun k_ => some k_ ≠ (v1_ : Value).ownBlock) v0_ r1 ∧ Kd.R (Kd.int .i64) 3 w' w.heap.size (fun k_ => some k_ ≠ (v0_ : Value).ownBlock) v1_ r2 ∧ Below w.heap.size w w' := by
 have hu25 := Try.underlying25
 have hu27 := Try.underlying27
 have HR0_0 := Aside0.mk hr0_0
 have HC0_0 := Aside0.mk hc0_0
 clear hr0_0 hc0_0
 have HR0_1 := Aside0.mk hr0_1
 have HC0_1 := Aside0.mk hc0_1
 clear hr0_1 hc0_1
 have HR1_0 := Aside0.mk hr1_0
 have HC1_0 := Aside0.mk hc1_0
 clear hr1_0 hc1_0
 have HR1_1 := Aside0.mk hr1_1
 have HC1_1 := Aside0.mk hc1_1
 clear hr1_1 hc1_1
 have HR2_0 := Aside0.mk hr2_0
 have HC2_0 := Aside0.mk hc2_0
 clear hr2_0 hc2_0
 have HR2_1 := Aside0.mk hr2_1
 have HC2_1 := Aside0.mk hc2_1
 clear hr2_1 hc2_1
 have HB := Aside0.mk (Below.refl w.heap.size w)
 have H : ((scarfjointref06_Valid.f k l0_0 l0_1 l1_0 l1_1 l2_0 l2_1).bind fun t412 => (if t412 = 0 then ((scarfjointref06_Injective.f k l0_0 l0_1 l1_0 l1_1 l2_0 l2_1).bind fun t413 => (if t413 = true then ((scarfjointref06_Surjective.f k l0_0 l0_1 l1_0 l1_1 l2_0 l2_1).bind fun t414 => (scarfjointref06_Inverse.j0 k (!t414) l1_0 l1_1 l2_0 l2_1)) else (scarfjointref06_Inverse.j0 k true l1_0 l1_1 l2_0 l2_1))) else (some (([] : List Int), ([] : List Int), t412)))) = some (r1, r2, r3) := h
 clear h
 replace H := Option.bind_eq_some_iff.mp H
 obtain ⟨t412, A40, H⟩ := H
 replace H : (if t412 = 0 then ((scarfjointref06_Injective.f k l0_0 l0_1 l1_0 l1_1 l2_0 l2_1).bind fun t413 => (if t413 = true then ((scarfjointref06_Surjective.f k l0_0 l0_1 l1_0 l1_1 l2_0 l2_1).bind fun t414 => (scarfjointref06_Inverse.j0 k (!t414) l1_0 l1_1 l2_0 l2_1)) else (scarfjointref06_Inverse.j0 k true l1_0 l1_1 l2_0 l2_1))) else (some (([] : List Int), ([] : List Int), t412))) = some (r1, r2, r3) := H
 have A4 := Aside0.mk A40
 clear A40
 by_cases c5 : t412 = 0
 ·rw [if_pos c5] at H
  have c5b0 : (t412 == 0) = true := beq_iff_eq.mpr c5
  have c5b1 : (t412 != 0) = false := bne_eq_false_iff_eq.mpr c5
  clear c5
  have HC6 := Aside0.mk H
  clear H
  go_enter Try.func36, Try.ntmps36
  go_upto_region 4 with (first | ((with_reducible refine gate_dst (N := 3) rfl ?_); refine box_event ?hg (N := 3) ?hd (cs := #[.slice A0_0 l0_0.length c0_0, .slice A0_1 l0_1.length c0_1]) (t := 25) ?hr ?_; (case hd => rfl); (case hg => rfl); (case hr => first | (go_simp; done) | (go_simp; rfl)); intro gb408 hg w7 hbox hb; have BK408 := Aside0.mk (hbox); have GW408 := Aside0.mk (gw_ hg (mb_ HB.out)); have GE408 := Aside0.mk (gw_ hg (mb_ HB.out)); replace HB := Aside0.mk (below_step (mb_ HB.out) hb); clear hb hbox hg) | ((with_reducible refine gate_dst (N := 4) rfl ?_); refine box_event ?hg (N := 4) ?hd (cs := #[.slice A1_0 l1_0.length c1_0, .slice A1_1 l1_1.length c1_1]) (t := 25) ?hr ?_; (case hd => rfl); (case hg => rfl); (case hr => first | (go_simp; done) | (go_simp; rfl)); intro gb409 hg w8 hbox hb; have BK409 := Aside0.mk (hbox); have GW409 := Aside0.mk (gw_ hg (mbs_ HB.out)); have GE409 := Aside0.mk (gw_ hg (mbs_ HB.out)); replace HB := Aside0.mk (below_step (mbs_ HB.out) hb); have NB408_409 := Aside0.mk (nb_ hg (bk_ BK408.out)); have NB409_408 := Aside0.mk (nc_ hg (bk_ BK408.out)); replace BK408 := kb_ (bk_ BK408.out) hb; clear hb hbox hg) | ((with_reducible refine gate_dst (N := 5) rfl ?_); refine box_event ?hg (N := 5) ?hd (cs := #[.slice A2_0 l2_0.length c2_0, .slice A2_1 l2_1.length c2_1]) (t := 27) ?hr ?_; (case hd => rfl); (case hg => rfl); (case hr => first | (go_simp; done) | (go_simp; rfl)); intro gb410 hg w9 hbox hb; have BK410 := Aside0.mk (hbox); have GW410 := Aside0.mk (gw_ hg (mbs_ HB.out)); have GE410 := Aside0.mk (gw_ hg (mbs_ HB.out)); replace HB := Aside0.mk (below_step (mbs_ HB.out) hb); have NB408_410 := Aside0.mk (nb_ hg (bk_ BK408.out)); have NB410_408 := Aside0.mk (nc_ hg (bk_ BK408.out)); replace BK408 := kb_ (bk_ BK408.out) hb; have NB409_410 := Aside0.mk (nb_ hg (bk_ BK409.out)); have NB410_409 := Aside0.mk (nc_ hg (bk_ BK409.out)); replace BK409 := kb_ (bk_ BK409.out) hb; clear hb hbox hg) | ((with_reducible refine gate_dst (N := 6) rfl ?_); refine box_event ?hg (N := 6) ?hd (cs := #[.slice none 0 0, .slice none 0 0]) (t := 27) ?hr ?_; (case hd => rfl); (case hg => rfl); (case hr => first | (go_simp; done) | (go_simp; rfl)); intro gb411 hg w10 hbox hb; have BK411 := Aside0.mk (hbox); have GW411 := Aside0.mk (gw_ hg (mbs_ HB.out)); have GE411 := Aside0.mk (gw_ hg (mbs_ HB.out)); replace HB := Aside0.mk (below_step (mbs_ HB.out) hb); have NB408_411 := Aside0.mk (nb_ hg (bk_ BK408.out)); have NB411_408 := Aside0.mk (nc_ hg (bk_ BK408.out)); replace BK408 := kb_ (bk_ BK408.out) hb; have NB409_411 := Aside0.mk (nb_ hg (bk_ BK409.out)); have NB411_409 := Aside0.mk (nc_ hg (bk_ BK409.out)); replace BK409 := kb_ (bk_ BK409.out) hb; have NB410_411 := Aside0.mk (nb_ hg (bk_ BK410.out)); have NB411_410 := Aside0.mk (nc_ hg (bk_ BK410.out)); replace BK410 := kb_ (bk_ BK410.out) hb; clear hb hbox hg; have hnb11 := NB408_409.out; have hnc11 := NB409_408.out; have hnb12 := NB408_410.out; have hnc12 := NB410_408.out; have hnb13 := NB408_411.out; have hnc13 := NB411_408.out; have hcz14_0 := bc0_ BK408.out; have hcz14_1 := bc1_ BK408.out; have hfz14_0 := blk_frozen BK408.out 0; have hfz14_1 := blk_frozen BK408.out 1; have hnb15 := NB409_410.out; have hnc15 := NB410_409.out; have hnb16 := NB409_411.out; have hnc16 := NB411_409.out; have hcz17_0 := bc0_ BK409.out; have hcz17_1 := bc1_ BK409.out; have hfz17_0 := blk_frozen BK409.out 0; have hfz17_1 := blk_frozen BK409.out 1; have hnb18 := NB410_411.out; have hnc18 := NB411_410.out; have hcz19_0 := bc0_ BK410.out; have hcz19_1 := bc1_ BK410.out; have hfz19_0 := blk_frozen BK410.out 0; have hfz19_1 := blk_frozen BK410.out 1) | ((with_reducible refine gate_callee (f := 14) rfl ?_); refine goesL_ (some 12) rfl rfl Try.func14 (by kernel_rfl) rfl #[.agg #[.slice A0_0 l0_0.length c0_0, .slice A0_1 l0_1.length c0_1], .agg #[.slice A1_0 l1_0.length c1_0, .slice A1_1 l1_1.length c1_1], .agg #[.slice A2_0 l2_0.length c2_0, .slice A2_1 l2_1.length c2_1]] rfl (by (try simp only [List.map_toArray, List.map_cons, List.map_nil]); first | done | rfl | (simp only [List.length_drop, List.length_take]; rfl)) ?_; (with_reducible refine (scarfjointref06_Valid.calls k _ _ l0_0 _ _ l0_1 _ _ l1_0 _ _ l1_1 _ _ l2_0 _ _ l2_1 t412 _ ?side1 ?side2 ?side3 ?side4 ?side5 ?side6 ?side7 ?side8 ?side9 ?side10 ?side11 ?side12 A4.out).mono ?_); (case side1 => exact mc_ (Kd.C_below HR0_0.out HB.out)); (case side2 => exact HC0_0.out); (case side3 => exact mc_ (Kd.C_below HR0_1.out HB.out)); (case side4 => exact HC0_1.out); (case side5 => exact mc_ (Kd.C_below HR1_0.out HB.out)); (case side6 => exact HC1_0.out); (case side7 => exact mc_ (Kd.C_below HR1_1.out HB.out)); (case side8 => exact HC1_1.out); (case side9 => exact mc_ (Kd.C_below HR2_0.out HB.out)); (case side10 => exact HC2_0.out); (case side11 => exact mc_ (Kd.C_below HR2_1.out HB.out)); (case side12 => exact HC2_1.out); rintro e w20 ⟨rfl, hb⟩; refine ⟨_, rfl, ?_⟩; replace BK408 := kb_ (bk_ BK408.out) hb; replace BK409 := kb_ (bk_ BK409.out) hb; replace BK410 := kb_ (bk_ BK410.out) hb; replace BK411 := kb_ (bk_ BK411.out) hb; replace HB := Aside0.mk (below_step (mbs_ HB.out) hb); (try clear hb); (try clear hb2); (try clear hk); (try clear hi)))
  (try simp only [Act.put, List.setIfInBounds_toArray, List.set_cons_zero, List.set_cons_succ])
  go_cut [28] (fun v28 wc => ∃ (kq : Nat) (x28_5 : Bool), v28 = .bool x28_5 ∧ Aside0 (scarfjointref06_Inverse.j0 kq x28_5 l1_0 l1_1 l2_0 l2_1 = some (r1, r2, r3)) ∧ Aside0 (kq ≤ k) ∧ Aside0 (wc.heap[gb408]? = some (.cells #[(.slice A0_0 l0_0.length c0_0), (.slice A0_1 l0_1.length c0_1)] 25 (0, 0))) ∧ Aside0 (wc.heap[gb409]? = some (.cells #[(.slice A1_0 l1_0.length c1_0), (.slice A1_1 l1_1.length c1_1)] 25 (0, 0))) ∧ Aside0 (wc.heap[gb410]? = some (.cells #[(.slice A2_0 l2_0.length c2_0), (.slice A2_1 l2_1.length c2_1)] 27 (0, 0))) ∧ Aside0 (wc.heap[gb411]? = some (.cells #[(.slice none 0 0), (.slice none 0 0)] 27 (0, 0))) ∧ Aside0 (Below w.heap.size w wc))
  case first =>
   have H := HC6.out
   clear HC6
   replace H := Option.bind_eq_some_iff.mp H
   obtain ⟨t413, A210, H⟩ := H
   replace H : (if t413 = true then ((scarfjointref06_Surjective.f k l0_0 l0_1 l1_0 l1_1 l2_0 l2_1).bind fun t414 => (scarfjointref06_Inverse.j0 k (!t414) l1_0 l1_1 l2_0 l2_1)) else (scarfjointref06_Inverse.j0 k true l1_0 l1_1 l2_0 l2_1)) = some (r1, r2, r3) := H
   have A21 := Aside0.mk A210
   clear A210
   by_cases c22 : t413 = true
   ·subst c22
    have H1 : ((scarfjointref06_Surjective.f k l0_0 l0_1 l1_0 l1_1 l2_0 l2_1).bind fun t414 => (scarfjointref06_Inverse.j0 k (!t414) l1_0 l1_1 l2_0 l2_1)) = some (r1, r2, r3) := by rw [if_pos rfl] at H; exact H
    clear H
    have H := H1
    clear H1
    replace H := Option.bind_eq_some_iff.mp H
    obtain ⟨t414, A230, H⟩ := H
    replace H : (scarfjointref06_Inverse.j0 k (!t414) l1_0 l1_1 l2_0 l2_1) = some (r1, r2, r3) := H
    have A23 := Aside0.mk A230
    clear A230
    have H' := Aside0.mk H
    clear H
    have hnb24 := NB408_409.out
    have hnc24 := NB409_408.out
    have hnb25 := NB408_410.out
    have hnc25 := NB410_408.out
    have hnb26 := NB408_411.out
    have hnc26 := NB411_408.out
    have hcz27_0 := bc0_ BK408.out
    have hcz27_1 := bc1_ BK408.out
    have hfz27_0 := blk_frozen BK408.out 0
    have hfz27_1 := blk_frozen BK408.out 1
    have hnb28 := NB409_410.out
    have hnc28 := NB410_409.out
    have hnb29 := NB409_411.out
    have hnc29 := NB411_409.out
    have hcz30_0 := bc0_ BK409.out
    have hcz30_1 := bc1_ BK409.out
    have hfz30_0 := blk_frozen BK409.out 0
    have hfz30_1 := blk_frozen BK409.out 1
    have hnb31 := NB410_411.out
    have hnc31 := NB411_410.out
    have hcz32_0 := bc0_ BK410.out
    have hcz32_1 := bc1_ BK410.out
    have hfz32_0 := blk_frozen BK410.out 0
    have hfz32_1 := blk_frozen BK410.out 1
    go_wp2_with (first | ((with_reducible refine gate_callee (f := 16) rfl ?_); refine goesL_ (some 20) rfl rfl Try.func16 (by kernel_rfl) rfl #[.agg #[.slice A0_0 l0_0.length c0_0, .slice A0_1 l0_1.length c0_1], .agg #[.slice A1_0 l1_0.length c1_0, .slice A1_1 l1_1.length c1_1], .agg #[.slice A2_0 l2_0.length c2_0, .slice A2_1 l2_1.length c2_1]] rfl (by (try simp only [List.map_toArray, List.map_cons, List.map_nil]); first | done | rfl | (simp only [List.length_drop, List.length_take]; rfl)) ?_; (with_reducible refine (scarfjointref06_Injective.calls k _ _ l0_0 _ _ l0_1 _ _ l1_0 _ _ l1_1 _ _ l2_0 _ _ l2_1 true _ ?side1 ?side2 ?side3 ?side4 ?side5 ?side6 ?side7 ?side8 ?side9 ?side10 ?side11 ?side12 A21.out).mono ?_); (case side1 => exact mc_ (Kd.C_below HR0_0.out HB.out)); (case side2 => exact HC0_0.out); (case side3 => exact mc_ (Kd.C_below HR0_1.out HB.out)); (case side4 => exact HC0_1.out); (case side5 => exact mc_ (Kd.C_below HR1_0.out HB.out)); (case side6 => exact HC1_0.out); (case side7 => exact mc_ (Kd.C_below HR1_1.out HB.out)); (case side8 => exact HC1_1.out); (case side9 => exact mc_ (Kd.C_below HR2_0.out HB.out)); (case side10 => exact HC2_0.out); (case side11 => exact mc_ (Kd.C_below HR2_1.out HB.out)); (case side12 => exact HC2_1.out); rintro e w33 ⟨rfl, hb⟩; refine ⟨_, rfl, ?_⟩; replace BK408 := kb_ (bk_ BK408.out) hb; replace BK409 := kb_ (bk_ BK409.out) hb; replace BK410 := kb_ (bk_ BK410.out) hb; replace BK411 := kb_ (bk_ BK411.out) hb; replace HB := Aside0.mk (below_step (mbs_ HB.out) hb); (try clear hb); (try clear hb2); (try clear hk); (try clear hi); have hcz34_0 := bc0_ BK408.out; have hcz34_1 := bc1_ BK408.out; have hfz34_0 := blk_frozen BK408.out 0; have hfz34_1 := blk_frozen BK408.out 1; have hcz35_0 := bc0_ BK409.out; have hcz35_1 := bc1_ BK409.out; have hfz35_0 := blk_frozen BK409.out 0; have hfz35_1 := blk_frozen BK409.out 1; have hcz36_0 := bc0_ BK410.out; have hcz36_1 := bc1_ BK410.out; have hfz36_0 := blk_frozen BK410.out 0; have hfz36_1 := blk_frozen BK410.out 1) | (go_at_call 18; (with_reducible refine (scarfjointref06_Surjective.calls k _ _ l0_0 _ _ l0_1 _ _ l1_0 _ _ l1_1 _ _ l2_0 _ _ l2_1 t414 _ ?side1 ?side2 ?side3 ?side4 ?side5 ?side6 ?side7 ?side8 ?side9 ?side10 ?side11 ?side12 A23.out).mono ?_); (case side1 => exact mc_ (Kd.C_below HR0_0.out HB.out)); (case side2 => exact HC0_0.out); (case side3 => exact mc_ (Kd.C_below HR0_1.out HB.out)); (case side4 => exact HC0_1.out); (case side5 => exact mc_ (Kd.C_below HR1_0.out HB.out)); (case side6 => exact HC1_0.out); (case side7 => exact mc_ (Kd.C_below HR1_1.out HB.out)); (case side8 => exact HC1_1.out); (case side9 => exact mc_ (Kd.C_below HR2_0.out HB.out)); (case side10 => exact HC2_0.out); (case side11 => exact mc_ (Kd.C_below HR2_1.out HB.out)); (case side12 => exact HC2_1.out); rintro e w37 ⟨rfl, hb⟩; replace BK408 := kb_ (bk_ BK408.out) hb; replace BK409 := kb_ (bk_ BK409.out) hb; replace BK410 := kb_ (bk_ BK410.out) hb; replace BK411 := kb_ (bk_ BK411.out) hb; replace HB := Aside0.mk (below_step (mbs_ HB.out) hb); (try clear hb); (try clear hb2); (try clear hk); (try clear hi)))
    go_meet
    case rel => exact ⟨_, (!t414), (by first | rfl | (simp; done) | (simp [*]; done)), H', ⟨by first | omega | exact Nat.le_refl _⟩, ⟨bk_ BK408.out⟩, ⟨bk_ BK409.out⟩, ⟨bk_ BK410.out⟩, ⟨bk_ BK411.out⟩, ⟨mbs_ HB.out⟩⟩
   replace c22 := Bool.eq_false_iff.mpr c22
   subst c22
   have H1 : (scarfjointref06_Inverse.j0 k true l1_0 l1_1 l2_0 l2_1) = some (r1, r2, r3) := by rw [if_neg (show ¬ (false = true) by decide)] at H; exact H
   clear H
   have H := H1
   clear H1
   have H' := Aside0.mk H
   clear H
   have hnb38 := NB408_409.out
   have hnc38 := NB409_408.out
   have hnb39 := NB408_410.out
   have hnc39 := NB410_408.out
   have hnb40 := NB408_411.out
   have hnc40 := NB411_408.out
   have hcz41_0 := bc0_ BK408.out
   have hcz41_1 := bc1_ BK408.out
   have hfz41_0 := blk_frozen BK408.out 0
   have hfz41_1 := blk_frozen BK408.out 1
   have hnb42 := NB409_410.out
   have hnc42 := NB410_409.out
   have hnb43 := NB409_411.out
   have hnc43 := NB411_409.out
   have hcz44_0 := bc0_ BK409.out
   have hcz44_1 := bc1_ BK409.out
   have hfz44_0 := blk_frozen BK409.out 0
   have hfz44_1 := blk_frozen BK409.out 1
   have hnb45 := NB410_411.out
   have hnc45 := NB411_410.out
   have hcz46_0 := bc0_ BK410.out
   have hcz46_1 := bc1_ BK410.out
   have hfz46_0 := blk_frozen BK410.out 0
   have hfz46_1 := blk_frozen BK410.out 1
   go_wp2_with (first | ((with_reducible refine gate_callee (f := 16) rfl ?_); refine goesL_ (some 20) rfl rfl Try.func16 (by kernel_rfl) rfl #[.agg #[.slice A0_0 l0_0.length c0_0, .slice A0_1 l0_1.length c0_1], .agg #[.slice A1_0 l1_0.length c1_0, .slice A1_1 l1_1.length c1_1], .agg #[.slice A2_0 l2_0.length c2_0, .slice A2_1 l2_1.length c2_1]] rfl (by (try simp only [List.map_toArray, List.map_cons, List.map_nil]); first | done | rfl | (simp only [List.length_drop, List.length_take]; rfl)) ?_; (with_reducible refine (scarfjointref06_Injective.calls k _ _ l0_0 _ _ l0_1 _ _ l1_0 _ _ l1_1 _ _ l2_0 _ _ l2_1 false _ ?side1 ?side2 ?side3 ?side4 ?side5 ?side6 ?side7 ?side8 ?side9 ?side10 ?side11 ?side12 A21.out).mono ?_); (case side1 => exact mc_ (Kd.C_below HR0_0.out HB.out)); (case side2 => exact HC0_0.out); (case side3 => exact mc_ (Kd.C_below HR0_1.out HB.out)); (case side4 => exact HC0_1.out); (case side5 => exact mc_ (Kd.C_below HR1_0.out HB.out)); (case side6 => exact HC1_0.out); (case side7 => exact mc_ (Kd.C_below HR1_1.out HB.out)); (case side8 => exact HC1_1.out); (case side9 => exact mc_ (Kd.C_below HR2_0.out HB.out)); (case side10 => exact HC2_0.out); (case side11 => exact mc_ (Kd.C_below HR2_1.out HB.out)); (case side12 => exact HC2_1.out); rintro e w47 ⟨rfl, hb⟩; refine ⟨_, rfl, ?_⟩; replace BK408 := kb_ (bk_ BK408.out) hb; replace BK409 := kb_ (bk_ BK409.out) hb; replace BK410 := kb_ (bk_ BK410.out) hb; replace BK411 := kb_ (bk_ BK411.out) hb; replace HB := Aside0.mk (below_step (mbs_ HB.out) hb); (try clear hb); (try clear hb2); (try clear hk); (try clear hi)))
   go_meet
   case rel => exact ⟨_, (true), (by first | rfl | (simp; done) | (simp [*]; done)), H', ⟨by first | omega | exact Nat.le_refl _⟩, ⟨bk_ BK408.out⟩, ⟨bk_ BK409.out⟩, ⟨bk_ BK410.out⟩, ⟨bk_ BK411.out⟩, ⟨mbs_ HB.out⟩⟩
  case rest =>
   clear HC6
   try clear c1
   try clear c2
   try clear p2
   try clear c3
   try clear c4
   try clear c5
   try clear c5b0
   try clear c5b1
   try clear c11
   try clear c12
   try clear c13
   try clear c14
   try clear c15
   try clear c16
   try clear c18
   try clear c22
   try clear c24
   try clear c25
   try clear c26
   try clear c28
   try clear c29
   try clear c31
   try clear c36
   try clear c38
   try clear c39
   try clear c40
   try clear c42
   try clear c43
   try clear c45
   try clear hcz14_0
   try clear hcz14_1
   try clear hcz17_0
   try clear hcz17_1
   try clear hcz19_0
   try clear hcz19_1
   try clear hcz27_0
   try clear hcz27_1
   try clear hcz30_0
   try clear hcz30_1
   try clear hcz32_0
   try clear hcz32_1
   try clear hcz34_0
   try clear hcz34_1
   try clear hcz35_0
   try clear hcz35_1
   try clear hcz36_0
   try clear hcz36_1
   try clear hcz41_0
   try clear hcz41_1
   try clear hcz44_0
   try clear hcz44_1
   try clear hcz46_0
   try clear hcz46_1
   try clear hfz14_0
   try clear hfz14_1
   try clear hfz17_0
   try clear hfz17_1
   try clear hfz19_0
   try clear hfz19_1
   try clear hfz27_0
   try clear hfz27_1
   try clear hfz30_0
   try clear hfz30_1
   try clear hfz32_0
   try clear hfz32_1
   try clear hfz34_0
   try clear hfz34_1
   try clear hfz35_0
   try clear hfz35_1
   try clear hfz36_0
   try clear hfz36_1
   try clear hfz41_0
   try clear hfz41_1
   try clear hfz44_0
   try clear hfz44_1
   try clear hfz46_0
   try clear hfz46_1
   obtain ⟨kq, x28_5, rfl, HA, HJ5, BK408, BK409, BK410, BK411, HB⟩ := hcut
   cases kq with
   | zero => exact absurd HA.out (by simp [scarfjointref06_Inverse.j0])
   | succ kj5 =>
    have H := HA.out
    clear HA
    simp only [scarfjointref06_Inverse.j0] at H
    by_cases c48 : x28_5 = true
    ·subst c48
     have H1 : (some (([] : List Int), ([] : List Int), 10)) = some (r1, r2, r3) := by rw [if_pos rfl] at H; exact H
     clear H
     have H := H1
     clear H1
     simp only [Option.some.injEq, Prod.mk.injEq] at H
     obtain ⟨rfl, rfl, rfl⟩ := H
     have hnb49 := NB411_408.out
     have hnc49 := NB408_411.out
     have hnb50 := NB411_409.out
     have hnc50 := NB409_411.out
     have hnb51 := NB411_410.out
     have hnc51 := NB410_411.out
     have hcz52_0 := bc0_ BK411.out
     have hcz52_1 := bc1_ BK411.out
     have hfz52_0 := blk_frozen BK411.out 0
     have hfz52_1 := blk_frozen BK411.out 1
     go_wp2
     refine bodyPost_ret (results_ct rfl _ _ gb411 27 #[.slice none 0 0, .slice none 0 0] (0, 0) _ rfl (by (with_reducible repeat (first | refine blk_drewN ?_ _ | refine blk_drew ?_ | refine blk_alloc ?_ _)); refine blk_put (cs := #[.slice none 0 0, .slice none 0 0]) ?_ 1 _ rfl; (with_reducible repeat (first | refine blk_drewN ?_ _ | refine blk_drew ?_ | refine blk_alloc ?_ _)); refine blk_put (cs := #[.slice none 0 0, .slice none 0 0]) ?_ 0 _ rfl; (with_reducible repeat (first | refine blk_drewN ?_ _ | refine blk_drew ?_ | refine blk_alloc ?_ _)); exact BK411.out) Try.underlying27 rfl (by kernel_rfl)) rfl ?_
     exact ⟨_, _, by first | rfl | (simp [errW_none, errW_some] <;> rfl) | (simp [*, errW_none, errW_some] <;> rfl), by first | exact Kd.R_nil _ _ _ _ _ | exact Kd.N_nil _ _ _ _ _ | exact Kd.V_nil _ _ _ _ _ | exact Kd.Q_nil _ _ _ _ _ | exact Kd.S_nil _ _ _ _ _, by first | exact Kd.R_nil _ _ _ _ _ | exact Kd.N_nil _ _ _ _ _ | exact Kd.V_nil _ _ _ _ _ | exact Kd.Q_nil _ _ _ _ _ | exact Kd.S_nil _ _ _ _ _, mbs_ HB.out⟩
    replace c48 := Bool.eq_false_iff.mpr c48
    subst c48
    have H1 : ((scarfjointref06_Back.f kj5 l2_0 (l1_0.length : Int)).bind fun t415 => ((scarfjointref06_Back.f kj5 l2_1 (l1_1.length : Int)).bind fun t418 => (some (t415, t418, 0)))) = some (r1, r2, r3) := by rw [if_neg (show ¬ (false = true) by decide)] at H; exact H
    clear H
    have H := H1
    clear H1
    replace H := Option.bind_eq_some_iff.mp H
    obtain ⟨t415, A530, H⟩ := H
    replace H : ((scarfjointref06_Back.f kj5 l2_1 (l1_1.length : Int)).bind fun t418 => (some (t415, t418, 0))) = some (r1, r2, r3) := H
    have A53 := Aside0.mk A530
    clear A530
    replace H := Option.bind_eq_some_iff.mp H
    obtain ⟨t418, A540, H⟩ := H
    replace H : (some (t415, t418, 0)) = some (r1, r2, r3) := H
    have A54 := Aside0.mk A540
    clear A540
    simp only [Option.some.injEq, Prod.mk.injEq] at H
    obtain ⟨rfl, rfl, rfl⟩ := H
    try go_wp2
    replace BK408 := Aside0.mk (blk_drew BK408.out)
    replace BK409 := Aside0.mk (blk_drew BK409.out)
    replace BK410 := Aside0.mk (blk_drew BK410.out)
    replace BK411 := Aside0.mk (blk_drew BK411.out)
    replace HB := Aside0.mk (below_drew1 HB.out)
    refine start_ (n := 15) (S := fun w' => w'.cell? ⟨gb410, 0, none⟩ = some (.slice A2_0 l2_0.length c2_0) ∧ w'.cell? ⟨gb410, 1, none⟩ = some (.slice A2_1 l2_1.length c2_1) ∧ w'.cell? ⟨gb409, 0, none⟩ = some (.slice A1_0 l1_0.length c1_0) ∧ w'.cell? ⟨gb409, 1, none⟩ = some (.slice A1_1 l1_1.length c1_1)) (ds := []) #[false, false, false, false, false, false, false, false, false, false, false, false, false, false, false] (by kernel_rfl) rfl rfl ⟨(blk_cell BK410.out 0).trans rfl, (blk_cell BK410.out 1).trans rfl, (blk_cell BK409.out 0).trans rfl, (blk_cell BK409.out 1).trans rfl⟩ (fun hHeld => ?_); refine with_tabW scarfjointref06_Inverse.tab6 scarfjointref06_Inverse.bits6 (fun HT_ HW_ => ?_)
    generalize wc.drew = w55 at BK408 BK409 BK410 BK411 HB hHeld ⊢
    refine pw_ (i := 0) (N := some 30) (bm_ 15 1) rfl HT_.out ?_
    refine pw_ (i := 2) (N := some 32) (bm_ 15 5) rfl HT_.out ?_
    refine pw_ (i := 6) (N := some 36) (bm_ 15 69) rfl HT_.out ?_
    refine pw_ (i := 8) (N := some 38) (bm_ 15 325) rfl HT_.out ?_
    refine tw_ (i := 1) (N := some 31) (bm_ 15 327) rfl HT_.out HW_.out hHeld ?_
    refine tw_ (i := 3) (N := some 33) (bm_ 15 335) rfl HT_.out HW_.out hHeld ?_
    refine pw_ (i := 4) (N := some 34) (bm_ 15 351) rfl HT_.out ?_
    refine tw_ (i := 7) (N := some 37) (bm_ 15 479) rfl HT_.out HW_.out hHeld ?_
    refine tw_ (i := 9) (N := some 39) (bm_ 15 991) rfl HT_.out HW_.out hHeld ?_
    refine pw_ (i := 10) (N := some 40) (bm_ 15 2015) rfl HT_.out ?_
    refine one_ (i := 5) (N := some 35) (bm_ 15 2047) rfl rfl (one_of HT_.out (by kernel_rfl)) (by decide) (fun K hK => ?_)
    refine goes_ Try.func58 (by kernel_rfl) rfl #[.slice A2_0 l2_0.length c2_0, .int .i64 (l1_0.length : Int)] (by rfl) rfl rfl (by (try simp only [List.map_toArray, List.map_cons, List.map_nil]); first | done | rfl | (simp only [List.length_drop, List.length_take]; rfl)) ?_
    with_reducible refine (scarfjointref06_Back.calls kj5 _ _ l2_0 (l1_0.length : Int) t415 _ ?side1 ?side2 A53.out).mono ?_
    (case side1 => exact mc_ (Kd.C_below HR2_0.out HB.out))
    (case side2 => exact HC2_0.out)
    rintro e w56 ⟨v416, rfl, ho0, hb⟩
    refine ⟨_, rfl, ?_⟩
    have HO417 := Aside0.mk (Kd.R_lower ho0 (below_size (mbs_ HB.out)))
    replace BK408 := kb_ (bk_ BK408.out) hb
    replace BK409 := kb_ (bk_ BK409.out) hb
    replace BK410 := kb_ (bk_ BK410.out) hb
    replace BK411 := kb_ (bk_ BK411.out) hb
    replace HB := Aside0.mk (below_step (mbs_ HB.out) hb)
    (try clear hb)
    (try clear hb2)
    (try clear hk)
    (try clear hi)
    (try clear ho0)
    refine hK.out _ _ ⟨(blk_cell BK410.out 0).trans rfl, (blk_cell BK410.out 1).trans rfl, (blk_cell BK409.out 0).trans rfl, (blk_cell BK409.out 1).trans rfl⟩ (fun hHeld => ?_)
    clear hK K
    refine norm_ (a' := ?_) ?_ ?_
    rotate_left
    ·show Act.put _ (some 35) _ = _
     simp only [Act.put, List.setIfInBounds_toArray, List.set_cons_zero, List.set_cons_succ, i64_w, i32_w]
     rfl
    refine one_ (i := 11) (N := some 41) (bm_ 15 4095) rfl rfl (one_of HT_.out (by kernel_rfl)) (by decide) (fun K hK => ?_)
    refine goes_ Try.func58 (by kernel_rfl) rfl #[.slice A2_1 l2_1.length c2_1, .int .i64 (l1_1.length : Int)] (by rfl) rfl rfl (by (try simp only [List.map_toArray, List.map_cons, List.map_nil]); first | done | rfl | (simp only [List.length_drop, List.length_take]; rfl)) ?_
    with_reducible refine (scarfjointref06_Back.calls kj5 _ _ l2_1 (l1_1.length : Int) t418 _ ?side1 ?side2 A54.out).mono ?_
    (case side1 => exact mc_ (Kd.C_below HR2_1.out HB.out))
    (case side2 => exact HC2_1.out)
    rintro e w57 ⟨v419, rfl, ho0, hb⟩
    refine ⟨_, rfl, ?_⟩
    have HO420 := Aside0.mk (Kd.R_lower (Kd.R_new' ho0 (Kd.R_lt (mr_ HO417.out))) (below_size (mbs_ HB.out)))
    replace HO417 := Aside0.mk (Kd.R_elder' (mr_ HO417.out) (Kd.R_base ho0) hb)
    replace BK408 := kb_ (bk_ BK408.out) hb
    replace BK409 := kb_ (bk_ BK409.out) hb
    replace BK410 := kb_ (bk_ BK410.out) hb
    replace BK411 := kb_ (bk_ BK411.out) hb
    replace HB := Aside0.mk (below_step (mbs_ HB.out) hb)
    (try clear hb)
    (try clear hb2)
    (try clear hk)
    (try clear hi)
    (try clear ho0)
    obtain ⟨Ao58, co58, eo58⟩ := Kd.R_slice HO420.out
    (first | subst eo58 | (injection eo58 with f1_ f2_ f3_; have f4_ := f1_.symm; have f5_ := f3_.symm; clear f1_ f2_ f3_; subst f4_; subst f5_))
    obtain ⟨Ao59, co59, eo59⟩ := Kd.R_slice HO417.out
    (first | subst eo59 | (injection eo59 with f1_ f2_ f3_; have f4_ := f1_.symm; have f5_ := f3_.symm; clear f1_ f2_ f3_; subst f4_; subst f5_))
    refine hK.out _ _ ⟨(blk_cell BK410.out 0).trans rfl, (blk_cell BK410.out 1).trans rfl, (blk_cell BK409.out 0).trans rfl, (blk_cell BK409.out 1).trans rfl⟩ (fun hHeld => ?_)
    clear hK K
    refine norm_ (a' := ?_) ?_ ?_
    rotate_left
    ·show Act.put _ (some 41) _ = _
     simp only [Act.put, List.setIfInBounds_toArray, List.set_cons_zero, List.set_cons_succ, i64_w, i32_w]
     rfl
    refine pw_ (i := 12) (N := some 42) (bm_ 15 8191) rfl HT_.out ?_
    refine one_ (i := 13) (N := none) (bm_ 15 16383) rfl rfl (one_of HT_.out (by kernel_rfl)) (by decide) (fun K hK => ?_)
    have hs60 : w57.cell? ⟨gb411, 0, none⟩ = some (.slice none 0 0) := (blk_cell BK411.out 0).trans rfl
    have hfs60 := blk_frozen BK411.out 0
    have hns60_0 := NB408_411.out
    have hns60_1 := NB409_411.out
    have hns60_2 := NB410_411.out
    have hms60_0 := NB411_408.out
    have hms60_1 := NB411_409.out
    have hms60_2 := NB411_410.out
    have hs61 : w57.cell? ⟨gb411, 1, none⟩ = some (.slice none 0 0) := (blk_cell BK411.out 1).trans rfl
    have hfs61 := blk_frozen BK411.out 1
    have hns61_0 := NB408_411.out
    have hns61_1 := NB409_411.out
    have hns61_2 := NB410_411.out
    have hms61_0 := NB411_408.out
    have hms61_1 := NB411_409.out
    have hms61_2 := NB411_410.out
    refine skip_ (w1 := ?_) (by rfl) rfl ?_ ?_
    rotate_left
    ·go_simp
     rfl
    refine hK.out _ _ ⟨((cell_far (p := ⟨gb411, _, none⟩) NB410_411.out _).trans (((cell_far (p := ⟨gb411, _, none⟩) NB410_411.out _).trans (hHeld.1)))), ((cell_far (p := ⟨gb411, _, none⟩) NB410_411.out _).trans (((cell_far (p := ⟨gb411, _, none⟩) NB410_411.out _).trans (hHeld.2.1)))), ((cell_far (p := ⟨gb411, _, none⟩) NB409_411.out _).trans (((cell_far (p := ⟨gb411, _, none⟩) NB409_411.out _).trans (hHeld.2.2.1)))), ((cell_far (p := ⟨gb411, _, none⟩) NB409_411.out _).trans (((cell_far (p := ⟨gb411, _, none⟩) NB409_411.out _).trans (hHeld.2.2.2))))⟩ (fun hHeld => ?_)
    clear hK K
    refine pw_ (i := 14) (N := some 7) (bm_ 15 32767) rfl HT_.out ?_
    refine done_ (done_of HT_.out (by kernel_rfl)) ?_
    try go_wp2
    refine bodyPost_ret (results_ct rfl _ _ gb411 27 #[.slice Ao59 t415.length co59, .slice Ao58 t418.length co58] (0, 0) _ rfl (by (with_reducible repeat (first | refine blk_drewN ?_ _ | refine blk_drew ?_ | refine blk_alloc ?_ _)); refine blk_put (cs := #[.slice Ao59 t415.length co59, .slice none 0 0]) ?_ 1 _ rfl; (with_reducible repeat (first | refine blk_drewN ?_ _ | refine blk_drew ?_ | refine blk_alloc ?_ _)); refine blk_put (cs := #[.slice none 0 0, .slice none 0 0]) ?_ 0 _ rfl; (with_reducible repeat (first | refine blk_drewN ?_ _ | refine blk_drew ?_ | refine blk_alloc ?_ _)); exact BK411.out) Try.underlying27 rfl (by kernel_rfl)) rfl ?_
    exact ⟨_, _, by first | rfl | (simp [errW_none, errW_some] <;> rfl) | (simp [*, errW_none, errW_some] <;> rfl), by (with_reducible repeat (first | apply Kd.R_alloc | apply Kd.R_drewN | apply Kd.R_drew)); exact Kd.R_mono (Kd.R_far (p := ⟨gb411, 1, none⟩) (Kd.R_far (p := ⟨gb411, 0, none⟩) (Kd.R_types HO417.out BK411.out (by decide)) (fun _ hk => hk.2) (.slice Ao59 t415.length co59)) (fun _ hk => hk.2) (.slice Ao58 t418.length co58)) (fun _ hk => hk.1.2), by (with_reducible repeat (first | apply Kd.R_alloc | apply Kd.R_drewN | apply Kd.R_drew)); exact Kd.R_mono (Kd.R_far (p := ⟨gb411, 1, none⟩) (Kd.R_far (p := ⟨gb411, 0, none⟩) (Kd.R_types HO420.out BK411.out (by decide)) (fun _ hk => hk.2) (.slice Ao59 t415.length co59)) (fun _ hk => hk.2) (.slice Ao58 t418.length co58)) (fun _ hk => hk.1.2), mbs_ HB.out⟩
 rw [if_neg c5] at H
 have c5b0 : (t412 == 0) = false := beq_eq_false_iff_ne.mpr c5
 have c5b1 : (t412 != 0) = true := bne_iff_ne.mpr c5
 simp only [Option.some.injEq, Prod.mk.injEq] at H
 obtain ⟨rfl, rfl, rfl⟩ := H
 go_enter Try.func36, Try.ntmps36
 go_wp2_with (first | ((with_reducible refine gate_dst (N := 3) rfl ?_); refine box_event ?hg (N := 3) ?hd (cs := #[.slice A0_0 l0_0.length c0_0, .slice A0_1 l0_1.length c0_1]) (t := 25) ?hr ?_; (case hd => rfl); (case hg => rfl); (case hr => first | (go_simp; done) | (go_simp; rfl)); intro gb408 hg w62 hbox hb; have BK408 := Aside0.mk (hbox); have GW408 := Aside0.mk (gw_ hg (mb_ HB.out)); have GE408 := Aside0.mk (gw_ hg (mb_ HB.out)); replace HB := Aside0.mk (below_step (mb_ HB.out) hb); clear hb hbox hg) | ((with_reducible refine gate_dst (N := 4) rfl ?_); refine box_event ?hg (N := 4) ?hd (cs := #[.slice A1_0 l1_0.length c1_0, .slice A1_1 l1_1.length c1_1]) (t := 25) ?hr ?_; (case hd => rfl); (case hg => rfl); (case hr => first | (go_simp; done) | (go_simp; rfl)); intro gb409 hg w63 hbox hb; have BK409 := Aside0.mk (hbox); have GW409 := Aside0.mk (gw_ hg (mbs_ HB.out)); have GE409 := Aside0.mk (gw_ hg (mbs_ HB.out)); replace HB := Aside0.mk (below_step (mbs_ HB.out) hb); have NB408_409 := Aside0.mk (nb_ hg (bk_ BK408.out)); have NB409_408 := Aside0.mk (nc_ hg (bk_ BK408.out)); replace BK408 := kb_ (bk_ BK408.out) hb; clear hb hbox hg) | ((with_reducible refine gate_dst (N := 5) rfl ?_); refine box_event ?hg (N := 5) ?hd (cs := #[.slice A2_0 l2_0.length c2_0, .slice A2_1 l2_1.length c2_1]) (t := 27) ?hr ?_; (case hd => rfl); (case hg => rfl); (case hr => first | (go_simp; done) | (go_simp; rfl)); intro gb410 hg w64 hbox hb; have BK410 := Aside0.mk (hbox); have GW410 := Aside0.mk (gw_ hg (mbs_ HB.out)); have GE410 := Aside0.mk (gw_ hg (mbs_ HB.out)); replace HB := Aside0.mk (below_step (mbs_ HB.out) hb); have NB408_410 := Aside0.mk (nb_ hg (bk_ BK408.out)); have NB410_408 := Aside0.mk (nc_ hg (bk_ BK408.out)); replace BK408 := kb_ (bk_ BK408.out) hb; have NB409_410 := Aside0.mk (nb_ hg (bk_ BK409.out)); have NB410_409 := Aside0.mk (nc_ hg (bk_ BK409.out)); replace BK409 := kb_ (bk_ BK409.out) hb; clear hb hbox hg) | ((with_reducible refine gate_dst (N := 6) rfl ?_); refine box_event ?hg (N := 6) ?hd (cs := #[.slice none 0 0, .slice none 0 0]) (t := 27) ?hr ?_; (case hd => rfl); (case hg => rfl); (case hr => first | (go_simp; done) | (go_simp; rfl)); intro gb411 hg w65 hbox hb; have BK411 := Aside0.mk (hbox); have GW411 := Aside0.mk (gw_ hg (mbs_ HB.out)); have GE411 := Aside0.mk (gw_ hg (mbs_ HB.out)); replace HB := Aside0.mk (below_step (mbs_ HB.out) hb); have NB408_411 := Aside0.mk (nb_ hg (bk_ BK408.out)); have NB411_408 := Aside0.mk (nc_ hg (bk_ BK408.out)); replace BK408 := kb_ (bk_ BK408.out) hb; have NB409_411 := Aside0.mk (nb_ hg (bk_ BK409.out)); have NB411_409 := Aside0.mk (nc_ hg (bk_ BK409.out)); replace BK409 := kb_ (bk_ BK409.out) hb; have NB410_411 := Aside0.mk (nb_ hg (bk_ BK410.out)); have NB411_410 := Aside0.mk (nc_ hg (bk_ BK410.out)); replace BK410 := kb_ (bk_ BK410.out) hb; clear hb hbox hg; have hnb66 := NB408_409.out; have hnc66 := NB409_408.out; have hnb67 := NB408_410.out; have hnc67 := NB410_408.out; have hnb68 := NB408_411.out; have hnc68 := NB411_408.out; have hcz69_0 := bc0_ BK408.out; have hcz69_1 := bc1_ BK408.out; have hfz69_0 := blk_frozen BK408.out 0; have hfz69_1 := blk_frozen BK408.out 1; have hnb70 := NB409_410.out; have hnc70 := NB410_409.out; have hnb71 := NB409_411.out; have hnc71 := NB411_409.out; have hcz72_0 := bc0_ BK409.out; have hcz72_1 := bc1_ BK409.out; have hfz72_0 := blk_frozen BK409.out 0; have hfz72_1 := blk_frozen BK409.out 1; have hnb73 := NB410_411.out; have hnc73 := NB411_410.out; have hcz74_0 := bc0_ BK410.out; have hcz74_1 := bc1_ BK410.out; have hfz74_0 := blk_frozen BK410.out 0; have hfz74_1 := blk_frozen BK410.out 1) | ((with_reducible refine gate_callee (f := 14) rfl ?_); refine goesL_ (some 12) rfl rfl Try.func14 (by kernel_rfl) rfl #[.agg #[.slice A0_0 l0_0.length c0_0, .slice A0_1 l0_1.length c0_1], .agg #[.slice A1_0 l1_0.length c1_0, .slice A1_1 l1_1.length c1_1], .agg #[.slice A2_0 l2_0.length c2_0, .slice A2_1 l2_1.length c2_1]] rfl (by (try simp only [List.map_toArray, List.map_cons, List.map_nil]); first | done | rfl | (simp only [List.length_drop, List.length_take]; rfl)) ?_; (with_reducible refine (scarfjointref06_Valid.calls k _ _ l0_0 _ _ l0_1 _ _ l1_0 _ _ l1_1 _ _ l2_0 _ _ l2_1 t412 _ ?side1 ?side2 ?side3 ?side4 ?side5 ?side6 ?side7 ?side8 ?side9 ?side10 ?side11 ?side12 A4.out).mono ?_); (case side1 => exact mc_ (Kd.C_below HR0_0.out HB.out)); (case side2 => exact HC0_0.out); (case side3 => exact mc_ (Kd.C_below HR0_1.out HB.out)); (case side4 => exact HC0_1.out); (case side5 => exact mc_ (Kd.C_below HR1_0.out HB.out)); (case side6 => exact HC1_0.out); (case side7 => exact mc_ (Kd.C_below HR1_1.out HB.out)); (case side8 => exact HC1_1.out); (case side9 => exact mc_ (Kd.C_below HR2_0.out HB.out)); (case side10 => exact HC2_0.out); (case side11 => exact mc_ (Kd.C_below HR2_1.out HB.out)); (case side12 => exact HC2_1.out); rintro e w75 ⟨rfl, hb⟩; refine ⟨_, rfl, ?_⟩; replace BK408 := kb_ (bk_ BK408.out) hb; replace BK409 := kb_ (bk_ BK409.out) hb; replace BK410 := kb_ (bk_ BK410.out) hb; replace BK411 := kb_ (bk_ BK411.out) hb; replace HB := Aside0.mk (below_step (mbs_ HB.out) hb); (try clear hb); (try clear hb2); (try clear hk); (try clear hi); have hcz76_0 := bc0_ BK411.out; have hcz76_1 := bc1_ BK411.out; have hfz76_0 := blk_frozen BK411.out 0; have hfz76_1 := blk_frozen BK411.out 1))
 refine bodyPost_ret (results_ct rfl _ _ gb411 27 #[.slice none 0 0, .slice none 0 0] (0, 0) _ rfl (by (with_reducible repeat (first | refine blk_drewN ?_ _ | refine blk_drew ?_ | refine blk_alloc ?_ _)); refine blk_put (cs := #[.slice none 0 0, .slice none 0 0]) ?_ 1 _ rfl; (with_reducible repeat (first | refine blk_drewN ?_ _ | refine blk_drew ?_ | refine blk_alloc ?_ _)); refine blk_put (cs := #[.slice none 0 0, .slice none 0 0]) ?_ 0 _ rfl; (with_reducible repeat (first | refine blk_drewN ?_ _ | refine blk_drew ?_ | refine blk_alloc ?_ _)); exact BK411.out) Try.underlying27 rfl (by kernel_rfl)) rfl ?_
 exact ⟨_, _, by first | rfl | (simp [errW_none, errW_some] <;> rfl) | (simp [*, errW_none, errW_some] <;> rfl), by first | exact Kd.R_nil _ _ _ _ _ | exact Kd.N_nil _ _ _ _ _ | exact Kd.V_nil _ _ _ _ _ | exact Kd.Q_nil _ _ _ _ _ | exact Kd.S_nil _ _ _ _ _, by first | exact Kd.R_nil _ _ _ _ _ | exact Kd.N_nil _ _ _ _ _ | exact Kd.V_nil _ _ _ _ _ | exact Kd.Q_nil _ _ _ _ _ | exact Kd.S_nil _ _ _ _ _, mbs_ HB.out⟩

end Go.Proofs.Ytklacpdobpkbbaa.P
