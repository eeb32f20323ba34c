-- Written by wip/drive.py of this session's repo over the kit's print.py (with contracts of the session's own): not the print's own text
import Derived.Test.YtklacpdobpkbbaaPx0
import Derived.Test.YtklacpdobpkbbaaPx6
import Derived.Test.YtklacpdobpkbbaaPx7
import Derived.Test.YtklacpdobpkbbaaPx8
import Derived.Test.YtklacpdobpkbbaaPx13
import Derived.Test.YtklacpdobpkbbaaPx14
import Derived.Test.YtklacpdobpkbbaaPx15
namespace Go.Proofs.Ytklacpdobpkbbaa.P
open Go.RowKit Go.Proofs.YtklacpdobpkbbaaW.PrintWords Go.Proofs.YtklacpdobpkbbaaW.PrintLast Go.Proofs.YtklacpdobpkbbaaW.PrintMore
attribute [local go_sem] max2_int min2_int max_two min_two max_three min_three max_four min_four   -- for this text's walks alone
set_option linter.unusedVariables false
set_option linter.unusedSimpArgs false

/-! ### scarfjointlaw06_MorphismSame: function 5 -/
def scarfjointlaw06_MorphismSame.j0 : Nat → Bool → List Int → List (S65) → List Int → List Int → List Int → List Int → Option (Bool)
 | 0, _, _, _, _, _, _, _ => none
 | k + 1, x27, x348000, x348001, x349000, x349001, x350000, x350001 => if x27 = true then ((scarfjointlaw06_awake.f k).bind fun t354 => (some t354)) else ((morphism_Identity.f k x348000 x348001).bind fun bt355 => ((scarfjointref06_Identity.f k x348000 x348001).bind fun bt363 => (if bt355.2.2 = bt363.2.2 then ((scarfjointref06_Same.f k bt355.1 bt355.2.1 bt363.1 bt363.2.1).bind fun t371 => (if t371 = true then ((morphism_Same.f k x349000 x349001 x350000 x350001).bind fun t372 => ((scarfjointref06_Same.f k x349000 x349001 x350000 x350001).bind fun t373 => (if (t372 == t373) = true then ((scarfjointlaw06_copied.f x349000 x349001).bind fun bt374 => ((morphism_Same.f k x349000 x349001 bt374.1 bt374.2).bind fun t380 => (some t380))) else (some false)))) else (some false))) else (some false))))
def scarfjointlaw06_MorphismSame.f (k : Nat) (l0_0 : List Int) (l0_1 : List (S65)) (l1_0 : List Int) (l1_1 : List Int) (l2_0 : List Int) (l2_1 : List Int) : Option (Bool) := (scarfjointlaw06_awake.f k).bind fun t350 => (if t350 = true then ((scarfjointref05_Few.f l0_0 l0_1).bind fun t351 => (if t351 = true then ((scarfjointref06_Few.f l1_0 l1_1 140).bind fun t352 => (if t352 = true then ((scarfjointref06_Few.f l2_0 l2_1 140).bind fun t353 => (scarfjointlaw06_MorphismSame.j0 k (!t353) l0_0 l0_1 l1_0 l1_1 l2_0 l2_1)) else (scarfjointlaw06_MorphismSame.j0 k true l0_0 l0_1 l1_0 l1_1 l2_0 l2_1))) else (scarfjointlaw06_MorphismSame.j0 k true l0_0 l0_1 l1_0 l1_1 l2_0 l2_1))) else (scarfjointlaw06_MorphismSame.j0 k true l0_0 l0_1 l1_0 l1_1 l2_0 l2_1))
theorem scarfjointlaw06_MorphismSame.mono_l : ∀ k, (∀ y0 y1 y2 y3 y4 y5 y6, LeO (scarfjointlaw06_MorphismSame.j0 k y0 y1 y2 y3 y4 y5 y6) (scarfjointlaw06_MorphismSame.j0 (k + 1) y0 y1 y2 y3 y4 y5 y6))
 | 0 => fun _ _ _ _ _ _ _ r h => by simp [scarfjointlaw06_MorphismSame.j0] at h
 | k + 1 => by
  have ih0 := scarfjointlaw06_MorphismSame.mono_l k
  ·intro y0 y1 y2 y3 y4 y5 y6
   unfold scarfjointlaw06_MorphismSame.j0
   repeat' first
   | (with_reducible exact ih0 _ _ _ _ _ _ _)
   | (with_reducible exact morphism_Identity.mono _ _ _)
   | (with_reducible exact morphism_Same.mono _ _ _ _ _)
   | (with_reducible exact scarfjointlaw06_awake.mono _)
   | (with_reducible exact scarfjointref06_Identity.mono _ _ _)
   | (with_reducible exact scarfjointref06_Same.mono _ _ _ _ _)
   | (with_reducible exact LeO.refl _)
   | (with_reducible exact LeO.none _)
   | (with_reducible refine LeO.ite ?_ ?_)
   | (with_reducible refine LeO.bind ?_ (fun _ => ?_))
   | exact ih0 _ _ _ _ _ _ _
   | exact morphism_Identity.mono _ _ _
   | exact morphism_Same.mono _ _ _ _ _
   | exact scarfjointlaw06_awake.mono _
   | exact scarfjointref06_Identity.mono _ _ _
   | exact scarfjointref06_Same.mono _ _ _ _ _
   | exact LeO.none _
   | refine LeO.ite ?_ ?_
   | refine LeO.bind ?_ (fun _ => ?_)
theorem scarfjointlaw06_MorphismSame.mono : ∀ a0 a1 a2 a3 a4 a5 k, LeO (scarfjointlaw06_MorphismSame.f k a0 a1 a2 a3 a4 a5) (scarfjointlaw06_MorphismSame.f (k + 1) a0 a1 a2 a3 a4 a5) := by
 intro a0 a1 a2 a3 a4 a5 k
 have ih0 := scarfjointlaw06_MorphismSame.mono_l k
 unfold scarfjointlaw06_MorphismSame.f
 repeat' first
   | (with_reducible exact ih0 _ _ _ _ _ _ _)
   | (with_reducible exact morphism_Identity.mono _ _ _)
   | (with_reducible exact morphism_Same.mono _ _ _ _ _)
   | (with_reducible exact scarfjointlaw06_awake.mono _)
   | (with_reducible exact scarfjointref06_Identity.mono _ _ _)
   | (with_reducible exact scarfjointref06_Same.mono _ _ _ _ _)
   | (with_reducible exact LeO.refl _)
   | (with_reducible exact LeO.none _)
   | (with_reducible refine LeO.ite ?_ ?_)
   | (with_reducible refine LeO.bind ?_ (fun _ => ?_))
   | exact ih0 _ _ _ _ _ _ _
   | exact morphism_Identity.mono _ _ _
   | exact morphism_Same.mono _ _ _ _ _
   | exact scarfjointlaw06_awake.mono _
   | exact scarfjointref06_Identity.mono _ _ _
   | exact scarfjointref06_Same.mono _ _ _ _ _
   | exact LeO.none _
   | refine LeO.ite ?_ ?_
   | refine LeO.bind ?_ (fun _ => ?_)
def scarfjointlaw06_MorphismSame.T5 : Bool × List (List Nat × List Nat) := (true, [([], []), ([], []), ([0, 1], [0, 1]), ([2], [2]), ([3], [3]), ([3], [3]), ([4, 5, 3, 3], [3, 4, 5]), ([3, 6], [3, 6]), ([7, 6], [7]), ([8], [8]), ([8], [8]), ([9, 10, 8, 8], [8, 9, 10]), ([8], [8]), ([8], [8]), ([12, 13, 11, 8], [8, 12, 13]), ([11, 14, 8], [8, 11, 14]), ([8, 15], [8, 15]), ([16, 14], [16]), ([17], [17]), ([17], [17]), ([19, 17, 17], [17, 19]), ([18, 20, 20, 17], [17, 18, 20]), ([17, 21], [17, 21]), ([22, 21, 0, 1, 2, 3, 4, 5, 6, 7, 8, 9, 10, 11, 12, 13, 14, 15, 16, 17, 18, 19, 20, 21, 22], [22])])
def scarfjointlaw06_MorphismSame.B5 : List Nat := [0, 0, 3, 7, 15, 15, 63, 127, 255, 511, 511, 2047, 511, 511, 16383, 32767, 65535, 131071, 262143, 262143, 786431, 2097151, 4194303, 8388607]
theorem scarfjointlaw06_MorphismSame.tab5 : rtab .any (opsOf Try.f5 5) = scarfjointlaw06_MorphismSame.T5 := by kernel_rfl
theorem scarfjointlaw06_MorphismSame.bits5 : waitsOk scarfjointlaw06_MorphismSame.T5.2 scarfjointlaw06_MorphismSame.B5 = true := by kernel_rfl
set_option maxHeartbeats 8000000 in
set_option maxRecDepth 100000 in
theorem scarfjointlaw06_MorphismSame.calls (k : Nat) (A0_0 : Option Addr) (c0_0 : Nat) (l0_0 : List Int) (A0_1 : Option Addr) (c0_1 : Nat) (l0_1 : List (S65)) (A1_0 : Option Addr) (c1_0 : Nat) (l1_0 : List Int) (A1_1 : Option Addr) (c1_1 : Nat) (l1_1 : List Int) (A2_0 : Option Addr) (c2_0 : Nat) (l2_0 : List Int) (A2_1 : Option Addr) (c2_1 : Nat) (l2_1 : List Int) (r : Bool) (w : World) (hr0_0 : Kd.C (Kd.int .i64) w A0_0 l0_0.length l0_0) (hc0_0 : l0_0.length ≤ c0_0) (hr0_1 : Kd.C k65 w A0_1 l0_1.length l0_1) (hc0_1 : l0_1.length ≤ c0_1) (hr1_0 : Kd.C (Kd.int .i64) w A1_0 l1_0.length l1_0) (hc1_0 : l1_0.length ≤ c1_0) (hr1_1 : Kd.C (Kd.int .i64) w A1_1 l1_1.length l1_1) (hc1_1 : l1_1.length ≤ c1_1) (hr2_0 : Kd.C (Kd.int .i64) w A2_0 l2_0.length l2_0) (hc2_0 : l2_0.length ≤ c2_0) (hr2_1 : Kd.C (Kd.int .i64) w A2_1 l2_1.length l2_1) (hc2_1 : l2_1.length ≤ c2_1) (h : scarfjointlaw06_MorphismSame.f k l0_0 l0_1 l1_0 l1_1 l2_0 l2_1 = some r) :
  Calls Try.prog 5 #[.agg #[.slice A0_0 l0_0.length c0_0, .slice A0_1 l0_1.length c0_1], .agg #[.slice A1_0 l1_0.length c1_0, .slice A1_1 l1_1.length c1_1], .agg #[.slice A2_0 l2_0.length c2_0, .slice A2_1 l2_1.length c2_1]] w fun e w' => e = .returned (.bool r) ∧ Below w.heap.size w w' := by
 have hu25 := Try.underlying25
 have hu27 := Try.underlying27
 have HR0_0 := Aside0.mk hr0_0
 have HC0_0 := Aside0.mk hc0_0
 clear hr0_0 hc0_0
 have HR0_1 := Aside0.mk hr0_1
 have HC0_1 := Aside0.mk hc0_1
 clear hr0_1 hc0_1
 have HR1_0 := Aside0.mk hr1_0
 have HC1_0 := Aside0.mk hc1_0
 clear hr1_0 hc1_0
 have HR1_1 := Aside0.mk hr1_1
 have HC1_1 := Aside0.mk hc1_1
 clear hr1_1 hc1_1
 have HR2_0 := Aside0.mk hr2_0
 have HC2_0 := Aside0.mk hc2_0
 clear hr2_0 hc2_0
 have HR2_1 := Aside0.mk hr2_1
 have HC2_1 := Aside0.mk hc2_1
 clear hr2_1 hc2_1
 have HB := Aside0.mk (Below.refl w.heap.size w)
 have H : ((scarfjointlaw06_awake.f k).bind fun t350 => (if t350 = true then ((scarfjointref05_Few.f l0_0 l0_1).bind fun t351 => (if t351 = true then ((scarfjointref06_Few.f l1_0 l1_1 140).bind fun t352 => (if t352 = true then ((scarfjointref06_Few.f l2_0 l2_1 140).bind fun t353 => (scarfjointlaw06_MorphismSame.j0 k (!t353) l0_0 l0_1 l1_0 l1_1 l2_0 l2_1)) else (scarfjointlaw06_MorphismSame.j0 k true l0_0 l0_1 l1_0 l1_1 l2_0 l2_1))) else (scarfjointlaw06_MorphismSame.j0 k true l0_0 l0_1 l1_0 l1_1 l2_0 l2_1))) else (scarfjointlaw06_MorphismSame.j0 k true l0_0 l0_1 l1_0 l1_1 l2_0 l2_1))) = some r := h
 clear h
 have HC4 := Aside0.mk H
 clear H
 go_enter Try.func5, Try.ntmps5
 go_upto_region 1 with (first | ((with_reducible refine gate_dst (N := 3) rfl ?_); refine box_event ?hg (N := 3) ?hd (cs := #[.slice A0_0 l0_0.length c0_0, .slice A0_1 l0_1.length c0_1]) (t := 25) ?hr ?_; (case hd => rfl); (case hg => rfl); (case hr => first | (go_simp; done) | (go_simp; rfl)); intro gb347 hg w5 hbox hb; have BK347 := Aside0.mk (hbox); have GW347 := Aside0.mk (gw_ hg (mb_ HB.out)); have GE347 := Aside0.mk (gw_ hg (mb_ HB.out)); replace HB := Aside0.mk (below_step (mb_ HB.out) hb); clear hb hbox hg) | ((with_reducible refine gate_dst (N := 4) rfl ?_); refine box_event ?hg (N := 4) ?hd (cs := #[.slice A1_0 l1_0.length c1_0, .slice A1_1 l1_1.length c1_1]) (t := 27) ?hr ?_; (case hd => rfl); (case hg => rfl); (case hr => first | (go_simp; done) | (go_simp; rfl)); intro gb348 hg w6 hbox hb; have BK348 := Aside0.mk (hbox); have GW348 := Aside0.mk (gw_ hg (mbs_ HB.out)); have GE348 := Aside0.mk (gw_ hg (mbs_ HB.out)); replace HB := Aside0.mk (below_step (mbs_ HB.out) hb); have NB347_348 := Aside0.mk (nb_ hg (bk_ BK347.out)); have NB348_347 := Aside0.mk (nc_ hg (bk_ BK347.out)); replace BK347 := Aside0.mk (blk_below (bk_ BK347.out) hb); clear hb hbox hg) | ((with_reducible refine gate_dst (N := 5) rfl ?_); refine box_event ?hg (N := 5) ?hd (cs := #[.slice A2_0 l2_0.length c2_0, .slice A2_1 l2_1.length c2_1]) (t := 27) ?hr ?_; (case hd => rfl); (case hg => rfl); (case hr => first | (go_simp; done) | (go_simp; rfl)); intro gb349 hg w7 hbox hb; have BK349 := Aside0.mk (hbox); have GW349 := Aside0.mk (gw_ hg (mbs_ HB.out)); have GE349 := Aside0.mk (gw_ hg (mbs_ HB.out)); replace HB := Aside0.mk (below_step (mbs_ HB.out) hb); have NB347_349 := Aside0.mk (nb_ hg (bk_ BK347.out)); have NB349_347 := Aside0.mk (nc_ hg (bk_ BK347.out)); replace BK347 := Aside0.mk (blk_below (bk_ BK347.out) hb); have NB348_349 := Aside0.mk (nb_ hg (bk_ BK348.out)); have NB349_348 := Aside0.mk (nc_ hg (bk_ BK348.out)); replace BK348 := Aside0.mk (blk_below (bk_ BK348.out) hb); clear hb hbox hg))
 (try simp only [Act.put, List.setIfInBounds_toArray, List.set_cons_zero, List.set_cons_succ])
 go_cut [27] (fun v27 wc => ∃ (kq : Nat) (x27_3 : Bool), v27 = .bool x27_3 ∧ Aside0 (scarfjointlaw06_MorphismSame.j0 kq x27_3 l0_0 l0_1 l1_0 l1_1 l2_0 l2_1 = some r) ∧ Aside0 (kq ≤ k) ∧ Aside0 (wc.heap[gb347]? = some (.cells #[(.slice A0_0 l0_0.length c0_0), (.slice A0_1 l0_1.length c0_1)] 25 (0, 0))) ∧ Aside0 (wc.heap[gb348]? = some (.cells #[(.slice A1_0 l1_0.length c1_0), (.slice A1_1 l1_1.length c1_1)] 27 (0, 0))) ∧ Aside0 (wc.heap[gb349]? = some (.cells #[(.slice A2_0 l2_0.length c2_0), (.slice A2_1 l2_1.length c2_1)] 27 (0, 0))) ∧ Aside0 (Below w.heap.size w wc))
 case first =>
  as_aux_lemma =>
  have H := HC4.out
  clear HC4
  replace H := Option.bind_eq_some_iff.mp H
  obtain ⟨t350, A80, H⟩ := H
  replace H : (if t350 = true then ((scarfjointref05_Few.f l0_0 l0_1).bind fun t351 => (if t351 = true then ((scarfjointref06_Few.f l1_0 l1_1 140).bind fun t352 => (if t352 = true then ((scarfjointref06_Few.f l2_0 l2_1 140).bind fun t353 => (scarfjointlaw06_MorphismSame.j0 k (!t353) l0_0 l0_1 l1_0 l1_1 l2_0 l2_1)) else (scarfjointlaw06_MorphismSame.j0 k true l0_0 l0_1 l1_0 l1_1 l2_0 l2_1))) else (scarfjointlaw06_MorphismSame.j0 k true l0_0 l0_1 l1_0 l1_1 l2_0 l2_1))) else (scarfjointlaw06_MorphismSame.j0 k true l0_0 l0_1 l1_0 l1_1 l2_0 l2_1)) = some r := H
  have A8 := Aside0.mk A80
  clear A80
  by_cases c9 : t350 = true
  ·subst c9
   have H1 : ((scarfjointref05_Few.f l0_0 l0_1).bind fun t351 => (if t351 = true then ((scarfjointref06_Few.f l1_0 l1_1 140).bind fun t352 => (if t352 = true then ((scarfjointref06_Few.f l2_0 l2_1 140).bind fun t353 => (scarfjointlaw06_MorphismSame.j0 k (!t353) l0_0 l0_1 l1_0 l1_1 l2_0 l2_1)) else (scarfjointlaw06_MorphismSame.j0 k true l0_0 l0_1 l1_0 l1_1 l2_0 l2_1))) else (scarfjointlaw06_MorphismSame.j0 k true l0_0 l0_1 l1_0 l1_1 l2_0 l2_1))) = some r := by rw [if_pos rfl] at H; exact H
   clear H
   have H := H1
   clear H1
   replace H := Option.bind_eq_some_iff.mp H
   obtain ⟨t351, A100, H⟩ := H
   replace H : (if t351 = true then ((scarfjointref06_Few.f l1_0 l1_1 140).bind fun t352 => (if t352 = true then ((scarfjointref06_Few.f l2_0 l2_1 140).bind fun t353 => (scarfjointlaw06_MorphismSame.j0 k (!t353) l0_0 l0_1 l1_0 l1_1 l2_0 l2_1)) else (scarfjointlaw06_MorphismSame.j0 k true l0_0 l0_1 l1_0 l1_1 l2_0 l2_1))) else (scarfjointlaw06_MorphismSame.j0 k true l0_0 l0_1 l1_0 l1_1 l2_0 l2_1)) = some r := H
   have A10 := Aside0.mk A100
   clear A100
   by_cases c11 : t351 = true
   ·subst c11
    have H1 : ((scarfjointref06_Few.f l1_0 l1_1 140).bind fun t352 => (if t352 = true then ((scarfjointref06_Few.f l2_0 l2_1 140).bind fun t353 => (scarfjointlaw06_MorphismSame.j0 k (!t353) l0_0 l0_1 l1_0 l1_1 l2_0 l2_1)) else (scarfjointlaw06_MorphismSame.j0 k true l0_0 l0_1 l1_0 l1_1 l2_0 l2_1))) = some r := by rw [if_pos rfl] at H; exact H
    clear H
    have H := H1
    clear H1
    replace H := Option.bind_eq_some_iff.mp H
    obtain ⟨t352, A120, H⟩ := H
    replace H : (if t352 = true then ((scarfjointref06_Few.f l2_0 l2_1 140).bind fun t353 => (scarfjointlaw06_MorphismSame.j0 k (!t353) l0_0 l0_1 l1_0 l1_1 l2_0 l2_1)) else (scarfjointlaw06_MorphismSame.j0 k true l0_0 l0_1 l1_0 l1_1 l2_0 l2_1)) = some r := H
    have A12 := Aside0.mk A120
    clear A120
    by_cases c13 : t352 = true
    ·subst c13
     have H1 : ((scarfjointref06_Few.f l2_0 l2_1 140).bind fun t353 => (scarfjointlaw06_MorphismSame.j0 k (!t353) l0_0 l0_1 l1_0 l1_1 l2_0 l2_1)) = some r := by rw [if_pos rfl] at H; exact H
     clear H
     have H := H1
     clear H1
     replace H := Option.bind_eq_some_iff.mp H
     obtain ⟨t353, A140, H⟩ := H
     replace H : (scarfjointlaw06_MorphismSame.j0 k (!t353) l0_0 l0_1 l1_0 l1_1 l2_0 l2_1) = some r := H
     have A14 := Aside0.mk A140
     clear A140
     have H' := Aside0.mk H
     clear H
     go_wp2_with (first | ((with_reducible refine gate_callee (f := 10) rfl ?_); refine goesL_ (some 11) rfl rfl Try.func10 (by kernel_rfl) rfl #[] rfl (by (try simp only [List.map_toArray, List.map_cons, List.map_nil]); first | done | rfl | (simp only [List.length_drop, List.length_take]; rfl)) ?_; (with_reducible refine (scarfjointlaw06_awake.calls k  true _ A8.out).mono ?_); rintro e w15 ⟨rfl, hb⟩; refine ⟨_, rfl, ?_⟩; replace BK347 := Aside0.mk (blk_below (bk_ BK347.out) hb); replace BK348 := Aside0.mk (blk_below (bk_ BK348.out) hb); replace BK349 := Aside0.mk (blk_below (bk_ BK349.out) hb); replace HB := Aside0.mk (below_step (mbs_ HB.out) hb); (try clear hb); (try clear hb2); (try clear hk); (try clear hi); have hnb16 := NB347_348.out; have hnc16 := NB348_347.out; have hnb17 := NB347_349.out; have hnc17 := NB349_347.out; have hcz18_0 := bc0_ BK347.out; have hcz18_1 := bc1_ BK347.out; have hfz18_0 := blk_frozen BK347.out 0; have hfz18_1 := blk_frozen BK347.out 1) | (go_at_call 23; (with_reducible refine (scarfjointref05_Few.calls _ _ l0_0 _ _ l0_1 true _ ?side1 ?side2 ?side3 ?side4 A10.out).mono ?_); (case side1 => exact mc_ (Kd.C_below HR0_0.out HB.out)); (case side2 => exact HC0_0.out); (case side3 => exact mc_ (Kd.C_below HR0_1.out HB.out)); (case side4 => exact HC0_1.out); rintro e w19 ⟨rfl, hb⟩; replace BK347 := Aside0.mk (blk_below (bk_ BK347.out) hb); replace BK348 := Aside0.mk (blk_below (bk_ BK348.out) hb); replace BK349 := Aside0.mk (blk_below (bk_ BK349.out) hb); replace HB := Aside0.mk (below_step (mbs_ HB.out) hb); (try clear hb); (try clear hb2); (try clear hk); (try clear hi); have hnb20 := NB348_349.out; have hnc20 := NB349_348.out; have hcz21_0 := bc0_ BK348.out; have hcz21_1 := bc1_ BK348.out; have hfz21_0 := blk_frozen BK348.out 0; have hfz21_1 := blk_frozen BK348.out 1) | (go_at_call 24; (with_reducible refine (scarfjointref06_Few.calls _ _ l1_0 _ _ l1_1 140 true _ ?side1 ?side2 ?side3 ?side4 A12.out).mono ?_); (case side1 => exact mc_ (Kd.C_below HR1_0.out HB.out)); (case side2 => exact HC1_0.out); (case side3 => exact mc_ (Kd.C_below HR1_1.out HB.out)); (case side4 => exact HC1_1.out); rintro e w22 ⟨rfl, hb⟩; replace BK347 := Aside0.mk (blk_below (bk_ BK347.out) hb); replace BK348 := Aside0.mk (blk_below (bk_ BK348.out) hb); replace BK349 := Aside0.mk (blk_below (bk_ BK349.out) hb); replace HB := Aside0.mk (below_step (mbs_ HB.out) hb); (try clear hb); (try clear hb2); (try clear hk); (try clear hi); have hcz23_0 := bc0_ BK349.out; have hcz23_1 := bc1_ BK349.out; have hfz23_0 := blk_frozen BK349.out 0; have hfz23_1 := blk_frozen BK349.out 1) | (go_at_call 24; (with_reducible refine (scarfjointref06_Few.calls _ _ l2_0 _ _ l2_1 140 t353 _ ?side1 ?side2 ?side3 ?side4 A14.out).mono ?_); (case side1 => exact mc_ (Kd.C_below HR2_0.out HB.out)); (case side2 => exact HC2_0.out); (case side3 => exact mc_ (Kd.C_below HR2_1.out HB.out)); (case side4 => exact HC2_1.out); rintro e w24 ⟨rfl, hb⟩; replace BK347 := Aside0.mk (blk_below (bk_ BK347.out) hb); replace BK348 := Aside0.mk (blk_below (bk_ BK348.out) hb); replace BK349 := Aside0.mk (blk_below (bk_ BK349.out) hb); replace HB := Aside0.mk (below_step (mbs_ HB.out) hb); (try clear hb); (try clear hb2); (try clear hk); (try clear hi)))
     go_meet
     case rel => exact ⟨_, (!t353), (by first | rfl | (simp; done) | (simp [*]; done)), H', ⟨by first | omega | exact Nat.le_refl _⟩, ⟨bk_ BK347.out⟩, ⟨bk_ BK348.out⟩, ⟨bk_ BK349.out⟩, ⟨mbs_ HB.out⟩⟩
    ·replace c13 := Bool.eq_false_iff.mpr c13
     subst c13
     have H1 : (scarfjointlaw06_MorphismSame.j0 k true l0_0 l0_1 l1_0 l1_1 l2_0 l2_1) = some r := by rw [if_neg (show ¬ (false = true) by decide)] at H; exact H
     clear H
     have H := H1
     clear H1
     have H' := Aside0.mk H
     clear H
     go_wp2_with (first | ((with_reducible refine gate_callee (f := 10) rfl ?_); refine goesL_ (some 11) rfl rfl Try.func10 (by kernel_rfl) rfl #[] rfl (by (try simp only [List.map_toArray, List.map_cons, List.map_nil]); first | done | rfl | (simp only [List.length_drop, List.length_take]; rfl)) ?_; (with_reducible refine (scarfjointlaw06_awake.calls k  true _ A8.out).mono ?_); rintro e w25 ⟨rfl, hb⟩; refine ⟨_, rfl, ?_⟩; replace BK347 := Aside0.mk (blk_below (bk_ BK347.out) hb); replace BK348 := Aside0.mk (blk_below (bk_ BK348.out) hb); replace BK349 := Aside0.mk (blk_below (bk_ BK349.out) hb); replace HB := Aside0.mk (below_step (mbs_ HB.out) hb); (try clear hb); (try clear hb2); (try clear hk); (try clear hi); have hnb26 := NB347_348.out; have hnc26 := NB348_347.out; have hnb27 := NB347_349.out; have hnc27 := NB349_347.out; have hcz28_0 := bc0_ BK347.out; have hcz28_1 := bc1_ BK347.out; have hfz28_0 := blk_frozen BK347.out 0; have hfz28_1 := blk_frozen BK347.out 1) | (go_at_call 23; (with_reducible refine (scarfjointref05_Few.calls _ _ l0_0 _ _ l0_1 true _ ?side1 ?side2 ?side3 ?side4 A10.out).mono ?_); (case side1 => exact mc_ (Kd.C_below HR0_0.out HB.out)); (case side2 => exact HC0_0.out); (case side3 => exact mc_ (Kd.C_below HR0_1.out HB.out)); (case side4 => exact HC0_1.out); rintro e w29 ⟨rfl, hb⟩; replace BK347 := Aside0.mk (blk_below (bk_ BK347.out) hb); replace BK348 := Aside0.mk (blk_below (bk_ BK348.out) hb); replace BK349 := Aside0.mk (blk_below (bk_ BK349.out) hb); replace HB := Aside0.mk (below_step (mbs_ HB.out) hb); (try clear hb); (try clear hb2); (try clear hk); (try clear hi); have hnb30 := NB348_349.out; have hnc30 := NB349_348.out; have hcz31_0 := bc0_ BK348.out; have hcz31_1 := bc1_ BK348.out; have hfz31_0 := blk_frozen BK348.out 0; have hfz31_1 := blk_frozen BK348.out 1) | (go_at_call 24; (with_reducible refine (scarfjointref06_Few.calls _ _ l1_0 _ _ l1_1 140 false _ ?side1 ?side2 ?side3 ?side4 A12.out).mono ?_); (case side1 => exact mc_ (Kd.C_below HR1_0.out HB.out)); (case side2 => exact HC1_0.out); (case side3 => exact mc_ (Kd.C_below HR1_1.out HB.out)); (case side4 => exact HC1_1.out); rintro e w32 ⟨rfl, hb⟩; replace BK347 := Aside0.mk (blk_below (bk_ BK347.out) hb); replace BK348 := Aside0.mk (blk_below (bk_ BK348.out) hb); replace BK349 := Aside0.mk (blk_below (bk_ BK349.out) hb); replace HB := Aside0.mk (below_step (mbs_ HB.out) hb); (try clear hb); (try clear hb2); (try clear hk); (try clear hi)))
     go_meet
     case rel => exact ⟨_, (true), (by first | rfl | (simp; done) | (simp [*]; done)), H', ⟨by first | omega | exact Nat.le_refl _⟩, ⟨bk_ BK347.out⟩, ⟨bk_ BK348.out⟩, ⟨bk_ BK349.out⟩, ⟨mbs_ HB.out⟩⟩
   ·replace c11 := Bool.eq_false_iff.mpr c11
    subst c11
    have H1 : (scarfjointlaw06_MorphismSame.j0 k true l0_0 l0_1 l1_0 l1_1 l2_0 l2_1) = some r := by rw [if_neg (show ¬ (false = true) by decide)] at H; exact H
    clear H
    have H := H1
    clear H1
    have H' := Aside0.mk H
    clear H
    go_wp2_with (first | ((with_reducible refine gate_callee (f := 10) rfl ?_); refine goesL_ (some 11) rfl rfl Try.func10 (by kernel_rfl) rfl #[] rfl (by (try simp only [List.map_toArray, List.map_cons, List.map_nil]); first | done | rfl | (simp only [List.length_drop, List.length_take]; rfl)) ?_; (with_reducible refine (scarfjointlaw06_awake.calls k  true _ A8.out).mono ?_); rintro e w33 ⟨rfl, hb⟩; refine ⟨_, rfl, ?_⟩; replace BK347 := Aside0.mk (blk_below (bk_ BK347.out) hb); replace BK348 := Aside0.mk (blk_below (bk_ BK348.out) hb); replace BK349 := Aside0.mk (blk_below (bk_ BK349.out) hb); replace HB := Aside0.mk (below_step (mbs_ HB.out) hb); (try clear hb); (try clear hb2); (try clear hk); (try clear hi); have hnb34 := NB347_348.out; have hnc34 := NB348_347.out; have hnb35 := NB347_349.out; have hnc35 := NB349_347.out; have hcz36_0 := bc0_ BK347.out; have hcz36_1 := bc1_ BK347.out; have hfz36_0 := blk_frozen BK347.out 0; have hfz36_1 := blk_frozen BK347.out 1) | (go_at_call 23; (with_reducible refine (scarfjointref05_Few.calls _ _ l0_0 _ _ l0_1 false _ ?side1 ?side2 ?side3 ?side4 A10.out).mono ?_); (case side1 => exact mc_ (Kd.C_below HR0_0.out HB.out)); (case side2 => exact HC0_0.out); (case side3 => exact mc_ (Kd.C_below HR0_1.out HB.out)); (case side4 => exact HC0_1.out); rintro e w37 ⟨rfl, hb⟩; replace BK347 := Aside0.mk (blk_below (bk_ BK347.out) hb); replace BK348 := Aside0.mk (blk_below (bk_ BK348.out) hb); replace BK349 := Aside0.mk (blk_below (bk_ BK349.out) hb); replace HB := Aside0.mk (below_step (mbs_ HB.out) hb); (try clear hb); (try clear hb2); (try clear hk); (try clear hi)))
    go_meet
    case rel => exact ⟨_, (true), (by first | rfl | (simp; done) | (simp [*]; done)), H', ⟨by first | omega | exact Nat.le_refl _⟩, ⟨bk_ BK347.out⟩, ⟨bk_ BK348.out⟩, ⟨bk_ BK349.out⟩, ⟨mbs_ HB.out⟩⟩
  ·replace c9 := Bool.eq_false_iff.mpr c9
   subst c9
   have H1 : (scarfjointlaw06_MorphismSame.j0 k true l0_0 l0_1 l1_0 l1_1 l2_0 l2_1) = some r := by rw [if_neg (show ¬ (false = true) by decide)] at H; exact H
   clear H
   have H := H1
   clear H1
   have H' := Aside0.mk H
   clear H
   go_wp2_with (first | ((with_reducible refine gate_callee (f := 10) rfl ?_); refine goesL_ (some 11) rfl rfl Try.func10 (by kernel_rfl) rfl #[] rfl (by (try simp only [List.map_toArray, List.map_cons, List.map_nil]); first | done | rfl | (simp only [List.length_drop, List.length_take]; rfl)) ?_; (with_reducible refine (scarfjointlaw06_awake.calls k  false _ A8.out).mono ?_); rintro e w38 ⟨rfl, hb⟩; refine ⟨_, rfl, ?_⟩; replace BK347 := Aside0.mk (blk_below (bk_ BK347.out) hb); replace BK348 := Aside0.mk (blk_below (bk_ BK348.out) hb); replace BK349 := Aside0.mk (blk_below (bk_ BK349.out) hb); replace HB := Aside0.mk (below_step (mbs_ HB.out) hb); (try clear hb); (try clear hb2); (try clear hk); (try clear hi)))
   go_meet
   case rel => exact ⟨_, (true), (by first | rfl | (simp; done) | (simp [*]; done)), H', ⟨by first | omega | exact Nat.le_refl _⟩, ⟨bk_ BK347.out⟩, ⟨bk_ BK348.out⟩, ⟨bk_ BK349.out⟩, ⟨mbs_ HB.out⟩⟩
 case rest =>
  as_aux_lemma =>
  clear HC4
  try clear c1
  try clear c2
  try clear p2
  try clear c3
  try clear c5
  try clear c9
  try clear c10
  try clear c11
  try clear c13
  try clear c16
  try clear c17
  try clear c20
  try clear c26
  try clear c27
  try clear c30
  try clear c34
  try clear c35
  try clear hcz18_0
  try clear hcz18_1
  try clear hcz21_0
  try clear hcz21_1
  try clear hcz23_0
  try clear hcz23_1
  try clear hcz28_0
  try clear hcz28_1
  try clear hcz31_0
  try clear hcz31_1
  try clear hcz36_0
  try clear hcz36_1
  try clear hfz18_0
  try clear hfz18_1
  try clear hfz21_0
  try clear hfz21_1
  try clear hfz23_0
  try clear hfz23_1
  try clear hfz28_0
  try clear hfz28_1
  try clear hfz31_0
  try clear hfz31_1
  try clear hfz36_0
  try clear hfz36_1
  obtain ⟨kq, x27_3, rfl, HA, HJ3, BK347, BK348, BK349, HB⟩ := hcut
  cases kq with
  | zero => exact absurd HA.out (by simp [scarfjointlaw06_MorphismSame.j0])
  | succ kj3 =>
   have H := HA.out
   clear HA
   simp only [scarfjointlaw06_MorphismSame.j0] at H
   by_cases c39 : x27_3 = true
   ·subst c39
    have H1 : ((scarfjointlaw06_awake.f kj3).bind fun t354 => (some t354)) = some r := by rw [if_pos rfl] at H; exact H
    clear H
    have H := H1
    clear H1
    replace H := Option.bind_eq_some_iff.mp H
    obtain ⟨t354, A400, H⟩ := H
    replace H : (some t354) = some r := H
    have A40 := Aside0.mk A400
    clear A400
    obtain rfl := Option.some.inj H
    go_wp2_with (first | ((with_reducible refine gate_callee (f := 10) rfl ?_); refine goesL_ (some 28) rfl rfl Try.func10 (by kernel_rfl) rfl #[] rfl (by (try simp only [List.map_toArray, List.map_cons, List.map_nil]); first | done | rfl | (simp only [List.length_drop, List.length_take]; rfl)) ?_; (with_reducible refine (scarfjointlaw06_awake.calls kj3  t354 _ A40.out).mono ?_); rintro e w41 ⟨rfl, hb⟩; refine ⟨_, rfl, ?_⟩; replace BK347 := Aside0.mk (blk_below (bk_ BK347.out) hb); replace BK348 := Aside0.mk (blk_below (bk_ BK348.out) hb); replace BK349 := Aside0.mk (blk_below (bk_ BK349.out) hb); replace HB := Aside0.mk (below_step (mbs_ HB.out) hb); (try clear hb); (try clear hb2); (try clear hk); (try clear hi)))
    go_ret
    exact ⟨by first | rfl | (simp [errW_none, errW_some] <;> rfl) | (simp [*, errW_none, errW_some] <;> rfl), mbs_ HB.out⟩
   ·replace c39 := Bool.eq_false_iff.mpr c39
    subst c39
    have H1 : ((morphism_Identity.f kj3 l0_0 l0_1).bind fun bt355 => ((scarfjointref06_Identity.f kj3 l0_0 l0_1).bind fun bt363 => (if bt355.2.2 = bt363.2.2 then ((scarfjointref06_Same.f kj3 bt355.1 bt355.2.1 bt363.1 bt363.2.1).bind fun t371 => (if t371 = true then ((morphism_Same.f kj3 l1_0 l1_1 l2_0 l2_1).bind fun t372 => ((scarfjointref06_Same.f kj3 l1_0 l1_1 l2_0 l2_1).bind fun t373 => (if (t372 == t373) = true then ((scarfjointlaw06_copied.f l1_0 l1_1).bind fun bt374 => ((morphism_Same.f kj3 l1_0 l1_1 bt374.1 bt374.2).bind fun t380 => (some t380))) else (some false)))) else (some false))) else (some false)))) = some r := by rw [if_neg (show ¬ (false = true) by decide)] at H; exact H
    clear H
    have H := H1
    clear H1
    replace H := Option.bind_eq_some_iff.mp H
    obtain ⟨⟨t355, t358, t361⟩, A420, H⟩ := H
    replace H : ((scarfjointref06_Identity.f kj3 l0_0 l0_1).bind fun bt363 => (if t361 = bt363.2.2 then ((scarfjointref06_Same.f kj3 t355 t358 bt363.1 bt363.2.1).bind fun t371 => (if t371 = true then ((morphism_Same.f kj3 l1_0 l1_1 l2_0 l2_1).bind fun t372 => ((scarfjointref06_Same.f kj3 l1_0 l1_1 l2_0 l2_1).bind fun t373 => (if (t372 == t373) = true then ((scarfjointlaw06_copied.f l1_0 l1_1).bind fun bt374 => ((morphism_Same.f kj3 l1_0 l1_1 bt374.1 bt374.2).bind fun t380 => (some t380))) else (some false)))) else (some false))) else (some false))) = some r := H
    have A42 := Aside0.mk A420
    clear A420
    replace H := Option.bind_eq_some_iff.mp H
    obtain ⟨⟨t363, t366, t369⟩, A430, H⟩ := H
    replace H : (if t361 = t369 then ((scarfjointref06_Same.f kj3 t355 t358 t363 t366).bind fun t371 => (if t371 = true then ((morphism_Same.f kj3 l1_0 l1_1 l2_0 l2_1).bind fun t372 => ((scarfjointref06_Same.f kj3 l1_0 l1_1 l2_0 l2_1).bind fun t373 => (if (t372 == t373) = true then ((scarfjointlaw06_copied.f l1_0 l1_1).bind fun bt374 => ((morphism_Same.f kj3 l1_0 l1_1 bt374.1 bt374.2).bind fun t380 => (some t380))) else (some false)))) else (some false))) else (some false)) = some r := H
    have A43 := Aside0.mk A430
    clear A430
    by_cases c44 : t361 = t369
    ·rw [if_pos c44] at H
     have c44b0 : (t361 == t369) = true := beq_iff_eq.mpr c44
     have c44b1 : (t361 != t369) = false := bne_eq_false_iff_eq.mpr c44
     clear c44
     replace H := Option.bind_eq_some_iff.mp H
     obtain ⟨t371, A450, H⟩ := H
     replace H : (if t371 = true then ((morphism_Same.f kj3 l1_0 l1_1 l2_0 l2_1).bind fun t372 => ((scarfjointref06_Same.f kj3 l1_0 l1_1 l2_0 l2_1).bind fun t373 => (if (t372 == t373) = true then ((scarfjointlaw06_copied.f l1_0 l1_1).bind fun bt374 => ((morphism_Same.f kj3 l1_0 l1_1 bt374.1 bt374.2).bind fun t380 => (some t380))) else (some false)))) else (some false)) = some r := H
     have A45 := Aside0.mk A450
     clear A450
     by_cases c46 : t371 = true
     ·subst c46
      have H1 : ((morphism_Same.f kj3 l1_0 l1_1 l2_0 l2_1).bind fun t372 => ((scarfjointref06_Same.f kj3 l1_0 l1_1 l2_0 l2_1).bind fun t373 => (if (t372 == t373) = true then ((scarfjointlaw06_copied.f l1_0 l1_1).bind fun bt374 => ((morphism_Same.f kj3 l1_0 l1_1 bt374.1 bt374.2).bind fun t380 => (some t380))) else (some false)))) = some r := by rw [if_pos rfl] at H; exact H
      clear H
      have H := H1
      clear H1
      replace H := Option.bind_eq_some_iff.mp H
      obtain ⟨t372, A470, H⟩ := H
      replace H : ((scarfjointref06_Same.f kj3 l1_0 l1_1 l2_0 l2_1).bind fun t373 => (if (t372 == t373) = true then ((scarfjointlaw06_copied.f l1_0 l1_1).bind fun bt374 => ((morphism_Same.f kj3 l1_0 l1_1 bt374.1 bt374.2).bind fun t380 => (some t380))) else (some false))) = some r := H
      have A47 := Aside0.mk A470
      clear A470
      replace H := Option.bind_eq_some_iff.mp H
      obtain ⟨t373, A480, H⟩ := H
      replace H : (if (t372 == t373) = true then ((scarfjointlaw06_copied.f l1_0 l1_1).bind fun bt374 => ((morphism_Same.f kj3 l1_0 l1_1 bt374.1 bt374.2).bind fun t380 => (some t380))) else (some false)) = some r := H
      have A48 := Aside0.mk A480
      clear A480
      by_cases c49 : (t372 == t373) = true
      ·rw [if_pos c49] at H
       have c49b0 : (t372 == t373) = true := c49
       (try (have c49b1 : decide (t372 = t373) = true := by simpa using c49))
       (try (have c49b2 : (t372 == t373) = true := by simpa using c49))
       clear c49
       replace H := Option.bind_eq_some_iff.mp H
       obtain ⟨⟨t374, t377⟩, A500, H⟩ := H
       replace H : ((morphism_Same.f kj3 l1_0 l1_1 t374 t377).bind fun t380 => (some t380)) = some r := H
       have A50 := Aside0.mk A500
       clear A500
       replace H := Option.bind_eq_some_iff.mp H
       obtain ⟨t380, A510, H⟩ := H
       replace H : (some t380) = some r := H
       have A51 := Aside0.mk A510
       clear A510
       obtain rfl := Option.some.inj H
       have hnb52 := NB347_348.out
       have hnc52 := NB348_347.out
       have hnb53 := NB347_349.out
       have hnc53 := NB349_347.out
       have hcz54_0 := bc0_ BK347.out
       have hcz54_1 := bc1_ BK347.out
       have hfz54_0 := blk_frozen BK347.out 0
       have hfz54_1 := blk_frozen BK347.out 1
       try go_wp2_with (first | ((with_reducible refine gate_callee (f := 25) rfl ?_); refine goesL_ (some 31) rfl rfl Try.func25 (by kernel_rfl) rfl #[.agg #[.slice A0_0 l0_0.length c0_0, .slice A0_1 l0_1.length c0_1]] rfl (by (try simp only [List.map_toArray, List.map_cons, List.map_nil]); first | done | rfl | (simp only [List.length_drop, List.length_take]; rfl)) ?_; (with_reducible refine (morphism_Identity.calls kj3 _ _ l0_0 _ _ l0_1 t355 t358 t361 _ ?side1 ?side2 ?side3 ?side4 A42.out).mono ?_); (case side1 => exact mc_ (Kd.C_below HR0_0.out HB.out)); (case side2 => exact HC0_0.out); (case side3 => exact mc_ (Kd.C_below HR0_1.out HB.out)); (case side4 => exact HC0_1.out); rintro e w55 ⟨v356, v359, rfl, ho0, ho1, hb⟩; refine ⟨_, rfl, ?_⟩; have HO357 := Aside0.mk (Kd.R_lower ho0 (below_size (mbs_ HB.out))); have HO360 := Aside0.mk (Kd.R_lower ho1 (below_size (mbs_ HB.out))); replace BK347 := Aside0.mk (blk_below (bk_ BK347.out) hb); replace BK348 := Aside0.mk (blk_below (bk_ BK348.out) hb); replace BK349 := Aside0.mk (blk_below (bk_ BK349.out) hb); replace HB := Aside0.mk (below_step (mbs_ HB.out) hb); (try clear hb); (try clear hb2); (try clear hk); (try clear hi); (try clear ho0); (try clear ho1)) | ((with_reducible refine gate_dst (N := 7) rfl ?_); refine box_event ?hg (N := 7) ?hd (cs := #[.slice none 0 0, .slice none 0 0]) (t := 27) ?hr ?_; (case hd => rfl); (case hg => rfl); (case hr => first | (go_simp; done) | (go_simp; rfl)); intro gb362 hg w56 hbox hb; replace HO357 := Aside0.mk (Kd.R_below (mr_ HO357.out) hb); replace HO360 := Aside0.mk (Kd.R_below (mr_ HO360.out) hb); have BK362 := Aside0.mk (hbox); have GW362 := Aside0.mk (gw_ hg (mbs_ HB.out)); have GE362 := Aside0.mk (gw_ hg (mbs_ HB.out)); replace HB := Aside0.mk (below_step (mbs_ HB.out) hb); have NB347_362 := Aside0.mk (nb_ hg (bk_ BK347.out)); have NB362_347 := Aside0.mk (nc_ hg (bk_ BK347.out)); replace BK347 := Aside0.mk (blk_below (bk_ BK347.out) hb); have NB348_362 := Aside0.mk (nb_ hg (bk_ BK348.out)); have NB362_348 := Aside0.mk (nc_ hg (bk_ BK348.out)); replace BK348 := Aside0.mk (blk_below (bk_ BK348.out) hb); have NB349_362 := Aside0.mk (nb_ hg (bk_ BK349.out)); have NB362_349 := Aside0.mk (nc_ hg (bk_ BK349.out)); replace BK349 := Aside0.mk (blk_below (bk_ BK349.out) hb); clear hb hbox hg; obtain ⟨Ao57, co57, eo57⟩ := Kd.R_slice HO357.out; subst eo57; have hnb58 := NB362_347.out; have hnc58 := NB347_362.out; have hnb59 := NB362_348.out; have hnc59 := NB348_362.out; have hnb60 := NB362_349.out; have hnc60 := NB349_362.out; have hcz61_0 := bc0_ BK362.out; have hcz61_1 := bc1_ BK362.out; have hfz61_0 := blk_frozen BK362.out 0; have hfz61_1 := blk_frozen BK362.out 1; obtain ⟨Ao62, co62, eo62⟩ := Kd.R_slice HO360.out; subst eo62; have hcz63_0 := bc0_ BK347.out; have hcz63_1 := bc1_ BK347.out; have hfz63_0 := blk_frozen BK347.out 0; have hfz63_1 := blk_frozen BK347.out 1) | ((with_reducible refine gate_callee (f := 26) rfl ?_); refine goesL_ (some 36) rfl rfl Try.func26 (by kernel_rfl) rfl #[.agg #[.slice A0_0 l0_0.length c0_0, .slice A0_1 l0_1.length c0_1]] rfl (by (try simp only [List.map_toArray, List.map_cons, List.map_nil]); first | done | rfl | (simp only [List.length_drop, List.length_take]; rfl)) ?_; (with_reducible refine (scarfjointref06_Identity.calls kj3 _ _ l0_0 _ _ l0_1 t363 t366 t369 _ ?side1 ?side2 ?side3 ?side4 A43.out).mono ?_); (case side1 => exact Kd.C_below HR0_0.out (mbs_ HB.out)); (case side2 => exact HC0_0.out); (case side3 => exact Kd.C_below HR0_1.out (mbs_ HB.out)); (case side4 => exact HC0_1.out); rintro e w64 ⟨v364, v367, rfl, ho0, ho1, hb⟩; refine ⟨_, rfl, ?_⟩; have HO365 := Aside0.mk (Kd.R_lower (Kd.R_new' (Kd.R_new' ho0 (Kd.R_lt (by (with_reducible repeat (first | apply Kd.R_alloc | apply Kd.R_drewN | apply Kd.R_drew)); exact (Kd.R_mono (Kd.R_far (p := ⟨gb362, 1, none⟩) (Kd.R_far (p := ⟨gb362, 0, none⟩) (Kd.R_types HO357.out BK362.out (by decide)) (fun _ hk => hk.2) (.slice Ao57 t355.length co57)) (fun _ hk => hk.2) (.slice Ao62 t358.length co62)) (fun _ h_ => h_.1))))) (Kd.R_lt (by (with_reducible repeat (first | apply Kd.R_alloc | apply Kd.R_drewN | apply Kd.R_drew)); exact (Kd.R_mono (Kd.R_far (p := ⟨gb362, 1, none⟩) (Kd.R_far (p := ⟨gb362, 0, none⟩) (Kd.R_types HO360.out BK362.out (by decide)) (fun _ hk => hk.2) (.slice Ao57 t355.length co57)) (fun _ hk => hk.2) (.slice Ao62 t358.length co62)) (fun _ h_ => h_.1))))) (below_size (mbs_ HB.out))); have HO368 := Aside0.mk (Kd.R_lower (Kd.R_new' (Kd.R_new' ho1 (Kd.R_lt (by (with_reducible repeat (first | apply Kd.R_alloc | apply Kd.R_drewN | apply Kd.R_drew)); exact (Kd.R_mono (Kd.R_far (p := ⟨gb362, 1, none⟩) (Kd.R_far (p := ⟨gb362, 0, none⟩) (Kd.R_types HO357.out BK362.out (by decide)) (fun _ hk => hk.2) (.slice Ao57 t355.length co57)) (fun _ hk => hk.2) (.slice Ao62 t358.length co62)) (fun _ h_ => h_.1))))) (Kd.R_lt (by (with_reducible repeat (first | apply Kd.R_alloc | apply Kd.R_drewN | apply Kd.R_drew)); exact (Kd.R_mono (Kd.R_far (p := ⟨gb362, 1, none⟩) (Kd.R_far (p := ⟨gb362, 0, none⟩) (Kd.R_types HO360.out BK362.out (by decide)) (fun _ hk => hk.2) (.slice Ao57 t355.length co57)) (fun _ hk => hk.2) (.slice Ao62 t358.length co62)) (fun _ h_ => h_.1))))) (below_size (mbs_ HB.out))); replace HO357 := Aside0.mk (Kd.R_mono (Kd.R_told (Kd.R_told (Kd.R_old (by (with_reducible repeat (first | apply Kd.R_alloc | apply Kd.R_drewN | apply Kd.R_drew)); exact (Kd.R_mono (Kd.R_far (p := ⟨gb362, 1, none⟩) (Kd.R_far (p := ⟨gb362, 0, none⟩) (Kd.R_types HO357.out BK362.out (by decide)) (fun _ hk => hk.2) (.slice Ao57 t355.length co57)) (fun _ hk => hk.2) (.slice Ao62 t358.length co62)) (fun _ h_ => h_.1))) hb) (Kd.R_base ho0)) (Kd.R_base ho1)) (fun _ h_ => h_.1)); replace HO360 := Aside0.mk (Kd.R_mono (Kd.R_told (Kd.R_told (Kd.R_old (by (with_reducible repeat (first | apply Kd.R_alloc | apply Kd.R_drewN | apply Kd.R_drew)); exact (Kd.R_mono (Kd.R_far (p := ⟨gb362, 1, none⟩) (Kd.R_far (p := ⟨gb362, 0, none⟩) (Kd.R_types HO360.out BK362.out (by decide)) (fun _ hk => hk.2) (.slice Ao57 t355.length co57)) (fun _ hk => hk.2) (.slice Ao62 t358.length co62)) (fun _ h_ => h_.1))) hb) (Kd.R_base ho0)) (Kd.R_base ho1)) (fun _ h_ => h_.1)); replace BK347 := Aside0.mk (blk_below (g := gb347) (o := .cells #[.slice A0_0 l0_0.length c0_0, .slice A0_1 l0_1.length c0_1] 25 (0, 0)) (by (with_reducible repeat (first | refine blk_drewN ?_ _ | refine blk_drew ?_ | refine blk_alloc ?_ _)); refine blk_far ?_ NB347_362.out _; (with_reducible repeat (first | refine blk_drewN ?_ _ | refine blk_drew ?_ | refine blk_alloc ?_ _)); refine blk_far ?_ NB347_362.out _; (with_reducible repeat (first | refine blk_drewN ?_ _ | refine blk_drew ?_ | refine blk_alloc ?_ _)); exact BK347.out) hb); replace BK348 := Aside0.mk (blk_below (g := gb348) (o := .cells #[.slice A1_0 l1_0.length c1_0, .slice A1_1 l1_1.length c1_1] 27 (0, 0)) (by (with_reducible repeat (first | refine blk_drewN ?_ _ | refine blk_drew ?_ | refine blk_alloc ?_ _)); refine blk_far ?_ NB348_362.out _; (with_reducible repeat (first | refine blk_drewN ?_ _ | refine blk_drew ?_ | refine blk_alloc ?_ _)); refine blk_far ?_ NB348_362.out _; (with_reducible repeat (first | refine blk_drewN ?_ _ | refine blk_drew ?_ | refine blk_alloc ?_ _)); exact BK348.out) hb); replace BK349 := Aside0.mk (blk_below (g := gb349) (o := .cells #[.slice A2_0 l2_0.length c2_0, .slice A2_1 l2_1.length c2_1] 27 (0, 0)) (by (with_reducible repeat (first | refine blk_drewN ?_ _ | refine blk_drew ?_ | refine blk_alloc ?_ _)); refine blk_far ?_ NB349_362.out _; (with_reducible repeat (first | refine blk_drewN ?_ _ | refine blk_drew ?_ | refine blk_alloc ?_ _)); refine blk_far ?_ NB349_362.out _; (with_reducible repeat (first | refine blk_drewN ?_ _ | refine blk_drew ?_ | refine blk_alloc ?_ _)); exact BK349.out) hb); replace BK362 := Aside0.mk (blk_below (g := gb362) (o := .cells #[.slice Ao57 t355.length co57, .slice Ao62 t358.length co62] 27 (0, 0)) (by (with_reducible repeat (first | refine blk_drewN ?_ _ | refine blk_drew ?_ | refine blk_alloc ?_ _)); refine blk_put (cs := #[.slice Ao57 t355.length co57, .slice none 0 0]) ?_ 1 _ rfl; (with_reducible repeat (first | refine blk_drewN ?_ _ | refine blk_drew ?_ | refine blk_alloc ?_ _)); refine blk_put (cs := #[.slice none 0 0, .slice none 0 0]) ?_ 0 _ rfl; (with_reducible repeat (first | refine blk_drewN ?_ _ | refine blk_drew ?_ | refine blk_alloc ?_ _)); exact BK362.out) hb); replace HB := Aside0.mk (below_step (mbs_ HB.out) hb); (try clear hb); (try clear hb2); (try clear hk); (try clear hi); (try clear ho0); (try clear ho1)) | ((with_reducible refine gate_dst (N := 9) rfl ?_); refine box_event ?hg (N := 9) ?hd (cs := #[.slice none 0 0, .slice none 0 0]) (t := 27) ?hr ?_; (case hd => rfl); (case hg => rfl); (case hr => first | (go_simp; done) | (go_simp; rfl)); intro gb370 hg w65 hbox hb; replace HO357 := Aside0.mk (Kd.R_below (mr_ HO357.out) hb); replace HO360 := Aside0.mk (Kd.R_below (mr_ HO360.out) hb); replace HO365 := Aside0.mk (Kd.R_below (mr_ HO365.out) hb); replace HO368 := Aside0.mk (Kd.R_below (mr_ HO368.out) hb); have BK370 := Aside0.mk (hbox); have GW370 := Aside0.mk (gw_ hg (mbs_ HB.out)); have GE370 := Aside0.mk (gw_ hg (mbs_ HB.out)); replace HB := Aside0.mk (below_step (mbs_ HB.out) hb); have NB347_370 := Aside0.mk (nb_ hg (bk_ BK347.out)); have NB370_347 := Aside0.mk (nc_ hg (bk_ BK347.out)); replace BK347 := Aside0.mk (blk_below (bk_ BK347.out) hb); have NB348_370 := Aside0.mk (nb_ hg (bk_ BK348.out)); have NB370_348 := Aside0.mk (nc_ hg (bk_ BK348.out)); replace BK348 := Aside0.mk (blk_below (bk_ BK348.out) hb); have NB349_370 := Aside0.mk (nb_ hg (bk_ BK349.out)); have NB370_349 := Aside0.mk (nc_ hg (bk_ BK349.out)); replace BK349 := Aside0.mk (blk_below (bk_ BK349.out) hb); have NB362_370 := Aside0.mk (nb_ hg (bk_ BK362.out)); have NB370_362 := Aside0.mk (nc_ hg (bk_ BK362.out)); replace BK362 := Aside0.mk (blk_below (bk_ BK362.out) hb); clear hb hbox hg; obtain ⟨Ao66, co66, eo66⟩ := Kd.R_slice HO365.out; subst eo66; have hnb67 := NB370_347.out; have hnc67 := NB347_370.out; have hnb68 := NB370_348.out; have hnc68 := NB348_370.out; have hnb69 := NB370_349.out; have hnc69 := NB349_370.out; have hnb70 := NB370_362.out; have hnc70 := NB362_370.out; have hcz71_0 := bc0_ BK370.out; have hcz71_1 := bc1_ BK370.out; have hfz71_0 := blk_frozen BK370.out 0; have hfz71_1 := blk_frozen BK370.out 1; obtain ⟨Ao72, co72, eo72⟩ := Kd.R_slice HO368.out; subst eo72))
       have n0_ : Aside0 (Kd.R (Kd.int .i64) 3 ((w65.setCell ⟨gb370, 0, none⟩ (.slice Ao66 t363.length co66)).setCell ⟨gb370, 1, none⟩ (.slice Ao72 t366.length co72)) w.heap.size (fun k_ => some k_ ≠ (.slice Ao62 t358.length co62 : Value).ownBlock ∧ some k_ ≠ (.slice Ao66 t363.length co66 : Value).ownBlock ∧ some k_ ≠ (.slice Ao72 t366.length co72 : Value).ownBlock) (.slice Ao57 t355.length co57) t355) := ⟨by (with_reducible repeat (first | apply Kd.R_alloc | apply Kd.R_drewN | apply Kd.R_drew)); exact Kd.R_mono (Kd.R_far (p := ⟨gb370, 1, none⟩) (Kd.R_far (p := ⟨gb370, 0, none⟩) (Kd.R_types HO357.out BK370.out (by decide)) (fun _ hk => hk.2) (.slice Ao66 t363.length co66)) (fun _ hk => hk.2) (.slice Ao72 t366.length co72)) (fun _ hk => ⟨hk.1.1.1, ⟨hk.1.1.2, hk.1.2⟩⟩)⟩
       have n1_ : Aside0 (Kd.R (Kd.int .i64) 3 ((w65.setCell ⟨gb370, 0, none⟩ (.slice Ao66 t363.length co66)).setCell ⟨gb370, 1, none⟩ (.slice Ao72 t366.length co72)) w.heap.size (fun k_ => some k_ ≠ (.slice Ao57 t355.length co57 : Value).ownBlock ∧ some k_ ≠ (.slice Ao66 t363.length co66 : Value).ownBlock ∧ some k_ ≠ (.slice Ao72 t366.length co72 : Value).ownBlock) (.slice Ao62 t358.length co62) t358) := ⟨by (with_reducible repeat (first | apply Kd.R_alloc | apply Kd.R_drewN | apply Kd.R_drew)); exact Kd.R_mono (Kd.R_far (p := ⟨gb370, 1, none⟩) (Kd.R_far (p := ⟨gb370, 0, none⟩) (Kd.R_types HO360.out BK370.out (by decide)) (fun _ hk => hk.2) (.slice Ao66 t363.length co66)) (fun _ hk => hk.2) (.slice Ao72 t366.length co72)) (fun _ hk => ⟨hk.1.1.1, ⟨hk.1.1.2, hk.1.2⟩⟩)⟩
       have n2_ : Aside0 (Kd.R (Kd.int .i64) 3 ((w65.setCell ⟨gb370, 0, none⟩ (.slice Ao66 t363.length co66)).setCell ⟨gb370, 1, none⟩ (.slice Ao72 t366.length co72)) w.heap.size (fun k_ => some k_ ≠ (.slice Ao57 t355.length co57 : Value).ownBlock ∧ some k_ ≠ (.slice Ao62 t358.length co62 : Value).ownBlock ∧ some k_ ≠ (.slice Ao72 t366.length co72 : Value).ownBlock) (.slice Ao66 t363.length co66) t363) := ⟨by (with_reducible repeat (first | apply Kd.R_alloc | apply Kd.R_drewN | apply Kd.R_drew)); exact Kd.R_mono (Kd.R_far (p := ⟨gb370, 1, none⟩) (Kd.R_far (p := ⟨gb370, 0, none⟩) (Kd.R_types HO365.out BK370.out (by decide)) (fun _ hk => hk.2) (.slice Ao66 t363.length co66)) (fun _ hk => hk.2) (.slice Ao72 t366.length co72)) (fun _ hk => ⟨hk.1.1.2, ⟨hk.1.2, hk.1.1.1⟩⟩)⟩
       have n3_ : Aside0 (Kd.R (Kd.int .i64) 3 ((w65.setCell ⟨gb370, 0, none⟩ (.slice Ao66 t363.length co66)).setCell ⟨gb370, 1, none⟩ (.slice Ao72 t366.length co72)) w.heap.size (fun k_ => some k_ ≠ (.slice Ao57 t355.length co57 : Value).ownBlock ∧ some k_ ≠ (.slice Ao62 t358.length co62 : Value).ownBlock ∧ some k_ ≠ (.slice Ao66 t363.length co66 : Value).ownBlock) (.slice Ao72 t366.length co72) t366) := ⟨by (with_reducible repeat (first | apply Kd.R_alloc | apply Kd.R_drewN | apply Kd.R_drew)); exact Kd.R_mono (Kd.R_far (p := ⟨gb370, 1, none⟩) (Kd.R_far (p := ⟨gb370, 0, none⟩) (Kd.R_types HO368.out BK370.out (by decide)) (fun _ hk => hk.2) (.slice Ao66 t363.length co66)) (fun _ hk => hk.2) (.slice Ao72 t366.length co72)) (fun _ hk => ⟨hk.1.1.2, ⟨hk.1.2, hk.1.1.1⟩⟩)⟩
       have n4_ : Aside0 (((w65.setCell ⟨gb370, 0, none⟩ (.slice Ao66 t363.length co66)).setCell ⟨gb370, 1, none⟩ (.slice Ao72 t366.length co72)).heap[gb347]? = some (.cells #[.slice A0_0 l0_0.length c0_0, .slice A0_1 l0_1.length c0_1] 25 (0, 0))) := ⟨by (with_reducible repeat (first | refine blk_drewN ?_ _ | refine blk_drew ?_ | refine blk_alloc ?_ _)); refine blk_far ?_ NB347_370.out _; (with_reducible repeat (first | refine blk_drewN ?_ _ | refine blk_drew ?_ | refine blk_alloc ?_ _)); refine blk_far ?_ NB347_370.out _; (with_reducible repeat (first | refine blk_drewN ?_ _ | refine blk_drew ?_ | refine blk_alloc ?_ _)); exact BK347.out⟩
       have n5_ : Aside0 (((w65.setCell ⟨gb370, 0, none⟩ (.slice Ao66 t363.length co66)).setCell ⟨gb370, 1, none⟩ (.slice Ao72 t366.length co72)).heap[gb348]? = some (.cells #[.slice A1_0 l1_0.length c1_0, .slice A1_1 l1_1.length c1_1] 27 (0, 0))) := ⟨by (with_reducible repeat (first | refine blk_drewN ?_ _ | refine blk_drew ?_ | refine blk_alloc ?_ _)); refine blk_far ?_ NB348_370.out _; (with_reducible repeat (first | refine blk_drewN ?_ _ | refine blk_drew ?_ | refine blk_alloc ?_ _)); refine blk_far ?_ NB348_370.out _; (with_reducible repeat (first | refine blk_drewN ?_ _ | refine blk_drew ?_ | refine blk_alloc ?_ _)); exact BK348.out⟩
       have n6_ : Aside0 (((w65.setCell ⟨gb370, 0, none⟩ (.slice Ao66 t363.length co66)).setCell ⟨gb370, 1, none⟩ (.slice Ao72 t366.length co72)).heap[gb349]? = some (.cells #[.slice A2_0 l2_0.length c2_0, .slice A2_1 l2_1.length c2_1] 27 (0, 0))) := ⟨by (with_reducible repeat (first | refine blk_drewN ?_ _ | refine blk_drew ?_ | refine blk_alloc ?_ _)); refine blk_far ?_ NB349_370.out _; (with_reducible repeat (first | refine blk_drewN ?_ _ | refine blk_drew ?_ | refine blk_alloc ?_ _)); refine blk_far ?_ NB349_370.out _; (with_reducible repeat (first | refine blk_drewN ?_ _ | refine blk_drew ?_ | refine blk_alloc ?_ _)); exact BK349.out⟩
       have n7_ : Aside0 (((w65.setCell ⟨gb370, 0, none⟩ (.slice Ao66 t363.length co66)).setCell ⟨gb370, 1, none⟩ (.slice Ao72 t366.length co72)).heap[gb362]? = some (.cells #[.slice Ao57 t355.length co57, .slice Ao62 t358.length co62] 27 (0, 0))) := ⟨by (with_reducible repeat (first | refine blk_drewN ?_ _ | refine blk_drew ?_ | refine blk_alloc ?_ _)); refine blk_far ?_ NB362_370.out _; (with_reducible repeat (first | refine blk_drewN ?_ _ | refine blk_drew ?_ | refine blk_alloc ?_ _)); refine blk_far ?_ NB362_370.out _; (with_reducible repeat (first | refine blk_drewN ?_ _ | refine blk_drew ?_ | refine blk_alloc ?_ _)); exact BK362.out⟩
       have n8_ : Aside0 (((w65.setCell ⟨gb370, 0, none⟩ (.slice Ao66 t363.length co66)).setCell ⟨gb370, 1, none⟩ (.slice Ao72 t366.length co72)).heap[gb370]? = some (.cells #[.slice Ao66 t363.length co66, .slice Ao72 t366.length co72] 27 (0, 0))) := ⟨by (with_reducible repeat (first | refine blk_drewN ?_ _ | refine blk_drew ?_ | refine blk_alloc ?_ _)); refine blk_put (cs := #[.slice Ao66 t363.length co66, .slice none 0 0]) ?_ 1 _ rfl; (with_reducible repeat (first | refine blk_drewN ?_ _ | refine blk_drew ?_ | refine blk_alloc ?_ _)); refine blk_put (cs := #[.slice none 0 0, .slice none 0 0]) ?_ 0 _ rfl; (with_reducible repeat (first | refine blk_drewN ?_ _ | refine blk_drew ?_ | refine blk_alloc ?_ _)); exact BK370.out⟩
       have n9_ : Aside0 (Below w.heap.size w ((w65.setCell ⟨gb370, 0, none⟩ (.slice Ao66 t363.length co66)).setCell ⟨gb370, 1, none⟩ (.slice Ao72 t366.length co72))) := ⟨mbs_ HB.out⟩
       (try clear HO357)
       (try clear HO360)
       (try clear HO365)
       (try clear HO368)
       (try clear BK347)
       (try clear BK348)
       (try clear BK349)
       (try clear BK362)
       (try clear BK370)
       (try clear HB)
       generalize ((w65.setCell ⟨gb370, 0, none⟩ (.slice Ao66 t363.length co66)).setCell ⟨gb370, 1, none⟩ (.slice Ao72 t366.length co72)) = w73 at n0_ n1_ n2_ n3_ n4_ n5_ n6_ n7_ n8_ n9_ ⊢
       have HO357 := n0_
       have HO360 := n1_
       have HO365 := n2_
       have HO368 := n3_
       have BK347 := n4_
       have BK348 := n5_
       have BK349 := n6_
       have BK362 := n7_
       have BK370 := n8_
       have HB := n9_
       clear n0_ n1_ n2_ n3_ n4_ n5_ n6_ n7_ n8_ n9_
       replace HO357 := Aside0.mk (Kd.R_drew HO357.out)
       replace HO360 := Aside0.mk (Kd.R_drew HO360.out)
       replace HO365 := Aside0.mk (Kd.R_drew HO365.out)
       replace HO368 := Aside0.mk (Kd.R_drew HO368.out)
       replace BK347 := Aside0.mk (blk_drew BK347.out)
       replace BK348 := Aside0.mk (blk_drew BK348.out)
       replace BK349 := Aside0.mk (blk_drew BK349.out)
       replace BK362 := Aside0.mk (blk_drew BK362.out)
       replace BK370 := Aside0.mk (blk_drew BK370.out)
       replace HB := Aside0.mk (below_drew1 HB.out)
       refine start_ (n := 24) (S := fun w' => w'.cell? ⟨gb362, 0, none⟩ = some (.slice Ao57 t355.length co57) ∧ w'.cell? ⟨gb362, 1, none⟩ = some (.slice Ao62 t358.length co62) ∧ w'.cell? ⟨gb370, 0, none⟩ = some (.slice Ao66 t363.length co66) ∧ w'.cell? ⟨gb370, 1, none⟩ = some (.slice Ao72 t366.length co72) ∧ w'.cell? ⟨gb348, 0, none⟩ = some (.slice A1_0 l1_0.length c1_0) ∧ w'.cell? ⟨gb348, 1, none⟩ = some (.slice A1_1 l1_1.length c1_1) ∧ w'.cell? ⟨gb349, 0, none⟩ = some (.slice A2_0 l2_0.length c2_0) ∧ w'.cell? ⟨gb349, 1, none⟩ = some (.slice A2_1 l2_1.length c2_1)) (ds := []) #[false, false, false, false, false, false, false, false, false, false, false, false, false, false, false, false, false, false, false, false, false, false, false, false] (by kernel_rfl) rfl rfl ⟨(blk_cell BK362.out 0).trans rfl, (blk_cell BK362.out 1).trans rfl, (blk_cell BK370.out 0).trans rfl, (blk_cell BK370.out 1).trans rfl, (blk_cell BK348.out 0).trans rfl, (blk_cell BK348.out 1).trans rfl, (blk_cell BK349.out 0).trans rfl, (blk_cell BK349.out 1).trans rfl⟩ (fun hHeld => ?_); refine with_tabW scarfjointlaw06_MorphismSame.tab5 scarfjointlaw06_MorphismSame.bits5 (fun HT_ HW_ => ?_)
       generalize w73.drew = w74 at HO357 HO360 HO365 HO368 BK347 BK348 BK349 BK362 BK370 HB hHeld ⊢
       refine pure_ (i := 0) (N := some 39) (v := ?_) (a' := ?_) #[true, false, false, false, false, false, false, false, false, false, false, false, false, false, false, false, false, false, false, false, false, false, false, false] rfl rfl (any_of HT_.out (by kernel_rfl)) (fun _ _ _ h => h) (Or.inl ⟨by rfl, ?_⟩) ?_ ?_
       rotate_left
       ·intro w'
        go_simp
        with_reducible rfl
       rotate_left
       ·simp only [Act.put, List.setIfInBounds_toArray, List.set_cons_zero, List.set_cons_succ, i64_w, i32_w]
        rfl
       refine pure_ (i := 1) (N := some 40) (v := ?_) (a' := ?_) #[true, true, false, false, false, false, false, false, false, false, false, false, false, false, false, false, false, false, false, false, false, false, false, false] rfl rfl (any_of HT_.out (by kernel_rfl)) (fun _ _ _ h => h) (Or.inl ⟨by rfl, ?_⟩) ?_ ?_
       rotate_left
       ·intro w'
        go_simp
        with_reducible rfl
       rotate_left
       ·simp only [Act.put, List.setIfInBounds_toArray, List.set_cons_zero, List.set_cons_succ, i64_w, i32_w]
        rfl
       refine pure_ (i := 2) (N := some 41) (v := ?_) (a' := ?_) #[true, true, true, false, false, false, false, false, false, false, false, false, false, false, false, false, false, false, false, false, false, false, false, false] rfl rfl (any_of HT_.out (by kernel_rfl)) (fun _ _ _ h => h) (Or.inl ⟨by rfl, ?_⟩) ?_ ?_
       rotate_left
       ·intro w'
        go_simp
        with_reducible rfl
       rotate_left
       ·simp only [Act.put, List.setIfInBounds_toArray, List.set_cons_zero, List.set_cons_succ, i64_w, i32_w]
        rfl
       refine pure_ (i := 3) (N := some 42) (v := ?_) (a' := ?_) #[true, true, true, true, false, false, false, false, false, false, false, false, false, false, false, false, false, false, false, false, false, false, false, false] rfl rfl (any_of HT_.out (by kernel_rfl)) (fun _ _ _ h => h) (Or.inl ⟨by rfl, ?_⟩) ?_ ?_
       rotate_left
       ·intro w'
        go_simp
        with_reducible rfl
       rotate_left
       ·simp only [Act.put, List.setIfInBounds_toArray, List.set_cons_zero, List.set_cons_succ, i64_w, i32_w]
        rfl
       refine take_ (i := 4) (N := some 43) (v := ?_) (a' := ?_) #[true, true, true, true, true, false, false, false, false, false, false, false, false, false, false, false, false, false, false, false, false, false, false, false] rfl rfl (take_ofW HT_.out HW_.out (by kernel_rfl)) (fun _ _ _ h => h) (Or.inl ⟨by rfl, ?_⟩) hHeld ?_ ?_
       rotate_left
       ·rintro w' ⟨s0, s1, s2, s3, s4, s5, s6, s7⟩
        go_simp
        with_reducible rfl
       rotate_left
       ·simp only [Act.put, List.setIfInBounds_toArray, List.set_cons_zero, List.set_cons_succ, i64_w, i32_w]
        rfl
       refine take_ (i := 5) (N := some 44) (v := ?_) (a' := ?_) #[true, true, true, true, true, true, false, false, false, false, false, false, false, false, false, false, false, false, false, false, false, false, false, false] rfl rfl (take_ofW HT_.out HW_.out (by kernel_rfl)) (fun _ _ _ h => h) (Or.inl ⟨by rfl, ?_⟩) hHeld ?_ ?_
       rotate_left
       ·rintro w' ⟨s0, s1, s2, s3, s4, s5, s6, s7⟩
        go_simp
        with_reducible rfl
       rotate_left
       ·simp only [Act.put, List.setIfInBounds_toArray, List.set_cons_zero, List.set_cons_succ, i64_w, i32_w]
        rfl
       refine one_ (i := 6) (N := some 45) #[true, true, true, true, true, true, true, false, false, false, false, false, false, false, false, false, false, false, false, false, false, false, false, false] rfl rfl (one_of HT_.out (by kernel_rfl)) (by decide) (fun K hK => ?_)
       refine goes_ Try.func27 (by kernel_rfl) rfl #[.agg #[.slice Ao57 t355.length co57, .slice Ao62 t358.length co62], .agg #[.slice Ao66 t363.length co66, .slice Ao72 t366.length co72]] (by rfl) rfl rfl (by (try simp only [List.map_toArray, List.map_cons, List.map_nil]); first | done | rfl | (simp only [List.length_drop, List.length_take]; rfl)) ?_
       with_reducible refine (scarfjointref06_Same.calls kj3 _ _ t355 _ _ t358 _ _ t363 _ _ t366 true _ ?side1 ?side2 ?side3 ?side4 ?side5 ?side6 ?side7 ?side8 A45.out).mono ?_
       (case side1 => exact mc_ (Kd.R_reads' HO357.out).2.2)
       (case side2 => exact (Kd.R_reads' HO357.out).2.1)
       (case side3 => exact mc_ (Kd.R_reads' HO360.out).2.2)
       (case side4 => exact (Kd.R_reads' HO360.out).2.1)
       (case side5 => exact mc_ (Kd.R_reads' HO365.out).2.2)
       (case side6 => exact (Kd.R_reads' HO365.out).2.1)
       (case side7 => exact mc_ (Kd.R_reads' HO368.out).2.2)
       (case side8 => exact (Kd.R_reads' HO368.out).2.1)
       rintro e w75 ⟨rfl, hb⟩
       refine ⟨_, rfl, ?_⟩
       replace HO357 := Aside0.mk (Kd.R_below (mr_ HO357.out) hb)
       replace HO360 := Aside0.mk (Kd.R_below (mr_ HO360.out) hb)
       replace HO365 := Aside0.mk (Kd.R_below (mr_ HO365.out) hb)
       replace HO368 := Aside0.mk (Kd.R_below (mr_ HO368.out) hb)
       replace BK347 := Aside0.mk (blk_below (bk_ BK347.out) hb)
       replace BK348 := Aside0.mk (blk_below (bk_ BK348.out) hb)
       replace BK349 := Aside0.mk (blk_below (bk_ BK349.out) hb)
       replace BK362 := Aside0.mk (blk_below (bk_ BK362.out) hb)
       replace BK370 := Aside0.mk (blk_below (bk_ BK370.out) hb)
       replace HB := Aside0.mk (below_step (mbs_ HB.out) hb)
       (try clear hb)
       (try clear hb2)
       (try clear hk)
       (try clear hi)
       refine hK.out _ _ ⟨(blk_cell BK362.out 0).trans rfl, (blk_cell BK362.out 1).trans rfl, (blk_cell BK370.out 0).trans rfl, (blk_cell BK370.out 1).trans rfl, (blk_cell BK348.out 0).trans rfl, (blk_cell BK348.out 1).trans rfl, (blk_cell BK349.out 0).trans rfl, (blk_cell BK349.out 1).trans rfl⟩ (fun hHeld => ?_)
       clear hK K
       refine norm_ (a' := ?_) ?_ ?_
       rotate_left
       ·show Act.put _ (some 45) _ = _
        simp only [Act.put, List.setIfInBounds_toArray, List.set_cons_zero, List.set_cons_succ, i64_w, i32_w]
        rfl
       refine pure_ (i := 7) (N := some 46) (v := ?_) (a' := ?_) #[true, true, true, true, true, true, true, true, false, false, false, false, false, false, false, false, false, false, false, false, false, false, false, false] rfl rfl (any_of HT_.out (by kernel_rfl)) (fun _ _ _ h => h) (Or.inl ⟨by rfl, ?_⟩) ?_ ?_
       rotate_left
       ·intro w'
        go_simp
        with_reducible rfl
       rotate_left
       ·simp only [Act.put, List.setIfInBounds_toArray, List.set_cons_zero, List.set_cons_succ, i64_w, i32_w]
        rfl
       refine pure_ (i := 8) (N := some 47) (v := ?_) (a' := ?_) #[true, true, true, true, true, true, true, true, true, false, false, false, false, false, false, false, false, false, false, false, false, false, false, false] rfl rfl (any_of HT_.out (by kernel_rfl)) (fun _ _ _ h => h) (Or.inl ⟨by rfl, ?_⟩) ?_ ?_
       rotate_left
       ·intro w'
        go_simp
        with_reducible rfl
       rotate_left
       ·simp only [Act.put, List.setIfInBounds_toArray, List.set_cons_zero, List.set_cons_succ, i64_w, i32_w]
        rfl
       refine take_ (i := 9) (N := some 48) (v := ?_) (a' := ?_) #[true, true, true, true, true, true, true, true, true, true, false, false, false, false, false, false, false, false, false, false, false, false, false, false] rfl rfl (take_ofW HT_.out HW_.out (by kernel_rfl)) (fun _ _ _ h => h) (Or.inl ⟨by rfl, ?_⟩) hHeld ?_ ?_
       rotate_left
       ·rintro w' ⟨s0, s1, s2, s3, s4, s5, s6, s7⟩
        go_simp
        with_reducible rfl
       rotate_left
       ·simp only [Act.put, List.setIfInBounds_toArray, List.set_cons_zero, List.set_cons_succ, i64_w, i32_w]
        rfl
       refine take_ (i := 10) (N := some 49) (v := ?_) (a' := ?_) #[true, true, true, true, true, true, true, true, true, true, true, false, false, false, false, false, false, false, false, false, false, false, false, false] rfl rfl (take_ofW HT_.out HW_.out (by kernel_rfl)) (fun _ _ _ h => h) (Or.inl ⟨by rfl, ?_⟩) hHeld ?_ ?_
       rotate_left
       ·rintro w' ⟨s0, s1, s2, s3, s4, s5, s6, s7⟩
        go_simp
        with_reducible rfl
       rotate_left
       ·simp only [Act.put, List.setIfInBounds_toArray, List.set_cons_zero, List.set_cons_succ, i64_w, i32_w]
        rfl
       refine take_ (i := 12) (N := some 51) (v := ?_) (a' := ?_) #[true, true, true, true, true, true, true, true, true, true, true, false, true, false, false, false, false, false, false, false, false, false, false, false] rfl rfl (take_ofW HT_.out HW_.out (by kernel_rfl)) (fun _ _ _ h => h) (Or.inl ⟨by rfl, ?_⟩) hHeld ?_ ?_
       rotate_left
       ·rintro w' ⟨s0, s1, s2, s3, s4, s5, s6, s7⟩
        go_simp
        with_reducible rfl
       rotate_left
       ·simp only [Act.put, List.setIfInBounds_toArray, List.set_cons_zero, List.set_cons_succ, i64_w, i32_w]
        rfl
       refine take_ (i := 13) (N := some 52) (v := ?_) (a' := ?_) #[true, true, true, true, true, true, true, true, true, true, true, false, true, true, false, false, false, false, false, false, false, false, false, false] rfl rfl (take_ofW HT_.out HW_.out (by kernel_rfl)) (fun _ _ _ h => h) (Or.inl ⟨by rfl, ?_⟩) hHeld ?_ ?_
       rotate_left
       ·rintro w' ⟨s0, s1, s2, s3, s4, s5, s6, s7⟩
        go_simp
        with_reducible rfl
       rotate_left
       ·simp only [Act.put, List.setIfInBounds_toArray, List.set_cons_zero, List.set_cons_succ, i64_w, i32_w]
        rfl
       refine one_ (i := 11) (N := some 50) #[true, true, true, true, true, true, true, true, true, true, true, true, true, true, false, false, false, false, false, false, false, false, false, false] rfl rfl (one_of HT_.out (by kernel_rfl)) (by decide) (fun K hK => ?_)
       refine goes_ Try.func28 (by kernel_rfl) rfl #[.agg #[.slice A1_0 l1_0.length c1_0, .slice A1_1 l1_1.length c1_1], .agg #[.slice A2_0 l2_0.length c2_0, .slice A2_1 l2_1.length c2_1]] (by rfl) rfl rfl (by (try simp only [List.map_toArray, List.map_cons, List.map_nil]); first | done | rfl | (simp only [List.length_drop, List.length_take]; rfl)) ?_
       with_reducible refine (morphism_Same.calls kj3 _ _ l1_0 _ _ l1_1 _ _ l2_0 _ _ l2_1 t372 _ ?side1 ?side2 ?side3 ?side4 ?side5 ?side6 ?side7 ?side8 A47.out).mono ?_
       (case side1 => exact mc_ (Kd.C_below HR1_0.out HB.out))
       (case side2 => exact HC1_0.out)
       (case side3 => exact mc_ (Kd.C_below HR1_1.out HB.out))
       (case side4 => exact HC1_1.out)
       (case side5 => exact mc_ (Kd.C_below HR2_0.out HB.out))
       (case side6 => exact HC2_0.out)
       (case side7 => exact mc_ (Kd.C_below HR2_1.out HB.out))
       (case side8 => exact HC2_1.out)
       rintro e w76 ⟨rfl, hb⟩
       refine ⟨_, rfl, ?_⟩
       replace HO357 := Aside0.mk (Kd.R_below (mr_ HO357.out) hb)
       replace HO360 := Aside0.mk (Kd.R_below (mr_ HO360.out) hb)
       replace HO365 := Aside0.mk (Kd.R_below (mr_ HO365.out) hb)
       replace HO368 := Aside0.mk (Kd.R_below (mr_ HO368.out) hb)
       replace BK347 := Aside0.mk (blk_below (bk_ BK347.out) hb)
       replace BK348 := Aside0.mk (blk_below (bk_ BK348.out) hb)
       replace BK349 := Aside0.mk (blk_below (bk_ BK349.out) hb)
       replace BK362 := Aside0.mk (blk_below (bk_ BK362.out) hb)
       replace BK370 := Aside0.mk (blk_below (bk_ BK370.out) hb)
       replace HB := Aside0.mk (below_step (mbs_ HB.out) hb)
       (try clear hb)
       (try clear hb2)
       (try clear hk)
       (try clear hi)
       refine hK.out _ _ ⟨(blk_cell BK362.out 0).trans rfl, (blk_cell BK362.out 1).trans rfl, (blk_cell BK370.out 0).trans rfl, (blk_cell BK370.out 1).trans rfl, (blk_cell BK348.out 0).trans rfl, (blk_cell BK348.out 1).trans rfl, (blk_cell BK349.out 0).trans rfl, (blk_cell BK349.out 1).trans rfl⟩ (fun hHeld => ?_)
       clear hK K
       refine norm_ (a' := ?_) ?_ ?_
       rotate_left
       ·show Act.put _ (some 50) _ = _
        simp only [Act.put, List.setIfInBounds_toArray, List.set_cons_zero, List.set_cons_succ, i64_w, i32_w]
        rfl
       refine one_ (i := 14) (N := some 53) #[true, true, true, true, true, true, true, true, true, true, true, true, true, true, true, false, false, false, false, false, false, false, false, false] rfl rfl (one_of HT_.out (by kernel_rfl)) (by decide) (fun K hK => ?_)
       refine goes_ Try.func27 (by kernel_rfl) rfl #[.agg #[.slice A1_0 l1_0.length c1_0, .slice A1_1 l1_1.length c1_1], .agg #[.slice A2_0 l2_0.length c2_0, .slice A2_1 l2_1.length c2_1]] (by rfl) rfl rfl (by (try simp only [List.map_toArray, List.map_cons, List.map_nil]); first | done | rfl | (simp only [List.length_drop, List.length_take]; rfl)) ?_
       with_reducible refine (scarfjointref06_Same.calls kj3 _ _ l1_0 _ _ l1_1 _ _ l2_0 _ _ l2_1 t373 _ ?side1 ?side2 ?side3 ?side4 ?side5 ?side6 ?side7 ?side8 A48.out).mono ?_
       (case side1 => exact mc_ (Kd.C_below HR1_0.out HB.out))
       (case side2 => exact HC1_0.out)
       (case side3 => exact mc_ (Kd.C_below HR1_1.out HB.out))
       (case side4 => exact HC1_1.out)
       (case side5 => exact mc_ (Kd.C_below HR2_0.out HB.out))
       (case side6 => exact HC2_0.out)
       (case side7 => exact mc_ (Kd.C_below HR2_1.out HB.out))
       (case side8 => exact HC2_1.out)
       rintro e w77 ⟨rfl, hb⟩
       refine ⟨_, rfl, ?_⟩
       replace HO357 := Aside0.mk (Kd.R_below (mr_ HO357.out) hb)
       replace HO360 := Aside0.mk (Kd.R_below (mr_ HO360.out) hb)
       replace HO365 := Aside0.mk (Kd.R_below (mr_ HO365.out) hb)
       replace HO368 := Aside0.mk (Kd.R_below (mr_ HO368.out) hb)
       replace BK347 := Aside0.mk (blk_below (bk_ BK347.out) hb)
       replace BK348 := Aside0.mk (blk_below (bk_ BK348.out) hb)
       replace BK349 := Aside0.mk (blk_below (bk_ BK349.out) hb)
       replace BK362 := Aside0.mk (blk_below (bk_ BK362.out) hb)
       replace BK370 := Aside0.mk (blk_below (bk_ BK370.out) hb)
       replace HB := Aside0.mk (below_step (mbs_ HB.out) hb)
       (try clear hb)
       (try clear hb2)
       (try clear hk)
       (try clear hi)
       refine hK.out _ _ ⟨(blk_cell BK362.out 0).trans rfl, (blk_cell BK362.out 1).trans rfl, (blk_cell BK370.out 0).trans rfl, (blk_cell BK370.out 1).trans rfl, (blk_cell BK348.out 0).trans rfl, (blk_cell BK348.out 1).trans rfl, (blk_cell BK349.out 0).trans rfl, (blk_cell BK349.out 1).trans rfl⟩ (fun hHeld => ?_)
       clear hK K
       refine norm_ (a' := ?_) ?_ ?_
       rotate_left
       ·show Act.put _ (some 53) _ = _
        simp only [Act.put, List.setIfInBounds_toArray, List.set_cons_zero, List.set_cons_succ, i64_w, i32_w]
        rfl
       refine pure_ (i := 15) (N := some 54) (v := ?_) (a' := ?_) #[true, true, true, true, true, true, true, true, true, true, true, true, true, true, true, true, false, false, false, false, false, false, false, false] rfl rfl (any_of HT_.out (by kernel_rfl)) (fun _ _ _ h => h) (Or.inl ⟨by rfl, ?_⟩) ?_ ?_
       rotate_left
       ·intro w'
        go_simp
        with_reducible rfl
       rotate_left
       ·simp only [Act.put, List.setIfInBounds_toArray, List.set_cons_zero, List.set_cons_succ, i64_w, i32_w]
        rfl
       refine pure_ (i := 16) (N := some 55) (v := ?_) (a' := ?_) #[true, true, true, true, true, true, true, true, true, true, true, true, true, true, true, true, true, false, false, false, false, false, false, false] rfl rfl (any_of HT_.out (by kernel_rfl)) (fun _ _ _ h => h) (Or.inl ⟨by rfl, ?_⟩) ?_ ?_
       rotate_left
       ·intro w'
        go_simp
        with_reducible rfl
       rotate_left
       ·simp only [Act.put, List.setIfInBounds_toArray, List.set_cons_zero, List.set_cons_succ, i64_w, i32_w]
        rfl
       refine pure_ (i := 17) (N := some 56) (v := ?_) (a' := ?_) #[true, true, true, true, true, true, true, true, true, true, true, true, true, true, true, true, true, true, false, false, false, false, false, false] rfl rfl (any_of HT_.out (by kernel_rfl)) (fun _ _ _ h => h) (Or.inl ⟨by rfl, ?_⟩) ?_ ?_
       rotate_left
       ·intro w'
        go_simp
        with_reducible rfl
       rotate_left
       ·simp only [Act.put, List.setIfInBounds_toArray, List.set_cons_zero, List.set_cons_succ, i64_w, i32_w]
        rfl
       refine take_ (i := 18) (N := some 57) (v := ?_) (a' := ?_) #[true, true, true, true, true, true, true, true, true, true, true, true, true, true, true, true, true, true, true, false, false, false, false, false] rfl rfl (take_ofW HT_.out HW_.out (by kernel_rfl)) (fun _ _ _ h => h) (Or.inl ⟨by rfl, ?_⟩) hHeld ?_ ?_
       rotate_left
       ·rintro w' ⟨s0, s1, s2, s3, s4, s5, s6, s7⟩
        go_simp
        with_reducible rfl
       rotate_left
       ·simp only [Act.put, List.setIfInBounds_toArray, List.set_cons_zero, List.set_cons_succ, i64_w, i32_w]
        rfl
       refine take_ (i := 19) (N := some 58) (v := ?_) (a' := ?_) #[true, true, true, true, true, true, true, true, true, true, true, true, true, true, true, true, true, true, true, true, false, false, false, false] rfl rfl (take_ofW HT_.out HW_.out (by kernel_rfl)) (fun _ _ _ h => h) (Or.inl ⟨by rfl, ?_⟩) hHeld ?_ ?_
       rotate_left
       ·rintro w' ⟨s0, s1, s2, s3, s4, s5, s6, s7⟩
        go_simp
        with_reducible rfl
       rotate_left
       ·simp only [Act.put, List.setIfInBounds_toArray, List.set_cons_zero, List.set_cons_succ, i64_w, i32_w]
        rfl
       refine one_ (i := 20) (N := some 59) #[true, true, true, true, true, true, true, true, true, true, true, true, true, true, true, true, true, true, true, true, true, false, false, false] rfl rfl (one_of HT_.out (by kernel_rfl)) (by decide) (fun K hK => ?_)
       refine goes_ Try.func13 (by kernel_rfl) rfl #[.agg #[.slice A1_0 l1_0.length c1_0, .slice A1_1 l1_1.length c1_1]] (by rfl) rfl rfl (by (try simp only [List.map_toArray, List.map_cons, List.map_nil]); first | done | rfl | (simp only [List.length_drop, List.length_take]; rfl)) ?_
       with_reducible refine (scarfjointlaw06_copied.calls _ _ l1_0 _ _ l1_1 t374 t377 _ ?side1 ?side2 ?side3 ?side4 A50.out).mono ?_
       (case side1 => exact mc_ (Kd.C_below HR1_0.out HB.out))
       (case side2 => exact HC1_0.out)
       (case side3 => exact mc_ (Kd.C_below HR1_1.out HB.out))
       (case side4 => exact HC1_1.out)
       rintro e w78 ⟨v375, v378, rfl, ho0, ho1, hb⟩
       refine ⟨_, rfl, ?_⟩
       have HO376 := Aside0.mk (Kd.R_lower (Kd.R_new' (Kd.R_new' (Kd.R_new' (Kd.R_new' ho0 (Kd.R_lt (mr_ HO357.out))) (Kd.R_lt (mr_ HO360.out))) (Kd.R_lt (mr_ HO365.out))) (Kd.R_lt (mr_ HO368.out))) (below_size (mbs_ HB.out)))
       have HO379 := Aside0.mk (Kd.R_lower (Kd.R_new' (Kd.R_new' (Kd.R_new' (Kd.R_new' ho1 (Kd.R_lt (mr_ HO357.out))) (Kd.R_lt (mr_ HO360.out))) (Kd.R_lt (mr_ HO365.out))) (Kd.R_lt (mr_ HO368.out))) (below_size (mbs_ HB.out)))
       replace HO357 := Aside0.mk (Kd.R_mono (Kd.R_told (Kd.R_told (Kd.R_old (mr_ HO357.out) hb) (Kd.R_base ho0)) (Kd.R_base ho1)) (fun _ h_ => h_.1))
       replace HO360 := Aside0.mk (Kd.R_mono (Kd.R_told (Kd.R_told (Kd.R_old (mr_ HO360.out) hb) (Kd.R_base ho0)) (Kd.R_base ho1)) (fun _ h_ => h_.1))
       replace HO365 := Aside0.mk (Kd.R_mono (Kd.R_told (Kd.R_told (Kd.R_old (mr_ HO365.out) hb) (Kd.R_base ho0)) (Kd.R_base ho1)) (fun _ h_ => h_.1))
       replace HO368 := Aside0.mk (Kd.R_mono (Kd.R_told (Kd.R_told (Kd.R_old (mr_ HO368.out) hb) (Kd.R_base ho0)) (Kd.R_base ho1)) (fun _ h_ => h_.1))
       replace BK347 := Aside0.mk (blk_below (bk_ BK347.out) hb)
       replace BK348 := Aside0.mk (blk_below (bk_ BK348.out) hb)
       replace BK349 := Aside0.mk (blk_below (bk_ BK349.out) hb)
       replace BK362 := Aside0.mk (blk_below (bk_ BK362.out) hb)
       replace BK370 := Aside0.mk (blk_below (bk_ BK370.out) hb)
       replace HB := Aside0.mk (below_step (mbs_ HB.out) hb)
       (try clear hb)
       (try clear hb2)
       (try clear hk)
       (try clear hi)
       (try clear ho0)
       (try clear ho1)
       obtain ⟨Ao79, co79, eo79⟩ := Kd.R_slice HO376.out
       (first | subst eo79 | (injection eo79 with f1_ f2_ f3_; have f4_ := f1_.symm; have f5_ := f3_.symm; clear f1_ f2_ f3_; subst f4_; subst f5_))
       obtain ⟨Ao80, co80, eo80⟩ := Kd.R_slice HO379.out
       (first | subst eo80 | (injection eo80 with f1_ f2_ f3_; have f4_ := f1_.symm; have f5_ := f3_.symm; clear f1_ f2_ f3_; subst f4_; subst f5_))
       refine hK.out _ _ ⟨(blk_cell BK362.out 0).trans rfl, (blk_cell BK362.out 1).trans rfl, (blk_cell BK370.out 0).trans rfl, (blk_cell BK370.out 1).trans rfl, (blk_cell BK348.out 0).trans rfl, (blk_cell BK348.out 1).trans rfl, (blk_cell BK349.out 0).trans rfl, (blk_cell BK349.out 1).trans rfl⟩ (fun hHeld => ?_)
       clear hK K
       refine norm_ (a' := ?_) ?_ ?_
       rotate_left
       ·show Act.put _ (some 59) _ = _
        simp only [Act.put, List.setIfInBounds_toArray, List.set_cons_zero, List.set_cons_succ, i64_w, i32_w]
        rfl
       refine one_ (i := 21) (N := some 60) #[true, true, true, true, true, true, true, true, true, true, true, true, true, true, true, true, true, true, true, true, true, true, false, false] rfl rfl (one_of HT_.out (by kernel_rfl)) (by decide) (fun K hK => ?_)
       refine goes_ Try.func28 (by kernel_rfl) rfl #[.agg #[.slice A1_0 l1_0.length c1_0, .slice A1_1 l1_1.length c1_1], .agg #[.slice Ao79 t374.length co79, .slice Ao80 t377.length co80]] (by rfl) rfl rfl (by (try simp only [List.map_toArray, List.map_cons, List.map_nil]); first | done | rfl | (simp only [List.length_drop, List.length_take]; rfl)) ?_
       with_reducible refine (morphism_Same.calls kj3 _ _ l1_0 _ _ l1_1 _ _ t374 _ _ t377 t380 _ ?side1 ?side2 ?side3 ?side4 ?side5 ?side6 ?side7 ?side8 A51.out).mono ?_
       (case side1 => exact mc_ (Kd.C_below HR1_0.out HB.out))
       (case side2 => exact HC1_0.out)
       (case side3 => exact mc_ (Kd.C_below HR1_1.out HB.out))
       (case side4 => exact HC1_1.out)
       (case side5 => exact mc_ (Kd.R_reads' HO376.out).2.2)
       (case side6 => exact (Kd.R_reads' HO376.out).2.1)
       (case side7 => exact mc_ (Kd.R_reads' HO379.out).2.2)
       (case side8 => exact (Kd.R_reads' HO379.out).2.1)
       rintro e w81 ⟨rfl, hb⟩
       refine ⟨_, rfl, ?_⟩
       replace HO357 := Aside0.mk (Kd.R_below (mr_ HO357.out) hb)
       replace HO360 := Aside0.mk (Kd.R_below (mr_ HO360.out) hb)
       replace HO365 := Aside0.mk (Kd.R_below (mr_ HO365.out) hb)
       replace HO368 := Aside0.mk (Kd.R_below (mr_ HO368.out) hb)
       replace HO376 := Aside0.mk (Kd.R_below (mr_ HO376.out) hb)
       replace HO379 := Aside0.mk (Kd.R_below (mr_ HO379.out) hb)
       replace BK347 := Aside0.mk (blk_below (bk_ BK347.out) hb)
       replace BK348 := Aside0.mk (blk_below (bk_ BK348.out) hb)
       replace BK349 := Aside0.mk (blk_below (bk_ BK349.out) hb)
       replace BK362 := Aside0.mk (blk_below (bk_ BK362.out) hb)
       replace BK370 := Aside0.mk (blk_below (bk_ BK370.out) hb)
       replace HB := Aside0.mk (below_step (mbs_ HB.out) hb)
       (try clear hb)
       (try clear hb2)
       (try clear hk)
       (try clear hi)
       refine hK.out _ _ ⟨(blk_cell BK362.out 0).trans rfl, (blk_cell BK362.out 1).trans rfl, (blk_cell BK370.out 0).trans rfl, (blk_cell BK370.out 1).trans rfl, (blk_cell BK348.out 0).trans rfl, (blk_cell BK348.out 1).trans rfl, (blk_cell BK349.out 0).trans rfl, (blk_cell BK349.out 1).trans rfl⟩ (fun hHeld => ?_)
       clear hK K
       refine norm_ (a' := ?_) ?_ ?_
       rotate_left
       ·show Act.put _ (some 60) _ = _
        simp only [Act.put, List.setIfInBounds_toArray, List.set_cons_zero, List.set_cons_succ, i64_w, i32_w]
        rfl
       refine pure_ (i := 22) (N := some 61) (v := ?_) (a' := ?_) #[true, true, true, true, true, true, true, true, true, true, true, true, true, true, true, true, true, true, true, true, true, true, true, false] rfl rfl (any_of HT_.out (by kernel_rfl)) (fun _ _ _ h => h) (Or.inl ⟨by rfl, ?_⟩) ?_ ?_
       rotate_left
       ·intro w'
        go_simp
        with_reducible rfl
       rotate_left
       ·simp only [Act.put, List.setIfInBounds_toArray, List.set_cons_zero, List.set_cons_succ, i64_w, i32_w]
        rfl
       refine pure_ (i := 23) (N := some 6) (v := ?_) (a' := ?_) #[true, true, true, true, true, true, true, true, true, true, true, true, true, true, true, true, true, true, true, true, true, true, true, true] rfl rfl (any_of HT_.out (by kernel_rfl)) (fun _ _ _ h => h) (Or.inl ⟨by rfl, ?_⟩) ?_ ?_
       rotate_left
       ·intro w'
        go_simp
        with_reducible rfl
       rotate_left
       ·simp only [Act.put, List.setIfInBounds_toArray, List.set_cons_zero, List.set_cons_succ, i64_w, i32_w]
        rfl
       refine done_ (done_of HT_.out (by kernel_rfl)) ?_
       as_aux_lemma =>
       try go_wp2
       go_ret
       exact ⟨by first | rfl | (simp [errW_none, errW_some] <;> rfl) | (simp [*, errW_none, errW_some] <;> rfl), mbs_ HB.out⟩
      ·rw [if_neg c49] at H
       have c49b0 : (t372 == t373) = false := by simpa using c49
       (try (have c49b1 : decide (t372 = t373) = false := by simpa using c49))
       (try (have c49b2 : (t372 == t373) = false := by simpa using c49))
       (try (have c49b3 : ¬ (t372 = t373) := by simpa using c49))
       clear c49
       obtain rfl := Option.some.inj H
       have hnb82 := NB347_348.out
       have hnc82 := NB348_347.out
       have hnb83 := NB347_349.out
       have hnc83 := NB349_347.out
       have hcz84_0 := bc0_ BK347.out
       have hcz84_1 := bc1_ BK347.out
       have hfz84_0 := blk_frozen BK347.out 0
       have hfz84_1 := blk_frozen BK347.out 1
       try go_wp2_with (first | ((with_reducible refine gate_callee (f := 25) rfl ?_); refine goesL_ (some 31) rfl rfl Try.func25 (by kernel_rfl) rfl #[.agg #[.slice A0_0 l0_0.length c0_0, .slice A0_1 l0_1.length c0_1]] rfl (by (try simp only [List.map_toArray, List.map_cons, List.map_nil]); first | done | rfl | (simp only [List.length_drop, List.length_take]; rfl)) ?_; (with_reducible refine (morphism_Identity.calls kj3 _ _ l0_0 _ _ l0_1 t355 t358 t361 _ ?side1 ?side2 ?side3 ?side4 A42.out).mono ?_); (case side1 => exact mc_ (Kd.C_below HR0_0.out HB.out)); (case side2 => exact HC0_0.out); (case side3 => exact mc_ (Kd.C_below HR0_1.out HB.out)); (case side4 => exact HC0_1.out); rintro e w85 ⟨v356, v359, rfl, ho0, ho1, hb⟩; refine ⟨_, rfl, ?_⟩; have HO357 := Aside0.mk (Kd.R_lower ho0 (below_size (mbs_ HB.out))); have HO360 := Aside0.mk (Kd.R_lower ho1 (below_size (mbs_ HB.out))); replace BK347 := Aside0.mk (blk_below (bk_ BK347.out) hb); replace BK348 := Aside0.mk (blk_below (bk_ BK348.out) hb); replace BK349 := Aside0.mk (blk_below (bk_ BK349.out) hb); replace HB := Aside0.mk (below_step (mbs_ HB.out) hb); (try clear hb); (try clear hb2); (try clear hk); (try clear hi); (try clear ho0); (try clear ho1)) | ((with_reducible refine gate_dst (N := 7) rfl ?_); refine box_event ?hg (N := 7) ?hd (cs := #[.slice none 0 0, .slice none 0 0]) (t := 27) ?hr ?_; (case hd => rfl); (case hg => rfl); (case hr => first | (go_simp; done) | (go_simp; rfl)); intro gb362 hg w86 hbox hb; replace HO357 := Aside0.mk (Kd.R_below (mr_ HO357.out) hb); replace HO360 := Aside0.mk (Kd.R_below (mr_ HO360.out) hb); have BK362 := Aside0.mk (hbox); have GW362 := Aside0.mk (gw_ hg (mbs_ HB.out)); have GE362 := Aside0.mk (gw_ hg (mbs_ HB.out)); replace HB := Aside0.mk (below_step (mbs_ HB.out) hb); have NB347_362 := Aside0.mk (nb_ hg (bk_ BK347.out)); have NB362_347 := Aside0.mk (nc_ hg (bk_ BK347.out)); replace BK347 := Aside0.mk (blk_below (bk_ BK347.out) hb); have NB348_362 := Aside0.mk (nb_ hg (bk_ BK348.out)); have NB362_348 := Aside0.mk (nc_ hg (bk_ BK348.out)); replace BK348 := Aside0.mk (blk_below (bk_ BK348.out) hb); have NB349_362 := Aside0.mk (nb_ hg (bk_ BK349.out)); have NB362_349 := Aside0.mk (nc_ hg (bk_ BK349.out)); replace BK349 := Aside0.mk (blk_below (bk_ BK349.out) hb); clear hb hbox hg; obtain ⟨Ao87, co87, eo87⟩ := Kd.R_slice HO357.out; subst eo87; have hnb88 := NB362_347.out; have hnc88 := NB347_362.out; have hnb89 := NB362_348.out; have hnc89 := NB348_362.out; have hnb90 := NB362_349.out; have hnc90 := NB349_362.out; have hcz91_0 := bc0_ BK362.out; have hcz91_1 := bc1_ BK362.out; have hfz91_0 := blk_frozen BK362.out 0; have hfz91_1 := blk_frozen BK362.out 1; obtain ⟨Ao92, co92, eo92⟩ := Kd.R_slice HO360.out; subst eo92; have hcz93_0 := bc0_ BK347.out; have hcz93_1 := bc1_ BK347.out; have hfz93_0 := blk_frozen BK347.out 0; have hfz93_1 := blk_frozen BK347.out 1) | ((with_reducible refine gate_callee (f := 26) rfl ?_); refine goesL_ (some 36) rfl rfl Try.func26 (by kernel_rfl) rfl #[.agg #[.slice A0_0 l0_0.length c0_0, .slice A0_1 l0_1.length c0_1]] rfl (by (try simp only [List.map_toArray, List.map_cons, List.map_nil]); first | done | rfl | (simp only [List.length_drop, List.length_take]; rfl)) ?_; (with_reducible refine (scarfjointref06_Identity.calls kj3 _ _ l0_0 _ _ l0_1 t363 t366 t369 _ ?side1 ?side2 ?side3 ?side4 A43.out).mono ?_); (case side1 => exact Kd.C_below HR0_0.out (mbs_ HB.out)); (case side2 => exact HC0_0.out); (case side3 => exact Kd.C_below HR0_1.out (mbs_ HB.out)); (case side4 => exact HC0_1.out); rintro e w94 ⟨v364, v367, rfl, ho0, ho1, hb⟩; refine ⟨_, rfl, ?_⟩; have HO365 := Aside0.mk (Kd.R_lower (Kd.R_new' (Kd.R_new' ho0 (Kd.R_lt (by (with_reducible repeat (first | apply Kd.R_alloc | apply Kd.R_drewN | apply Kd.R_drew)); exact (Kd.R_mono (Kd.R_far (p := ⟨gb362, 1, none⟩) (Kd.R_far (p := ⟨gb362, 0, none⟩) (Kd.R_types HO357.out BK362.out (by decide)) (fun _ hk => hk.2) (.slice Ao87 t355.length co87)) (fun _ hk => hk.2) (.slice Ao92 t358.length co92)) (fun _ h_ => h_.1))))) (Kd.R_lt (by (with_reducible repeat (first | apply Kd.R_alloc | apply Kd.R_drewN | apply Kd.R_drew)); exact (Kd.R_mono (Kd.R_far (p := ⟨gb362, 1, none⟩) (Kd.R_far (p := ⟨gb362, 0, none⟩) (Kd.R_types HO360.out BK362.out (by decide)) (fun _ hk => hk.2) (.slice Ao87 t355.length co87)) (fun _ hk => hk.2) (.slice Ao92 t358.length co92)) (fun _ h_ => h_.1))))) (below_size (mbs_ HB.out))); have HO368 := Aside0.mk (Kd.R_lower (Kd.R_new' (Kd.R_new' ho1 (Kd.R_lt (by (with_reducible repeat (first | apply Kd.R_alloc | apply Kd.R_drewN | apply Kd.R_drew)); exact (Kd.R_mono (Kd.R_far (p := ⟨gb362, 1, none⟩) (Kd.R_far (p := ⟨gb362, 0, none⟩) (Kd.R_types HO357.out BK362.out (by decide)) (fun _ hk => hk.2) (.slice Ao87 t355.length co87)) (fun _ hk => hk.2) (.slice Ao92 t358.length co92)) (fun _ h_ => h_.1))))) (Kd.R_lt (by (with_reducible repeat (first | apply Kd.R_alloc | apply Kd.R_drewN | apply Kd.R_drew)); exact (Kd.R_mono (Kd.R_far (p := ⟨gb362, 1, none⟩) (Kd.R_far (p := ⟨gb362, 0, none⟩) (Kd.R_types HO360.out BK362.out (by decide)) (fun _ hk => hk.2) (.slice Ao87 t355.length co87)) (fun _ hk => hk.2) (.slice Ao92 t358.length co92)) (fun _ h_ => h_.1))))) (below_size (mbs_ HB.out))); replace HO357 := Aside0.mk (Kd.R_mono (Kd.R_told (Kd.R_told (Kd.R_old (by (with_reducible repeat (first | apply Kd.R_alloc | apply Kd.R_drewN | apply Kd.R_drew)); exact (Kd.R_mono (Kd.R_far (p := ⟨gb362, 1, none⟩) (Kd.R_far (p := ⟨gb362, 0, none⟩) (Kd.R_types HO357.out BK362.out (by decide)) (fun _ hk => hk.2) (.slice Ao87 t355.length co87)) (fun _ hk => hk.2) (.slice Ao92 t358.length co92)) (fun _ h_ => h_.1))) hb) (Kd.R_base ho0)) (Kd.R_base ho1)) (fun _ h_ => h_.1)); replace HO360 := Aside0.mk (Kd.R_mono (Kd.R_told (Kd.R_told (Kd.R_old (by (with_reducible repeat (first | apply Kd.R_alloc | apply Kd.R_drewN | apply Kd.R_drew)); exact (Kd.R_mono (Kd.R_far (p := ⟨gb362, 1, none⟩) (Kd.R_far (p := ⟨gb362, 0, none⟩) (Kd.R_types HO360.out BK362.out (by decide)) (fun _ hk => hk.2) (.slice Ao87 t355.length co87)) (fun _ hk => hk.2) (.slice Ao92 t358.length co92)) (fun _ h_ => h_.1))) hb) (Kd.R_base ho0)) (Kd.R_base ho1)) (fun _ h_ => h_.1)); replace BK347 := Aside0.mk (blk_below (g := gb347) (o := .cells #[.slice A0_0 l0_0.length c0_0, .slice A0_1 l0_1.length c0_1] 25 (0, 0)) (by (with_reducible repeat (first | refine blk_drewN ?_ _ | refine blk_drew ?_ | refine blk_alloc ?_ _)); refine blk_far ?_ NB347_362.out _; (with_reducible repeat (first | refine blk_drewN ?_ _ | refine blk_drew ?_ | refine blk_alloc ?_ _)); refine blk_far ?_ NB347_362.out _; (with_reducible repeat (first | refine blk_drewN ?_ _ | refine blk_drew ?_ | refine blk_alloc ?_ _)); exact BK347.out) hb); replace BK348 := Aside0.mk (blk_below (g := gb348) (o := .cells #[.slice A1_0 l1_0.length c1_0, .slice A1_1 l1_1.length c1_1] 27 (0, 0)) (by (with_reducible repeat (first | refine blk_drewN ?_ _ | refine blk_drew ?_ | refine blk_alloc ?_ _)); refine blk_far ?_ NB348_362.out _; (with_reducible repeat (first | refine blk_drewN ?_ _ | refine blk_drew ?_ | refine blk_alloc ?_ _)); refine blk_far ?_ NB348_362.out _; (with_reducible repeat (first | refine blk_drewN ?_ _ | refine blk_drew ?_ | refine blk_alloc ?_ _)); exact BK348.out) hb); replace BK349 := Aside0.mk (blk_below (g := gb349) (o := .cells #[.slice A2_0 l2_0.length c2_0, .slice A2_1 l2_1.length c2_1] 27 (0, 0)) (by (with_reducible repeat (first | refine blk_drewN ?_ _ | refine blk_drew ?_ | refine blk_alloc ?_ _)); refine blk_far ?_ NB349_362.out _; (with_reducible repeat (first | refine blk_drewN ?_ _ | refine blk_drew ?_ | refine blk_alloc ?_ _)); refine blk_far ?_ NB349_362.out _; (with_reducible repeat (first | refine blk_drewN ?_ _ | refine blk_drew ?_ | refine blk_alloc ?_ _)); exact BK349.out) hb); replace BK362 := Aside0.mk (blk_below (g := gb362) (o := .cells #[.slice Ao87 t355.length co87, .slice Ao92 t358.length co92] 27 (0, 0)) (by (with_reducible repeat (first | refine blk_drewN ?_ _ | refine blk_drew ?_ | refine blk_alloc ?_ _)); refine blk_put (cs := #[.slice Ao87 t355.length co87, .slice none 0 0]) ?_ 1 _ rfl; (with_reducible repeat (first | refine blk_drewN ?_ _ | refine blk_drew ?_ | refine blk_alloc ?_ _)); refine blk_put (cs := #[.slice none 0 0, .slice none 0 0]) ?_ 0 _ rfl; (with_reducible repeat (first | refine blk_drewN ?_ _ | refine blk_drew ?_ | refine blk_alloc ?_ _)); exact BK362.out) hb); replace HB := Aside0.mk (below_step (mbs_ HB.out) hb); (try clear hb); (try clear hb2); (try clear hk); (try clear hi); (try clear ho0); (try clear ho1)) | ((with_reducible refine gate_dst (N := 9) rfl ?_); refine box_event ?hg (N := 9) ?hd (cs := #[.slice none 0 0, .slice none 0 0]) (t := 27) ?hr ?_; (case hd => rfl); (case hg => rfl); (case hr => first | (go_simp; done) | (go_simp; rfl)); intro gb370 hg w95 hbox hb; replace HO357 := Aside0.mk (Kd.R_below (mr_ HO357.out) hb); replace HO360 := Aside0.mk (Kd.R_below (mr_ HO360.out) hb); replace HO365 := Aside0.mk (Kd.R_below (mr_ HO365.out) hb); replace HO368 := Aside0.mk (Kd.R_below (mr_ HO368.out) hb); have BK370 := Aside0.mk (hbox); have GW370 := Aside0.mk (gw_ hg (mbs_ HB.out)); have GE370 := Aside0.mk (gw_ hg (mbs_ HB.out)); replace HB := Aside0.mk (below_step (mbs_ HB.out) hb); have NB347_370 := Aside0.mk (nb_ hg (bk_ BK347.out)); have NB370_347 := Aside0.mk (nc_ hg (bk_ BK347.out)); replace BK347 := Aside0.mk (blk_below (bk_ BK347.out) hb); have NB348_370 := Aside0.mk (nb_ hg (bk_ BK348.out)); have NB370_348 := Aside0.mk (nc_ hg (bk_ BK348.out)); replace BK348 := Aside0.mk (blk_below (bk_ BK348.out) hb); have NB349_370 := Aside0.mk (nb_ hg (bk_ BK349.out)); have NB370_349 := Aside0.mk (nc_ hg (bk_ BK349.out)); replace BK349 := Aside0.mk (blk_below (bk_ BK349.out) hb); have NB362_370 := Aside0.mk (nb_ hg (bk_ BK362.out)); have NB370_362 := Aside0.mk (nc_ hg (bk_ BK362.out)); replace BK362 := Aside0.mk (blk_below (bk_ BK362.out) hb); clear hb hbox hg; obtain ⟨Ao96, co96, eo96⟩ := Kd.R_slice HO365.out; subst eo96; have hnb97 := NB370_347.out; have hnc97 := NB347_370.out; have hnb98 := NB370_348.out; have hnc98 := NB348_370.out; have hnb99 := NB370_349.out; have hnc99 := NB349_370.out; have hnb100 := NB370_362.out; have hnc100 := NB362_370.out; have hcz101_0 := bc0_ BK370.out; have hcz101_1 := bc1_ BK370.out; have hfz101_0 := blk_frozen BK370.out 0; have hfz101_1 := blk_frozen BK370.out 1; obtain ⟨Ao102, co102, eo102⟩ := Kd.R_slice HO368.out; subst eo102))
       have n0_ : Aside0 (Kd.R (Kd.int .i64) 3 ((w95.setCell ⟨gb370, 0, none⟩ (.slice Ao96 t363.length co96)).setCell ⟨gb370, 1, none⟩ (.slice Ao102 t366.length co102)) w.heap.size (fun k_ => some k_ ≠ (.slice Ao92 t358.length co92 : Value).ownBlock ∧ some k_ ≠ (.slice Ao96 t363.length co96 : Value).ownBlock ∧ some k_ ≠ (.slice Ao102 t366.length co102 : Value).ownBlock) (.slice Ao87 t355.length co87) t355) := ⟨by (with_reducible repeat (first | apply Kd.R_alloc | apply Kd.R_drewN | apply Kd.R_drew)); exact Kd.R_mono (Kd.R_far (p := ⟨gb370, 1, none⟩) (Kd.R_far (p := ⟨gb370, 0, none⟩) (Kd.R_types HO357.out BK370.out (by decide)) (fun _ hk => hk.2) (.slice Ao96 t363.length co96)) (fun _ hk => hk.2) (.slice Ao102 t366.length co102)) (fun _ hk => ⟨hk.1.1.1, ⟨hk.1.1.2, hk.1.2⟩⟩)⟩
       have n1_ : Aside0 (Kd.R (Kd.int .i64) 3 ((w95.setCell ⟨gb370, 0, none⟩ (.slice Ao96 t363.length co96)).setCell ⟨gb370, 1, none⟩ (.slice Ao102 t366.length co102)) w.heap.size (fun k_ => some k_ ≠ (.slice Ao87 t355.length co87 : Value).ownBlock ∧ some k_ ≠ (.slice Ao96 t363.length co96 : Value).ownBlock ∧ some k_ ≠ (.slice Ao102 t366.length co102 : Value).ownBlock) (.slice Ao92 t358.length co92) t358) := ⟨by (with_reducible repeat (first | apply Kd.R_alloc | apply Kd.R_drewN | apply Kd.R_drew)); exact Kd.R_mono (Kd.R_far (p := ⟨gb370, 1, none⟩) (Kd.R_far (p := ⟨gb370, 0, none⟩) (Kd.R_types HO360.out BK370.out (by decide)) (fun _ hk => hk.2) (.slice Ao96 t363.length co96)) (fun _ hk => hk.2) (.slice Ao102 t366.length co102)) (fun _ hk => ⟨hk.1.1.1, ⟨hk.1.1.2, hk.1.2⟩⟩)⟩
       have n2_ : Aside0 (Kd.R (Kd.int .i64) 3 ((w95.setCell ⟨gb370, 0, none⟩ (.slice Ao96 t363.length co96)).setCell ⟨gb370, 1, none⟩ (.slice Ao102 t366.length co102)) w.heap.size (fun k_ => some k_ ≠ (.slice Ao87 t355.length co87 : Value).ownBlock ∧ some k_ ≠ (.slice Ao92 t358.length co92 : Value).ownBlock ∧ some k_ ≠ (.slice Ao102 t366.length co102 : Value).ownBlock) (.slice Ao96 t363.length co96) t363) := ⟨by (with_reducible repeat (first | apply Kd.R_alloc | apply Kd.R_drewN | apply Kd.R_drew)); exact Kd.R_mono (Kd.R_far (p := ⟨gb370, 1, none⟩) (Kd.R_far (p := ⟨gb370, 0, none⟩) (Kd.R_types HO365.out BK370.out (by decide)) (fun _ hk => hk.2) (.slice Ao96 t363.length co96)) (fun _ hk => hk.2) (.slice Ao102 t366.length co102)) (fun _ hk => ⟨hk.1.1.2, ⟨hk.1.2, hk.1.1.1⟩⟩)⟩
       have n3_ : Aside0 (Kd.R (Kd.int .i64) 3 ((w95.setCell ⟨gb370, 0, none⟩ (.slice Ao96 t363.length co96)).setCell ⟨gb370, 1, none⟩ (.slice Ao102 t366.length co102)) w.heap.size (fun k_ => some k_ ≠ (.slice Ao87 t355.length co87 : Value).ownBlock ∧ some k_ ≠ (.slice Ao92 t358.length co92 : Value).ownBlock ∧ some k_ ≠ (.slice Ao96 t363.length co96 : Value).ownBlock) (.slice Ao102 t366.length co102) t366) := ⟨by (with_reducible repeat (first | apply Kd.R_alloc | apply Kd.R_drewN | apply Kd.R_drew)); exact Kd.R_mono (Kd.R_far (p := ⟨gb370, 1, none⟩) (Kd.R_far (p := ⟨gb370, 0, none⟩) (Kd.R_types HO368.out BK370.out (by decide)) (fun _ hk => hk.2) (.slice Ao96 t363.length co96)) (fun _ hk => hk.2) (.slice Ao102 t366.length co102)) (fun _ hk => ⟨hk.1.1.2, ⟨hk.1.2, hk.1.1.1⟩⟩)⟩
       have n4_ : Aside0 (((w95.setCell ⟨gb370, 0, none⟩ (.slice Ao96 t363.length co96)).setCell ⟨gb370, 1, none⟩ (.slice Ao102 t366.length co102)).heap[gb347]? = some (.cells #[.slice A0_0 l0_0.length c0_0, .slice A0_1 l0_1.length c0_1] 25 (0, 0))) := ⟨by (with_reducible repeat (first | refine blk_drewN ?_ _ | refine blk_drew ?_ | refine blk_alloc ?_ _)); refine blk_far ?_ NB347_370.out _; (with_reducible repeat (first | refine blk_drewN ?_ _ | refine blk_drew ?_ | refine blk_alloc ?_ _)); refine blk_far ?_ NB347_370.out _; (with_reducible repeat (first | refine blk_drewN ?_ _ | refine blk_drew ?_ | refine blk_alloc ?_ _)); exact BK347.out⟩
       have n5_ : Aside0 (((w95.setCell ⟨gb370, 0, none⟩ (.slice Ao96 t363.length co96)).setCell ⟨gb370, 1, none⟩ (.slice Ao102 t366.length co102)).heap[gb348]? = some (.cells #[.slice A1_0 l1_0.length c1_0, .slice A1_1 l1_1.length c1_1] 27 (0, 0))) := ⟨by (with_reducible repeat (first | refine blk_drewN ?_ _ | refine blk_drew ?_ | refine blk_alloc ?_ _)); refine blk_far ?_ NB348_370.out _; (with_reducible repeat (first | refine blk_drewN ?_ _ | refine blk_drew ?_ | refine blk_alloc ?_ _)); refine blk_far ?_ NB348_370.out _; (with_reducible repeat (first | refine blk_drewN ?_ _ | refine blk_drew ?_ | refine blk_alloc ?_ _)); exact BK348.out⟩
       have n6_ : Aside0 (((w95.setCell ⟨gb370, 0, none⟩ (.slice Ao96 t363.length co96)).setCell ⟨gb370, 1, none⟩ (.slice Ao102 t366.length co102)).heap[gb349]? = some (.cells #[.slice A2_0 l2_0.length c2_0, .slice A2_1 l2_1.length c2_1] 27 (0, 0))) := ⟨by (with_reducible repeat (first | refine blk_drewN ?_ _ | refine blk_drew ?_ | refine blk_alloc ?_ _)); refine blk_far ?_ NB349_370.out _; (with_reducible repeat (first | refine blk_drewN ?_ _ | refine blk_drew ?_ | refine blk_alloc ?_ _)); refine blk_far ?_ NB349_370.out _; (with_reducible repeat (first | refine blk_drewN ?_ _ | refine blk_drew ?_ | refine blk_alloc ?_ _)); exact BK349.out⟩
       have n7_ : Aside0 (((w95.setCell ⟨gb370, 0, none⟩ (.slice Ao96 t363.length co96)).setCell ⟨gb370, 1, none⟩ (.slice Ao102 t366.length co102)).heap[gb362]? = some (.cells #[.slice Ao87 t355.length co87, .slice Ao92 t358.length co92] 27 (0, 0))) := ⟨by (with_reducible repeat (first | refine blk_drewN ?_ _ | refine blk_drew ?_ | refine blk_alloc ?_ _)); refine blk_far ?_ NB362_370.out _; (with_reducible repeat (first | refine blk_drewN ?_ _ | refine blk_drew ?_ | refine blk_alloc ?_ _)); refine blk_far ?_ NB362_370.out _; (with_reducible repeat (first | refine blk_drewN ?_ _ | refine blk_drew ?_ | refine blk_alloc ?_ _)); exact BK362.out⟩
       have n8_ : Aside0 (((w95.setCell ⟨gb370, 0, none⟩ (.slice Ao96 t363.length co96)).setCell ⟨gb370, 1, none⟩ (.slice Ao102 t366.length co102)).heap[gb370]? = some (.cells #[.slice Ao96 t363.length co96, .slice Ao102 t366.length co102] 27 (0, 0))) := ⟨by (with_reducible repeat (first | refine blk_drewN ?_ _ | refine blk_drew ?_ | refine blk_alloc ?_ _)); refine blk_put (cs := #[.slice Ao96 t363.length co96, .slice none 0 0]) ?_ 1 _ rfl; (with_reducible repeat (first | refine blk_drewN ?_ _ | refine blk_drew ?_ | refine blk_alloc ?_ _)); refine blk_put (cs := #[.slice none 0 0, .slice none 0 0]) ?_ 0 _ rfl; (with_reducible repeat (first | refine blk_drewN ?_ _ | refine blk_drew ?_ | refine blk_alloc ?_ _)); exact BK370.out⟩
       have n9_ : Aside0 (Below w.heap.size w ((w95.setCell ⟨gb370, 0, none⟩ (.slice Ao96 t363.length co96)).setCell ⟨gb370, 1, none⟩ (.slice Ao102 t366.length co102))) := ⟨mbs_ HB.out⟩
       (try clear HO357)
       (try clear HO360)
       (try clear HO365)
       (try clear HO368)
       (try clear BK347)
       (try clear BK348)
       (try clear BK349)
       (try clear BK362)
       (try clear BK370)
       (try clear HB)
       generalize ((w95.setCell ⟨gb370, 0, none⟩ (.slice Ao96 t363.length co96)).setCell ⟨gb370, 1, none⟩ (.slice Ao102 t366.length co102)) = w103 at n0_ n1_ n2_ n3_ n4_ n5_ n6_ n7_ n8_ n9_ ⊢
       have HO357 := n0_
       have HO360 := n1_
       have HO365 := n2_
       have HO368 := n3_
       have BK347 := n4_
       have BK348 := n5_
       have BK349 := n6_
       have BK362 := n7_
       have BK370 := n8_
       have HB := n9_
       clear n0_ n1_ n2_ n3_ n4_ n5_ n6_ n7_ n8_ n9_
       replace HO357 := Aside0.mk (Kd.R_drew HO357.out)
       replace HO360 := Aside0.mk (Kd.R_drew HO360.out)
       replace HO365 := Aside0.mk (Kd.R_drew HO365.out)
       replace HO368 := Aside0.mk (Kd.R_drew HO368.out)
       replace BK347 := Aside0.mk (blk_drew BK347.out)
       replace BK348 := Aside0.mk (blk_drew BK348.out)
       replace BK349 := Aside0.mk (blk_drew BK349.out)
       replace BK362 := Aside0.mk (blk_drew BK362.out)
       replace BK370 := Aside0.mk (blk_drew BK370.out)
       replace HB := Aside0.mk (below_drew1 HB.out)
       refine start_ (n := 24) (S := fun w' => w'.cell? ⟨gb362, 0, none⟩ = some (.slice Ao87 t355.length co87) ∧ w'.cell? ⟨gb362, 1, none⟩ = some (.slice Ao92 t358.length co92) ∧ w'.cell? ⟨gb370, 0, none⟩ = some (.slice Ao96 t363.length co96) ∧ w'.cell? ⟨gb370, 1, none⟩ = some (.slice Ao102 t366.length co102) ∧ w'.cell? ⟨gb348, 0, none⟩ = some (.slice A1_0 l1_0.length c1_0) ∧ w'.cell? ⟨gb348, 1, none⟩ = some (.slice A1_1 l1_1.length c1_1) ∧ w'.cell? ⟨gb349, 0, none⟩ = some (.slice A2_0 l2_0.length c2_0) ∧ w'.cell? ⟨gb349, 1, none⟩ = some (.slice A2_1 l2_1.length c2_1)) (ds := []) #[false, false, false, false, false, false, false, false, false, false, false, false, false, false, false, false, false, false, false, false, false, false, false, false] (by kernel_rfl) rfl rfl ⟨(blk_cell BK362.out 0).trans rfl, (blk_cell BK362.out 1).trans rfl, (blk_cell BK370.out 0).trans rfl, (blk_cell BK370.out 1).trans rfl, (blk_cell BK348.out 0).trans rfl, (blk_cell BK348.out 1).trans rfl, (blk_cell BK349.out 0).trans rfl, (blk_cell BK349.out 1).trans rfl⟩ (fun hHeld => ?_); refine with_tabW scarfjointlaw06_MorphismSame.tab5 scarfjointlaw06_MorphismSame.bits5 (fun HT_ HW_ => ?_)
       generalize w103.drew = w104 at HO357 HO360 HO365 HO368 BK347 BK348 BK349 BK362 BK370 HB hHeld ⊢
       refine pure_ (i := 0) (N := some 39) (v := ?_) (a' := ?_) #[true, false, false, false, false, false, false, false, false, false, false, false, false, false, false, false, false, false, false, false, false, false, false, false] rfl rfl (any_of HT_.out (by kernel_rfl)) (fun _ _ _ h => h) (Or.inl ⟨by rfl, ?_⟩) ?_ ?_
       rotate_left
       ·intro w'
        go_simp
        with_reducible rfl
       rotate_left
       ·simp only [Act.put, List.setIfInBounds_toArray, List.set_cons_zero, List.set_cons_succ, i64_w, i32_w]
        rfl
       refine pure_ (i := 1) (N := some 40) (v := ?_) (a' := ?_) #[true, true, false, false, false, false, false, false, false, false, false, false, false, false, false, false, false, false, false, false, false, false, false, false] rfl rfl (any_of HT_.out (by kernel_rfl)) (fun _ _ _ h => h) (Or.inl ⟨by rfl, ?_⟩) ?_ ?_
       rotate_left
       ·intro w'
        go_simp
        with_reducible rfl
       rotate_left
       ·simp only [Act.put, List.setIfInBounds_toArray, List.set_cons_zero, List.set_cons_succ, i64_w, i32_w]
        rfl
       refine pure_ (i := 2) (N := some 41) (v := ?_) (a' := ?_) #[true, true, true, false, false, false, false, false, false, false, false, false, false, false, false, false, false, false, false, false, false, false, false, false] rfl rfl (any_of HT_.out (by kernel_rfl)) (fun _ _ _ h => h) (Or.inl ⟨by rfl, ?_⟩) ?_ ?_
       rotate_left
       ·intro w'
        go_simp
        with_reducible rfl
       rotate_left
       ·simp only [Act.put, List.setIfInBounds_toArray, List.set_cons_zero, List.set_cons_succ, i64_w, i32_w]
        rfl
       refine pure_ (i := 3) (N := some 42) (v := ?_) (a' := ?_) #[true, true, true, true, false, false, false, false, false, false, false, false, false, false, false, false, false, false, false, false, false, false, false, false] rfl rfl (any_of HT_.out (by kernel_rfl)) (fun _ _ _ h => h) (Or.inl ⟨by rfl, ?_⟩) ?_ ?_
       rotate_left
       ·intro w'
        go_simp
        with_reducible rfl
       rotate_left
       ·simp only [Act.put, List.setIfInBounds_toArray, List.set_cons_zero, List.set_cons_succ, i64_w, i32_w]
        rfl
       refine take_ (i := 4) (N := some 43) (v := ?_) (a' := ?_) #[true, true, true, true, true, false, false, false, false, false, false, false, false, false, false, false, false, false, false, false, false, false, false, false] rfl rfl (take_ofW HT_.out HW_.out (by kernel_rfl)) (fun _ _ _ h => h) (Or.inl ⟨by rfl, ?_⟩) hHeld ?_ ?_
       rotate_left
       ·rintro w' ⟨s0, s1, s2, s3, s4, s5, s6, s7⟩
        go_simp
        with_reducible rfl
       rotate_left
       ·simp only [Act.put, List.setIfInBounds_toArray, List.set_cons_zero, List.set_cons_succ, i64_w, i32_w]
        rfl
       refine take_ (i := 5) (N := some 44) (v := ?_) (a' := ?_) #[true, true, true, true, true, true, false, false, false, false, false, false, false, false, false, false, false, false, false, false, false, false, false, false] rfl rfl (take_ofW HT_.out HW_.out (by kernel_rfl)) (fun _ _ _ h => h) (Or.inl ⟨by rfl, ?_⟩) hHeld ?_ ?_
       rotate_left
       ·rintro w' ⟨s0, s1, s2, s3, s4, s5, s6, s7⟩
        go_simp
        with_reducible rfl
       rotate_left
       ·simp only [Act.put, List.setIfInBounds_toArray, List.set_cons_zero, List.set_cons_succ, i64_w, i32_w]
        rfl
       refine one_ (i := 6) (N := some 45) #[true, true, true, true, true, true, true, false, false, false, false, false, false, false, false, false, false, false, false, false, false, false, false, false] rfl rfl (one_of HT_.out (by kernel_rfl)) (by decide) (fun K hK => ?_)
       refine goes_ Try.func27 (by kernel_rfl) rfl #[.agg #[.slice Ao87 t355.length co87, .slice Ao92 t358.length co92], .agg #[.slice Ao96 t363.length co96, .slice Ao102 t366.length co102]] (by rfl) rfl rfl (by (try simp only [List.map_toArray, List.map_cons, List.map_nil]); first | done | rfl | (simp only [List.length_drop, List.length_take]; rfl)) ?_
       with_reducible refine (scarfjointref06_Same.calls kj3 _ _ t355 _ _ t358 _ _ t363 _ _ t366 true _ ?side1 ?side2 ?side3 ?side4 ?side5 ?side6 ?side7 ?side8 A45.out).mono ?_
       (case side1 => exact mc_ (Kd.R_reads' HO357.out).2.2)
       (case side2 => exact (Kd.R_reads' HO357.out).2.1)
       (case side3 => exact mc_ (Kd.R_reads' HO360.out).2.2)
       (case side4 => exact (Kd.R_reads' HO360.out).2.1)
       (case side5 => exact mc_ (Kd.R_reads' HO365.out).2.2)
       (case side6 => exact (Kd.R_reads' HO365.out).2.1)
       (case side7 => exact mc_ (Kd.R_reads' HO368.out).2.2)
       (case side8 => exact (Kd.R_reads' HO368.out).2.1)
       rintro e w105 ⟨rfl, hb⟩
       refine ⟨_, rfl, ?_⟩
       replace HO357 := Aside0.mk (Kd.R_below (mr_ HO357.out) hb)
       replace HO360 := Aside0.mk (Kd.R_below (mr_ HO360.out) hb)
       replace HO365 := Aside0.mk (Kd.R_below (mr_ HO365.out) hb)
       replace HO368 := Aside0.mk (Kd.R_below (mr_ HO368.out) hb)
       replace BK347 := Aside0.mk (blk_below (bk_ BK347.out) hb)
       replace BK348 := Aside0.mk (blk_below (bk_ BK348.out) hb)
       replace BK349 := Aside0.mk (blk_below (bk_ BK349.out) hb)
       replace BK362 := Aside0.mk (blk_below (bk_ BK362.out) hb)
       replace BK370 := Aside0.mk (blk_below (bk_ BK370.out) hb)
       replace HB := Aside0.mk (below_step (mbs_ HB.out) hb)
       (try clear hb)
       (try clear hb2)
       (try clear hk)
       (try clear hi)
       refine hK.out _ _ ⟨(blk_cell BK362.out 0).trans rfl, (blk_cell BK362.out 1).trans rfl, (blk_cell BK370.out 0).trans rfl, (blk_cell BK370.out 1).trans rfl, (blk_cell BK348.out 0).trans rfl, (blk_cell BK348.out 1).trans rfl, (blk_cell BK349.out 0).trans rfl, (blk_cell BK349.out 1).trans rfl⟩ (fun hHeld => ?_)
       clear hK K
       refine norm_ (a' := ?_) ?_ ?_
       rotate_left
       ·show Act.put _ (some 45) _ = _
        simp only [Act.put, List.setIfInBounds_toArray, List.set_cons_zero, List.set_cons_succ, i64_w, i32_w]
        rfl
       refine pure_ (i := 7) (N := some 46) (v := ?_) (a' := ?_) #[true, true, true, true, true, true, true, true, false, false, false, false, false, false, false, false, false, false, false, false, false, false, false, false] rfl rfl (any_of HT_.out (by kernel_rfl)) (fun _ _ _ h => h) (Or.inl ⟨by rfl, ?_⟩) ?_ ?_
       rotate_left
       ·intro w'
        go_simp
        with_reducible rfl
       rotate_left
       ·simp only [Act.put, List.setIfInBounds_toArray, List.set_cons_zero, List.set_cons_succ, i64_w, i32_w]
        rfl
       refine pure_ (i := 8) (N := some 47) (v := ?_) (a' := ?_) #[true, true, true, true, true, true, true, true, true, false, false, false, false, false, false, false, false, false, false, false, false, false, false, false] rfl rfl (any_of HT_.out (by kernel_rfl)) (fun _ _ _ h => h) (Or.inl ⟨by rfl, ?_⟩) ?_ ?_
       rotate_left
       ·intro w'
        go_simp
        with_reducible rfl
       rotate_left
       ·simp only [Act.put, List.setIfInBounds_toArray, List.set_cons_zero, List.set_cons_succ, i64_w, i32_w]
        rfl
       refine take_ (i := 9) (N := some 48) (v := ?_) (a' := ?_) #[true, true, true, true, true, true, true, true, true, true, false, false, false, false, false, false, false, false, false, false, false, false, false, false] rfl rfl (take_ofW HT_.out HW_.out (by kernel_rfl)) (fun _ _ _ h => h) (Or.inl ⟨by rfl, ?_⟩) hHeld ?_ ?_
       rotate_left
       ·rintro w' ⟨s0, s1, s2, s3, s4, s5, s6, s7⟩
        go_simp
        with_reducible rfl
       rotate_left
       ·simp only [Act.put, List.setIfInBounds_toArray, List.set_cons_zero, List.set_cons_succ, i64_w, i32_w]
        rfl
       refine take_ (i := 10) (N := some 49) (v := ?_) (a' := ?_) #[true, true, true, true, true, true, true, true, true, true, true, false, false, false, false, false, false, false, false, false, false, false, false, false] rfl rfl (take_ofW HT_.out HW_.out (by kernel_rfl)) (fun _ _ _ h => h) (Or.inl ⟨by rfl, ?_⟩) hHeld ?_ ?_
       rotate_left
       ·rintro w' ⟨s0, s1, s2, s3, s4, s5, s6, s7⟩
        go_simp
        with_reducible rfl
       rotate_left
       ·simp only [Act.put, List.setIfInBounds_toArray, List.set_cons_zero, List.set_cons_succ, i64_w, i32_w]
        rfl
       refine take_ (i := 12) (N := some 51) (v := ?_) (a' := ?_) #[true, true, true, true, true, true, true, true, true, true, true, false, true, false, false, false, false, false, false, false, false, false, false, false] rfl rfl (take_ofW HT_.out HW_.out (by kernel_rfl)) (fun _ _ _ h => h) (Or.inl ⟨by rfl, ?_⟩) hHeld ?_ ?_
       rotate_left
       ·rintro w' ⟨s0, s1, s2, s3, s4, s5, s6, s7⟩
        go_simp
        with_reducible rfl
       rotate_left
       ·simp only [Act.put, List.setIfInBounds_toArray, List.set_cons_zero, List.set_cons_succ, i64_w, i32_w]
        rfl
       refine take_ (i := 13) (N := some 52) (v := ?_) (a' := ?_) #[true, true, true, true, true, true, true, true, true, true, true, false, true, true, false, false, false, false, false, false, false, false, false, false] rfl rfl (take_ofW HT_.out HW_.out (by kernel_rfl)) (fun _ _ _ h => h) (Or.inl ⟨by rfl, ?_⟩) hHeld ?_ ?_
       rotate_left
       ·rintro w' ⟨s0, s1, s2, s3, s4, s5, s6, s7⟩
        go_simp
        with_reducible rfl
       rotate_left
       ·simp only [Act.put, List.setIfInBounds_toArray, List.set_cons_zero, List.set_cons_succ, i64_w, i32_w]
        rfl
       refine one_ (i := 11) (N := some 50) #[true, true, true, true, true, true, true, true, true, true, true, true, true, true, false, false, false, false, false, false, false, false, false, false] rfl rfl (one_of HT_.out (by kernel_rfl)) (by decide) (fun K hK => ?_)
       refine goes_ Try.func28 (by kernel_rfl) rfl #[.agg #[.slice A1_0 l1_0.length c1_0, .slice A1_1 l1_1.length c1_1], .agg #[.slice A2_0 l2_0.length c2_0, .slice A2_1 l2_1.length c2_1]] (by rfl) rfl rfl (by (try simp only [List.map_toArray, List.map_cons, List.map_nil]); first | done | rfl | (simp only [List.length_drop, List.length_take]; rfl)) ?_
       with_reducible refine (morphism_Same.calls kj3 _ _ l1_0 _ _ l1_1 _ _ l2_0 _ _ l2_1 t372 _ ?side1 ?side2 ?side3 ?side4 ?side5 ?side6 ?side7 ?side8 A47.out).mono ?_
       (case side1 => exact mc_ (Kd.C_below HR1_0.out HB.out))
       (case side2 => exact HC1_0.out)
       (case side3 => exact mc_ (Kd.C_below HR1_1.out HB.out))
       (case side4 => exact HC1_1.out)
       (case side5 => exact mc_ (Kd.C_below HR2_0.out HB.out))
       (case side6 => exact HC2_0.out)
       (case side7 => exact mc_ (Kd.C_below HR2_1.out HB.out))
       (case side8 => exact HC2_1.out)
       rintro e w106 ⟨rfl, hb⟩
       refine ⟨_, rfl, ?_⟩
       replace HO357 := Aside0.mk (Kd.R_below (mr_ HO357.out) hb)
       replace HO360 := Aside0.mk (Kd.R_below (mr_ HO360.out) hb)
       replace HO365 := Aside0.mk (Kd.R_below (mr_ HO365.out) hb)
       replace HO368 := Aside0.mk (Kd.R_below (mr_ HO368.out) hb)
       replace BK347 := Aside0.mk (blk_below (bk_ BK347.out) hb)
       replace BK348 := Aside0.mk (blk_below (bk_ BK348.out) hb)
       replace BK349 := Aside0.mk (blk_below (bk_ BK349.out) hb)
       replace BK362 := Aside0.mk (blk_below (bk_ BK362.out) hb)
       replace BK370 := Aside0.mk (blk_below (bk_ BK370.out) hb)
       replace HB := Aside0.mk (below_step (mbs_ HB.out) hb)
       (try clear hb)
       (try clear hb2)
       (try clear hk)
       (try clear hi)
       refine hK.out _ _ ⟨(blk_cell BK362.out 0).trans rfl, (blk_cell BK362.out 1).trans rfl, (blk_cell BK370.out 0).trans rfl, (blk_cell BK370.out 1).trans rfl, (blk_cell BK348.out 0).trans rfl, (blk_cell BK348.out 1).trans rfl, (blk_cell BK349.out 0).trans rfl, (blk_cell BK349.out 1).trans rfl⟩ (fun hHeld => ?_)
       clear hK K
       refine norm_ (a' := ?_) ?_ ?_
       rotate_left
       ·show Act.put _ (some 50) _ = _
        simp only [Act.put, List.setIfInBounds_toArray, List.set_cons_zero, List.set_cons_succ, i64_w, i32_w]
        rfl
       refine one_ (i := 14) (N := some 53) #[true, true, true, true, true, true, true, true, true, true, true, true, true, true, true, false, false, false, false, false, false, false, false, false] rfl rfl (one_of HT_.out (by kernel_rfl)) (by decide) (fun K hK => ?_)
       refine goes_ Try.func27 (by kernel_rfl) rfl #[.agg #[.slice A1_0 l1_0.length c1_0, .slice A1_1 l1_1.length c1_1], .agg #[.slice A2_0 l2_0.length c2_0, .slice A2_1 l2_1.length c2_1]] (by rfl) rfl rfl (by (try simp only [List.map_toArray, List.map_cons, List.map_nil]); first | done | rfl | (simp only [List.length_drop, List.length_take]; rfl)) ?_
       with_reducible refine (scarfjointref06_Same.calls kj3 _ _ l1_0 _ _ l1_1 _ _ l2_0 _ _ l2_1 t373 _ ?side1 ?side2 ?side3 ?side4 ?side5 ?side6 ?side7 ?side8 A48.out).mono ?_
       (case side1 => exact mc_ (Kd.C_below HR1_0.out HB.out))
       (case side2 => exact HC1_0.out)
       (case side3 => exact mc_ (Kd.C_below HR1_1.out HB.out))
       (case side4 => exact HC1_1.out)
       (case side5 => exact mc_ (Kd.C_below HR2_0.out HB.out))
       (case side6 => exact HC2_0.out)
       (case side7 => exact mc_ (Kd.C_below HR2_1.out HB.out))
       (case side8 => exact HC2_1.out)
       rintro e w107 ⟨rfl, hb⟩
       refine ⟨_, rfl, ?_⟩
       replace HO357 := Aside0.mk (Kd.R_below (mr_ HO357.out) hb)
       replace HO360 := Aside0.mk (Kd.R_below (mr_ HO360.out) hb)
       replace HO365 := Aside0.mk (Kd.R_below (mr_ HO365.out) hb)
       replace HO368 := Aside0.mk (Kd.R_below (mr_ HO368.out) hb)
       replace BK347 := Aside0.mk (blk_below (bk_ BK347.out) hb)
       replace BK348 := Aside0.mk (blk_below (bk_ BK348.out) hb)
       replace BK349 := Aside0.mk (blk_below (bk_ BK349.out) hb)
       replace BK362 := Aside0.mk (blk_below (bk_ BK362.out) hb)
       replace BK370 := Aside0.mk (blk_below (bk_ BK370.out) hb)
       replace HB := Aside0.mk (below_step (mbs_ HB.out) hb)
       (try clear hb)
       (try clear hb2)
       (try clear hk)
       (try clear hi)
       refine hK.out _ _ ⟨(blk_cell BK362.out 0).trans rfl, (blk_cell BK362.out 1).trans rfl, (blk_cell BK370.out 0).trans rfl, (blk_cell BK370.out 1).trans rfl, (blk_cell BK348.out 0).trans rfl, (blk_cell BK348.out 1).trans rfl, (blk_cell BK349.out 0).trans rfl, (blk_cell BK349.out 1).trans rfl⟩ (fun hHeld => ?_)
       clear hK K
       refine norm_ (a' := ?_) ?_ ?_
       rotate_left
       ·show Act.put _ (some 53) _ = _
        simp only [Act.put, List.setIfInBounds_toArray, List.set_cons_zero, List.set_cons_succ, i64_w, i32_w]
        rfl
       refine pure_ (i := 15) (N := some 54) (v := ?_) (a' := ?_) #[true, true, true, true, true, true, true, true, true, true, true, true, true, true, true, true, false, false, false, false, false, false, false, false] rfl rfl (any_of HT_.out (by kernel_rfl)) (fun _ _ _ h => h) (Or.inl ⟨by rfl, ?_⟩) ?_ ?_
       rotate_left
       ·intro w'
        go_simp
        with_reducible rfl
       rotate_left
       ·simp only [Act.put, List.setIfInBounds_toArray, List.set_cons_zero, List.set_cons_succ, i64_w, i32_w]
        rfl
       refine pure_ (i := 16) (N := some 55) (v := ?_) (a' := ?_) #[true, true, true, true, true, true, true, true, true, true, true, true, true, true, true, true, true, false, false, false, false, false, false, false] rfl rfl (any_of HT_.out (by kernel_rfl)) (fun _ _ _ h => h) (Or.inl ⟨by rfl, ?_⟩) ?_ ?_
       rotate_left
       ·intro w'
        go_simp
        with_reducible rfl
       rotate_left
       ·simp only [Act.put, List.setIfInBounds_toArray, List.set_cons_zero, List.set_cons_succ, i64_w, i32_w]
        rfl
       refine pure_ (i := 17) (N := some 56) (v := ?_) (a' := ?_) #[true, true, true, true, true, true, true, true, true, true, true, true, true, true, true, true, true, true, false, false, false, false, false, false] rfl rfl (any_of HT_.out (by kernel_rfl)) (fun _ _ _ h => h) (Or.inl ⟨by rfl, ?_⟩) ?_ ?_
       rotate_left
       ·intro w'
        go_simp
        with_reducible rfl
       rotate_left
       ·simp only [Act.put, List.setIfInBounds_toArray, List.set_cons_zero, List.set_cons_succ, i64_w, i32_w]
        rfl
       refine pure_ (i := 18) (N := some 57) (v := undef) (a' := ?_) #[true, true, true, true, true, true, true, true, true, true, true, true, true, true, true, true, true, true, true, false, false, false, false, false] rfl rfl (any_of HT_.out (by kernel_rfl)) (fun _ _ _ h => h) (Or.inr ⟨by rfl, rfl⟩) ?_ ?_
       rotate_left
       ·simp only [Act.put, List.setIfInBounds_toArray, List.set_cons_zero, List.set_cons_succ, i64_w, i32_w]
        rfl
       refine pure_ (i := 19) (N := some 58) (v := undef) (a' := ?_) #[true, true, true, true, true, true, true, true, true, true, true, true, true, true, true, true, true, true, true, true, false, false, false, false] rfl rfl (any_of HT_.out (by kernel_rfl)) (fun _ _ _ h => h) (Or.inr ⟨by rfl, rfl⟩) ?_ ?_
       rotate_left
       ·simp only [Act.put, List.setIfInBounds_toArray, List.set_cons_zero, List.set_cons_succ, i64_w, i32_w]
        rfl
       refine pure_ (i := 20) (N := some 59) (v := undef) (a' := ?_) #[true, true, true, true, true, true, true, true, true, true, true, true, true, true, true, true, true, true, true, true, true, false, false, false] rfl rfl (any_of HT_.out (by kernel_rfl)) (fun _ _ _ h => h) (Or.inr ⟨by rfl, rfl⟩) ?_ ?_
       rotate_left
       ·simp only [Act.put, List.setIfInBounds_toArray, List.set_cons_zero, List.set_cons_succ, i64_w, i32_w]
        rfl
       refine pure_ (i := 21) (N := some 60) (v := undef) (a' := ?_) #[true, true, true, true, true, true, true, true, true, true, true, true, true, true, true, true, true, true, true, true, true, true, false, false] rfl rfl (any_of HT_.out (by kernel_rfl)) (fun _ _ _ h => h) (Or.inr ⟨by rfl, rfl⟩) ?_ ?_
       rotate_left
       ·simp only [Act.put, List.setIfInBounds_toArray, List.set_cons_zero, List.set_cons_succ, i64_w, i32_w]
        rfl
       refine pure_ (i := 22) (N := some 61) (v := ?_) (a' := ?_) #[true, true, true, true, true, true, true, true, true, true, true, true, true, true, true, true, true, true, true, true, true, true, true, false] rfl rfl (any_of HT_.out (by kernel_rfl)) (fun _ _ _ h => h) (Or.inl ⟨by rfl, ?_⟩) ?_ ?_
       rotate_left
       ·intro w'
        go_simp
        with_reducible rfl
       rotate_left
       ·simp only [Act.put, List.setIfInBounds_toArray, List.set_cons_zero, List.set_cons_succ, i64_w, i32_w]
        rfl
       refine pure_ (i := 23) (N := some 6) (v := ?_) (a' := ?_) #[true, true, true, true, true, true, true, true, true, true, true, true, true, true, true, true, true, true, true, true, true, true, true, true] rfl rfl (any_of HT_.out (by kernel_rfl)) (fun _ _ _ h => h) (Or.inl ⟨by rfl, ?_⟩) ?_ ?_
       rotate_left
       ·intro w'
        go_simp
        with_reducible rfl
       rotate_left
       ·simp only [Act.put, List.setIfInBounds_toArray, List.set_cons_zero, List.set_cons_succ, i64_w, i32_w]
        rfl
       refine done_ (done_of HT_.out (by kernel_rfl)) ?_
       as_aux_lemma =>
       try go_wp2
       go_ret
       exact ⟨by first | rfl | (simp [errW_none, errW_some] <;> rfl) | (simp [*, errW_none, errW_some] <;> rfl), mbs_ HB.out⟩
     ·replace c46 := Bool.eq_false_iff.mpr c46
      subst c46
      have H1 : (some false) = some r := by rw [if_neg (show ¬ (false = true) by decide)] at H; exact H
      clear H
      have H := H1
      clear H1
      obtain rfl := Option.some.inj H
      have hnb108 := NB347_348.out
      have hnc108 := NB348_347.out
      have hnb109 := NB347_349.out
      have hnc109 := NB349_347.out
      have hcz110_0 := bc0_ BK347.out
      have hcz110_1 := bc1_ BK347.out
      have hfz110_0 := blk_frozen BK347.out 0
      have hfz110_1 := blk_frozen BK347.out 1
      try go_wp2_with (first | ((with_reducible refine gate_callee (f := 25) rfl ?_); refine goesL_ (some 31) rfl rfl Try.func25 (by kernel_rfl) rfl #[.agg #[.slice A0_0 l0_0.length c0_0, .slice A0_1 l0_1.length c0_1]] rfl (by (try simp only [List.map_toArray, List.map_cons, List.map_nil]); first | done | rfl | (simp only [List.length_drop, List.length_take]; rfl)) ?_; (with_reducible refine (morphism_Identity.calls kj3 _ _ l0_0 _ _ l0_1 t355 t358 t361 _ ?side1 ?side2 ?side3 ?side4 A42.out).mono ?_); (case side1 => exact mc_ (Kd.C_below HR0_0.out HB.out)); (case side2 => exact HC0_0.out); (case side3 => exact mc_ (Kd.C_below HR0_1.out HB.out)); (case side4 => exact HC0_1.out); rintro e w111 ⟨v356, v359, rfl, ho0, ho1, hb⟩; refine ⟨_, rfl, ?_⟩; have HO357 := Aside0.mk (Kd.R_lower ho0 (below_size (mbs_ HB.out))); have HO360 := Aside0.mk (Kd.R_lower ho1 (below_size (mbs_ HB.out))); replace BK347 := Aside0.mk (blk_below (bk_ BK347.out) hb); replace BK348 := Aside0.mk (blk_below (bk_ BK348.out) hb); replace BK349 := Aside0.mk (blk_below (bk_ BK349.out) hb); replace HB := Aside0.mk (below_step (mbs_ HB.out) hb); (try clear hb); (try clear hb2); (try clear hk); (try clear hi); (try clear ho0); (try clear ho1)) | ((with_reducible refine gate_dst (N := 7) rfl ?_); refine box_event ?hg (N := 7) ?hd (cs := #[.slice none 0 0, .slice none 0 0]) (t := 27) ?hr ?_; (case hd => rfl); (case hg => rfl); (case hr => first | (go_simp; done) | (go_simp; rfl)); intro gb362 hg w112 hbox hb; replace HO357 := Aside0.mk (Kd.R_below (mr_ HO357.out) hb); replace HO360 := Aside0.mk (Kd.R_below (mr_ HO360.out) hb); have BK362 := Aside0.mk (hbox); have GW362 := Aside0.mk (gw_ hg (mbs_ HB.out)); have GE362 := Aside0.mk (gw_ hg (mbs_ HB.out)); replace HB := Aside0.mk (below_step (mbs_ HB.out) hb); have NB347_362 := Aside0.mk (nb_ hg (bk_ BK347.out)); have NB362_347 := Aside0.mk (nc_ hg (bk_ BK347.out)); replace BK347 := Aside0.mk (blk_below (bk_ BK347.out) hb); have NB348_362 := Aside0.mk (nb_ hg (bk_ BK348.out)); have NB362_348 := Aside0.mk (nc_ hg (bk_ BK348.out)); replace BK348 := Aside0.mk (blk_below (bk_ BK348.out) hb); have NB349_362 := Aside0.mk (nb_ hg (bk_ BK349.out)); have NB362_349 := Aside0.mk (nc_ hg (bk_ BK349.out)); replace BK349 := Aside0.mk (blk_below (bk_ BK349.out) hb); clear hb hbox hg; obtain ⟨Ao113, co113, eo113⟩ := Kd.R_slice HO357.out; subst eo113; have hnb114 := NB362_347.out; have hnc114 := NB347_362.out; have hnb115 := NB362_348.out; have hnc115 := NB348_362.out; have hnb116 := NB362_349.out; have hnc116 := NB349_362.out; have hcz117_0 := bc0_ BK362.out; have hcz117_1 := bc1_ BK362.out; have hfz117_0 := blk_frozen BK362.out 0; have hfz117_1 := blk_frozen BK362.out 1; obtain ⟨Ao118, co118, eo118⟩ := Kd.R_slice HO360.out; subst eo118; have hcz119_0 := bc0_ BK347.out; have hcz119_1 := bc1_ BK347.out; have hfz119_0 := blk_frozen BK347.out 0; have hfz119_1 := blk_frozen BK347.out 1) | ((with_reducible refine gate_callee (f := 26) rfl ?_); refine goesL_ (some 36) rfl rfl Try.func26 (by kernel_rfl) rfl #[.agg #[.slice A0_0 l0_0.length c0_0, .slice A0_1 l0_1.length c0_1]] rfl (by (try simp only [List.map_toArray, List.map_cons, List.map_nil]); first | done | rfl | (simp only [List.length_drop, List.length_take]; rfl)) ?_; (with_reducible refine (scarfjointref06_Identity.calls kj3 _ _ l0_0 _ _ l0_1 t363 t366 t369 _ ?side1 ?side2 ?side3 ?side4 A43.out).mono ?_); (case side1 => exact Kd.C_below HR0_0.out (mbs_ HB.out)); (case side2 => exact HC0_0.out); (case side3 => exact Kd.C_below HR0_1.out (mbs_ HB.out)); (case side4 => exact HC0_1.out); rintro e w120 ⟨v364, v367, rfl, ho0, ho1, hb⟩; refine ⟨_, rfl, ?_⟩; have HO365 := Aside0.mk (Kd.R_lower (Kd.R_new' (Kd.R_new' ho0 (Kd.R_lt (by (with_reducible repeat (first | apply Kd.R_alloc | apply Kd.R_drewN | apply Kd.R_drew)); exact (Kd.R_mono (Kd.R_far (p := ⟨gb362, 1, none⟩) (Kd.R_far (p := ⟨gb362, 0, none⟩) (Kd.R_types HO357.out BK362.out (by decide)) (fun _ hk => hk.2) (.slice Ao113 t355.length co113)) (fun _ hk => hk.2) (.slice Ao118 t358.length co118)) (fun _ h_ => h_.1))))) (Kd.R_lt (by (with_reducible repeat (first | apply Kd.R_alloc | apply Kd.R_drewN | apply Kd.R_drew)); exact (Kd.R_mono (Kd.R_far (p := ⟨gb362, 1, none⟩) (Kd.R_far (p := ⟨gb362, 0, none⟩) (Kd.R_types HO360.out BK362.out (by decide)) (fun _ hk => hk.2) (.slice Ao113 t355.length co113)) (fun _ hk => hk.2) (.slice Ao118 t358.length co118)) (fun _ h_ => h_.1))))) (below_size (mbs_ HB.out))); have HO368 := Aside0.mk (Kd.R_lower (Kd.R_new' (Kd.R_new' ho1 (Kd.R_lt (by (with_reducible repeat (first | apply Kd.R_alloc | apply Kd.R_drewN | apply Kd.R_drew)); exact (Kd.R_mono (Kd.R_far (p := ⟨gb362, 1, none⟩) (Kd.R_far (p := ⟨gb362, 0, none⟩) (Kd.R_types HO357.out BK362.out (by decide)) (fun _ hk => hk.2) (.slice Ao113 t355.length co113)) (fun _ hk => hk.2) (.slice Ao118 t358.length co118)) (fun _ h_ => h_.1))))) (Kd.R_lt (by (with_reducible repeat (first | apply Kd.R_alloc | apply Kd.R_drewN | apply Kd.R_drew)); exact (Kd.R_mono (Kd.R_far (p := ⟨gb362, 1, none⟩) (Kd.R_far (p := ⟨gb362, 0, none⟩) (Kd.R_types HO360.out BK362.out (by decide)) (fun _ hk => hk.2) (.slice Ao113 t355.length co113)) (fun _ hk => hk.2) (.slice Ao118 t358.length co118)) (fun _ h_ => h_.1))))) (below_size (mbs_ HB.out))); replace HO357 := Aside0.mk (Kd.R_mono (Kd.R_told (Kd.R_told (Kd.R_old (by (with_reducible repeat (first | apply Kd.R_alloc | apply Kd.R_drewN | apply Kd.R_drew)); exact (Kd.R_mono (Kd.R_far (p := ⟨gb362, 1, none⟩) (Kd.R_far (p := ⟨gb362, 0, none⟩) (Kd.R_types HO357.out BK362.out (by decide)) (fun _ hk => hk.2) (.slice Ao113 t355.length co113)) (fun _ hk => hk.2) (.slice Ao118 t358.length co118)) (fun _ h_ => h_.1))) hb) (Kd.R_base ho0)) (Kd.R_base ho1)) (fun _ h_ => h_.1)); replace HO360 := Aside0.mk (Kd.R_mono (Kd.R_told (Kd.R_told (Kd.R_old (by (with_reducible repeat (first | apply Kd.R_alloc | apply Kd.R_drewN | apply Kd.R_drew)); exact (Kd.R_mono (Kd.R_far (p := ⟨gb362, 1, none⟩) (Kd.R_far (p := ⟨gb362, 0, none⟩) (Kd.R_types HO360.out BK362.out (by decide)) (fun _ hk => hk.2) (.slice Ao113 t355.length co113)) (fun _ hk => hk.2) (.slice Ao118 t358.length co118)) (fun _ h_ => h_.1))) hb) (Kd.R_base ho0)) (Kd.R_base ho1)) (fun _ h_ => h_.1)); replace BK347 := Aside0.mk (blk_below (g := gb347) (o := .cells #[.slice A0_0 l0_0.length c0_0, .slice A0_1 l0_1.length c0_1] 25 (0, 0)) (by (with_reducible repeat (first | refine blk_drewN ?_ _ | refine blk_drew ?_ | refine blk_alloc ?_ _)); refine blk_far ?_ NB347_362.out _; (with_reducible repeat (first | refine blk_drewN ?_ _ | refine blk_drew ?_ | refine blk_alloc ?_ _)); refine blk_far ?_ NB347_362.out _; (with_reducible repeat (first | refine blk_drewN ?_ _ | refine blk_drew ?_ | refine blk_alloc ?_ _)); exact BK347.out) hb); replace BK348 := Aside0.mk (blk_below (g := gb348) (o := .cells #[.slice A1_0 l1_0.length c1_0, .slice A1_1 l1_1.length c1_1] 27 (0, 0)) (by (with_reducible repeat (first | refine blk_drewN ?_ _ | refine blk_drew ?_ | refine blk_alloc ?_ _)); refine blk_far ?_ NB348_362.out _; (with_reducible repeat (first | refine blk_drewN ?_ _ | refine blk_drew ?_ | refine blk_alloc ?_ _)); refine blk_far ?_ NB348_362.out _; (with_reducible repeat (first | refine blk_drewN ?_ _ | refine blk_drew ?_ | refine blk_alloc ?_ _)); exact BK348.out) hb); replace BK349 := Aside0.mk (blk_below (g := gb349) (o := .cells #[.slice A2_0 l2_0.length c2_0, .slice A2_1 l2_1.length c2_1] 27 (0, 0)) (by (with_reducible repeat (first | refine blk_drewN ?_ _ | refine blk_drew ?_ | refine blk_alloc ?_ _)); refine blk_far ?_ NB349_362.out _; (with_reducible repeat (first | refine blk_drewN ?_ _ | refine blk_drew ?_ | refine blk_alloc ?_ _)); refine blk_far ?_ NB349_362.out _; (with_reducible repeat (first | refine blk_drewN ?_ _ | refine blk_drew ?_ | refine blk_alloc ?_ _)); exact BK349.out) hb); replace BK362 := Aside0.mk (blk_below (g := gb362) (o := .cells #[.slice Ao113 t355.length co113, .slice Ao118 t358.length co118] 27 (0, 0)) (by (with_reducible repeat (first | refine blk_drewN ?_ _ | refine blk_drew ?_ | refine blk_alloc ?_ _)); refine blk_put (cs := #[.slice Ao113 t355.length co113, .slice none 0 0]) ?_ 1 _ rfl; (with_reducible repeat (first | refine blk_drewN ?_ _ | refine blk_drew ?_ | refine blk_alloc ?_ _)); refine blk_put (cs := #[.slice none 0 0, .slice none 0 0]) ?_ 0 _ rfl; (with_reducible repeat (first | refine blk_drewN ?_ _ | refine blk_drew ?_ | refine blk_alloc ?_ _)); exact BK362.out) hb); replace HB := Aside0.mk (below_step (mbs_ HB.out) hb); (try clear hb); (try clear hb2); (try clear hk); (try clear hi); (try clear ho0); (try clear ho1)) | ((with_reducible refine gate_dst (N := 9) rfl ?_); refine box_event ?hg (N := 9) ?hd (cs := #[.slice none 0 0, .slice none 0 0]) (t := 27) ?hr ?_; (case hd => rfl); (case hg => rfl); (case hr => first | (go_simp; done) | (go_simp; rfl)); intro gb370 hg w121 hbox hb; replace HO357 := Aside0.mk (Kd.R_below (mr_ HO357.out) hb); replace HO360 := Aside0.mk (Kd.R_below (mr_ HO360.out) hb); replace HO365 := Aside0.mk (Kd.R_below (mr_ HO365.out) hb); replace HO368 := Aside0.mk (Kd.R_below (mr_ HO368.out) hb); have BK370 := Aside0.mk (hbox); have GW370 := Aside0.mk (gw_ hg (mbs_ HB.out)); have GE370 := Aside0.mk (gw_ hg (mbs_ HB.out)); replace HB := Aside0.mk (below_step (mbs_ HB.out) hb); have NB347_370 := Aside0.mk (nb_ hg (bk_ BK347.out)); have NB370_347 := Aside0.mk (nc_ hg (bk_ BK347.out)); replace BK347 := Aside0.mk (blk_below (bk_ BK347.out) hb); have NB348_370 := Aside0.mk (nb_ hg (bk_ BK348.out)); have NB370_348 := Aside0.mk (nc_ hg (bk_ BK348.out)); replace BK348 := Aside0.mk (blk_below (bk_ BK348.out) hb); have NB349_370 := Aside0.mk (nb_ hg (bk_ BK349.out)); have NB370_349 := Aside0.mk (nc_ hg (bk_ BK349.out)); replace BK349 := Aside0.mk (blk_below (bk_ BK349.out) hb); have NB362_370 := Aside0.mk (nb_ hg (bk_ BK362.out)); have NB370_362 := Aside0.mk (nc_ hg (bk_ BK362.out)); replace BK362 := Aside0.mk (blk_below (bk_ BK362.out) hb); clear hb hbox hg; obtain ⟨Ao122, co122, eo122⟩ := Kd.R_slice HO365.out; subst eo122; have hnb123 := NB370_347.out; have hnc123 := NB347_370.out; have hnb124 := NB370_348.out; have hnc124 := NB348_370.out; have hnb125 := NB370_349.out; have hnc125 := NB349_370.out; have hnb126 := NB370_362.out; have hnc126 := NB362_370.out; have hcz127_0 := bc0_ BK370.out; have hcz127_1 := bc1_ BK370.out; have hfz127_0 := blk_frozen BK370.out 0; have hfz127_1 := blk_frozen BK370.out 1; obtain ⟨Ao128, co128, eo128⟩ := Kd.R_slice HO368.out; subst eo128))
      have n0_ : Aside0 (Kd.R (Kd.int .i64) 3 ((w121.setCell ⟨gb370, 0, none⟩ (.slice Ao122 t363.length co122)).setCell ⟨gb370, 1, none⟩ (.slice Ao128 t366.length co128)) w.heap.size (fun k_ => some k_ ≠ (.slice Ao118 t358.length co118 : Value).ownBlock ∧ some k_ ≠ (.slice Ao122 t363.length co122 : Value).ownBlock ∧ some k_ ≠ (.slice Ao128 t366.length co128 : Value).ownBlock) (.slice Ao113 t355.length co113) t355) := ⟨by (with_reducible repeat (first | apply Kd.R_alloc | apply Kd.R_drewN | apply Kd.R_drew)); exact Kd.R_mono (Kd.R_far (p := ⟨gb370, 1, none⟩) (Kd.R_far (p := ⟨gb370, 0, none⟩) (Kd.R_types HO357.out BK370.out (by decide)) (fun _ hk => hk.2) (.slice Ao122 t363.length co122)) (fun _ hk => hk.2) (.slice Ao128 t366.length co128)) (fun _ hk => ⟨hk.1.1.1, ⟨hk.1.1.2, hk.1.2⟩⟩)⟩
      have n1_ : Aside0 (Kd.R (Kd.int .i64) 3 ((w121.setCell ⟨gb370, 0, none⟩ (.slice Ao122 t363.length co122)).setCell ⟨gb370, 1, none⟩ (.slice Ao128 t366.length co128)) w.heap.size (fun k_ => some k_ ≠ (.slice Ao113 t355.length co113 : Value).ownBlock ∧ some k_ ≠ (.slice Ao122 t363.length co122 : Value).ownBlock ∧ some k_ ≠ (.slice Ao128 t366.length co128 : Value).ownBlock) (.slice Ao118 t358.length co118) t358) := ⟨by (with_reducible repeat (first | apply Kd.R_alloc | apply Kd.R_drewN | apply Kd.R_drew)); exact Kd.R_mono (Kd.R_far (p := ⟨gb370, 1, none⟩) (Kd.R_far (p := ⟨gb370, 0, none⟩) (Kd.R_types HO360.out BK370.out (by decide)) (fun _ hk => hk.2) (.slice Ao122 t363.length co122)) (fun _ hk => hk.2) (.slice Ao128 t366.length co128)) (fun _ hk => ⟨hk.1.1.1, ⟨hk.1.1.2, hk.1.2⟩⟩)⟩
      have n2_ : Aside0 (Kd.R (Kd.int .i64) 3 ((w121.setCell ⟨gb370, 0, none⟩ (.slice Ao122 t363.length co122)).setCell ⟨gb370, 1, none⟩ (.slice Ao128 t366.length co128)) w.heap.size (fun k_ => some k_ ≠ (.slice Ao113 t355.length co113 : Value).ownBlock ∧ some k_ ≠ (.slice Ao118 t358.length co118 : Value).ownBlock ∧ some k_ ≠ (.slice Ao128 t366.length co128 : Value).ownBlock) (.slice Ao122 t363.length co122) t363) := ⟨by (with_reducible repeat (first | apply Kd.R_alloc | apply Kd.R_drewN | apply Kd.R_drew)); exact Kd.R_mono (Kd.R_far (p := ⟨gb370, 1, none⟩) (Kd.R_far (p := ⟨gb370, 0, none⟩) (Kd.R_types HO365.out BK370.out (by decide)) (fun _ hk => hk.2) (.slice Ao122 t363.length co122)) (fun _ hk => hk.2) (.slice Ao128 t366.length co128)) (fun _ hk => ⟨hk.1.1.2, ⟨hk.1.2, hk.1.1.1⟩⟩)⟩
      have n3_ : Aside0 (Kd.R (Kd.int .i64) 3 ((w121.setCell ⟨gb370, 0, none⟩ (.slice Ao122 t363.length co122)).setCell ⟨gb370, 1, none⟩ (.slice Ao128 t366.length co128)) w.heap.size (fun k_ => some k_ ≠ (.slice Ao113 t355.length co113 : Value).ownBlock ∧ some k_ ≠ (.slice Ao118 t358.length co118 : Value).ownBlock ∧ some k_ ≠ (.slice Ao122 t363.length co122 : Value).ownBlock) (.slice Ao128 t366.length co128) t366) := ⟨by (with_reducible repeat (first | apply Kd.R_alloc | apply Kd.R_drewN | apply Kd.R_drew)); exact Kd.R_mono (Kd.R_far (p := ⟨gb370, 1, none⟩) (Kd.R_far (p := ⟨gb370, 0, none⟩) (Kd.R_types HO368.out BK370.out (by decide)) (fun _ hk => hk.2) (.slice Ao122 t363.length co122)) (fun _ hk => hk.2) (.slice Ao128 t366.length co128)) (fun _ hk => ⟨hk.1.1.2, ⟨hk.1.2, hk.1.1.1⟩⟩)⟩
      have n4_ : Aside0 (((w121.setCell ⟨gb370, 0, none⟩ (.slice Ao122 t363.length co122)).setCell ⟨gb370, 1, none⟩ (.slice Ao128 t366.length co128)).heap[gb347]? = some (.cells #[.slice A0_0 l0_0.length c0_0, .slice A0_1 l0_1.length c0_1] 25 (0, 0))) := ⟨by (with_reducible repeat (first | refine blk_drewN ?_ _ | refine blk_drew ?_ | refine blk_alloc ?_ _)); refine blk_far ?_ NB347_370.out _; (with_reducible repeat (first | refine blk_drewN ?_ _ | refine blk_drew ?_ | refine blk_alloc ?_ _)); refine blk_far ?_ NB347_370.out _; (with_reducible repeat (first | refine blk_drewN ?_ _ | refine blk_drew ?_ | refine blk_alloc ?_ _)); exact BK347.out⟩
      have n5_ : Aside0 (((w121.setCell ⟨gb370, 0, none⟩ (.slice Ao122 t363.length co122)).setCell ⟨gb370, 1, none⟩ (.slice Ao128 t366.length co128)).heap[gb348]? = some (.cells #[.slice A1_0 l1_0.length c1_0, .slice A1_1 l1_1.length c1_1] 27 (0, 0))) := ⟨by (with_reducible repeat (first | refine blk_drewN ?_ _ | refine blk_drew ?_ | refine blk_alloc ?_ _)); refine blk_far ?_ NB348_370.out _; (with_reducible repeat (first | refine blk_drewN ?_ _ | refine blk_drew ?_ | refine blk_alloc ?_ _)); refine blk_far ?_ NB348_370.out _; (with_reducible repeat (first | refine blk_drewN ?_ _ | refine blk_drew ?_ | refine blk_alloc ?_ _)); exact BK348.out⟩
      have n6_ : Aside0 (((w121.setCell ⟨gb370, 0, none⟩ (.slice Ao122 t363.length co122)).setCell ⟨gb370, 1, none⟩ (.slice Ao128 t366.length co128)).heap[gb349]? = some (.cells #[.slice A2_0 l2_0.length c2_0, .slice A2_1 l2_1.length c2_1] 27 (0, 0))) := ⟨by (with_reducible repeat (first | refine blk_drewN ?_ _ | refine blk_drew ?_ | refine blk_alloc ?_ _)); refine blk_far ?_ NB349_370.out _; (with_reducible repeat (first | refine blk_drewN ?_ _ | refine blk_drew ?_ | refine blk_alloc ?_ _)); refine blk_far ?_ NB349_370.out _; (with_reducible repeat (first | refine blk_drewN ?_ _ | refine blk_drew ?_ | refine blk_alloc ?_ _)); exact BK349.out⟩
      have n7_ : Aside0 (((w121.setCell ⟨gb370, 0, none⟩ (.slice Ao122 t363.length co122)).setCell ⟨gb370, 1, none⟩ (.slice Ao128 t366.length co128)).heap[gb362]? = some (.cells #[.slice Ao113 t355.length co113, .slice Ao118 t358.length co118] 27 (0, 0))) := ⟨by (with_reducible repeat (first | refine blk_drewN ?_ _ | refine blk_drew ?_ | refine blk_alloc ?_ _)); refine blk_far ?_ NB362_370.out _; (with_reducible repeat (first | refine blk_drewN ?_ _ | refine blk_drew ?_ | refine blk_alloc ?_ _)); refine blk_far ?_ NB362_370.out _; (with_reducible repeat (first | refine blk_drewN ?_ _ | refine blk_drew ?_ | refine blk_alloc ?_ _)); exact BK362.out⟩
      have n8_ : Aside0 (((w121.setCell ⟨gb370, 0, none⟩ (.slice Ao122 t363.length co122)).setCell ⟨gb370, 1, none⟩ (.slice Ao128 t366.length co128)).heap[gb370]? = some (.cells #[.slice Ao122 t363.length co122, .slice Ao128 t366.length co128] 27 (0, 0))) := ⟨by (with_reducible repeat (first | refine blk_drewN ?_ _ | refine blk_drew ?_ | refine blk_alloc ?_ _)); refine blk_put (cs := #[.slice Ao122 t363.length co122, .slice none 0 0]) ?_ 1 _ rfl; (with_reducible repeat (first | refine blk_drewN ?_ _ | refine blk_drew ?_ | refine blk_alloc ?_ _)); refine blk_put (cs := #[.slice none 0 0, .slice none 0 0]) ?_ 0 _ rfl; (with_reducible repeat (first | refine blk_drewN ?_ _ | refine blk_drew ?_ | refine blk_alloc ?_ _)); exact BK370.out⟩
      have n9_ : Aside0 (Below w.heap.size w ((w121.setCell ⟨gb370, 0, none⟩ (.slice Ao122 t363.length co122)).setCell ⟨gb370, 1, none⟩ (.slice Ao128 t366.length co128))) := ⟨mbs_ HB.out⟩
      (try clear HO357)
      (try clear HO360)
      (try clear HO365)
      (try clear HO368)
      (try clear BK347)
      (try clear BK348)
      (try clear BK349)
      (try clear BK362)
      (try clear BK370)
      (try clear HB)
      generalize ((w121.setCell ⟨gb370, 0, none⟩ (.slice Ao122 t363.length co122)).setCell ⟨gb370, 1, none⟩ (.slice Ao128 t366.length co128)) = w129 at n0_ n1_ n2_ n3_ n4_ n5_ n6_ n7_ n8_ n9_ ⊢
      have HO357 := n0_
      have HO360 := n1_
      have HO365 := n2_
      have HO368 := n3_
      have BK347 := n4_
      have BK348 := n5_
      have BK349 := n6_
      have BK362 := n7_
      have BK370 := n8_
      have HB := n9_
      clear n0_ n1_ n2_ n3_ n4_ n5_ n6_ n7_ n8_ n9_
      replace HO357 := Aside0.mk (Kd.R_drew HO357.out)
      replace HO360 := Aside0.mk (Kd.R_drew HO360.out)
      replace HO365 := Aside0.mk (Kd.R_drew HO365.out)
      replace HO368 := Aside0.mk (Kd.R_drew HO368.out)
      replace BK347 := Aside0.mk (blk_drew BK347.out)
      replace BK348 := Aside0.mk (blk_drew BK348.out)
      replace BK349 := Aside0.mk (blk_drew BK349.out)
      replace BK362 := Aside0.mk (blk_drew BK362.out)
      replace BK370 := Aside0.mk (blk_drew BK370.out)
      replace HB := Aside0.mk (below_drew1 HB.out)
      refine start_ (n := 24) (S := fun w' => w'.cell? ⟨gb362, 0, none⟩ = some (.slice Ao113 t355.length co113) ∧ w'.cell? ⟨gb362, 1, none⟩ = some (.slice Ao118 t358.length co118) ∧ w'.cell? ⟨gb370, 0, none⟩ = some (.slice Ao122 t363.length co122) ∧ w'.cell? ⟨gb370, 1, none⟩ = some (.slice Ao128 t366.length co128)) (ds := []) #[false, false, false, false, false, false, false, false, false, false, false, false, false, false, false, false, false, false, false, false, false, false, false, false] (by kernel_rfl) rfl rfl ⟨(blk_cell BK362.out 0).trans rfl, (blk_cell BK362.out 1).trans rfl, (blk_cell BK370.out 0).trans rfl, (blk_cell BK370.out 1).trans rfl⟩ (fun hHeld => ?_); refine with_tabW scarfjointlaw06_MorphismSame.tab5 scarfjointlaw06_MorphismSame.bits5 (fun HT_ HW_ => ?_)
      generalize w129.drew = w130 at HO357 HO360 HO365 HO368 BK347 BK348 BK349 BK362 BK370 HB hHeld ⊢
      refine pure_ (i := 0) (N := some 39) (v := ?_) (a' := ?_) #[true, false, false, false, false, false, false, false, false, false, false, false, false, false, false, false, false, false, false, false, false, false, false, false] rfl rfl (any_of HT_.out (by kernel_rfl)) (fun _ _ _ h => h) (Or.inl ⟨by rfl, ?_⟩) ?_ ?_
      rotate_left
      ·intro w'
       go_simp
       with_reducible rfl
      rotate_left
      ·simp only [Act.put, List.setIfInBounds_toArray, List.set_cons_zero, List.set_cons_succ, i64_w, i32_w]
       rfl
      refine pure_ (i := 1) (N := some 40) (v := ?_) (a' := ?_) #[true, true, false, false, false, false, false, false, false, false, false, false, false, false, false, false, false, false, false, false, false, false, false, false] rfl rfl (any_of HT_.out (by kernel_rfl)) (fun _ _ _ h => h) (Or.inl ⟨by rfl, ?_⟩) ?_ ?_
      rotate_left
      ·intro w'
       go_simp
       with_reducible rfl
      rotate_left
      ·simp only [Act.put, List.setIfInBounds_toArray, List.set_cons_zero, List.set_cons_succ, i64_w, i32_w]
       rfl
      refine pure_ (i := 2) (N := some 41) (v := ?_) (a' := ?_) #[true, true, true, false, false, false, false, false, false, false, false, false, false, false, false, false, false, false, false, false, false, false, false, false] rfl rfl (any_of HT_.out (by kernel_rfl)) (fun _ _ _ h => h) (Or.inl ⟨by rfl, ?_⟩) ?_ ?_
      rotate_left
      ·intro w'
       go_simp
       with_reducible rfl
      rotate_left
      ·simp only [Act.put, List.setIfInBounds_toArray, List.set_cons_zero, List.set_cons_succ, i64_w, i32_w]
       rfl
      refine pure_ (i := 3) (N := some 42) (v := ?_) (a' := ?_) #[true, true, true, true, false, false, false, false, false, false, false, false, false, false, false, false, false, false, false, false, false, false, false, false] rfl rfl (any_of HT_.out (by kernel_rfl)) (fun _ _ _ h => h) (Or.inl ⟨by rfl, ?_⟩) ?_ ?_
      rotate_left
      ·intro w'
       go_simp
       with_reducible rfl
      rotate_left
      ·simp only [Act.put, List.setIfInBounds_toArray, List.set_cons_zero, List.set_cons_succ, i64_w, i32_w]
       rfl
      refine take_ (i := 4) (N := some 43) (v := ?_) (a' := ?_) #[true, true, true, true, true, false, false, false, false, false, false, false, false, false, false, false, false, false, false, false, false, false, false, false] rfl rfl (take_ofW HT_.out HW_.out (by kernel_rfl)) (fun _ _ _ h => h) (Or.inl ⟨by rfl, ?_⟩) hHeld ?_ ?_
      rotate_left
      ·rintro w' ⟨s0, s1, s2, s3⟩
       go_simp
       with_reducible rfl
      rotate_left
      ·simp only [Act.put, List.setIfInBounds_toArray, List.set_cons_zero, List.set_cons_succ, i64_w, i32_w]
       rfl
      refine take_ (i := 5) (N := some 44) (v := ?_) (a' := ?_) #[true, true, true, true, true, true, false, false, false, false, false, false, false, false, false, false, false, false, false, false, false, false, false, false] rfl rfl (take_ofW HT_.out HW_.out (by kernel_rfl)) (fun _ _ _ h => h) (Or.inl ⟨by rfl, ?_⟩) hHeld ?_ ?_
      rotate_left
      ·rintro w' ⟨s0, s1, s2, s3⟩
       go_simp
       with_reducible rfl
      rotate_left
      ·simp only [Act.put, List.setIfInBounds_toArray, List.set_cons_zero, List.set_cons_succ, i64_w, i32_w]
       rfl
      refine one_ (i := 6) (N := some 45) #[true, true, true, true, true, true, true, false, false, false, false, false, false, false, false, false, false, false, false, false, false, false, false, false] rfl rfl (one_of HT_.out (by kernel_rfl)) (by decide) (fun K hK => ?_)
      refine goes_ Try.func27 (by kernel_rfl) rfl #[.agg #[.slice Ao113 t355.length co113, .slice Ao118 t358.length co118], .agg #[.slice Ao122 t363.length co122, .slice Ao128 t366.length co128]] (by rfl) rfl rfl (by (try simp only [List.map_toArray, List.map_cons, List.map_nil]); first | done | rfl | (simp only [List.length_drop, List.length_take]; rfl)) ?_
      with_reducible refine (scarfjointref06_Same.calls kj3 _ _ t355 _ _ t358 _ _ t363 _ _ t366 false _ ?side1 ?side2 ?side3 ?side4 ?side5 ?side6 ?side7 ?side8 A45.out).mono ?_
      (case side1 => exact mc_ (Kd.R_reads' HO357.out).2.2)
      (case side2 => exact (Kd.R_reads' HO357.out).2.1)
      (case side3 => exact mc_ (Kd.R_reads' HO360.out).2.2)
      (case side4 => exact (Kd.R_reads' HO360.out).2.1)
      (case side5 => exact mc_ (Kd.R_reads' HO365.out).2.2)
      (case side6 => exact (Kd.R_reads' HO365.out).2.1)
      (case side7 => exact mc_ (Kd.R_reads' HO368.out).2.2)
      (case side8 => exact (Kd.R_reads' HO368.out).2.1)
      rintro e w131 ⟨rfl, hb⟩
      refine ⟨_, rfl, ?_⟩
      replace HO357 := Aside0.mk (Kd.R_below (mr_ HO357.out) hb)
      replace HO360 := Aside0.mk (Kd.R_below (mr_ HO360.out) hb)
      replace HO365 := Aside0.mk (Kd.R_below (mr_ HO365.out) hb)
      replace HO368 := Aside0.mk (Kd.R_below (mr_ HO368.out) hb)
      replace BK347 := Aside0.mk (blk_below (bk_ BK347.out) hb)
      replace BK348 := Aside0.mk (blk_below (bk_ BK348.out) hb)
      replace BK349 := Aside0.mk (blk_below (bk_ BK349.out) hb)
      replace BK362 := Aside0.mk (blk_below (bk_ BK362.out) hb)
      replace BK370 := Aside0.mk (blk_below (bk_ BK370.out) hb)
      replace HB := Aside0.mk (below_step (mbs_ HB.out) hb)
      (try clear hb)
      (try clear hb2)
      (try clear hk)
      (try clear hi)
      refine hK.out _ _ ⟨(blk_cell BK362.out 0).trans rfl, (blk_cell BK362.out 1).trans rfl, (blk_cell BK370.out 0).trans rfl, (blk_cell BK370.out 1).trans rfl⟩ (fun hHeld => ?_)
      clear hK K
      refine norm_ (a' := ?_) ?_ ?_
      rotate_left
      ·show Act.put _ (some 45) _ = _
       simp only [Act.put, List.setIfInBounds_toArray, List.set_cons_zero, List.set_cons_succ, i64_w, i32_w]
       rfl
      refine pure_ (i := 7) (N := some 46) (v := ?_) (a' := ?_) #[true, true, true, true, true, true, true, true, false, false, false, false, false, false, false, false, false, false, false, false, false, false, false, false] rfl rfl (any_of HT_.out (by kernel_rfl)) (fun _ _ _ h => h) (Or.inl ⟨by rfl, ?_⟩) ?_ ?_
      rotate_left
      ·intro w'
       go_simp
       with_reducible rfl
      rotate_left
      ·simp only [Act.put, List.setIfInBounds_toArray, List.set_cons_zero, List.set_cons_succ, i64_w, i32_w]
       rfl
      refine pure_ (i := 8) (N := some 47) (v := ?_) (a' := ?_) #[true, true, true, true, true, true, true, true, true, false, false, false, false, false, false, false, false, false, false, false, false, false, false, false] rfl rfl (any_of HT_.out (by kernel_rfl)) (fun _ _ _ h => h) (Or.inl ⟨by rfl, ?_⟩) ?_ ?_
      rotate_left
      ·intro w'
       go_simp
       with_reducible rfl
      rotate_left
      ·simp only [Act.put, List.setIfInBounds_toArray, List.set_cons_zero, List.set_cons_succ, i64_w, i32_w]
       rfl
      refine pure_ (i := 9) (N := some 48) (v := undef) (a' := ?_) #[true, true, true, true, true, true, true, true, true, true, false, false, false, false, false, false, false, false, false, false, false, false, false, false] rfl rfl (any_of HT_.out (by kernel_rfl)) (fun _ _ _ h => h) (Or.inr ⟨by rfl, rfl⟩) ?_ ?_
      rotate_left
      ·simp only [Act.put, List.setIfInBounds_toArray, List.set_cons_zero, List.set_cons_succ, i64_w, i32_w]
       rfl
      refine pure_ (i := 10) (N := some 49) (v := undef) (a' := ?_) #[true, true, true, true, true, true, true, true, true, true, true, false, false, false, false, false, false, false, false, false, false, false, false, false] rfl rfl (any_of HT_.out (by kernel_rfl)) (fun _ _ _ h => h) (Or.inr ⟨by rfl, rfl⟩) ?_ ?_
      rotate_left
      ·simp only [Act.put, List.setIfInBounds_toArray, List.set_cons_zero, List.set_cons_succ, i64_w, i32_w]
       rfl
      refine pure_ (i := 11) (N := some 50) (v := undef) (a' := ?_) #[true, true, true, true, true, true, true, true, true, true, true, true, false, false, false, false, false, false, false, false, false, false, false, false] rfl rfl (any_of HT_.out (by kernel_rfl)) (fun _ _ _ h => h) (Or.inr ⟨by rfl, rfl⟩) ?_ ?_
      rotate_left
      ·simp only [Act.put, List.setIfInBounds_toArray, List.set_cons_zero, List.set_cons_succ, i64_w, i32_w]
       rfl
      refine pure_ (i := 12) (N := some 51) (v := undef) (a' := ?_) #[true, true, true, true, true, true, true, true, true, true, true, true, true, false, false, false, false, false, false, false, false, false, false, false] rfl rfl (any_of HT_.out (by kernel_rfl)) (fun _ _ _ h => h) (Or.inr ⟨by rfl, rfl⟩) ?_ ?_
      rotate_left
      ·simp only [Act.put, List.setIfInBounds_toArray, List.set_cons_zero, List.set_cons_succ, i64_w, i32_w]
       rfl
      refine pure_ (i := 13) (N := some 52) (v := undef) (a' := ?_) #[true, true, true, true, true, true, true, true, true, true, true, true, true, true, false, false, false, false, false, false, false, false, false, false] rfl rfl (any_of HT_.out (by kernel_rfl)) (fun _ _ _ h => h) (Or.inr ⟨by rfl, rfl⟩) ?_ ?_
      rotate_left
      ·simp only [Act.put, List.setIfInBounds_toArray, List.set_cons_zero, List.set_cons_succ, i64_w, i32_w]
       rfl
      refine pure_ (i := 14) (N := some 53) (v := undef) (a' := ?_) #[true, true, true, true, true, true, true, true, true, true, true, true, true, true, true, false, false, false, false, false, false, false, false, false] rfl rfl (any_of HT_.out (by kernel_rfl)) (fun _ _ _ h => h) (Or.inr ⟨by rfl, rfl⟩) ?_ ?_
      rotate_left
      ·simp only [Act.put, List.setIfInBounds_toArray, List.set_cons_zero, List.set_cons_succ, i64_w, i32_w]
       rfl
      refine pure_ (i := 15) (N := some 54) (v := undef) (a' := ?_) #[true, true, true, true, true, true, true, true, true, true, true, true, true, true, true, true, false, false, false, false, false, false, false, false] rfl rfl (any_of HT_.out (by kernel_rfl)) (fun _ _ _ h => h) (Or.inr ⟨by rfl, rfl⟩) ?_ ?_
      rotate_left
      ·simp only [Act.put, List.setIfInBounds_toArray, List.set_cons_zero, List.set_cons_succ, i64_w, i32_w]
       rfl
      refine pure_ (i := 16) (N := some 55) (v := ?_) (a' := ?_) #[true, true, true, true, true, true, true, true, true, true, true, true, true, true, true, true, true, false, false, false, false, false, false, false] rfl rfl (any_of HT_.out (by kernel_rfl)) (fun _ _ _ h => h) (Or.inl ⟨by rfl, ?_⟩) ?_ ?_
      rotate_left
      ·intro w'
       go_simp
       with_reducible rfl
      rotate_left
      ·simp only [Act.put, List.setIfInBounds_toArray, List.set_cons_zero, List.set_cons_succ, i64_w, i32_w]
       rfl
      refine pure_ (i := 17) (N := some 56) (v := ?_) (a' := ?_) #[true, true, true, true, true, true, true, true, true, true, true, true, true, true, true, true, true, true, false, false, false, false, false, false] rfl rfl (any_of HT_.out (by kernel_rfl)) (fun _ _ _ h => h) (Or.inl ⟨by rfl, ?_⟩) ?_ ?_
      rotate_left
      ·intro w'
       go_simp
       with_reducible rfl
      rotate_left
      ·simp only [Act.put, List.setIfInBounds_toArray, List.set_cons_zero, List.set_cons_succ, i64_w, i32_w]
       rfl
      refine pure_ (i := 18) (N := some 57) (v := undef) (a' := ?_) #[true, true, true, true, true, true, true, true, true, true, true, true, true, true, true, true, true, true, true, false, false, false, false, false] rfl rfl (any_of HT_.out (by kernel_rfl)) (fun _ _ _ h => h) (Or.inr ⟨by rfl, rfl⟩) ?_ ?_
      rotate_left
      ·simp only [Act.put, List.setIfInBounds_toArray, List.set_cons_zero, List.set_cons_succ, i64_w, i32_w]
       rfl
      refine pure_ (i := 19) (N := some 58) (v := undef) (a' := ?_) #[true, true, true, true, true, true, true, true, true, true, true, true, true, true, true, true, true, true, true, true, false, false, false, false] rfl rfl (any_of HT_.out (by kernel_rfl)) (fun _ _ _ h => h) (Or.inr ⟨by rfl, rfl⟩) ?_ ?_
      rotate_left
      ·simp only [Act.put, List.setIfInBounds_toArray, List.set_cons_zero, List.set_cons_succ, i64_w, i32_w]
       rfl
      refine pure_ (i := 20) (N := some 59) (v := undef) (a' := ?_) #[true, true, true, true, true, true, true, true, true, true, true, true, true, true, true, true, true, true, true, true, true, false, false, false] rfl rfl (any_of HT_.out (by kernel_rfl)) (fun _ _ _ h => h) (Or.inr ⟨by rfl, rfl⟩) ?_ ?_
      rotate_left
      ·simp only [Act.put, List.setIfInBounds_toArray, List.set_cons_zero, List.set_cons_succ, i64_w, i32_w]
       rfl
      refine pure_ (i := 21) (N := some 60) (v := undef) (a' := ?_) #[true, true, true, true, true, true, true, true, true, true, true, true, true, true, true, true, true, true, true, true, true, true, false, false] rfl rfl (any_of HT_.out (by kernel_rfl)) (fun _ _ _ h => h) (Or.inr ⟨by rfl, rfl⟩) ?_ ?_
      rotate_left
      ·simp only [Act.put, List.setIfInBounds_toArray, List.set_cons_zero, List.set_cons_succ, i64_w, i32_w]
       rfl
      refine pure_ (i := 22) (N := some 61) (v := ?_) (a' := ?_) #[true, true, true, true, true, true, true, true, true, true, true, true, true, true, true, true, true, true, true, true, true, true, true, false] rfl rfl (any_of HT_.out (by kernel_rfl)) (fun _ _ _ h => h) (Or.inl ⟨by rfl, ?_⟩) ?_ ?_
      rotate_left
      ·intro w'
       go_simp
       with_reducible rfl
      rotate_left
      ·simp only [Act.put, List.setIfInBounds_toArray, List.set_cons_zero, List.set_cons_succ, i64_w, i32_w]
       rfl
      refine pure_ (i := 23) (N := some 6) (v := ?_) (a' := ?_) #[true, true, true, true, true, true, true, true, true, true, true, true, true, true, true, true, true, true, true, true, true, true, true, true] rfl rfl (any_of HT_.out (by kernel_rfl)) (fun _ _ _ h => h) (Or.inl ⟨by rfl, ?_⟩) ?_ ?_
      rotate_left
      ·intro w'
       go_simp
       with_reducible rfl
      rotate_left
      ·simp only [Act.put, List.setIfInBounds_toArray, List.set_cons_zero, List.set_cons_succ, i64_w, i32_w]
       rfl
      refine done_ (done_of HT_.out (by kernel_rfl)) ?_
      as_aux_lemma =>
      try go_wp2
      go_ret
      exact ⟨by first | rfl | (simp [errW_none, errW_some] <;> rfl) | (simp [*, errW_none, errW_some] <;> rfl), mbs_ HB.out⟩
    ·rw [if_neg c44] at H
     have c44b0 : (t361 == t369) = false := beq_eq_false_iff_ne.mpr c44
     have c44b1 : (t361 != t369) = true := bne_iff_ne.mpr c44
     obtain rfl := Option.some.inj H
     have hnb132 := NB347_348.out
     have hnc132 := NB348_347.out
     have hnb133 := NB347_349.out
     have hnc133 := NB349_347.out
     have hcz134_0 := bc0_ BK347.out
     have hcz134_1 := bc1_ BK347.out
     have hfz134_0 := blk_frozen BK347.out 0
     have hfz134_1 := blk_frozen BK347.out 1
     try go_wp2_with (first | ((with_reducible refine gate_callee (f := 25) rfl ?_); refine goesL_ (some 31) rfl rfl Try.func25 (by kernel_rfl) rfl #[.agg #[.slice A0_0 l0_0.length c0_0, .slice A0_1 l0_1.length c0_1]] rfl (by (try simp only [List.map_toArray, List.map_cons, List.map_nil]); first | done | rfl | (simp only [List.length_drop, List.length_take]; rfl)) ?_; (with_reducible refine (morphism_Identity.calls kj3 _ _ l0_0 _ _ l0_1 t355 t358 t361 _ ?side1 ?side2 ?side3 ?side4 A42.out).mono ?_); (case side1 => exact mc_ (Kd.C_below HR0_0.out HB.out)); (case side2 => exact HC0_0.out); (case side3 => exact mc_ (Kd.C_below HR0_1.out HB.out)); (case side4 => exact HC0_1.out); rintro e w135 ⟨v356, v359, rfl, ho0, ho1, hb⟩; refine ⟨_, rfl, ?_⟩; have HO357 := Aside0.mk (Kd.R_lower ho0 (below_size (mbs_ HB.out))); have HO360 := Aside0.mk (Kd.R_lower ho1 (below_size (mbs_ HB.out))); replace BK347 := Aside0.mk (blk_below (bk_ BK347.out) hb); replace BK348 := Aside0.mk (blk_below (bk_ BK348.out) hb); replace BK349 := Aside0.mk (blk_below (bk_ BK349.out) hb); replace HB := Aside0.mk (below_step (mbs_ HB.out) hb); (try clear hb); (try clear hb2); (try clear hk); (try clear hi); (try clear ho0); (try clear ho1)) | ((with_reducible refine gate_dst (N := 7) rfl ?_); refine box_event ?hg (N := 7) ?hd (cs := #[.slice none 0 0, .slice none 0 0]) (t := 27) ?hr ?_; (case hd => rfl); (case hg => rfl); (case hr => first | (go_simp; done) | (go_simp; rfl)); intro gb362 hg w136 hbox hb; replace HO357 := Aside0.mk (Kd.R_below (mr_ HO357.out) hb); replace HO360 := Aside0.mk (Kd.R_below (mr_ HO360.out) hb); have BK362 := Aside0.mk (hbox); have GW362 := Aside0.mk (gw_ hg (mbs_ HB.out)); have GE362 := Aside0.mk (gw_ hg (mbs_ HB.out)); replace HB := Aside0.mk (below_step (mbs_ HB.out) hb); have NB347_362 := Aside0.mk (nb_ hg (bk_ BK347.out)); have NB362_347 := Aside0.mk (nc_ hg (bk_ BK347.out)); replace BK347 := Aside0.mk (blk_below (bk_ BK347.out) hb); have NB348_362 := Aside0.mk (nb_ hg (bk_ BK348.out)); have NB362_348 := Aside0.mk (nc_ hg (bk_ BK348.out)); replace BK348 := Aside0.mk (blk_below (bk_ BK348.out) hb); have NB349_362 := Aside0.mk (nb_ hg (bk_ BK349.out)); have NB362_349 := Aside0.mk (nc_ hg (bk_ BK349.out)); replace BK349 := Aside0.mk (blk_below (bk_ BK349.out) hb); clear hb hbox hg; obtain ⟨Ao137, co137, eo137⟩ := Kd.R_slice HO357.out; subst eo137; have hnb138 := NB362_347.out; have hnc138 := NB347_362.out; have hnb139 := NB362_348.out; have hnc139 := NB348_362.out; have hnb140 := NB362_349.out; have hnc140 := NB349_362.out; have hcz141_0 := bc0_ BK362.out; have hcz141_1 := bc1_ BK362.out; have hfz141_0 := blk_frozen BK362.out 0; have hfz141_1 := blk_frozen BK362.out 1; obtain ⟨Ao142, co142, eo142⟩ := Kd.R_slice HO360.out; subst eo142; have hcz143_0 := bc0_ BK347.out; have hcz143_1 := bc1_ BK347.out; have hfz143_0 := blk_frozen BK347.out 0; have hfz143_1 := blk_frozen BK347.out 1) | ((with_reducible refine gate_callee (f := 26) rfl ?_); refine goesL_ (some 36) rfl rfl Try.func26 (by kernel_rfl) rfl #[.agg #[.slice A0_0 l0_0.length c0_0, .slice A0_1 l0_1.length c0_1]] rfl (by (try simp only [List.map_toArray, List.map_cons, List.map_nil]); first | done | rfl | (simp only [List.length_drop, List.length_take]; rfl)) ?_; (with_reducible refine (scarfjointref06_Identity.calls kj3 _ _ l0_0 _ _ l0_1 t363 t366 t369 _ ?side1 ?side2 ?side3 ?side4 A43.out).mono ?_); (case side1 => exact Kd.C_below HR0_0.out (mbs_ HB.out)); (case side2 => exact HC0_0.out); (case side3 => exact Kd.C_below HR0_1.out (mbs_ HB.out)); (case side4 => exact HC0_1.out); rintro e w144 ⟨v364, v367, rfl, ho0, ho1, hb⟩; refine ⟨_, rfl, ?_⟩; have HO365 := Aside0.mk (Kd.R_lower (Kd.R_new' (Kd.R_new' ho0 (Kd.R_lt (by (with_reducible repeat (first | apply Kd.R_alloc | apply Kd.R_drewN | apply Kd.R_drew)); exact (Kd.R_mono (Kd.R_far (p := ⟨gb362, 1, none⟩) (Kd.R_far (p := ⟨gb362, 0, none⟩) (Kd.R_types HO357.out BK362.out (by decide)) (fun _ hk => hk.2) (.slice Ao137 t355.length co137)) (fun _ hk => hk.2) (.slice Ao142 t358.length co142)) (fun _ h_ => h_.1))))) (Kd.R_lt (by (with_reducible repeat (first | apply Kd.R_alloc | apply Kd.R_drewN | apply Kd.R_drew)); exact (Kd.R_mono (Kd.R_far (p := ⟨gb362, 1, none⟩) (Kd.R_far (p := ⟨gb362, 0, none⟩) (Kd.R_types HO360.out BK362.out (by decide)) (fun _ hk => hk.2) (.slice Ao137 t355.length co137)) (fun _ hk => hk.2) (.slice Ao142 t358.length co142)) (fun _ h_ => h_.1))))) (below_size (mbs_ HB.out))); have HO368 := Aside0.mk (Kd.R_lower (Kd.R_new' (Kd.R_new' ho1 (Kd.R_lt (by (with_reducible repeat (first | apply Kd.R_alloc | apply Kd.R_drewN | apply Kd.R_drew)); exact (Kd.R_mono (Kd.R_far (p := ⟨gb362, 1, none⟩) (Kd.R_far (p := ⟨gb362, 0, none⟩) (Kd.R_types HO357.out BK362.out (by decide)) (fun _ hk => hk.2) (.slice Ao137 t355.length co137)) (fun _ hk => hk.2) (.slice Ao142 t358.length co142)) (fun _ h_ => h_.1))))) (Kd.R_lt (by (with_reducible repeat (first | apply Kd.R_alloc | apply Kd.R_drewN | apply Kd.R_drew)); exact (Kd.R_mono (Kd.R_far (p := ⟨gb362, 1, none⟩) (Kd.R_far (p := ⟨gb362, 0, none⟩) (Kd.R_types HO360.out BK362.out (by decide)) (fun _ hk => hk.2) (.slice Ao137 t355.length co137)) (fun _ hk => hk.2) (.slice Ao142 t358.length co142)) (fun _ h_ => h_.1))))) (below_size (mbs_ HB.out))); replace HO357 := Aside0.mk (Kd.R_mono (Kd.R_told (Kd.R_told (Kd.R_old (by (with_reducible repeat (first | apply Kd.R_alloc | apply Kd.R_drewN | apply Kd.R_drew)); exact (Kd.R_mono (Kd.R_far (p := ⟨gb362, 1, none⟩) (Kd.R_far (p := ⟨gb362, 0, none⟩) (Kd.R_types HO357.out BK362.out (by decide)) (fun _ hk => hk.2) (.slice Ao137 t355.length co137)) (fun _ hk => hk.2) (.slice Ao142 t358.length co142)) (fun _ h_ => h_.1))) hb) (Kd.R_base ho0)) (Kd.R_base ho1)) (fun _ h_ => h_.1)); replace HO360 := Aside0.mk (Kd.R_mono (Kd.R_told (Kd.R_told (Kd.R_old (by (with_reducible repeat (first | apply Kd.R_alloc | apply Kd.R_drewN | apply Kd.R_drew)); exact (Kd.R_mono (Kd.R_far (p := ⟨gb362, 1, none⟩) (Kd.R_far (p := ⟨gb362, 0, none⟩) (Kd.R_types HO360.out BK362.out (by decide)) (fun _ hk => hk.2) (.slice Ao137 t355.length co137)) (fun _ hk => hk.2) (.slice Ao142 t358.length co142)) (fun _ h_ => h_.1))) hb) (Kd.R_base ho0)) (Kd.R_base ho1)) (fun _ h_ => h_.1)); replace BK347 := Aside0.mk (blk_below (g := gb347) (o := .cells #[.slice A0_0 l0_0.length c0_0, .slice A0_1 l0_1.length c0_1] 25 (0, 0)) (by (with_reducible repeat (first | refine blk_drewN ?_ _ | refine blk_drew ?_ | refine blk_alloc ?_ _)); refine blk_far ?_ NB347_362.out _; (with_reducible repeat (first | refine blk_drewN ?_ _ | refine blk_drew ?_ | refine blk_alloc ?_ _)); refine blk_far ?_ NB347_362.out _; (with_reducible repeat (first | refine blk_drewN ?_ _ | refine blk_drew ?_ | refine blk_alloc ?_ _)); exact BK347.out) hb); replace BK348 := Aside0.mk (blk_below (g := gb348) (o := .cells #[.slice A1_0 l1_0.length c1_0, .slice A1_1 l1_1.length c1_1] 27 (0, 0)) (by (with_reducible repeat (first | refine blk_drewN ?_ _ | refine blk_drew ?_ | refine blk_alloc ?_ _)); refine blk_far ?_ NB348_362.out _; (with_reducible repeat (first | refine blk_drewN ?_ _ | refine blk_drew ?_ | refine blk_alloc ?_ _)); refine blk_far ?_ NB348_362.out _; (with_reducible repeat (first | refine blk_drewN ?_ _ | refine blk_drew ?_ | refine blk_alloc ?_ _)); exact BK348.out) hb); replace BK349 := Aside0.mk (blk_below (g := gb349) (o := .cells #[.slice A2_0 l2_0.length c2_0, .slice A2_1 l2_1.length c2_1] 27 (0, 0)) (by (with_reducible repeat (first | refine blk_drewN ?_ _ | refine blk_drew ?_ | refine blk_alloc ?_ _)); refine blk_far ?_ NB349_362.out _; (with_reducible repeat (first | refine blk_drewN ?_ _ | refine blk_drew ?_ | refine blk_alloc ?_ _)); refine blk_far ?_ NB349_362.out _; (with_reducible repeat (first | refine blk_drewN ?_ _ | refine blk_drew ?_ | refine blk_alloc ?_ _)); exact BK349.out) hb); replace BK362 := Aside0.mk (blk_below (g := gb362) (o := .cells #[.slice Ao137 t355.length co137, .slice Ao142 t358.length co142] 27 (0, 0)) (by (with_reducible repeat (first | refine blk_drewN ?_ _ | refine blk_drew ?_ | refine blk_alloc ?_ _)); refine blk_put (cs := #[.slice Ao137 t355.length co137, .slice none 0 0]) ?_ 1 _ rfl; (with_reducible repeat (first | refine blk_drewN ?_ _ | refine blk_drew ?_ | refine blk_alloc ?_ _)); refine blk_put (cs := #[.slice none 0 0, .slice none 0 0]) ?_ 0 _ rfl; (with_reducible repeat (first | refine blk_drewN ?_ _ | refine blk_drew ?_ | refine blk_alloc ?_ _)); exact BK362.out) hb); replace HB := Aside0.mk (below_step (mbs_ HB.out) hb); (try clear hb); (try clear hb2); (try clear hk); (try clear hi); (try clear ho0); (try clear ho1)) | ((with_reducible refine gate_dst (N := 9) rfl ?_); refine box_event ?hg (N := 9) ?hd (cs := #[.slice none 0 0, .slice none 0 0]) (t := 27) ?hr ?_; (case hd => rfl); (case hg => rfl); (case hr => first | (go_simp; done) | (go_simp; rfl)); intro gb370 hg w145 hbox hb; replace HO357 := Aside0.mk (Kd.R_below (mr_ HO357.out) hb); replace HO360 := Aside0.mk (Kd.R_below (mr_ HO360.out) hb); replace HO365 := Aside0.mk (Kd.R_below (mr_ HO365.out) hb); replace HO368 := Aside0.mk (Kd.R_below (mr_ HO368.out) hb); have BK370 := Aside0.mk (hbox); have GW370 := Aside0.mk (gw_ hg (mbs_ HB.out)); have GE370 := Aside0.mk (gw_ hg (mbs_ HB.out)); replace HB := Aside0.mk (below_step (mbs_ HB.out) hb); have NB347_370 := Aside0.mk (nb_ hg (bk_ BK347.out)); have NB370_347 := Aside0.mk (nc_ hg (bk_ BK347.out)); replace BK347 := Aside0.mk (blk_below (bk_ BK347.out) hb); have NB348_370 := Aside0.mk (nb_ hg (bk_ BK348.out)); have NB370_348 := Aside0.mk (nc_ hg (bk_ BK348.out)); replace BK348 := Aside0.mk (blk_below (bk_ BK348.out) hb); have NB349_370 := Aside0.mk (nb_ hg (bk_ BK349.out)); have NB370_349 := Aside0.mk (nc_ hg (bk_ BK349.out)); replace BK349 := Aside0.mk (blk_below (bk_ BK349.out) hb); have NB362_370 := Aside0.mk (nb_ hg (bk_ BK362.out)); have NB370_362 := Aside0.mk (nc_ hg (bk_ BK362.out)); replace BK362 := Aside0.mk (blk_below (bk_ BK362.out) hb); clear hb hbox hg; obtain ⟨Ao146, co146, eo146⟩ := Kd.R_slice HO365.out; subst eo146; have hnb147 := NB370_347.out; have hnc147 := NB347_370.out; have hnb148 := NB370_348.out; have hnc148 := NB348_370.out; have hnb149 := NB370_349.out; have hnc149 := NB349_370.out; have hnb150 := NB370_362.out; have hnc150 := NB362_370.out; have hcz151_0 := bc0_ BK370.out; have hcz151_1 := bc1_ BK370.out; have hfz151_0 := blk_frozen BK370.out 0; have hfz151_1 := blk_frozen BK370.out 1; obtain ⟨Ao152, co152, eo152⟩ := Kd.R_slice HO368.out; subst eo152))
     have n0_ : Aside0 (Kd.R (Kd.int .i64) 3 ((w145.setCell ⟨gb370, 0, none⟩ (.slice Ao146 t363.length co146)).setCell ⟨gb370, 1, none⟩ (.slice Ao152 t366.length co152)) w.heap.size (fun k_ => some k_ ≠ (.slice Ao142 t358.length co142 : Value).ownBlock ∧ some k_ ≠ (.slice Ao146 t363.length co146 : Value).ownBlock ∧ some k_ ≠ (.slice Ao152 t366.length co152 : Value).ownBlock) (.slice Ao137 t355.length co137) t355) := ⟨by (with_reducible repeat (first | apply Kd.R_alloc | apply Kd.R_drewN | apply Kd.R_drew)); exact Kd.R_mono (Kd.R_far (p := ⟨gb370, 1, none⟩) (Kd.R_far (p := ⟨gb370, 0, none⟩) (Kd.R_types HO357.out BK370.out (by decide)) (fun _ hk => hk.2) (.slice Ao146 t363.length co146)) (fun _ hk => hk.2) (.slice Ao152 t366.length co152)) (fun _ hk => ⟨hk.1.1.1, ⟨hk.1.1.2, hk.1.2⟩⟩)⟩
     have n1_ : Aside0 (Kd.R (Kd.int .i64) 3 ((w145.setCell ⟨gb370, 0, none⟩ (.slice Ao146 t363.length co146)).setCell ⟨gb370, 1, none⟩ (.slice Ao152 t366.length co152)) w.heap.size (fun k_ => some k_ ≠ (.slice Ao137 t355.length co137 : Value).ownBlock ∧ some k_ ≠ (.slice Ao146 t363.length co146 : Value).ownBlock ∧ some k_ ≠ (.slice Ao152 t366.length co152 : Value).ownBlock) (.slice Ao142 t358.length co142) t358) := ⟨by (with_reducible repeat (first | apply Kd.R_alloc | apply Kd.R_drewN | apply Kd.R_drew)); exact Kd.R_mono (Kd.R_far (p := ⟨gb370, 1, none⟩) (Kd.R_far (p := ⟨gb370, 0, none⟩) (Kd.R_types HO360.out BK370.out (by decide)) (fun _ hk => hk.2) (.slice Ao146 t363.length co146)) (fun _ hk => hk.2) (.slice Ao152 t366.length co152)) (fun _ hk => ⟨hk.1.1.1, ⟨hk.1.1.2, hk.1.2⟩⟩)⟩
     have n2_ : Aside0 (Kd.R (Kd.int .i64) 3 ((w145.setCell ⟨gb370, 0, none⟩ (.slice Ao146 t363.length co146)).setCell ⟨gb370, 1, none⟩ (.slice Ao152 t366.length co152)) w.heap.size (fun k_ => some k_ ≠ (.slice Ao137 t355.length co137 : Value).ownBlock ∧ some k_ ≠ (.slice Ao142 t358.length co142 : Value).ownBlock ∧ some k_ ≠ (.slice Ao152 t366.length co152 : Value).ownBlock) (.slice Ao146 t363.length co146) t363) := ⟨by (with_reducible repeat (first | apply Kd.R_alloc | apply Kd.R_drewN | apply Kd.R_drew)); exact Kd.R_mono (Kd.R_far (p := ⟨gb370, 1, none⟩) (Kd.R_far (p := ⟨gb370, 0, none⟩) (Kd.R_types HO365.out BK370.out (by decide)) (fun _ hk => hk.2) (.slice Ao146 t363.length co146)) (fun _ hk => hk.2) (.slice Ao152 t366.length co152)) (fun _ hk => ⟨hk.1.1.2, ⟨hk.1.2, hk.1.1.1⟩⟩)⟩
     have n3_ : Aside0 (Kd.R (Kd.int .i64) 3 ((w145.setCell ⟨gb370, 0, none⟩ (.slice Ao146 t363.length co146)).setCell ⟨gb370, 1, none⟩ (.slice Ao152 t366.length co152)) w.heap.size (fun k_ => some k_ ≠ (.slice Ao137 t355.length co137 : Value).ownBlock ∧ some k_ ≠ (.slice Ao142 t358.length co142 : Value).ownBlock ∧ some k_ ≠ (.slice Ao146 t363.length co146 : Value).ownBlock) (.slice Ao152 t366.length co152) t366) := ⟨by (with_reducible repeat (first | apply Kd.R_alloc | apply Kd.R_drewN | apply Kd.R_drew)); exact Kd.R_mono (Kd.R_far (p := ⟨gb370, 1, none⟩) (Kd.R_far (p := ⟨gb370, 0, none⟩) (Kd.R_types HO368.out BK370.out (by decide)) (fun _ hk => hk.2) (.slice Ao146 t363.length co146)) (fun _ hk => hk.2) (.slice Ao152 t366.length co152)) (fun _ hk => ⟨hk.1.1.2, ⟨hk.1.2, hk.1.1.1⟩⟩)⟩
     have n4_ : Aside0 (((w145.setCell ⟨gb370, 0, none⟩ (.slice Ao146 t363.length co146)).setCell ⟨gb370, 1, none⟩ (.slice Ao152 t366.length co152)).heap[gb347]? = some (.cells #[.slice A0_0 l0_0.length c0_0, .slice A0_1 l0_1.length c0_1] 25 (0, 0))) := ⟨by (with_reducible repeat (first | refine blk_drewN ?_ _ | refine blk_drew ?_ | refine blk_alloc ?_ _)); refine blk_far ?_ NB347_370.out _; (with_reducible repeat (first | refine blk_drewN ?_ _ | refine blk_drew ?_ | refine blk_alloc ?_ _)); refine blk_far ?_ NB347_370.out _; (with_reducible repeat (first | refine blk_drewN ?_ _ | refine blk_drew ?_ | refine blk_alloc ?_ _)); exact BK347.out⟩
     have n5_ : Aside0 (((w145.setCell ⟨gb370, 0, none⟩ (.slice Ao146 t363.length co146)).setCell ⟨gb370, 1, none⟩ (.slice Ao152 t366.length co152)).heap[gb348]? = some (.cells #[.slice A1_0 l1_0.length c1_0, .slice A1_1 l1_1.length c1_1] 27 (0, 0))) := ⟨by (with_reducible repeat (first | refine blk_drewN ?_ _ | refine blk_drew ?_ | refine blk_alloc ?_ _)); refine blk_far ?_ NB348_370.out _; (with_reducible repeat (first | refine blk_drewN ?_ _ | refine blk_drew ?_ | refine blk_alloc ?_ _)); refine blk_far ?_ NB348_370.out _; (with_reducible repeat (first | refine blk_drewN ?_ _ | refine blk_drew ?_ | refine blk_alloc ?_ _)); exact BK348.out⟩
     have n6_ : Aside0 (((w145.setCell ⟨gb370, 0, none⟩ (.slice Ao146 t363.length co146)).setCell ⟨gb370, 1, none⟩ (.slice Ao152 t366.length co152)).heap[gb349]? = some (.cells #[.slice A2_0 l2_0.length c2_0, .slice A2_1 l2_1.length c2_1] 27 (0, 0))) := ⟨by (with_reducible repeat (first | refine blk_drewN ?_ _ | refine blk_drew ?_ | refine blk_alloc ?_ _)); refine blk_far ?_ NB349_370.out _; (with_reducible repeat (first | refine blk_drewN ?_ _ | refine blk_drew ?_ | refine blk_alloc ?_ _)); refine blk_far ?_ NB349_370.out _; (with_reducible repeat (first | refine blk_drewN ?_ _ | refine blk_drew ?_ | refine blk_alloc ?_ _)); exact BK349.out⟩
     have n7_ : Aside0 (((w145.setCell ⟨gb370, 0, none⟩ (.slice Ao146 t363.length co146)).setCell ⟨gb370, 1, none⟩ (.slice Ao152 t366.length co152)).heap[gb362]? = some (.cells #[.slice Ao137 t355.length co137, .slice Ao142 t358.length co142] 27 (0, 0))) := ⟨by (with_reducible repeat (first | refine blk_drewN ?_ _ | refine blk_drew ?_ | refine blk_alloc ?_ _)); refine blk_far ?_ NB362_370.out _; (with_reducible repeat (first | refine blk_drewN ?_ _ | refine blk_drew ?_ | refine blk_alloc ?_ _)); refine blk_far ?_ NB362_370.out _; (with_reducible repeat (first | refine blk_drewN ?_ _ | refine blk_drew ?_ | refine blk_alloc ?_ _)); exact BK362.out⟩
     have n8_ : Aside0 (((w145.setCell ⟨gb370, 0, none⟩ (.slice Ao146 t363.length co146)).setCell ⟨gb370, 1, none⟩ (.slice Ao152 t366.length co152)).heap[gb370]? = some (.cells #[.slice Ao146 t363.length co146, .slice Ao152 t366.length co152] 27 (0, 0))) := ⟨by (with_reducible repeat (first | refine blk_drewN ?_ _ | refine blk_drew ?_ | refine blk_alloc ?_ _)); refine blk_put (cs := #[.slice Ao146 t363.length co146, .slice none 0 0]) ?_ 1 _ rfl; (with_reducible repeat (first | refine blk_drewN ?_ _ | refine blk_drew ?_ | refine blk_alloc ?_ _)); refine blk_put (cs := #[.slice none 0 0, .slice none 0 0]) ?_ 0 _ rfl; (with_reducible repeat (first | refine blk_drewN ?_ _ | refine blk_drew ?_ | refine blk_alloc ?_ _)); exact BK370.out⟩
     have n9_ : Aside0 (Below w.heap.size w ((w145.setCell ⟨gb370, 0, none⟩ (.slice Ao146 t363.length co146)).setCell ⟨gb370, 1, none⟩ (.slice Ao152 t366.length co152))) := ⟨mbs_ HB.out⟩
     (try clear HO357)
     (try clear HO360)
     (try clear HO365)
     (try clear HO368)
     (try clear BK347)
     (try clear BK348)
     (try clear BK349)
     (try clear BK362)
     (try clear BK370)
     (try clear HB)
     generalize ((w145.setCell ⟨gb370, 0, none⟩ (.slice Ao146 t363.length co146)).setCell ⟨gb370, 1, none⟩ (.slice Ao152 t366.length co152)) = w153 at n0_ n1_ n2_ n3_ n4_ n5_ n6_ n7_ n8_ n9_ ⊢
     have HO357 := n0_
     have HO360 := n1_
     have HO365 := n2_
     have HO368 := n3_
     have BK347 := n4_
     have BK348 := n5_
     have BK349 := n6_
     have BK362 := n7_
     have BK370 := n8_
     have HB := n9_
     clear n0_ n1_ n2_ n3_ n4_ n5_ n6_ n7_ n8_ n9_
     replace HO357 := Aside0.mk (Kd.R_drew HO357.out)
     replace HO360 := Aside0.mk (Kd.R_drew HO360.out)
     replace HO365 := Aside0.mk (Kd.R_drew HO365.out)
     replace HO368 := Aside0.mk (Kd.R_drew HO368.out)
     replace BK347 := Aside0.mk (blk_drew BK347.out)
     replace BK348 := Aside0.mk (blk_drew BK348.out)
     replace BK349 := Aside0.mk (blk_drew BK349.out)
     replace BK362 := Aside0.mk (blk_drew BK362.out)
     replace BK370 := Aside0.mk (blk_drew BK370.out)
     replace HB := Aside0.mk (below_drew1 HB.out)
     refine start_ (n := 24) (S := fun w' => True) (ds := []) #[false, false, false, false, false, false, false, false, false, false, false, false, false, false, false, false, false, false, false, false, false, false, false, false] (by kernel_rfl) rfl rfl trivial (fun hHeld => ?_); refine with_tabW scarfjointlaw06_MorphismSame.tab5 scarfjointlaw06_MorphismSame.bits5 (fun HT_ HW_ => ?_)
     generalize w153.drew = w154 at HO357 HO360 HO365 HO368 BK347 BK348 BK349 BK362 BK370 HB hHeld ⊢
     refine pure_ (i := 0) (N := some 39) (v := ?_) (a' := ?_) #[true, false, false, false, false, false, false, false, false, false, false, false, false, false, false, false, false, false, false, false, false, false, false, false] rfl rfl (any_of HT_.out (by kernel_rfl)) (fun _ _ _ h => h) (Or.inl ⟨by rfl, ?_⟩) ?_ ?_
     rotate_left
     ·intro w'
      go_simp
      with_reducible rfl
     rotate_left
     ·simp only [Act.put, List.setIfInBounds_toArray, List.set_cons_zero, List.set_cons_succ, i64_w, i32_w]
      rfl
     refine pure_ (i := 1) (N := some 40) (v := ?_) (a' := ?_) #[true, true, false, false, false, false, false, false, false, false, false, false, false, false, false, false, false, false, false, false, false, false, false, false] rfl rfl (any_of HT_.out (by kernel_rfl)) (fun _ _ _ h => h) (Or.inl ⟨by rfl, ?_⟩) ?_ ?_
     rotate_left
     ·intro w'
      go_simp
      with_reducible rfl
     rotate_left
     ·simp only [Act.put, List.setIfInBounds_toArray, List.set_cons_zero, List.set_cons_succ, i64_w, i32_w]
      rfl
     refine pure_ (i := 2) (N := some 41) (v := ?_) (a' := ?_) #[true, true, true, false, false, false, false, false, false, false, false, false, false, false, false, false, false, false, false, false, false, false, false, false] rfl rfl (any_of HT_.out (by kernel_rfl)) (fun _ _ _ h => h) (Or.inl ⟨by rfl, ?_⟩) ?_ ?_
     rotate_left
     ·intro w'
      go_simp
      with_reducible rfl
     rotate_left
     ·simp only [Act.put, List.setIfInBounds_toArray, List.set_cons_zero, List.set_cons_succ, i64_w, i32_w]
      rfl
     refine pure_ (i := 3) (N := some 42) (v := ?_) (a' := ?_) #[true, true, true, true, false, false, false, false, false, false, false, false, false, false, false, false, false, false, false, false, false, false, false, false] rfl rfl (any_of HT_.out (by kernel_rfl)) (fun _ _ _ h => h) (Or.inl ⟨by rfl, ?_⟩) ?_ ?_
     rotate_left
     ·intro w'
      go_simp
      with_reducible rfl
     rotate_left
     ·simp only [Act.put, List.setIfInBounds_toArray, List.set_cons_zero, List.set_cons_succ, i64_w, i32_w]
      rfl
     refine pure_ (i := 4) (N := some 43) (v := undef) (a' := ?_) #[true, true, true, true, true, false, false, false, false, false, false, false, false, false, false, false, false, false, false, false, false, false, false, false] rfl rfl (any_of HT_.out (by kernel_rfl)) (fun _ _ _ h => h) (Or.inr ⟨by rfl, rfl⟩) ?_ ?_
     rotate_left
     ·simp only [Act.put, List.setIfInBounds_toArray, List.set_cons_zero, List.set_cons_succ, i64_w, i32_w]
      rfl
     refine pure_ (i := 5) (N := some 44) (v := undef) (a' := ?_) #[true, true, true, true, true, true, false, false, false, false, false, false, false, false, false, false, false, false, false, false, false, false, false, false] rfl rfl (any_of HT_.out (by kernel_rfl)) (fun _ _ _ h => h) (Or.inr ⟨by rfl, rfl⟩) ?_ ?_
     rotate_left
     ·simp only [Act.put, List.setIfInBounds_toArray, List.set_cons_zero, List.set_cons_succ, i64_w, i32_w]
      rfl
     refine pure_ (i := 6) (N := some 45) (v := undef) (a' := ?_) #[true, true, true, true, true, true, true, false, false, false, false, false, false, false, false, false, false, false, false, false, false, false, false, false] rfl rfl (any_of HT_.out (by kernel_rfl)) (fun _ _ _ h => h) (Or.inr ⟨by rfl, rfl⟩) ?_ ?_
     rotate_left
     ·simp only [Act.put, List.setIfInBounds_toArray, List.set_cons_zero, List.set_cons_succ, i64_w, i32_w]
      rfl
     refine pure_ (i := 7) (N := some 46) (v := ?_) (a' := ?_) #[true, true, true, true, true, true, true, true, false, false, false, false, false, false, false, false, false, false, false, false, false, false, false, false] rfl rfl (any_of HT_.out (by kernel_rfl)) (fun _ _ _ h => h) (Or.inl ⟨by rfl, ?_⟩) ?_ ?_
     rotate_left
     ·intro w'
      go_simp
      with_reducible rfl
     rotate_left
     ·simp only [Act.put, List.setIfInBounds_toArray, List.set_cons_zero, List.set_cons_succ, i64_w, i32_w]
      rfl
     refine pure_ (i := 8) (N := some 47) (v := ?_) (a' := ?_) #[true, true, true, true, true, true, true, true, true, false, false, false, false, false, false, false, false, false, false, false, false, false, false, false] rfl rfl (any_of HT_.out (by kernel_rfl)) (fun _ _ _ h => h) (Or.inl ⟨by rfl, ?_⟩) ?_ ?_
     rotate_left
     ·intro w'
      go_simp
      with_reducible rfl
     rotate_left
     ·simp only [Act.put, List.setIfInBounds_toArray, List.set_cons_zero, List.set_cons_succ, i64_w, i32_w]
      rfl
     refine pure_ (i := 9) (N := some 48) (v := undef) (a' := ?_) #[true, true, true, true, true, true, true, true, true, true, false, false, false, false, false, false, false, false, false, false, false, false, false, false] rfl rfl (any_of HT_.out (by kernel_rfl)) (fun _ _ _ h => h) (Or.inr ⟨by rfl, rfl⟩) ?_ ?_
     rotate_left
     ·simp only [Act.put, List.setIfInBounds_toArray, List.set_cons_zero, List.set_cons_succ, i64_w, i32_w]
      rfl
     refine pure_ (i := 10) (N := some 49) (v := undef) (a' := ?_) #[true, true, true, true, true, true, true, true, true, true, true, false, false, false, false, false, false, false, false, false, false, false, false, false] rfl rfl (any_of HT_.out (by kernel_rfl)) (fun _ _ _ h => h) (Or.inr ⟨by rfl, rfl⟩) ?_ ?_
     rotate_left
     ·simp only [Act.put, List.setIfInBounds_toArray, List.set_cons_zero, List.set_cons_succ, i64_w, i32_w]
      rfl
     refine pure_ (i := 11) (N := some 50) (v := undef) (a' := ?_) #[true, true, true, true, true, true, true, true, true, true, true, true, false, false, false, false, false, false, false, false, false, false, false, false] rfl rfl (any_of HT_.out (by kernel_rfl)) (fun _ _ _ h => h) (Or.inr ⟨by rfl, rfl⟩) ?_ ?_
     rotate_left
     ·simp only [Act.put, List.setIfInBounds_toArray, List.set_cons_zero, List.set_cons_succ, i64_w, i32_w]
      rfl
     refine pure_ (i := 12) (N := some 51) (v := undef) (a' := ?_) #[true, true, true, true, true, true, true, true, true, true, true, true, true, false, false, false, false, false, false, false, false, false, false, false] rfl rfl (any_of HT_.out (by kernel_rfl)) (fun _ _ _ h => h) (Or.inr ⟨by rfl, rfl⟩) ?_ ?_
     rotate_left
     ·simp only [Act.put, List.setIfInBounds_toArray, List.set_cons_zero, List.set_cons_succ, i64_w, i32_w]
      rfl
     refine pure_ (i := 13) (N := some 52) (v := undef) (a' := ?_) #[true, true, true, true, true, true, true, true, true, true, true, true, true, true, false, false, false, false, false, false, false, false, false, false] rfl rfl (any_of HT_.out (by kernel_rfl)) (fun _ _ _ h => h) (Or.inr ⟨by rfl, rfl⟩) ?_ ?_
     rotate_left
     ·simp only [Act.put, List.setIfInBounds_toArray, List.set_cons_zero, List.set_cons_succ, i64_w, i32_w]
      rfl
     refine pure_ (i := 14) (N := some 53) (v := undef) (a' := ?_) #[true, true, true, true, true, true, true, true, true, true, true, true, true, true, true, false, false, false, false, false, false, false, false, false] rfl rfl (any_of HT_.out (by kernel_rfl)) (fun _ _ _ h => h) (Or.inr ⟨by rfl, rfl⟩) ?_ ?_
     rotate_left
     ·simp only [Act.put, List.setIfInBounds_toArray, List.set_cons_zero, List.set_cons_succ, i64_w, i32_w]
      rfl
     refine pure_ (i := 15) (N := some 54) (v := undef) (a' := ?_) #[true, true, true, true, true, true, true, true, true, true, true, true, true, true, true, true, false, false, false, false, false, false, false, false] rfl rfl (any_of HT_.out (by kernel_rfl)) (fun _ _ _ h => h) (Or.inr ⟨by rfl, rfl⟩) ?_ ?_
     rotate_left
     ·simp only [Act.put, List.setIfInBounds_toArray, List.set_cons_zero, List.set_cons_succ, i64_w, i32_w]
      rfl
     refine pure_ (i := 16) (N := some 55) (v := ?_) (a' := ?_) #[true, true, true, true, true, true, true, true, true, true, true, true, true, true, true, true, true, false, false, false, false, false, false, false] rfl rfl (any_of HT_.out (by kernel_rfl)) (fun _ _ _ h => h) (Or.inl ⟨by rfl, ?_⟩) ?_ ?_
     rotate_left
     ·intro w'
      go_simp
      with_reducible rfl
     rotate_left
     ·simp only [Act.put, List.setIfInBounds_toArray, List.set_cons_zero, List.set_cons_succ, i64_w, i32_w]
      rfl
     refine pure_ (i := 17) (N := some 56) (v := ?_) (a' := ?_) #[true, true, true, true, true, true, true, true, true, true, true, true, true, true, true, true, true, true, false, false, false, false, false, false] rfl rfl (any_of HT_.out (by kernel_rfl)) (fun _ _ _ h => h) (Or.inl ⟨by rfl, ?_⟩) ?_ ?_
     rotate_left
     ·intro w'
      go_simp
      with_reducible rfl
     rotate_left
     ·simp only [Act.put, List.setIfInBounds_toArray, List.set_cons_zero, List.set_cons_succ, i64_w, i32_w]
      rfl
     refine pure_ (i := 18) (N := some 57) (v := undef) (a' := ?_) #[true, true, true, true, true, true, true, true, true, true, true, true, true, true, true, true, true, true, true, false, false, false, false, false] rfl rfl (any_of HT_.out (by kernel_rfl)) (fun _ _ _ h => h) (Or.inr ⟨by rfl, rfl⟩) ?_ ?_
     rotate_left
     ·simp only [Act.put, List.setIfInBounds_toArray, List.set_cons_zero, List.set_cons_succ, i64_w, i32_w]
      rfl
     refine pure_ (i := 19) (N := some 58) (v := undef) (a' := ?_) #[true, true, true, true, true, true, true, true, true, true, true, true, true, true, true, true, true, true, true, true, false, false, false, false] rfl rfl (any_of HT_.out (by kernel_rfl)) (fun _ _ _ h => h) (Or.inr ⟨by rfl, rfl⟩) ?_ ?_
     rotate_left
     ·simp only [Act.put, List.setIfInBounds_toArray, List.set_cons_zero, List.set_cons_succ, i64_w, i32_w]
      rfl
     refine pure_ (i := 20) (N := some 59) (v := undef) (a' := ?_) #[true, true, true, true, true, true, true, true, true, true, true, true, true, true, true, true, true, true, true, true, true, false, false, false] rfl rfl (any_of HT_.out (by kernel_rfl)) (fun _ _ _ h => h) (Or.inr ⟨by rfl, rfl⟩) ?_ ?_
     rotate_left
     ·simp only [Act.put, List.setIfInBounds_toArray, List.set_cons_zero, List.set_cons_succ, i64_w, i32_w]
      rfl
     refine pure_ (i := 21) (N := some 60) (v := undef) (a' := ?_) #[true, true, true, true, true, true, true, true, true, true, true, true, true, true, true, true, true, true, true, true, true, true, false, false] rfl rfl (any_of HT_.out (by kernel_rfl)) (fun _ _ _ h => h) (Or.inr ⟨by rfl, rfl⟩) ?_ ?_
     rotate_left
     ·simp only [Act.put, List.setIfInBounds_toArray, List.set_cons_zero, List.set_cons_succ, i64_w, i32_w]
      rfl
     refine pure_ (i := 22) (N := some 61) (v := ?_) (a' := ?_) #[true, true, true, true, true, true, true, true, true, true, true, true, true, true, true, true, true, true, true, true, true, true, true, false] rfl rfl (any_of HT_.out (by kernel_rfl)) (fun _ _ _ h => h) (Or.inl ⟨by rfl, ?_⟩) ?_ ?_
     rotate_left
     ·intro w'
      go_simp
      with_reducible rfl
     rotate_left
     ·simp only [Act.put, List.setIfInBounds_toArray, List.set_cons_zero, List.set_cons_succ, i64_w, i32_w]
      rfl
     refine pure_ (i := 23) (N := some 6) (v := ?_) (a' := ?_) #[true, true, true, true, true, true, true, true, true, true, true, true, true, true, true, true, true, true, true, true, true, true, true, true] rfl rfl (any_of HT_.out (by kernel_rfl)) (fun _ _ _ h => h) (Or.inl ⟨by rfl, ?_⟩) ?_ ?_
     rotate_left
     ·intro w'
      go_simp
      with_reducible rfl
     rotate_left
     ·simp only [Act.put, List.setIfInBounds_toArray, List.set_cons_zero, List.set_cons_succ, i64_w, i32_w]
      rfl
     refine done_ (done_of HT_.out (by kernel_rfl)) ?_
     as_aux_lemma =>
     try go_wp2
     go_ret
     exact ⟨by first | rfl | (simp [errW_none, errW_some] <;> rfl) | (simp [*, errW_none, errW_some] <;> rfl), mbs_ HB.out⟩

end Go.Proofs.Ytklacpdobpkbbaa.P
