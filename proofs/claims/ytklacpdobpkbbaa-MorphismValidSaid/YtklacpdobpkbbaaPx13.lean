-- Written by wip/drive.py of this session's repo over the kit's print.py (with contracts of the session's own): not the print's own text
import Derived.Test.YtklacpdobpkbbaaPx0
import Derived.Test.YtklacpdobpkbbaaPx1
namespace Go.Proofs.Ytklacpdobpkbbaa.P
open Go.RowKit Go.Proofs.YtklacpdobpkbbaaW.PrintWords Go.Proofs.YtklacpdobpkbbaaW.PrintLast Go.Proofs.YtklacpdobpkbbaaW.PrintMore
attribute [local go_sem] max2_int min2_int max_two min_two max_three min_three max_four min_four   -- for this text's walks alone
set_option linter.unusedVariables false
set_option linter.unusedSimpArgs false

attribute [local go_sem high] eqA65
-- NOT PRINTED: function 69 (scarfjointref06_edges)

/-! ### scarfjointref06_fits: function 70 -/
mutual
def scarfjointref06_fits.l0 : Nat → List Int → Int → Int → List Int → List (S65) → List Int → List (S65) → Option (Bool)
 | 0, _, _, _, _, _, _, _ => none
 | k + 1, x2, x7, x8, x279000, x279001, x280000, x280001 => if x8 < (x279001.length : Int) then (if 0 ≤ x8 then (if (mx ((rd_T65 x279001 x8).f1) ((rd_T65 x279001 x8).f2)) = x7 then (scarfjointref06_fits.l1 k x2 x7 x8 false 0 x279000 x279001 x280000 x280001 ((rd_T65 x279001 x8).f0) ((rd_T65 x279001 x8).f1) ((rd_T65 x279001 x8).f2)) else (scarfjointref06_fits.l0 k x2 x7 (wrap64 (x8 + 1)) x279000 x279001 x280000 x280001)) else (none)) else (some true)
def scarfjointref06_fits.l1 : Nat → List Int → Int → Int → Bool → Int → List Int → List (S65) → List Int → List (S65) → Int → Int → Int → Option (Bool)
 | 0, _, _, _, _, _, _, _, _, _, _, _, _ => none
 | k + 1, x2, x7, x8, x10, x11, x279000, x279001, x280000, x280001, x282000, x282001, x282002 => if x11 < (x280001.length : Int) then (if x10 = true then (scarfjointref06_fits.l0 k x2 x7 (wrap64 (x8 + 1)) x279000 x279001 x280000 x280001) else (if 0 ≤ x11 then (if 0 ≤ x282001 then (if x282001 < (x2.length : Int) then (if 0 ≤ x282002 then (if x282002 < (x2.length : Int) then (scarfjointref06_fits.l1 k x2 x7 x8 (((rd_T65 x280001 x11).f0) == x282000 && (((rd_T65 x280001 x11).f1) == (rd x2 x282001) && (((rd_T65 x280001 x11).f2) == (rd x2 x282002)))) (wrap64 (x11 + 1)) x279000 x279001 x280000 x280001 x282000 x282001 x282002) else (none)) else (none)) else (none)) else (none)) else (none))) else (if x10 = true then (scarfjointref06_fits.l0 k x2 x7 (wrap64 (x8 + 1)) x279000 x279001 x280000 x280001) else (some false))
end
def scarfjointref06_fits.f (k : Nat) (l0_0 : List Int) (l0_1 : List (S65)) (l1_0 : List Int) (l1_1 : List (S65)) (l2 : List Int) : Option (Bool) := scarfjointref06_fits.l0 k l2 (wrap64 ((l2.length : Int) - 1)) 0 l0_0 l0_1 l1_0 l1_1
theorem scarfjointref06_fits.mono_l : ∀ k, (∀ y0 y1 y2 y3 y4 y5 y6, LeO (scarfjointref06_fits.l0 k y0 y1 y2 y3 y4 y5 y6) (scarfjointref06_fits.l0 (k + 1) y0 y1 y2 y3 y4 y5 y6)) ∧ (∀ y0 y1 y2 y3 y4 y5 y6 y7 y8 y9 y10 y11, LeO (scarfjointref06_fits.l1 k y0 y1 y2 y3 y4 y5 y6 y7 y8 y9 y10 y11) (scarfjointref06_fits.l1 (k + 1) y0 y1 y2 y3 y4 y5 y6 y7 y8 y9 y10 y11))
 | 0 => ⟨fun _ _ _ _ _ _ _ r h => by simp [scarfjointref06_fits.l0] at h, fun _ _ _ _ _ _ _ _ _ _ _ _ r h => by simp [scarfjointref06_fits.l1] at h⟩
 | k + 1 => by
  obtain ⟨ih0, ih1⟩ := scarfjointref06_fits.mono_l k
  refine ⟨?_, ?_⟩
  ·intro y0 y1 y2 y3 y4 y5 y6
   unfold scarfjointref06_fits.l0
   repeat' first
   | (with_reducible exact ih0 _ _ _ _ _ _ _)
   | (with_reducible exact ih1 _ _ _ _ _ _ _ _ _ _ _ _)
   | (with_reducible exact LeO.refl _)
   | (with_reducible exact LeO.none _)
   | (with_reducible refine LeO.ite ?_ ?_)
   | (with_reducible refine LeO.bind ?_ (fun _ => ?_))
   | exact ih0 _ _ _ _ _ _ _
   | exact ih1 _ _ _ _ _ _ _ _ _ _ _ _
   | exact LeO.none _
   | refine LeO.ite ?_ ?_
   | refine LeO.bind ?_ (fun _ => ?_)
  ·intro y0 y1 y2 y3 y4 y5 y6 y7 y8 y9 y10 y11
   unfold scarfjointref06_fits.l1
   repeat' first
   | (with_reducible exact ih0 _ _ _ _ _ _ _)
   | (with_reducible exact ih1 _ _ _ _ _ _ _ _ _ _ _ _)
   | (with_reducible exact LeO.refl _)
   | (with_reducible exact LeO.none _)
   | (with_reducible refine LeO.ite ?_ ?_)
   | (with_reducible refine LeO.bind ?_ (fun _ => ?_))
   | exact ih0 _ _ _ _ _ _ _
   | exact ih1 _ _ _ _ _ _ _ _ _ _ _ _
   | exact LeO.none _
   | refine LeO.ite ?_ ?_
   | refine LeO.bind ?_ (fun _ => ?_)
theorem scarfjointref06_fits.mono : ∀ a0 a1 a2 a3 a4 k, LeO (scarfjointref06_fits.f k a0 a1 a2 a3 a4) (scarfjointref06_fits.f (k + 1) a0 a1 a2 a3 a4) := by
 intro a0 a1 a2 a3 a4 k
 obtain ⟨ih0, ih1⟩ := scarfjointref06_fits.mono_l k
 unfold scarfjointref06_fits.f
 repeat' first
   | (with_reducible exact ih0 _ _ _ _ _ _ _)
   | (with_reducible exact ih1 _ _ _ _ _ _ _ _ _ _ _ _)
   | (with_reducible exact LeO.refl _)
   | (with_reducible exact LeO.none _)
   | (with_reducible refine LeO.ite ?_ ?_)
   | (with_reducible refine LeO.bind ?_ (fun _ => ?_))
   | exact ih0 _ _ _ _ _ _ _
   | exact ih1 _ _ _ _ _ _ _ _ _ _ _ _
   | exact LeO.none _
   | refine LeO.ite ?_ ?_
   | refine LeO.bind ?_ (fun _ => ?_)
set_option maxHeartbeats 8000000 in
set_option maxRecDepth 100000 in
theorem scarfjointref06_fits.calls (k : Nat) (A0_0 : Option Addr) (c0_0 : Nat) (l0_0 : List Int) (A0_1 : Option Addr) (c0_1 : Nat) (l0_1 : List (S65)) (A1_0 : Option Addr) (c1_0 : Nat) (l1_0 : List Int) (A1_1 : Option Addr) (c1_1 : Nat) (l1_1 : List (S65)) (A2 : Option Addr) (c2 : Nat) (l2 : List Int) (r : Bool) (w : World) (hr0_0 : Kd.C (Kd.int .i64) w A0_0 l0_0.length l0_0) (hc0_0 : l0_0.length ≤ c0_0) (hr0_1 : Kd.C k65 w A0_1 l0_1.length l0_1) (hc0_1 : l0_1.length ≤ c0_1) (hr1_0 : Kd.C (Kd.int .i64) w A1_0 l1_0.length l1_0) (hc1_0 : l1_0.length ≤ c1_0) (hr1_1 : Kd.C k65 w A1_1 l1_1.length l1_1) (hc1_1 : l1_1.length ≤ c1_1) (hr2 : Kd.C (Kd.int .i64) w A2 l2.length l2) (hc2 : l2.length ≤ c2) (h : scarfjointref06_fits.f k l0_0 l0_1 l1_0 l1_1 l2 = some r) :
  Calls Try.prog 70 #[.agg #[.slice A0_0 l0_0.length c0_0, .slice A0_1 l0_1.length c0_1], .agg #[.slice A1_0 l1_0.length c1_0, .slice A1_1 l1_1.length c1_1], .slice A2 l2.length c2] w fun e w' => e = .returned (.bool r) ∧ Below w.heap.size w w' := by
 have hu25 := Try.underlying25
 have hu65 := Try.underlying65
 have HR0_0 := Aside0.mk hr0_0
 have HC0_0 := Aside0.mk hc0_0
 clear hr0_0 hc0_0
 have HR0_1 := Aside0.mk hr0_1
 have HC0_1 := Aside0.mk hc0_1
 clear hr0_1 hc0_1
 have HR1_0 := Aside0.mk hr1_0
 have HC1_0 := Aside0.mk hc1_0
 clear hr1_0 hc1_0
 have HR1_1 := Aside0.mk hr1_1
 have HC1_1 := Aside0.mk hc1_1
 clear hr1_1 hc1_1
 have HR2 := Aside0.mk hr2
 have HC2 := Aside0.mk hc2
 clear hr2 hc2
 have HB := Aside0.mk (Below.refl w.heap.size w)
 have H : (scarfjointref06_fits.l0 k l2 (wrap64 ((l2.length : Int) - 1)) 0 l0_0 l0_1 l1_0 l1_1) = some r := h
 clear h
 have H' := Aside0.mk H
 clear H
 go_enter Try.func70, Try.ntmps70
 go_wp2_with (first | ((with_reducible refine gate_dst (N := 3) rfl ?_); refine box_event ?hg (N := 3) ?hd (cs := #[.slice A0_0 l0_0.length c0_0, .slice A0_1 l0_1.length c0_1]) (t := 25) ?hr ?_; (case hd => rfl); (case hg => rfl); (case hr => first | (go_simp; done) | (go_simp; rfl)); intro gb278 hg w4 hbox hb; have BK278 := Aside0.mk (hbox); have GW278 := Aside0.mk (gw_ hg (mb_ HB.out)); have GE278 := Aside0.mk (gw_ hg (mb_ HB.out)); replace HB := Aside0.mk (below_step (mb_ HB.out) hb); clear hb hbox hg) | ((with_reducible refine gate_dst (N := 4) rfl ?_); refine box_event ?hg (N := 4) ?hd (cs := #[.slice A1_0 l1_0.length c1_0, .slice A1_1 l1_1.length c1_1]) (t := 25) ?hr ?_; (case hd => rfl); (case hg => rfl); (case hr => first | (go_simp; done) | (go_simp; rfl)); intro gb279 hg w5 hbox hb; have BK279 := Aside0.mk (hbox); have GW279 := Aside0.mk (gw_ hg (mbs_ HB.out)); have GE279 := Aside0.mk (gw_ hg (mbs_ HB.out)); replace HB := Aside0.mk (below_step (mbs_ HB.out) hb); have NB278_279 := Aside0.mk (nb_ hg (bk_ BK278.out)); have NB279_278 := Aside0.mk (nc_ hg (bk_ BK278.out)); replace BK278 := Aside0.mk (blk_below (bk_ BK278.out) hb); clear hb hbox hg))
 repeat (go_quiet (first | ((with_reducible refine gate_dst (N := 3) rfl ?_); refine box_event ?hg (N := 3) ?hd (cs := #[.slice A0_0 l0_0.length c0_0, .slice A0_1 l0_1.length c0_1]) (t := 25) ?hr ?_; (case hd => rfl); (case hg => rfl); (case hr => first | (go_simp; done) | (go_simp; rfl)); intro gb278 hg w4 hbox hb; have BK278 := Aside0.mk (hbox); have GW278 := Aside0.mk (gw_ hg (mb_ HB.out)); have GE278 := Aside0.mk (gw_ hg (mb_ HB.out)); replace HB := Aside0.mk (below_step (mb_ HB.out) hb); clear hb hbox hg) | ((with_reducible refine gate_dst (N := 4) rfl ?_); refine box_event ?hg (N := 4) ?hd (cs := #[.slice A1_0 l1_0.length c1_0, .slice A1_1 l1_1.length c1_1]) (t := 25) ?hr ?_; (case hd => rfl); (case hg => rfl); (case hr => first | (go_simp; done) | (go_simp; rfl)); intro gb279 hg w5 hbox hb; have BK279 := Aside0.mk (hbox); have GW279 := Aside0.mk (gw_ hg (mbs_ HB.out)); have GE279 := Aside0.mk (gw_ hg (mbs_ HB.out)); replace HB := Aside0.mk (below_step (mbs_ HB.out) hb); have NB278_279 := Aside0.mk (nb_ hg (bk_ BK278.out)); have NB279_278 := Aside0.mk (nc_ hg (bk_ BK278.out)); replace BK278 := Aside0.mk (blk_below (bk_ BK278.out) hb); clear hb hbox hg)); try go_wp2_with (first | ((with_reducible refine gate_dst (N := 3) rfl ?_); refine box_event ?hg (N := 3) ?hd (cs := #[.slice A0_0 l0_0.length c0_0, .slice A0_1 l0_1.length c0_1]) (t := 25) ?hr ?_; (case hd => rfl); (case hg => rfl); (case hr => first | (go_simp; done) | (go_simp; rfl)); intro gb278 hg w4 hbox hb; have BK278 := Aside0.mk (hbox); have GW278 := Aside0.mk (gw_ hg (mb_ HB.out)); have GE278 := Aside0.mk (gw_ hg (mb_ HB.out)); replace HB := Aside0.mk (below_step (mb_ HB.out) hb); clear hb hbox hg) | ((with_reducible refine gate_dst (N := 4) rfl ?_); refine box_event ?hg (N := 4) ?hd (cs := #[.slice A1_0 l1_0.length c1_0, .slice A1_1 l1_1.length c1_1]) (t := 25) ?hr ?_; (case hd => rfl); (case hg => rfl); (case hr => first | (go_simp; done) | (go_simp; rfl)); intro gb279 hg w5 hbox hb; have BK279 := Aside0.mk (hbox); have GW279 := Aside0.mk (gw_ hg (mbs_ HB.out)); have GE279 := Aside0.mk (gw_ hg (mbs_ HB.out)); replace HB := Aside0.mk (below_step (mbs_ HB.out) hb); have NB278_279 := Aside0.mk (nb_ hg (bk_ BK278.out)); have NB279_278 := Aside0.mk (nc_ hg (bk_ BK278.out)); replace BK278 := Aside0.mk (blk_below (bk_ BK278.out) hb); clear hb hbox hg)))
 go_loopg [8] k (fun kq v8 w' => ∃ (x8_1 : Int), v8 = .int .i64 x8_1 ∧ Aside0 (scarfjointref06_fits.l0 kq l2 (wrap64 ((l2.length : Int) - 1)) x8_1 l0_0 l0_1 l1_0 l1_1 = some r) ∧ Aside0 (kq ≤ k) ∧ Aside0 (w'.heap[gb278]? = some (.cells #[(.slice A0_0 l0_0.length c0_0), (.slice A0_1 l0_1.length c0_1)] 25 (0, 0))) ∧ Aside0 (w'.heap[gb279]? = some (.cells #[(.slice A1_0 l1_0.length c1_0), (.slice A1_1 l1_1.length c1_1)] 25 (0, 0))) ∧ Aside0 (Below w.heap.size w w'))
 case atStart => exact ⟨(0), (by first | rfl | (simp; done) | (simp [*]; done)), H', ⟨Nat.le_refl _⟩, ⟨bk_ BK278.out⟩, ⟨bk_ BK279.out⟩, ⟨mbs_ HB.out⟩⟩
 case round =>
  clear H'
  try clear c1
  try clear c2
  try clear p2
  obtain ⟨x8_1, rfl, HA, HK1, BK278, BK279, HB⟩ := hrel
  cases gk with
  | zero => exact absurd HA.out (by simp [scarfjointref06_fits.l0])
  | succ k1 =>
   have H := HA.out
   clear HA
   simp only [scarfjointref06_fits.l0] at H
   by_cases c6 : x8_1 < (l0_1.length : Int)
   ·rw [if_pos c6] at H
    have c6b0 : decide (x8_1 < (l0_1.length : Int)) = true := decide_eq_true c6
    clear c6
    by_cases c7 : 0 ≤ x8_1
    ·rw [if_pos c7] at H
     have c7b0 : decide (0 ≤ x8_1) = true := decide_eq_true c7
     clear c7
     obtain ⟨ji8, hji8⟩ : ∃ j_ : Int, (mx ((rd_T65 l0_1 x8_1).f1) ((rd_T65 l0_1 x8_1).f2)) = j_ := ⟨_, rfl⟩
     replace H : (if (ji8) = (wrap64 ((l2.length : Int) - 1)) then (scarfjointref06_fits.l1 k1 l2 (wrap64 ((l2.length : Int) - 1)) x8_1 false 0 l0_0 l0_1 l1_0 l1_1 ((rd_T65 l0_1 x8_1).f0) ((rd_T65 l0_1 x8_1).f1) ((rd_T65 l0_1 x8_1).f2)) else (scarfjointref06_fits.l0 k1 l2 (wrap64 ((l2.length : Int) - 1)) (wrap64 (x8_1 + 1)) l0_0 l0_1 l1_0 l1_1)) = some r := by first | (rw [hji8] at H; exact H) | (simp only [hji8] at H ⊢; exact H)
     have hji8_ : (if ((rd_T65 l0_1 x8_1).f1) < ((rd_T65 l0_1 x8_1).f2) then ((rd_T65 l0_1 x8_1).f2) else ((rd_T65 l0_1 x8_1).f1)) = ji8 := hji8
     by_cases c9 : (ji8) = (wrap64 ((l2.length : Int) - 1))
     ·rw [if_pos c9] at H
      have c9b0 : ((ji8) == (wrap64 ((l2.length : Int) - 1))) = true := beq_iff_eq.mpr c9
      have c9b1 : ((ji8) != (wrap64 ((l2.length : Int) - 1))) = false := bne_eq_false_iff_eq.mpr c9
      clear c9
      have H' := Aside0.mk H
      clear H
      have hnb10 := NB278_279.out
      have hnc10 := NB279_278.out
      have hcz11_0 := bc0_ BK278.out
      have hcz11_1 := bc1_ BK278.out
      have hfz11_0 := blk_frozen BK278.out 0
      have hfz11_1 := blk_frozen BK278.out 1
      have p280 : 0 ≤ (x8_1 : Int) := of_decide_eq_true (by first | (with_reducible assumption) | assumption)
      have q280 : x8_1 < (l0_1.length : Int) := of_decide_eq_true (by first | (with_reducible assumption) | assumption)
      obtain ⟨ad280, e280, hx280_0, hx280_1, hx280_2⟩ := at_T65 HR0_1.out x8_1 p280 q280
      cases e280
      (try replace hx280_0 := (HB.out.cell (World.block_lt_of_cell? w _ hx280_0)).trans hx280_0)
      (try replace hx280_1 := (HB.out.cell (World.block_lt_of_cell? w _ hx280_1)).trans hx280_1)
      (try replace hx280_2 := (HB.out.cell (World.block_lt_of_cell? w _ hx280_2)).trans hx280_2)
      replace p280 := eq_true p280
      replace q280 := eq_true q280
      go_wp2_with (first | ((with_reducible refine gate_dst (N := 9) rfl ?_); refine box_event ?hg (N := 9) ?hd (cs := #[.int .i64 0, .int .i64 0, .int .i64 0]) (t := 65) ?hr ?_; (case hd => rfl); (case hg => rfl); (case hr => first | (go_simp; done) | (go_simp; rfl)); intro gb281 hg w12 hbox hb; have BK281 := Aside0.mk (hbox); have GW281 := Aside0.mk (gw_ hg (mbs_ HB.out)); have GE281 := Aside0.mk (gw_ hg (mbs_ HB.out)); replace HB := Aside0.mk (below_step (mbs_ HB.out) hb); have NB278_281 := Aside0.mk (nb_ hg (bk_ BK278.out)); have NB281_278 := Aside0.mk (nc_ hg (bk_ BK278.out)); replace BK278 := Aside0.mk (blk_below (bk_ BK278.out) hb); have NB279_281 := Aside0.mk (nb_ hg (bk_ BK279.out)); have NB281_279 := Aside0.mk (nc_ hg (bk_ BK279.out)); replace BK279 := Aside0.mk (blk_below (bk_ BK279.out) hb); clear hb hbox hg; have hnb13 := NB281_278.out; have hnc13 := NB278_281.out; have hnb14 := NB281_279.out; have hnc14 := NB279_281.out; have hcz15_0 := bc0_ BK281.out; have hcz15_1 := bc1_ BK281.out; have hcz15_2 := bc2_ BK281.out; have hfz15_0 := blk_frozen BK281.out 0; have hfz15_1 := blk_frozen BK281.out 1; have hfz15_2 := blk_frozen BK281.out 2))
      repeat (go_quiet (first | ((with_reducible refine gate_dst (N := 9) rfl ?_); refine box_event ?hg (N := 9) ?hd (cs := #[.int .i64 0, .int .i64 0, .int .i64 0]) (t := 65) ?hr ?_; (case hd => rfl); (case hg => rfl); (case hr => first | (go_simp; done) | (go_simp; rfl)); intro gb281 hg w12 hbox hb; have BK281 := Aside0.mk (hbox); have GW281 := Aside0.mk (gw_ hg (mbs_ HB.out)); have GE281 := Aside0.mk (gw_ hg (mbs_ HB.out)); replace HB := Aside0.mk (below_step (mbs_ HB.out) hb); have NB278_281 := Aside0.mk (nb_ hg (bk_ BK278.out)); have NB281_278 := Aside0.mk (nc_ hg (bk_ BK278.out)); replace BK278 := Aside0.mk (blk_below (bk_ BK278.out) hb); have NB279_281 := Aside0.mk (nb_ hg (bk_ BK279.out)); have NB281_279 := Aside0.mk (nc_ hg (bk_ BK279.out)); replace BK279 := Aside0.mk (blk_below (bk_ BK279.out) hb); clear hb hbox hg; have hnb13 := NB281_278.out; have hnc13 := NB278_281.out; have hnb14 := NB281_279.out; have hnc14 := NB279_281.out; have hcz15_0 := bc0_ BK281.out; have hcz15_1 := bc1_ BK281.out; have hcz15_2 := bc2_ BK281.out; have hfz15_0 := blk_frozen BK281.out 0; have hfz15_1 := blk_frozen BK281.out 1; have hfz15_2 := blk_frozen BK281.out 2)); try go_wp2_with (first | ((with_reducible refine gate_dst (N := 9) rfl ?_); refine box_event ?hg (N := 9) ?hd (cs := #[.int .i64 0, .int .i64 0, .int .i64 0]) (t := 65) ?hr ?_; (case hd => rfl); (case hg => rfl); (case hr => first | (go_simp; done) | (go_simp; rfl)); intro gb281 hg w12 hbox hb; have BK281 := Aside0.mk (hbox); have GW281 := Aside0.mk (gw_ hg (mbs_ HB.out)); have GE281 := Aside0.mk (gw_ hg (mbs_ HB.out)); replace HB := Aside0.mk (below_step (mbs_ HB.out) hb); have NB278_281 := Aside0.mk (nb_ hg (bk_ BK278.out)); have NB281_278 := Aside0.mk (nc_ hg (bk_ BK278.out)); replace BK278 := Aside0.mk (blk_below (bk_ BK278.out) hb); have NB279_281 := Aside0.mk (nb_ hg (bk_ BK279.out)); have NB281_279 := Aside0.mk (nc_ hg (bk_ BK279.out)); replace BK279 := Aside0.mk (blk_below (bk_ BK279.out) hb); clear hb hbox hg; have hnb13 := NB281_278.out; have hnc13 := NB278_281.out; have hnb14 := NB281_279.out; have hnc14 := NB279_281.out; have hcz15_0 := bc0_ BK281.out; have hcz15_1 := bc1_ BK281.out; have hcz15_2 := bc2_ BK281.out; have hfz15_0 := blk_frozen BK281.out 0; have hfz15_1 := blk_frozen BK281.out 1; have hfz15_2 := blk_frozen BK281.out 2)))
      go_loopg [10, 11] k1 (fun kq v10 v11 w' => ∃ (x10_2 : Bool) (x11_2 : Int), v10 = .bool x10_2 ∧ v11 = .int .i64 x11_2 ∧ Aside0 (scarfjointref06_fits.l1 kq l2 (wrap64 ((l2.length : Int) - 1)) x8_1 x10_2 x11_2 l0_0 l0_1 l1_0 l1_1 ((rd_T65 l0_1 x8_1).f0) ((rd_T65 l0_1 x8_1).f1) ((rd_T65 l0_1 x8_1).f2) = some r) ∧ Aside0 (kq ≤ k1) ∧ Aside0 (w'.heap[gb278]? = some (.cells #[(.slice A0_0 l0_0.length c0_0), (.slice (some ad280) l0_1.length c0_1)] 25 (0, 0))) ∧ Aside0 (w'.heap[gb279]? = some (.cells #[(.slice A1_0 l1_0.length c1_0), (.slice A1_1 l1_1.length c1_1)] 25 (0, 0))) ∧ Aside0 (w'.heap[gb281]? = some (.cells #[.int .i64 ((rd_T65 l0_1 x8_1).f0), .int .i64 ((rd_T65 l0_1 x8_1).f1), .int .i64 ((rd_T65 l0_1 x8_1).f2)] 65 (0, 0))) ∧ Aside0 (Below w.heap.size w w'))
      case atStart => exact ⟨(false), (0), (by first | rfl | (simp; done) | (simp [*]; done)), (by first | rfl | (simp; done) | (simp [*]; done)), H', ⟨Nat.le_refl _⟩, ⟨by (with_reducible repeat (first | refine blk_drewN ?_ _ | refine blk_drew ?_ | refine blk_alloc ?_ _)); refine blk_far ?_ NB278_281.out _; (with_reducible repeat (first | refine blk_drewN ?_ _ | refine blk_drew ?_ | refine blk_alloc ?_ _)); refine blk_far ?_ NB278_281.out _; (with_reducible repeat (first | refine blk_drewN ?_ _ | refine blk_drew ?_ | refine blk_alloc ?_ _)); refine blk_far ?_ NB278_281.out _; (with_reducible repeat (first | refine blk_drewN ?_ _ | refine blk_drew ?_ | refine blk_alloc ?_ _)); exact BK278.out⟩, ⟨by (with_reducible repeat (first | refine blk_drewN ?_ _ | refine blk_drew ?_ | refine blk_alloc ?_ _)); refine blk_far ?_ NB279_281.out _; (with_reducible repeat (first | refine blk_drewN ?_ _ | refine blk_drew ?_ | refine blk_alloc ?_ _)); refine blk_far ?_ NB279_281.out _; (with_reducible repeat (first | refine blk_drewN ?_ _ | refine blk_drew ?_ | refine blk_alloc ?_ _)); refine blk_far ?_ NB279_281.out _; (with_reducible repeat (first | refine blk_drewN ?_ _ | refine blk_drew ?_ | refine blk_alloc ?_ _)); exact BK279.out⟩, ⟨by (with_reducible repeat (first | refine blk_drewN ?_ _ | refine blk_drew ?_ | refine blk_alloc ?_ _)); refine blk_put (cs := #[.int .i64 ((rd_T65 l0_1 x8_1).f0), .int .i64 ((rd_T65 l0_1 x8_1).f1), .int .i64 0]) ?_ 2 _ rfl; (with_reducible repeat (first | refine blk_drewN ?_ _ | refine blk_drew ?_ | refine blk_alloc ?_ _)); refine blk_put (cs := #[.int .i64 ((rd_T65 l0_1 x8_1).f0), .int .i64 0, .int .i64 0]) ?_ 1 _ rfl; (with_reducible repeat (first | refine blk_drewN ?_ _ | refine blk_drew ?_ | refine blk_alloc ?_ _)); refine blk_put (cs := #[.int .i64 0, .int .i64 0, .int .i64 0]) ?_ 0 _ rfl; (with_reducible repeat (first | refine blk_drewN ?_ _ | refine blk_drew ?_ | refine blk_alloc ?_ _)); exact BK281.out⟩, ⟨mbs_ HB.out⟩⟩
      case round =>
       clear H'
       try clear c1
       try clear c2
       try clear p2
       try clear q2
       try clear hx2
       try clear c6
       try clear c6b0
       try clear p6
       try clear c7
       try clear c7b0
       try clear c9
       try clear c9b0
       try clear c9b1
       try clear c10
       try clear c13
       try clear c14
       try clear hcz11_0
       try clear hcz11_1
       try clear hcz15_0
       try clear hcz15_1
       try clear hcz15_2
       try clear hfz11_0
       try clear hfz11_1
       try clear hfz15_0
       try clear hfz15_1
       try clear hfz15_2
       try clear hx280_0
       try clear hx280_1
       try clear hx280_2
       try clear p2
       try clear p280
       try clear q280
       obtain ⟨x10_2, x11_2, rfl, rfl, HA, HK2, BK278, BK279, BK281, HB⟩ := hrel
       cases gk with
       | zero => exact absurd HA.out (by simp [scarfjointref06_fits.l1])
       | succ k2 =>
        have H := HA.out
        clear HA
        simp only [scarfjointref06_fits.l1] at H
        by_cases c16 : x11_2 < (l1_1.length : Int)
        ·rw [if_pos c16] at H
         have c16b0 : decide (x11_2 < (l1_1.length : Int)) = true := decide_eq_true c16
         clear c16
         by_cases c17 : x10_2 = true
         ·subst c17
          have H1 : (scarfjointref06_fits.l0 k2 l2 (wrap64 ((l2.length : Int) - 1)) (wrap64 (x8_1 + 1)) l0_0 l0_1 l1_0 l1_1) = some r := by rw [if_pos rfl] at H; exact H
          clear H
          have H := H1
          clear H1
          have H' := Aside0.mk H
          clear H
          have hnb18 := NB279_278.out
          have hnc18 := NB278_279.out
          have hnb19 := NB279_281.out
          have hnc19 := NB281_279.out
          have hcz20_0 := bc0_ BK279.out
          have hcz20_1 := bc1_ BK279.out
          have hfz20_0 := blk_frozen BK279.out 0
          have hfz20_1 := blk_frozen BK279.out 1
          go_wp2
          repeat (go_quiet (fail); try go_wp2)
          go_roundg k2
          case measure => have := HK1.out; have := HK2.out; omega
          case rel => exact ⟨(wrap64 (x8_1 + 1)), (by first | rfl | (simp; done) | (simp [*]; done)), H', ⟨by have := HK1.out; have := HK2.out; omega⟩, ⟨bk_ BK278.out⟩, ⟨bk_ BK279.out⟩, ⟨mbs_ HB.out⟩⟩
         ·replace c17 := Bool.eq_false_iff.mpr c17
          subst c17
          have H1 : (if 0 ≤ x11_2 then (if 0 ≤ ((rd_T65 l0_1 x8_1).f1) then (if ((rd_T65 l0_1 x8_1).f1) < (l2.length : Int) then (if 0 ≤ ((rd_T65 l0_1 x8_1).f2) then (if ((rd_T65 l0_1 x8_1).f2) < (l2.length : Int) then (scarfjointref06_fits.l1 k2 l2 (wrap64 ((l2.length : Int) - 1)) x8_1 (((rd_T65 l1_1 x11_2).f0) == ((rd_T65 l0_1 x8_1).f0) && (((rd_T65 l1_1 x11_2).f1) == (rd l2 ((rd_T65 l0_1 x8_1).f1)) && (((rd_T65 l1_1 x11_2).f2) == (rd l2 ((rd_T65 l0_1 x8_1).f2))))) (wrap64 (x11_2 + 1)) l0_0 l0_1 l1_0 l1_1 ((rd_T65 l0_1 x8_1).f0) ((rd_T65 l0_1 x8_1).f1) ((rd_T65 l0_1 x8_1).f2)) else (none)) else (none)) else (none)) else (none)) else (none)) = some r := by rw [if_neg (show ¬ (false = true) by decide)] at H; exact H
          clear H
          have H := H1
          clear H1
          by_cases c21 : 0 ≤ x11_2
          ·rw [if_pos c21] at H
           have c21b0 : decide (0 ≤ x11_2) = true := decide_eq_true c21
           clear c21
           by_cases c22 : 0 ≤ ((rd_T65 l0_1 x8_1).f1)
           ·rw [if_pos c22] at H
            have c22b0 : decide (0 ≤ ((rd_T65 l0_1 x8_1).f1)) = true := decide_eq_true c22
            clear c22
            by_cases c23 : ((rd_T65 l0_1 x8_1).f1) < (l2.length : Int)
            ·rw [if_pos c23] at H
             have c23b0 : decide (((rd_T65 l0_1 x8_1).f1) < (l2.length : Int)) = true := decide_eq_true c23
             clear c23
             by_cases c24 : 0 ≤ ((rd_T65 l0_1 x8_1).f2)
             ·rw [if_pos c24] at H
              have c24b0 : decide (0 ≤ ((rd_T65 l0_1 x8_1).f2)) = true := decide_eq_true c24
              clear c24
              by_cases c25 : ((rd_T65 l0_1 x8_1).f2) < (l2.length : Int)
              ·rw [if_pos c25] at H
               have c25b0 : decide (((rd_T65 l0_1 x8_1).f2) < (l2.length : Int)) = true := decide_eq_true c25
               clear c25
               have H' := Aside0.mk H
               clear H
               have hnb26 := NB279_278.out
               have hnc26 := NB278_279.out
               have hnb27 := NB279_281.out
               have hnc27 := NB281_279.out
               have hcz28_0 := bc0_ BK279.out
               have hcz28_1 := bc1_ BK279.out
               have hfz28_0 := blk_frozen BK279.out 0
               have hfz28_1 := blk_frozen BK279.out 1
               have p282 : 0 ≤ (x11_2 : Int) := of_decide_eq_true (by first | (with_reducible assumption) | assumption)
               have q282 : x11_2 < (l1_1.length : Int) := of_decide_eq_true (by first | (with_reducible assumption) | assumption)
               obtain ⟨ad282, e282, hx282_0, hx282_1, hx282_2⟩ := at_T65 HR1_1.out x11_2 p282 q282
               cases e282
               (try replace hx282_0 := (HB.out.cell (World.block_lt_of_cell? w _ hx282_0)).trans hx282_0)
               (try replace hx282_1 := (HB.out.cell (World.block_lt_of_cell? w _ hx282_1)).trans hx282_1)
               (try replace hx282_2 := (HB.out.cell (World.block_lt_of_cell? w _ hx282_2)).trans hx282_2)
               replace p282 := eq_true p282
               replace q282 := eq_true q282
               have hnb29 := NB281_278.out
               have hnc29 := NB278_281.out
               have hcz30_0 := bc0_ BK281.out
               have hcz30_1 := bc1_ BK281.out
               have hcz30_2 := bc2_ BK281.out
               have hfz30_0 := blk_frozen BK281.out 0
               have hfz30_1 := blk_frozen BK281.out 1
               have hfz30_2 := blk_frozen BK281.out 2
               have p283 : 0 ≤ (((rd_T65 l0_1 x8_1).f1) : Int) := of_decide_eq_true (by first | (with_reducible assumption) | assumption)
               have q283 : ((rd_T65 l0_1 x8_1).f1) < (l2.length : Int) := of_decide_eq_true (by first | (with_reducible assumption) | assumption)
               obtain ⟨ad283, e283, hx283_0⟩ := Kd.at_int HR2.out ((rd_T65 l0_1 x8_1).f1) p283 q283
               cases e283
               (try replace hx283_0 := (HB.out.cell (World.block_lt_of_cell? w _ hx283_0)).trans hx283_0)
               replace p283 := eq_true p283
               replace q283 := eq_true q283
               have p284 : 0 ≤ (((rd_T65 l0_1 x8_1).f2) : Int) := of_decide_eq_true (by first | (with_reducible assumption) | assumption)
               have q284 : ((rd_T65 l0_1 x8_1).f2) < (l2.length : Int) := of_decide_eq_true (by first | (with_reducible assumption) | assumption)
               obtain ⟨ad284, e284, hx284_0⟩ := Kd.at_int HR2.out ((rd_T65 l0_1 x8_1).f2) p284 q284
               obtain rfl : ad283 = ad284 := (by injection e284)
               (try replace hx284_0 := (HB.out.cell (World.block_lt_of_cell? w _ hx284_0)).trans hx284_0)
               replace p284 := eq_true p284
               replace q284 := eq_true q284
               go_wp2
               repeat (go_quiet (fail); try go_wp2)
               go_roundg k2
               case measure => have := HK1.out; have := HK2.out; omega
               case rel => exact ⟨((((rd_T65 l1_1 x11_2).f0) == ((rd_T65 l0_1 x8_1).f0) && (((rd_T65 l1_1 x11_2).f1) == (rd l2 ((rd_T65 l0_1 x8_1).f1)) && (((rd_T65 l1_1 x11_2).f2) == (rd l2 ((rd_T65 l0_1 x8_1).f2)))))), (wrap64 (x11_2 + 1)), (by first | rfl | (simp; done) | (simp [*]; done)), (by first | rfl | (simp; done) | (simp [*]; done)), H', ⟨by have := HK1.out; have := HK2.out; omega⟩, ⟨bk_ BK278.out⟩, ⟨bk_ BK279.out⟩, ⟨bk_ BK281.out⟩, ⟨mbs_ HB.out⟩⟩
              ·rw [if_neg c25] at H
               exact absurd H (by simp)
             ·rw [if_neg c24] at H
              exact absurd H (by simp)
            ·rw [if_neg c23] at H
             exact absurd H (by simp)
           ·rw [if_neg c22] at H
            exact absurd H (by simp)
          ·rw [if_neg c21] at H
           exact absurd H (by simp)
        ·rw [if_neg c16] at H
         have c16b0 : decide (x11_2 < (l1_1.length : Int)) = false := decide_eq_false c16
         clear c16
         by_cases c31 : x10_2 = true
         ·subst c31
          have H1 : (scarfjointref06_fits.l0 k2 l2 (wrap64 ((l2.length : Int) - 1)) (wrap64 (x8_1 + 1)) l0_0 l0_1 l1_0 l1_1) = some r := by rw [if_pos rfl] at H; exact H
          clear H
          have H := H1
          clear H1
          have H' := Aside0.mk H
          clear H
          have hnb32 := NB279_278.out
          have hnc32 := NB278_279.out
          have hnb33 := NB279_281.out
          have hnc33 := NB281_279.out
          have hcz34_0 := bc0_ BK279.out
          have hcz34_1 := bc1_ BK279.out
          have hfz34_0 := blk_frozen BK279.out 0
          have hfz34_1 := blk_frozen BK279.out 1
          go_wp2
          repeat (go_quiet (fail); try go_wp2)
          go_roundg k2
          case measure => have := HK1.out; have := HK2.out; omega
          case rel => exact ⟨(wrap64 (x8_1 + 1)), (by first | rfl | (simp; done) | (simp [*]; done)), H', ⟨by have := HK1.out; have := HK2.out; omega⟩, ⟨bk_ BK278.out⟩, ⟨bk_ BK279.out⟩, ⟨mbs_ HB.out⟩⟩
         ·replace c31 := Bool.eq_false_iff.mpr c31
          subst c31
          have H1 : (some false) = some r := by rw [if_neg (show ¬ (false = true) by decide)] at H; exact H
          clear H
          have H := H1
          clear H1
          obtain rfl := Option.some.inj H
          have hnb35 := NB279_278.out
          have hnc35 := NB278_279.out
          have hnb36 := NB279_281.out
          have hnc36 := NB281_279.out
          have hcz37_0 := bc0_ BK279.out
          have hcz37_1 := bc1_ BK279.out
          have hfz37_0 := blk_frozen BK279.out 0
          have hfz37_1 := blk_frozen BK279.out 1
          go_wp2
          repeat (go_quiet (fail); try go_wp2)
          go_ret
          exact ⟨by first | rfl | (simp [errW_none, errW_some] <;> rfl) | (simp only [← hji8]; first | rfl | (simp [errW_none, errW_some] <;> rfl)) | (simp [*, errW_none, errW_some] <;> rfl), mbs_ HB.out⟩
     ·rw [if_neg c9] at H
      have c9b0 : ((ji8) == (wrap64 ((l2.length : Int) - 1))) = false := beq_eq_false_iff_ne.mpr c9
      have c9b1 : ((ji8) != (wrap64 ((l2.length : Int) - 1))) = true := bne_iff_ne.mpr c9
      have H' := Aside0.mk H
      clear H
      have hnb38 := NB278_279.out
      have hnc38 := NB279_278.out
      have hcz39_0 := bc0_ BK278.out
      have hcz39_1 := bc1_ BK278.out
      have hfz39_0 := blk_frozen BK278.out 0
      have hfz39_1 := blk_frozen BK278.out 1
      have p280 : 0 ≤ (x8_1 : Int) := of_decide_eq_true (by first | (with_reducible assumption) | assumption)
      have q280 : x8_1 < (l0_1.length : Int) := of_decide_eq_true (by first | (with_reducible assumption) | assumption)
      obtain ⟨ad280, e280, hx280_0, hx280_1, hx280_2⟩ := at_T65 HR0_1.out x8_1 p280 q280
      cases e280
      (try replace hx280_0 := (HB.out.cell (World.block_lt_of_cell? w _ hx280_0)).trans hx280_0)
      (try replace hx280_1 := (HB.out.cell (World.block_lt_of_cell? w _ hx280_1)).trans hx280_1)
      (try replace hx280_2 := (HB.out.cell (World.block_lt_of_cell? w _ hx280_2)).trans hx280_2)
      replace p280 := eq_true p280
      replace q280 := eq_true q280
      go_wp2_with (first | ((with_reducible refine gate_dst (N := 9) rfl ?_); refine box_event ?hg (N := 9) ?hd (cs := #[.int .i64 0, .int .i64 0, .int .i64 0]) (t := 65) ?hr ?_; (case hd => rfl); (case hg => rfl); (case hr => first | (go_simp; done) | (go_simp; rfl)); intro gb281 hg w40 hbox hb; have BK281 := Aside0.mk (hbox); have GW281 := Aside0.mk (gw_ hg (mbs_ HB.out)); have GE281 := Aside0.mk (gw_ hg (mbs_ HB.out)); replace HB := Aside0.mk (below_step (mbs_ HB.out) hb); have NB278_281 := Aside0.mk (nb_ hg (bk_ BK278.out)); have NB281_278 := Aside0.mk (nc_ hg (bk_ BK278.out)); replace BK278 := Aside0.mk (blk_below (bk_ BK278.out) hb); have NB279_281 := Aside0.mk (nb_ hg (bk_ BK279.out)); have NB281_279 := Aside0.mk (nc_ hg (bk_ BK279.out)); replace BK279 := Aside0.mk (blk_below (bk_ BK279.out) hb); clear hb hbox hg; have hnb41 := NB281_278.out; have hnc41 := NB278_281.out; have hnb42 := NB281_279.out; have hnc42 := NB279_281.out; have hcz43_0 := bc0_ BK281.out; have hcz43_1 := bc1_ BK281.out; have hcz43_2 := bc2_ BK281.out; have hfz43_0 := blk_frozen BK281.out 0; have hfz43_1 := blk_frozen BK281.out 1; have hfz43_2 := blk_frozen BK281.out 2))
      repeat (go_quiet (first | ((with_reducible refine gate_dst (N := 9) rfl ?_); refine box_event ?hg (N := 9) ?hd (cs := #[.int .i64 0, .int .i64 0, .int .i64 0]) (t := 65) ?hr ?_; (case hd => rfl); (case hg => rfl); (case hr => first | (go_simp; done) | (go_simp; rfl)); intro gb281 hg w40 hbox hb; have BK281 := Aside0.mk (hbox); have GW281 := Aside0.mk (gw_ hg (mbs_ HB.out)); have GE281 := Aside0.mk (gw_ hg (mbs_ HB.out)); replace HB := Aside0.mk (below_step (mbs_ HB.out) hb); have NB278_281 := Aside0.mk (nb_ hg (bk_ BK278.out)); have NB281_278 := Aside0.mk (nc_ hg (bk_ BK278.out)); replace BK278 := Aside0.mk (blk_below (bk_ BK278.out) hb); have NB279_281 := Aside0.mk (nb_ hg (bk_ BK279.out)); have NB281_279 := Aside0.mk (nc_ hg (bk_ BK279.out)); replace BK279 := Aside0.mk (blk_below (bk_ BK279.out) hb); clear hb hbox hg; have hnb41 := NB281_278.out; have hnc41 := NB278_281.out; have hnb42 := NB281_279.out; have hnc42 := NB279_281.out; have hcz43_0 := bc0_ BK281.out; have hcz43_1 := bc1_ BK281.out; have hcz43_2 := bc2_ BK281.out; have hfz43_0 := blk_frozen BK281.out 0; have hfz43_1 := blk_frozen BK281.out 1; have hfz43_2 := blk_frozen BK281.out 2)); try go_wp2_with (first | ((with_reducible refine gate_dst (N := 9) rfl ?_); refine box_event ?hg (N := 9) ?hd (cs := #[.int .i64 0, .int .i64 0, .int .i64 0]) (t := 65) ?hr ?_; (case hd => rfl); (case hg => rfl); (case hr => first | (go_simp; done) | (go_simp; rfl)); intro gb281 hg w40 hbox hb; have BK281 := Aside0.mk (hbox); have GW281 := Aside0.mk (gw_ hg (mbs_ HB.out)); have GE281 := Aside0.mk (gw_ hg (mbs_ HB.out)); replace HB := Aside0.mk (below_step (mbs_ HB.out) hb); have NB278_281 := Aside0.mk (nb_ hg (bk_ BK278.out)); have NB281_278 := Aside0.mk (nc_ hg (bk_ BK278.out)); replace BK278 := Aside0.mk (blk_below (bk_ BK278.out) hb); have NB279_281 := Aside0.mk (nb_ hg (bk_ BK279.out)); have NB281_279 := Aside0.mk (nc_ hg (bk_ BK279.out)); replace BK279 := Aside0.mk (blk_below (bk_ BK279.out) hb); clear hb hbox hg; have hnb41 := NB281_278.out; have hnc41 := NB278_281.out; have hnb42 := NB281_279.out; have hnc42 := NB279_281.out; have hcz43_0 := bc0_ BK281.out; have hcz43_1 := bc1_ BK281.out; have hcz43_2 := bc2_ BK281.out; have hfz43_0 := blk_frozen BK281.out 0; have hfz43_1 := blk_frozen BK281.out 1; have hfz43_2 := blk_frozen BK281.out 2)))
      go_roundg k1
      case measure => have := HK1.out; omega
      case rel => exact ⟨(wrap64 (x8_1 + 1)), (by first | rfl | (simp; done) | (simp [*]; done)), H', ⟨by have := HK1.out; omega⟩, ⟨by (with_reducible repeat (first | refine blk_drewN ?_ _ | refine blk_drew ?_ | refine blk_alloc ?_ _)); refine blk_far ?_ NB278_281.out _; (with_reducible repeat (first | refine blk_drewN ?_ _ | refine blk_drew ?_ | refine blk_alloc ?_ _)); refine blk_far ?_ NB278_281.out _; (with_reducible repeat (first | refine blk_drewN ?_ _ | refine blk_drew ?_ | refine blk_alloc ?_ _)); refine blk_far ?_ NB278_281.out _; (with_reducible repeat (first | refine blk_drewN ?_ _ | refine blk_drew ?_ | refine blk_alloc ?_ _)); exact BK278.out⟩, ⟨by (with_reducible repeat (first | refine blk_drewN ?_ _ | refine blk_drew ?_ | refine blk_alloc ?_ _)); refine blk_far ?_ NB279_281.out _; (with_reducible repeat (first | refine blk_drewN ?_ _ | refine blk_drew ?_ | refine blk_alloc ?_ _)); refine blk_far ?_ NB279_281.out _; (with_reducible repeat (first | refine blk_drewN ?_ _ | refine blk_drew ?_ | refine blk_alloc ?_ _)); refine blk_far ?_ NB279_281.out _; (with_reducible repeat (first | refine blk_drewN ?_ _ | refine blk_drew ?_ | refine blk_alloc ?_ _)); exact BK279.out⟩, ⟨mbs_ HB.out⟩⟩
    ·rw [if_neg c7] at H
     exact absurd H (by simp)
   ·rw [if_neg c6] at H
    have c6b0 : decide (x8_1 < (l0_1.length : Int)) = false := decide_eq_false c6
    clear c6
    obtain rfl := Option.some.inj H
    have hnb44 := NB278_279.out
    have hnc44 := NB279_278.out
    have hcz45_0 := bc0_ BK278.out
    have hcz45_1 := bc1_ BK278.out
    have hfz45_0 := blk_frozen BK278.out 0
    have hfz45_1 := blk_frozen BK278.out 1
    go_wp2
    repeat (go_quiet (fail); try go_wp2)
    go_ret
    exact ⟨by first | rfl | (simp [errW_none, errW_some] <;> rfl) | (simp [*, errW_none, errW_some] <;> rfl), mbs_ HB.out⟩

-- NOT PRINTED: function 46 (scarfjointref06_nodes)

-- NOT PRINTED: function 21 (scarfjointref06_All)

/-! ### scarfjointref02_SameInts: function 48 -/
def scarfjointref02_SameInts.l0 : Nat → List Int → List Int → Int → Option (Bool)
 | 0, _, _, _ => none
 | k + 1, x0, x1, x5 => if x5 < (x0.length : Int) then (if 0 ≤ x5 then (if x5 < (x1.length : Int) then (if (rd x0 x5) = (rd x1 x5) then (scarfjointref02_SameInts.l0 k x0 x1 (wrap64 (x5 + 1))) else (some false)) else (none)) else (none)) else (some true)
def scarfjointref02_SameInts.f (k : Nat) (l0 : List Int) (l1 : List Int) : Option (Bool) := if (l0.length : Int) = (l1.length : Int) then (scarfjointref02_SameInts.l0 k l0 l1 0) else (some false)
theorem scarfjointref02_SameInts.mono_l : ∀ k, (∀ y0 y1 y2, LeO (scarfjointref02_SameInts.l0 k y0 y1 y2) (scarfjointref02_SameInts.l0 (k + 1) y0 y1 y2))
 | 0 => fun _ _ _ r h => by simp [scarfjointref02_SameInts.l0] at h
 | k + 1 => by
  have ih0 := scarfjointref02_SameInts.mono_l k
  ·intro y0 y1 y2
   unfold scarfjointref02_SameInts.l0
   repeat' first
   | (with_reducible exact ih0 _ _ _)
   | (with_reducible exact LeO.refl _)
   | (with_reducible exact LeO.none _)
   | (with_reducible refine LeO.ite ?_ ?_)
   | (with_reducible refine LeO.bind ?_ (fun _ => ?_))
   | exact ih0 _ _ _
   | exact LeO.none _
   | refine LeO.ite ?_ ?_
   | refine LeO.bind ?_ (fun _ => ?_)
theorem scarfjointref02_SameInts.mono : ∀ a0 a1 k, LeO (scarfjointref02_SameInts.f k a0 a1) (scarfjointref02_SameInts.f (k + 1) a0 a1) := by
 intro a0 a1 k
 have ih0 := scarfjointref02_SameInts.mono_l k
 unfold scarfjointref02_SameInts.f
 repeat' first
   | (with_reducible exact ih0 _ _ _)
   | (with_reducible exact LeO.refl _)
   | (with_reducible exact LeO.none _)
   | (with_reducible refine LeO.ite ?_ ?_)
   | (with_reducible refine LeO.bind ?_ (fun _ => ?_))
   | exact ih0 _ _ _
   | exact LeO.none _
   | refine LeO.ite ?_ ?_
   | refine LeO.bind ?_ (fun _ => ?_)
set_option maxHeartbeats 8000000 in
set_option maxRecDepth 100000 in
theorem scarfjointref02_SameInts.calls (k : Nat) (A0 : Option Addr) (c0 : Nat) (l0 : List Int) (A1 : Option Addr) (c1 : Nat) (l1 : List Int) (r : Bool) (w : World) (hr0 : Kd.C (Kd.int .i64) w A0 l0.length l0) (hc0 : l0.length ≤ c0) (hr1 : Kd.C (Kd.int .i64) w A1 l1.length l1) (hc1 : l1.length ≤ c1) (h : scarfjointref02_SameInts.f k l0 l1 = some r) :
  Calls Try.prog 48 #[.slice A0 l0.length c0, .slice A1 l1.length c1] w fun e w' => e = .returned (.bool r) ∧ Drawn0 w w' := by
 have HR0 := Aside0.mk hr0
 have HC0 := Aside0.mk hc0
 clear hr0 hc0
 have HR1 := Aside0.mk hr1
 have HC1 := Aside0.mk hc1
 clear hr1 hc1
 have H : (if (l0.length : Int) = (l1.length : Int) then (scarfjointref02_SameInts.l0 k l0 l1 0) else (some false)) = some r := h
 clear h
 by_cases c3 : (l0.length : Int) = (l1.length : Int)
 ·rw [if_pos c3] at H
  have c3b0 : ((l0.length : Int) == (l1.length : Int)) = true := beq_iff_eq.mpr c3
  have c3b1 : ((l0.length : Int) != (l1.length : Int)) = false := bne_eq_false_iff_eq.mpr c3
  have c3b2 : (l0.length == l1.length) = true := by first | simpa using c3 | (simp at c3 ⊢; omega)
  clear c3
  have H' := Aside0.mk H
  clear H
  go_enter Try.func48, Try.ntmps48
  go_wp2
  repeat (go_quiet (fail); try go_wp2)
  go_loopg [5] k (fun kq v5 w' => ∃ (x5_1 : Int), v5 = .int .i64 x5_1 ∧ Aside0 (scarfjointref02_SameInts.l0 kq l0 l1 x5_1 = some r) ∧ Aside0 (kq ≤ k) ∧ Drawn0 w w')
  case atStart => exact ⟨(0), (by first | rfl | (simp; done) | (simp [*]; done)), H', ⟨Nat.le_refl _⟩, by repeat (first | exact Drawn0.refl _ | apply Drawn0.step)⟩
  case round =>
   clear H'
   try clear c1
   try clear p2
   try clear c3
   try clear c3b0
   try clear c3b1
   try clear c3b2
   obtain ⟨x5_1, rfl, HA, HK1, ⟨m1, rfl⟩⟩ := hrel
   cases gk with
   | zero => exact absurd HA.out (by simp [scarfjointref02_SameInts.l0])
   | succ k1 =>
    have H := HA.out
    clear HA
    simp only [scarfjointref02_SameInts.l0] at H
    by_cases c4 : x5_1 < (l0.length : Int)
    ·rw [if_pos c4] at H
     have c4b0 : decide (x5_1 < (l0.length : Int)) = true := decide_eq_true c4
     clear c4
     by_cases c5 : 0 ≤ x5_1
     ·rw [if_pos c5] at H
      have c5b0 : decide (0 ≤ x5_1) = true := decide_eq_true c5
      clear c5
      by_cases c6 : x5_1 < (l1.length : Int)
      ·rw [if_pos c6] at H
       have c6b0 : decide (x5_1 < (l1.length : Int)) = true := decide_eq_true c6
       clear c6
       by_cases c7 : (rd l0 x5_1) = (rd l1 x5_1)
       ·rw [if_pos c7] at H
        have c7b0 : ((rd l0 x5_1) == (rd l1 x5_1)) = true := beq_iff_eq.mpr c7
        have c7b1 : ((rd l0 x5_1) != (rd l1 x5_1)) = false := bne_eq_false_iff_eq.mpr c7
        clear c7
        have H' := Aside0.mk H
        clear H
        have p291 : 0 ≤ (x5_1 : Int) := of_decide_eq_true (by first | (with_reducible assumption) | assumption)
        have q291 : x5_1 < (l0.length : Int) := of_decide_eq_true (by first | (with_reducible assumption) | assumption)
        obtain ⟨ad291, e291, hx291_0⟩ := Kd.at_int HR0.out x5_1 p291 q291
        cases e291
        replace p291 := eq_true p291
        replace q291 := eq_true q291
        have p292 : 0 ≤ (x5_1 : Int) := of_decide_eq_true (by first | (with_reducible assumption) | assumption)
        have q292 : x5_1 < (l1.length : Int) := of_decide_eq_true (by first | (with_reducible assumption) | assumption)
        obtain ⟨ad292, e292, hx292_0⟩ := Kd.at_int HR1.out x5_1 p292 q292
        cases e292
        replace p292 := eq_true p292
        replace q292 := eq_true q292
        go_wp2
        repeat (go_quiet (fail); try go_wp2)
        go_roundg k1
        case measure => have := HK1.out; omega
        case rel => exact ⟨(wrap64 (x5_1 + 1)), (by first | rfl | (simp; done) | (simp [*]; done)), H', ⟨by have := HK1.out; omega⟩, by repeat (first | exact Drawn0.refl _ | apply Drawn0.step)⟩
       ·rw [if_neg c7] at H
        have c7b0 : ((rd l0 x5_1) == (rd l1 x5_1)) = false := beq_eq_false_iff_ne.mpr c7
        have c7b1 : ((rd l0 x5_1) != (rd l1 x5_1)) = true := bne_iff_ne.mpr c7
        obtain rfl := Option.some.inj H
        have p291 : 0 ≤ (x5_1 : Int) := of_decide_eq_true (by first | (with_reducible assumption) | assumption)
        have q291 : x5_1 < (l0.length : Int) := of_decide_eq_true (by first | (with_reducible assumption) | assumption)
        obtain ⟨ad291, e291, hx291_0⟩ := Kd.at_int HR0.out x5_1 p291 q291
        cases e291
        replace p291 := eq_true p291
        replace q291 := eq_true q291
        have p292 : 0 ≤ (x5_1 : Int) := of_decide_eq_true (by first | (with_reducible assumption) | assumption)
        have q292 : x5_1 < (l1.length : Int) := of_decide_eq_true (by first | (with_reducible assumption) | assumption)
        obtain ⟨ad292, e292, hx292_0⟩ := Kd.at_int HR1.out x5_1 p292 q292
        cases e292
        replace p292 := eq_true p292
        replace q292 := eq_true q292
        go_wp2
        repeat (go_quiet (fail); try go_wp2)
        go_ret
        exact ⟨by first | rfl | (simp; done) | (simp [*]; done), by repeat (first | exact Drawn0.refl _ | apply Drawn0.step)⟩
      ·rw [if_neg c6] at H
       exact absurd H (by simp)
     ·rw [if_neg c5] at H
      exact absurd H (by simp)
    ·rw [if_neg c4] at H
     have c4b0 : decide (x5_1 < (l0.length : Int)) = false := decide_eq_false c4
     clear c4
     obtain rfl := Option.some.inj H
     go_wp2
     repeat (go_quiet (fail); try go_wp2)
     go_ret
     exact ⟨by first | rfl | (simp; done) | (simp [*]; done), by repeat (first | exact Drawn0.refl _ | apply Drawn0.step)⟩
 ·rw [if_neg c3] at H
  have c3b0 : ((l0.length : Int) == (l1.length : Int)) = false := beq_eq_false_iff_ne.mpr c3
  have c3b1 : ((l0.length : Int) != (l1.length : Int)) = true := bne_iff_ne.mpr c3
  have c3b2 : (l0.length == l1.length) = false := by first | simpa using c3 | (simp at c3 ⊢; omega)
  obtain rfl := Option.some.inj H
  go_enter Try.func48, Try.ntmps48
  go_wp2
  repeat (go_quiet (fail); try go_wp2)
  go_ret
  exact ⟨by first | rfl | (simp; done) | (simp [*]; done), by repeat (first | exact Drawn0.refl _ | apply Drawn0.step)⟩

/-! ### scarfjointref06_Same: function 27 -/
def scarfjointref06_Same.f (k : Nat) (l0_0 : List Int) (l0_1 : List Int) (l1_0 : List Int) (l1_1 : List Int) : Option (Bool) := (scarfjointref02_SameInts.f k l0_0 l1_0).bind fun t295 => (if t295 = true then ((scarfjointref02_SameInts.f k l0_1 l1_1).bind fun t296 => (some t296)) else (some false))
theorem scarfjointref06_Same.mono : ∀ a0 a1 a2 a3 k, LeO (scarfjointref06_Same.f k a0 a1 a2 a3) (scarfjointref06_Same.f (k + 1) a0 a1 a2 a3) := by
 intro a0 a1 a2 a3 k
 unfold scarfjointref06_Same.f
 repeat' first
   | (with_reducible exact scarfjointref02_SameInts.mono _ _ _)
   | (with_reducible exact LeO.refl _)
   | (with_reducible exact LeO.none _)
   | (with_reducible refine LeO.ite ?_ ?_)
   | (with_reducible refine LeO.bind ?_ (fun _ => ?_))
   | exact scarfjointref02_SameInts.mono _ _ _
   | exact LeO.none _
   | refine LeO.ite ?_ ?_
   | refine LeO.bind ?_ (fun _ => ?_)
set_option maxHeartbeats 8000000 in
set_option maxRecDepth 100000 in
theorem scarfjointref06_Same.calls (k : Nat) (A0_0 : Option Addr) (c0_0 : Nat) (l0_0 : List Int) (A0_1 : Option Addr) (c0_1 : Nat) (l0_1 : List Int) (A1_0 : Option Addr) (c1_0 : Nat) (l1_0 : List Int) (A1_1 : Option Addr) (c1_1 : Nat) (l1_1 : List Int) (r : Bool) (w : World) (hr0_0 : Kd.C (Kd.int .i64) w A0_0 l0_0.length l0_0) (hc0_0 : l0_0.length ≤ c0_0) (hr0_1 : Kd.C (Kd.int .i64) w A0_1 l0_1.length l0_1) (hc0_1 : l0_1.length ≤ c0_1) (hr1_0 : Kd.C (Kd.int .i64) w A1_0 l1_0.length l1_0) (hc1_0 : l1_0.length ≤ c1_0) (hr1_1 : Kd.C (Kd.int .i64) w A1_1 l1_1.length l1_1) (hc1_1 : l1_1.length ≤ c1_1) (h : scarfjointref06_Same.f k l0_0 l0_1 l1_0 l1_1 = some r) :
  Calls Try.prog 27 #[.agg #[.slice A0_0 l0_0.length c0_0, .slice A0_1 l0_1.length c0_1], .agg #[.slice A1_0 l1_0.length c1_0, .slice A1_1 l1_1.length c1_1]] w fun e w' => e = .returned (.bool r) ∧ Below w.heap.size w w' := by
 have hu27 := Try.underlying27
 have HR0_0 := Aside0.mk hr0_0
 have HC0_0 := Aside0.mk hc0_0
 clear hr0_0 hc0_0
 have HR0_1 := Aside0.mk hr0_1
 have HC0_1 := Aside0.mk hc0_1
 clear hr0_1 hc0_1
 have HR1_0 := Aside0.mk hr1_0
 have HC1_0 := Aside0.mk hc1_0
 clear hr1_0 hc1_0
 have HR1_1 := Aside0.mk hr1_1
 have HC1_1 := Aside0.mk hc1_1
 clear hr1_1 hc1_1
 have HB := Aside0.mk (Below.refl w.heap.size w)
 have H : ((scarfjointref02_SameInts.f k l0_0 l1_0).bind fun t295 => (if t295 = true then ((scarfjointref02_SameInts.f k l0_1 l1_1).bind fun t296 => (some t296)) else (some false))) = some r := h
 clear h
 replace H := Option.bind_eq_some_iff.mp H
 obtain ⟨t295, A30, H⟩ := H
 replace H : (if t295 = true then ((scarfjointref02_SameInts.f k l0_1 l1_1).bind fun t296 => (some t296)) else (some false)) = some r := H
 have A3 := Aside0.mk A30
 clear A30
 by_cases c4 : t295 = true
 ·subst c4
  have H1 : ((scarfjointref02_SameInts.f k l0_1 l1_1).bind fun t296 => (some t296)) = some r := by rw [if_pos rfl] at H; exact H
  clear H
  have H := H1
  clear H1
  replace H := Option.bind_eq_some_iff.mp H
  obtain ⟨t296, A50, H⟩ := H
  replace H : (some t296) = some r := H
  have A5 := Aside0.mk A50
  clear A50
  obtain rfl := Option.some.inj H
  go_enter Try.func27, Try.ntmps27
  go_wp2_with (first | ((with_reducible refine gate_dst (N := 2) rfl ?_); refine box_event ?hg (N := 2) ?hd (cs := #[.slice A0_0 l0_0.length c0_0, .slice A0_1 l0_1.length c0_1]) (t := 27) ?hr ?_; (case hd => rfl); (case hg => rfl); (case hr => first | (go_simp; done) | (go_simp; rfl)); intro gb293 hg w6 hbox hb; have BK293 := Aside0.mk (hbox); have GW293 := Aside0.mk (gw_ hg (mb_ HB.out)); have GE293 := Aside0.mk (gw_ hg (mb_ HB.out)); replace HB := Aside0.mk (below_step (mb_ HB.out) hb); clear hb hbox hg) | ((with_reducible refine gate_dst (N := 3) rfl ?_); refine box_event ?hg (N := 3) ?hd (cs := #[.slice A1_0 l1_0.length c1_0, .slice A1_1 l1_1.length c1_1]) (t := 27) ?hr ?_; (case hd => rfl); (case hg => rfl); (case hr => first | (go_simp; done) | (go_simp; rfl)); intro gb294 hg w7 hbox hb; have BK294 := Aside0.mk (hbox); have GW294 := Aside0.mk (gw_ hg (mbs_ HB.out)); have GE294 := Aside0.mk (gw_ hg (mbs_ HB.out)); replace HB := Aside0.mk (below_step (mbs_ HB.out) hb); have NB293_294 := Aside0.mk (nb_ hg (bk_ BK293.out)); have NB294_293 := Aside0.mk (nc_ hg (bk_ BK293.out)); replace BK293 := Aside0.mk (blk_below (bk_ BK293.out) hb); clear hb hbox hg; have hnb8 := NB293_294.out; have hnc8 := NB294_293.out; have hcz9_0 := bc0_ BK293.out; have hcz9_1 := bc1_ BK293.out; have hfz9_0 := blk_frozen BK293.out 0; have hfz9_1 := blk_frozen BK293.out 1; have hcz10_0 := bc0_ BK294.out; have hcz10_1 := bc1_ BK294.out; have hfz10_0 := blk_frozen BK294.out 0; have hfz10_1 := blk_frozen BK294.out 1) | ((with_reducible refine gate_callee (f := 48) rfl ?_); refine goesL_ (some 9) rfl rfl Try.func48 (by kernel_rfl) rfl #[.slice A0_0 l0_0.length c0_0, .slice A1_0 l1_0.length c1_0] rfl (by (try simp only [List.map_toArray, List.map_cons, List.map_nil]); first | done | rfl | (simp only [List.length_drop, List.length_take]; rfl)) ?_; (with_reducible refine (scarfjointref02_SameInts.calls k _ _ l0_0 _ _ l1_0 true _ ?side1 ?side2 ?side3 ?side4 A3.out).mono ?_); (case side1 => exact mc_ (Kd.C_below HR0_0.out HB.out)); (case side2 => exact HC0_0.out); (case side3 => exact mc_ (Kd.C_below HR1_0.out HB.out)); (case side4 => exact HC1_0.out); rintro e w' ⟨rfl, ⟨nd, rfl⟩⟩; refine ⟨_, rfl, ?_⟩) | (go_at_call 48; (with_reducible refine (scarfjointref02_SameInts.calls k _ _ l0_1 _ _ l1_1 t296 _ ?side1 ?side2 ?side3 ?side4 A5.out).mono ?_); (case side1 => repeat (first | exact (Kd.C_below HR0_1.out (mbs_ HB.out)) | (with_reducible refine Kd.C_alloc ?_ _) | (with_reducible refine Kd.C_drewN ?_ _) | (with_reducible refine Kd.C_drew ?_))); (case side2 => exact HC0_1.out); (case side3 => repeat (first | exact (Kd.C_below HR1_1.out (mbs_ HB.out)) | (with_reducible refine Kd.C_alloc ?_ _) | (with_reducible refine Kd.C_drewN ?_ _) | (with_reducible refine Kd.C_drew ?_))); (case side4 => exact HC1_1.out); rintro e w' ⟨rfl, ⟨nd, rfl⟩⟩))
  go_ret
  exact ⟨by first | rfl | (simp [errW_none, errW_some] <;> rfl) | (simp [*, errW_none, errW_some] <;> rfl), mbs_ HB.out⟩
 ·replace c4 := Bool.eq_false_iff.mpr c4
  subst c4
  have H1 : (some false) = some r := by rw [if_neg (show ¬ (false = true) by decide)] at H; exact H
  clear H
  have H := H1
  clear H1
  obtain rfl := Option.some.inj H
  go_enter Try.func27, Try.ntmps27
  go_wp2_with (first | ((with_reducible refine gate_dst (N := 2) rfl ?_); refine box_event ?hg (N := 2) ?hd (cs := #[.slice A0_0 l0_0.length c0_0, .slice A0_1 l0_1.length c0_1]) (t := 27) ?hr ?_; (case hd => rfl); (case hg => rfl); (case hr => first | (go_simp; done) | (go_simp; rfl)); intro gb293 hg w11 hbox hb; have BK293 := Aside0.mk (hbox); have GW293 := Aside0.mk (gw_ hg (mb_ HB.out)); have GE293 := Aside0.mk (gw_ hg (mb_ HB.out)); replace HB := Aside0.mk (below_step (mb_ HB.out) hb); clear hb hbox hg) | ((with_reducible refine gate_dst (N := 3) rfl ?_); refine box_event ?hg (N := 3) ?hd (cs := #[.slice A1_0 l1_0.length c1_0, .slice A1_1 l1_1.length c1_1]) (t := 27) ?hr ?_; (case hd => rfl); (case hg => rfl); (case hr => first | (go_simp; done) | (go_simp; rfl)); intro gb294 hg w12 hbox hb; have BK294 := Aside0.mk (hbox); have GW294 := Aside0.mk (gw_ hg (mbs_ HB.out)); have GE294 := Aside0.mk (gw_ hg (mbs_ HB.out)); replace HB := Aside0.mk (below_step (mbs_ HB.out) hb); have NB293_294 := Aside0.mk (nb_ hg (bk_ BK293.out)); have NB294_293 := Aside0.mk (nc_ hg (bk_ BK293.out)); replace BK293 := Aside0.mk (blk_below (bk_ BK293.out) hb); clear hb hbox hg; have hnb13 := NB293_294.out; have hnc13 := NB294_293.out; have hcz14_0 := bc0_ BK293.out; have hcz14_1 := bc1_ BK293.out; have hfz14_0 := blk_frozen BK293.out 0; have hfz14_1 := blk_frozen BK293.out 1; have hcz15_0 := bc0_ BK294.out; have hcz15_1 := bc1_ BK294.out; have hfz15_0 := blk_frozen BK294.out 0; have hfz15_1 := blk_frozen BK294.out 1) | ((with_reducible refine gate_callee (f := 48) rfl ?_); refine goesL_ (some 9) rfl rfl Try.func48 (by kernel_rfl) rfl #[.slice A0_0 l0_0.length c0_0, .slice A1_0 l1_0.length c1_0] rfl (by (try simp only [List.map_toArray, List.map_cons, List.map_nil]); first | done | rfl | (simp only [List.length_drop, List.length_take]; rfl)) ?_; (with_reducible refine (scarfjointref02_SameInts.calls k _ _ l0_0 _ _ l1_0 false _ ?side1 ?side2 ?side3 ?side4 A3.out).mono ?_); (case side1 => exact mc_ (Kd.C_below HR0_0.out HB.out)); (case side2 => exact HC0_0.out); (case side3 => exact mc_ (Kd.C_below HR1_0.out HB.out)); (case side4 => exact HC1_0.out); rintro e w' ⟨rfl, ⟨nd, rfl⟩⟩; refine ⟨_, rfl, ?_⟩))
  go_ret
  exact ⟨by first | rfl | (simp [errW_none, errW_some] <;> rfl) | (simp [*, errW_none, errW_some] <;> rfl), mbs_ HB.out⟩

end Go.Proofs.Ytklacpdobpkbbaa.P
