-- Written by wip/drive.py of this session's repo over the kit's print.py (with contracts of the session's own): not the print's own text
import Derived.Test.YtklacpdobpkbbaaPx0
import Derived.Test.YtklacpdobpkbbaaPx10
namespace Go.Proofs.Ytklacpdobpkbbaa.P
open Go.RowKit Go.Proofs.YtklacpdobpkbbaaW.PrintWords Go.Proofs.YtklacpdobpkbbaaW.PrintLast Go.Proofs.YtklacpdobpkbbaaW.PrintMore
attribute [local go_sem] max2_int min2_int max_two min_two max_three min_three max_four min_four   -- for this text's walks alone
set_option linter.unusedVariables false
set_option linter.unusedSimpArgs false

/-! ### scarfjointref06_Surjective: function 18 -/
def scarfjointref06_Surjective.f (k : Nat) (l0_0 : List Int) (l0_1 : List (S65)) (l1_0 : List Int) (l1_1 : List (S65)) (l2_0 : List Int) (l2_1 : List Int) : Option (Bool) := (scarfjointref06_Valid.f k l0_0 l0_1 l1_0 l1_1 l2_0 l2_1).bind fun t227 => (if t227 = 0 then ((scarfjointref06_Covers.f k l2_0 (l1_0.length : Int)).bind fun t228 => (if t228 = true then ((scarfjointref06_Covers.f k l2_1 (l1_1.length : Int)).bind fun t229 => (some t229)) else (some false))) else (some false))
theorem scarfjointref06_Surjective.mono : ∀ a0 a1 a2 a3 a4 a5 k, LeO (scarfjointref06_Surjective.f k a0 a1 a2 a3 a4 a5) (scarfjointref06_Surjective.f (k + 1) a0 a1 a2 a3 a4 a5) := by
 intro a0 a1 a2 a3 a4 a5 k
 unfold scarfjointref06_Surjective.f
 repeat' first
   | (with_reducible exact scarfjointref06_Covers.mono _ _ _)
   | (with_reducible exact scarfjointref06_Valid.mono _ _ _ _ _ _ _)
   | (with_reducible exact LeO.refl _)
   | (with_reducible exact LeO.none _)
   | (with_reducible refine LeO.ite ?_ ?_)
   | (with_reducible refine LeO.bind ?_ (fun _ => ?_))
   | exact scarfjointref06_Covers.mono _ _ _
   | exact scarfjointref06_Valid.mono _ _ _ _ _ _ _
   | exact LeO.none _
   | refine LeO.ite ?_ ?_
   | refine LeO.bind ?_ (fun _ => ?_)
set_option maxHeartbeats 8000000 in
set_option maxRecDepth 100000 in
theorem scarfjointref06_Surjective.calls (k : Nat) (A0_0 : Option Addr) (c0_0 : Nat) (l0_0 : List Int) (A0_1 : Option Addr) (c0_1 : Nat) (l0_1 : List (S65)) (A1_0 : Option Addr) (c1_0 : Nat) (l1_0 : List Int) (A1_1 : Option Addr) (c1_1 : Nat) (l1_1 : List (S65)) (A2_0 : Option Addr) (c2_0 : Nat) (l2_0 : List Int) (A2_1 : Option Addr) (c2_1 : Nat) (l2_1 : List Int) (r : Bool) (w : World) (hr0_0 : Kd.C (Kd.int .i64) w A0_0 l0_0.length l0_0) (hc0_0 : l0_0.length ≤ c0_0) (hr0_1 : Kd.C k65 w A0_1 l0_1.length l0_1) (hc0_1 : l0_1.length ≤ c0_1) (hr1_0 : Kd.C (Kd.int .i64) w A1_0 l1_0.length l1_0) (hc1_0 : l1_0.length ≤ c1_0) (hr1_1 : Kd.C k65 w A1_1 l1_1.length l1_1) (hc1_1 : l1_1.length ≤ c1_1) (hr2_0 : Kd.C (Kd.int .i64) w A2_0 l2_0.length l2_0) (hc2_0 : l2_0.length ≤ c2_0) (hr2_1 : Kd.C (Kd.int .i64) w A2_1 l2_1.length l2_1) (hc2_1 : l2_1.length ≤ c2_1) (h : scarfjointref06_Surjective.f k l0_0 l0_1 l1_0 l1_1 l2_0 l2_1 = some r) :
  Calls Try.prog 18 #[.agg #[.slice A0_0 l0_0.length c0_0, .slice A0_1 l0_1.length c0_1], .agg #[.slice A1_0 l1_0.length c1_0, .slice A1_1 l1_1.length c1_1], .agg #[.slice A2_0 l2_0.length c2_0, .slice A2_1 l2_1.length c2_1]] w fun e w' => e = .returned (.bool r) ∧ Below w.heap.size w w' := by
 have hu25 := Try.underlying25
 have hu27 := Try.underlying27
 have HR0_0 := Aside0.mk hr0_0
 have HC0_0 := Aside0.mk hc0_0
 clear hr0_0 hc0_0
 have HR0_1 := Aside0.mk hr0_1
 have HC0_1 := Aside0.mk hc0_1
 clear hr0_1 hc0_1
 have HR1_0 := Aside0.mk hr1_0
 have HC1_0 := Aside0.mk hc1_0
 clear hr1_0 hc1_0
 have HR1_1 := Aside0.mk hr1_1
 have HC1_1 := Aside0.mk hc1_1
 clear hr1_1 hc1_1
 have HR2_0 := Aside0.mk hr2_0
 have HC2_0 := Aside0.mk hc2_0
 clear hr2_0 hc2_0
 have HR2_1 := Aside0.mk hr2_1
 have HC2_1 := Aside0.mk hc2_1
 clear hr2_1 hc2_1
 have HB := Aside0.mk (Below.refl w.heap.size w)
 have H : ((scarfjointref06_Valid.f k l0_0 l0_1 l1_0 l1_1 l2_0 l2_1).bind fun t227 => (if t227 = 0 then ((scarfjointref06_Covers.f k l2_0 (l1_0.length : Int)).bind fun t228 => (if t228 = true then ((scarfjointref06_Covers.f k l2_1 (l1_1.length : Int)).bind fun t229 => (some t229)) else (some false))) else (some false))) = some r := h
 clear h
 replace H := Option.bind_eq_some_iff.mp H
 obtain ⟨t227, A40, H⟩ := H
 replace H : (if t227 = 0 then ((scarfjointref06_Covers.f k l2_0 (l1_0.length : Int)).bind fun t228 => (if t228 = true then ((scarfjointref06_Covers.f k l2_1 (l1_1.length : Int)).bind fun t229 => (some t229)) else (some false))) else (some false)) = some r := H
 have A4 := Aside0.mk A40
 clear A40
 by_cases c5 : t227 = 0
 ·rw [if_pos c5] at H
  have c5b0 : (t227 == 0) = true := beq_iff_eq.mpr c5
  have c5b1 : (t227 != 0) = false := bne_eq_false_iff_eq.mpr c5
  clear c5
  replace H := Option.bind_eq_some_iff.mp H
  obtain ⟨t228, A60, H⟩ := H
  replace H : (if t228 = true then ((scarfjointref06_Covers.f k l2_1 (l1_1.length : Int)).bind fun t229 => (some t229)) else (some false)) = some r := H
  have A6 := Aside0.mk A60
  clear A60
  by_cases c7 : t228 = true
  ·subst c7
   have H1 : ((scarfjointref06_Covers.f k l2_1 (l1_1.length : Int)).bind fun t229 => (some t229)) = some r := by rw [if_pos rfl] at H; exact H
   clear H
   have H := H1
   clear H1
   replace H := Option.bind_eq_some_iff.mp H
   obtain ⟨t229, A80, H⟩ := H
   replace H : (some t229) = some r := H
   have A8 := Aside0.mk A80
   clear A80
   obtain rfl := Option.some.inj H
   go_enter Try.func18, Try.ntmps18
   go_wp2_with (first | ((with_reducible refine gate_dst (N := 3) rfl ?_); (try (refine gate_guard (by rfl) ?_; dsimp only)); refine box_event ?hg (N := 3) ?hd (cs := #[.slice A0_0 l0_0.length c0_0, .slice A0_1 l0_1.length c0_1]) (t := 25) ?hr ?_; (case hd => rfl); (case hg => rfl); (case hr => first | (go_simp; done) | (go_simp; rfl)); intro gb224 hg w9 hbox hb; have BK224 := Aside0.mk (hbox); have GW224 := Aside0.mk (gw_ hg (mb_ HB.out)); have GE224 := Aside0.mk (gw_ hg (mb_ HB.out)); replace HB := Aside0.mk (below_step (mb_ HB.out) hb); clear hb hbox hg) | ((with_reducible refine gate_dst (N := 4) rfl ?_); (try (refine gate_guard (by rfl) ?_; dsimp only)); refine box_event ?hg (N := 4) ?hd (cs := #[.slice A1_0 l1_0.length c1_0, .slice A1_1 l1_1.length c1_1]) (t := 25) ?hr ?_; (case hd => rfl); (case hg => rfl); (case hr => first | (go_simp; done) | (go_simp; rfl)); intro gb225 hg w10 hbox hb; have BK225 := Aside0.mk (hbox); have GW225 := Aside0.mk (gw_ hg (mbs_ HB.out)); have GE225 := Aside0.mk (gw_ hg (mbs_ HB.out)); replace HB := Aside0.mk (below_step (mbs_ HB.out) hb); have NB224_225 := Aside0.mk (nb_ hg (bk_ BK224.out)); have NB225_224 := Aside0.mk (nc_ hg (bk_ BK224.out)); replace BK224 := Aside0.mk (blk_below (bk_ BK224.out) hb); clear hb hbox hg) | ((with_reducible refine gate_dst (N := 5) rfl ?_); (try (refine gate_guard (by rfl) ?_; dsimp only)); refine box_event ?hg (N := 5) ?hd (cs := #[.slice A2_0 l2_0.length c2_0, .slice A2_1 l2_1.length c2_1]) (t := 27) ?hr ?_; (case hd => rfl); (case hg => rfl); (case hr => first | (go_simp; done) | (go_simp; rfl)); intro gb226 hg w11 hbox hb; have BK226 := Aside0.mk (hbox); have GW226 := Aside0.mk (gw_ hg (mbs_ HB.out)); have GE226 := Aside0.mk (gw_ hg (mbs_ HB.out)); replace HB := Aside0.mk (below_step (mbs_ HB.out) hb); have NB224_226 := Aside0.mk (nb_ hg (bk_ BK224.out)); have NB226_224 := Aside0.mk (nc_ hg (bk_ BK224.out)); replace BK224 := Aside0.mk (blk_below (bk_ BK224.out) hb); have NB225_226 := Aside0.mk (nb_ hg (bk_ BK225.out)); have NB226_225 := Aside0.mk (nc_ hg (bk_ BK225.out)); replace BK225 := Aside0.mk (blk_below (bk_ BK225.out) hb); clear hb hbox hg; have hnb12 := NB224_225.out; have hnc12 := NB225_224.out; have hnb13 := NB224_226.out; have hnc13 := NB226_224.out; have hcz14_0 := bc0_ BK224.out; have hcz14_1 := bc1_ BK224.out; have hfz14_0 := blk_frozen BK224.out 0; have hfz14_1 := blk_frozen BK224.out 1; have hnb15 := NB225_226.out; have hnc15 := NB226_225.out; have hcz16_0 := bc0_ BK225.out; have hcz16_1 := bc1_ BK225.out; have hfz16_0 := blk_frozen BK225.out 0; have hfz16_1 := blk_frozen BK225.out 1; have hcz17_0 := bc0_ BK226.out; have hcz17_1 := bc1_ BK226.out; have hfz17_0 := blk_frozen BK226.out 0; have hfz17_1 := blk_frozen BK226.out 1) | ((with_reducible refine gate_callee (f := 14) rfl ?_); refine goesL_ (some 10) rfl rfl Try.func14 (by kernel_rfl) rfl #[.agg #[.slice A0_0 l0_0.length c0_0, .slice A0_1 l0_1.length c0_1], .agg #[.slice A1_0 l1_0.length c1_0, .slice A1_1 l1_1.length c1_1], .agg #[.slice A2_0 l2_0.length c2_0, .slice A2_1 l2_1.length c2_1]] rfl (by (try simp only [List.map_toArray, List.map_cons, List.map_nil]); first | done | rfl | (simp only [List.length_drop, List.length_take]; rfl)) ?_; (with_reducible refine (scarfjointref06_Valid.calls k _ _ l0_0 _ _ l0_1 _ _ l1_0 _ _ l1_1 _ _ l2_0 _ _ l2_1 t227 _ ?side1 ?side2 ?side3 ?side4 ?side5 ?side6 ?side7 ?side8 ?side9 ?side10 ?side11 ?side12 A4.out).mono ?_); (case side1 => exact mc_ (Kd.C_below HR0_0.out HB.out)); (case side2 => exact HC0_0.out); (case side3 => exact mc_ (Kd.C_below HR0_1.out HB.out)); (case side4 => exact HC0_1.out); (case side5 => exact mc_ (Kd.C_below HR1_0.out HB.out)); (case side6 => exact HC1_0.out); (case side7 => exact mc_ (Kd.C_below HR1_1.out HB.out)); (case side8 => exact HC1_1.out); (case side9 => exact mc_ (Kd.C_below HR2_0.out HB.out)); (case side10 => exact HC2_0.out); (case side11 => exact mc_ (Kd.C_below HR2_1.out HB.out)); (case side12 => exact HC2_1.out); rintro e w18 ⟨rfl, hb⟩; refine ⟨_, rfl, ?_⟩; replace BK224 := Aside0.mk (blk_below (bk_ BK224.out) hb); replace BK225 := Aside0.mk (blk_below (bk_ BK225.out) hb); replace BK226 := Aside0.mk (blk_below (bk_ BK226.out) hb); replace HB := Aside0.mk (below_step (mbs_ HB.out) hb); (try clear hb); (try clear hb2); (try clear hk); (try clear hi); have hcz19_0 := bc0_ BK226.out; have hcz19_1 := bc1_ BK226.out; have hfz19_0 := blk_frozen BK226.out 0; have hfz19_1 := blk_frozen BK226.out 1; have hcz20_0 := bc0_ BK225.out; have hcz20_1 := bc1_ BK225.out; have hfz20_0 := blk_frozen BK225.out 0; have hfz20_1 := blk_frozen BK225.out 1) | (go_at_call 42; (with_reducible refine (scarfjointref06_Covers.calls k _ _ l2_0 (l1_0.length : Int) true _ ?side1 ?side2 A6.out).mono ?_); (case side1 => exact mc_ (Kd.C_below HR2_0.out HB.out)); (case side2 => exact HC2_0.out); rintro e w' ⟨rfl, ⟨nd, rfl⟩⟩) | (go_at_call 42; (with_reducible refine (scarfjointref06_Covers.calls k _ _ l2_1 (l1_1.length : Int) t229 _ ?side1 ?side2 A8.out).mono ?_); (case side1 => repeat (first | exact (Kd.C_below HR2_1.out (mbs_ HB.out)) | (with_reducible refine Kd.C_alloc ?_ _) | (with_reducible refine Kd.C_drewN ?_ _) | (with_reducible refine Kd.C_drew ?_))); (case side2 => exact HC2_1.out); rintro e w' ⟨rfl, ⟨nd, rfl⟩⟩))
   go_ret
   exact ⟨by first | rfl | (simp [errW_none, errW_some] <;> rfl) | (simp [*, errW_none, errW_some] <;> rfl), mbs_ HB.out⟩
  ·replace c7 := Bool.eq_false_iff.mpr c7
   subst c7
   have H1 : (some false) = some r := by rw [if_neg (show ¬ (false = true) by decide)] at H; exact H
   clear H
   have H := H1
   clear H1
   obtain rfl := Option.some.inj H
   go_enter Try.func18, Try.ntmps18
   go_wp2_with (first | ((with_reducible refine gate_dst (N := 3) rfl ?_); (try (refine gate_guard (by rfl) ?_; dsimp only)); refine box_event ?hg (N := 3) ?hd (cs := #[.slice A0_0 l0_0.length c0_0, .slice A0_1 l0_1.length c0_1]) (t := 25) ?hr ?_; (case hd => rfl); (case hg => rfl); (case hr => first | (go_simp; done) | (go_simp; rfl)); intro gb224 hg w21 hbox hb; have BK224 := Aside0.mk (hbox); have GW224 := Aside0.mk (gw_ hg (mb_ HB.out)); have GE224 := Aside0.mk (gw_ hg (mb_ HB.out)); replace HB := Aside0.mk (below_step (mb_ HB.out) hb); clear hb hbox hg) | ((with_reducible refine gate_dst (N := 4) rfl ?_); (try (refine gate_guard (by rfl) ?_; dsimp only)); refine box_event ?hg (N := 4) ?hd (cs := #[.slice A1_0 l1_0.length c1_0, .slice A1_1 l1_1.length c1_1]) (t := 25) ?hr ?_; (case hd => rfl); (case hg => rfl); (case hr => first | (go_simp; done) | (go_simp; rfl)); intro gb225 hg w22 hbox hb; have BK225 := Aside0.mk (hbox); have GW225 := Aside0.mk (gw_ hg (mbs_ HB.out)); have GE225 := Aside0.mk (gw_ hg (mbs_ HB.out)); replace HB := Aside0.mk (below_step (mbs_ HB.out) hb); have NB224_225 := Aside0.mk (nb_ hg (bk_ BK224.out)); have NB225_224 := Aside0.mk (nc_ hg (bk_ BK224.out)); replace BK224 := Aside0.mk (blk_below (bk_ BK224.out) hb); clear hb hbox hg) | ((with_reducible refine gate_dst (N := 5) rfl ?_); (try (refine gate_guard (by rfl) ?_; dsimp only)); refine box_event ?hg (N := 5) ?hd (cs := #[.slice A2_0 l2_0.length c2_0, .slice A2_1 l2_1.length c2_1]) (t := 27) ?hr ?_; (case hd => rfl); (case hg => rfl); (case hr => first | (go_simp; done) | (go_simp; rfl)); intro gb226 hg w23 hbox hb; have BK226 := Aside0.mk (hbox); have GW226 := Aside0.mk (gw_ hg (mbs_ HB.out)); have GE226 := Aside0.mk (gw_ hg (mbs_ HB.out)); replace HB := Aside0.mk (below_step (mbs_ HB.out) hb); have NB224_226 := Aside0.mk (nb_ hg (bk_ BK224.out)); have NB226_224 := Aside0.mk (nc_ hg (bk_ BK224.out)); replace BK224 := Aside0.mk (blk_below (bk_ BK224.out) hb); have NB225_226 := Aside0.mk (nb_ hg (bk_ BK225.out)); have NB226_225 := Aside0.mk (nc_ hg (bk_ BK225.out)); replace BK225 := Aside0.mk (blk_below (bk_ BK225.out) hb); clear hb hbox hg; have hnb24 := NB224_225.out; have hnc24 := NB225_224.out; have hnb25 := NB224_226.out; have hnc25 := NB226_224.out; have hcz26_0 := bc0_ BK224.out; have hcz26_1 := bc1_ BK224.out; have hfz26_0 := blk_frozen BK224.out 0; have hfz26_1 := blk_frozen BK224.out 1; have hnb27 := NB225_226.out; have hnc27 := NB226_225.out; have hcz28_0 := bc0_ BK225.out; have hcz28_1 := bc1_ BK225.out; have hfz28_0 := blk_frozen BK225.out 0; have hfz28_1 := blk_frozen BK225.out 1; have hcz29_0 := bc0_ BK226.out; have hcz29_1 := bc1_ BK226.out; have hfz29_0 := blk_frozen BK226.out 0; have hfz29_1 := blk_frozen BK226.out 1) | ((with_reducible refine gate_callee (f := 14) rfl ?_); refine goesL_ (some 10) rfl rfl Try.func14 (by kernel_rfl) rfl #[.agg #[.slice A0_0 l0_0.length c0_0, .slice A0_1 l0_1.length c0_1], .agg #[.slice A1_0 l1_0.length c1_0, .slice A1_1 l1_1.length c1_1], .agg #[.slice A2_0 l2_0.length c2_0, .slice A2_1 l2_1.length c2_1]] rfl (by (try simp only [List.map_toArray, List.map_cons, List.map_nil]); first | done | rfl | (simp only [List.length_drop, List.length_take]; rfl)) ?_; (with_reducible refine (scarfjointref06_Valid.calls k _ _ l0_0 _ _ l0_1 _ _ l1_0 _ _ l1_1 _ _ l2_0 _ _ l2_1 t227 _ ?side1 ?side2 ?side3 ?side4 ?side5 ?side6 ?side7 ?side8 ?side9 ?side10 ?side11 ?side12 A4.out).mono ?_); (case side1 => exact mc_ (Kd.C_below HR0_0.out HB.out)); (case side2 => exact HC0_0.out); (case side3 => exact mc_ (Kd.C_below HR0_1.out HB.out)); (case side4 => exact HC0_1.out); (case side5 => exact mc_ (Kd.C_below HR1_0.out HB.out)); (case side6 => exact HC1_0.out); (case side7 => exact mc_ (Kd.C_below HR1_1.out HB.out)); (case side8 => exact HC1_1.out); (case side9 => exact mc_ (Kd.C_below HR2_0.out HB.out)); (case side10 => exact HC2_0.out); (case side11 => exact mc_ (Kd.C_below HR2_1.out HB.out)); (case side12 => exact HC2_1.out); rintro e w30 ⟨rfl, hb⟩; refine ⟨_, rfl, ?_⟩; replace BK224 := Aside0.mk (blk_below (bk_ BK224.out) hb); replace BK225 := Aside0.mk (blk_below (bk_ BK225.out) hb); replace BK226 := Aside0.mk (blk_below (bk_ BK226.out) hb); replace HB := Aside0.mk (below_step (mbs_ HB.out) hb); (try clear hb); (try clear hb2); (try clear hk); (try clear hi); have hcz31_0 := bc0_ BK226.out; have hcz31_1 := bc1_ BK226.out; have hfz31_0 := blk_frozen BK226.out 0; have hfz31_1 := blk_frozen BK226.out 1; have hcz32_0 := bc0_ BK225.out; have hcz32_1 := bc1_ BK225.out; have hfz32_0 := blk_frozen BK225.out 0; have hfz32_1 := blk_frozen BK225.out 1) | (go_at_call 42; (with_reducible refine (scarfjointref06_Covers.calls k _ _ l2_0 (l1_0.length : Int) false _ ?side1 ?side2 A6.out).mono ?_); (case side1 => exact mc_ (Kd.C_below HR2_0.out HB.out)); (case side2 => exact HC2_0.out); rintro e w' ⟨rfl, ⟨nd, rfl⟩⟩))
   go_ret
   exact ⟨by first | rfl | (simp [errW_none, errW_some] <;> rfl) | (simp [*, errW_none, errW_some] <;> rfl), mbs_ HB.out⟩
 ·rw [if_neg c5] at H
  have c5b0 : (t227 == 0) = false := beq_eq_false_iff_ne.mpr c5
  have c5b1 : (t227 != 0) = true := bne_iff_ne.mpr c5
  obtain rfl := Option.some.inj H
  go_enter Try.func18, Try.ntmps18
  go_wp2_with (first | ((with_reducible refine gate_dst (N := 3) rfl ?_); (try (refine gate_guard (by rfl) ?_; dsimp only)); refine box_event ?hg (N := 3) ?hd (cs := #[.slice A0_0 l0_0.length c0_0, .slice A0_1 l0_1.length c0_1]) (t := 25) ?hr ?_; (case hd => rfl); (case hg => rfl); (case hr => first | (go_simp; done) | (go_simp; rfl)); intro gb224 hg w33 hbox hb; have BK224 := Aside0.mk (hbox); have GW224 := Aside0.mk (gw_ hg (mb_ HB.out)); have GE224 := Aside0.mk (gw_ hg (mb_ HB.out)); replace HB := Aside0.mk (below_step (mb_ HB.out) hb); clear hb hbox hg) | ((with_reducible refine gate_dst (N := 4) rfl ?_); (try (refine gate_guard (by rfl) ?_; dsimp only)); refine box_event ?hg (N := 4) ?hd (cs := #[.slice A1_0 l1_0.length c1_0, .slice A1_1 l1_1.length c1_1]) (t := 25) ?hr ?_; (case hd => rfl); (case hg => rfl); (case hr => first | (go_simp; done) | (go_simp; rfl)); intro gb225 hg w34 hbox hb; have BK225 := Aside0.mk (hbox); have GW225 := Aside0.mk (gw_ hg (mbs_ HB.out)); have GE225 := Aside0.mk (gw_ hg (mbs_ HB.out)); replace HB := Aside0.mk (below_step (mbs_ HB.out) hb); have NB224_225 := Aside0.mk (nb_ hg (bk_ BK224.out)); have NB225_224 := Aside0.mk (nc_ hg (bk_ BK224.out)); replace BK224 := Aside0.mk (blk_below (bk_ BK224.out) hb); clear hb hbox hg) | ((with_reducible refine gate_dst (N := 5) rfl ?_); (try (refine gate_guard (by rfl) ?_; dsimp only)); refine box_event ?hg (N := 5) ?hd (cs := #[.slice A2_0 l2_0.length c2_0, .slice A2_1 l2_1.length c2_1]) (t := 27) ?hr ?_; (case hd => rfl); (case hg => rfl); (case hr => first | (go_simp; done) | (go_simp; rfl)); intro gb226 hg w35 hbox hb; have BK226 := Aside0.mk (hbox); have GW226 := Aside0.mk (gw_ hg (mbs_ HB.out)); have GE226 := Aside0.mk (gw_ hg (mbs_ HB.out)); replace HB := Aside0.mk (below_step (mbs_ HB.out) hb); have NB224_226 := Aside0.mk (nb_ hg (bk_ BK224.out)); have NB226_224 := Aside0.mk (nc_ hg (bk_ BK224.out)); replace BK224 := Aside0.mk (blk_below (bk_ BK224.out) hb); have NB225_226 := Aside0.mk (nb_ hg (bk_ BK225.out)); have NB226_225 := Aside0.mk (nc_ hg (bk_ BK225.out)); replace BK225 := Aside0.mk (blk_below (bk_ BK225.out) hb); clear hb hbox hg; have hnb36 := NB224_225.out; have hnc36 := NB225_224.out; have hnb37 := NB224_226.out; have hnc37 := NB226_224.out; have hcz38_0 := bc0_ BK224.out; have hcz38_1 := bc1_ BK224.out; have hfz38_0 := blk_frozen BK224.out 0; have hfz38_1 := blk_frozen BK224.out 1; have hnb39 := NB225_226.out; have hnc39 := NB226_225.out; have hcz40_0 := bc0_ BK225.out; have hcz40_1 := bc1_ BK225.out; have hfz40_0 := blk_frozen BK225.out 0; have hfz40_1 := blk_frozen BK225.out 1; have hcz41_0 := bc0_ BK226.out; have hcz41_1 := bc1_ BK226.out; have hfz41_0 := blk_frozen BK226.out 0; have hfz41_1 := blk_frozen BK226.out 1) | ((with_reducible refine gate_callee (f := 14) rfl ?_); refine goesL_ (some 10) rfl rfl Try.func14 (by kernel_rfl) rfl #[.agg #[.slice A0_0 l0_0.length c0_0, .slice A0_1 l0_1.length c0_1], .agg #[.slice A1_0 l1_0.length c1_0, .slice A1_1 l1_1.length c1_1], .agg #[.slice A2_0 l2_0.length c2_0, .slice A2_1 l2_1.length c2_1]] rfl (by (try simp only [List.map_toArray, List.map_cons, List.map_nil]); first | done | rfl | (simp only [List.length_drop, List.length_take]; rfl)) ?_; (with_reducible refine (scarfjointref06_Valid.calls k _ _ l0_0 _ _ l0_1 _ _ l1_0 _ _ l1_1 _ _ l2_0 _ _ l2_1 t227 _ ?side1 ?side2 ?side3 ?side4 ?side5 ?side6 ?side7 ?side8 ?side9 ?side10 ?side11 ?side12 A4.out).mono ?_); (case side1 => exact mc_ (Kd.C_below HR0_0.out HB.out)); (case side2 => exact HC0_0.out); (case side3 => exact mc_ (Kd.C_below HR0_1.out HB.out)); (case side4 => exact HC0_1.out); (case side5 => exact mc_ (Kd.C_below HR1_0.out HB.out)); (case side6 => exact HC1_0.out); (case side7 => exact mc_ (Kd.C_below HR1_1.out HB.out)); (case side8 => exact HC1_1.out); (case side9 => exact mc_ (Kd.C_below HR2_0.out HB.out)); (case side10 => exact HC2_0.out); (case side11 => exact mc_ (Kd.C_below HR2_1.out HB.out)); (case side12 => exact HC2_1.out); rintro e w42 ⟨rfl, hb⟩; refine ⟨_, rfl, ?_⟩; replace BK224 := Aside0.mk (blk_below (bk_ BK224.out) hb); replace BK225 := Aside0.mk (blk_below (bk_ BK225.out) hb); replace BK226 := Aside0.mk (blk_below (bk_ BK226.out) hb); replace HB := Aside0.mk (below_step (mbs_ HB.out) hb); (try clear hb); (try clear hb2); (try clear hk); (try clear hi)))
  go_ret
  exact ⟨by first | rfl | (simp [errW_none, errW_some] <;> rfl) | (simp [*, errW_none, errW_some] <;> rfl), mbs_ HB.out⟩

end Go.Proofs.Ytklacpdobpkbbaa.P
