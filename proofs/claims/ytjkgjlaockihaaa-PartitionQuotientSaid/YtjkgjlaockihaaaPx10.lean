-- Written by wip/drive.py of this session's repo over the kit's print.py (with contracts of the session's own): not the print's own text
import Derived.Test.YtjkgjlaockihaaaPx0
import Derived.Test.YtjkgjlaockihaaaPx3
import Derived.Test.YtjkgjlaockihaaaPx4
import Derived.Test.YtjkgjlaockihaaaPx6
import Derived.Test.YtjkgjlaockihaaaPx9
namespace Go.Proofs.Ytjkgjlaockihaaa.P
open Go.RowKit Go.Proofs.YtjkgjlaockihaaaW.PrintWords Go.Proofs.YtjkgjlaockihaaaW.PrintLast Go.Proofs.YtjkgjlaockihaaaW.PrintMore
attribute [local go_sem] max2_int min2_int max_two min_two max_three min_three max_four min_four   -- for this text's walks alone
set_option linter.unusedVariables false
set_option linter.unusedSimpArgs false

/-! ### scarfjointlaw02_PartitionQuotient: function 7 -/
mutual
def scarfjointlaw02_PartitionQuotient.j0 : Nat → List Int → List Int → List (List Int) → Bool → Option (Bool)
  | 0, _, _, _, _ => none
  | k + 1, x3, x4, x7, x47 => if x47 = true then (some false) else (scarfjointlaw02_PartitionQuotient.l0 k x3 x4 0 x7 (x7.length : Int) 0)
def scarfjointlaw02_PartitionQuotient.l0 : Nat → List Int → List Int → Int → List (List Int) → Int → Int → Option (Bool)
  | 0, _, _, _, _, _, _ => none
  | k + 1, x3, x4, x9, x48, x49, x50 => if x50 < x49 then (if 0 ≤ x50 then (if x50 < (x48.length : Int) then (scarfjointlaw02_PartitionQuotient.l1 k x3 x4 x9 x50 (rd_L2 x48 x50) x48 x49 x50 (rd_L2 x48 x50) ((rd_L2 x48 x50).length : Int) 0) else (none)) else (none)) else (some (x9 == (x3.length : Int)))
def scarfjointlaw02_PartitionQuotient.l1 : Nat → List Int → List Int → Int → Int → List Int → List (List Int) → Int → Int → List Int → Int → Int → Option (Bool)
  | 0, _, _, _, _, _, _, _, _, _, _, _ => none
  | k + 1, x3, x4, x9, x10, x11, x48, x49, x50, x55, x56, x57 => if x57 < x56 then (if 0 ≤ x57 then (if x57 < (x55.length : Int) then (if (rd x55 x57) < 0 then (some false) else (if (rd x55 x57) ≥ (x4.length : Int) then (some false) else (if 0 ≤ (rd x55 x57) then (if (rd x55 x57) < (x4.length : Int) then (if (rd x4 (rd x55 x57)) = x10 then (if (rd x55 x57) < (x3.length : Int) then (if 0 < (x11.length : Int) then (if (rd x3 (rd x55 x57)) = (rd x11 0) then (scarfjointlaw02_PartitionQuotient.l1 k x3 x4 (wrap64 (x9 + 1)) x10 x11 x48 x49 x50 x55 x56 (wrap64 (x57 + 1))) else (some false)) else (none)) else (none)) else (some false)) else (none)) else (none)))) else (none)) else (none)) else (scarfjointlaw02_PartitionQuotient.l0 k x3 x4 x9 x48 x49 (wrap64 (x50 + 1)))
end
def scarfjointlaw02_PartitionQuotient.f (k : Nat) (l0 : List Int) : Option (Bool) := (scarfjointlaw02_awake.f k).bind fun t432 => (if t432 = true then ((scarfjointref02_Made.f k l0).bind fun t433 => ((partition_Quotient.f k t433).bind fun bt436 => ((partition_Classes.f k t433).bind fun bt441 => (if bt436.2.2 = 0 then (if bt441.2 = 0 then (if (bt436.1.length : Int) = (t433.length : Int) then (scarfjointlaw02_PartitionQuotient.j0 k t433 bt436.1 bt441.1 ((bt441.1.length : Int) != bt436.2.1)) else (scarfjointlaw02_PartitionQuotient.j0 k t433 bt436.1 bt441.1 true)) else (scarfjointlaw02_PartitionQuotient.j0 k t433 bt436.1 bt441.1 true)) else (scarfjointlaw02_PartitionQuotient.j0 k t433 bt436.1 bt441.1 true))))) else (some false))
theorem scarfjointlaw02_PartitionQuotient.mono_l : ∀ k, (∀ y0 y1 y2 y3, LeO (scarfjointlaw02_PartitionQuotient.j0 k y0 y1 y2 y3) (scarfjointlaw02_PartitionQuotient.j0 (k + 1) y0 y1 y2 y3)) ∧ (∀ y0 y1 y2 y3 y4 y5, LeO (scarfjointlaw02_PartitionQuotient.l0 k y0 y1 y2 y3 y4 y5) (scarfjointlaw02_PartitionQuotient.l0 (k + 1) y0 y1 y2 y3 y4 y5)) ∧ (∀ y0 y1 y2 y3 y4 y5 y6 y7 y8 y9 y10, LeO (scarfjointlaw02_PartitionQuotient.l1 k y0 y1 y2 y3 y4 y5 y6 y7 y8 y9 y10) (scarfjointlaw02_PartitionQuotient.l1 (k + 1) y0 y1 y2 y3 y4 y5 y6 y7 y8 y9 y10))
  | 0 => ⟨fun _ _ _ _ r h => by simp [scarfjointlaw02_PartitionQuotient.j0] at h, fun _ _ _ _ _ _ r h => by simp [scarfjointlaw02_PartitionQuotient.l0] at h, fun _ _ _ _ _ _ _ _ _ _ _ r h => by simp [scarfjointlaw02_PartitionQuotient.l1] at h⟩
  | k + 1 => by
    obtain ⟨ih0, ih1, ih2⟩ := scarfjointlaw02_PartitionQuotient.mono_l k
    refine ⟨?_, ?_, ?_⟩
    · intro y0 y1 y2 y3
      unfold scarfjointlaw02_PartitionQuotient.j0
      repeat' first
      | (with_reducible exact ih0 _ _ _ _)
      | (with_reducible exact ih1 _ _ _ _ _ _)
      | (with_reducible exact ih2 _ _ _ _ _ _ _ _ _ _ _)
      | (with_reducible exact partition_Classes.mono _ _)
      | (with_reducible exact partition_Quotient.mono _ _)
      | (with_reducible exact scarfjointlaw02_awake.mono _)
      | (with_reducible exact scarfjointref02_Made.mono _ _)
      | (with_reducible exact LeO.refl _)
      | (with_reducible exact LeO.none _)
      | (with_reducible refine LeO.ite ?_ ?_)
      | (with_reducible refine LeO.bind ?_ (fun _ => ?_))
      | exact ih0 _ _ _ _
      | exact ih1 _ _ _ _ _ _
      | exact ih2 _ _ _ _ _ _ _ _ _ _ _
      | exact partition_Classes.mono _ _
      | exact partition_Quotient.mono _ _
      | exact scarfjointlaw02_awake.mono _
      | exact scarfjointref02_Made.mono _ _
      | exact LeO.none _
      | refine LeO.ite ?_ ?_
      | refine LeO.bind ?_ (fun _ => ?_)
    · intro y0 y1 y2 y3 y4 y5
      unfold scarfjointlaw02_PartitionQuotient.l0
      repeat' first
      | (with_reducible exact ih0 _ _ _ _)
      | (with_reducible exact ih1 _ _ _ _ _ _)
      | (with_reducible exact ih2 _ _ _ _ _ _ _ _ _ _ _)
      | (with_reducible exact partition_Classes.mono _ _)
      | (with_reducible exact partition_Quotient.mono _ _)
      | (with_reducible exact scarfjointlaw02_awake.mono _)
      | (with_reducible exact scarfjointref02_Made.mono _ _)
      | (with_reducible exact LeO.refl _)
      | (with_reducible exact LeO.none _)
      | (with_reducible refine LeO.ite ?_ ?_)
      | (with_reducible refine LeO.bind ?_ (fun _ => ?_))
      | exact ih0 _ _ _ _
      | exact ih1 _ _ _ _ _ _
      | exact ih2 _ _ _ _ _ _ _ _ _ _ _
      | exact partition_Classes.mono _ _
      | exact partition_Quotient.mono _ _
      | exact scarfjointlaw02_awake.mono _
      | exact scarfjointref02_Made.mono _ _
      | exact LeO.none _
      | refine LeO.ite ?_ ?_
      | refine LeO.bind ?_ (fun _ => ?_)
    · intro y0 y1 y2 y3 y4 y5 y6 y7 y8 y9 y10
      unfold scarfjointlaw02_PartitionQuotient.l1
      repeat' first
      | (with_reducible exact ih0 _ _ _ _)
      | (with_reducible exact ih1 _ _ _ _ _ _)
      | (with_reducible exact ih2 _ _ _ _ _ _ _ _ _ _ _)
      | (with_reducible exact partition_Classes.mono _ _)
      | (with_reducible exact partition_Quotient.mono _ _)
      | (with_reducible exact scarfjointlaw02_awake.mono _)
      | (with_reducible exact scarfjointref02_Made.mono _ _)
      | (with_reducible exact LeO.refl _)
      | (with_reducible exact LeO.none _)
      | (with_reducible refine LeO.ite ?_ ?_)
      | (with_reducible refine LeO.bind ?_ (fun _ => ?_))
      | exact ih0 _ _ _ _
      | exact ih1 _ _ _ _ _ _
      | exact ih2 _ _ _ _ _ _ _ _ _ _ _
      | exact partition_Classes.mono _ _
      | exact partition_Quotient.mono _ _
      | exact scarfjointlaw02_awake.mono _
      | exact scarfjointref02_Made.mono _ _
      | exact LeO.none _
      | refine LeO.ite ?_ ?_
      | refine LeO.bind ?_ (fun _ => ?_)
theorem scarfjointlaw02_PartitionQuotient.mono : ∀ a0 k, LeO (scarfjointlaw02_PartitionQuotient.f k a0) (scarfjointlaw02_PartitionQuotient.f (k + 1) a0) := by
  intro a0 k
  obtain ⟨ih0, ih1, ih2⟩ := scarfjointlaw02_PartitionQuotient.mono_l k
  unfold scarfjointlaw02_PartitionQuotient.f
  repeat' first
      | (with_reducible exact ih0 _ _ _ _)
      | (with_reducible exact ih1 _ _ _ _ _ _)
      | (with_reducible exact ih2 _ _ _ _ _ _ _ _ _ _ _)
      | (with_reducible exact partition_Classes.mono _ _)
      | (with_reducible exact partition_Quotient.mono _ _)
      | (with_reducible exact scarfjointlaw02_awake.mono _)
      | (with_reducible exact scarfjointref02_Made.mono _ _)
      | (with_reducible exact LeO.refl _)
      | (with_reducible exact LeO.none _)
      | (with_reducible refine LeO.ite ?_ ?_)
      | (with_reducible refine LeO.bind ?_ (fun _ => ?_))
      | exact ih0 _ _ _ _
      | exact ih1 _ _ _ _ _ _
      | exact ih2 _ _ _ _ _ _ _ _ _ _ _
      | exact partition_Classes.mono _ _
      | exact partition_Quotient.mono _ _
      | exact scarfjointlaw02_awake.mono _
      | exact scarfjointref02_Made.mono _ _
      | exact LeO.none _
      | refine LeO.ite ?_ ?_
      | refine LeO.bind ?_ (fun _ => ?_)
set_option maxHeartbeats 8000000 in
set_option maxRecDepth 100000 in
theorem scarfjointlaw02_PartitionQuotient.calls (k : Nat) (A0 : Option Addr) (c0 : Nat) (l0 : List Int) (r : Bool) (w : World) (hr0 : Kd.C (Kd.int .u8) w A0 l0.length l0) (hc0 : l0.length ≤ c0) (h : scarfjointlaw02_PartitionQuotient.f k l0 = some r) :
    Calls Try.prog 7 #[.slice A0 l0.length c0] w fun e w' => e = .returned (.bool r) ∧ Below w.heap.size w w' := by
  have HR0 := Aside0.mk hr0
  have HC0 := Aside0.mk hc0
  clear hr0 hc0
  have HB := Aside0.mk (Below.refl w.heap.size w)
  have H : ((scarfjointlaw02_awake.f k).bind fun t432 => (if t432 = true then ((scarfjointref02_Made.f k l0).bind fun t433 => ((partition_Quotient.f k t433).bind fun bt436 => ((partition_Classes.f k t433).bind fun bt441 => (if bt436.2.2 = 0 then (if bt441.2 = 0 then (if (bt436.1.length : Int) = (t433.length : Int) then (scarfjointlaw02_PartitionQuotient.j0 k t433 bt436.1 bt441.1 ((bt441.1.length : Int) != bt436.2.1)) else (scarfjointlaw02_PartitionQuotient.j0 k t433 bt436.1 bt441.1 true)) else (scarfjointlaw02_PartitionQuotient.j0 k t433 bt436.1 bt441.1 true)) else (scarfjointlaw02_PartitionQuotient.j0 k t433 bt436.1 bt441.1 true))))) else (some false))) = some r := h
  clear h
  replace H := Option.bind_eq_some_iff.mp H
  obtain ⟨t432, A20, H⟩ := H
  replace H : (if t432 = true then ((scarfjointref02_Made.f k l0).bind fun t433 => ((partition_Quotient.f k t433).bind fun bt436 => ((partition_Classes.f k t433).bind fun bt441 => (if bt436.2.2 = 0 then (if bt441.2 = 0 then (if (bt436.1.length : Int) = (t433.length : Int) then (scarfjointlaw02_PartitionQuotient.j0 k t433 bt436.1 bt441.1 ((bt441.1.length : Int) != bt436.2.1)) else (scarfjointlaw02_PartitionQuotient.j0 k t433 bt436.1 bt441.1 true)) else (scarfjointlaw02_PartitionQuotient.j0 k t433 bt436.1 bt441.1 true)) else (scarfjointlaw02_PartitionQuotient.j0 k t433 bt436.1 bt441.1 true))))) else (some false)) = some r := H
  have A2 := Aside0.mk A20
  clear A20
  by_cases c3 : t432 = true
  · subst c3
    have H1 : ((scarfjointref02_Made.f k l0).bind fun t433 => ((partition_Quotient.f k t433).bind fun bt436 => ((partition_Classes.f k t433).bind fun bt441 => (if bt436.2.2 = 0 then (if bt441.2 = 0 then (if (bt436.1.length : Int) = (t433.length : Int) then (scarfjointlaw02_PartitionQuotient.j0 k t433 bt436.1 bt441.1 ((bt441.1.length : Int) != bt436.2.1)) else (scarfjointlaw02_PartitionQuotient.j0 k t433 bt436.1 bt441.1 true)) else (scarfjointlaw02_PartitionQuotient.j0 k t433 bt436.1 bt441.1 true)) else (scarfjointlaw02_PartitionQuotient.j0 k t433 bt436.1 bt441.1 true))))) = some r := by rw [if_pos rfl] at H; exact H
    clear H
    have H := H1
    clear H1
    replace H := Option.bind_eq_some_iff.mp H
    obtain ⟨t433, A40, H⟩ := H
    replace H : ((partition_Quotient.f k t433).bind fun bt436 => ((partition_Classes.f k t433).bind fun bt441 => (if bt436.2.2 = 0 then (if bt441.2 = 0 then (if (bt436.1.length : Int) = (t433.length : Int) then (scarfjointlaw02_PartitionQuotient.j0 k t433 bt436.1 bt441.1 ((bt441.1.length : Int) != bt436.2.1)) else (scarfjointlaw02_PartitionQuotient.j0 k t433 bt436.1 bt441.1 true)) else (scarfjointlaw02_PartitionQuotient.j0 k t433 bt436.1 bt441.1 true)) else (scarfjointlaw02_PartitionQuotient.j0 k t433 bt436.1 bt441.1 true)))) = some r := H
    have A4 := Aside0.mk A40
    clear A40
    replace H := Option.bind_eq_some_iff.mp H
    obtain ⟨⟨t436, t437, t438⟩, A50, H⟩ := H
    replace H : ((partition_Classes.f k t433).bind fun bt441 => (if t438 = 0 then (if bt441.2 = 0 then (if (t436.length : Int) = (t433.length : Int) then (scarfjointlaw02_PartitionQuotient.j0 k t433 t436 bt441.1 ((bt441.1.length : Int) != t437)) else (scarfjointlaw02_PartitionQuotient.j0 k t433 t436 bt441.1 true)) else (scarfjointlaw02_PartitionQuotient.j0 k t433 t436 bt441.1 true)) else (scarfjointlaw02_PartitionQuotient.j0 k t433 t436 bt441.1 true))) = some r := H
    have A5 := Aside0.mk A50
    clear A50
    replace H := Option.bind_eq_some_iff.mp H
    obtain ⟨⟨t441, t442⟩, A60, H⟩ := H
    replace H : (if t438 = 0 then (if t442 = 0 then (if (t436.length : Int) = (t433.length : Int) then (scarfjointlaw02_PartitionQuotient.j0 k t433 t436 t441 ((t441.length : Int) != t437)) else (scarfjointlaw02_PartitionQuotient.j0 k t433 t436 t441 true)) else (scarfjointlaw02_PartitionQuotient.j0 k t433 t436 t441 true)) else (scarfjointlaw02_PartitionQuotient.j0 k t433 t436 t441 true)) = some r := H
    have A6 := Aside0.mk A60
    clear A60
    have HC7 := Aside0.mk H
    clear H
    go_enter Try.func7, Try.ntmps7
    go_upto_region 6 with (first | (go_at_call 10; (with_reducible refine (scarfjointlaw02_awake.calls k  true _ A2.out).mono ?_); rintro e w8 ⟨rfl, hb⟩; have n0_ := Aside0.mk (below_step (by repeat (first | (with_reducible first | exact HB.out | apply below_alloc | apply pw_below_drewN | apply below_drew1) | exact HB.out)) hb); clear HB; have HB := n0_; clear n0_; (try clear hb); (try clear hb2); (try clear hk); (try clear hi)) | (go_at_call 21; (with_reducible refine (scarfjointref02_Made.calls k _ _ l0 t433 _ ?side1 ?side2 A4.out).mono ?_); (case side1 => repeat (first | exact (Kd.C_below HR0.out HB.out) | (with_reducible refine Kd.C_alloc ?_ _) | (with_reducible refine Kd.C_drewN ?_ _) | (with_reducible refine Kd.C_drew ?_))); (case side2 => exact HC0.out); rintro e w9 ⟨v434, rfl, ho0, hb⟩; have n0_ := Aside0.mk (Kd.R_lower ho0 (below_size (by repeat (first | (with_reducible first | exact HB.out | apply below_alloc | apply pw_below_drewN | apply below_drew1) | exact HB.out)))); have n1_ := Aside0.mk (below_step (by repeat (first | (with_reducible first | exact HB.out | apply below_alloc | apply pw_below_drewN | apply below_drew1) | exact HB.out)) hb); clear HB; have HO435 := n0_; have HB := n1_; clear n0_ n1_; (try clear hb); (try clear hb2); (try clear hk); (try clear hi); (try clear ho0); obtain ⟨Ao10, co10, eo10⟩ := Kd.R_slice HO435.out; subst eo10) | (go_at_call 22; (with_reducible refine (partition_Quotient.calls k _ _ t433 t436 t437 t438 _ ?side1 ?side2 A5.out).mono ?_); (case side1 => repeat (first | exact (Kd.R_reads' HO435.out).2.2 | (with_reducible refine Kd.C_alloc ?_ _) | (with_reducible refine Kd.C_drewN ?_ _) | (with_reducible refine Kd.C_drew ?_))); (case side2 => exact (Kd.R_reads' HO435.out).2.1); rintro e w11 ⟨v439, rfl, ho0, hb⟩; have n0_ := Aside0.mk (Kd.R_elder' (by (with_reducible repeat (first | apply Kd.R_alloc | apply Kd.R_drewN | apply Kd.R_drew)); exact HO435.out) (Kd.R_base ho0) hb); have n1_ := Aside0.mk (Kd.R_lower (Kd.R_new' ho0 (Kd.R_lt (by (with_reducible repeat (first | apply Kd.R_alloc | apply Kd.R_drewN | apply Kd.R_drew)); exact HO435.out))) (below_size (by repeat (first | (with_reducible first | exact HB.out | apply below_alloc | apply pw_below_drewN | apply below_drew1) | exact HB.out)))); have n2_ := Aside0.mk (below_step (by repeat (first | (with_reducible first | exact HB.out | apply below_alloc | apply pw_below_drewN | apply below_drew1) | exact HB.out)) hb); clear HO435; clear HB; have HO435 := n0_; have HO440 := n1_; have HB := n2_; clear n0_ n1_ n2_; (try clear hb); (try clear hb2); (try clear hk); (try clear hi); (try clear ho0)) | (go_at_call 23; (with_reducible refine (partition_Classes.calls k _ _ t433 t441 t442 _ ?side1 ?side2 A6.out).mono ?_); (case side1 => repeat (first | exact (Kd.R_reads' HO435.out).2.2 | (with_reducible refine Kd.C_alloc ?_ _) | (with_reducible refine Kd.C_drewN ?_ _) | (with_reducible refine Kd.C_drew ?_))); (case side2 => exact (Kd.R_reads' HO435.out).2.1); rintro e w12 ⟨v443, rfl, ho0, hb⟩; have n0_ := Aside0.mk (Kd.R_below (by (with_reducible repeat (first | apply Kd.R_alloc | apply Kd.R_drewN | apply Kd.R_drew)); exact HO435.out) hb); have n1_ := Aside0.mk (Kd.R_below (by (with_reducible repeat (first | apply Kd.R_alloc | apply Kd.R_drewN | apply Kd.R_drew)); exact HO440.out) hb); have n2_ := Aside0.mk (Kd.S_lower (Kd.S_new' (Kd.S_new' ho0 (Kd.R_lt (by (with_reducible repeat (first | apply Kd.R_alloc | apply Kd.R_drewN | apply Kd.R_drew)); exact HO435.out))) (Kd.R_lt (by (with_reducible repeat (first | apply Kd.R_alloc | apply Kd.R_drewN | apply Kd.R_drew)); exact HO440.out))) (below_size (by repeat (first | (with_reducible first | exact HB.out | apply below_alloc | apply pw_below_drewN | apply below_drew1) | exact HB.out)))); have n3_ := Aside0.mk (below_step (by repeat (first | (with_reducible first | exact HB.out | apply below_alloc | apply pw_below_drewN | apply below_drew1) | exact HB.out)) hb); clear HO435; clear HO440; clear HB; have HO435 := n0_; have HO440 := n1_; have HO444 := n2_; have HB := n3_; clear n0_ n1_ n2_ n3_; (try clear hb); (try clear hb2); (try clear hk); (try clear hi); (try clear ho0)))
    repeat (go_quiet (first | (go_at_call 10; (with_reducible refine (scarfjointlaw02_awake.calls k  true _ A2.out).mono ?_); rintro e w8 ⟨rfl, hb⟩; have n0_ := Aside0.mk (below_step (by repeat (first | (with_reducible first | exact HB.out | apply below_alloc | apply pw_below_drewN | apply below_drew1) | exact HB.out)) hb); clear HB; have HB := n0_; clear n0_; (try clear hb); (try clear hb2); (try clear hk); (try clear hi)) | (go_at_call 21; (with_reducible refine (scarfjointref02_Made.calls k _ _ l0 t433 _ ?side1 ?side2 A4.out).mono ?_); (case side1 => repeat (first | exact (Kd.C_below HR0.out HB.out) | (with_reducible refine Kd.C_alloc ?_ _) | (with_reducible refine Kd.C_drewN ?_ _) | (with_reducible refine Kd.C_drew ?_))); (case side2 => exact HC0.out); rintro e w9 ⟨v434, rfl, ho0, hb⟩; have n0_ := Aside0.mk (Kd.R_lower ho0 (below_size (by repeat (first | (with_reducible first | exact HB.out | apply below_alloc | apply pw_below_drewN | apply below_drew1) | exact HB.out)))); have n1_ := Aside0.mk (below_step (by repeat (first | (with_reducible first | exact HB.out | apply below_alloc | apply pw_below_drewN | apply below_drew1) | exact HB.out)) hb); clear HB; have HO435 := n0_; have HB := n1_; clear n0_ n1_; (try clear hb); (try clear hb2); (try clear hk); (try clear hi); (try clear ho0); obtain ⟨Ao10, co10, eo10⟩ := Kd.R_slice HO435.out; subst eo10) | (go_at_call 22; (with_reducible refine (partition_Quotient.calls k _ _ t433 t436 t437 t438 _ ?side1 ?side2 A5.out).mono ?_); (case side1 => repeat (first | exact (Kd.R_reads' HO435.out).2.2 | (with_reducible refine Kd.C_alloc ?_ _) | (with_reducible refine Kd.C_drewN ?_ _) | (with_reducible refine Kd.C_drew ?_))); (case side2 => exact (Kd.R_reads' HO435.out).2.1); rintro e w11 ⟨v439, rfl, ho0, hb⟩; have n0_ := Aside0.mk (Kd.R_elder' (by (with_reducible repeat (first | apply Kd.R_alloc | apply Kd.R_drewN | apply Kd.R_drew)); exact HO435.out) (Kd.R_base ho0) hb); have n1_ := Aside0.mk (Kd.R_lower (Kd.R_new' ho0 (Kd.R_lt (by (with_reducible repeat (first | apply Kd.R_alloc | apply Kd.R_drewN | apply Kd.R_drew)); exact HO435.out))) (below_size (by repeat (first | (with_reducible first | exact HB.out | apply below_alloc | apply pw_below_drewN | apply below_drew1) | exact HB.out)))); have n2_ := Aside0.mk (below_step (by repeat (first | (with_reducible first | exact HB.out | apply below_alloc | apply pw_below_drewN | apply below_drew1) | exact HB.out)) hb); clear HO435; clear HB; have HO435 := n0_; have HO440 := n1_; have HB := n2_; clear n0_ n1_ n2_; (try clear hb); (try clear hb2); (try clear hk); (try clear hi); (try clear ho0)) | (go_at_call 23; (with_reducible refine (partition_Classes.calls k _ _ t433 t441 t442 _ ?side1 ?side2 A6.out).mono ?_); (case side1 => repeat (first | exact (Kd.R_reads' HO435.out).2.2 | (with_reducible refine Kd.C_alloc ?_ _) | (with_reducible refine Kd.C_drewN ?_ _) | (with_reducible refine Kd.C_drew ?_))); (case side2 => exact (Kd.R_reads' HO435.out).2.1); rintro e w12 ⟨v443, rfl, ho0, hb⟩; have n0_ := Aside0.mk (Kd.R_below (by (with_reducible repeat (first | apply Kd.R_alloc | apply Kd.R_drewN | apply Kd.R_drew)); exact HO435.out) hb); have n1_ := Aside0.mk (Kd.R_below (by (with_reducible repeat (first | apply Kd.R_alloc | apply Kd.R_drewN | apply Kd.R_drew)); exact HO440.out) hb); have n2_ := Aside0.mk (Kd.S_lower (Kd.S_new' (Kd.S_new' ho0 (Kd.R_lt (by (with_reducible repeat (first | apply Kd.R_alloc | apply Kd.R_drewN | apply Kd.R_drew)); exact HO435.out))) (Kd.R_lt (by (with_reducible repeat (first | apply Kd.R_alloc | apply Kd.R_drewN | apply Kd.R_drew)); exact HO440.out))) (below_size (by repeat (first | (with_reducible first | exact HB.out | apply below_alloc | apply pw_below_drewN | apply below_drew1) | exact HB.out)))); have n3_ := Aside0.mk (below_step (by repeat (first | (with_reducible first | exact HB.out | apply below_alloc | apply pw_below_drewN | apply below_drew1) | exact HB.out)) hb); clear HO435; clear HO440; clear HB; have HO435 := n0_; have HO440 := n1_; have HO444 := n2_; have HB := n3_; clear n0_ n1_ n2_ n3_; (try clear hb); (try clear hb2); (try clear hk); (try clear hi); (try clear ho0))); go_upto_region 6 with (first | (go_at_call 10; (with_reducible refine (scarfjointlaw02_awake.calls k  true _ A2.out).mono ?_); rintro e w8 ⟨rfl, hb⟩; have n0_ := Aside0.mk (below_step (by repeat (first | (with_reducible first | exact HB.out | apply below_alloc | apply pw_below_drewN | apply below_drew1) | exact HB.out)) hb); clear HB; have HB := n0_; clear n0_; (try clear hb); (try clear hb2); (try clear hk); (try clear hi)) | (go_at_call 21; (with_reducible refine (scarfjointref02_Made.calls k _ _ l0 t433 _ ?side1 ?side2 A4.out).mono ?_); (case side1 => repeat (first | exact (Kd.C_below HR0.out HB.out) | (with_reducible refine Kd.C_alloc ?_ _) | (with_reducible refine Kd.C_drewN ?_ _) | (with_reducible refine Kd.C_drew ?_))); (case side2 => exact HC0.out); rintro e w9 ⟨v434, rfl, ho0, hb⟩; have n0_ := Aside0.mk (Kd.R_lower ho0 (below_size (by repeat (first | (with_reducible first | exact HB.out | apply below_alloc | apply pw_below_drewN | apply below_drew1) | exact HB.out)))); have n1_ := Aside0.mk (below_step (by repeat (first | (with_reducible first | exact HB.out | apply below_alloc | apply pw_below_drewN | apply below_drew1) | exact HB.out)) hb); clear HB; have HO435 := n0_; have HB := n1_; clear n0_ n1_; (try clear hb); (try clear hb2); (try clear hk); (try clear hi); (try clear ho0); obtain ⟨Ao10, co10, eo10⟩ := Kd.R_slice HO435.out; subst eo10) | (go_at_call 22; (with_reducible refine (partition_Quotient.calls k _ _ t433 t436 t437 t438 _ ?side1 ?side2 A5.out).mono ?_); (case side1 => repeat (first | exact (Kd.R_reads' HO435.out).2.2 | (with_reducible refine Kd.C_alloc ?_ _) | (with_reducible refine Kd.C_drewN ?_ _) | (with_reducible refine Kd.C_drew ?_))); (case side2 => exact (Kd.R_reads' HO435.out).2.1); rintro e w11 ⟨v439, rfl, ho0, hb⟩; have n0_ := Aside0.mk (Kd.R_elder' (by (with_reducible repeat (first | apply Kd.R_alloc | apply Kd.R_drewN | apply Kd.R_drew)); exact HO435.out) (Kd.R_base ho0) hb); have n1_ := Aside0.mk (Kd.R_lower (Kd.R_new' ho0 (Kd.R_lt (by (with_reducible repeat (first | apply Kd.R_alloc | apply Kd.R_drewN | apply Kd.R_drew)); exact HO435.out))) (below_size (by repeat (first | (with_reducible first | exact HB.out | apply below_alloc | apply pw_below_drewN | apply below_drew1) | exact HB.out)))); have n2_ := Aside0.mk (below_step (by repeat (first | (with_reducible first | exact HB.out | apply below_alloc | apply pw_below_drewN | apply below_drew1) | exact HB.out)) hb); clear HO435; clear HB; have HO435 := n0_; have HO440 := n1_; have HB := n2_; clear n0_ n1_ n2_; (try clear hb); (try clear hb2); (try clear hk); (try clear hi); (try clear ho0)) | (go_at_call 23; (with_reducible refine (partition_Classes.calls k _ _ t433 t441 t442 _ ?side1 ?side2 A6.out).mono ?_); (case side1 => repeat (first | exact (Kd.R_reads' HO435.out).2.2 | (with_reducible refine Kd.C_alloc ?_ _) | (with_reducible refine Kd.C_drewN ?_ _) | (with_reducible refine Kd.C_drew ?_))); (case side2 => exact (Kd.R_reads' HO435.out).2.1); rintro e w12 ⟨v443, rfl, ho0, hb⟩; have n0_ := Aside0.mk (Kd.R_below (by (with_reducible repeat (first | apply Kd.R_alloc | apply Kd.R_drewN | apply Kd.R_drew)); exact HO435.out) hb); have n1_ := Aside0.mk (Kd.R_below (by (with_reducible repeat (first | apply Kd.R_alloc | apply Kd.R_drewN | apply Kd.R_drew)); exact HO440.out) hb); have n2_ := Aside0.mk (Kd.S_lower (Kd.S_new' (Kd.S_new' ho0 (Kd.R_lt (by (with_reducible repeat (first | apply Kd.R_alloc | apply Kd.R_drewN | apply Kd.R_drew)); exact HO435.out))) (Kd.R_lt (by (with_reducible repeat (first | apply Kd.R_alloc | apply Kd.R_drewN | apply Kd.R_drew)); exact HO440.out))) (below_size (by repeat (first | (with_reducible first | exact HB.out | apply below_alloc | apply pw_below_drewN | apply below_drew1) | exact HB.out)))); have n3_ := Aside0.mk (below_step (by repeat (first | (with_reducible first | exact HB.out | apply below_alloc | apply pw_below_drewN | apply below_drew1) | exact HB.out)) hb); clear HO435; clear HO440; clear HB; have HO435 := n0_; have HO440 := n1_; have HO444 := n2_; have HB := n3_; clear n0_ n1_ n2_ n3_; (try clear hb); (try clear hb2); (try clear hk); (try clear hi); (try clear ho0))))
    (try simp only [Act.put, List.setIfInBounds_toArray, List.set_cons_zero, List.set_cons_succ])
    go_cut [47] (fun v47 wc => ∃ (kq : Nat) (x47_6 : Bool), v47 = .bool x47_6 ∧ Aside0 (scarfjointlaw02_PartitionQuotient.j0 kq t433 t436 t441 x47_6 = some r) ∧ Aside0 (kq ≤ k) ∧ Aside0 (Kd.R (Kd.int .i64) 3 wc w.heap.size (fun k_ => some k_ ≠ (v439 : Value).ownBlock) (.slice Ao10 t433.length co10) t433) ∧ Aside0 (Kd.R (Kd.int .i64) 3 wc w.heap.size (fun k_ => some k_ ≠ ((.slice Ao10 t433.length co10) : Value).ownBlock) v439 t436) ∧ Aside0 (Kd.S (Kd.slice 3 (Kd.int .i64)) 28 wc w.heap.size (fun k_ => some k_ ≠ ((.slice Ao10 t433.length co10) : Value).ownBlock ∧ some k_ ≠ (v439 : Value).ownBlock) v443 t441) ∧ Aside0 (Below w.heap.size w wc))
    case first =>
      have H := HC7.out
      clear HC7
      by_cases c13 : t438 = 0
      · rw [if_pos c13] at H
        have c13b0 : (t438 == 0) = true := beq_iff_eq.mpr c13
        have c13b1 : (t438 != 0) = false := bne_eq_false_iff_eq.mpr c13
        clear c13
        (first | rw [c13b0] | (simp only [i64_w, i32_w]; rw [c13b0]) | skip)
        by_cases c14 : t442 = 0
        · rw [if_pos c14] at H
          have c14b0 : (t442 == 0) = true := beq_iff_eq.mpr c14
          have c14b1 : (t442 != 0) = false := bne_eq_false_iff_eq.mpr c14
          clear c14
          by_cases c15 : (t436.length : Int) = (t433.length : Int)
          · rw [if_pos c15] at H
            have c15b0 : ((t436.length : Int) == (t433.length : Int)) = true := beq_iff_eq.mpr c15
            have c15b1 : ((t436.length : Int) != (t433.length : Int)) = false := bne_eq_false_iff_eq.mpr c15
            have c15b2 : (t436.length == t433.length) = true := by first | simpa using c15 | (simp at c15 ⊢; omega)
            clear c15
            have H' := Aside0.mk H
            clear H
            obtain ⟨Ao16, co16, eo16⟩ := Kd.R_slice HO440.out
            subst eo16
            obtain ⟨Ao17, co17, eo17⟩ := Kd.S_slice HO444.out
            subst eo17
            go_wp2
            repeat (go_quiet (fail); try go_wp2)
            go_meet
            case rel => exact ⟨_, (((t441.length : Int) != t437)), (by first | rfl | (simp; done) | (simp [*]; done)), H', ⟨by first | omega | exact Nat.le_refl _⟩, ⟨by (with_reducible repeat (first | apply Kd.R_alloc | apply Kd.R_drewN | apply Kd.R_drew)); exact Kd.R_mono HO435.out (fun _ hk => hk.2)⟩, ⟨by (with_reducible repeat (first | apply Kd.R_alloc | apply Kd.R_drewN | apply Kd.R_drew)); exact Kd.R_mono HO440.out (fun _ hk => hk.2)⟩, ⟨by (with_reducible repeat (first | apply Kd.S_alloc | apply Kd.S_drewN | apply Kd.S_drew)); exact Kd.S_mono HO444.out (fun _ hk => ⟨hk.1.2, hk.2⟩)⟩, ⟨by repeat (first | (with_reducible first | exact HB.out | apply below_alloc | apply pw_below_drewN | apply below_drew1) | exact HB.out)⟩⟩
          · rw [if_neg c15] at H
            have c15b0 : ((t436.length : Int) == (t433.length : Int)) = false := beq_eq_false_iff_ne.mpr c15
            have c15b1 : ((t436.length : Int) != (t433.length : Int)) = true := bne_iff_ne.mpr c15
            have c15b2 : (t436.length == t433.length) = false := by first | simpa using c15 | (simp at c15 ⊢; omega)
            have H' := Aside0.mk H
            clear H
            obtain ⟨Ao18, co18, eo18⟩ := Kd.R_slice HO440.out
            subst eo18
            go_wp2
            repeat (go_quiet (fail); try go_wp2)
            go_meet
            case rel => exact ⟨_, (true), (by first | rfl | (simp; done) | (simp [*]; done)), H', ⟨by first | omega | exact Nat.le_refl _⟩, ⟨by (with_reducible repeat (first | apply Kd.R_alloc | apply Kd.R_drewN | apply Kd.R_drew)); exact Kd.R_mono HO435.out (fun _ hk => hk.2)⟩, ⟨by (with_reducible repeat (first | apply Kd.R_alloc | apply Kd.R_drewN | apply Kd.R_drew)); exact Kd.R_mono HO440.out (fun _ hk => hk.2)⟩, ⟨by (with_reducible repeat (first | apply Kd.S_alloc | apply Kd.S_drewN | apply Kd.S_drew)); exact Kd.S_mono HO444.out (fun _ hk => ⟨hk.1.2, hk.2⟩)⟩, ⟨by repeat (first | (with_reducible first | exact HB.out | apply below_alloc | apply pw_below_drewN | apply below_drew1) | exact HB.out)⟩⟩
        · rw [if_neg c14] at H
          have c14b0 : (t442 == 0) = false := beq_eq_false_iff_ne.mpr c14
          have c14b1 : (t442 != 0) = true := bne_iff_ne.mpr c14
          have H' := Aside0.mk H
          clear H
          go_wp2
          repeat (go_quiet (fail); try go_wp2)
          go_meet
          case rel => exact ⟨_, (true), (by first | rfl | (simp; done) | (simp [*]; done)), H', ⟨by first | omega | exact Nat.le_refl _⟩, ⟨by (with_reducible repeat (first | apply Kd.R_alloc | apply Kd.R_drewN | apply Kd.R_drew)); exact Kd.R_mono HO435.out (fun _ hk => hk.2)⟩, ⟨by (with_reducible repeat (first | apply Kd.R_alloc | apply Kd.R_drewN | apply Kd.R_drew)); exact Kd.R_mono HO440.out (fun _ hk => hk.2)⟩, ⟨by (with_reducible repeat (first | apply Kd.S_alloc | apply Kd.S_drewN | apply Kd.S_drew)); exact Kd.S_mono HO444.out (fun _ hk => ⟨hk.1.2, hk.2⟩)⟩, ⟨by repeat (first | (with_reducible first | exact HB.out | apply below_alloc | apply pw_below_drewN | apply below_drew1) | exact HB.out)⟩⟩
      · rw [if_neg c13] at H
        have c13b0 : (t438 == 0) = false := beq_eq_false_iff_ne.mpr c13
        have c13b1 : (t438 != 0) = true := bne_iff_ne.mpr c13
        (first | rw [c13b0] | (simp only [i64_w, i32_w]; rw [c13b0]) | skip)
        have H' := Aside0.mk H
        clear H
        go_wp2
        repeat (go_quiet (fail); try go_wp2)
        go_meet
        case rel => exact ⟨_, (true), (by first | rfl | (simp; done) | (simp [*]; done)), H', ⟨by first | omega | exact Nat.le_refl _⟩, ⟨by (with_reducible repeat (first | apply Kd.R_alloc | apply Kd.R_drewN | apply Kd.R_drew)); exact Kd.R_mono HO435.out (fun _ hk => hk.2)⟩, ⟨by (with_reducible repeat (first | apply Kd.R_alloc | apply Kd.R_drewN | apply Kd.R_drew)); exact Kd.R_mono HO440.out (fun _ hk => hk.2)⟩, ⟨by (with_reducible repeat (first | apply Kd.S_alloc | apply Kd.S_drewN | apply Kd.S_drew)); exact Kd.S_mono HO444.out (fun _ hk => ⟨hk.1.2, hk.2⟩)⟩, ⟨by repeat (first | (with_reducible first | exact HB.out | apply below_alloc | apply pw_below_drewN | apply below_drew1) | exact HB.out)⟩⟩
    case rest =>
      clear HC7
      try clear c1
      try clear p2
      try clear c3
      try clear c7
      try clear c13
      try clear c13b0
      try clear c13b1
      try clear c14
      try clear c14b0
      try clear c14b1
      try clear c15
      try clear c15b0
      try clear c15b1
      try clear c15b2
      obtain ⟨kq, x47_6, rfl, HA, HJ6, HO_3, HO_4, HO_7, HB⟩ := hcut
      cases kq with
      | zero => exact absurd HA.out (by simp [scarfjointlaw02_PartitionQuotient.j0])
      | succ kj6 =>
        have H := HA.out
        clear HA
        simp only [scarfjointlaw02_PartitionQuotient.j0] at H
        by_cases c19 : x47_6 = true
        · subst c19
          have H1 : (some false) = some r := by rw [if_pos rfl] at H; exact H
          clear H
          have H := H1
          clear H1
          obtain rfl := Option.some.inj H
          go_wp2
          repeat (go_quiet (fail); try go_wp2)
          go_ret
          exact ⟨by first | rfl | (simp [errW_none, errW_some] <;> rfl) | (simp [*, errW_none, errW_some] <;> rfl), by repeat (first | (with_reducible first | exact HB.out | apply below_alloc | apply pw_below_drewN | apply below_drew1) | exact HB.out)⟩
        · replace c19 := Bool.eq_false_iff.mpr c19
          subst c19
          have H1 : (scarfjointlaw02_PartitionQuotient.l0 kj6 t433 t436 0 t441 (t441.length : Int) 0) = some r := by rw [if_neg (show ¬ (false = true) by decide)] at H; exact H
          clear H
          have H := H1
          clear H1
          have H' := Aside0.mk H
          clear H
          obtain ⟨Ao20, co20, eo20⟩ := Kd.S_slice HO_7.out
          subst eo20
          go_wp2
          repeat (go_quiet (fail); try go_wp2)
          go_loopg [9, 50] kj6 (fun kq v9 v50 w' => ∃ (x9_2 : Int) (x50_2 : Int), v9 = .int .i64 x9_2 ∧ v50 = .int .i64 x50_2 ∧ Aside0 (scarfjointlaw02_PartitionQuotient.l0 kq t433 t436 x9_2 t441 (t441.length : Int) x50_2 = some r) ∧ Aside0 (kq ≤ kj6) ∧ Aside0 (Kd.R (Kd.int .i64) 3 w' w.heap.size (fun k_ => some k_ ≠ (v439 : Value).ownBlock) (.slice Ao10 t433.length co10) t433) ∧ Aside0 (Kd.R (Kd.int .i64) 3 w' w.heap.size (fun k_ => some k_ ≠ ((.slice Ao10 t433.length co10) : Value).ownBlock) v439 t436) ∧ Aside0 (Kd.S (Kd.slice 3 (Kd.int .i64)) 28 w' w.heap.size (fun k_ => some k_ ≠ ((.slice Ao10 t433.length co10) : Value).ownBlock ∧ some k_ ≠ (v439 : Value).ownBlock) (.slice Ao20 t441.length co20) t441) ∧ Aside0 (Below w.heap.size w w'))
          case atStart => exact ⟨(0), (0), (by first | rfl | (simp; done) | (simp [*]; done)), (by first | rfl | (simp; done) | (simp [*]; done)), H', ⟨Nat.le_refl _⟩, ⟨by (with_reducible repeat (first | apply Kd.R_alloc | apply Kd.R_drewN | apply Kd.R_drew)); exact HO_3.out⟩, ⟨by (with_reducible repeat (first | apply Kd.R_alloc | apply Kd.R_drewN | apply Kd.R_drew)); exact HO_4.out⟩, ⟨by (with_reducible repeat (first | apply Kd.S_alloc | apply Kd.S_drewN | apply Kd.S_drew)); exact HO_7.out⟩, ⟨by repeat (first | (with_reducible first | exact HB.out | apply below_alloc | apply pw_below_drewN | apply below_drew1) | exact HB.out)⟩⟩
          case round =>
            clear H'
            try clear c1
            try clear p2
            try clear c3
            try clear c7
            try clear c13
            try clear c13b0
            try clear c13b1
            try clear c14
            try clear c14b0
            try clear c14b1
            try clear c15
            try clear c15b0
            try clear c15b1
            try clear c15b2
            try clear c19
            try clear p2
            obtain ⟨x9_2, x50_2, rfl, rfl, HA, HK2, HO_3, HO_4, HO_48, HB⟩ := hrel
            cases gk with
            | zero => exact absurd HA.out (by simp [scarfjointlaw02_PartitionQuotient.l0])
            | succ k2 =>
              have H := HA.out
              clear HA
              simp only [scarfjointlaw02_PartitionQuotient.l0] at H
              by_cases c21 : x50_2 < (t441.length : Int)
              · rw [if_pos c21] at H
                have c21b0 : decide (x50_2 < (t441.length : Int)) = true := decide_eq_true c21
                clear c21
                by_cases c22 : 0 ≤ x50_2
                · rw [if_pos c22] at H
                  have c22b0 : decide (0 ≤ x50_2) = true := decide_eq_true c22
                  clear c22
                  by_cases c23 : x50_2 < (t441.length : Int)
                  · rw [if_pos c23] at H
                    have c23b0 : decide (x50_2 < (t441.length : Int)) = true := decide_eq_true c23
                    clear c23
                    have H' := Aside0.mk H
                    clear H
                    have p445 : 0 ≤ (x50_2 : Int) := of_decide_eq_true (by first | (with_reducible assumption) | assumption)
                    have q445 : x50_2 < (t441.length : Int) := of_decide_eq_true (by first | (with_reducible assumption) | assumption)
                    obtain ⟨ad445, A445_0, c445_0, e445, hx445_0, hl445_0, hi445_0⟩ := at_L2 (Kd.S_reads' HO_48.out).2.2 x50_2 p445 q445
                    cases e445
                    obtain ⟨ce445, hce445, hMe445, hcc445⟩ := Kd.S_get HO_48.out [] x50_2 p445 (by first | exact q445 | exact of_decide_eq_true (by first | (with_reducible assumption) | assumption) | (have e_ := (Kd.S_reads' HO_48.out).1; omega))
                    obtain ⟨ve445_0, rfl, ge445_0⟩ := hMe445
                    have hv445_0 := hcc445 0 _ rfl
                    rw [Nat.add_zero, show ((Kd.slice 3 (Kd.int .i64))).sz = 1 from rfl, Nat.mul_one] at hv445_0
                    replace hv445_0 := Option.some.inj (hv445_0.symm.trans hx445_0)
                    rw [hv445_0] at ge445_0
                    have HL445_0 := Aside0.mk (show Kd.R (Kd.int .i64) 3 _ _ _ _ (rd_L2 t441 x50_2) from ge445_0)
                    clear hv445_0 ge445_0
                    clear hcc445 hce445
                    have HR445_0 := Aside0.mk hi445_0
                    have HC445_0 := Aside0.mk hl445_0
                    clear hi445_0 hl445_0
                    replace p445 := eq_true p445
                    replace q445 := eq_true q445
                    go_wp2
                    repeat (go_quiet (fail); try go_wp2)
                    go_loopg [9, 57] k2 (fun kq v9 v57 w' => ∃ (x9_3 : Int) (x57_3 : Int), v9 = .int .i64 x9_3 ∧ v57 = .int .i64 x57_3 ∧ Aside0 (scarfjointlaw02_PartitionQuotient.l1 kq t433 t436 x9_3 x50_2 (rd_L2 t441 x50_2) t441 (t441.length : Int) x50_2 (rd_L2 t441 x50_2) ((rd_L2 t441 x50_2).length : Int) x57_3 = some r) ∧ Aside0 (kq ≤ k2) ∧ Aside0 (Kd.R (Kd.int .i64) 3 w' w.heap.size (fun k_ => some k_ ≠ (v439 : Value).ownBlock) (.slice Ao10 t433.length co10) t433) ∧ Aside0 (Kd.R (Kd.int .i64) 3 w' w.heap.size (fun k_ => some k_ ≠ ((.slice Ao10 t433.length co10) : Value).ownBlock) v439 t436) ∧ Aside0 (Kd.S (Kd.slice 3 (Kd.int .i64)) 28 w' w.heap.size (fun k_ => some k_ ≠ ((.slice Ao10 t433.length co10) : Value).ownBlock ∧ some k_ ≠ (v439 : Value).ownBlock) (.slice (some ad445) t441.length co20) t441) ∧ Aside0 (Kd.C (Kd.int .i64) w' A445_0 (rd_L2 t441 x50_2).length (rd_L2 t441 x50_2)) ∧ Aside0 (Below w.heap.size w w'))
                    case atStart => exact ⟨(x9_2), (0), (by first | rfl | (simp; done) | (simp [*]; done)), (by first | rfl | (simp; done) | (simp [*]; done)), H', ⟨Nat.le_refl _⟩, ⟨by (with_reducible repeat (first | apply Kd.R_alloc | apply Kd.R_drewN | apply Kd.R_drew)); exact HO_3.out⟩, ⟨by (with_reducible repeat (first | apply Kd.R_alloc | apply Kd.R_drewN | apply Kd.R_drew)); exact HO_4.out⟩, ⟨by (with_reducible repeat (first | apply Kd.S_alloc | apply Kd.S_drewN | apply Kd.S_drew)); exact HO_48.out⟩, ⟨by repeat (first | (with_reducible exact HR445_0.out) | (with_reducible refine Kd.C_alloc ?_ _) | (with_reducible refine Kd.C_drewN ?_ _) | (with_reducible refine Kd.C_drew ?_) | exact HR445_0.out)⟩, ⟨by repeat (first | (with_reducible first | exact HB.out | apply below_alloc | apply pw_below_drewN | apply below_drew1) | exact HB.out)⟩⟩
                    case round =>
                      clear H'
                      try clear c1
                      try clear c2
                      try clear p2
                      try clear c3
                      try clear c4
                      try clear p4
                      try clear q4
                      try clear hx4
                      try clear c7
                      try clear c13
                      try clear c13b0
                      try clear c13b1
                      try clear c14
                      try clear c14b0
                      try clear c14b1
                      try clear c15
                      try clear c15b0
                      try clear c15b1
                      try clear c15b2
                      try clear c19
                      try clear c21
                      try clear c21b0
                      try clear c22
                      try clear c22b0
                      try clear c23
                      try clear c23b0
                      try clear hx445_0
                      try clear p2
                      try clear p445
                      try clear q445
                      obtain ⟨x9_3, x57_3, rfl, rfl, HA, HK3, HO_3, HO_4, HO_48, HR445_0, HB⟩ := hrel
                      cases gk with
                      | zero => exact absurd HA.out (by simp [scarfjointlaw02_PartitionQuotient.l1])
                      | succ k3 =>
                        have H := HA.out
                        clear HA
                        simp only [scarfjointlaw02_PartitionQuotient.l1] at H
                        by_cases c24 : x57_3 < ((rd_L2 t441 x50_2).length : Int)
                        · rw [if_pos c24] at H
                          have c24b0 : decide (x57_3 < ((rd_L2 t441 x50_2).length : Int)) = true := decide_eq_true c24
                          clear c24
                          by_cases c25 : 0 ≤ x57_3
                          · rw [if_pos c25] at H
                            have c25b0 : decide (0 ≤ x57_3) = true := decide_eq_true c25
                            clear c25
                            by_cases c26 : x57_3 < ((rd_L2 t441 x50_2).length : Int)
                            · rw [if_pos c26] at H
                              have c26b0 : decide (x57_3 < ((rd_L2 t441 x50_2).length : Int)) = true := decide_eq_true c26
                              clear c26
                              by_cases c27 : (rd (rd_L2 t441 x50_2) x57_3) < 0
                              · rw [if_pos c27] at H
                                have c27b0 : decide ((rd (rd_L2 t441 x50_2) x57_3) < 0) = true := decide_eq_true c27
                                clear c27
                                obtain rfl := Option.some.inj H
                                have p446 : 0 ≤ (x57_3 : Int) := of_decide_eq_true (by first | (with_reducible assumption) | assumption)
                                have q446 : x57_3 < ((rd_L2 t441 x50_2).length : Int) := of_decide_eq_true (by first | (with_reducible assumption) | assumption)
                                obtain ⟨ad446, e446, hx446_0⟩ := Kd.at_int HR445_0.out x57_3 p446 q446
                                cases e446
                                (try replace hx446_0 := (HB.out.cell (World.block_lt_of_cell? w _ hx446_0)).trans hx446_0)
                                replace p446 := eq_true p446
                                replace q446 := eq_true q446
                                go_wp2
                                repeat (go_quiet (fail); try go_wp2)
                                go_ret
                                exact ⟨by first | rfl | (simp [errW_none, errW_some] <;> rfl) | (simp [*, errW_none, errW_some] <;> rfl), by repeat (first | (with_reducible first | exact HB.out | apply below_alloc | apply pw_below_drewN | apply below_drew1) | exact HB.out)⟩
                              · rw [if_neg c27] at H
                                have c27b0 : decide ((rd (rd_L2 t441 x50_2) x57_3) < 0) = false := decide_eq_false c27
                                clear c27
                                by_cases c28 : (rd (rd_L2 t441 x50_2) x57_3) ≥ (t436.length : Int)
                                · rw [if_pos c28] at H
                                  have c28b0 : decide ((t436.length : Int) ≤ (rd (rd_L2 t441 x50_2) x57_3)) = true := decide_eq_true c28
                                  clear c28
                                  obtain rfl := Option.some.inj H
                                  have p446 : 0 ≤ (x57_3 : Int) := of_decide_eq_true (by first | (with_reducible assumption) | assumption)
                                  have q446 : x57_3 < ((rd_L2 t441 x50_2).length : Int) := of_decide_eq_true (by first | (with_reducible assumption) | assumption)
                                  obtain ⟨ad446, e446, hx446_0⟩ := Kd.at_int HR445_0.out x57_3 p446 q446
                                  cases e446
                                  (try replace hx446_0 := (HB.out.cell (World.block_lt_of_cell? w _ hx446_0)).trans hx446_0)
                                  replace p446 := eq_true p446
                                  replace q446 := eq_true q446
                                  obtain ⟨Ao29, co29, eo29⟩ := Kd.R_slice HO_4.out
                                  subst eo29
                                  go_wp2
                                  repeat (go_quiet (fail); try go_wp2)
                                  go_ret
                                  exact ⟨by first | rfl | (simp [errW_none, errW_some] <;> rfl) | (simp [*, errW_none, errW_some] <;> rfl), by repeat (first | (with_reducible first | exact HB.out | apply below_alloc | apply pw_below_drewN | apply below_drew1) | exact HB.out)⟩
                                · rw [if_neg c28] at H
                                  have c28b0 : decide ((t436.length : Int) ≤ (rd (rd_L2 t441 x50_2) x57_3)) = false := decide_eq_false c28
                                  clear c28
                                  by_cases c30 : 0 ≤ (rd (rd_L2 t441 x50_2) x57_3)
                                  · rw [if_pos c30] at H
                                    have c30b0 : decide (0 ≤ (rd (rd_L2 t441 x50_2) x57_3)) = true := decide_eq_true c30
                                    clear c30
                                    by_cases c31 : (rd (rd_L2 t441 x50_2) x57_3) < (t436.length : Int)
                                    · rw [if_pos c31] at H
                                      have c31b0 : decide ((rd (rd_L2 t441 x50_2) x57_3) < (t436.length : Int)) = true := decide_eq_true c31
                                      clear c31
                                      by_cases c32 : (rd t436 (rd (rd_L2 t441 x50_2) x57_3)) = x50_2
                                      · rw [if_pos c32] at H
                                        have c32b0 : ((rd t436 (rd (rd_L2 t441 x50_2) x57_3)) == x50_2) = true := beq_iff_eq.mpr c32
                                        have c32b1 : ((rd t436 (rd (rd_L2 t441 x50_2) x57_3)) != x50_2) = false := bne_eq_false_iff_eq.mpr c32
                                        clear c32
                                        by_cases c33 : (rd (rd_L2 t441 x50_2) x57_3) < (t433.length : Int)
                                        · rw [if_pos c33] at H
                                          have c33b0 : decide ((rd (rd_L2 t441 x50_2) x57_3) < (t433.length : Int)) = true := decide_eq_true c33
                                          clear c33
                                          by_cases c34 : 0 < ((rd_L2 t441 x50_2).length : Int)
                                          · rw [if_pos c34] at H
                                            have c34b0 : decide (0 < ((rd_L2 t441 x50_2).length : Int)) = true := decide_eq_true c34
                                            have c34b1 : decide (0 < (rd_L2 t441 x50_2).length) = true := decide_eq_true (by omega)
                                            clear c34
                                            by_cases c35 : (rd t433 (rd (rd_L2 t441 x50_2) x57_3)) = (rd (rd_L2 t441 x50_2) 0)
                                            · rw [if_pos c35] at H
                                              have c35b0 : ((rd t433 (rd (rd_L2 t441 x50_2) x57_3)) == (rd (rd_L2 t441 x50_2) 0)) = true := beq_iff_eq.mpr c35
                                              have c35b1 : ((rd t433 (rd (rd_L2 t441 x50_2) x57_3)) != (rd (rd_L2 t441 x50_2) 0)) = false := bne_eq_false_iff_eq.mpr c35
                                              clear c35
                                              have H' := Aside0.mk H
                                              clear H
                                              have p446 : 0 ≤ (x57_3 : Int) := of_decide_eq_true (by first | (with_reducible assumption) | assumption)
                                              have q446 : x57_3 < ((rd_L2 t441 x50_2).length : Int) := of_decide_eq_true (by first | (with_reducible assumption) | assumption)
                                              obtain ⟨ad446, e446, hx446_0⟩ := Kd.at_int HR445_0.out x57_3 p446 q446
                                              cases e446
                                              (try replace hx446_0 := (HB.out.cell (World.block_lt_of_cell? w _ hx446_0)).trans hx446_0)
                                              replace p446 := eq_true p446
                                              replace q446 := eq_true q446
                                              obtain ⟨Ao36, co36, eo36⟩ := Kd.R_slice HO_4.out
                                              subst eo36
                                              have p447 : 0 ≤ ((rd (rd_L2 t441 x50_2) x57_3) : Int) := of_decide_eq_true (by first | (with_reducible assumption) | assumption)
                                              have q447 : (rd (rd_L2 t441 x50_2) x57_3) < (t436.length : Int) := of_decide_eq_true (by first | (with_reducible assumption) | assumption)
                                              obtain ⟨ad447, e447, hx447_0⟩ := Kd.at_int (Kd.R_reads' HO_4.out).2.2 (rd (rd_L2 t441 x50_2) x57_3) p447 q447
                                              cases e447
                                              replace p447 := eq_true p447
                                              replace q447 := eq_true q447
                                              have p448 : 0 ≤ ((rd (rd_L2 t441 x50_2) x57_3) : Int) := of_decide_eq_true (by first | (with_reducible assumption) | assumption)
                                              have q448 : (rd (rd_L2 t441 x50_2) x57_3) < (t433.length : Int) := of_decide_eq_true (by first | (with_reducible assumption) | assumption)
                                              obtain ⟨ad448, e448, hx448_0⟩ := Kd.at_int (Kd.R_reads' HO_3.out).2.2 (rd (rd_L2 t441 x50_2) x57_3) p448 q448
                                              cases e448
                                              replace p448 := eq_true p448
                                              replace q448 := eq_true q448
                                              have p449 : 0 ≤ (0 : Int) := (by omega)
                                              have q449 : 0 < ((rd_L2 t441 x50_2).length : Int) := of_decide_eq_true (by first | (with_reducible assumption) | assumption)
                                              obtain ⟨ad449, e449, hx449_0⟩ := Kd.at_int HR445_0.out 0 p449 q449
                                              obtain rfl : ad446 = ad449 := (by injection e449)
                                              have qi449 : (0 < (rd_L2 t441 x50_2).length) = True := eq_true (by omega)
                                              (try rw [show ((0 : Int)).toNat = 0 from rfl] at hx449_0)
                                              (try rw [Addr.add_zero'] at hx449_0)
                                              (try replace hx449_0 := (HB.out.cell (World.block_lt_of_cell? w _ hx449_0)).trans hx449_0)
                                              replace p449 := eq_true p449
                                              replace q449 := eq_true q449
                                              go_wp2
                                              repeat (go_quiet (fail); try go_wp2)
                                              go_roundg k3
                                              case measure => have := HJ6.out; have := HK2.out; have := HK3.out; omega
                                              case rel => exact ⟨(wrap64 (x9_3 + 1)), (wrap64 (x57_3 + 1)), (by first | rfl | (simp; done) | (simp [*]; done)), (by first | rfl | (simp; done) | (simp [*]; done)), H', ⟨by have := HJ6.out; have := HK2.out; have := HK3.out; omega⟩, ⟨by (with_reducible repeat (first | apply Kd.R_alloc | apply Kd.R_drewN | apply Kd.R_drew)); exact HO_3.out⟩, ⟨by (with_reducible repeat (first | apply Kd.R_alloc | apply Kd.R_drewN | apply Kd.R_drew)); exact HO_4.out⟩, ⟨by (with_reducible repeat (first | apply Kd.S_alloc | apply Kd.S_drewN | apply Kd.S_drew)); exact HO_48.out⟩, ⟨by repeat (first | (with_reducible exact HR445_0.out) | (with_reducible refine Kd.C_alloc ?_ _) | (with_reducible refine Kd.C_drewN ?_ _) | (with_reducible refine Kd.C_drew ?_) | exact HR445_0.out)⟩, ⟨by repeat (first | (with_reducible first | exact HB.out | apply below_alloc | apply pw_below_drewN | apply below_drew1) | exact HB.out)⟩⟩
                                            · rw [if_neg c35] at H
                                              have c35b0 : ((rd t433 (rd (rd_L2 t441 x50_2) x57_3)) == (rd (rd_L2 t441 x50_2) 0)) = false := beq_eq_false_iff_ne.mpr c35
                                              have c35b1 : ((rd t433 (rd (rd_L2 t441 x50_2) x57_3)) != (rd (rd_L2 t441 x50_2) 0)) = true := bne_iff_ne.mpr c35
                                              obtain rfl := Option.some.inj H
                                              have p446 : 0 ≤ (x57_3 : Int) := of_decide_eq_true (by first | (with_reducible assumption) | assumption)
                                              have q446 : x57_3 < ((rd_L2 t441 x50_2).length : Int) := of_decide_eq_true (by first | (with_reducible assumption) | assumption)
                                              obtain ⟨ad446, e446, hx446_0⟩ := Kd.at_int HR445_0.out x57_3 p446 q446
                                              cases e446
                                              (try replace hx446_0 := (HB.out.cell (World.block_lt_of_cell? w _ hx446_0)).trans hx446_0)
                                              replace p446 := eq_true p446
                                              replace q446 := eq_true q446
                                              obtain ⟨Ao37, co37, eo37⟩ := Kd.R_slice HO_4.out
                                              subst eo37
                                              have p447 : 0 ≤ ((rd (rd_L2 t441 x50_2) x57_3) : Int) := of_decide_eq_true (by first | (with_reducible assumption) | assumption)
                                              have q447 : (rd (rd_L2 t441 x50_2) x57_3) < (t436.length : Int) := of_decide_eq_true (by first | (with_reducible assumption) | assumption)
                                              obtain ⟨ad447, e447, hx447_0⟩ := Kd.at_int (Kd.R_reads' HO_4.out).2.2 (rd (rd_L2 t441 x50_2) x57_3) p447 q447
                                              cases e447
                                              replace p447 := eq_true p447
                                              replace q447 := eq_true q447
                                              have p448 : 0 ≤ ((rd (rd_L2 t441 x50_2) x57_3) : Int) := of_decide_eq_true (by first | (with_reducible assumption) | assumption)
                                              have q448 : (rd (rd_L2 t441 x50_2) x57_3) < (t433.length : Int) := of_decide_eq_true (by first | (with_reducible assumption) | assumption)
                                              obtain ⟨ad448, e448, hx448_0⟩ := Kd.at_int (Kd.R_reads' HO_3.out).2.2 (rd (rd_L2 t441 x50_2) x57_3) p448 q448
                                              cases e448
                                              replace p448 := eq_true p448
                                              replace q448 := eq_true q448
                                              have p449 : 0 ≤ (0 : Int) := (by omega)
                                              have q449 : 0 < ((rd_L2 t441 x50_2).length : Int) := of_decide_eq_true (by first | (with_reducible assumption) | assumption)
                                              obtain ⟨ad449, e449, hx449_0⟩ := Kd.at_int HR445_0.out 0 p449 q449
                                              obtain rfl : ad446 = ad449 := (by injection e449)
                                              have qi449 : (0 < (rd_L2 t441 x50_2).length) = True := eq_true (by omega)
                                              (try rw [show ((0 : Int)).toNat = 0 from rfl] at hx449_0)
                                              (try rw [Addr.add_zero'] at hx449_0)
                                              (try replace hx449_0 := (HB.out.cell (World.block_lt_of_cell? w _ hx449_0)).trans hx449_0)
                                              replace p449 := eq_true p449
                                              replace q449 := eq_true q449
                                              go_wp2
                                              repeat (go_quiet (fail); try go_wp2)
                                              go_ret
                                              exact ⟨by first | rfl | (simp [errW_none, errW_some] <;> rfl) | (simp [*, errW_none, errW_some] <;> rfl), by repeat (first | (with_reducible first | exact HB.out | apply below_alloc | apply pw_below_drewN | apply below_drew1) | exact HB.out)⟩
                                          · rw [if_neg c34] at H
                                            exact absurd H (by simp)
                                        · rw [if_neg c33] at H
                                          exact absurd H (by simp)
                                      · rw [if_neg c32] at H
                                        have c32b0 : ((rd t436 (rd (rd_L2 t441 x50_2) x57_3)) == x50_2) = false := beq_eq_false_iff_ne.mpr c32
                                        have c32b1 : ((rd t436 (rd (rd_L2 t441 x50_2) x57_3)) != x50_2) = true := bne_iff_ne.mpr c32
                                        obtain rfl := Option.some.inj H
                                        have p446 : 0 ≤ (x57_3 : Int) := of_decide_eq_true (by first | (with_reducible assumption) | assumption)
                                        have q446 : x57_3 < ((rd_L2 t441 x50_2).length : Int) := of_decide_eq_true (by first | (with_reducible assumption) | assumption)
                                        obtain ⟨ad446, e446, hx446_0⟩ := Kd.at_int HR445_0.out x57_3 p446 q446
                                        cases e446
                                        (try replace hx446_0 := (HB.out.cell (World.block_lt_of_cell? w _ hx446_0)).trans hx446_0)
                                        replace p446 := eq_true p446
                                        replace q446 := eq_true q446
                                        obtain ⟨Ao38, co38, eo38⟩ := Kd.R_slice HO_4.out
                                        subst eo38
                                        have p447 : 0 ≤ ((rd (rd_L2 t441 x50_2) x57_3) : Int) := of_decide_eq_true (by first | (with_reducible assumption) | assumption)
                                        have q447 : (rd (rd_L2 t441 x50_2) x57_3) < (t436.length : Int) := of_decide_eq_true (by first | (with_reducible assumption) | assumption)
                                        obtain ⟨ad447, e447, hx447_0⟩ := Kd.at_int (Kd.R_reads' HO_4.out).2.2 (rd (rd_L2 t441 x50_2) x57_3) p447 q447
                                        cases e447
                                        replace p447 := eq_true p447
                                        replace q447 := eq_true q447
                                        go_wp2
                                        repeat (go_quiet (fail); try go_wp2)
                                        go_ret
                                        exact ⟨by first | rfl | (simp [errW_none, errW_some] <;> rfl) | (simp [*, errW_none, errW_some] <;> rfl), by repeat (first | (with_reducible first | exact HB.out | apply below_alloc | apply pw_below_drewN | apply below_drew1) | exact HB.out)⟩
                                    · rw [if_neg c31] at H
                                      exact absurd H (by simp)
                                  · rw [if_neg c30] at H
                                    exact absurd H (by simp)
                            · rw [if_neg c26] at H
                              exact absurd H (by simp)
                          · rw [if_neg c25] at H
                            exact absurd H (by simp)
                        · rw [if_neg c24] at H
                          have c24b0 : decide (x57_3 < ((rd_L2 t441 x50_2).length : Int)) = false := decide_eq_false c24
                          clear c24
                          have H' := Aside0.mk H
                          clear H
                          go_wp2
                          repeat (go_quiet (fail); try go_wp2)
                          go_roundg k3
                          case measure => have := HJ6.out; have := HK2.out; have := HK3.out; omega
                          case rel => exact ⟨(x9_3), (wrap64 (x50_2 + 1)), (by first | rfl | (simp; done) | (simp [*]; done)), (by first | rfl | (simp; done) | (simp [*]; done)), H', ⟨by have := HJ6.out; have := HK2.out; have := HK3.out; omega⟩, ⟨by (with_reducible repeat (first | apply Kd.R_alloc | apply Kd.R_drewN | apply Kd.R_drew)); exact HO_3.out⟩, ⟨by (with_reducible repeat (first | apply Kd.R_alloc | apply Kd.R_drewN | apply Kd.R_drew)); exact HO_4.out⟩, ⟨by (with_reducible repeat (first | apply Kd.S_alloc | apply Kd.S_drewN | apply Kd.S_drew)); exact HO_48.out⟩, ⟨by repeat (first | (with_reducible first | exact HB.out | apply below_alloc | apply pw_below_drewN | apply below_drew1) | exact HB.out)⟩⟩
                  · rw [if_neg c23] at H
                    exact absurd H (by simp)
                · rw [if_neg c22] at H
                  exact absurd H (by simp)
              · rw [if_neg c21] at H
                have c21b0 : decide (x50_2 < (t441.length : Int)) = false := decide_eq_false c21
                clear c21
                obtain rfl := Option.some.inj H
                go_wp2
                repeat (go_quiet (fail); try go_wp2)
                go_ret
                exact ⟨by first | rfl | (simp [errW_none, errW_some] <;> rfl) | (simp [*, errW_none, errW_some] <;> rfl), by repeat (first | (with_reducible first | exact HB.out | apply below_alloc | apply pw_below_drewN | apply below_drew1) | exact HB.out)⟩
  · replace c3 := Bool.eq_false_iff.mpr c3
    subst c3
    have H1 : (some false) = some r := by rw [if_neg (show ¬ (false = true) by decide)] at H; exact H
    clear H
    have H := H1
    clear H1
    obtain rfl := Option.some.inj H
    go_enter Try.func7, Try.ntmps7
    go_wp2_with (first | (go_at_call 10; (with_reducible refine (scarfjointlaw02_awake.calls k  false _ A2.out).mono ?_); rintro e w39 ⟨rfl, hb⟩; have n0_ := Aside0.mk (below_step (by repeat (first | (with_reducible first | exact HB.out | apply below_alloc | apply pw_below_drewN | apply below_drew1) | exact HB.out)) hb); clear HB; have HB := n0_; clear n0_; (try clear hb); (try clear hb2); (try clear hk); (try clear hi)))
    repeat (go_quiet (first | (go_at_call 10; (with_reducible refine (scarfjointlaw02_awake.calls k  false _ A2.out).mono ?_); rintro e w39 ⟨rfl, hb⟩; have n0_ := Aside0.mk (below_step (by repeat (first | (with_reducible first | exact HB.out | apply below_alloc | apply pw_below_drewN | apply below_drew1) | exact HB.out)) hb); clear HB; have HB := n0_; clear n0_; (try clear hb); (try clear hb2); (try clear hk); (try clear hi))); try go_wp2_with (first | (go_at_call 10; (with_reducible refine (scarfjointlaw02_awake.calls k  false _ A2.out).mono ?_); rintro e w39 ⟨rfl, hb⟩; have n0_ := Aside0.mk (below_step (by repeat (first | (with_reducible first | exact HB.out | apply below_alloc | apply pw_below_drewN | apply below_drew1) | exact HB.out)) hb); clear HB; have HB := n0_; clear n0_; (try clear hb); (try clear hb2); (try clear hk); (try clear hi))))
    go_ret
    exact ⟨by first | rfl | (simp [errW_none, errW_some] <;> rfl) | (simp [*, errW_none, errW_some] <;> rfl), by repeat (first | (with_reducible first | exact HB.out | apply below_alloc | apply pw_below_drewN | apply below_drew1) | exact HB.out)⟩

/-- THE ONE PURE STATEMENT of scarfjointlaw02_PartitionQuotient: yours. -/
def scarfjointlaw02_PartitionQuotient.Pure : Prop := ∀ (l0 : List Int), l0.length ≤ maxLen → l0.length * 1 ≤ 140737488351232 → (∀ x ∈ l0, (Lit.int .u8 x).wf = true) → ∃ k, scarfjointlaw02_PartitionQuotient.f k l0 = some true
theorem scarfjointlaw02_PartitionQuotient.walk (P : scarfjointlaw02_PartitionQuotient.Pure) (a0 : Option Addr) (len0 cap0 : Nat) (z0 : List Int) (w : World) (w0 : (a0 = none ∧ len0 = 0 ∧ cap0 = 0 ∧ z0 = []) ∨ ∃ x, a0 = some x ∧ len0 ≤ cap0 ∧ cap0 ≤ maxLen ∧ z0.length = cap0 ∧ (∀ i, i < z0.length → w.cell? (x.add i) = some (.int .u8 (z0.getD i 0))) ∧ ∀ n ∈ z0, (Lit.int .u8 n).wf = true) (y0 : len0 * 1 ≤ 140737488351232) :
    Calls Try.prog 7 #[.slice a0 len0 cap0] w fun e w' => e = .returned (.bool true) ∧ Below w.heap.size w w' := by
  obtain ⟨l0, rfl, hr0, hm0, hw0, hc0⟩ := ReadsInt.ofRowC w0
  obtain ⟨k, h⟩ := P l0 hm0 y0 hw0
  refine (scarfjointlaw02_PartitionQuotient.calls k _ _ l0 true w (Kd.C_of_reads (d := (0 : Int)) (h1 := fun _ => rfl) hr0) hc0 h).mono ?_
  rintro e w' ⟨rfl, hd⟩
  exact ⟨rfl, hd⟩

/-! ### scarfjointref02_one: function 40 -/
def scarfjointref02_one.f (k : Nat) (l0 : List Int) : Option (Int) := if (l0.length : Int) > 80 then (some 3) else ((scarfjointref02_Valid.f k l0).bind fun t450 => (if t450 = true then (some 0) else (some 1)))
theorem scarfjointref02_one.mono : ∀ a0 k, LeO (scarfjointref02_one.f k a0) (scarfjointref02_one.f (k + 1) a0) := by
  intro a0 k
  unfold scarfjointref02_one.f
  repeat' first
      | (with_reducible exact scarfjointref02_Valid.mono _ _)
      | (with_reducible exact LeO.refl _)
      | (with_reducible exact LeO.none _)
      | (with_reducible refine LeO.ite ?_ ?_)
      | (with_reducible refine LeO.bind ?_ (fun _ => ?_))
      | exact scarfjointref02_Valid.mono _ _
      | exact LeO.none _
      | refine LeO.ite ?_ ?_
      | refine LeO.bind ?_ (fun _ => ?_)
set_option maxHeartbeats 8000000 in
set_option maxRecDepth 100000 in
theorem scarfjointref02_one.calls (k : Nat) (A0 : Option Addr) (c0 : Nat) (l0 : List Int) (r : Int) (w : World) (hr0 : Kd.C (Kd.int .i64) w A0 l0.length l0) (hc0 : l0.length ≤ c0) (h : scarfjointref02_one.f k l0 = some r) :
    Calls Try.prog 40 #[.slice A0 l0.length c0] w fun e w' => e = .returned (.int .i64 r) ∧ Drawn0 w w' := by
  have HR0 := Aside0.mk hr0
  have HC0 := Aside0.mk hc0
  clear hr0 hc0
  have H : (if (l0.length : Int) > 80 then (some 3) else ((scarfjointref02_Valid.f k l0).bind fun t450 => (if t450 = true then (some 0) else (some 1)))) = some r := h
  clear h
  by_cases c2 : (l0.length : Int) > 80
  · rw [if_pos c2] at H
    have c2b0 : decide (80 < (l0.length : Int)) = true := decide_eq_true c2
    have c2b1 : decide (80 < l0.length) = true := decide_eq_true (by omega)
    clear c2
    obtain rfl := Option.some.inj H
    go_enter Try.func40, Try.ntmps40
    go_wp2
    go_ret
    exact ⟨by first | rfl | (simp; done) | (simp [*]; done), by repeat (first | exact Drawn0.refl _ | apply Drawn0.step)⟩
  · rw [if_neg c2] at H
    have c2b0 : decide (80 < (l0.length : Int)) = false := decide_eq_false c2
    have c2b1 : decide (80 < l0.length) = false := decide_eq_false (by omega)
    clear c2
    replace H := Option.bind_eq_some_iff.mp H
    obtain ⟨t450, A30, H⟩ := H
    replace H : (if t450 = true then (some 0) else (some 1)) = some r := H
    have A3 := Aside0.mk A30
    clear A30
    by_cases c4 : t450 = true
    · subst c4
      have H1 : (some 0) = some r := by rw [if_pos rfl] at H; exact H
      clear H
      have H := H1
      clear H1
      obtain rfl := Option.some.inj H
      go_enter Try.func40, Try.ntmps40
      go_wp2_with (first | ((with_reducible refine gate_callee (f := 27) rfl ?_); refine goesL_ (some 7) rfl rfl Try.func27 (by kernel_rfl) rfl #[.slice A0 l0.length c0] rfl (by (try simp only [List.map_toArray, List.map_cons, List.map_nil]); first | done | rfl | (simp only [List.length_drop, List.length_take]; rfl)) ?_; (with_reducible refine (scarfjointref02_Valid.calls k _ _ l0 true _ ?side1 ?side2 A3.out).mono ?_); (case side1 => repeat (first | exact HR0.out | (with_reducible refine Kd.C_alloc ?_ _) | (with_reducible refine Kd.C_drewN ?_ _) | (with_reducible refine Kd.C_drew ?_))); (case side2 => exact HC0.out); rintro e w' ⟨rfl, ⟨nd, rfl⟩⟩; refine ⟨_, rfl, ?_⟩))
      go_ret
      exact ⟨by first | rfl | (simp; done) | (simp [*]; done), by repeat (first | exact Drawn0.refl _ | apply Drawn0.step)⟩
    · replace c4 := Bool.eq_false_iff.mpr c4
      subst c4
      have H1 : (some 1) = some r := by rw [if_neg (show ¬ (false = true) by decide)] at H; exact H
      clear H
      have H := H1
      clear H1
      obtain rfl := Option.some.inj H
      go_enter Try.func40, Try.ntmps40
      go_wp2_with (first | ((with_reducible refine gate_callee (f := 27) rfl ?_); refine goesL_ (some 7) rfl rfl Try.func27 (by kernel_rfl) rfl #[.slice A0 l0.length c0] rfl (by (try simp only [List.map_toArray, List.map_cons, List.map_nil]); first | done | rfl | (simp only [List.length_drop, List.length_take]; rfl)) ?_; (with_reducible refine (scarfjointref02_Valid.calls k _ _ l0 false _ ?side1 ?side2 A3.out).mono ?_); (case side1 => repeat (first | exact HR0.out | (with_reducible refine Kd.C_alloc ?_ _) | (with_reducible refine Kd.C_drewN ?_ _) | (with_reducible refine Kd.C_drew ?_))); (case side2 => exact HC0.out); rintro e w' ⟨rfl, ⟨nd, rfl⟩⟩; refine ⟨_, rfl, ?_⟩))
      go_ret
      exact ⟨by first | rfl | (simp; done) | (simp [*]; done), by repeat (first | exact Drawn0.refl _ | apply Drawn0.step)⟩

end Go.Proofs.Ytjkgjlaockihaaa.P
