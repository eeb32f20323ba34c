-- Written by wip/drive.py of this session's repo over the kit's print.py (with contracts of the session's own): not the print's own text
import Derived.Test.YtklacpdobpkbbaaPx0
import Derived.Test.YtklacpdobpkbbaaPx14
namespace Go.Proofs.Ytklacpdobpkbbaa.P
open Go.RowKit Go.Proofs.YtklacpdobpkbbaaW.PrintWords Go.Proofs.YtklacpdobpkbbaaW.PrintLast Go.Proofs.YtklacpdobpkbbaaW.PrintMore
attribute [local go_sem] max2_int min2_int max_two min_two max_three min_three max_four min_four   -- for this text's walks alone
set_option linter.unusedVariables false
set_option linter.unusedSimpArgs false

/-! ### scarfjointref06_Distinct: function 41 -/
mutual
def scarfjointref06_Distinct.l0 : Nat → List Int → Int → Option (Bool)
 | 0, _, _ => none
 | k + 1, x0, x3 => if x3 < (x0.length : Int) then (scarfjointref06_Distinct.l1 k x0 x3 0) else (some true)
def scarfjointref06_Distinct.l1 : Nat → List Int → Int → Int → Option (Bool)
 | 0, _, _, _ => none
 | k + 1, x0, x3, x4 => if x4 < x3 then (if 0 ≤ x3 then (if x3 < (x0.length : Int) then (if 0 ≤ x4 then (if x4 < (x0.length : Int) then (if (rd x0 x3) = (rd x0 x4) then (some false) else (scarfjointref06_Distinct.l1 k x0 x3 (wrap64 (x4 + 1)))) else (none)) else (none)) else (none)) else (none)) else (scarfjointref06_Distinct.l0 k x0 (wrap64 (x3 + 1)))
end
def scarfjointref06_Distinct.f (k : Nat) (l0 : List Int) : Option (Bool) := scarfjointref06_Distinct.l0 k l0 0
theorem scarfjointref06_Distinct.mono_l : ∀ k, (∀ y0 y1, LeO (scarfjointref06_Distinct.l0 k y0 y1) (scarfjointref06_Distinct.l0 (k + 1) y0 y1)) ∧ (∀ y0 y1 y2, LeO (scarfjointref06_Distinct.l1 k y0 y1 y2) (scarfjointref06_Distinct.l1 (k + 1) y0 y1 y2))
 | 0 => ⟨fun _ _ r h => by simp [scarfjointref06_Distinct.l0] at h, fun _ _ _ r h => by simp [scarfjointref06_Distinct.l1] at h⟩
 | k + 1 => by
  obtain ⟨ih0, ih1⟩ := scarfjointref06_Distinct.mono_l k
  refine ⟨?_, ?_⟩
  ·intro y0 y1
   unfold scarfjointref06_Distinct.l0
   repeat' first
   | (with_reducible exact ih0 _ _)
   | (with_reducible exact ih1 _ _ _)
   | (with_reducible exact LeO.refl _)
   | (with_reducible exact LeO.none _)
   | (with_reducible refine LeO.ite ?_ ?_)
   | (with_reducible refine LeO.bind ?_ (fun _ => ?_))
   | exact ih0 _ _
   | exact ih1 _ _ _
   | exact LeO.none _
   | refine LeO.ite ?_ ?_
   | refine LeO.bind ?_ (fun _ => ?_)
  ·intro y0 y1 y2
   unfold scarfjointref06_Distinct.l1
   repeat' first
   | (with_reducible exact ih0 _ _)
   | (with_reducible exact ih1 _ _ _)
   | (with_reducible exact LeO.refl _)
   | (with_reducible exact LeO.none _)
   | (with_reducible refine LeO.ite ?_ ?_)
   | (with_reducible refine LeO.bind ?_ (fun _ => ?_))
   | exact ih0 _ _
   | exact ih1 _ _ _
   | exact LeO.none _
   | refine LeO.ite ?_ ?_
   | refine LeO.bind ?_ (fun _ => ?_)
theorem scarfjointref06_Distinct.mono : ∀ a0 k, LeO (scarfjointref06_Distinct.f k a0) (scarfjointref06_Distinct.f (k + 1) a0) := by
 intro a0 k
 obtain ⟨ih0, ih1⟩ := scarfjointref06_Distinct.mono_l k
 unfold scarfjointref06_Distinct.f
 repeat' first
   | (with_reducible exact ih0 _ _)
   | (with_reducible exact ih1 _ _ _)
   | (with_reducible exact LeO.refl _)
   | (with_reducible exact LeO.none _)
   | (with_reducible refine LeO.ite ?_ ?_)
   | (with_reducible refine LeO.bind ?_ (fun _ => ?_))
   | exact ih0 _ _
   | exact ih1 _ _ _
   | exact LeO.none _
   | refine LeO.ite ?_ ?_
   | refine LeO.bind ?_ (fun _ => ?_)
set_option maxHeartbeats 8000000 in
set_option maxRecDepth 100000 in
theorem scarfjointref06_Distinct.calls (k : Nat) (A0 : Option Addr) (c0 : Nat) (l0 : List Int) (r : Bool) (w : World) (hr0 : Kd.C (Kd.int .i64) w A0 l0.length l0) (hc0 : l0.length ≤ c0) (h : scarfjointref06_Distinct.f k l0 = some r) :
  Calls Try.prog 41 #[.slice A0 l0.length c0] w fun e w' => e = .returned (.bool r) ∧ Drawn0 w w' := by
 have HR0 := Aside0.mk hr0
 have HC0 := Aside0.mk hc0
 clear hr0 hc0
 have H : (scarfjointref06_Distinct.l0 k l0 0) = some r := h
 clear h
 have H' := Aside0.mk H
 clear H
 go_enter Try.func41, Try.ntmps41
 go_wp2
 repeat (go_quiet (fail); try go_wp2)
 go_loopg [3] k (fun kq v3 w' => ∃ (x3_1 : Int), v3 = .int .i64 x3_1 ∧ Aside0 (scarfjointref06_Distinct.l0 kq l0 x3_1 = some r) ∧ Aside0 (kq ≤ k) ∧ Drawn0 w w')
 case atStart => exact ⟨(0), (by first | rfl | (simp; done) | (simp [*]; done)), H', ⟨Nat.le_refl _⟩, by repeat (first | exact Drawn0.refl _ | apply Drawn0.step)⟩
 case round =>
  clear H'
  obtain ⟨x3_1, rfl, HA, HK1, ⟨m1, rfl⟩⟩ := hrel
  cases gk with
  | zero => exact absurd HA.out (by simp [scarfjointref06_Distinct.l0])
  | succ k1 =>
   have H := HA.out
   clear HA
   simp only [scarfjointref06_Distinct.l0] at H
   by_cases c2 : x3_1 < (l0.length : Int)
   ·rw [if_pos c2] at H
    have c2b0 : decide (x3_1 < (l0.length : Int)) = true := decide_eq_true c2
    clear c2
    have H' := Aside0.mk H
    clear H
    go_wp2
    repeat (go_quiet (fail); try go_wp2)
    go_loopg [4] k1 (fun kq v4 w' => ∃ (x4_2 : Int), v4 = .int .i64 x4_2 ∧ Aside0 (scarfjointref06_Distinct.l1 kq l0 x3_1 x4_2 = some r) ∧ Aside0 (kq ≤ k1) ∧ Drawn0 w w')
    case atStart => exact ⟨(0), (by first | rfl | (simp; done) | (simp [*]; done)), H', ⟨Nat.le_refl _⟩, by repeat (first | exact Drawn0.refl _ | apply Drawn0.step)⟩
    case round =>
     clear H'
     try clear c2
     try clear c2b0
     try clear p2
     obtain ⟨x4_2, rfl, HA, HK2, ⟨m2, rfl⟩⟩ := hrel
     cases gk with
     | zero => exact absurd HA.out (by simp [scarfjointref06_Distinct.l1])
     | succ k2 =>
      have H := HA.out
      clear HA
      simp only [scarfjointref06_Distinct.l1] at H
      by_cases c3 : x4_2 < x3_1
      ·rw [if_pos c3] at H
       have c3b0 : decide (x4_2 < x3_1) = true := decide_eq_true c3
       clear c3
       by_cases c4 : 0 ≤ x3_1
       ·rw [if_pos c4] at H
        have c4b0 : decide (0 ≤ x3_1) = true := decide_eq_true c4
        clear c4
        by_cases c5 : x3_1 < (l0.length : Int)
        ·rw [if_pos c5] at H
         have c5b0 : decide (x3_1 < (l0.length : Int)) = true := decide_eq_true c5
         clear c5
         by_cases c6 : 0 ≤ x4_2
         ·rw [if_pos c6] at H
          have c6b0 : decide (0 ≤ x4_2) = true := decide_eq_true c6
          clear c6
          by_cases c7 : x4_2 < (l0.length : Int)
          ·rw [if_pos c7] at H
           have c7b0 : decide (x4_2 < (l0.length : Int)) = true := decide_eq_true c7
           clear c7
           by_cases c8 : (rd l0 x3_1) = (rd l0 x4_2)
           ·rw [if_pos c8] at H
            have c8b0 : ((rd l0 x3_1) == (rd l0 x4_2)) = true := beq_iff_eq.mpr c8
            have c8b1 : ((rd l0 x3_1) != (rd l0 x4_2)) = false := bne_eq_false_iff_eq.mpr c8
            clear c8
            obtain rfl := Option.some.inj H
            have p215 : 0 ≤ (x3_1 : Int) := of_decide_eq_true (by first | (with_reducible assumption) | assumption)
            have q215 : x3_1 < (l0.length : Int) := of_decide_eq_true (by first | (with_reducible assumption) | assumption)
            obtain ⟨ad215, e215, hx215_0⟩ := Kd.at_int HR0.out x3_1 p215 q215
            cases e215
            replace p215 := eq_true p215
            replace q215 := eq_true q215
            have p216 : 0 ≤ (x4_2 : Int) := of_decide_eq_true (by first | (with_reducible assumption) | assumption)
            have q216 : x4_2 < (l0.length : Int) := of_decide_eq_true (by first | (with_reducible assumption) | assumption)
            obtain ⟨ad216, e216, hx216_0⟩ := Kd.at_int HR0.out x4_2 p216 q216
            obtain rfl : ad215 = ad216 := (by injection e216)
            replace p216 := eq_true p216
            replace q216 := eq_true q216
            go_wp2
            repeat (go_quiet (fail); try go_wp2)
            go_ret
            exact ⟨by first | rfl | (simp; done) | (simp [*]; done), by repeat (first | exact Drawn0.refl _ | apply Drawn0.step)⟩
           rw [if_neg c8] at H
           have c8b0 : ((rd l0 x3_1) == (rd l0 x4_2)) = false := beq_eq_false_iff_ne.mpr c8
           have c8b1 : ((rd l0 x3_1) != (rd l0 x4_2)) = true := bne_iff_ne.mpr c8
           have H' := Aside0.mk H
           clear H
           have p215 : 0 ≤ (x3_1 : Int) := of_decide_eq_true (by first | (with_reducible assumption) | assumption)
           have q215 : x3_1 < (l0.length : Int) := of_decide_eq_true (by first | (with_reducible assumption) | assumption)
           obtain ⟨ad215, e215, hx215_0⟩ := Kd.at_int HR0.out x3_1 p215 q215
           cases e215
           replace p215 := eq_true p215
           replace q215 := eq_true q215
           have p216 : 0 ≤ (x4_2 : Int) := of_decide_eq_true (by first | (with_reducible assumption) | assumption)
           have q216 : x4_2 < (l0.length : Int) := of_decide_eq_true (by first | (with_reducible assumption) | assumption)
           obtain ⟨ad216, e216, hx216_0⟩ := Kd.at_int HR0.out x4_2 p216 q216
           obtain rfl : ad215 = ad216 := (by injection e216)
           replace p216 := eq_true p216
           replace q216 := eq_true q216
           go_wp2
           repeat (go_quiet (fail); try go_wp2)
           go_roundg k2
           case measure => have := HK1.out; have := HK2.out; omega
           case rel => exact ⟨(wrap64 (x4_2 + 1)), (by first | rfl | (simp; done) | (simp [*]; done)), H', ⟨by have := HK1.out; have := HK2.out; omega⟩, by repeat (first | exact Drawn0.refl _ | apply Drawn0.step)⟩
          rw [if_neg c7] at H
          exact absurd H (by simp)
         rw [if_neg c6] at H
         exact absurd H (by simp)
        rw [if_neg c5] at H
        exact absurd H (by simp)
       rw [if_neg c4] at H
       exact absurd H (by simp)
      rw [if_neg c3] at H
      have c3b0 : decide (x4_2 < x3_1) = false := decide_eq_false c3
      clear c3
      have H' := Aside0.mk H
      clear H
      go_wp2
      repeat (go_quiet (fail); try go_wp2)
      go_roundg k2
      case measure => have := HK1.out; have := HK2.out; omega
      case rel => exact ⟨(wrap64 (x3_1 + 1)), (by first | rfl | (simp; done) | (simp [*]; done)), H', ⟨by have := HK1.out; have := HK2.out; omega⟩, by repeat (first | exact Drawn0.refl _ | apply Drawn0.step)⟩
   rw [if_neg c2] at H
   have c2b0 : decide (x3_1 < (l0.length : Int)) = false := decide_eq_false c2
   clear c2
   obtain rfl := Option.some.inj H
   go_wp2
   repeat (go_quiet (fail); try go_wp2)
   go_ret
   exact ⟨by first | rfl | (simp; done) | (simp [*]; done), by repeat (first | exact Drawn0.refl _ | apply Drawn0.step)⟩

/-! ### scarfjointref06_Injective: function 16 -/
def scarfjointref06_Injective.f (k : Nat) (l0_0 : List Int) (l0_1 : List (S65)) (l1_0 : List Int) (l1_1 : List (S65)) (l2_0 : List Int) (l2_1 : List Int) : Option (Bool) := (scarfjointref06_Valid.f k l0_0 l0_1 l1_0 l1_1 l2_0 l2_1).bind fun t220 => (if t220 = 0 then ((scarfjointref06_Distinct.f k l2_0).bind fun t221 => (if t221 = true then ((scarfjointref06_Distinct.f k l2_1).bind fun t222 => (some t222)) else (some false))) else (some false))
theorem scarfjointref06_Injective.mono : ∀ a0 a1 a2 a3 a4 a5 k, LeO (scarfjointref06_Injective.f k a0 a1 a2 a3 a4 a5) (scarfjointref06_Injective.f (k + 1) a0 a1 a2 a3 a4 a5) := by
 intro a0 a1 a2 a3 a4 a5 k
 unfold scarfjointref06_Injective.f
 repeat' first
   | (with_reducible exact scarfjointref06_Distinct.mono _ _)
   | (with_reducible exact scarfjointref06_Valid.mono _ _ _ _ _ _ _)
   | (with_reducible exact LeO.refl _)
   | (with_reducible exact LeO.none _)
   | (with_reducible refine LeO.ite ?_ ?_)
   | (with_reducible refine LeO.bind ?_ (fun _ => ?_))
   | exact scarfjointref06_Distinct.mono _ _
   | exact scarfjointref06_Valid.mono _ _ _ _ _ _ _
   | exact LeO.none _
   | refine LeO.ite ?_ ?_
   | refine LeO.bind ?_ (fun _ => ?_)
set_option maxHeartbeats 8000000 in
set_option maxRecDepth 100000 in
theorem scarfjointref06_Injective.calls (k : Nat) (A0_0 : Option Addr) (c0_0 : Nat) (l0_0 : List Int) (A0_1 : Option Addr) (c0_1 : Nat) (l0_1 : List (S65)) (A1_0 : Option Addr) (c1_0 : Nat) (l1_0 : List Int) (A1_1 : Option Addr) (c1_1 : Nat) (l1_1 : List (S65)) (A2_0 : Option Addr) (c2_0 : Nat) (l2_0 : List Int) (A2_1 : Option Addr) (c2_1 : Nat) (l2_1 : List Int) (r : Bool) (w : World) (hr0_0 : Kd.C (Kd.int .i64) w A0_0 l0_0.length l0_0) (hc0_0 : l0_0.length ≤ c0_0) (hr0_1 : Kd.C k65 w A0_1 l0_1.length l0_1) (hc0_1 : l0_1.length ≤ c0_1) (hr1_0 : Kd.C (Kd.int .i64) w A1_0 l1_0.length l1_0) (hc1_0 : l1_0.length ≤ c1_0) (hr1_1 : Kd.C k65 w A1_1 l1_1.length l1_1) (hc1_1 : l1_1.length ≤ c1_1) (hr2_0 : Kd.C (Kd.int .i64) w A2_0 l2_0.length l2_0) (hc2_0 : l2_0.length ≤ c2_0) (hr2_1 : Kd.C (Kd.int .i64) w A2_1 l2_1.length l2_1) (hc2_1 : l2_1.length ≤ c2_1) (h : scarfjointref06_Injective.f k l0_0 l0_1 l1_0 l1_1 l2_0 l2_1 = some r) :
  Calls Try.prog 16 #[.agg #[.slice A0_0 l0_0.length c0_0, .slice A0_1 l0_1.length c0_1], .agg #[.slice A1_0 l1_0.length c1_0, .slice A1_1 l1_1.length c1_1], .agg #[.slice A2_0 l2_0.length c2_0, .slice A2_1 l2_1.length c2_1]] w fun e w' => e = .returned (.bool r) ∧ Below w.heap.size w w' := by
 have hu25 := Try.underlying25
 have hu27 := Try.underlying27
 have HR0_0 := Aside0.mk hr0_0
 have HC0_0 := Aside0.mk hc0_0
 clear hr0_0 hc0_0
 have HR0_1 := Aside0.mk hr0_1
 have HC0_1 := Aside0.mk hc0_1
 clear hr0_1 hc0_1
 have HR1_0 := Aside0.mk hr1_0
 have HC1_0 := Aside0.mk hc1_0
 clear hr1_0 hc1_0
 have HR1_1 := Aside0.mk hr1_1
 have HC1_1 := Aside0.mk hc1_1
 clear hr1_1 hc1_1
 have HR2_0 := Aside0.mk hr2_0
 have HC2_0 := Aside0.mk hc2_0
 clear hr2_0 hc2_0
 have HR2_1 := Aside0.mk hr2_1
 have HC2_1 := Aside0.mk hc2_1
 clear hr2_1 hc2_1
 have HB := Aside0.mk (Below.refl w.heap.size w)
 have H : ((scarfjointref06_Valid.f k l0_0 l0_1 l1_0 l1_1 l2_0 l2_1).bind fun t220 => (if t220 = 0 then ((scarfjointref06_Distinct.f k l2_0).bind fun t221 => (if t221 = true then ((scarfjointref06_Distinct.f k l2_1).bind fun t222 => (some t222)) else (some false))) else (some false))) = some r := h
 clear h
 replace H := Option.bind_eq_some_iff.mp H
 obtain ⟨t220, A40, H⟩ := H
 replace H : (if t220 = 0 then ((scarfjointref06_Distinct.f k l2_0).bind fun t221 => (if t221 = true then ((scarfjointref06_Distinct.f k l2_1).bind fun t222 => (some t222)) else (some false))) else (some false)) = some r := H
 have A4 := Aside0.mk A40
 clear A40
 by_cases c5 : t220 = 0
 ·rw [if_pos c5] at H
  have c5b0 : (t220 == 0) = true := beq_iff_eq.mpr c5
  have c5b1 : (t220 != 0) = false := bne_eq_false_iff_eq.mpr c5
  clear c5
  replace H := Option.bind_eq_some_iff.mp H
  obtain ⟨t221, A60, H⟩ := H
  replace H : (if t221 = true then ((scarfjointref06_Distinct.f k l2_1).bind fun t222 => (some t222)) else (some false)) = some r := H
  have A6 := Aside0.mk A60
  clear A60
  by_cases c7 : t221 = true
  ·subst c7
   have H1 : ((scarfjointref06_Distinct.f k l2_1).bind fun t222 => (some t222)) = some r := by rw [if_pos rfl] at H; exact H
   clear H
   have H := H1
   clear H1
   replace H := Option.bind_eq_some_iff.mp H
   obtain ⟨t222, A80, H⟩ := H
   replace H : (some t222) = some r := H
   have A8 := Aside0.mk A80
   clear A80
   obtain rfl := Option.some.inj H
   go_enter Try.func16, Try.ntmps16
   go_wp2_with (first | ((with_reducible refine gate_dst (N := 3) rfl ?_); refine box_event ?hg (N := 3) ?hd (cs := #[.slice A0_0 l0_0.length c0_0, .slice A0_1 l0_1.length c0_1]) (t := 25) ?hr ?_; (case hd => rfl); (case hg => rfl); (case hr => first | (go_simp; done) | (go_simp; rfl)); intro gb217 hg w9 hbox hb; have BK217 := Aside0.mk (hbox); have GW217 := Aside0.mk (gw_ hg (mb_ HB.out)); have GE217 := Aside0.mk (gw_ hg (mb_ HB.out)); replace HB := Aside0.mk (below_step (mb_ HB.out) hb); clear hb hbox hg) | ((with_reducible refine gate_dst (N := 4) rfl ?_); refine box_event ?hg (N := 4) ?hd (cs := #[.slice A1_0 l1_0.length c1_0, .slice A1_1 l1_1.length c1_1]) (t := 25) ?hr ?_; (case hd => rfl); (case hg => rfl); (case hr => first | (go_simp; done) | (go_simp; rfl)); intro gb218 hg w10 hbox hb; have BK218 := Aside0.mk (hbox); have GW218 := Aside0.mk (gw_ hg (mbs_ HB.out)); have GE218 := Aside0.mk (gw_ hg (mbs_ HB.out)); replace HB := Aside0.mk (below_step (mbs_ HB.out) hb); have NB217_218 := Aside0.mk (nb_ hg (bk_ BK217.out)); have NB218_217 := Aside0.mk (nc_ hg (bk_ BK217.out)); replace BK217 := kb_ (bk_ BK217.out) hb; clear hb hbox hg) | ((with_reducible refine gate_dst (N := 5) rfl ?_); refine box_event ?hg (N := 5) ?hd (cs := #[.slice A2_0 l2_0.length c2_0, .slice A2_1 l2_1.length c2_1]) (t := 27) ?hr ?_; (case hd => rfl); (case hg => rfl); (case hr => first | (go_simp; done) | (go_simp; rfl)); intro gb219 hg w11 hbox hb; have BK219 := Aside0.mk (hbox); have GW219 := Aside0.mk (gw_ hg (mbs_ HB.out)); have GE219 := Aside0.mk (gw_ hg (mbs_ HB.out)); replace HB := Aside0.mk (below_step (mbs_ HB.out) hb); have NB217_219 := Aside0.mk (nb_ hg (bk_ BK217.out)); have NB219_217 := Aside0.mk (nc_ hg (bk_ BK217.out)); replace BK217 := kb_ (bk_ BK217.out) hb; have NB218_219 := Aside0.mk (nb_ hg (bk_ BK218.out)); have NB219_218 := Aside0.mk (nc_ hg (bk_ BK218.out)); replace BK218 := kb_ (bk_ BK218.out) hb; clear hb hbox hg; have hnb12 := NB217_218.out; have hnc12 := NB218_217.out; have hnb13 := NB217_219.out; have hnc13 := NB219_217.out; have hcz14_0 := bc0_ BK217.out; have hcz14_1 := bc1_ BK217.out; have hfz14_0 := blk_frozen BK217.out 0; have hfz14_1 := blk_frozen BK217.out 1; have hnb15 := NB218_219.out; have hnc15 := NB219_218.out; have hcz16_0 := bc0_ BK218.out; have hcz16_1 := bc1_ BK218.out; have hfz16_0 := blk_frozen BK218.out 0; have hfz16_1 := blk_frozen BK218.out 1; have hcz17_0 := bc0_ BK219.out; have hcz17_1 := bc1_ BK219.out; have hfz17_0 := blk_frozen BK219.out 0; have hfz17_1 := blk_frozen BK219.out 1) | ((with_reducible refine gate_callee (f := 14) rfl ?_); refine goesL_ (some 10) rfl rfl Try.func14 (by kernel_rfl) rfl #[.agg #[.slice A0_0 l0_0.length c0_0, .slice A0_1 l0_1.length c0_1], .agg #[.slice A1_0 l1_0.length c1_0, .slice A1_1 l1_1.length c1_1], .agg #[.slice A2_0 l2_0.length c2_0, .slice A2_1 l2_1.length c2_1]] rfl (by (try simp only [List.map_toArray, List.map_cons, List.map_nil]); first | done | rfl | (simp only [List.length_drop, List.length_take]; rfl)) ?_; (with_reducible refine (scarfjointref06_Valid.calls k _ _ l0_0 _ _ l0_1 _ _ l1_0 _ _ l1_1 _ _ l2_0 _ _ l2_1 t220 _ ?side1 ?side2 ?side3 ?side4 ?side5 ?side6 ?side7 ?side8 ?side9 ?side10 ?side11 ?side12 A4.out).mono ?_); (case side1 => exact mc_ (Kd.C_below HR0_0.out HB.out)); (case side2 => exact HC0_0.out); (case side3 => exact mc_ (Kd.C_below HR0_1.out HB.out)); (case side4 => exact HC0_1.out); (case side5 => exact mc_ (Kd.C_below HR1_0.out HB.out)); (case side6 => exact HC1_0.out); (case side7 => exact mc_ (Kd.C_below HR1_1.out HB.out)); (case side8 => exact HC1_1.out); (case side9 => exact mc_ (Kd.C_below HR2_0.out HB.out)); (case side10 => exact HC2_0.out); (case side11 => exact mc_ (Kd.C_below HR2_1.out HB.out)); (case side12 => exact HC2_1.out); rintro e w18 ⟨rfl, hb⟩; refine ⟨_, rfl, ?_⟩; replace BK217 := kb_ (bk_ BK217.out) hb; replace BK218 := kb_ (bk_ BK218.out) hb; replace BK219 := kb_ (bk_ BK219.out) hb; replace HB := Aside0.mk (below_step (mbs_ HB.out) hb); (try clear hb); (try clear hb2); (try clear hk); (try clear hi); have hcz19_0 := bc0_ BK219.out; have hcz19_1 := bc1_ BK219.out; have hfz19_0 := blk_frozen BK219.out 0; have hfz19_1 := blk_frozen BK219.out 1) | (go_at_call 41; (with_reducible refine (scarfjointref06_Distinct.calls k _ _ l2_0 true _ ?side1 ?side2 A6.out).mono ?_); (case side1 => exact mc_ (Kd.C_below HR2_0.out HB.out)); (case side2 => exact HC2_0.out); rintro e w' ⟨rfl, ⟨nd, rfl⟩⟩) | (go_at_call 41; (with_reducible refine (scarfjointref06_Distinct.calls k _ _ l2_1 t222 _ ?side1 ?side2 A8.out).mono ?_); (case side1 => repeat (first | exact (Kd.C_below HR2_1.out (mbs_ HB.out)) | (with_reducible refine Kd.C_alloc ?_ _) | (with_reducible refine Kd.C_drewN ?_ _) | (with_reducible refine Kd.C_drew ?_))); (case side2 => exact HC2_1.out); rintro e w' ⟨rfl, ⟨nd, rfl⟩⟩))
   go_ret
   exact ⟨by first | rfl | (simp [errW_none, errW_some] <;> rfl) | (simp [*, errW_none, errW_some] <;> rfl), mbs_ HB.out⟩
  replace c7 := Bool.eq_false_iff.mpr c7
  subst c7
  have H1 : (some false) = some r := by rw [if_neg (show ¬ (false = true) by decide)] at H; exact H
  clear H
  have H := H1
  clear H1
  obtain rfl := Option.some.inj H
  go_enter Try.func16, Try.ntmps16
  go_wp2_with (first | ((with_reducible refine gate_dst (N := 3) rfl ?_); refine box_event ?hg (N := 3) ?hd (cs := #[.slice A0_0 l0_0.length c0_0, .slice A0_1 l0_1.length c0_1]) (t := 25) ?hr ?_; (case hd => rfl); (case hg => rfl); (case hr => first | (go_simp; done) | (go_simp; rfl)); intro gb217 hg w20 hbox hb; have BK217 := Aside0.mk (hbox); have GW217 := Aside0.mk (gw_ hg (mb_ HB.out)); have GE217 := Aside0.mk (gw_ hg (mb_ HB.out)); replace HB := Aside0.mk (below_step (mb_ HB.out) hb); clear hb hbox hg) | ((with_reducible refine gate_dst (N := 4) rfl ?_); refine box_event ?hg (N := 4) ?hd (cs := #[.slice A1_0 l1_0.length c1_0, .slice A1_1 l1_1.length c1_1]) (t := 25) ?hr ?_; (case hd => rfl); (case hg => rfl); (case hr => first | (go_simp; done) | (go_simp; rfl)); intro gb218 hg w21 hbox hb; have BK218 := Aside0.mk (hbox); have GW218 := Aside0.mk (gw_ hg (mbs_ HB.out)); have GE218 := Aside0.mk (gw_ hg (mbs_ HB.out)); replace HB := Aside0.mk (below_step (mbs_ HB.out) hb); have NB217_218 := Aside0.mk (nb_ hg (bk_ BK217.out)); have NB218_217 := Aside0.mk (nc_ hg (bk_ BK217.out)); replace BK217 := kb_ (bk_ BK217.out) hb; clear hb hbox hg) | ((with_reducible refine gate_dst (N := 5) rfl ?_); refine box_event ?hg (N := 5) ?hd (cs := #[.slice A2_0 l2_0.length c2_0, .slice A2_1 l2_1.length c2_1]) (t := 27) ?hr ?_; (case hd => rfl); (case hg => rfl); (case hr => first | (go_simp; done) | (go_simp; rfl)); intro gb219 hg w22 hbox hb; have BK219 := Aside0.mk (hbox); have GW219 := Aside0.mk (gw_ hg (mbs_ HB.out)); have GE219 := Aside0.mk (gw_ hg (mbs_ HB.out)); replace HB := Aside0.mk (below_step (mbs_ HB.out) hb); have NB217_219 := Aside0.mk (nb_ hg (bk_ BK217.out)); have NB219_217 := Aside0.mk (nc_ hg (bk_ BK217.out)); replace BK217 := kb_ (bk_ BK217.out) hb; have NB218_219 := Aside0.mk (nb_ hg (bk_ BK218.out)); have NB219_218 := Aside0.mk (nc_ hg (bk_ BK218.out)); replace BK218 := kb_ (bk_ BK218.out) hb; clear hb hbox hg; have hnb23 := NB217_218.out; have hnc23 := NB218_217.out; have hnb24 := NB217_219.out; have hnc24 := NB219_217.out; have hcz25_0 := bc0_ BK217.out; have hcz25_1 := bc1_ BK217.out; have hfz25_0 := blk_frozen BK217.out 0; have hfz25_1 := blk_frozen BK217.out 1; have hnb26 := NB218_219.out; have hnc26 := NB219_218.out; have hcz27_0 := bc0_ BK218.out; have hcz27_1 := bc1_ BK218.out; have hfz27_0 := blk_frozen BK218.out 0; have hfz27_1 := blk_frozen BK218.out 1; have hcz28_0 := bc0_ BK219.out; have hcz28_1 := bc1_ BK219.out; have hfz28_0 := blk_frozen BK219.out 0; have hfz28_1 := blk_frozen BK219.out 1) | ((with_reducible refine gate_callee (f := 14) rfl ?_); refine goesL_ (some 10) rfl rfl Try.func14 (by kernel_rfl) rfl #[.agg #[.slice A0_0 l0_0.length c0_0, .slice A0_1 l0_1.length c0_1], .agg #[.slice A1_0 l1_0.length c1_0, .slice A1_1 l1_1.length c1_1], .agg #[.slice A2_0 l2_0.length c2_0, .slice A2_1 l2_1.length c2_1]] rfl (by (try simp only [List.map_toArray, List.map_cons, List.map_nil]); first | done | rfl | (simp only [List.length_drop, List.length_take]; rfl)) ?_; (with_reducible refine (scarfjointref06_Valid.calls k _ _ l0_0 _ _ l0_1 _ _ l1_0 _ _ l1_1 _ _ l2_0 _ _ l2_1 t220 _ ?side1 ?side2 ?side3 ?side4 ?side5 ?side6 ?side7 ?side8 ?side9 ?side10 ?side11 ?side12 A4.out).mono ?_); (case side1 => exact mc_ (Kd.C_below HR0_0.out HB.out)); (case side2 => exact HC0_0.out); (case side3 => exact mc_ (Kd.C_below HR0_1.out HB.out)); (case side4 => exact HC0_1.out); (case side5 => exact mc_ (Kd.C_below HR1_0.out HB.out)); (case side6 => exact HC1_0.out); (case side7 => exact mc_ (Kd.C_below HR1_1.out HB.out)); (case side8 => exact HC1_1.out); (case side9 => exact mc_ (Kd.C_below HR2_0.out HB.out)); (case side10 => exact HC2_0.out); (case side11 => exact mc_ (Kd.C_below HR2_1.out HB.out)); (case side12 => exact HC2_1.out); rintro e w29 ⟨rfl, hb⟩; refine ⟨_, rfl, ?_⟩; replace BK217 := kb_ (bk_ BK217.out) hb; replace BK218 := kb_ (bk_ BK218.out) hb; replace BK219 := kb_ (bk_ BK219.out) hb; replace HB := Aside0.mk (below_step (mbs_ HB.out) hb); (try clear hb); (try clear hb2); (try clear hk); (try clear hi); have hcz30_0 := bc0_ BK219.out; have hcz30_1 := bc1_ BK219.out; have hfz30_0 := blk_frozen BK219.out 0; have hfz30_1 := blk_frozen BK219.out 1) | (go_at_call 41; (with_reducible refine (scarfjointref06_Distinct.calls k _ _ l2_0 false _ ?side1 ?side2 A6.out).mono ?_); (case side1 => exact mc_ (Kd.C_below HR2_0.out HB.out)); (case side2 => exact HC2_0.out); rintro e w' ⟨rfl, ⟨nd, rfl⟩⟩))
  go_ret
  exact ⟨by first | rfl | (simp [errW_none, errW_some] <;> rfl) | (simp [*, errW_none, errW_some] <;> rfl), mbs_ HB.out⟩
 rw [if_neg c5] at H
 have c5b0 : (t220 == 0) = false := beq_eq_false_iff_ne.mpr c5
 have c5b1 : (t220 != 0) = true := bne_iff_ne.mpr c5
 obtain rfl := Option.some.inj H
 go_enter Try.func16, Try.ntmps16
 go_wp2_with (first | ((with_reducible refine gate_dst (N := 3) rfl ?_); refine box_event ?hg (N := 3) ?hd (cs := #[.slice A0_0 l0_0.length c0_0, .slice A0_1 l0_1.length c0_1]) (t := 25) ?hr ?_; (case hd => rfl); (case hg => rfl); (case hr => first | (go_simp; done) | (go_simp; rfl)); intro gb217 hg w31 hbox hb; have BK217 := Aside0.mk (hbox); have GW217 := Aside0.mk (gw_ hg (mb_ HB.out)); have GE217 := Aside0.mk (gw_ hg (mb_ HB.out)); replace HB := Aside0.mk (below_step (mb_ HB.out) hb); clear hb hbox hg) | ((with_reducible refine gate_dst (N := 4) rfl ?_); refine box_event ?hg (N := 4) ?hd (cs := #[.slice A1_0 l1_0.length c1_0, .slice A1_1 l1_1.length c1_1]) (t := 25) ?hr ?_; (case hd => rfl); (case hg => rfl); (case hr => first | (go_simp; done) | (go_simp; rfl)); intro gb218 hg w32 hbox hb; have BK218 := Aside0.mk (hbox); have GW218 := Aside0.mk (gw_ hg (mbs_ HB.out)); have GE218 := Aside0.mk (gw_ hg (mbs_ HB.out)); replace HB := Aside0.mk (below_step (mbs_ HB.out) hb); have NB217_218 := Aside0.mk (nb_ hg (bk_ BK217.out)); have NB218_217 := Aside0.mk (nc_ hg (bk_ BK217.out)); replace BK217 := kb_ (bk_ BK217.out) hb; clear hb hbox hg) | ((with_reducible refine gate_dst (N := 5) rfl ?_); refine box_event ?hg (N := 5) ?hd (cs := #[.slice A2_0 l2_0.length c2_0, .slice A2_1 l2_1.length c2_1]) (t := 27) ?hr ?_; (case hd => rfl); (case hg => rfl); (case hr => first | (go_simp; done) | (go_simp; rfl)); intro gb219 hg w33 hbox hb; have BK219 := Aside0.mk (hbox); have GW219 := Aside0.mk (gw_ hg (mbs_ HB.out)); have GE219 := Aside0.mk (gw_ hg (mbs_ HB.out)); replace HB := Aside0.mk (below_step (mbs_ HB.out) hb); have NB217_219 := Aside0.mk (nb_ hg (bk_ BK217.out)); have NB219_217 := Aside0.mk (nc_ hg (bk_ BK217.out)); replace BK217 := kb_ (bk_ BK217.out) hb; have NB218_219 := Aside0.mk (nb_ hg (bk_ BK218.out)); have NB219_218 := Aside0.mk (nc_ hg (bk_ BK218.out)); replace BK218 := kb_ (bk_ BK218.out) hb; clear hb hbox hg; have hnb34 := NB217_218.out; have hnc34 := NB218_217.out; have hnb35 := NB217_219.out; have hnc35 := NB219_217.out; have hcz36_0 := bc0_ BK217.out; have hcz36_1 := bc1_ BK217.out; have hfz36_0 := blk_frozen BK217.out 0; have hfz36_1 := blk_frozen BK217.out 1; have hnb37 := NB218_219.out; have hnc37 := NB219_218.out; have hcz38_0 := bc0_ BK218.out; have hcz38_1 := bc1_ BK218.out; have hfz38_0 := blk_frozen BK218.out 0; have hfz38_1 := blk_frozen BK218.out 1; have hcz39_0 := bc0_ BK219.out; have hcz39_1 := bc1_ BK219.out; have hfz39_0 := blk_frozen BK219.out 0; have hfz39_1 := blk_frozen BK219.out 1) | ((with_reducible refine gate_callee (f := 14) rfl ?_); refine goesL_ (some 10) rfl rfl Try.func14 (by kernel_rfl) rfl #[.agg #[.slice A0_0 l0_0.length c0_0, .slice A0_1 l0_1.length c0_1], .agg #[.slice A1_0 l1_0.length c1_0, .slice A1_1 l1_1.length c1_1], .agg #[.slice A2_0 l2_0.length c2_0, .slice A2_1 l2_1.length c2_1]] rfl (by (try simp only [List.map_toArray, List.map_cons, List.map_nil]); first | done | rfl | (simp only [List.length_drop, List.length_take]; rfl)) ?_; (with_reducible refine (scarfjointref06_Valid.calls k _ _ l0_0 _ _ l0_1 _ _ l1_0 _ _ l1_1 _ _ l2_0 _ _ l2_1 t220 _ ?side1 ?side2 ?side3 ?side4 ?side5 ?side6 ?side7 ?side8 ?side9 ?side10 ?side11 ?side12 A4.out).mono ?_); (case side1 => exact mc_ (Kd.C_below HR0_0.out HB.out)); (case side2 => exact HC0_0.out); (case side3 => exact mc_ (Kd.C_below HR0_1.out HB.out)); (case side4 => exact HC0_1.out); (case side5 => exact mc_ (Kd.C_below HR1_0.out HB.out)); (case side6 => exact HC1_0.out); (case side7 => exact mc_ (Kd.C_below HR1_1.out HB.out)); (case side8 => exact HC1_1.out); (case side9 => exact mc_ (Kd.C_below HR2_0.out HB.out)); (case side10 => exact HC2_0.out); (case side11 => exact mc_ (Kd.C_below HR2_1.out HB.out)); (case side12 => exact HC2_1.out); rintro e w40 ⟨rfl, hb⟩; refine ⟨_, rfl, ?_⟩; replace BK217 := kb_ (bk_ BK217.out) hb; replace BK218 := kb_ (bk_ BK218.out) hb; replace BK219 := kb_ (bk_ BK219.out) hb; replace HB := Aside0.mk (below_step (mbs_ HB.out) hb); (try clear hb); (try clear hb2); (try clear hk); (try clear hi)))
 go_ret
 exact ⟨by first | rfl | (simp [errW_none, errW_some] <;> rfl) | (simp [*, errW_none, errW_some] <;> rfl), mbs_ HB.out⟩

/-! ### scarfjointref06_Covers: function 42 -/
mutual
def scarfjointref06_Covers.l0 : Nat → List Int → Int → Int → Option (Bool)
 | 0, _, _, _ => none
 | k + 1, x0, x1, x5 => if x5 < x1 then (scarfjointref06_Covers.l1 k x0 x1 x5 false 0) else (some true)
def scarfjointref06_Covers.l1 : Nat → List Int → Int → Int → Bool → Int → Option (Bool)
 | 0, _, _, _, _, _ => none
 | k + 1, x0, x1, x5, x6, x7 => if x7 < (x0.length : Int) then (if x6 = true then (scarfjointref06_Covers.l1 k x0 x1 x5 true (wrap64 (x7 + 1))) else (if 0 ≤ x7 then (scarfjointref06_Covers.l1 k x0 x1 x5 ((rd x0 x7) == x5) (wrap64 (x7 + 1))) else (none))) else (if x6 = true then (scarfjointref06_Covers.l0 k x0 x1 (wrap64 (x5 + 1))) else (some false))
end
def scarfjointref06_Covers.f (k : Nat) (l0 : List Int) (a1 : Int) : Option (Bool) := scarfjointref06_Covers.l0 k l0 a1 0
theorem scarfjointref06_Covers.mono_l : ∀ k, (∀ y0 y1 y2, LeO (scarfjointref06_Covers.l0 k y0 y1 y2) (scarfjointref06_Covers.l0 (k + 1) y0 y1 y2)) ∧ (∀ y0 y1 y2 y3 y4, LeO (scarfjointref06_Covers.l1 k y0 y1 y2 y3 y4) (scarfjointref06_Covers.l1 (k + 1) y0 y1 y2 y3 y4))
 | 0 => ⟨fun _ _ _ r h => by simp [scarfjointref06_Covers.l0] at h, fun _ _ _ _ _ r h => by simp [scarfjointref06_Covers.l1] at h⟩
 | k + 1 => by
  obtain ⟨ih0, ih1⟩ := scarfjointref06_Covers.mono_l k
  refine ⟨?_, ?_⟩
  ·intro y0 y1 y2
   unfold scarfjointref06_Covers.l0
   repeat' first
   | (with_reducible exact ih0 _ _ _)
   | (with_reducible exact ih1 _ _ _ _ _)
   | (with_reducible exact LeO.refl _)
   | (with_reducible exact LeO.none _)
   | (with_reducible refine LeO.ite ?_ ?_)
   | (with_reducible refine LeO.bind ?_ (fun _ => ?_))
   | exact ih0 _ _ _
   | exact ih1 _ _ _ _ _
   | exact LeO.none _
   | refine LeO.ite ?_ ?_
   | refine LeO.bind ?_ (fun _ => ?_)
  ·intro y0 y1 y2 y3 y4
   unfold scarfjointref06_Covers.l1
   repeat' first
   | (with_reducible exact ih0 _ _ _)
   | (with_reducible exact ih1 _ _ _ _ _)
   | (with_reducible exact LeO.refl _)
   | (with_reducible exact LeO.none _)
   | (with_reducible refine LeO.ite ?_ ?_)
   | (with_reducible refine LeO.bind ?_ (fun _ => ?_))
   | exact ih0 _ _ _
   | exact ih1 _ _ _ _ _
   | exact LeO.none _
   | refine LeO.ite ?_ ?_
   | refine LeO.bind ?_ (fun _ => ?_)
theorem scarfjointref06_Covers.mono : ∀ a0 a1 k, LeO (scarfjointref06_Covers.f k a0 a1) (scarfjointref06_Covers.f (k + 1) a0 a1) := by
 intro a0 a1 k
 obtain ⟨ih0, ih1⟩ := scarfjointref06_Covers.mono_l k
 unfold scarfjointref06_Covers.f
 repeat' first
   | (with_reducible exact ih0 _ _ _)
   | (with_reducible exact ih1 _ _ _ _ _)
   | (with_reducible exact LeO.refl _)
   | (with_reducible exact LeO.none _)
   | (with_reducible refine LeO.ite ?_ ?_)
   | (with_reducible refine LeO.bind ?_ (fun _ => ?_))
   | exact ih0 _ _ _
   | exact ih1 _ _ _ _ _
   | exact LeO.none _
   | refine LeO.ite ?_ ?_
   | refine LeO.bind ?_ (fun _ => ?_)
set_option maxHeartbeats 8000000 in
set_option maxRecDepth 100000 in
theorem scarfjointref06_Covers.calls (k : Nat) (A0 : Option Addr) (c0 : Nat) (l0 : List Int) (a1 : Int) (r : Bool) (w : World) (hr0 : Kd.C (Kd.int .i64) w A0 l0.length l0) (hc0 : l0.length ≤ c0) (h : scarfjointref06_Covers.f k l0 a1 = some r) :
  Calls Try.prog 42 #[.slice A0 l0.length c0, .int .i64 a1] w fun e w' => e = .returned (.bool r) ∧ Drawn0 w w' := by
 have HR0 := Aside0.mk hr0
 have HC0 := Aside0.mk hc0
 clear hr0 hc0
 have H : (scarfjointref06_Covers.l0 k l0 a1 0) = some r := h
 clear h
 have H' := Aside0.mk H
 clear H
 go_enter Try.func42, Try.ntmps42
 go_wp2
 go_loopg [5] k (fun kq v5 w' => ∃ (x5_1 : Int), v5 = .int .i64 x5_1 ∧ Aside0 (scarfjointref06_Covers.l0 kq l0 a1 x5_1 = some r) ∧ Aside0 (kq ≤ k) ∧ Drawn0 w w')
 case atStart => exact ⟨(0), (by first | rfl | (simp; done) | (simp [*]; done)), H', ⟨Nat.le_refl _⟩, by repeat (first | exact Drawn0.refl _ | apply Drawn0.step)⟩
 case round =>
  clear H'
  try clear p2
  obtain ⟨x5_1, rfl, HA, HK1, ⟨m1, rfl⟩⟩ := hrel
  cases gk with
  | zero => exact absurd HA.out (by simp [scarfjointref06_Covers.l0])
  | succ k1 =>
   have H := HA.out
   clear HA
   simp only [scarfjointref06_Covers.l0] at H
   by_cases c3 : x5_1 < a1
   ·rw [if_pos c3] at H
    have c3b0 : decide (x5_1 < a1) = true := decide_eq_true c3
    clear c3
    have H' := Aside0.mk H
    clear H
    go_wp2
    go_loopg [6, 7] k1 (fun kq v6 v7 w' => ∃ (x6_2 : Bool) (x7_2 : Int), v6 = .bool x6_2 ∧ v7 = .int .i64 x7_2 ∧ Aside0 (scarfjointref06_Covers.l1 kq l0 a1 x5_1 x6_2 x7_2 = some r) ∧ Aside0 (kq ≤ k1) ∧ Drawn0 w w')
    case atStart => exact ⟨(false), (0), (by first | rfl | (simp; done) | (simp [*]; done)), (by first | rfl | (simp; done) | (simp [*]; done)), H', ⟨Nat.le_refl _⟩, by repeat (first | exact Drawn0.refl _ | apply Drawn0.step)⟩
    case round =>
     clear H'
     try clear p2
     try clear c3
     try clear c3b0
     try clear p2
     obtain ⟨x6_2, x7_2, rfl, rfl, HA, HK2, ⟨m2, rfl⟩⟩ := hrel
     cases gk with
     | zero => exact absurd HA.out (by simp [scarfjointref06_Covers.l1])
     | succ k2 =>
      have H := HA.out
      clear HA
      simp only [scarfjointref06_Covers.l1] at H
      by_cases c4 : x7_2 < (l0.length : Int)
      ·rw [if_pos c4] at H
       have c4b0 : decide (x7_2 < (l0.length : Int)) = true := decide_eq_true c4
       clear c4
       by_cases c5 : x6_2 = true
       ·subst c5
        have H1 : (scarfjointref06_Covers.l1 k2 l0 a1 x5_1 true (wrap64 (x7_2 + 1))) = some r := by rw [if_pos rfl] at H; exact H
        clear H
        have H := H1
        clear H1
        have H' := Aside0.mk H
        clear H
        go_wp2
        go_roundg k2
        case measure => have := HK1.out; have := HK2.out; omega
        case rel => exact ⟨(true), (wrap64 (x7_2 + 1)), (by first | rfl | (simp; done) | (simp [*]; done)), (by first | rfl | (simp; done) | (simp [*]; done)), H', ⟨by have := HK1.out; have := HK2.out; omega⟩, by repeat (first | exact Drawn0.refl _ | apply Drawn0.step)⟩
       replace c5 := Bool.eq_false_iff.mpr c5
       subst c5
       have H1 : (if 0 ≤ x7_2 then (scarfjointref06_Covers.l1 k2 l0 a1 x5_1 ((rd l0 x7_2) == x5_1) (wrap64 (x7_2 + 1))) else (none)) = some r := by rw [if_neg (show ¬ (false = true) by decide)] at H; exact H
       clear H
       have H := H1
       clear H1
       by_cases c6 : 0 ≤ x7_2
       ·rw [if_pos c6] at H
        have c6b0 : decide (0 ≤ x7_2) = true := decide_eq_true c6
        clear c6
        have H' := Aside0.mk H
        clear H
        have p223 : 0 ≤ (x7_2 : Int) := of_decide_eq_true (by first | (with_reducible assumption) | assumption)
        have q223 : x7_2 < (l0.length : Int) := of_decide_eq_true (by first | (with_reducible assumption) | assumption)
        obtain ⟨ad223, e223, hx223_0⟩ := Kd.at_int HR0.out x7_2 p223 q223
        cases e223
        replace p223 := eq_true p223
        replace q223 := eq_true q223
        go_wp2
        go_roundg k2
        case measure => have := HK1.out; have := HK2.out; omega
        case rel => exact ⟨(((rd l0 x7_2) == x5_1)), (wrap64 (x7_2 + 1)), (by first | rfl | (simp; done) | (simp [*]; done)), (by first | rfl | (simp; done) | (simp [*]; done)), H', ⟨by have := HK1.out; have := HK2.out; omega⟩, by repeat (first | exact Drawn0.refl _ | apply Drawn0.step)⟩
       rw [if_neg c6] at H
       exact absurd H (by simp)
      rw [if_neg c4] at H
      have c4b0 : decide (x7_2 < (l0.length : Int)) = false := decide_eq_false c4
      clear c4
      by_cases c7 : x6_2 = true
      ·subst c7
       have H1 : (scarfjointref06_Covers.l0 k2 l0 a1 (wrap64 (x5_1 + 1))) = some r := by rw [if_pos rfl] at H; exact H
       clear H
       have H := H1
       clear H1
       have H' := Aside0.mk H
       clear H
       go_wp2
       go_roundg k2
       case measure => have := HK1.out; have := HK2.out; omega
       case rel => exact ⟨(wrap64 (x5_1 + 1)), (by first | rfl | (simp; done) | (simp [*]; done)), H', ⟨by have := HK1.out; have := HK2.out; omega⟩, by repeat (first | exact Drawn0.refl _ | apply Drawn0.step)⟩
      replace c7 := Bool.eq_false_iff.mpr c7
      subst c7
      have H1 : (some false) = some r := by rw [if_neg (show ¬ (false = true) by decide)] at H; exact H
      clear H
      have H := H1
      clear H1
      obtain rfl := Option.some.inj H
      go_wp2
      go_ret
      exact ⟨by first | rfl | (simp; done) | (simp [*]; done), by repeat (first | exact Drawn0.refl _ | apply Drawn0.step)⟩
   rw [if_neg c3] at H
   have c3b0 : decide (x5_1 < a1) = false := decide_eq_false c3
   clear c3
   obtain rfl := Option.some.inj H
   go_wp2
   go_ret
   exact ⟨by first | rfl | (simp; done) | (simp [*]; done), by repeat (first | exact Drawn0.refl _ | apply Drawn0.step)⟩

/-! ### scarfjointref06_Surjective: function 18 -/
def scarfjointref06_Surjective.f (k : Nat) (l0_0 : List Int) (l0_1 : List (S65)) (l1_0 : List Int) (l1_1 : List (S65)) (l2_0 : List Int) (l2_1 : List Int) : Option (Bool) := (scarfjointref06_Valid.f k l0_0 l0_1 l1_0 l1_1 l2_0 l2_1).bind fun t227 => (if t227 = 0 then ((scarfjointref06_Covers.f k l2_0 (l1_0.length : Int)).bind fun t228 => (if t228 = true then ((scarfjointref06_Covers.f k l2_1 (l1_1.length : Int)).bind fun t229 => (some t229)) else (some false))) else (some false))
theorem scarfjointref06_Surjective.mono : ∀ a0 a1 a2 a3 a4 a5 k, LeO (scarfjointref06_Surjective.f k a0 a1 a2 a3 a4 a5) (scarfjointref06_Surjective.f (k + 1) a0 a1 a2 a3 a4 a5) := by
 intro a0 a1 a2 a3 a4 a5 k
 unfold scarfjointref06_Surjective.f
 repeat' first
   | (with_reducible exact scarfjointref06_Covers.mono _ _ _)
   | (with_reducible exact scarfjointref06_Valid.mono _ _ _ _ _ _ _)
   | (with_reducible exact LeO.refl _)
   | (with_reducible exact LeO.none _)
   | (with_reducible refine LeO.ite ?_ ?_)
   | (with_reducible refine LeO.bind ?_ (fun _ => ?_))
   | exact scarfjointref06_Covers.mono _ _ _
   | exact scarfjointref06_Valid.mono _ _ _ _ _ _ _
   | exact LeO.none _
   | refine LeO.ite ?_ ?_
   | refine LeO.bind ?_ (fun _ => ?_)
set_option maxHeartbeats 8000000 in
set_option maxRecDepth 100000 in
theorem scarfjointref06_Surjective.calls (k : Nat) (A0_0 : Option Addr) (c0_0 : Nat) (l0_0 : List Int) (A0_1 : Option Addr) (c0_1 : Nat) (l0_1 : List (S65)) (A1_0 : Option Addr) (c1_0 : Nat) (l1_0 : List Int) (A1_1 : Option Addr) (c1_1 : Nat) (l1_1 : List (S65)) (A2_0 : Option Addr) (c2_0 : Nat) (l2_0 : List Int) (A2_1 : Option Addr) (c2_1 : Nat) (l2_1 : List Int) (r : Bool) (w : World) (hr0_0 : Kd.C (Kd.int .i64) w A0_0 l0_0.length l0_0) (hc0_0 : l0_0.length ≤ c0_0) (hr0_1 : Kd.C k65 w A0_1 l0_1.length l0_1) (hc0_1 : l0_1.length ≤ c0_1) (hr1_0 : Kd.C (Kd.int .i64) w A1_0 l1_0.length l1_0) (hc1_0 : l1_0.length ≤ c1_0) (hr1_1 : Kd.C k65 w A1_1 l1_1.length l1_1) (hc1_1 : l1_1.length ≤ c1_1) (hr2_0 : Kd.C (Kd.int .i64) w A2_0 l2_0.length l2_0) (hc2_0 : l2_0.length ≤ c2_0) (hr2_1 : Kd.C (Kd.int .i64) w A2_1 l2_1.length l2_1) (hc2_1 : l2_1.length ≤ c2_1) (h : scarfjointref06_Surjective.f k l0_0 l0_1 l1_0 l1_1 l2_0 l2_1 = some r) :
  Calls Try.prog 18 #[.agg #[.slice A0_0 l0_0.length c0_0, .slice A0_1 l0_1.length c0_1], .agg #[.slice A1_0 l1_0.length c1_0, .slice A1_1 l1_1.length c1_1], .agg #[.slice A2_0 l2_0.length c2_0, .slice A2_1 l2_1.length c2_1]] w fun e w' => e = .returned (.bool r) ∧ Below w.heap.size w w' := by
 have hu25 := Try.underlying25
 have hu27 := Try.underlying27
 have HR0_0 := Aside0.mk hr0_0
 have HC0_0 := Aside0.mk hc0_0
 clear hr0_0 hc0_0
 have HR0_1 := Aside0.mk hr0_1
 have HC0_1 := Aside0.mk hc0_1
 clear hr0_1 hc0_1
 have HR1_0 := Aside0.mk hr1_0
 have HC1_0 := Aside0.mk hc1_0
 clear hr1_0 hc1_0
 have HR1_1 := Aside0.mk hr1_1
 have HC1_1 := Aside0.mk hc1_1
 clear hr1_1 hc1_1
 have HR2_0 := Aside0.mk hr2_0
 have HC2_0 := Aside0.mk hc2_0
 clear hr2_0 hc2_0
 have HR2_1 := Aside0.mk hr2_1
 have HC2_1 := Aside0.mk hc2_1
 clear hr2_1 hc2_1
 have HB := Aside0.mk (Below.refl w.heap.size w)
 have H : ((scarfjointref06_Valid.f k l0_0 l0_1 l1_0 l1_1 l2_0 l2_1).bind fun t227 => (if t227 = 0 then ((scarfjointref06_Covers.f k l2_0 (l1_0.length : Int)).bind fun t228 => (if t228 = true then ((scarfjointref06_Covers.f k l2_1 (l1_1.length : Int)).bind fun t229 => (some t229)) else (some false))) else (some false))) = some r := h
 clear h
 replace H := Option.bind_eq_some_iff.mp H
 obtain ⟨t227, A40, H⟩ := H
 replace H : (if t227 = 0 then ((scarfjointref06_Covers.f k l2_0 (l1_0.length : Int)).bind fun t228 => (if t228 = true then ((scarfjointref06_Covers.f k l2_1 (l1_1.length : Int)).bind fun t229 => (some t229)) else (some false))) else (some false)) = some r := H
 have A4 := Aside0.mk A40
 clear A40
 by_cases c5 : t227 = 0
 ·rw [if_pos c5] at H
  have c5b0 : (t227 == 0) = true := beq_iff_eq.mpr c5
  have c5b1 : (t227 != 0) = false := bne_eq_false_iff_eq.mpr c5
  clear c5
  replace H := Option.bind_eq_some_iff.mp H
  obtain ⟨t228, A60, H⟩ := H
  replace H : (if t228 = true then ((scarfjointref06_Covers.f k l2_1 (l1_1.length : Int)).bind fun t229 => (some t229)) else (some false)) = some r := H
  have A6 := Aside0.mk A60
  clear A60
  by_cases c7 : t228 = true
  ·subst c7
   have H1 : ((scarfjointref06_Covers.f k l2_1 (l1_1.length : Int)).bind fun t229 => (some t229)) = some r := by rw [if_pos rfl] at H; exact H
   clear H
   have H := H1
   clear H1
   replace H := Option.bind_eq_some_iff.mp H
   obtain ⟨t229, A80, H⟩ := H
   replace H : (some t229) = some r := H
   have A8 := Aside0.mk A80
   clear A80
   obtain rfl := Option.some.inj H
   go_enter Try.func18, Try.ntmps18
   go_wp2_with (first | ((with_reducible refine gate_dst (N := 3) rfl ?_); (try (refine gate_guard (by rfl) ?_; dsimp only)); refine box_event ?hg (N := 3) ?hd (cs := #[.slice A0_0 l0_0.length c0_0, .slice A0_1 l0_1.length c0_1]) (t := 25) ?hr ?_; (case hd => rfl); (case hg => rfl); (case hr => first | (go_simp; done) | (go_simp; rfl)); intro gb224 hg w9 hbox hb; have BK224 := Aside0.mk (hbox); have GW224 := Aside0.mk (gw_ hg (mb_ HB.out)); have GE224 := Aside0.mk (gw_ hg (mb_ HB.out)); replace HB := Aside0.mk (below_step (mb_ HB.out) hb); clear hb hbox hg) | ((with_reducible refine gate_dst (N := 4) rfl ?_); (try (refine gate_guard (by rfl) ?_; dsimp only)); refine box_event ?hg (N := 4) ?hd (cs := #[.slice A1_0 l1_0.length c1_0, .slice A1_1 l1_1.length c1_1]) (t := 25) ?hr ?_; (case hd => rfl); (case hg => rfl); (case hr => first | (go_simp; done) | (go_simp; rfl)); intro gb225 hg w10 hbox hb; have BK225 := Aside0.mk (hbox); have GW225 := Aside0.mk (gw_ hg (mbs_ HB.out)); have GE225 := Aside0.mk (gw_ hg (mbs_ HB.out)); replace HB := Aside0.mk (below_step (mbs_ HB.out) hb); have NB224_225 := Aside0.mk (nb_ hg (bk_ BK224.out)); have NB225_224 := Aside0.mk (nc_ hg (bk_ BK224.out)); replace BK224 := kb_ (bk_ BK224.out) hb; clear hb hbox hg) | ((with_reducible refine gate_dst (N := 5) rfl ?_); (try (refine gate_guard (by rfl) ?_; dsimp only)); refine box_event ?hg (N := 5) ?hd (cs := #[.slice A2_0 l2_0.length c2_0, .slice A2_1 l2_1.length c2_1]) (t := 27) ?hr ?_; (case hd => rfl); (case hg => rfl); (case hr => first | (go_simp; done) | (go_simp; rfl)); intro gb226 hg w11 hbox hb; have BK226 := Aside0.mk (hbox); have GW226 := Aside0.mk (gw_ hg (mbs_ HB.out)); have GE226 := Aside0.mk (gw_ hg (mbs_ HB.out)); replace HB := Aside0.mk (below_step (mbs_ HB.out) hb); have NB224_226 := Aside0.mk (nb_ hg (bk_ BK224.out)); have NB226_224 := Aside0.mk (nc_ hg (bk_ BK224.out)); replace BK224 := kb_ (bk_ BK224.out) hb; have NB225_226 := Aside0.mk (nb_ hg (bk_ BK225.out)); have NB226_225 := Aside0.mk (nc_ hg (bk_ BK225.out)); replace BK225 := kb_ (bk_ BK225.out) hb; clear hb hbox hg; have hnb12 := NB224_225.out; have hnc12 := NB225_224.out; have hnb13 := NB224_226.out; have hnc13 := NB226_224.out; have hcz14_0 := bc0_ BK224.out; have hcz14_1 := bc1_ BK224.out; have hfz14_0 := blk_frozen BK224.out 0; have hfz14_1 := blk_frozen BK224.out 1; have hnb15 := NB225_226.out; have hnc15 := NB226_225.out; have hcz16_0 := bc0_ BK225.out; have hcz16_1 := bc1_ BK225.out; have hfz16_0 := blk_frozen BK225.out 0; have hfz16_1 := blk_frozen BK225.out 1; have hcz17_0 := bc0_ BK226.out; have hcz17_1 := bc1_ BK226.out; have hfz17_0 := blk_frozen BK226.out 0; have hfz17_1 := blk_frozen BK226.out 1) | ((with_reducible refine gate_callee (f := 14) rfl ?_); refine goesL_ (some 10) rfl rfl Try.func14 (by kernel_rfl) rfl #[.agg #[.slice A0_0 l0_0.length c0_0, .slice A0_1 l0_1.length c0_1], .agg #[.slice A1_0 l1_0.length c1_0, .slice A1_1 l1_1.length c1_1], .agg #[.slice A2_0 l2_0.length c2_0, .slice A2_1 l2_1.length c2_1]] rfl (by (try simp only [List.map_toArray, List.map_cons, List.map_nil]); first | done | rfl | (simp only [List.length_drop, List.length_take]; rfl)) ?_; (with_reducible refine (scarfjointref06_Valid.calls k _ _ l0_0 _ _ l0_1 _ _ l1_0 _ _ l1_1 _ _ l2_0 _ _ l2_1 t227 _ ?side1 ?side2 ?side3 ?side4 ?side5 ?side6 ?side7 ?side8 ?side9 ?side10 ?side11 ?side12 A4.out).mono ?_); (case side1 => exact mc_ (Kd.C_below HR0_0.out HB.out)); (case side2 => exact HC0_0.out); (case side3 => exact mc_ (Kd.C_below HR0_1.out HB.out)); (case side4 => exact HC0_1.out); (case side5 => exact mc_ (Kd.C_below HR1_0.out HB.out)); (case side6 => exact HC1_0.out); (case side7 => exact mc_ (Kd.C_below HR1_1.out HB.out)); (case side8 => exact HC1_1.out); (case side9 => exact mc_ (Kd.C_below HR2_0.out HB.out)); (case side10 => exact HC2_0.out); (case side11 => exact mc_ (Kd.C_below HR2_1.out HB.out)); (case side12 => exact HC2_1.out); rintro e w18 ⟨rfl, hb⟩; refine ⟨_, rfl, ?_⟩; replace BK224 := kb_ (bk_ BK224.out) hb; replace BK225 := kb_ (bk_ BK225.out) hb; replace BK226 := kb_ (bk_ BK226.out) hb; replace HB := Aside0.mk (below_step (mbs_ HB.out) hb); (try clear hb); (try clear hb2); (try clear hk); (try clear hi); have hcz19_0 := bc0_ BK226.out; have hcz19_1 := bc1_ BK226.out; have hfz19_0 := blk_frozen BK226.out 0; have hfz19_1 := blk_frozen BK226.out 1; have hcz20_0 := bc0_ BK225.out; have hcz20_1 := bc1_ BK225.out; have hfz20_0 := blk_frozen BK225.out 0; have hfz20_1 := blk_frozen BK225.out 1) | (go_at_call 42; (with_reducible refine (scarfjointref06_Covers.calls k _ _ l2_0 (l1_0.length : Int) true _ ?side1 ?side2 A6.out).mono ?_); (case side1 => exact mc_ (Kd.C_below HR2_0.out HB.out)); (case side2 => exact HC2_0.out); rintro e w' ⟨rfl, ⟨nd, rfl⟩⟩) | (go_at_call 42; (with_reducible refine (scarfjointref06_Covers.calls k _ _ l2_1 (l1_1.length : Int) t229 _ ?side1 ?side2 A8.out).mono ?_); (case side1 => repeat (first | exact (Kd.C_below HR2_1.out (mbs_ HB.out)) | (with_reducible refine Kd.C_alloc ?_ _) | (with_reducible refine Kd.C_drewN ?_ _) | (with_reducible refine Kd.C_drew ?_))); (case side2 => exact HC2_1.out); rintro e w' ⟨rfl, ⟨nd, rfl⟩⟩))
   go_ret
   exact ⟨by first | rfl | (simp [errW_none, errW_some] <;> rfl) | (simp [*, errW_none, errW_some] <;> rfl), mbs_ HB.out⟩
  replace c7 := Bool.eq_false_iff.mpr c7
  subst c7
  have H1 : (some false) = some r := by rw [if_neg (show ¬ (false = true) by decide)] at H; exact H
  clear H
  have H := H1
  clear H1
  obtain rfl := Option.some.inj H
  go_enter Try.func18, Try.ntmps18
  go_wp2_with (first | ((with_reducible refine gate_dst (N := 3) rfl ?_); (try (refine gate_guard (by rfl) ?_; dsimp only)); refine box_event ?hg (N := 3) ?hd (cs := #[.slice A0_0 l0_0.length c0_0, .slice A0_1 l0_1.length c0_1]) (t := 25) ?hr ?_; (case hd => rfl); (case hg => rfl); (case hr => first | (go_simp; done) | (go_simp; rfl)); intro gb224 hg w21 hbox hb; have BK224 := Aside0.mk (hbox); have GW224 := Aside0.mk (gw_ hg (mb_ HB.out)); have GE224 := Aside0.mk (gw_ hg (mb_ HB.out)); replace HB := Aside0.mk (below_step (mb_ HB.out) hb); clear hb hbox hg) | ((with_reducible refine gate_dst (N := 4) rfl ?_); (try (refine gate_guard (by rfl) ?_; dsimp only)); refine box_event ?hg (N := 4) ?hd (cs := #[.slice A1_0 l1_0.length c1_0, .slice A1_1 l1_1.length c1_1]) (t := 25) ?hr ?_; (case hd => rfl); (case hg => rfl); (case hr => first | (go_simp; done) | (go_simp; rfl)); intro gb225 hg w22 hbox hb; have BK225 := Aside0.mk (hbox); have GW225 := Aside0.mk (gw_ hg (mbs_ HB.out)); have GE225 := Aside0.mk (gw_ hg (mbs_ HB.out)); replace HB := Aside0.mk (below_step (mbs_ HB.out) hb); have NB224_225 := Aside0.mk (nb_ hg (bk_ BK224.out)); have NB225_224 := Aside0.mk (nc_ hg (bk_ BK224.out)); replace BK224 := kb_ (bk_ BK224.out) hb; clear hb hbox hg) | ((with_reducible refine gate_dst (N := 5) rfl ?_); (try (refine gate_guard (by rfl) ?_; dsimp only)); refine box_event ?hg (N := 5) ?hd (cs := #[.slice A2_0 l2_0.length c2_0, .slice A2_1 l2_1.length c2_1]) (t := 27) ?hr ?_; (case hd => rfl); (case hg => rfl); (case hr => first | (go_simp; done) | (go_simp; rfl)); intro gb226 hg w23 hbox hb; have BK226 := Aside0.mk (hbox); have GW226 := Aside0.mk (gw_ hg (mbs_ HB.out)); have GE226 := Aside0.mk (gw_ hg (mbs_ HB.out)); replace HB := Aside0.mk (below_step (mbs_ HB.out) hb); have NB224_226 := Aside0.mk (nb_ hg (bk_ BK224.out)); have NB226_224 := Aside0.mk (nc_ hg (bk_ BK224.out)); replace BK224 := kb_ (bk_ BK224.out) hb; have NB225_226 := Aside0.mk (nb_ hg (bk_ BK225.out)); have NB226_225 := Aside0.mk (nc_ hg (bk_ BK225.out)); replace BK225 := kb_ (bk_ BK225.out) hb; clear hb hbox hg; have hnb24 := NB224_225.out; have hnc24 := NB225_224.out; have hnb25 := NB224_226.out; have hnc25 := NB226_224.out; have hcz26_0 := bc0_ BK224.out; have hcz26_1 := bc1_ BK224.out; have hfz26_0 := blk_frozen BK224.out 0; have hfz26_1 := blk_frozen BK224.out 1; have hnb27 := NB225_226.out; have hnc27 := NB226_225.out; have hcz28_0 := bc0_ BK225.out; have hcz28_1 := bc1_ BK225.out; have hfz28_0 := blk_frozen BK225.out 0; have hfz28_1 := blk_frozen BK225.out 1; have hcz29_0 := bc0_ BK226.out; have hcz29_1 := bc1_ BK226.out; have hfz29_0 := blk_frozen BK226.out 0; have hfz29_1 := blk_frozen BK226.out 1) | ((with_reducible refine gate_callee (f := 14) rfl ?_); refine goesL_ (some 10) rfl rfl Try.func14 (by kernel_rfl) rfl #[.agg #[.slice A0_0 l0_0.length c0_0, .slice A0_1 l0_1.length c0_1], .agg #[.slice A1_0 l1_0.length c1_0, .slice A1_1 l1_1.length c1_1], .agg #[.slice A2_0 l2_0.length c2_0, .slice A2_1 l2_1.length c2_1]] rfl (by (try simp only [List.map_toArray, List.map_cons, List.map_nil]); first | done | rfl | (simp only [List.length_drop, List.length_take]; rfl)) ?_; (with_reducible refine (scarfjointref06_Valid.calls k _ _ l0_0 _ _ l0_1 _ _ l1_0 _ _ l1_1 _ _ l2_0 _ _ l2_1 t227 _ ?side1 ?side2 ?side3 ?side4 ?side5 ?side6 ?side7 ?side8 ?side9 ?side10 ?side11 ?side12 A4.out).mono ?_); (case side1 => exact mc_ (Kd.C_below HR0_0.out HB.out)); (case side2 => exact HC0_0.out); (case side3 => exact mc_ (Kd.C_below HR0_1.out HB.out)); (case side4 => exact HC0_1.out); (case side5 => exact mc_ (Kd.C_below HR1_0.out HB.out)); (case side6 => exact HC1_0.out); (case side7 => exact mc_ (Kd.C_below HR1_1.out HB.out)); (case side8 => exact HC1_1.out); (case side9 => exact mc_ (Kd.C_below HR2_0.out HB.out)); (case side10 => exact HC2_0.out); (case side11 => exact mc_ (Kd.C_below HR2_1.out HB.out)); (case side12 => exact HC2_1.out); rintro e w30 ⟨rfl, hb⟩; refine ⟨_, rfl, ?_⟩; replace BK224 := kb_ (bk_ BK224.out) hb; replace BK225 := kb_ (bk_ BK225.out) hb; replace BK226 := kb_ (bk_ BK226.out) hb; replace HB := Aside0.mk (below_step (mbs_ HB.out) hb); (try clear hb); (try clear hb2); (try clear hk); (try clear hi); have hcz31_0 := bc0_ BK226.out; have hcz31_1 := bc1_ BK226.out; have hfz31_0 := blk_frozen BK226.out 0; have hfz31_1 := blk_frozen BK226.out 1; have hcz32_0 := bc0_ BK225.out; have hcz32_1 := bc1_ BK225.out; have hfz32_0 := blk_frozen BK225.out 0; have hfz32_1 := blk_frozen BK225.out 1) | (go_at_call 42; (with_reducible refine (scarfjointref06_Covers.calls k _ _ l2_0 (l1_0.length : Int) false _ ?side1 ?side2 A6.out).mono ?_); (case side1 => exact mc_ (Kd.C_below HR2_0.out HB.out)); (case side2 => exact HC2_0.out); rintro e w' ⟨rfl, ⟨nd, rfl⟩⟩))
  go_ret
  exact ⟨by first | rfl | (simp [errW_none, errW_some] <;> rfl) | (simp [*, errW_none, errW_some] <;> rfl), mbs_ HB.out⟩
 rw [if_neg c5] at H
 have c5b0 : (t227 == 0) = false := beq_eq_false_iff_ne.mpr c5
 have c5b1 : (t227 != 0) = true := bne_iff_ne.mpr c5
 obtain rfl := Option.some.inj H
 go_enter Try.func18, Try.ntmps18
 go_wp2_with (first | ((with_reducible refine gate_dst (N := 3) rfl ?_); (try (refine gate_guard (by rfl) ?_; dsimp only)); refine box_event ?hg (N := 3) ?hd (cs := #[.slice A0_0 l0_0.length c0_0, .slice A0_1 l0_1.length c0_1]) (t := 25) ?hr ?_; (case hd => rfl); (case hg => rfl); (case hr => first | (go_simp; done) | (go_simp; rfl)); intro gb224 hg w33 hbox hb; have BK224 := Aside0.mk (hbox); have GW224 := Aside0.mk (gw_ hg (mb_ HB.out)); have GE224 := Aside0.mk (gw_ hg (mb_ HB.out)); replace HB := Aside0.mk (below_step (mb_ HB.out) hb); clear hb hbox hg) | ((with_reducible refine gate_dst (N := 4) rfl ?_); (try (refine gate_guard (by rfl) ?_; dsimp only)); refine box_event ?hg (N := 4) ?hd (cs := #[.slice A1_0 l1_0.length c1_0, .slice A1_1 l1_1.length c1_1]) (t := 25) ?hr ?_; (case hd => rfl); (case hg => rfl); (case hr => first | (go_simp; done) | (go_simp; rfl)); intro gb225 hg w34 hbox hb; have BK225 := Aside0.mk (hbox); have GW225 := Aside0.mk (gw_ hg (mbs_ HB.out)); have GE225 := Aside0.mk (gw_ hg (mbs_ HB.out)); replace HB := Aside0.mk (below_step (mbs_ HB.out) hb); have NB224_225 := Aside0.mk (nb_ hg (bk_ BK224.out)); have NB225_224 := Aside0.mk (nc_ hg (bk_ BK224.out)); replace BK224 := kb_ (bk_ BK224.out) hb; clear hb hbox hg) | ((with_reducible refine gate_dst (N := 5) rfl ?_); (try (refine gate_guard (by rfl) ?_; dsimp only)); refine box_event ?hg (N := 5) ?hd (cs := #[.slice A2_0 l2_0.length c2_0, .slice A2_1 l2_1.length c2_1]) (t := 27) ?hr ?_; (case hd => rfl); (case hg => rfl); (case hr => first | (go_simp; done) | (go_simp; rfl)); intro gb226 hg w35 hbox hb; have BK226 := Aside0.mk (hbox); have GW226 := Aside0.mk (gw_ hg (mbs_ HB.out)); have GE226 := Aside0.mk (gw_ hg (mbs_ HB.out)); replace HB := Aside0.mk (below_step (mbs_ HB.out) hb); have NB224_226 := Aside0.mk (nb_ hg (bk_ BK224.out)); have NB226_224 := Aside0.mk (nc_ hg (bk_ BK224.out)); replace BK224 := kb_ (bk_ BK224.out) hb; have NB225_226 := Aside0.mk (nb_ hg (bk_ BK225.out)); have NB226_225 := Aside0.mk (nc_ hg (bk_ BK225.out)); replace BK225 := kb_ (bk_ BK225.out) hb; clear hb hbox hg; have hnb36 := NB224_225.out; have hnc36 := NB225_224.out; have hnb37 := NB224_226.out; have hnc37 := NB226_224.out; have hcz38_0 := bc0_ BK224.out; have hcz38_1 := bc1_ BK224.out; have hfz38_0 := blk_frozen BK224.out 0; have hfz38_1 := blk_frozen BK224.out 1; have hnb39 := NB225_226.out; have hnc39 := NB226_225.out; have hcz40_0 := bc0_ BK225.out; have hcz40_1 := bc1_ BK225.out; have hfz40_0 := blk_frozen BK225.out 0; have hfz40_1 := blk_frozen BK225.out 1; have hcz41_0 := bc0_ BK226.out; have hcz41_1 := bc1_ BK226.out; have hfz41_0 := blk_frozen BK226.out 0; have hfz41_1 := blk_frozen BK226.out 1) | ((with_reducible refine gate_callee (f := 14) rfl ?_); refine goesL_ (some 10) rfl rfl Try.func14 (by kernel_rfl) rfl #[.agg #[.slice A0_0 l0_0.length c0_0, .slice A0_1 l0_1.length c0_1], .agg #[.slice A1_0 l1_0.length c1_0, .slice A1_1 l1_1.length c1_1], .agg #[.slice A2_0 l2_0.length c2_0, .slice A2_1 l2_1.length c2_1]] rfl (by (try simp only [List.map_toArray, List.map_cons, List.map_nil]); first | done | rfl | (simp only [List.length_drop, List.length_take]; rfl)) ?_; (with_reducible refine (scarfjointref06_Valid.calls k _ _ l0_0 _ _ l0_1 _ _ l1_0 _ _ l1_1 _ _ l2_0 _ _ l2_1 t227 _ ?side1 ?side2 ?side3 ?side4 ?side5 ?side6 ?side7 ?side8 ?side9 ?side10 ?side11 ?side12 A4.out).mono ?_); (case side1 => exact mc_ (Kd.C_below HR0_0.out HB.out)); (case side2 => exact HC0_0.out); (case side3 => exact mc_ (Kd.C_below HR0_1.out HB.out)); (case side4 => exact HC0_1.out); (case side5 => exact mc_ (Kd.C_below HR1_0.out HB.out)); (case side6 => exact HC1_0.out); (case side7 => exact mc_ (Kd.C_below HR1_1.out HB.out)); (case side8 => exact HC1_1.out); (case side9 => exact mc_ (Kd.C_below HR2_0.out HB.out)); (case side10 => exact HC2_0.out); (case side11 => exact mc_ (Kd.C_below HR2_1.out HB.out)); (case side12 => exact HC2_1.out); rintro e w42 ⟨rfl, hb⟩; refine ⟨_, rfl, ?_⟩; replace BK224 := kb_ (bk_ BK224.out) hb; replace BK225 := kb_ (bk_ BK225.out) hb; replace BK226 := kb_ (bk_ BK226.out) hb; replace HB := Aside0.mk (below_step (mbs_ HB.out) hb); (try clear hb); (try clear hb2); (try clear hk); (try clear hi)))
 go_ret
 exact ⟨by first | rfl | (simp [errW_none, errW_some] <;> rfl) | (simp [*, errW_none, errW_some] <;> rfl), mbs_ HB.out⟩

end Go.Proofs.Ytklacpdobpkbbaa.P
