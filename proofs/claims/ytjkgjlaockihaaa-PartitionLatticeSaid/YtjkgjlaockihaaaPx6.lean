-- Written by wip/drive.py of this session's repo over the kit's print.py (with contracts of the session's own): not the print's own text
import Derived.Test.YtjkgjlaockihaaaPx0
import Derived.Test.YtjkgjlaockihaaaPx4
namespace Go.Proofs.Ytjkgjlaockihaaa.P
open Go.RowKit Go.Proofs.YtjkgjlaockihaaaW.PrintWords Go.Proofs.YtjkgjlaockihaaaW.PrintLast Go.Proofs.YtjkgjlaockihaaaW.PrintMore
attribute [local go_sem] max2_int min2_int max_two min_two max_three min_three max_four min_four   -- for this text's walks alone
set_option linter.unusedVariables false
set_option linter.unusedSimpArgs false

/-! ### scarfjointref02_Finer: function 20 -/
def scarfjointref02_Finer.l0 : Nat → List Int → List Int → Int → Option (Bool)
  | 0, _, _, _ => none
  | k + 1, x0, x1, x5 => if x5 < (x0.length : Int) then (if 0 ≤ x5 then (if x5 < (x1.length : Int) then (if 0 ≤ (rd x0 x5) then (if (rd x0 x5) < (x1.length : Int) then (if (rd x1 x5) = (rd x1 (rd x0 x5)) then (scarfjointref02_Finer.l0 k x0 x1 (wrap64 (x5 + 1))) else (some false)) else (none)) else (none)) else (none)) else (none)) else (some true)
def scarfjointref02_Finer.f (k : Nat) (l0 : List Int) (l1 : List Int) : Option (Bool) := (scarfjointref02_both.f k l0 l1).bind fun t253 => (if t253 = 0 then (scarfjointref02_Finer.l0 k l0 l1 0) else (some false))
theorem scarfjointref02_Finer.mono_l : ∀ k, (∀ y0 y1 y2, LeO (scarfjointref02_Finer.l0 k y0 y1 y2) (scarfjointref02_Finer.l0 (k + 1) y0 y1 y2))
  | 0 => fun _ _ _ r h => by simp [scarfjointref02_Finer.l0] at h
  | k + 1 => by
    have ih0 := scarfjointref02_Finer.mono_l k
    · intro y0 y1 y2
      unfold scarfjointref02_Finer.l0
      repeat' first
      | (with_reducible exact ih0 _ _ _)
      | (with_reducible exact scarfjointref02_both.mono _ _ _)
      | (with_reducible exact LeO.refl _)
      | (with_reducible exact LeO.none _)
      | (with_reducible refine LeO.ite ?_ ?_)
      | (with_reducible refine LeO.bind ?_ (fun _ => ?_))
      | exact ih0 _ _ _
      | exact scarfjointref02_both.mono _ _ _
      | exact LeO.none _
      | refine LeO.ite ?_ ?_
      | refine LeO.bind ?_ (fun _ => ?_)
theorem scarfjointref02_Finer.mono : ∀ a0 a1 k, LeO (scarfjointref02_Finer.f k a0 a1) (scarfjointref02_Finer.f (k + 1) a0 a1) := by
  intro a0 a1 k
  have ih0 := scarfjointref02_Finer.mono_l k
  unfold scarfjointref02_Finer.f
  repeat' first
      | (with_reducible exact ih0 _ _ _)
      | (with_reducible exact scarfjointref02_both.mono _ _ _)
      | (with_reducible exact LeO.refl _)
      | (with_reducible exact LeO.none _)
      | (with_reducible refine LeO.ite ?_ ?_)
      | (with_reducible refine LeO.bind ?_ (fun _ => ?_))
      | exact ih0 _ _ _
      | exact scarfjointref02_both.mono _ _ _
      | exact LeO.none _
      | refine LeO.ite ?_ ?_
      | refine LeO.bind ?_ (fun _ => ?_)
set_option maxHeartbeats 8000000 in
set_option maxRecDepth 100000 in
theorem scarfjointref02_Finer.calls (k : Nat) (A0 : Option Addr) (c0 : Nat) (l0 : List Int) (A1 : Option Addr) (c1 : Nat) (l1 : List Int) (r : Bool) (w : World) (hr0 : Kd.C (Kd.int .i64) w A0 l0.length l0) (hc0 : l0.length ≤ c0) (hr1 : Kd.C (Kd.int .i64) w A1 l1.length l1) (hc1 : l1.length ≤ c1) (h : scarfjointref02_Finer.f k l0 l1 = some r) :
    Calls Try.prog 20 #[.slice A0 l0.length c0, .slice A1 l1.length c1] w fun e w' => e = .returned (.bool r) ∧ Drawn0 w w' := by
  have HR0 := Aside0.mk hr0
  have HC0 := Aside0.mk hc0
  clear hr0 hc0
  have HR1 := Aside0.mk hr1
  have HC1 := Aside0.mk hc1
  clear hr1 hc1
  have H : ((scarfjointref02_both.f k l0 l1).bind fun t253 => (if t253 = 0 then (scarfjointref02_Finer.l0 k l0 l1 0) else (some false))) = some r := h
  clear h
  replace H := Option.bind_eq_some_iff.mp H
  obtain ⟨t253, A30, H⟩ := H
  replace H : (if t253 = 0 then (scarfjointref02_Finer.l0 k l0 l1 0) else (some false)) = some r := H
  have A3 := Aside0.mk A30
  clear A30
  by_cases c4 : t253 = 0
  · rw [if_pos c4] at H
    have c4b0 : (t253 == 0) = true := beq_iff_eq.mpr c4
    have c4b1 : (t253 != 0) = false := bne_eq_false_iff_eq.mpr c4
    clear c4
    have H' := Aside0.mk H
    clear H
    go_enter Try.func20, Try.ntmps20
    go_wp2_with (first | (go_at_call 36; (with_reducible refine (scarfjointref02_both.calls k _ _ l0 _ _ l1 t253 _ ?side1 ?side2 ?side3 ?side4 A3.out).mono ?_); (case side1 => repeat (first | exact HR0.out | (with_reducible refine Kd.C_alloc ?_ _) | (with_reducible refine Kd.C_drewN ?_ _) | (with_reducible refine Kd.C_drew ?_))); (case side2 => exact HC0.out); (case side3 => repeat (first | exact HR1.out | (with_reducible refine Kd.C_alloc ?_ _) | (with_reducible refine Kd.C_drewN ?_ _) | (with_reducible refine Kd.C_drew ?_))); (case side4 => exact HC1.out); rintro e w' ⟨rfl, ⟨nd, rfl⟩⟩; (try first | exact ⟨rfl, _, World.drewN_drewN _ _ _⟩ | exact ⟨rfl, _, Eq.trans (World.drewN_drewN _ _ _) (congrArg (World.drewN _) (Nat.add_assoc _ _ _))⟩)))
    repeat (go_quiet (first | (go_at_call 36; (with_reducible refine (scarfjointref02_both.calls k _ _ l0 _ _ l1 t253 _ ?side1 ?side2 ?side3 ?side4 A3.out).mono ?_); (case side1 => repeat (first | exact HR0.out | (with_reducible refine Kd.C_alloc ?_ _) | (with_reducible refine Kd.C_drewN ?_ _) | (with_reducible refine Kd.C_drew ?_))); (case side2 => exact HC0.out); (case side3 => repeat (first | exact HR1.out | (with_reducible refine Kd.C_alloc ?_ _) | (with_reducible refine Kd.C_drewN ?_ _) | (with_reducible refine Kd.C_drew ?_))); (case side4 => exact HC1.out); rintro e w' ⟨rfl, ⟨nd, rfl⟩⟩; (try first | exact ⟨rfl, _, World.drewN_drewN _ _ _⟩ | exact ⟨rfl, _, Eq.trans (World.drewN_drewN _ _ _) (congrArg (World.drewN _) (Nat.add_assoc _ _ _))⟩))); try go_wp2_with (first | (go_at_call 36; (with_reducible refine (scarfjointref02_both.calls k _ _ l0 _ _ l1 t253 _ ?side1 ?side2 ?side3 ?side4 A3.out).mono ?_); (case side1 => repeat (first | exact HR0.out | (with_reducible refine Kd.C_alloc ?_ _) | (with_reducible refine Kd.C_drewN ?_ _) | (with_reducible refine Kd.C_drew ?_))); (case side2 => exact HC0.out); (case side3 => repeat (first | exact HR1.out | (with_reducible refine Kd.C_alloc ?_ _) | (with_reducible refine Kd.C_drewN ?_ _) | (with_reducible refine Kd.C_drew ?_))); (case side4 => exact HC1.out); rintro e w' ⟨rfl, ⟨nd, rfl⟩⟩; (try first | exact ⟨rfl, _, World.drewN_drewN _ _ _⟩ | exact ⟨rfl, _, Eq.trans (World.drewN_drewN _ _ _) (congrArg (World.drewN _) (Nat.add_assoc _ _ _))⟩))))
    go_loopg [5] k (fun kq v5 w' => ∃ (x5_1 : Int), v5 = .int .i64 x5_1 ∧ Aside0 (scarfjointref02_Finer.l0 kq l0 l1 x5_1 = some r) ∧ Aside0 (kq ≤ k) ∧ Drawn0 w w')
    case atStart => exact ⟨(0), (by first | rfl | (simp; done) | (simp [*]; done)), H', ⟨Nat.le_refl _⟩, by repeat (first | exact Drawn0.refl _ | apply Drawn0.step)⟩
    case round =>
      clear H'
      try clear c1
      try clear c2
      try clear p2
      try clear c4
      try clear c4b0
      try clear c4b1
      obtain ⟨x5_1, rfl, HA, HK1, ⟨m1, rfl⟩⟩ := hrel
      cases gk with
      | zero => exact absurd HA.out (by simp [scarfjointref02_Finer.l0])
      | succ k1 =>
        have H := HA.out
        clear HA
        simp only [scarfjointref02_Finer.l0] at H
        by_cases c5 : x5_1 < (l0.length : Int)
        · rw [if_pos c5] at H
          have c5b0 : decide (x5_1 < (l0.length : Int)) = true := decide_eq_true c5
          clear c5
          by_cases c6 : 0 ≤ x5_1
          · rw [if_pos c6] at H
            have c6b0 : decide (0 ≤ x5_1) = true := decide_eq_true c6
            clear c6
            by_cases c7 : x5_1 < (l1.length : Int)
            · rw [if_pos c7] at H
              have c7b0 : decide (x5_1 < (l1.length : Int)) = true := decide_eq_true c7
              clear c7
              by_cases c8 : 0 ≤ (rd l0 x5_1)
              · rw [if_pos c8] at H
                have c8b0 : decide (0 ≤ (rd l0 x5_1)) = true := decide_eq_true c8
                clear c8
                by_cases c9 : (rd l0 x5_1) < (l1.length : Int)
                · rw [if_pos c9] at H
                  have c9b0 : decide ((rd l0 x5_1) < (l1.length : Int)) = true := decide_eq_true c9
                  clear c9
                  by_cases c10 : (rd l1 x5_1) = (rd l1 (rd l0 x5_1))
                  · rw [if_pos c10] at H
                    have c10b0 : ((rd l1 x5_1) == (rd l1 (rd l0 x5_1))) = true := beq_iff_eq.mpr c10
                    have c10b1 : ((rd l1 x5_1) != (rd l1 (rd l0 x5_1))) = false := bne_eq_false_iff_eq.mpr c10
                    clear c10
                    have H' := Aside0.mk H
                    clear H
                    have p254 : 0 ≤ (x5_1 : Int) := of_decide_eq_true (by first | (with_reducible assumption) | assumption)
                    have q254 : x5_1 < (l1.length : Int) := of_decide_eq_true (by first | (with_reducible assumption) | assumption)
                    obtain ⟨ad254, e254, hx254_0⟩ := Kd.at_int HR1.out x5_1 p254 q254
                    cases e254
                    replace p254 := eq_true p254
                    replace q254 := eq_true q254
                    have p255 : 0 ≤ (x5_1 : Int) := of_decide_eq_true (by first | (with_reducible assumption) | assumption)
                    have q255 : x5_1 < (l0.length : Int) := of_decide_eq_true (by first | (with_reducible assumption) | assumption)
                    obtain ⟨ad255, e255, hx255_0⟩ := Kd.at_int HR0.out x5_1 p255 q255
                    cases e255
                    replace p255 := eq_true p255
                    replace q255 := eq_true q255
                    have p256 : 0 ≤ ((rd l0 x5_1) : Int) := of_decide_eq_true (by first | (with_reducible assumption) | assumption)
                    have q256 : (rd l0 x5_1) < (l1.length : Int) := of_decide_eq_true (by first | (with_reducible assumption) | assumption)
                    obtain ⟨ad256, e256, hx256_0⟩ := Kd.at_int HR1.out (rd l0 x5_1) p256 q256
                    obtain rfl : ad254 = ad256 := (by injection e256)
                    replace p256 := eq_true p256
                    replace q256 := eq_true q256
                    go_wp2
                    repeat (go_quiet (fail); try go_wp2)
                    go_roundg k1
                    case measure => have := HK1.out; omega
                    case rel => exact ⟨(wrap64 (x5_1 + 1)), (by first | rfl | (simp; done) | (simp [*]; done)), H', ⟨by have := HK1.out; omega⟩, by repeat (first | exact Drawn0.refl _ | apply Drawn0.step)⟩
                  · rw [if_neg c10] at H
                    have c10b0 : ((rd l1 x5_1) == (rd l1 (rd l0 x5_1))) = false := beq_eq_false_iff_ne.mpr c10
                    have c10b1 : ((rd l1 x5_1) != (rd l1 (rd l0 x5_1))) = true := bne_iff_ne.mpr c10
                    obtain rfl := Option.some.inj H
                    have p254 : 0 ≤ (x5_1 : Int) := of_decide_eq_true (by first | (with_reducible assumption) | assumption)
                    have q254 : x5_1 < (l1.length : Int) := of_decide_eq_true (by first | (with_reducible assumption) | assumption)
                    obtain ⟨ad254, e254, hx254_0⟩ := Kd.at_int HR1.out x5_1 p254 q254
                    cases e254
                    replace p254 := eq_true p254
                    replace q254 := eq_true q254
                    have p255 : 0 ≤ (x5_1 : Int) := of_decide_eq_true (by first | (with_reducible assumption) | assumption)
                    have q255 : x5_1 < (l0.length : Int) := of_decide_eq_true (by first | (with_reducible assumption) | assumption)
                    obtain ⟨ad255, e255, hx255_0⟩ := Kd.at_int HR0.out x5_1 p255 q255
                    cases e255
                    replace p255 := eq_true p255
                    replace q255 := eq_true q255
                    have p256 : 0 ≤ ((rd l0 x5_1) : Int) := of_decide_eq_true (by first | (with_reducible assumption) | assumption)
                    have q256 : (rd l0 x5_1) < (l1.length : Int) := of_decide_eq_true (by first | (with_reducible assumption) | assumption)
                    obtain ⟨ad256, e256, hx256_0⟩ := Kd.at_int HR1.out (rd l0 x5_1) p256 q256
                    obtain rfl : ad254 = ad256 := (by injection e256)
                    replace p256 := eq_true p256
                    replace q256 := eq_true q256
                    go_wp2
                    repeat (go_quiet (fail); try go_wp2)
                    go_ret
                    exact ⟨by first | rfl | (simp; done) | (simp [*]; done), by repeat (first | exact Drawn0.refl _ | apply Drawn0.step)⟩
                · rw [if_neg c9] at H
                  exact absurd H (by simp)
              · rw [if_neg c8] at H
                exact absurd H (by simp)
            · rw [if_neg c7] at H
              exact absurd H (by simp)
          · rw [if_neg c6] at H
            exact absurd H (by simp)
        · rw [if_neg c5] at H
          have c5b0 : decide (x5_1 < (l0.length : Int)) = false := decide_eq_false c5
          clear c5
          obtain rfl := Option.some.inj H
          go_wp2
          repeat (go_quiet (fail); try go_wp2)
          go_ret
          exact ⟨by first | rfl | (simp; done) | (simp [*]; done), by repeat (first | exact Drawn0.refl _ | apply Drawn0.step)⟩
  · rw [if_neg c4] at H
    have c4b0 : (t253 == 0) = false := beq_eq_false_iff_ne.mpr c4
    have c4b1 : (t253 != 0) = true := bne_iff_ne.mpr c4
    obtain rfl := Option.some.inj H
    go_enter Try.func20, Try.ntmps20
    go_wp2_with (first | (go_at_call 36; (with_reducible refine (scarfjointref02_both.calls k _ _ l0 _ _ l1 t253 _ ?side1 ?side2 ?side3 ?side4 A3.out).mono ?_); (case side1 => repeat (first | exact HR0.out | (with_reducible refine Kd.C_alloc ?_ _) | (with_reducible refine Kd.C_drewN ?_ _) | (with_reducible refine Kd.C_drew ?_))); (case side2 => exact HC0.out); (case side3 => repeat (first | exact HR1.out | (with_reducible refine Kd.C_alloc ?_ _) | (with_reducible refine Kd.C_drewN ?_ _) | (with_reducible refine Kd.C_drew ?_))); (case side4 => exact HC1.out); rintro e w' ⟨rfl, ⟨nd, rfl⟩⟩; (try first | exact ⟨rfl, _, World.drewN_drewN _ _ _⟩ | exact ⟨rfl, _, Eq.trans (World.drewN_drewN _ _ _) (congrArg (World.drewN _) (Nat.add_assoc _ _ _))⟩)))
    repeat (go_quiet (first | (go_at_call 36; (with_reducible refine (scarfjointref02_both.calls k _ _ l0 _ _ l1 t253 _ ?side1 ?side2 ?side3 ?side4 A3.out).mono ?_); (case side1 => repeat (first | exact HR0.out | (with_reducible refine Kd.C_alloc ?_ _) | (with_reducible refine Kd.C_drewN ?_ _) | (with_reducible refine Kd.C_drew ?_))); (case side2 => exact HC0.out); (case side3 => repeat (first | exact HR1.out | (with_reducible refine Kd.C_alloc ?_ _) | (with_reducible refine Kd.C_drewN ?_ _) | (with_reducible refine Kd.C_drew ?_))); (case side4 => exact HC1.out); rintro e w' ⟨rfl, ⟨nd, rfl⟩⟩; (try first | exact ⟨rfl, _, World.drewN_drewN _ _ _⟩ | exact ⟨rfl, _, Eq.trans (World.drewN_drewN _ _ _) (congrArg (World.drewN _) (Nat.add_assoc _ _ _))⟩))); try go_wp2_with (first | (go_at_call 36; (with_reducible refine (scarfjointref02_both.calls k _ _ l0 _ _ l1 t253 _ ?side1 ?side2 ?side3 ?side4 A3.out).mono ?_); (case side1 => repeat (first | exact HR0.out | (with_reducible refine Kd.C_alloc ?_ _) | (with_reducible refine Kd.C_drewN ?_ _) | (with_reducible refine Kd.C_drew ?_))); (case side2 => exact HC0.out); (case side3 => repeat (first | exact HR1.out | (with_reducible refine Kd.C_alloc ?_ _) | (with_reducible refine Kd.C_drewN ?_ _) | (with_reducible refine Kd.C_drew ?_))); (case side4 => exact HC1.out); rintro e w' ⟨rfl, ⟨nd, rfl⟩⟩; (try first | exact ⟨rfl, _, World.drewN_drewN _ _ _⟩ | exact ⟨rfl, _, Eq.trans (World.drewN_drewN _ _ _) (congrArg (World.drewN _) (Nat.add_assoc _ _ _))⟩))))
    go_ret
    exact ⟨by first | rfl | (simp; done) | (simp [*]; done), by repeat (first | exact Drawn0.refl _ | apply Drawn0.step)⟩

end Go.Proofs.Ytjkgjlaockihaaa.P
