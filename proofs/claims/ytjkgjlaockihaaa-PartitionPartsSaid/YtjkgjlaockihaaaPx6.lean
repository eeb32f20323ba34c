-- Written by wip/drive.py of this session's repo over the kit's print.py (with contracts of the session's own): not the print's own text
import Derived.Test.YtjkgjlaockihaaaPx0
namespace Go.Proofs.Ytjkgjlaockihaaa.P
open Go.RowKit Go.Proofs.YtjkgjlaockihaaaW.PrintWords Go.Proofs.YtjkgjlaockihaaaW.PrintLast Go.Proofs.YtjkgjlaockihaaaW.PrintMore
attribute [local go_sem] max2_int min2_int max_two min_two max_three min_three max_four min_four   -- for this text's walks alone
set_option linter.unusedVariables false
set_option linter.unusedSimpArgs false

/-! ### scarfjointref02_Valid: function 27 -/
def scarfjointref02_Valid.l0 : Nat → List Int → Int → Option (Bool)
  | 0, _, _ => none
  | k + 1, x0, x3 => if x3 < (x0.length : Int) then (if 0 ≤ x3 then (if (rd x0 x3) < 0 then (some false) else (if (rd x0 x3) > x3 then (some false) else (if 0 ≤ (rd x0 x3) then (if (rd x0 x3) < (x0.length : Int) then (if (rd x0 (rd x0 x3)) = (rd x0 x3) then (scarfjointref02_Valid.l0 k x0 (wrap64 (x3 + 1))) else (some false)) else (none)) else (none)))) else (none)) else (some true)
def scarfjointref02_Valid.f (k : Nat) (l0 : List Int) : Option (Bool) := if (l0.length : Int) > 80 then (some false) else (scarfjointref02_Valid.l0 k l0 0)
theorem scarfjointref02_Valid.mono_l : ∀ k, (∀ y0 y1, LeO (scarfjointref02_Valid.l0 k y0 y1) (scarfjointref02_Valid.l0 (k + 1) y0 y1))
  | 0 => fun _ _ r h => by simp [scarfjointref02_Valid.l0] at h
  | k + 1 => by
    have ih0 := scarfjointref02_Valid.mono_l k
    · intro y0 y1
      unfold scarfjointref02_Valid.l0
      repeat' first
      | (with_reducible exact ih0 _ _)
      | (with_reducible exact LeO.refl _)
      | (with_reducible exact LeO.none _)
      | (with_reducible refine LeO.ite ?_ ?_)
      | (with_reducible refine LeO.bind ?_ (fun _ => ?_))
      | exact ih0 _ _
      | exact LeO.none _
      | refine LeO.ite ?_ ?_
      | refine LeO.bind ?_ (fun _ => ?_)
theorem scarfjointref02_Valid.mono : ∀ a0 k, LeO (scarfjointref02_Valid.f k a0) (scarfjointref02_Valid.f (k + 1) a0) := by
  intro a0 k
  have ih0 := scarfjointref02_Valid.mono_l k
  unfold scarfjointref02_Valid.f
  repeat' first
      | (with_reducible exact ih0 _ _)
      | (with_reducible exact LeO.refl _)
      | (with_reducible exact LeO.none _)
      | (with_reducible refine LeO.ite ?_ ?_)
      | (with_reducible refine LeO.bind ?_ (fun _ => ?_))
      | exact ih0 _ _
      | exact LeO.none _
      | refine LeO.ite ?_ ?_
      | refine LeO.bind ?_ (fun _ => ?_)
set_option maxHeartbeats 8000000 in
set_option maxRecDepth 100000 in
theorem scarfjointref02_Valid.calls (k : Nat) (A0 : Option Addr) (c0 : Nat) (l0 : List Int) (r : Bool) (w : World) (hr0 : Kd.C (Kd.int .i64) w A0 l0.length l0) (hc0 : l0.length ≤ c0) (h : scarfjointref02_Valid.f k l0 = some r) :
    Calls Try.prog 27 #[.slice A0 l0.length c0] w fun e w' => e = .returned (.bool r) ∧ Drawn0 w w' := by
  have HR0 := Aside0.mk hr0
  have HC0 := Aside0.mk hc0
  clear hr0 hc0
  have H : (if (l0.length : Int) > 80 then (some false) else (scarfjointref02_Valid.l0 k l0 0)) = some r := h
  clear h
  by_cases c2 : (l0.length : Int) > 80
  · rw [if_pos c2] at H
    have c2b0 : decide (80 < (l0.length : Int)) = true := decide_eq_true c2
    have c2b1 : decide (80 < l0.length) = true := decide_eq_true (by omega)
    clear c2
    obtain rfl := Option.some.inj H
    go_enter Try.func27, Try.ntmps27
    go_wp2
    repeat (go_quiet (fail); try go_wp2)
    go_ret
    exact ⟨by first | rfl | (simp; done) | (simp [*]; done), by repeat (first | exact Drawn0.refl _ | apply Drawn0.step)⟩
  · rw [if_neg c2] at H
    have c2b0 : decide (80 < (l0.length : Int)) = false := decide_eq_false c2
    have c2b1 : decide (80 < l0.length) = false := decide_eq_false (by omega)
    clear c2
    have H' := Aside0.mk H
    clear H
    go_enter Try.func27, Try.ntmps27
    go_wp2
    repeat (go_quiet (fail); try go_wp2)
    go_loopg [3] k (fun kq v3 w' => ∃ (x3_1 : Int), v3 = .int .i64 x3_1 ∧ Aside0 (scarfjointref02_Valid.l0 kq l0 x3_1 = some r) ∧ Aside0 (kq ≤ k) ∧ Drawn0 w w')
    case atStart => exact ⟨(0), (by first | rfl | (simp; done) | (simp [*]; done)), H', ⟨Nat.le_refl _⟩, by repeat (first | exact Drawn0.refl _ | apply Drawn0.step)⟩
    case round =>
      clear H'
      try clear c2
      try clear c2b0
      try clear c2b1
      try clear p2
      obtain ⟨x3_1, rfl, HA, HK1, ⟨m1, rfl⟩⟩ := hrel
      cases gk with
      | zero => exact absurd HA.out (by simp [scarfjointref02_Valid.l0])
      | succ k1 =>
        have H := HA.out
        clear HA
        simp only [scarfjointref02_Valid.l0] at H
        by_cases c3 : x3_1 < (l0.length : Int)
        · rw [if_pos c3] at H
          have c3b0 : decide (x3_1 < (l0.length : Int)) = true := decide_eq_true c3
          clear c3
          by_cases c4 : 0 ≤ x3_1
          · rw [if_pos c4] at H
            have c4b0 : decide (0 ≤ x3_1) = true := decide_eq_true c4
            clear c4
            by_cases c5 : (rd l0 x3_1) < 0
            · rw [if_pos c5] at H
              have c5b0 : decide ((rd l0 x3_1) < 0) = true := decide_eq_true c5
              clear c5
              obtain rfl := Option.some.inj H
              have p246 : 0 ≤ (x3_1 : Int) := of_decide_eq_true (by first | (with_reducible assumption) | assumption)
              have q246 : x3_1 < (l0.length : Int) := of_decide_eq_true (by first | (with_reducible assumption) | assumption)
              obtain ⟨ad246, e246, hx246_0⟩ := Kd.at_int HR0.out x3_1 p246 q246
              cases e246
              replace p246 := eq_true p246
              replace q246 := eq_true q246
              go_wp2
              repeat (go_quiet (fail); try go_wp2)
              go_ret
              exact ⟨by first | rfl | (simp; done) | (simp [*]; done), by repeat (first | exact Drawn0.refl _ | apply Drawn0.step)⟩
            · rw [if_neg c5] at H
              have c5b0 : decide ((rd l0 x3_1) < 0) = false := decide_eq_false c5
              clear c5
              by_cases c6 : (rd l0 x3_1) > x3_1
              · rw [if_pos c6] at H
                have c6b0 : decide (x3_1 < (rd l0 x3_1)) = true := decide_eq_true c6
                clear c6
                obtain rfl := Option.some.inj H
                have p246 : 0 ≤ (x3_1 : Int) := of_decide_eq_true (by first | (with_reducible assumption) | assumption)
                have q246 : x3_1 < (l0.length : Int) := of_decide_eq_true (by first | (with_reducible assumption) | assumption)
                obtain ⟨ad246, e246, hx246_0⟩ := Kd.at_int HR0.out x3_1 p246 q246
                cases e246
                replace p246 := eq_true p246
                replace q246 := eq_true q246
                have p247 : 0 ≤ (x3_1 : Int) := of_decide_eq_true (by first | (with_reducible assumption) | assumption)
                have q247 : x3_1 < (l0.length : Int) := of_decide_eq_true (by first | (with_reducible assumption) | assumption)
                obtain ⟨ad247, e247, hx247_0⟩ := Kd.at_int HR0.out x3_1 p247 q247
                obtain rfl : ad246 = ad247 := (by injection e247)
                replace p247 := eq_true p247
                replace q247 := eq_true q247
                go_wp2
                repeat (go_quiet (fail); try go_wp2)
                go_ret
                exact ⟨by first | rfl | (simp; done) | (simp [*]; done), by repeat (first | exact Drawn0.refl _ | apply Drawn0.step)⟩
              · rw [if_neg c6] at H
                have c6b0 : decide (x3_1 < (rd l0 x3_1)) = false := decide_eq_false c6
                clear c6
                by_cases c7 : 0 ≤ (rd l0 x3_1)
                · rw [if_pos c7] at H
                  have c7b0 : decide (0 ≤ (rd l0 x3_1)) = true := decide_eq_true c7
                  clear c7
                  by_cases c8 : (rd l0 x3_1) < (l0.length : Int)
                  · rw [if_pos c8] at H
                    have c8b0 : decide ((rd l0 x3_1) < (l0.length : Int)) = true := decide_eq_true c8
                    clear c8
                    by_cases c9 : (rd l0 (rd l0 x3_1)) = (rd l0 x3_1)
                    · rw [if_pos c9] at H
                      have c9b0 : ((rd l0 (rd l0 x3_1)) == (rd l0 x3_1)) = true := beq_iff_eq.mpr c9
                      have c9b1 : ((rd l0 (rd l0 x3_1)) != (rd l0 x3_1)) = false := bne_eq_false_iff_eq.mpr c9
                      clear c9
                      have H' := Aside0.mk H
                      clear H
                      have p246 : 0 ≤ (x3_1 : Int) := of_decide_eq_true (by first | (with_reducible assumption) | assumption)
                      have q246 : x3_1 < (l0.length : Int) := of_decide_eq_true (by first | (with_reducible assumption) | assumption)
                      obtain ⟨ad246, e246, hx246_0⟩ := Kd.at_int HR0.out x3_1 p246 q246
                      cases e246
                      replace p246 := eq_true p246
                      replace q246 := eq_true q246
                      have p247 : 0 ≤ (x3_1 : Int) := of_decide_eq_true (by first | (with_reducible assumption) | assumption)
                      have q247 : x3_1 < (l0.length : Int) := of_decide_eq_true (by first | (with_reducible assumption) | assumption)
                      obtain ⟨ad247, e247, hx247_0⟩ := Kd.at_int HR0.out x3_1 p247 q247
                      obtain rfl : ad246 = ad247 := (by injection e247)
                      replace p247 := eq_true p247
                      replace q247 := eq_true q247
                      have p248 : 0 ≤ (x3_1 : Int) := of_decide_eq_true (by first | (with_reducible assumption) | assumption)
                      have q248 : x3_1 < (l0.length : Int) := of_decide_eq_true (by first | (with_reducible assumption) | assumption)
                      obtain ⟨ad248, e248, hx248_0⟩ := Kd.at_int HR0.out x3_1 p248 q248
                      obtain rfl : ad246 = ad248 := (by injection e248)
                      replace p248 := eq_true p248
                      replace q248 := eq_true q248
                      have p249 : 0 ≤ ((rd l0 x3_1) : Int) := of_decide_eq_true (by first | (with_reducible assumption) | assumption)
                      have q249 : (rd l0 x3_1) < (l0.length : Int) := of_decide_eq_true (by first | (with_reducible assumption) | assumption)
                      obtain ⟨ad249, e249, hx249_0⟩ := Kd.at_int HR0.out (rd l0 x3_1) p249 q249
                      obtain rfl : ad246 = ad249 := (by injection e249)
                      replace p249 := eq_true p249
                      replace q249 := eq_true q249
                      have p250 : 0 ≤ (x3_1 : Int) := of_decide_eq_true (by first | (with_reducible assumption) | assumption)
                      have q250 : x3_1 < (l0.length : Int) := of_decide_eq_true (by first | (with_reducible assumption) | assumption)
                      obtain ⟨ad250, e250, hx250_0⟩ := Kd.at_int HR0.out x3_1 p250 q250
                      obtain rfl : ad246 = ad250 := (by injection e250)
                      replace p250 := eq_true p250
                      replace q250 := eq_true q250
                      go_wp2
                      repeat (go_quiet (fail); try go_wp2)
                      go_roundg k1
                      case measure => have := HK1.out; omega
                      case rel => exact ⟨(wrap64 (x3_1 + 1)), (by first | rfl | (simp; done) | (simp [*]; done)), H', ⟨by have := HK1.out; omega⟩, by repeat (first | exact Drawn0.refl _ | apply Drawn0.step)⟩
                    · rw [if_neg c9] at H
                      have c9b0 : ((rd l0 (rd l0 x3_1)) == (rd l0 x3_1)) = false := beq_eq_false_iff_ne.mpr c9
                      have c9b1 : ((rd l0 (rd l0 x3_1)) != (rd l0 x3_1)) = true := bne_iff_ne.mpr c9
                      obtain rfl := Option.some.inj H
                      have p246 : 0 ≤ (x3_1 : Int) := of_decide_eq_true (by first | (with_reducible assumption) | assumption)
                      have q246 : x3_1 < (l0.length : Int) := of_decide_eq_true (by first | (with_reducible assumption) | assumption)
                      obtain ⟨ad246, e246, hx246_0⟩ := Kd.at_int HR0.out x3_1 p246 q246
                      cases e246
                      replace p246 := eq_true p246
                      replace q246 := eq_true q246
                      have p247 : 0 ≤ (x3_1 : Int) := of_decide_eq_true (by first | (with_reducible assumption) | assumption)
                      have q247 : x3_1 < (l0.length : Int) := of_decide_eq_true (by first | (with_reducible assumption) | assumption)
                      obtain ⟨ad247, e247, hx247_0⟩ := Kd.at_int HR0.out x3_1 p247 q247
                      obtain rfl : ad246 = ad247 := (by injection e247)
                      replace p247 := eq_true p247
                      replace q247 := eq_true q247
                      have p248 : 0 ≤ (x3_1 : Int) := of_decide_eq_true (by first | (with_reducible assumption) | assumption)
                      have q248 : x3_1 < (l0.length : Int) := of_decide_eq_true (by first | (with_reducible assumption) | assumption)
                      obtain ⟨ad248, e248, hx248_0⟩ := Kd.at_int HR0.out x3_1 p248 q248
                      obtain rfl : ad246 = ad248 := (by injection e248)
                      replace p248 := eq_true p248
                      replace q248 := eq_true q248
                      have p249 : 0 ≤ ((rd l0 x3_1) : Int) := of_decide_eq_true (by first | (with_reducible assumption) | assumption)
                      have q249 : (rd l0 x3_1) < (l0.length : Int) := of_decide_eq_true (by first | (with_reducible assumption) | assumption)
                      obtain ⟨ad249, e249, hx249_0⟩ := Kd.at_int HR0.out (rd l0 x3_1) p249 q249
                      obtain rfl : ad246 = ad249 := (by injection e249)
                      replace p249 := eq_true p249
                      replace q249 := eq_true q249
                      have p250 : 0 ≤ (x3_1 : Int) := of_decide_eq_true (by first | (with_reducible assumption) | assumption)
                      have q250 : x3_1 < (l0.length : Int) := of_decide_eq_true (by first | (with_reducible assumption) | assumption)
                      obtain ⟨ad250, e250, hx250_0⟩ := Kd.at_int HR0.out x3_1 p250 q250
                      obtain rfl : ad246 = ad250 := (by injection e250)
                      replace p250 := eq_true p250
                      replace q250 := eq_true q250
                      go_wp2
                      repeat (go_quiet (fail); try go_wp2)
                      go_ret
                      exact ⟨by first | rfl | (simp; done) | (simp [*]; done), by repeat (first | exact Drawn0.refl _ | apply Drawn0.step)⟩
                  · rw [if_neg c8] at H
                    exact absurd H (by simp)
                · rw [if_neg c7] at H
                  exact absurd H (by simp)
          · rw [if_neg c4] at H
            exact absurd H (by simp)
        · rw [if_neg c3] at H
          have c3b0 : decide (x3_1 < (l0.length : Int)) = false := decide_eq_false c3
          clear c3
          obtain rfl := Option.some.inj H
          go_wp2
          repeat (go_quiet (fail); try go_wp2)
          go_ret
          exact ⟨by first | rfl | (simp; done) | (simp [*]; done), by repeat (first | exact Drawn0.refl _ | apply Drawn0.step)⟩

/-! ### scarfjointref02_both: function 36 -/
mutual
def scarfjointref02_both.j0 : Nat → List Int → List Int → Bool → Option (Int)
  | 0, _, _, _ => none
  | k + 1, x0, x1, x12 => if x12 = true then (some 3) else ((scarfjointref02_Valid.f k x0).bind fun t251 => (if t251 = true then ((scarfjointref02_Valid.f k x1).bind fun t252 => (scarfjointref02_both.j1 k x0 x1 (!t252))) else (scarfjointref02_both.j1 k x0 x1 true)))
def scarfjointref02_both.j1 : Nat → List Int → List Int → Bool → Option (Int)
  | 0, _, _, _ => none
  | k + 1, x0, x1, x20 => if x20 = true then (some 1) else (if (x0.length : Int) = (x1.length : Int) then (some 0) else (some 20))
end
def scarfjointref02_both.f (k : Nat) (l0 : List Int) (l1 : List Int) : Option (Int) := if (l0.length : Int) > 80 then (scarfjointref02_both.j0 k l0 l1 true) else (scarfjointref02_both.j0 k l0 l1 (decide ((l1.length : Int) > 80)))
theorem scarfjointref02_both.mono_l : ∀ k, (∀ y0 y1 y2, LeO (scarfjointref02_both.j0 k y0 y1 y2) (scarfjointref02_both.j0 (k + 1) y0 y1 y2)) ∧ (∀ y0 y1 y2, LeO (scarfjointref02_both.j1 k y0 y1 y2) (scarfjointref02_both.j1 (k + 1) y0 y1 y2))
  | 0 => ⟨fun _ _ _ r h => by simp [scarfjointref02_both.j0] at h, fun _ _ _ r h => by simp [scarfjointref02_both.j1] at h⟩
  | k + 1 => by
    obtain ⟨ih0, ih1⟩ := scarfjointref02_both.mono_l k
    refine ⟨?_, ?_⟩
    · intro y0 y1 y2
      unfold scarfjointref02_both.j0
      repeat' first
      | (with_reducible exact ih0 _ _ _)
      | (with_reducible exact ih1 _ _ _)
      | (with_reducible exact scarfjointref02_Valid.mono _ _)
      | (with_reducible exact LeO.refl _)
      | (with_reducible exact LeO.none _)
      | (with_reducible refine LeO.ite ?_ ?_)
      | (with_reducible refine LeO.bind ?_ (fun _ => ?_))
      | exact ih0 _ _ _
      | exact ih1 _ _ _
      | exact scarfjointref02_Valid.mono _ _
      | exact LeO.none _
      | refine LeO.ite ?_ ?_
      | refine LeO.bind ?_ (fun _ => ?_)
    · intro y0 y1 y2
      unfold scarfjointref02_both.j1
      repeat' first
      | (with_reducible exact ih0 _ _ _)
      | (with_reducible exact ih1 _ _ _)
      | (with_reducible exact scarfjointref02_Valid.mono _ _)
      | (with_reducible exact LeO.refl _)
      | (with_reducible exact LeO.none _)
      | (with_reducible refine LeO.ite ?_ ?_)
      | (with_reducible refine LeO.bind ?_ (fun _ => ?_))
      | exact ih0 _ _ _
      | exact ih1 _ _ _
      | exact scarfjointref02_Valid.mono _ _
      | exact LeO.none _
      | refine LeO.ite ?_ ?_
      | refine LeO.bind ?_ (fun _ => ?_)
theorem scarfjointref02_both.mono : ∀ a0 a1 k, LeO (scarfjointref02_both.f k a0 a1) (scarfjointref02_both.f (k + 1) a0 a1) := by
  intro a0 a1 k
  obtain ⟨ih0, ih1⟩ := scarfjointref02_both.mono_l k
  unfold scarfjointref02_both.f
  repeat' first
      | (with_reducible exact ih0 _ _ _)
      | (with_reducible exact ih1 _ _ _)
      | (with_reducible exact scarfjointref02_Valid.mono _ _)
      | (with_reducible exact LeO.refl _)
      | (with_reducible exact LeO.none _)
      | (with_reducible refine LeO.ite ?_ ?_)
      | (with_reducible refine LeO.bind ?_ (fun _ => ?_))
      | exact ih0 _ _ _
      | exact ih1 _ _ _
      | exact scarfjointref02_Valid.mono _ _
      | exact LeO.none _
      | refine LeO.ite ?_ ?_
      | refine LeO.bind ?_ (fun _ => ?_)
set_option maxHeartbeats 8000000 in
set_option maxRecDepth 100000 in
theorem scarfjointref02_both.calls (k : Nat) (A0 : Option Addr) (c0 : Nat) (l0 : List Int) (A1 : Option Addr) (c1 : Nat) (l1 : List Int) (r : Int) (w : World) (hr0 : Kd.C (Kd.int .i64) w A0 l0.length l0) (hc0 : l0.length ≤ c0) (hr1 : Kd.C (Kd.int .i64) w A1 l1.length l1) (hc1 : l1.length ≤ c1) (h : scarfjointref02_both.f k l0 l1 = some r) :
    Calls Try.prog 36 #[.slice A0 l0.length c0, .slice A1 l1.length c1] w fun e w' => e = .returned (.int .i64 r) ∧ Drawn0 w w' := by
  have HR0 := Aside0.mk hr0
  have HC0 := Aside0.mk hc0
  clear hr0 hc0
  have HR1 := Aside0.mk hr1
  have HC1 := Aside0.mk hc1
  clear hr1 hc1
  have H : (if (l0.length : Int) > 80 then (scarfjointref02_both.j0 k l0 l1 true) else (scarfjointref02_both.j0 k l0 l1 (decide ((l1.length : Int) > 80)))) = some r := h
  clear h
  have HC3 := Aside0.mk H
  clear H
  go_enter Try.func36, Try.ntmps36
  go_upto_region 1 with (fail)
  go_cut [12] (fun v12 wc => ∃ (kq : Nat) (x12_2 : Bool), v12 = .bool x12_2 ∧ Aside0 (scarfjointref02_both.j0 kq l0 l1 x12_2 = some r) ∧ Aside0 (kq ≤ k) ∧ Drawn0 w wc)
  case first =>
    have H := HC3.out
    clear HC3
    by_cases c4 : (l0.length : Int) > 80
    · rw [if_pos c4] at H
      have c4b0 : decide (80 < (l0.length : Int)) = true := decide_eq_true c4
      have c4b1 : decide (80 < l0.length) = true := decide_eq_true (by omega)
      clear c4
      (first | rw [c4b0] | (simp only [i64_w, i32_w]; rw [c4b0]) | skip)
      have H' := Aside0.mk H
      clear H
      go_wp2
      go_meet
      case rel => exact ⟨_, (true), (by first | rfl | (simp; done) | (simp [*]; done)), H', ⟨by first | omega | exact Nat.le_refl _⟩, by repeat (first | exact Drawn0.refl _ | apply Drawn0.step)⟩
    · rw [if_neg c4] at H
      have c4b0 : decide (80 < (l0.length : Int)) = false := decide_eq_false c4
      have c4b1 : decide (80 < l0.length) = false := decide_eq_false (by omega)
      clear c4
      (first | rw [c4b0] | (simp only [i64_w, i32_w]; rw [c4b0]) | skip)
      have H' := Aside0.mk H
      clear H
      go_wp2
      go_meet
      case rel => exact ⟨_, (decide ((l1.length : Int) > 80)), (by first | rfl | (simp; done) | (simp [*]; done)), H', ⟨by first | omega | exact Nat.le_refl _⟩, by repeat (first | exact Drawn0.refl _ | apply Drawn0.step)⟩
  case rest =>
    clear HC3
    try clear c1
    try clear p2
    try clear c3
    try clear c4
    try clear c4b0
    try clear c4b1
    obtain ⟨kq, x12_2, rfl, HA, HJ2, ⟨mc2, rfl⟩⟩ := hcut
    cases kq with
    | zero => exact absurd HA.out (by simp [scarfjointref02_both.j0])
    | succ kj2 =>
      have H := HA.out
      clear HA
      simp only [scarfjointref02_both.j0] at H
      by_cases c5 : x12_2 = true
      · subst c5
        have H1 : (some 3) = some r := by rw [if_pos rfl] at H; exact H
        clear H
        have H := H1
        clear H1
        obtain rfl := Option.some.inj H
        go_wp2
        go_ret
        exact ⟨by first | rfl | (simp; done) | (simp [*]; done), by repeat (first | exact Drawn0.refl _ | apply Drawn0.step)⟩
      · replace c5 := Bool.eq_false_iff.mpr c5
        subst c5
        have H1 : ((scarfjointref02_Valid.f kj2 l0).bind fun t251 => (if t251 = true then ((scarfjointref02_Valid.f kj2 l1).bind fun t252 => (scarfjointref02_both.j1 kj2 l0 l1 (!t252))) else (scarfjointref02_both.j1 kj2 l0 l1 true))) = some r := by rw [if_neg (show ¬ (false = true) by decide)] at H; exact H
        clear H
        have H := H1
        clear H1
        have HC6 := Aside0.mk H
        clear H
        go_upto_region 3 with (fail)
        go_cut [20] (fun v20 wc => ∃ (kq : Nat) (x20_5 : Bool), v20 = .bool x20_5 ∧ Aside0 (scarfjointref02_both.j1 kq l0 l1 x20_5 = some r) ∧ Aside0 (kq ≤ kj2) ∧ Drawn0 w wc)
        case first =>
          have H := HC6.out
          clear HC6
          replace H := Option.bind_eq_some_iff.mp H
          obtain ⟨t251, A70, H⟩ := H
          replace H : (if t251 = true then ((scarfjointref02_Valid.f kj2 l1).bind fun t252 => (scarfjointref02_both.j1 kj2 l0 l1 (!t252))) else (scarfjointref02_both.j1 kj2 l0 l1 true)) = some r := H
          have A7 := Aside0.mk A70
          clear A70
          by_cases c8 : t251 = true
          · subst c8
            have H1 : ((scarfjointref02_Valid.f kj2 l1).bind fun t252 => (scarfjointref02_both.j1 kj2 l0 l1 (!t252))) = some r := by rw [if_pos rfl] at H; exact H
            clear H
            have H := H1
            clear H1
            replace H := Option.bind_eq_some_iff.mp H
            obtain ⟨t252, A90, H⟩ := H
            replace H : (scarfjointref02_both.j1 kj2 l0 l1 (!t252)) = some r := H
            have A9 := Aside0.mk A90
            clear A90
            have H' := Aside0.mk H
            clear H
            go_wp2_with (first | ((with_reducible refine gate_callee (f := 27) rfl ?_); refine goesL_ (some 14) rfl rfl Try.func27 (by kernel_rfl) rfl #[.slice A0 l0.length c0] rfl (by (try simp only [List.map_toArray, List.map_cons, List.map_nil]); first | done | rfl | (simp only [List.length_drop, List.length_take]; rfl)) ?_; (with_reducible refine (scarfjointref02_Valid.calls kj2 _ _ l0 true _ ?side1 ?side2 A7.out).mono ?_); (case side1 => repeat (first | exact HR0.out | (with_reducible refine Kd.C_alloc ?_ _) | (with_reducible refine Kd.C_drewN ?_ _) | (with_reducible refine Kd.C_drew ?_))); (case side2 => exact HC0.out); rintro e w' ⟨rfl, ⟨nd, rfl⟩⟩; refine ⟨_, rfl, ?_⟩) | (go_at_call 27; (with_reducible refine (scarfjointref02_Valid.calls kj2 _ _ l1 t252 _ ?side1 ?side2 A9.out).mono ?_); (case side1 => repeat (first | exact HR1.out | (with_reducible refine Kd.C_alloc ?_ _) | (with_reducible refine Kd.C_drewN ?_ _) | (with_reducible refine Kd.C_drew ?_))); (case side2 => exact HC1.out); rintro e w' ⟨rfl, ⟨nd, rfl⟩⟩))
            go_meet
            case rel => exact ⟨_, (!t252), (by first | rfl | (simp; done) | (simp [*]; done)), H', ⟨by have := HJ2.out; first | omega | exact Nat.le_refl _⟩, by repeat (first | exact Drawn0.refl _ | apply Drawn0.step)⟩
          · replace c8 := Bool.eq_false_iff.mpr c8
            subst c8
            have H1 : (scarfjointref02_both.j1 kj2 l0 l1 true) = some r := by rw [if_neg (show ¬ (false = true) by decide)] at H; exact H
            clear H
            have H := H1
            clear H1
            have H' := Aside0.mk H
            clear H
            go_wp2_with (first | ((with_reducible refine gate_callee (f := 27) rfl ?_); refine goesL_ (some 14) rfl rfl Try.func27 (by kernel_rfl) rfl #[.slice A0 l0.length c0] rfl (by (try simp only [List.map_toArray, List.map_cons, List.map_nil]); first | done | rfl | (simp only [List.length_drop, List.length_take]; rfl)) ?_; (with_reducible refine (scarfjointref02_Valid.calls kj2 _ _ l0 false _ ?side1 ?side2 A7.out).mono ?_); (case side1 => repeat (first | exact HR0.out | (with_reducible refine Kd.C_alloc ?_ _) | (with_reducible refine Kd.C_drewN ?_ _) | (with_reducible refine Kd.C_drew ?_))); (case side2 => exact HC0.out); rintro e w' ⟨rfl, ⟨nd, rfl⟩⟩; refine ⟨_, rfl, ?_⟩))
            go_meet
            case rel => exact ⟨_, (true), (by first | rfl | (simp; done) | (simp [*]; done)), H', ⟨by have := HJ2.out; first | omega | exact Nat.le_refl _⟩, by repeat (first | exact Drawn0.refl _ | apply Drawn0.step)⟩
        case rest =>
          clear HC6
          try clear c1
          try clear c2
          try clear p2
          try clear c3
          try clear c4
          try clear c4b0
          try clear c4b1
          try clear c5
          try clear c8
          try clear p2
          obtain ⟨kq, x20_5, rfl, HA, HJ5, ⟨mc5, rfl⟩⟩ := hcut
          cases kq with
          | zero => exact absurd HA.out (by simp [scarfjointref02_both.j1])
          | succ kj5 =>
            have H := HA.out
            clear HA
            simp only [scarfjointref02_both.j1] at H
            by_cases c10 : x20_5 = true
            · subst c10
              have H1 : (some 1) = some r := by rw [if_pos rfl] at H; exact H
              clear H
              have H := H1
              clear H1
              obtain rfl := Option.some.inj H
              go_wp2
              go_ret
              exact ⟨by first | rfl | (simp; done) | (simp [*]; done), by repeat (first | exact Drawn0.refl _ | apply Drawn0.step)⟩
            · replace c10 := Bool.eq_false_iff.mpr c10
              subst c10
              have H1 : (if (l0.length : Int) = (l1.length : Int) then (some 0) else (some 20)) = some r := by rw [if_neg (show ¬ (false = true) by decide)] at H; exact H
              clear H
              have H := H1
              clear H1
              by_cases c11 : (l0.length : Int) = (l1.length : Int)
              · rw [if_pos c11] at H
                have c11b0 : ((l0.length : Int) == (l1.length : Int)) = true := beq_iff_eq.mpr c11
                have c11b1 : ((l0.length : Int) != (l1.length : Int)) = false := bne_eq_false_iff_eq.mpr c11
                have c11b2 : (l0.length == l1.length) = true := by first | simpa using c11 | (simp at c11 ⊢; omega)
                clear c11
                obtain rfl := Option.some.inj H
                go_wp2
                go_ret
                exact ⟨by first | rfl | (simp; done) | (simp [*]; done), by repeat (first | exact Drawn0.refl _ | apply Drawn0.step)⟩
              · rw [if_neg c11] at H
                have c11b0 : ((l0.length : Int) == (l1.length : Int)) = false := beq_eq_false_iff_ne.mpr c11
                have c11b1 : ((l0.length : Int) != (l1.length : Int)) = true := bne_iff_ne.mpr c11
                have c11b2 : (l0.length == l1.length) = false := by first | simpa using c11 | (simp at c11 ⊢; omega)
                obtain rfl := Option.some.inj H
                go_wp2
                go_ret
                exact ⟨by first | rfl | (simp; done) | (simp [*]; done), by repeat (first | exact Drawn0.refl _ | apply Drawn0.step)⟩

/-! ### scarfjointref02_Finest: function 37 -/
def scarfjointref02_Finest.l0 : Nat → Int → List Int → Int → Option (List Int)
  | 0, _, _, _ => none
  | k + 1, x0, x3, x4 => if x4 < x0 then (if x3.length < 17592186044416 then (scarfjointref02_Finest.l0 k x0 (x3 ++ [x4]) (wrap64 (x4 + 1))) else (none)) else (some x3)
def scarfjointref02_Finest.f (k : Nat) (a0 : Int) : Option (List Int) := scarfjointref02_Finest.l0 k a0 ([] : List Int) 0
theorem scarfjointref02_Finest.mono_l : ∀ k, (∀ y0 y1 y2, LeO (scarfjointref02_Finest.l0 k y0 y1 y2) (scarfjointref02_Finest.l0 (k + 1) y0 y1 y2))
  | 0 => fun _ _ _ r h => by simp [scarfjointref02_Finest.l0] at h
  | k + 1 => by
    have ih0 := scarfjointref02_Finest.mono_l k
    · intro y0 y1 y2
      unfold scarfjointref02_Finest.l0
      repeat' first
      | (with_reducible exact ih0 _ _ _)
      | (with_reducible exact LeO.refl _)
      | (with_reducible exact LeO.none _)
      | (with_reducible refine LeO.ite ?_ ?_)
      | (with_reducible refine LeO.bind ?_ (fun _ => ?_))
      | exact ih0 _ _ _
      | exact LeO.none _
      | refine LeO.ite ?_ ?_
      | refine LeO.bind ?_ (fun _ => ?_)
theorem scarfjointref02_Finest.mono : ∀ a0 k, LeO (scarfjointref02_Finest.f k a0) (scarfjointref02_Finest.f (k + 1) a0) := by
  intro a0 k
  have ih0 := scarfjointref02_Finest.mono_l k
  unfold scarfjointref02_Finest.f
  repeat' first
      | (with_reducible exact ih0 _ _ _)
      | (with_reducible exact LeO.refl _)
      | (with_reducible exact LeO.none _)
      | (with_reducible refine LeO.ite ?_ ?_)
      | (with_reducible refine LeO.bind ?_ (fun _ => ?_))
      | exact ih0 _ _ _
      | exact LeO.none _
      | refine LeO.ite ?_ ?_
      | refine LeO.bind ?_ (fun _ => ?_)
set_option maxHeartbeats 8000000 in
set_option maxRecDepth 100000 in
theorem scarfjointref02_Finest.calls (k : Nat) (a0 : Int) (r : List Int) (w : World) (h : scarfjointref02_Finest.f k a0 = some r) :
    Calls Try.prog 37 #[.int .i64 a0] w fun e w' => ∃ v0_ : Value, e = .returned (v0_) ∧ Kd.R (Kd.int .i64) 3 w' w.heap.size (fun _ => True) v0_ r ∧ Below w.heap.size w w' := by
  have HB := Aside0.mk (Below.refl w.heap.size w)
  have H : (scarfjointref02_Finest.l0 k a0 ([] : List Int) 0) = some r := h
  clear h
  have H' := Aside0.mk H
  clear H
  go_enter Try.func37, Try.ntmps37
  go_wp2
  go_loopg [3, 4] k (fun kq v3 v4 w' => ∃ (x3_1 : List Int) (x4_1 : Int), v4 = .int .i64 x4_1 ∧ Aside0 (scarfjointref02_Finest.l0 kq a0 x3_1 x4_1 = some r) ∧ Aside0 (kq ≤ k) ∧ Aside0 (Kd.R (Kd.int .i64) 3 w' w.heap.size (fun _ => True) v3 x3_1) ∧ Aside0 (Below w.heap.size w w'))
  case atStart => exact ⟨(([] : List Int)), (0), (by first | rfl | (simp; done) | (simp [*]; done)), H', ⟨Nat.le_refl _⟩, ⟨by first | exact Kd.R_nil _ _ _ _ _ | exact Kd.N_nil _ _ _ _ _ | exact Kd.V_nil _ _ _ _ _ | exact Kd.Q_nil _ _ _ _ _ | exact Kd.S_nil _ _ _ _ _⟩, ⟨by repeat (first | (with_reducible first | exact HB.out | apply below_alloc | apply pw_below_drewN | apply below_drew1) | exact HB.out)⟩⟩
  case round =>
    clear H'
    obtain ⟨x3_1, x4_1, rfl, HA, HK1, HO_3, HB⟩ := hrel
    cases gk with
    | zero => exact absurd HA.out (by simp [scarfjointref02_Finest.l0])
    | succ k1 =>
      have H := HA.out
      clear HA
      simp only [scarfjointref02_Finest.l0] at H
      by_cases c2 : x4_1 < a0
      · rw [if_pos c2] at H
        have c2b0 : decide (x4_1 < a0) = true := decide_eq_true c2
        clear c2
        by_cases c3 : x3_1.length < 17592186044416
        · rw [if_pos c3] at H
          have LMc3 := Aside0.mk c3
          clear c3
          obtain ⟨y253, hy253⟩ : ∃ y_ : List Int, y_ = (x3_1 ++ [x4_1]) := ⟨_, rfl⟩
          replace H : (scarfjointref02_Finest.l0 k1 a0 y253 (wrap64 (x4_1 + 1))) = some r := by first | (rw [hy253]; with_reducible exact H) | (have H2_ := (Option.bind_some _ _).symm.trans H; rw [hy253]; with_reducible exact H2_) | (have H2_ := (Option.bind_some _ _).symm.trans H; with_reducible exact H2_) | with_reducible exact H | (rw [hy253]; exact H) | exact H
          have Ny253 := Aside0.mk hy253
          clear hy253
          have H' := Aside0.mk H
          clear H
          go_wp2_with (first | ((with_reducible refine gate_builtin (b := .append) (xs := #[.tmp 10, .tmp 12]) rfl ?_); at_builtin; refine Kd.R_append (Kd.int .i64) (w0 := w) w.heap.size rfl (.tmp 10) (.tmp 12) 28 3 (.int .i64 0) 8 rfl Try.underlying28 info3 rfl (by decide) (by omega) u3 x3_1 x4_1 [.int .i64 x4_1] (fun _ => True) (fun _ => False) rfl rfl ?aP (fun _ hk => hk.elim) ?aF ?aO ?aB ?aS ?aL ?_; (case aP => exact rfl); (case aB => exact (by repeat (first | (with_reducible first | exact HB.out | apply below_alloc | apply pw_below_drewN | apply below_drew1) | exact HB.out))); (case aF => exact (fun _ _ => trivial)); (case aO => exact (by (with_reducible repeat (first | apply Kd.R_alloc | apply Kd.R_drewN | apply Kd.R_drew)); exact HO_3.out)); (case aS => exact (below_size (by repeat (first | (with_reducible first | exact HB.out | apply below_alloc | apply pw_below_drewN | apply below_drew1) | exact HB.out)))); (case aL => have := LMc3.out; omega); intro v254 w4 ho hb hg hat; rw [← Ny253.out] at ho; have n0_ := Aside0.mk (hb); have n1_ := Aside0.mk (ho); clear HB; clear HO_3; have HB := n0_; have HO255 := n1_; clear n0_ n1_; clear ho hb hg hat))
          go_roundg k1
          case measure => have := HK1.out; omega
          case rel => exact ⟨(y253), (wrap64 (x4_1 + 1)), (by first | rfl | (simp; done) | (simp [*]; done)), H', ⟨by have := HK1.out; omega⟩, ⟨by (with_reducible repeat (first | apply Kd.R_alloc | apply Kd.R_drewN | apply Kd.R_drew)); exact HO255.out⟩, ⟨by repeat (first | (with_reducible first | exact HB.out | apply below_alloc | apply pw_below_drewN | apply below_drew1) | exact HB.out)⟩⟩
        · rw [if_neg c3] at H
          exact absurd H (by simp)
      · rw [if_neg c2] at H
        have c2b0 : decide (x4_1 < a0) = false := decide_eq_false c2
        clear c2
        obtain rfl := Option.some.inj H
        go_wp2
        go_ret
        exact ⟨_, by first | rfl | (simp [errW_none, errW_some] <;> rfl) | (simp [*, errW_none, errW_some] <;> rfl), by (with_reducible repeat (first | apply Kd.R_alloc | apply Kd.R_drewN | apply Kd.R_drew)); exact HO_3.out, by repeat (first | (with_reducible first | exact HB.out | apply below_alloc | apply pw_below_drewN | apply below_drew1) | exact HB.out)⟩

/-! ### scarfjointref02_Merge: function 38 -/
def scarfjointref02_Merge.l0 : Nat → List Int → Int → Int → List Int → Int → Option (List Int)
  | 0, _, _, _, _, _ => none
  | k + 1, x0, x7, x8, x9, x10 => if x10 < (x0.length : Int) then (if 0 ≤ x10 then (if (rd x0 x10) = x8 then (if x9.length < 17592186044416 then (scarfjointref02_Merge.l0 k x0 x7 x8 (x9 ++ [x7]) (wrap64 (x10 + 1))) else (none)) else (if x9.length < 17592186044416 then (scarfjointref02_Merge.l0 k x0 x7 x8 (x9 ++ [rd x0 x10]) (wrap64 (x10 + 1))) else (none))) else (none)) else (some x9)
def scarfjointref02_Merge.f (k : Nat) (l0 : List Int) (a1 : Int) (a2 : Int) : Option (List Int) := if 0 ≤ a1 then (if a1 < (l0.length : Int) then (if 0 ≤ a2 then (if a2 < (l0.length : Int) then (scarfjointref02_Merge.l0 k l0 (mn (rd l0 a1) (rd l0 a2)) (mx (rd l0 a1) (rd l0 a2)) ([] : List Int) 0) else (none)) else (none)) else (none)) else (none)
theorem scarfjointref02_Merge.mono_l : ∀ k, (∀ y0 y1 y2 y3 y4, LeO (scarfjointref02_Merge.l0 k y0 y1 y2 y3 y4) (scarfjointref02_Merge.l0 (k + 1) y0 y1 y2 y3 y4))
  | 0 => fun _ _ _ _ _ r h => by simp [scarfjointref02_Merge.l0] at h
  | k + 1 => by
    have ih0 := scarfjointref02_Merge.mono_l k
    · intro y0 y1 y2 y3 y4
      unfold scarfjointref02_Merge.l0
      repeat' first
      | (with_reducible exact ih0 _ _ _ _ _)
      | (with_reducible exact LeO.refl _)
      | (with_reducible exact LeO.none _)
      | (with_reducible refine LeO.ite ?_ ?_)
      | (with_reducible refine LeO.bind ?_ (fun _ => ?_))
      | exact ih0 _ _ _ _ _
      | exact LeO.none _
      | refine LeO.ite ?_ ?_
      | refine LeO.bind ?_ (fun _ => ?_)
theorem scarfjointref02_Merge.mono : ∀ a0 a1 a2 k, LeO (scarfjointref02_Merge.f k a0 a1 a2) (scarfjointref02_Merge.f (k + 1) a0 a1 a2) := by
  intro a0 a1 a2 k
  have ih0 := scarfjointref02_Merge.mono_l k
  unfold scarfjointref02_Merge.f
  repeat' first
      | (with_reducible exact ih0 _ _ _ _ _)
      | (with_reducible exact LeO.refl _)
      | (with_reducible exact LeO.none _)
      | (with_reducible refine LeO.ite ?_ ?_)
      | (with_reducible refine LeO.bind ?_ (fun _ => ?_))
      | exact ih0 _ _ _ _ _
      | exact LeO.none _
      | refine LeO.ite ?_ ?_
      | refine LeO.bind ?_ (fun _ => ?_)
set_option maxHeartbeats 8000000 in
set_option maxRecDepth 100000 in
theorem scarfjointref02_Merge.calls (k : Nat) (A0 : Option Addr) (c0 : Nat) (l0 : List Int) (a1 : Int) (a2 : Int) (r : List Int) (w : World) (hr0 : Kd.C (Kd.int .i64) w A0 l0.length l0) (hc0 : l0.length ≤ c0) (h : scarfjointref02_Merge.f k l0 a1 a2 = some r) :
    Calls Try.prog 38 #[.slice A0 l0.length c0, .int .i64 a1, .int .i64 a2] w fun e w' => ∃ v0_ : Value, e = .returned (v0_) ∧ Kd.R (Kd.int .i64) 3 w' w.heap.size (fun _ => True) v0_ r ∧ Below w.heap.size w w' := by
  have HR0 := Aside0.mk hr0
  have HC0 := Aside0.mk hc0
  clear hr0 hc0
  have HB := Aside0.mk (Below.refl w.heap.size w)
  have H : (if 0 ≤ a1 then (if a1 < (l0.length : Int) then (if 0 ≤ a2 then (if a2 < (l0.length : Int) then (scarfjointref02_Merge.l0 k l0 (mn (rd l0 a1) (rd l0 a2)) (mx (rd l0 a1) (rd l0 a2)) ([] : List Int) 0) else (none)) else (none)) else (none)) else (none)) = some r := h
  clear h
  by_cases c4 : 0 ≤ a1
  · rw [if_pos c4] at H
    have c4b0 : decide (0 ≤ a1) = true := decide_eq_true c4
    clear c4
    by_cases c5 : a1 < (l0.length : Int)
    · rw [if_pos c5] at H
      have c5b0 : decide (a1 < (l0.length : Int)) = true := decide_eq_true c5
      clear c5
      by_cases c6 : 0 ≤ a2
      · rw [if_pos c6] at H
        have c6b0 : decide (0 ≤ a2) = true := decide_eq_true c6
        clear c6
        by_cases c7 : a2 < (l0.length : Int)
        · rw [if_pos c7] at H
          have c7b0 : decide (a2 < (l0.length : Int)) = true := decide_eq_true c7
          clear c7
          obtain ⟨ji8, hji8⟩ : ∃ j_ : Int, (mn (rd l0 a1) (rd l0 a2)) = j_ := ⟨_, rfl⟩
          replace H : (scarfjointref02_Merge.l0 k l0 ji8 (mx (rd l0 a1) (rd l0 a2)) ([] : List Int) 0) = some r := by first | (rw [hji8] at H; exact H) | (simp only [hji8] at H ⊢; exact H)
          have hji8_ : (if (rd l0 a2) < (rd l0 a1) then (rd l0 a2) else (rd l0 a1)) = ji8 := hji8
          obtain ⟨ji9, hji9⟩ : ∃ j_ : Int, (mx (rd l0 a1) (rd l0 a2)) = j_ := ⟨_, rfl⟩
          replace H : (scarfjointref02_Merge.l0 k l0 ji8 ji9 ([] : List Int) 0) = some r := by first | (rw [hji9] at H; exact H) | (simp only [hji9] at H ⊢; exact H)
          have hji9_ : (if (rd l0 a1) < (rd l0 a2) then (rd l0 a2) else (rd l0 a1)) = ji9 := hji9
          have H' := Aside0.mk H
          clear H
          have p256 : 0 ≤ (a1 : Int) := of_decide_eq_true (by first | (with_reducible assumption) | assumption)
          have q256 : a1 < (l0.length : Int) := of_decide_eq_true (by first | (with_reducible assumption) | assumption)
          obtain ⟨ad256, e256, hx256_0⟩ := Kd.at_int HR0.out a1 p256 q256
          cases e256
          replace p256 := eq_true p256
          replace q256 := eq_true q256
          have p257 : 0 ≤ (a2 : Int) := of_decide_eq_true (by first | (with_reducible assumption) | assumption)
          have q257 : a2 < (l0.length : Int) := of_decide_eq_true (by first | (with_reducible assumption) | assumption)
          obtain ⟨ad257, e257, hx257_0⟩ := Kd.at_int HR0.out a2 p257 q257
          obtain rfl : ad256 = ad257 := (by injection e257)
          replace p257 := eq_true p257
          replace q257 := eq_true q257
          have p258 : 0 ≤ (a1 : Int) := of_decide_eq_true (by first | (with_reducible assumption) | assumption)
          have q258 : a1 < (l0.length : Int) := of_decide_eq_true (by first | (with_reducible assumption) | assumption)
          obtain ⟨ad258, e258, hx258_0⟩ := Kd.at_int HR0.out a1 p258 q258
          obtain rfl : ad256 = ad258 := (by injection e258)
          replace p258 := eq_true p258
          replace q258 := eq_true q258
          have p259 : 0 ≤ (a2 : Int) := of_decide_eq_true (by first | (with_reducible assumption) | assumption)
          have q259 : a2 < (l0.length : Int) := of_decide_eq_true (by first | (with_reducible assumption) | assumption)
          obtain ⟨ad259, e259, hx259_0⟩ := Kd.at_int HR0.out a2 p259 q259
          obtain rfl : ad256 = ad259 := (by injection e259)
          replace p259 := eq_true p259
          replace q259 := eq_true q259
          go_enter Try.func38, Try.ntmps38
          go_wp2
          repeat (go_quiet (fail); try go_wp2)
          go_loopg [9, 10] k (fun kq v9 v10 w' => ∃ (x9_1 : List Int) (x10_1 : Int), v10 = .int .i64 x10_1 ∧ Aside0 (scarfjointref02_Merge.l0 kq l0 ji8 ji9 x9_1 x10_1 = some r) ∧ Aside0 (kq ≤ k) ∧ Aside0 (Kd.R (Kd.int .i64) 3 w' w.heap.size (fun _ => True) v9 x9_1) ∧ Aside0 (Below w.heap.size w w'))
          case atStart => exact ⟨(([] : List Int)), (0), (by first | rfl | (simp; done) | (simp [*]; done)), H', ⟨Nat.le_refl _⟩, ⟨by first | exact Kd.R_nil _ _ _ _ _ | exact Kd.N_nil _ _ _ _ _ | exact Kd.V_nil _ _ _ _ _ | exact Kd.Q_nil _ _ _ _ _ | exact Kd.S_nil _ _ _ _ _⟩, ⟨by repeat (first | (with_reducible first | exact HB.out | apply below_alloc | apply pw_below_drewN | apply below_drew1) | exact HB.out)⟩⟩
          case round =>
            clear H'
            try clear p2
            try clear q2
            try clear hx2
            try clear c3
            try clear c4
            try clear c4b0
            try clear c5
            try clear c5b0
            try clear c6
            try clear c6b0
            try clear c7
            try clear c7b0
            try clear hx256_0
            try clear hx257_0
            try clear hx258_0
            try clear hx259_0
            try clear p256
            try clear p257
            try clear p258
            try clear p259
            try clear q256
            try clear q257
            try clear q258
            try clear q259
            obtain ⟨x9_1, x10_1, rfl, HA, HK1, HO_9, HB⟩ := hrel
            cases gk with
            | zero => exact absurd HA.out (by simp [scarfjointref02_Merge.l0])
            | succ k1 =>
              have H := HA.out
              clear HA
              simp only [scarfjointref02_Merge.l0] at H
              by_cases c10 : x10_1 < (l0.length : Int)
              · rw [if_pos c10] at H
                have c10b0 : decide (x10_1 < (l0.length : Int)) = true := decide_eq_true c10
                clear c10
                by_cases c11 : 0 ≤ x10_1
                · rw [if_pos c11] at H
                  have c11b0 : decide (0 ≤ x10_1) = true := decide_eq_true c11
                  clear c11
                  by_cases c12 : (rd l0 x10_1) = ji9
                  · rw [if_pos c12] at H
                    have c12b0 : ((rd l0 x10_1) == ji9) = true := beq_iff_eq.mpr c12
                    have c12b1 : ((rd l0 x10_1) != ji9) = false := bne_eq_false_iff_eq.mpr c12
                    clear c12
                    by_cases c13 : x9_1.length < 17592186044416
                    · rw [if_pos c13] at H
                      have LMc13 := Aside0.mk c13
                      clear c13
                      obtain ⟨y261, hy261⟩ : ∃ y_ : List Int, y_ = (x9_1 ++ [ji8]) := ⟨_, rfl⟩
                      replace H : (scarfjointref02_Merge.l0 k1 l0 ji8 ji9 y261 (wrap64 (x10_1 + 1))) = some r := by first | (rw [hy261]; with_reducible exact H) | (have H2_ := (Option.bind_some _ _).symm.trans H; rw [hy261]; with_reducible exact H2_) | (have H2_ := (Option.bind_some _ _).symm.trans H; with_reducible exact H2_) | with_reducible exact H | (rw [hy261]; exact H) | exact H
                      have Ny261 := Aside0.mk hy261
                      clear hy261
                      have H' := Aside0.mk H
                      clear H
                      have p260 : 0 ≤ (x10_1 : Int) := of_decide_eq_true (by first | (with_reducible assumption) | assumption)
                      have q260 : x10_1 < (l0.length : Int) := of_decide_eq_true (by first | (with_reducible assumption) | assumption)
                      obtain ⟨ad260, e260, hx260_0⟩ := Kd.at_int HR0.out x10_1 p260 q260
                      obtain rfl : ad256 = ad260 := (by injection e260)
                      (try replace hx260_0 := (HB.out.cell (World.block_lt_of_cell? w _ hx260_0)).trans hx260_0)
                      replace p260 := eq_true p260
                      replace q260 := eq_true q260
                      go_wp2_with (first | ((with_reducible refine gate_builtin (b := .append) (xs := #[.tmp 44, .tmp 46]) rfl ?_); at_builtin; refine Kd.R_append (Kd.int .i64) (w0 := w) w.heap.size rfl (.tmp 44) (.tmp 46) 28 3 (.int .i64 0) 8 rfl Try.underlying28 info3 rfl (by decide) (by omega) u9 x9_1 ji8 [.int .i64 ji8] (fun _ => True) (fun _ => False) rfl rfl ?aP (fun _ hk => hk.elim) ?aF ?aO ?aB ?aS ?aL ?_; (case aP => exact rfl); (case aB => exact (by repeat (first | (with_reducible first | exact HB.out | apply below_alloc | apply pw_below_drewN | apply below_drew1) | exact HB.out))); (case aF => exact (fun _ _ => trivial)); (case aO => exact (by (with_reducible repeat (first | apply Kd.R_alloc | apply Kd.R_drewN | apply Kd.R_drew)); exact HO_9.out)); (case aS => exact (below_size (by repeat (first | (with_reducible first | exact HB.out | apply below_alloc | apply pw_below_drewN | apply below_drew1) | exact HB.out)))); (case aL => have := LMc13.out; omega); intro v262 w14 ho hb hg hat; rw [← Ny261.out] at ho; have n0_ := Aside0.mk (hb); have n1_ := Aside0.mk (ho); clear HB; clear HO_9; have HB := n0_; have HO263 := n1_; clear n0_ n1_; clear ho hb hg hat))
                      repeat (go_quiet (first | ((with_reducible refine gate_builtin (b := .append) (xs := #[.tmp 44, .tmp 46]) rfl ?_); at_builtin; refine Kd.R_append (Kd.int .i64) (w0 := w) w.heap.size rfl (.tmp 44) (.tmp 46) 28 3 (.int .i64 0) 8 rfl Try.underlying28 info3 rfl (by decide) (by omega) u9 x9_1 ji8 [.int .i64 ji8] (fun _ => True) (fun _ => False) rfl rfl ?aP (fun _ hk => hk.elim) ?aF ?aO ?aB ?aS ?aL ?_; (case aP => exact rfl); (case aB => exact (by repeat (first | (with_reducible first | exact HB.out | apply below_alloc | apply pw_below_drewN | apply below_drew1) | exact HB.out))); (case aF => exact (fun _ _ => trivial)); (case aO => exact (by (with_reducible repeat (first | apply Kd.R_alloc | apply Kd.R_drewN | apply Kd.R_drew)); exact HO_9.out)); (case aS => exact (below_size (by repeat (first | (with_reducible first | exact HB.out | apply below_alloc | apply pw_below_drewN | apply below_drew1) | exact HB.out)))); (case aL => have := LMc13.out; omega); intro v262 w14 ho hb hg hat; rw [← Ny261.out] at ho; have n0_ := Aside0.mk (hb); have n1_ := Aside0.mk (ho); clear HB; clear HO_9; have HB := n0_; have HO263 := n1_; clear n0_ n1_; clear ho hb hg hat)); try go_wp2_with (first | ((with_reducible refine gate_builtin (b := .append) (xs := #[.tmp 44, .tmp 46]) rfl ?_); at_builtin; refine Kd.R_append (Kd.int .i64) (w0 := w) w.heap.size rfl (.tmp 44) (.tmp 46) 28 3 (.int .i64 0) 8 rfl Try.underlying28 info3 rfl (by decide) (by omega) u9 x9_1 ji8 [.int .i64 ji8] (fun _ => True) (fun _ => False) rfl rfl ?aP (fun _ hk => hk.elim) ?aF ?aO ?aB ?aS ?aL ?_; (case aP => exact rfl); (case aB => exact (by repeat (first | (with_reducible first | exact HB.out | apply below_alloc | apply pw_below_drewN | apply below_drew1) | exact HB.out))); (case aF => exact (fun _ _ => trivial)); (case aO => exact (by (with_reducible repeat (first | apply Kd.R_alloc | apply Kd.R_drewN | apply Kd.R_drew)); exact HO_9.out)); (case aS => exact (below_size (by repeat (first | (with_reducible first | exact HB.out | apply below_alloc | apply pw_below_drewN | apply below_drew1) | exact HB.out)))); (case aL => have := LMc13.out; omega); intro v262 w14 ho hb hg hat; rw [← Ny261.out] at ho; have n0_ := Aside0.mk (hb); have n1_ := Aside0.mk (ho); clear HB; clear HO_9; have HB := n0_; have HO263 := n1_; clear n0_ n1_; clear ho hb hg hat)))
                      go_roundg k1
                      case measure => have := HK1.out; omega
                      case rel => exact ⟨(y261), (wrap64 (x10_1 + 1)), (by first | rfl | (simp; done) | (simp [*]; done)), H', ⟨by have := HK1.out; omega⟩, ⟨by (with_reducible repeat (first | apply Kd.R_alloc | apply Kd.R_drewN | apply Kd.R_drew)); exact HO263.out⟩, ⟨by repeat (first | (with_reducible first | exact HB.out | apply below_alloc | apply pw_below_drewN | apply below_drew1) | exact HB.out)⟩⟩
                    · rw [if_neg c13] at H
                      exact absurd H (by simp)
                  · rw [if_neg c12] at H
                    have c12b0 : ((rd l0 x10_1) == ji9) = false := beq_eq_false_iff_ne.mpr c12
                    have c12b1 : ((rd l0 x10_1) != ji9) = true := bne_iff_ne.mpr c12
                    by_cases c15 : x9_1.length < 17592186044416
                    · rw [if_pos c15] at H
                      have LMc15 := Aside0.mk c15
                      clear c15
                      obtain ⟨y264, hy264⟩ : ∃ y_ : List Int, y_ = (x9_1 ++ [rd l0 x10_1]) := ⟨_, rfl⟩
                      replace H : (scarfjointref02_Merge.l0 k1 l0 ji8 ji9 y264 (wrap64 (x10_1 + 1))) = some r := by first | (rw [hy264]; with_reducible exact H) | (have H2_ := (Option.bind_some _ _).symm.trans H; rw [hy264]; with_reducible exact H2_) | (have H2_ := (Option.bind_some _ _).symm.trans H; with_reducible exact H2_) | with_reducible exact H | (rw [hy264]; exact H) | exact H
                      have Ny264 := Aside0.mk hy264
                      clear hy264
                      have H' := Aside0.mk H
                      clear H
                      have p260 : 0 ≤ (x10_1 : Int) := of_decide_eq_true (by first | (with_reducible assumption) | assumption)
                      have q260 : x10_1 < (l0.length : Int) := of_decide_eq_true (by first | (with_reducible assumption) | assumption)
                      obtain ⟨ad260, e260, hx260_0⟩ := Kd.at_int HR0.out x10_1 p260 q260
                      obtain rfl : ad256 = ad260 := (by injection e260)
                      (try replace hx260_0 := (HB.out.cell (World.block_lt_of_cell? w _ hx260_0)).trans hx260_0)
                      replace p260 := eq_true p260
                      replace q260 := eq_true q260
                      go_wp2_with (first | ((with_reducible refine gate_builtin (b := .append) (xs := #[.tmp 44, .tmp 46]) rfl ?_); at_builtin; refine Kd.R_append (Kd.int .i64) (w0 := w) w.heap.size rfl (.tmp 44) (.tmp 46) 28 3 (.int .i64 0) 8 rfl Try.underlying28 info3 rfl (by decide) (by omega) u9 x9_1 (rd l0 x10_1) [.int .i64 (rd l0 x10_1)] (fun _ => True) (fun _ => False) rfl rfl ?aP (fun _ hk => hk.elim) ?aF ?aO ?aB ?aS ?aL ?_; (case aP => exact rfl); (case aB => exact (by repeat (first | (with_reducible first | exact HB.out | apply below_alloc | apply pw_below_drewN | apply below_drew1) | exact HB.out))); (case aF => exact (fun _ _ => trivial)); (case aO => exact (by (with_reducible repeat (first | apply Kd.R_alloc | apply Kd.R_drewN | apply Kd.R_drew)); exact HO_9.out)); (case aS => exact (below_size (by repeat (first | (with_reducible first | exact HB.out | apply below_alloc | apply pw_below_drewN | apply below_drew1) | exact HB.out)))); (case aL => have := LMc15.out; omega); intro v265 w16 ho hb hg hat; rw [← Ny264.out] at ho; have n0_ := Aside0.mk (hb); have n1_ := Aside0.mk (ho); clear HB; clear HO_9; have HB := n0_; have HO266 := n1_; clear n0_ n1_; clear ho hb hg hat))
                      repeat (go_quiet (first | ((with_reducible refine gate_builtin (b := .append) (xs := #[.tmp 44, .tmp 46]) rfl ?_); at_builtin; refine Kd.R_append (Kd.int .i64) (w0 := w) w.heap.size rfl (.tmp 44) (.tmp 46) 28 3 (.int .i64 0) 8 rfl Try.underlying28 info3 rfl (by decide) (by omega) u9 x9_1 (rd l0 x10_1) [.int .i64 (rd l0 x10_1)] (fun _ => True) (fun _ => False) rfl rfl ?aP (fun _ hk => hk.elim) ?aF ?aO ?aB ?aS ?aL ?_; (case aP => exact rfl); (case aB => exact (by repeat (first | (with_reducible first | exact HB.out | apply below_alloc | apply pw_below_drewN | apply below_drew1) | exact HB.out))); (case aF => exact (fun _ _ => trivial)); (case aO => exact (by (with_reducible repeat (first | apply Kd.R_alloc | apply Kd.R_drewN | apply Kd.R_drew)); exact HO_9.out)); (case aS => exact (below_size (by repeat (first | (with_reducible first | exact HB.out | apply below_alloc | apply pw_below_drewN | apply below_drew1) | exact HB.out)))); (case aL => have := LMc15.out; omega); intro v265 w16 ho hb hg hat; rw [← Ny264.out] at ho; have n0_ := Aside0.mk (hb); have n1_ := Aside0.mk (ho); clear HB; clear HO_9; have HB := n0_; have HO266 := n1_; clear n0_ n1_; clear ho hb hg hat)); try go_wp2_with (first | ((with_reducible refine gate_builtin (b := .append) (xs := #[.tmp 44, .tmp 46]) rfl ?_); at_builtin; refine Kd.R_append (Kd.int .i64) (w0 := w) w.heap.size rfl (.tmp 44) (.tmp 46) 28 3 (.int .i64 0) 8 rfl Try.underlying28 info3 rfl (by decide) (by omega) u9 x9_1 (rd l0 x10_1) [.int .i64 (rd l0 x10_1)] (fun _ => True) (fun _ => False) rfl rfl ?aP (fun _ hk => hk.elim) ?aF ?aO ?aB ?aS ?aL ?_; (case aP => exact rfl); (case aB => exact (by repeat (first | (with_reducible first | exact HB.out | apply below_alloc | apply pw_below_drewN | apply below_drew1) | exact HB.out))); (case aF => exact (fun _ _ => trivial)); (case aO => exact (by (with_reducible repeat (first | apply Kd.R_alloc | apply Kd.R_drewN | apply Kd.R_drew)); exact HO_9.out)); (case aS => exact (below_size (by repeat (first | (with_reducible first | exact HB.out | apply below_alloc | apply pw_below_drewN | apply below_drew1) | exact HB.out)))); (case aL => have := LMc15.out; omega); intro v265 w16 ho hb hg hat; rw [← Ny264.out] at ho; have n0_ := Aside0.mk (hb); have n1_ := Aside0.mk (ho); clear HB; clear HO_9; have HB := n0_; have HO266 := n1_; clear n0_ n1_; clear ho hb hg hat)))
                      go_roundg k1
                      case measure => have := HK1.out; omega
                      case rel => exact ⟨(y264), (wrap64 (x10_1 + 1)), (by first | rfl | (simp; done) | (simp [*]; done)), H', ⟨by have := HK1.out; omega⟩, ⟨by (with_reducible repeat (first | apply Kd.R_alloc | apply Kd.R_drewN | apply Kd.R_drew)); exact HO266.out⟩, ⟨by repeat (first | (with_reducible first | exact HB.out | apply below_alloc | apply pw_below_drewN | apply below_drew1) | exact HB.out)⟩⟩
                    · rw [if_neg c15] at H
                      exact absurd H (by simp)
                · rw [if_neg c11] at H
                  exact absurd H (by simp)
              · rw [if_neg c10] at H
                have c10b0 : decide (x10_1 < (l0.length : Int)) = false := decide_eq_false c10
                clear c10
                obtain rfl := Option.some.inj H
                go_wp2
                repeat (go_quiet (fail); try go_wp2)
                go_ret
                exact ⟨_, by first | rfl | (simp [errW_none, errW_some] <;> rfl) | (simp only [← hji8, ← hji9]; first | rfl | (simp [errW_none, errW_some] <;> rfl)) | (simp [*, errW_none, errW_some] <;> rfl), by (with_reducible repeat (first | apply Kd.R_alloc | apply Kd.R_drewN | apply Kd.R_drew)); exact HO_9.out, by repeat (first | (with_reducible first | exact HB.out | apply below_alloc | apply pw_below_drewN | apply below_drew1) | exact HB.out)⟩
        · rw [if_neg c7] at H
          exact absurd H (by simp)
      · rw [if_neg c6] at H
        exact absurd H (by simp)
    · rw [if_neg c5] at H
      exact absurd H (by simp)
  · rw [if_neg c4] at H
    exact absurd H (by simp)

end Go.Proofs.Ytjkgjlaockihaaa.P
