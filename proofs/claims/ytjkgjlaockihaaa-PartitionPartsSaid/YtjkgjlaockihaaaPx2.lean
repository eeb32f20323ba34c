-- Written by wip/drive.py of this session's repo over the kit's print.py (with contracts of the session's own): not the print's own text
import Derived.Test.YtjkgjlaockihaaaPx0
import Derived.Test.YtjkgjlaockihaaaPx1
namespace Go.Proofs.Ytjkgjlaockihaaa.P
open Go.RowKit Go.Proofs.YtjkgjlaockihaaaW.PrintWords Go.Proofs.YtjkgjlaockihaaaW.PrintLast Go.Proofs.YtjkgjlaockihaaaW.PrintMore
attribute [local go_sem] max2_int min2_int max_two min_two max_three min_three max_four min_four   -- for this text's walks alone
set_option linter.unusedVariables false
set_option linter.unusedSimpArgs false

/-! ### partition_two: function 35 -/
mutual
def partition_two.j0 : Nat → List Int → List Int → Bool → Option (Int)
  | 0, _, _, _ => none
  | k + 1, x0, x1, x5 => if x5 = true then (some 3) else ((partition_right.f k x0).bind fun t123 => (if t123 = true then ((partition_right.f k x1).bind fun t124 => (partition_two.j1 k x0 x1 (!t124))) else (partition_two.j1 k x0 x1 true)))
def partition_two.j1 : Nat → List Int → List Int → Bool → Option (Int)
  | 0, _, _, _ => none
  | k + 1, x0, x1, x14 => if x14 = true then (some 1) else (if (x0.length : Int) = (x1.length : Int) then (some 0) else (some 20))
end
def partition_two.f (k : Nat) (l0 : List Int) (l1 : List Int) : Option (Int) := if (l0.length : Int) > 80 then (partition_two.j0 k l0 l1 true) else (partition_two.j0 k l0 l1 (decide ((l1.length : Int) > 80)))
theorem partition_two.mono_l : ∀ k, (∀ y0 y1 y2, LeO (partition_two.j0 k y0 y1 y2) (partition_two.j0 (k + 1) y0 y1 y2)) ∧ (∀ y0 y1 y2, LeO (partition_two.j1 k y0 y1 y2) (partition_two.j1 (k + 1) y0 y1 y2))
  | 0 => ⟨fun _ _ _ r h => by simp [partition_two.j0] at h, fun _ _ _ r h => by simp [partition_two.j1] at h⟩
  | k + 1 => by
    obtain ⟨ih0, ih1⟩ := partition_two.mono_l k
    refine ⟨?_, ?_⟩
    · intro y0 y1 y2
      unfold partition_two.j0
      repeat' first
      | (with_reducible exact ih0 _ _ _)
      | (with_reducible exact ih1 _ _ _)
      | (with_reducible exact partition_right.mono _ _)
      | (with_reducible exact LeO.refl _)
      | (with_reducible exact LeO.none _)
      | (with_reducible refine LeO.ite ?_ ?_)
      | (with_reducible refine LeO.bind ?_ (fun _ => ?_))
      | exact ih0 _ _ _
      | exact ih1 _ _ _
      | exact partition_right.mono _ _
      | exact LeO.none _
      | refine LeO.ite ?_ ?_
      | refine LeO.bind ?_ (fun _ => ?_)
    · intro y0 y1 y2
      unfold partition_two.j1
      repeat' first
      | (with_reducible exact ih0 _ _ _)
      | (with_reducible exact ih1 _ _ _)
      | (with_reducible exact partition_right.mono _ _)
      | (with_reducible exact LeO.refl _)
      | (with_reducible exact LeO.none _)
      | (with_reducible refine LeO.ite ?_ ?_)
      | (with_reducible refine LeO.bind ?_ (fun _ => ?_))
      | exact ih0 _ _ _
      | exact ih1 _ _ _
      | exact partition_right.mono _ _
      | exact LeO.none _
      | refine LeO.ite ?_ ?_
      | refine LeO.bind ?_ (fun _ => ?_)
theorem partition_two.mono : ∀ a0 a1 k, LeO (partition_two.f k a0 a1) (partition_two.f (k + 1) a0 a1) := by
  intro a0 a1 k
  obtain ⟨ih0, ih1⟩ := partition_two.mono_l k
  unfold partition_two.f
  repeat' first
      | (with_reducible exact ih0 _ _ _)
      | (with_reducible exact ih1 _ _ _)
      | (with_reducible exact partition_right.mono _ _)
      | (with_reducible exact LeO.refl _)
      | (with_reducible exact LeO.none _)
      | (with_reducible refine LeO.ite ?_ ?_)
      | (with_reducible refine LeO.bind ?_ (fun _ => ?_))
      | exact ih0 _ _ _
      | exact ih1 _ _ _
      | exact partition_right.mono _ _
      | exact LeO.none _
      | refine LeO.ite ?_ ?_
      | refine LeO.bind ?_ (fun _ => ?_)
set_option maxHeartbeats 8000000 in
set_option maxRecDepth 100000 in
theorem partition_two.calls (k : Nat) (A0 : Option Addr) (c0 : Nat) (l0 : List Int) (A1 : Option Addr) (c1 : Nat) (l1 : List Int) (r : Int) (w : World) (hr0 : Kd.C (Kd.int .i64) w A0 l0.length l0) (hc0 : l0.length ≤ c0) (hr1 : Kd.C (Kd.int .i64) w A1 l1.length l1) (hc1 : l1.length ≤ c1) (h : partition_two.f k l0 l1 = some r) :
    Calls Try.prog 35 #[.slice A0 l0.length c0, .slice A1 l1.length c1] w fun e w' => e = .returned (.int .i64 r) ∧ Drawn0 w w' := by
  have HR0 := Aside0.mk hr0
  have HC0 := Aside0.mk hc0
  clear hr0 hc0
  have HR1 := Aside0.mk hr1
  have HC1 := Aside0.mk hc1
  clear hr1 hc1
  have H : (if (l0.length : Int) > 80 then (partition_two.j0 k l0 l1 true) else (partition_two.j0 k l0 l1 (decide ((l1.length : Int) > 80)))) = some r := h
  clear h
  have HC3 := Aside0.mk H
  clear H
  go_enter Try.func35, Try.ntmps35
  go_upto_region 1 with (fail)
  go_cut [5] (fun v5 wc => ∃ (kq : Nat) (x5_2 : Bool), v5 = .bool x5_2 ∧ Aside0 (partition_two.j0 kq l0 l1 x5_2 = some r) ∧ Aside0 (kq ≤ k) ∧ Drawn0 w wc)
  case first =>
    have H := HC3.out
    clear HC3
    by_cases c4 : (l0.length : Int) > 80
    · rw [if_pos c4] at H
      have c4b0 : decide (80 < (l0.length : Int)) = true := decide_eq_true c4
      have c4b1 : decide (80 < l0.length) = true := decide_eq_true (by omega)
      clear c4
      (first | rw [c4b0] | (simp only [i64_w, i32_w]; rw [c4b0]) | skip)
      have H' := Aside0.mk H
      clear H
      go_wp2
      go_meet
      case rel => exact ⟨_, (true), (by first | rfl | (simp; done) | (simp [*]; done)), H', ⟨by first | omega | exact Nat.le_refl _⟩, by repeat (first | exact Drawn0.refl _ | apply Drawn0.step)⟩
    · rw [if_neg c4] at H
      have c4b0 : decide (80 < (l0.length : Int)) = false := decide_eq_false c4
      have c4b1 : decide (80 < l0.length) = false := decide_eq_false (by omega)
      clear c4
      (first | rw [c4b0] | (simp only [i64_w, i32_w]; rw [c4b0]) | skip)
      have H' := Aside0.mk H
      clear H
      go_wp2
      go_meet
      case rel => exact ⟨_, (decide ((l1.length : Int) > 80)), (by first | rfl | (simp; done) | (simp [*]; done)), H', ⟨by first | omega | exact Nat.le_refl _⟩, by repeat (first | exact Drawn0.refl _ | apply Drawn0.step)⟩
  case rest =>
    clear HC3
    try clear c1
    try clear p2
    try clear c3
    try clear c4
    try clear c4b0
    try clear c4b1
    obtain ⟨kq, x5_2, rfl, HA, HJ2, ⟨mc2, rfl⟩⟩ := hcut
    cases kq with
    | zero => exact absurd HA.out (by simp [partition_two.j0])
    | succ kj2 =>
      have H := HA.out
      clear HA
      simp only [partition_two.j0] at H
      by_cases c5 : x5_2 = true
      · subst c5
        have H1 : (some 3) = some r := by rw [if_pos rfl] at H; exact H
        clear H
        have H := H1
        clear H1
        obtain rfl := Option.some.inj H
        go_wp2
        go_ret
        exact ⟨by first | rfl | (simp; done) | (simp [*]; done), by repeat (first | exact Drawn0.refl _ | apply Drawn0.step)⟩
      · replace c5 := Bool.eq_false_iff.mpr c5
        subst c5
        have H1 : ((partition_right.f kj2 l0).bind fun t123 => (if t123 = true then ((partition_right.f kj2 l1).bind fun t124 => (partition_two.j1 kj2 l0 l1 (!t124))) else (partition_two.j1 kj2 l0 l1 true))) = some r := by rw [if_neg (show ¬ (false = true) by decide)] at H; exact H
        clear H
        have H := H1
        clear H1
        have HC6 := Aside0.mk H
        clear H
        go_upto_region 3 with (fail)
        go_cut [14] (fun v14 wc => ∃ (kq : Nat) (x14_5 : Bool), v14 = .bool x14_5 ∧ Aside0 (partition_two.j1 kq l0 l1 x14_5 = some r) ∧ Aside0 (kq ≤ kj2) ∧ Drawn0 w wc)
        case first =>
          have H := HC6.out
          clear HC6
          replace H := Option.bind_eq_some_iff.mp H
          obtain ⟨t123, A70, H⟩ := H
          replace H : (if t123 = true then ((partition_right.f kj2 l1).bind fun t124 => (partition_two.j1 kj2 l0 l1 (!t124))) else (partition_two.j1 kj2 l0 l1 true)) = some r := H
          have A7 := Aside0.mk A70
          clear A70
          by_cases c8 : t123 = true
          · subst c8
            have H1 : ((partition_right.f kj2 l1).bind fun t124 => (partition_two.j1 kj2 l0 l1 (!t124))) = some r := by rw [if_pos rfl] at H; exact H
            clear H
            have H := H1
            clear H1
            replace H := Option.bind_eq_some_iff.mp H
            obtain ⟨t124, A90, H⟩ := H
            replace H : (partition_two.j1 kj2 l0 l1 (!t124)) = some r := H
            have A9 := Aside0.mk A90
            clear A90
            have H' := Aside0.mk H
            clear H
            go_wp2_with (first | ((with_reducible refine gate_callee (f := 41) rfl ?_); refine goesL_ (some 16) rfl rfl Try.func41 (by kernel_rfl) rfl #[.slice A0 l0.length c0] rfl (by (try simp only [List.map_toArray, List.map_cons, List.map_nil]); first | done | rfl | (simp only [List.length_drop, List.length_take]; rfl)) ?_; (with_reducible refine (partition_right.calls kj2 _ _ l0 true _ ?side1 ?side2 A7.out).mono ?_); (case side1 => repeat (first | exact HR0.out | (with_reducible refine Kd.C_alloc ?_ _) | (with_reducible refine Kd.C_drewN ?_ _) | (with_reducible refine Kd.C_drew ?_))); (case side2 => exact HC0.out); rintro e w' ⟨rfl, ⟨nd, rfl⟩⟩; refine ⟨_, rfl, ?_⟩) | (go_at_call 41; (with_reducible refine (partition_right.calls kj2 _ _ l1 t124 _ ?side1 ?side2 A9.out).mono ?_); (case side1 => repeat (first | exact HR1.out | (with_reducible refine Kd.C_alloc ?_ _) | (with_reducible refine Kd.C_drewN ?_ _) | (with_reducible refine Kd.C_drew ?_))); (case side2 => exact HC1.out); rintro e w' ⟨rfl, ⟨nd, rfl⟩⟩))
            go_meet
            case rel => exact ⟨_, (!t124), (by first | rfl | (simp; done) | (simp [*]; done)), H', ⟨by have := HJ2.out; first | omega | exact Nat.le_refl _⟩, by repeat (first | exact Drawn0.refl _ | apply Drawn0.step)⟩
          · replace c8 := Bool.eq_false_iff.mpr c8
            subst c8
            have H1 : (partition_two.j1 kj2 l0 l1 true) = some r := by rw [if_neg (show ¬ (false = true) by decide)] at H; exact H
            clear H
            have H := H1
            clear H1
            have H' := Aside0.mk H
            clear H
            go_wp2_with (first | ((with_reducible refine gate_callee (f := 41) rfl ?_); refine goesL_ (some 16) rfl rfl Try.func41 (by kernel_rfl) rfl #[.slice A0 l0.length c0] rfl (by (try simp only [List.map_toArray, List.map_cons, List.map_nil]); first | done | rfl | (simp only [List.length_drop, List.length_take]; rfl)) ?_; (with_reducible refine (partition_right.calls kj2 _ _ l0 false _ ?side1 ?side2 A7.out).mono ?_); (case side1 => repeat (first | exact HR0.out | (with_reducible refine Kd.C_alloc ?_ _) | (with_reducible refine Kd.C_drewN ?_ _) | (with_reducible refine Kd.C_drew ?_))); (case side2 => exact HC0.out); rintro e w' ⟨rfl, ⟨nd, rfl⟩⟩; refine ⟨_, rfl, ?_⟩))
            go_meet
            case rel => exact ⟨_, (true), (by first | rfl | (simp; done) | (simp [*]; done)), H', ⟨by have := HJ2.out; first | omega | exact Nat.le_refl _⟩, by repeat (first | exact Drawn0.refl _ | apply Drawn0.step)⟩
        case rest =>
          clear HC6
          try clear c1
          try clear c2
          try clear p2
          try clear c3
          try clear c4
          try clear c4b0
          try clear c4b1
          try clear c5
          try clear c8
          try clear p2
          obtain ⟨kq, x14_5, rfl, HA, HJ5, ⟨mc5, rfl⟩⟩ := hcut
          cases kq with
          | zero => exact absurd HA.out (by simp [partition_two.j1])
          | succ kj5 =>
            have H := HA.out
            clear HA
            simp only [partition_two.j1] at H
            by_cases c10 : x14_5 = true
            · subst c10
              have H1 : (some 1) = some r := by rw [if_pos rfl] at H; exact H
              clear H
              have H := H1
              clear H1
              obtain rfl := Option.some.inj H
              go_wp2
              go_ret
              exact ⟨by first | rfl | (simp; done) | (simp [*]; done), by repeat (first | exact Drawn0.refl _ | apply Drawn0.step)⟩
            · replace c10 := Bool.eq_false_iff.mpr c10
              subst c10
              have H1 : (if (l0.length : Int) = (l1.length : Int) then (some 0) else (some 20)) = some r := by rw [if_neg (show ¬ (false = true) by decide)] at H; exact H
              clear H
              have H := H1
              clear H1
              by_cases c11 : (l0.length : Int) = (l1.length : Int)
              · rw [if_pos c11] at H
                have c11b0 : ((l0.length : Int) == (l1.length : Int)) = true := beq_iff_eq.mpr c11
                have c11b1 : ((l0.length : Int) != (l1.length : Int)) = false := bne_eq_false_iff_eq.mpr c11
                have c11b2 : (l0.length == l1.length) = true := by first | simpa using c11 | (simp at c11 ⊢; omega)
                clear c11
                obtain rfl := Option.some.inj H
                go_wp2
                go_ret
                exact ⟨by first | rfl | (simp; done) | (simp [*]; done), by repeat (first | exact Drawn0.refl _ | apply Drawn0.step)⟩
              · rw [if_neg c11] at H
                have c11b0 : ((l0.length : Int) == (l1.length : Int)) = false := beq_eq_false_iff_ne.mpr c11
                have c11b1 : ((l0.length : Int) != (l1.length : Int)) = true := bne_iff_ne.mpr c11
                have c11b2 : (l0.length == l1.length) = false := by first | simpa using c11 | (simp at c11 ⊢; omega)
                obtain rfl := Option.some.inj H
                go_wp2
                go_ret
                exact ⟨by first | rfl | (simp; done) | (simp [*]; done), by repeat (first | exact Drawn0.refl _ | apply Drawn0.step)⟩

/-! ### partition_Join: function 12 -/
def partition_Join.l0 : Nat → List Int → List Int → List Int → Int → Int → Option (List Int × Int)
  | 0, _, _, _, _, _ => none
  | k + 1, x0, x1, x7, x19, x20 => if x20 < x19 then (if 0 ≤ x20 then (if x20 < (x0.length : Int) then ((partition_unite.f k x7 x20 (rd x0 x20)).bind fun t130 => (if x20 < (x1.length : Int) then ((partition_unite.f k t130 x20 (rd x1 x20)).bind fun t132 => (partition_Join.l0 k x0 x1 t132 x19 (wrap64 (x20 + 1)))) else (none))) else (none)) else (none)) else ((partition_flat.f k x7).bind fun t133 => (some (t133, 0)))
def partition_Join.f (k : Nat) (l0 : List Int) (l1 : List Int) : Option (List Int × Int) := (partition_two.f k l0 l1).bind fun t125 => (if t125 = 0 then ((partition_finest.f k (l0.length : Int)).bind fun t126 => (partition_Join.l0 k l0 l1 t126 (t126.length : Int) 0)) else (some (([] : List Int), t125)))
theorem partition_Join.mono_l : ∀ k, (∀ y0 y1 y2 y3 y4, LeO (partition_Join.l0 k y0 y1 y2 y3 y4) (partition_Join.l0 (k + 1) y0 y1 y2 y3 y4))
  | 0 => fun _ _ _ _ _ r h => by simp [partition_Join.l0] at h
  | k + 1 => by
    have ih0 := partition_Join.mono_l k
    · intro y0 y1 y2 y3 y4
      unfold partition_Join.l0
      repeat' first
      | (with_reducible exact ih0 _ _ _ _ _)
      | (with_reducible exact partition_finest.mono _ _)
      | (with_reducible exact partition_flat.mono _ _)
      | (with_reducible exact partition_two.mono _ _ _)
      | (with_reducible exact partition_unite.mono _ _ _ _)
      | (with_reducible exact LeO.refl _)
      | (with_reducible exact LeO.none _)
      | (with_reducible refine LeO.ite ?_ ?_)
      | (with_reducible refine LeO.bind ?_ (fun _ => ?_))
      | exact ih0 _ _ _ _ _
      | exact partition_finest.mono _ _
      | exact partition_flat.mono _ _
      | exact partition_two.mono _ _ _
      | exact partition_unite.mono _ _ _ _
      | exact LeO.none _
      | refine LeO.ite ?_ ?_
      | refine LeO.bind ?_ (fun _ => ?_)
theorem partition_Join.mono : ∀ a0 a1 k, LeO (partition_Join.f k a0 a1) (partition_Join.f (k + 1) a0 a1) := by
  intro a0 a1 k
  have ih0 := partition_Join.mono_l k
  unfold partition_Join.f
  repeat' first
      | (with_reducible exact ih0 _ _ _ _ _)
      | (with_reducible exact partition_finest.mono _ _)
      | (with_reducible exact partition_flat.mono _ _)
      | (with_reducible exact partition_two.mono _ _ _)
      | (with_reducible exact partition_unite.mono _ _ _ _)
      | (with_reducible exact LeO.refl _)
      | (with_reducible exact LeO.none _)
      | (with_reducible refine LeO.ite ?_ ?_)
      | (with_reducible refine LeO.bind ?_ (fun _ => ?_))
      | exact ih0 _ _ _ _ _
      | exact partition_finest.mono _ _
      | exact partition_flat.mono _ _
      | exact partition_two.mono _ _ _
      | exact partition_unite.mono _ _ _ _
      | exact LeO.none _
      | refine LeO.ite ?_ ?_
      | refine LeO.bind ?_ (fun _ => ?_)
set_option maxHeartbeats 8000000 in
set_option maxRecDepth 100000 in
theorem partition_Join.calls (k : Nat) (A0 : Option Addr) (c0 : Nat) (l0 : List Int) (A1 : Option Addr) (c1 : Nat) (l1 : List Int) (r1 : List Int) (r2 : Int) (w : World) (hr0 : Kd.C (Kd.int .i64) w A0 l0.length l0) (hc0 : l0.length ≤ c0) (hr1 : Kd.C (Kd.int .i64) w A1 l1.length l1) (hc1 : l1.length ≤ c1) (h : partition_Join.f k l0 l1 = some (r1, r2)) :
    Calls Try.prog 12 #[.slice A0 l0.length c0, .slice A1 l1.length c1] w fun e w' => ∃ v0_ : Value, e = .returned (.tuple #[v0_, .int .i64 r2]) ∧ Kd.R (Kd.int .i64) 3 w' w.heap.size (fun _ => True) v0_ r1 ∧ Below w.heap.size w w' := by
  have HR0 := Aside0.mk hr0
  have HC0 := Aside0.mk hc0
  clear hr0 hc0
  have HR1 := Aside0.mk hr1
  have HC1 := Aside0.mk hc1
  clear hr1 hc1
  have HB := Aside0.mk (Below.refl w.heap.size w)
  have H : ((partition_two.f k l0 l1).bind fun t125 => (if t125 = 0 then ((partition_finest.f k (l0.length : Int)).bind fun t126 => (partition_Join.l0 k l0 l1 t126 (t126.length : Int) 0)) else (some (([] : List Int), t125)))) = some (r1, r2) := h
  clear h
  replace H := Option.bind_eq_some_iff.mp H
  obtain ⟨t125, A30, H⟩ := H
  replace H : (if t125 = 0 then ((partition_finest.f k (l0.length : Int)).bind fun t126 => (partition_Join.l0 k l0 l1 t126 (t126.length : Int) 0)) else (some (([] : List Int), t125))) = some (r1, r2) := H
  have A3 := Aside0.mk A30
  clear A30
  by_cases c4 : t125 = 0
  · rw [if_pos c4] at H
    have c4b0 : (t125 == 0) = true := beq_iff_eq.mpr c4
    have c4b1 : (t125 != 0) = false := bne_eq_false_iff_eq.mpr c4
    clear c4
    replace H := Option.bind_eq_some_iff.mp H
    obtain ⟨t126, A50, H⟩ := H
    replace H : (partition_Join.l0 k l0 l1 t126 (t126.length : Int) 0) = some (r1, r2) := H
    have A5 := Aside0.mk A50
    clear A50
    have H' := Aside0.mk H
    clear H
    go_enter Try.func12, Try.ntmps12
    go_wp2_with (first | ((with_reducible refine gate_callee (f := 35) rfl ?_); refine goesL_ (some 11) rfl rfl Try.func35 (by kernel_rfl) rfl #[.slice A0 l0.length c0, .slice A1 l1.length c1] rfl (by (try simp only [List.map_toArray, List.map_cons, List.map_nil]); first | done | rfl | (simp only [List.length_drop, List.length_take]; rfl)) ?_; (with_reducible refine (partition_two.calls k _ _ l0 _ _ l1 t125 _ ?side1 ?side2 ?side3 ?side4 A3.out).mono ?_); (case side1 => repeat (first | exact HR0.out | (with_reducible refine Kd.C_alloc ?_ _) | (with_reducible refine Kd.C_drewN ?_ _) | (with_reducible refine Kd.C_drew ?_))); (case side2 => exact HC0.out); (case side3 => repeat (first | exact HR1.out | (with_reducible refine Kd.C_alloc ?_ _) | (with_reducible refine Kd.C_drewN ?_ _) | (with_reducible refine Kd.C_drew ?_))); (case side4 => exact HC1.out); rintro e w' ⟨rfl, ⟨nd, rfl⟩⟩; refine ⟨_, rfl, ?_⟩) | ((with_reducible refine gate_callee (f := 32) rfl ?_); refine goesL_ (some 17) rfl rfl Try.func32 (by kernel_rfl) rfl #[.int .i64 (l0.length : Int)] rfl (by (try simp only [List.map_toArray, List.map_cons, List.map_nil]); first | done | rfl | (simp only [List.length_drop, List.length_take]; rfl)) ?_; (with_reducible refine (partition_finest.calls k (l0.length : Int) t126 _ A5.out).mono ?_); rintro e w6 ⟨v127, rfl, ho0, hb⟩; refine ⟨_, rfl, ?_⟩; have n0_ := Aside0.mk (Kd.R_lower ho0 (below_size (by repeat (first | (with_reducible first | exact HB.out | apply below_alloc | apply pw_below_drewN | apply below_drew1) | exact HB.out)))); have n1_ := Aside0.mk (below_step (by repeat (first | (with_reducible first | exact HB.out | apply below_alloc | apply pw_below_drewN | apply below_drew1) | exact HB.out)) hb); clear HB; have HO128 := n0_; have HB := n1_; clear n0_ n1_; (try clear hb); (try clear hb2); (try clear hk); (try clear hi); (try clear ho0); obtain ⟨Ao7, co7, eo7⟩ := Kd.R_slice HO128.out; subst eo7))
    go_loopg [20] k (fun kq v20 w' => ∃ (x7_1 : List Int) (x20_1 : Int), v20 = .int .i64 x20_1 ∧ Aside0 (partition_Join.l0 kq l0 l1 x7_1 (t126.length : Int) x20_1 = some (r1, r2)) ∧ Aside0 (kq ≤ k) ∧ Aside0 (Kd.R (Kd.int .i64) 3 w' w.heap.size (fun _ => True) (.slice Ao7 t126.length co7) x7_1) ∧ Aside0 (Below w.heap.size w w'))
    case atStart => exact ⟨(t126), (0), (by first | rfl | (simp; done) | (simp [*]; done)), H', ⟨Nat.le_refl _⟩, ⟨by (with_reducible repeat (first | apply Kd.R_alloc | apply Kd.R_drewN | apply Kd.R_drew)); exact HO128.out⟩, ⟨by repeat (first | (with_reducible first | exact HB.out | apply below_alloc | apply pw_below_drewN | apply below_drew1) | exact HB.out)⟩⟩
    case round =>
      clear H'
      try clear c1
      try clear p2
      try clear c3
      try clear c4
      try clear c4b0
      try clear c4b1
      obtain ⟨x7_1, x20_1, rfl, HA, HK1, HO_7, HB⟩ := hrel
      have hl7_1 := (Kd.R_reads' HO_7.out).1
      rw [hl7_1] at HO_7
      (try simp only [hl7_1])
      cases gk with
      | zero => exact absurd HA.out (by simp [partition_Join.l0])
      | succ k1 =>
        have H := HA.out
        clear HA
        simp only [partition_Join.l0] at H
        by_cases c8 : x20_1 < (t126.length : Int)
        · rw [if_pos c8] at H
          have c8b0 : decide (x20_1 < (t126.length : Int)) = true := decide_eq_true c8
          (try simp only [hl7_1] at c8b0)
          clear c8
          by_cases c9 : 0 ≤ x20_1
          · rw [if_pos c9] at H
            have c9b0 : decide (0 ≤ x20_1) = true := decide_eq_true c9
            (try simp only [hl7_1] at c9b0)
            clear c9
            by_cases c10 : x20_1 < (l0.length : Int)
            · rw [if_pos c10] at H
              have c10b0 : decide (x20_1 < (l0.length : Int)) = true := decide_eq_true c10
              (try simp only [hl7_1] at c10b0)
              clear c10
              replace H := Option.bind_eq_some_iff.mp H
              obtain ⟨t130, A110, H⟩ := H
              replace H : (if x20_1 < (l1.length : Int) then ((partition_unite.f k1 t130 x20_1 (rd l1 x20_1)).bind fun t132 => (partition_Join.l0 k1 l0 l1 t132 (t126.length : Int) (wrap64 (x20_1 + 1)))) else (none)) = some (r1, r2) := H
              have A11 := Aside0.mk A110
              clear A110
              by_cases c12 : x20_1 < (l1.length : Int)
              · rw [if_pos c12] at H
                have c12b0 : decide (x20_1 < (l1.length : Int)) = true := decide_eq_true c12
                (try simp only [hl7_1] at c12b0)
                clear c12
                replace H := Option.bind_eq_some_iff.mp H
                obtain ⟨t132, A130, H⟩ := H
                replace H : (partition_Join.l0 k1 l0 l1 t132 (t126.length : Int) (wrap64 (x20_1 + 1))) = some (r1, r2) := H
                have A13 := Aside0.mk A130
                clear A130
                have H' := Aside0.mk H
                clear H
                have p129 : 0 ≤ (x20_1 : Int) := of_decide_eq_true (by first | (with_reducible assumption) | assumption)
                have q129 : x20_1 < (l0.length : Int) := of_decide_eq_true (by first | (with_reducible assumption) | assumption)
                obtain ⟨ad129, e129, hx129_0⟩ := Kd.at_int HR0.out x20_1 p129 q129
                cases e129
                (try replace hx129_0 := (HB.out.cell (World.block_lt_of_cell? w _ hx129_0)).trans hx129_0)
                replace p129 := eq_true p129
                replace q129 := eq_true q129
                go_wp2_with (first | ((with_reducible refine gate_callee (f := 33) rfl ?_); refine goesL_ (some 29) rfl rfl Try.func33 (by kernel_rfl) rfl #[.slice Ao7 x7_1.length co7, .int .i64 x20_1, .int .i64 (rd l0 x20_1)] rfl (by (try simp only [List.map_toArray, List.map_cons, List.map_nil]); first | done | rfl | (simp only [List.length_drop, List.length_take]; rfl)) ?_; (with_reducible refine (partition_unite.calls k1 (fun k_ => some k_ = (.slice Ao7 x7_1.length co7 : Value).ownBlock) (.slice Ao7 x7_1.length co7) x7_1 x20_1 (rd l0 x20_1) t130 w _ ?side1 ?side2 A11.out).mono ?_); (case side1 => repeat (first | (with_reducible first | exact HB.out | apply below_alloc | apply pw_below_drewN | apply below_drew1) | exact HB.out)); (case side2 => exact Kd.R_tight rfl HO_7.out); rintro e w14 ⟨rfl, hy0, hb, hkp⟩; refine ⟨_, rfl, ?_⟩; have n0_ := Aside0.mk (Kd.R_reok rfl hy0 (fun k_ e_ => HO_7.out.1 k_ e_)); have n1_ := Aside0.mk (hb); clear HO_7; clear HB; have HO_7 := n0_; have HB := n1_; clear n0_ n1_; (try clear hb); (try clear hkp); (try clear hy0); have p131 : 0 ≤ (x20_1 : Int) := of_decide_eq_true (by first | (with_reducible assumption) | assumption); have q131 : x20_1 < (l1.length : Int) := of_decide_eq_true (by first | (with_reducible assumption) | assumption); obtain ⟨ad131, e131, hx131_0⟩ := Kd.at_int HR1.out x20_1 p131 q131; cases e131; replace hx131_0 := (HB.out.cell (World.block_lt_of_cell? w _ hx131_0)).trans hx131_0; replace p131 := eq_true p131; replace q131 := eq_true q131) | ((with_reducible refine gate_callee (f := 33) rfl ?_); refine goesL_ (some 36) rfl rfl Try.func33 (by kernel_rfl) rfl #[.slice Ao7 x7_1.length co7, .int .i64 x20_1, .int .i64 (rd l1 x20_1)] rfl (by (try simp only [List.map_toArray, List.map_cons, List.map_nil]); first | done | rfl | (simp only [List.length_drop, List.length_take]; rfl)) ?_; (with_reducible refine (partition_unite.calls k1 (fun k_ => some k_ = (.slice Ao7 x7_1.length co7 : Value).ownBlock) (.slice Ao7 x7_1.length co7) t130 x20_1 (rd l1 x20_1) t132 w _ ?side1 ?side2 A13.out).mono ?_); (case side1 => repeat (first | (with_reducible first | exact HB.out | apply below_alloc | apply pw_below_drewN | apply below_drew1) | exact HB.out)); (case side2 => exact Kd.R_tight rfl HO_7.out); rintro e w15 ⟨rfl, hy0, hb, hkp⟩; refine ⟨_, rfl, ?_⟩; have n0_ := Aside0.mk (Kd.R_reok rfl hy0 (fun k_ e_ => HO_7.out.1 k_ e_)); have n1_ := Aside0.mk (hb); clear HO_7; clear HB; have HO_7 := n0_; have HB := n1_; clear n0_ n1_; (try clear hb); (try clear hkp); (try clear hy0)))
                (try simp only [← hl7_1])
                go_roundg k1
                case measure => have := HK1.out; omega
                case rel => exact ⟨(t132), (wrap64 (x20_1 + 1)), (by first | rfl | (simp; done) | (simp [*]; done)), H', ⟨by have := HK1.out; omega⟩, ⟨by (try simp only [hl7_1]); (with_reducible repeat (first | apply Kd.R_alloc | apply Kd.R_drewN | apply Kd.R_drew)); exact HO_7.out⟩, ⟨by repeat (first | (with_reducible first | exact HB.out | apply below_alloc | apply pw_below_drewN | apply below_drew1) | exact HB.out)⟩⟩
              · rw [if_neg c12] at H
                exact absurd H (by simp)
            · rw [if_neg c10] at H
              exact absurd H (by simp)
          · rw [if_neg c9] at H
            exact absurd H (by simp)
        · rw [if_neg c8] at H
          have c8b0 : decide (x20_1 < (t126.length : Int)) = false := decide_eq_false c8
          (try simp only [hl7_1] at c8b0)
          clear c8
          replace H := Option.bind_eq_some_iff.mp H
          obtain ⟨t133, A160, H⟩ := H
          replace H : (some (t133, 0)) = some (r1, r2) := H
          have A16 := Aside0.mk A160
          clear A160
          simp only [Option.some.injEq, Prod.mk.injEq] at H
          obtain ⟨rfl, rfl⟩ := H
          go_wp2_with (first | ((with_reducible refine gate_callee (f := 34) rfl ?_); refine goesL_ (some 39) rfl rfl Try.func34 (by kernel_rfl) rfl #[.slice Ao7 x7_1.length co7] rfl (by (try simp only [List.map_toArray, List.map_cons, List.map_nil]); first | done | rfl | (simp only [List.length_drop, List.length_take]; rfl)) ?_; (with_reducible refine (partition_flat.calls k1 (fun k_ => some k_ = (.slice Ao7 x7_1.length co7 : Value).ownBlock) (.slice Ao7 x7_1.length co7) x7_1 t133 w _ ?side1 ?side2 A16.out).mono ?_); (case side1 => repeat (first | (with_reducible first | exact HB.out | apply below_alloc | apply pw_below_drewN | apply below_drew1) | exact HB.out)); (case side2 => exact Kd.R_tight rfl HO_7.out); rintro e w17 ⟨v134, rfl, ho0, hb, hkp⟩; refine ⟨_, rfl, ?_⟩; have n0_ := Aside0.mk (Kd.R_mono (ok' := fun k_ => True) ho0 (fun k_ hk_ => trivial)); have n1_ := Aside0.mk (hb); clear HB; clear HO_7; have HO135 := n0_; have HB := n1_; clear n0_ n1_; (try clear hb); (try clear hkp); (try clear ho0)))
          go_ret2
          exact ⟨_, by first | rfl | (simp [errW_none, errW_some] <;> rfl) | (simp [*, errW_none, errW_some] <;> rfl), by (with_reducible repeat (first | apply Kd.R_alloc | apply Kd.R_drewN | apply Kd.R_drew)); exact HO135.out, by repeat (first | (with_reducible first | exact HB.out | apply below_alloc | apply pw_below_drewN | apply below_drew1) | exact HB.out)⟩
  · rw [if_neg c4] at H
    have c4b0 : (t125 == 0) = false := beq_eq_false_iff_ne.mpr c4
    have c4b1 : (t125 != 0) = true := bne_iff_ne.mpr c4
    simp only [Option.some.injEq, Prod.mk.injEq] at H
    obtain ⟨rfl, rfl⟩ := H
    go_enter Try.func12, Try.ntmps12
    go_wp2_with (first | ((with_reducible refine gate_callee (f := 35) rfl ?_); refine goesL_ (some 11) rfl rfl Try.func35 (by kernel_rfl) rfl #[.slice A0 l0.length c0, .slice A1 l1.length c1] rfl (by (try simp only [List.map_toArray, List.map_cons, List.map_nil]); first | done | rfl | (simp only [List.length_drop, List.length_take]; rfl)) ?_; (with_reducible refine (partition_two.calls k _ _ l0 _ _ l1 t125 _ ?side1 ?side2 ?side3 ?side4 A3.out).mono ?_); (case side1 => repeat (first | exact HR0.out | (with_reducible refine Kd.C_alloc ?_ _) | (with_reducible refine Kd.C_drewN ?_ _) | (with_reducible refine Kd.C_drew ?_))); (case side2 => exact HC0.out); (case side3 => repeat (first | exact HR1.out | (with_reducible refine Kd.C_alloc ?_ _) | (with_reducible refine Kd.C_drewN ?_ _) | (with_reducible refine Kd.C_drew ?_))); (case side4 => exact HC1.out); rintro e w' ⟨rfl, ⟨nd, rfl⟩⟩; refine ⟨_, rfl, ?_⟩))
    go_ret2
    exact ⟨_, by first | rfl | (simp [errW_none, errW_some] <;> rfl) | (simp [*, errW_none, errW_some] <;> rfl), by first | exact Kd.R_nil _ _ _ _ _ | exact Kd.N_nil _ _ _ _ _ | exact Kd.V_nil _ _ _ _ _ | exact Kd.Q_nil _ _ _ _ _ | exact Kd.S_nil _ _ _ _ _, by repeat (first | (with_reducible first | exact HB.out | apply below_alloc | apply pw_below_drewN | apply below_drew1) | exact HB.out)⟩

/-! ### slices_Equal_int_int: function 14 -/
def slices_Equal_int_int.l0 : Nat → List Int → List Int → Int → Int → Option (Bool)
  | 0, _, _, _, _ => none
  | k + 1, x0, x1, x12, x13 => if x13 < x12 then (if 0 ≤ x13 then (if x13 < (x0.length : Int) then (if x13 < (x1.length : Int) then (if (rd x0 x13) = (rd x1 x13) then (slices_Equal_int_int.l0 k x0 x1 x12 (wrap64 (x13 + 1))) else (some false)) else (none)) else (none)) else (none)) else (some true)
def slices_Equal_int_int.f (k : Nat) (l0 : List Int) (l1 : List Int) : Option (Bool) := if (l0.length : Int) = (l1.length : Int) then (slices_Equal_int_int.l0 k l0 l1 (l0.length : Int) 0) else (some false)
theorem slices_Equal_int_int.mono_l : ∀ k, (∀ y0 y1 y2 y3, LeO (slices_Equal_int_int.l0 k y0 y1 y2 y3) (slices_Equal_int_int.l0 (k + 1) y0 y1 y2 y3))
  | 0 => fun _ _ _ _ r h => by simp [slices_Equal_int_int.l0] at h
  | k + 1 => by
    have ih0 := slices_Equal_int_int.mono_l k
    · intro y0 y1 y2 y3
      unfold slices_Equal_int_int.l0
      repeat' first
      | (with_reducible exact ih0 _ _ _ _)
      | (with_reducible exact LeO.refl _)
      | (with_reducible exact LeO.none _)
      | (with_reducible refine LeO.ite ?_ ?_)
      | (with_reducible refine LeO.bind ?_ (fun _ => ?_))
      | exact ih0 _ _ _ _
      | exact LeO.none _
      | refine LeO.ite ?_ ?_
      | refine LeO.bind ?_ (fun _ => ?_)
theorem slices_Equal_int_int.mono : ∀ a0 a1 k, LeO (slices_Equal_int_int.f k a0 a1) (slices_Equal_int_int.f (k + 1) a0 a1) := by
  intro a0 a1 k
  have ih0 := slices_Equal_int_int.mono_l k
  unfold slices_Equal_int_int.f
  repeat' first
      | (with_reducible exact ih0 _ _ _ _)
      | (with_reducible exact LeO.refl _)
      | (with_reducible exact LeO.none _)
      | (with_reducible refine LeO.ite ?_ ?_)
      | (with_reducible refine LeO.bind ?_ (fun _ => ?_))
      | exact ih0 _ _ _ _
      | exact LeO.none _
      | refine LeO.ite ?_ ?_
      | refine LeO.bind ?_ (fun _ => ?_)
set_option maxHeartbeats 8000000 in
set_option maxRecDepth 100000 in
theorem slices_Equal_int_int.calls (k : Nat) (A0 : Option Addr) (c0 : Nat) (l0 : List Int) (A1 : Option Addr) (c1 : Nat) (l1 : List Int) (r : Bool) (w : World) (hr0 : Kd.C (Kd.int .i64) w A0 l0.length l0) (hc0 : l0.length ≤ c0) (hr1 : Kd.C (Kd.int .i64) w A1 l1.length l1) (hc1 : l1.length ≤ c1) (h : slices_Equal_int_int.f k l0 l1 = some r) :
    Calls Try.prog 14 #[.slice A0 l0.length c0, .slice A1 l1.length c1] w fun e w' => e = .returned (.bool r) ∧ Drawn0 w w' := by
  have HR0 := Aside0.mk hr0
  have HC0 := Aside0.mk hc0
  clear hr0 hc0
  have HR1 := Aside0.mk hr1
  have HC1 := Aside0.mk hc1
  clear hr1 hc1
  have H : (if (l0.length : Int) = (l1.length : Int) then (slices_Equal_int_int.l0 k l0 l1 (l0.length : Int) 0) else (some false)) = some r := h
  clear h
  by_cases c3 : (l0.length : Int) = (l1.length : Int)
  · rw [if_pos c3] at H
    have c3b0 : ((l0.length : Int) == (l1.length : Int)) = true := beq_iff_eq.mpr c3
    have c3b1 : ((l0.length : Int) != (l1.length : Int)) = false := bne_eq_false_iff_eq.mpr c3
    have c3b2 : (l0.length == l1.length) = true := by first | simpa using c3 | (simp at c3 ⊢; omega)
    clear c3
    have H' := Aside0.mk H
    clear H
    go_enter Try.func14, Try.ntmps14
    go_wp2
    repeat (go_quiet (fail); try go_wp2)
    go_loopg [13] k (fun kq v13 w' => ∃ (x13_1 : Int), v13 = .int .i64 x13_1 ∧ Aside0 (slices_Equal_int_int.l0 kq l0 l1 (l0.length : Int) x13_1 = some r) ∧ Aside0 (kq ≤ k) ∧ Drawn0 w w')
    case atStart => exact ⟨(0), (by first | rfl | (simp; done) | (simp [*]; done)), H', ⟨Nat.le_refl _⟩, by repeat (first | exact Drawn0.refl _ | apply Drawn0.step)⟩
    case round =>
      clear H'
      try clear c1
      try clear p2
      try clear c3
      try clear c3b0
      try clear c3b1
      try clear c3b2
      obtain ⟨x13_1, rfl, HA, HK1, ⟨m1, rfl⟩⟩ := hrel
      cases gk with
      | zero => exact absurd HA.out (by simp [slices_Equal_int_int.l0])
      | succ k1 =>
        have H := HA.out
        clear HA
        simp only [slices_Equal_int_int.l0] at H
        by_cases c4 : x13_1 < (l0.length : Int)
        · rw [if_pos c4] at H
          have c4b0 : decide (x13_1 < (l0.length : Int)) = true := decide_eq_true c4
          clear c4
          by_cases c5 : 0 ≤ x13_1
          · rw [if_pos c5] at H
            have c5b0 : decide (0 ≤ x13_1) = true := decide_eq_true c5
            clear c5
            by_cases c6 : x13_1 < (l0.length : Int)
            · rw [if_pos c6] at H
              have c6b0 : decide (x13_1 < (l0.length : Int)) = true := decide_eq_true c6
              clear c6
              by_cases c7 : x13_1 < (l1.length : Int)
              · rw [if_pos c7] at H
                have c7b0 : decide (x13_1 < (l1.length : Int)) = true := decide_eq_true c7
                clear c7
                by_cases c8 : (rd l0 x13_1) = (rd l1 x13_1)
                · rw [if_pos c8] at H
                  have c8b0 : ((rd l0 x13_1) == (rd l1 x13_1)) = true := beq_iff_eq.mpr c8
                  have c8b1 : ((rd l0 x13_1) != (rd l1 x13_1)) = false := bne_eq_false_iff_eq.mpr c8
                  clear c8
                  have H' := Aside0.mk H
                  clear H
                  have p136 : 0 ≤ (x13_1 : Int) := of_decide_eq_true (by first | (with_reducible assumption) | assumption)
                  have q136 : x13_1 < (l0.length : Int) := of_decide_eq_true (by first | (with_reducible assumption) | assumption)
                  obtain ⟨ad136, e136, hx136_0⟩ := Kd.at_int HR0.out x13_1 p136 q136
                  cases e136
                  replace p136 := eq_true p136
                  replace q136 := eq_true q136
                  have p137 : 0 ≤ (x13_1 : Int) := of_decide_eq_true (by first | (with_reducible assumption) | assumption)
                  have q137 : x13_1 < (l1.length : Int) := of_decide_eq_true (by first | (with_reducible assumption) | assumption)
                  obtain ⟨ad137, e137, hx137_0⟩ := Kd.at_int HR1.out x13_1 p137 q137
                  cases e137
                  replace p137 := eq_true p137
                  replace q137 := eq_true q137
                  go_wp2
                  repeat (go_quiet (fail); try go_wp2)
                  go_roundg k1
                  case measure => have := HK1.out; omega
                  case rel => exact ⟨(wrap64 (x13_1 + 1)), (by first | rfl | (simp; done) | (simp [*]; done)), H', ⟨by have := HK1.out; omega⟩, by repeat (first | exact Drawn0.refl _ | apply Drawn0.step)⟩
                · rw [if_neg c8] at H
                  have c8b0 : ((rd l0 x13_1) == (rd l1 x13_1)) = false := beq_eq_false_iff_ne.mpr c8
                  have c8b1 : ((rd l0 x13_1) != (rd l1 x13_1)) = true := bne_iff_ne.mpr c8
                  obtain rfl := Option.some.inj H
                  have p136 : 0 ≤ (x13_1 : Int) := of_decide_eq_true (by first | (with_reducible assumption) | assumption)
                  have q136 : x13_1 < (l0.length : Int) := of_decide_eq_true (by first | (with_reducible assumption) | assumption)
                  obtain ⟨ad136, e136, hx136_0⟩ := Kd.at_int HR0.out x13_1 p136 q136
                  cases e136
                  replace p136 := eq_true p136
                  replace q136 := eq_true q136
                  have p137 : 0 ≤ (x13_1 : Int) := of_decide_eq_true (by first | (with_reducible assumption) | assumption)
                  have q137 : x13_1 < (l1.length : Int) := of_decide_eq_true (by first | (with_reducible assumption) | assumption)
                  obtain ⟨ad137, e137, hx137_0⟩ := Kd.at_int HR1.out x13_1 p137 q137
                  cases e137
                  replace p137 := eq_true p137
                  replace q137 := eq_true q137
                  go_wp2
                  repeat (go_quiet (fail); try go_wp2)
                  go_ret
                  exact ⟨by first | rfl | (simp; done) | (simp [*]; done), by repeat (first | exact Drawn0.refl _ | apply Drawn0.step)⟩
              · rw [if_neg c7] at H
                exact absurd H (by simp)
            · rw [if_neg c6] at H
              exact absurd H (by simp)
          · rw [if_neg c5] at H
            exact absurd H (by simp)
        · rw [if_neg c4] at H
          have c4b0 : decide (x13_1 < (l0.length : Int)) = false := decide_eq_false c4
          clear c4
          obtain rfl := Option.some.inj H
          go_wp2
          repeat (go_quiet (fail); try go_wp2)
          go_ret
          exact ⟨by first | rfl | (simp; done) | (simp [*]; done), by repeat (first | exact Drawn0.refl _ | apply Drawn0.step)⟩
  · rw [if_neg c3] at H
    have c3b0 : ((l0.length : Int) == (l1.length : Int)) = false := beq_eq_false_iff_ne.mpr c3
    have c3b1 : ((l0.length : Int) != (l1.length : Int)) = true := bne_iff_ne.mpr c3
    have c3b2 : (l0.length == l1.length) = false := by first | simpa using c3 | (simp at c3 ⊢; omega)
    obtain rfl := Option.some.inj H
    go_enter Try.func14, Try.ntmps14
    go_wp2
    repeat (go_quiet (fail); try go_wp2)
    go_ret
    exact ⟨by first | rfl | (simp; done) | (simp [*]; done), by repeat (first | exact Drawn0.refl _ | apply Drawn0.step)⟩

/-! ### partition_Meet: function 17 -/
theorem pairLaid : laidOutB Try.prog = true := by kernel_rfl
theorem pairRow : (27 : TypeId) < Try.prog.types.size := of_decide_eq_true (by kernel_rfl)
theorem pairWide : (match Try.prog.underlying 27 with | some (.array _ _) | some (.struct _) => true | _ => false) = true := by kernel_rfl
theorem pairKeyed : Go.Maps.Keyed Try.prog 27 := Go.Maps.Keyed.of_law (deep_law_laid pairLaid (m := 2) (by omega) pairRow (by kernel_rfl) pairWide)
theorem pairKeyType : Try.prog.keyType 27 = true := by kernel_rfl
theorem pairCells : Try.prog.cellsOf 27 = 2 := by kernel_rfl
theorem pairCells3 : Try.prog.cellsOf 3 = 1 := by kernel_rfl
theorem pairZero (w : World) : (zeroValue 3).run Try.prog w = .ok (.int .i64 0) w := by kernel_rfl
theorem pairKey {a b : Int} (ha : (Lit.int .i64 a).wf = true) (hb : (Lit.int .i64 b).wf = true) : ∃ kl, keyOf Try.prog 27 (.agg #[.int .i64 a, .int .i64 b]) = some kl := by
  have hf : (Value.agg #[.int .i64 a, .int .i64 b]).formed Try.prog 27 = true := by simp [Value.formed, Try.underlying27, pairCells]
  obtain ⟨m, hm⟩ : ∃ m, Try.prog.types.size + 1 = m + 2 := ⟨Try.prog.types.size - 1, by have h : (27 : Nat) < Try.prog.types.size := pairRow; omega⟩
  have e : Try.prog.keyLits (Try.prog.types.size + 1) 27 (Value.agg #[.int .i64 a, .int .i64 b]).cells.toList = some [.int .i64 a, .int .i64 b] := by
    rw [hm]
    simp [Program.keyLits, Try.underlying27, Try.underlying3, Value.cells, pairCells, pairCells3, ha, hb]
  unfold keyOf
  rw [Try.underlying27]
  simp only [pairKeyType, hf, Bool.and_self, if_true, e]
  exact ⟨_, rfl⟩
/-- The least index that has the same pair of numbers. -/
def partition_Meet.at_ (l0 l1 : List Int) (i : Nat) : Nat := ((List.range i).find? (fun j : Nat => rd l0 (j : Int) == rd l0 (i : Int) && rd l1 (j : Int) == rd l1 (i : Int))).getD i
def partition_Meet.out (l0 l1 : List Int) (n : Nat) : List Int := (List.range n).map fun i => (partition_Meet.at_ l0 l1 i : Int)
def partition_Meet.ok (l0 l1 : List Int) : Prop := l0.length ≤ l1.length ∧ l0.length < 17592186044416 ∧ (l0.all fun x => (Lit.int .i64 x).wf) = true ∧ (l1.all fun x => (Lit.int .i64 x).wf) = true
instance (l0 l1 : List Int) : Decidable (partition_Meet.ok l0 l1) := by unfold partition_Meet.ok; infer_instance
def partition_Meet.f (k : Nat) (l0 : List Int) (l1 : List Int) : Option (List Int × Int) := (partition_two.f k l0 l1).bind fun t => if t = 0 then (if partition_Meet.ok l0 l1 then some (partition_Meet.out l0 l1 l0.length, 0) else none) else some ([], t)
theorem partition_Meet.mono : ∀ a0 a1 k, LeO (partition_Meet.f k a0 a1) (partition_Meet.f (k + 1) a0 a1) := by
  intro a0 a1 k
  unfold partition_Meet.f
  exact LeO.bind (partition_two.mono _ _ _) (fun _ => LeO.refl _)
/-- What the map holds after n rounds. -/
def partition_Meet.Inv (l0 l1 : List Int) (n : Nat) (D : DataW Unit) : Prop := Go.Maps.IsMap D ∧ ∀ (a b : Int) (kl : Lit), keyOf Try.prog 27 (.agg #[.int .i64 a, .int .i64 b]) = some kl →
  ((∀ j : Nat, j < n → ¬ (rd l0 j = a ∧ rd l1 j = b)) → Go.Maps.has D kl = false) ∧ ∀ j : Nat, j < n → rd l0 j = a → rd l1 j = b → Go.Maps.has D kl = true ∧ D.atKey kl (.lit (.int .i64 0)) = .lit (.int .i64 (partition_Meet.at_ l0 l1 j))
theorem partition_Meet.inv0 (l0 l1 : List Int) : partition_Meet.Inv l0 l1 0 (.map []) := ⟨Go.Maps.isMap_empty, fun _ _ _ _ => ⟨fun _ => rfl, fun j hj => absurd hj (Nat.not_lt_zero j)⟩⟩
theorem partition_Meet.at_same {l0 l1 : List Int} {i j : Nat} (hij : j < i) (h0 : rd l0 j = rd l0 i) (h1 : rd l1 j = rd l1 i) : partition_Meet.at_ l0 l1 i = partition_Meet.at_ l0 l1 j := by
  unfold partition_Meet.at_
  have e : (fun k : Nat => rd l0 (k : Int) == rd l0 (i : Int) && rd l1 (k : Int) == rd l1 (i : Int)) = (fun k : Nat => rd l0 (k : Int) == rd l0 (j : Int) && rd l1 (k : Int) == rd l1 (j : Int)) := by rw [h0, h1]
  rw [e]
  have hr : List.range i = List.range j ++ (List.range (i - j)).map (j + ·) := by rw [← List.range_add]; congr 1; omega
  rw [hr, List.find?_append]
  cases hf : (List.range j).find? (fun k : Nat => rd l0 (k : Int) == rd l0 (j : Int) && rd l1 (k : Int) == rd l1 (j : Int)) with
  | some x => rfl
  | none =>
    obtain ⟨m, hm⟩ : ∃ m, i - j = m + 1 := ⟨i - j - 1, by omega⟩
    rw [hm, List.range_succ_eq_map]
    simp
theorem partition_Meet.at_none {l0 l1 : List Int} {i : Nat} (h : ∀ j : Nat, j < i → ¬ (rd l0 j = rd l0 i ∧ rd l1 j = rd l1 i)) : partition_Meet.at_ l0 l1 i = i := by
  unfold partition_Meet.at_
  rw [List.find?_eq_none.2 (fun j hj => by
    have := h j (List.mem_range.1 hj)
    simp only [Bool.and_eq_true, beq_iff_eq]
    exact this)]
  rfl
theorem partition_Meet.keep {l0 l1 : List Int} {n : Nat} {D : DataW Unit} (h : partition_Meet.Inv l0 l1 n D) (he : ∃ j : Nat, j < n ∧ rd l0 j = rd l0 n ∧ rd l1 j = rd l1 n) : partition_Meet.Inv l0 l1 (n + 1) D := by
  refine ⟨h.1, fun a b kl hk => ⟨fun hn => (h.2 a b kl hk).1 (fun j hj => hn j (by omega)), fun j hj h0 h1 => ?_⟩⟩
  by_cases e : j = n
  · subst e
    obtain ⟨i, hi, g0, g1⟩ := he
    have := (h.2 a b kl hk).2 i hi (g0.trans h0) (g1.trans h1)
    rw [partition_Meet.at_same hi g0 g1]
    exact this
  · exact (h.2 a b kl hk).2 j (by omega) h0 h1
theorem partition_Meet.put {l0 l1 : List Int} {n : Nat} {D : DataW Unit} (h : partition_Meet.Inv l0 l1 n D) (he : ∀ j : Nat, j < n → ¬ (rd l0 j = rd l0 n ∧ rd l1 j = rd l1 n)) {kl : Lit} (hk : keyOf Try.prog 27 (.agg #[.int .i64 (rd l0 n), .int .i64 (rd l1 n)]) = some kl) : partition_Meet.Inv l0 l1 (n + 1) (D.put kl (.lit (.int .i64 n))) := by
  refine ⟨h.1.put _ _, fun a b kl' hk' => ?_⟩
  by_cases e : kl' = kl
  · subst e
    have hab := pairKeyed.inj hk' hk
    simp only [Value.agg.injEq, Array.mk.injEq, List.cons.injEq, Value.int.injEq, true_and, and_true] at hab
    obtain ⟨rfl, rfl⟩ := hab
    refine ⟨fun hn => absurd ⟨rfl, rfl⟩ (hn n (by omega)), fun j hj h0 h1 => ?_⟩
    by_cases ej : j = n
    · subst ej
      rw [partition_Meet.at_none he]
      exact ⟨Go.Maps.has_put_same h.1 (pairKeyed.key hk) _, Go.Maps.atKey_put_same h.1 (pairKeyed.key hk) _ _⟩
    · exact absurd ⟨h0, h1⟩ (he j (by omega))
  · rw [Go.Maps.has_put_other e, Go.Maps.atKey_put_other e]
    have ne : ¬ (a = rd l0 n ∧ b = rd l1 n) := fun hab => e (by
      obtain ⟨rfl, rfl⟩ := hab
      rw [hk] at hk'
      exact (Option.some.inj hk').symm)
    refine ⟨fun hn => (h.2 a b kl' hk').1 (fun j hj => hn j (by omega)), fun j hj h0 h1 => ?_⟩
    by_cases ej : j = n
    · subst ej
      exact absurd ⟨h0.symm, h1.symm⟩ ne
    · exact (h.2 a b kl' hk').2 j (by omega) h0 h1
theorem partition_Meet.out_succ (l0 l1 : List Int) (n : Nat) : partition_Meet.out l0 l1 (n + 1) = partition_Meet.out l0 l1 n ++ [(partition_Meet.at_ l0 l1 n : Int)] := by simp [partition_Meet.out, List.range_succ]
set_option maxHeartbeats 8000000 in
set_option maxRecDepth 100000 in
theorem partition_Meet.calls (k : Nat) (A0 : Option Addr) (c0 : Nat) (l0 : List Int) (A1 : Option Addr) (c1 : Nat) (l1 : List Int) (r1 : List Int) (r2 : Int) (w : World) (hr0 : Kd.C (Kd.int .i64) w A0 l0.length l0) (hc0 : l0.length ≤ c0) (hr1 : Kd.C (Kd.int .i64) w A1 l1.length l1) (hc1 : l1.length ≤ c1) (h : partition_Meet.f k l0 l1 = some (r1, r2)) :
    Calls Try.prog 17 #[.slice A0 l0.length c0, .slice A1 l1.length c1] w fun e w' => ∃ v0_ : Value, e = .returned (.tuple #[v0_, .int .i64 r2]) ∧ Kd.R (Kd.int .i64) 3 w' w.heap.size (fun _ => True) v0_ r1 ∧ Below w.heap.size w w' := by
  have HR0 := Aside0.mk hr0
  have HC0 := Aside0.mk hc0
  have HR1 := Aside0.mk hr1
  have HC1 := Aside0.mk hc1
  clear hr0 hc0 hr1 hc1
  have HB := Aside0.mk (Below.refl w.heap.size w)
  unfold partition_Meet.f at h
  replace h := Option.bind_eq_some_iff.mp h
  obtain ⟨t, A4, h⟩ := h
  replace A4 := Aside0.mk A4
  by_cases ht : t = 0
  · rw [if_pos ht] at h
    subst ht
    by_cases hok : partition_Meet.ok l0 l1
    · rw [if_pos hok] at h
      simp only [Option.some.injEq, Prod.mk.injEq] at h
      obtain ⟨rfl, rfl⟩ := h
      have HOK := Aside0.mk hok
      clear hok
      have hmm := @run_makeMap Try.prog
      go_enter Try.func17, Try.ntmps17
      go_wp2_with (first | ((with_reducible refine gate_callee (f := 35) rfl ?_); refine goesL_ (some 15) rfl rfl Try.func35 (by kernel_rfl) rfl #[.slice A0 l0.length c0, .slice A1 l1.length c1] rfl (by (try simp only [List.map_toArray, List.map_cons, List.map_nil]); first | done | rfl | (simp only [List.length_drop, List.length_take]; rfl)) ?_; (with_reducible refine (partition_two.calls k _ _ l0 _ _ l1 0 _ HR0.out HC0.out HR1.out HC1.out A4.out).mono ?_); rintro e w' ⟨rfl, ⟨nd, rfl⟩⟩; refine ⟨_, rfl, ?_⟩))
      have hmm' := Aside0.mk hmm
      clear hmm
      go_loopw [8, 22] (fun v8 v22 wr => ∃ (x : Int) (D : DataW Unit), v22 = .int .i64 x ∧ Aside0 (0 ≤ x ∧ x ≤ l0.length) ∧ Aside0 (Kd.R (Kd.int .i64) 3 wr w.heap.size (fun k_ => k_ ≠ w.heap.size) v8 (partition_Meet.out l0 l1 x.toNat)) ∧ Aside0 (wr.ownsMap Try.prog 27 (plainElem Try.prog 3) w.heap.size x.toNat D) ∧ Aside0 (partition_Meet.Inv l0 l1 x.toNat D) ∧ Aside0 (Below w.heap.size w wr)) (fun _ v22 _ => (l0.length - intOf v22).toNat)
      case atStart => exact ⟨0, .map [], rfl, ⟨by omega⟩, ⟨Kd.R_nil _ _ _ _ _⟩, ⟨World.ownsMap_made _ _ _ _⟩, ⟨partition_Meet.inv0 l0 l1⟩, ⟨(below_drew1' HB.out nd).alloc (Nat.le_refl _) _⟩⟩
      case round =>
        obtain ⟨x, D, rfl, hx, HO, HM, HI, HB'⟩ := hrel
        clear HB
        have HB := HB'
        clear HB'
        by_cases c1 : x < (l0.length : Int)
        · have c1b0 : decide (x < (l0.length : Int)) = true := decide_eq_true c1
          have p1 : 0 ≤ x := hx.out.1
          have q1 : x < (l1.length : Int) := by have := HOK.out.1; omega
          obtain ⟨ad0, e0, hx0⟩ := Kd.at_int HR0.out x p1 c1
          cases e0
          obtain ⟨ad1, e1, hx1⟩ := Kd.at_int HR1.out x p1 q1
          cases e1
          replace hx0 := (HB.out.cell (World.block_lt_of_cell? w _ hx0)).trans hx0
          replace hx1 := (HB.out.cell (World.block_lt_of_cell? w _ hx1)).trans hx1
          have hy0 := cell_alloc_ (o := .cells #[.int .i64 0, .int .i64 0] 27) hx0
          have hy1 := cell_alloc_ (o := .cells #[.int .i64 0, .int .i64 0] 27) hx1
          have P1 := Aside0.mk p1
          have Q1 := Aside0.mk (And.intro c1 q1)
          replace p1 := eq_true p1
          replace q1 := eq_true q1
          replace c1 := eq_true c1
          go_wp2
          go_region
          have hb1 : Below wr.heap.size wr (wr.alloc (Obj.cells #[Value.int IntKind.i64 (rd l0 x), Value.int IntKind.i64 (rd l1 x)] 27)).drew := below_drew1 ((Below.refl _ _).alloc (Nat.le_refl _) _)
          have hk0 : (wr.alloc (Obj.cells #[Value.int IntKind.i64 (rd l0 x), Value.int IntKind.i64 (rd l1 x)] 27)).drew.cell? ⟨wr.heap.size, 0, none⟩ = some (.int .i64 (rd l0 x)) := by go_simp
          have hk1 : (wr.alloc (Obj.cells #[Value.int IntKind.i64 (rd l0 x), Value.int IntKind.i64 (rd l1 x)] 27)).drew.cell? ⟨wr.heap.size, 1, none⟩ = some (.int .i64 (rd l1 x)) := by go_simp
          have n1_ := Aside0.mk (ownsMap_below HM.out hb1)
          have n2_ := Aside0.mk (Kd.R_below HO.out hb1)
          have n3_ := Aside0.mk (below_step HB.out hb1)
          have HG : Aside0 (w.heap.size < wr.heap.size) := ⟨HM.out.lt⟩
          clear HM HO HB hb1 hx0 hx1 hy0 hy1
          generalize (wr.alloc (Obj.cells #[Value.int IntKind.i64 (rd l0 x), Value.int IntKind.i64 (rd l1 x)] 27)).drew = W1 at n1_ n2_ n3_ hk0 hk1 ⊢
          generalize wr.heap.size = g at HG hk0 hk1 ⊢
          have HM := n1_
          have HO := n2_
          have HB := n3_
          clear n1_ n2_ n3_
          obtain ⟨kl, hkey⟩ := pairKey (rd_wf HOK.out.2.2.1 x) (rd_wf HOK.out.2.2.2 x)
          have Hkey := Aside0.mk hkey
          clear hkey
          have hxn : ((x.toNat : Nat) : Int) = x := Int.toNat_of_nonneg P1.out
          have Hlen : Aside0 ((partition_Meet.out l0 l1 x.toNat).length + 1 < 17592186044416) := ⟨by have h1 := HOK.out.2.1; have h2 := Q1.out.1; simp only [partition_Meet.out, List.length_map, List.length_range]; omega⟩
          have Hlt : Aside0 (x.toNat < maxLen) := ⟨by have h1 := HOK.out.2.1; have h2 := Q1.out.1; unfold maxLen; omega⟩
          have Hwx : Aside0 ((Lit.int .i64 x).wf = true) := ⟨by have h1 := HOK.out.2.1; have h2 := Q1.out.1; have h3 := P1.out; simp only [Lit.wf, Bool.and_eq_true, decide_eq_true_eq, IntKind.min, IntKind.max, IntKind.bits, IntKind.signed, if_true]; omega⟩
          have Hxn := Aside0.mk hxn
          clear hxn
          by_cases hex : ∃ j : Nat, j < x.toNat ∧ rd l0 j = rd l0 (x.toNat : Int) ∧ rd l1 j = rd l1 (x.toNat : Int)
          · have hhas : Go.Maps.has D kl = true := by
              obtain ⟨j, hj, g0, g1⟩ := hex
              rw [Hxn.out] at g0 g1
              exact ((HI.out.2 _ _ kl Hkey.out).2 j hj g0 g1).1
            have HI2 := Aside0.mk (partition_Meet.keep HI.out hex)
            have Hat : Aside0 (∀ c : Int, D.atKey kl (.lit (.int .i64 0)) = .lit (.int .i64 c) → (partition_Meet.at_ l0 l1 x.toNat : Int) = c) := ⟨fun c hc => by
              have h1 := ((HI2.out.2 _ _ kl Hkey.out).2 x.toNat (Nat.lt_succ_self _) (by rw [Hxn.out]) (by rw [Hxn.out])).2
              rw [h1] at hc
              injection hc with hc
              injection hc⟩
            clear hex HI
            go_wp2_with (first | ((with_reducible refine gate_dst (N := 37) rfl ?_); refine Go.wpList_lookup_own_ok_int _ rfl _ _ 55 rfl 27 3 .i64 pairKeyed Try.underlying55 Try.underlying3 (pairZero _) w.heap.size _ D rfl HM.out _ kl rfl Hkey.out ?_; intro c hat hwc; clear hat hwc) | ((with_reducible refine gate_dst (N := 48) rfl ?_); refine Go.wpList_lookup_own_int _ rfl _ _ 55 rfl 27 3 .i64 pairKeyed Try.underlying55 Try.underlying3 (pairZero _) w.heap.size _ D rfl HM.out _ kl rfl Hkey.out ?_; intro c hat hwc; clear hwc; obtain rfl := Hat.out c hat; clear hat) | ((with_reducible refine gate_builtin (b := .append) (xs := #[.tmp 45, .tmp 49]) rfl ?_); at_builtin; refine Kd.R_append (Kd.int .i64) (w0 := w) w.heap.size rfl (.tmp 45) (.tmp 49) 28 3 (.int .i64 0) 8 rfl Try.underlying28 info3 rfl (by decide) (by omega) u8 (partition_Meet.out l0 l1 x.toNat) (partition_Meet.at_ l0 l1 x.toNat : Int) [.int .i64 (partition_Meet.at_ l0 l1 x.toNat : Int)] (fun k_ => k_ ≠ w.heap.size) (fun _ => False) rfl rfl ?aP (fun _ hk => hk.elim) ?aF ?aO ?aB ?aS ?aL ?_; (case aP => exact rfl); (case aB => exact (by repeat (first | (with_reducible first | exact HB.out | apply below_alloc | apply pw_below_drewN | apply below_drew1) | exact HB.out))); (case aF => exact (fresh_ne HM.out)); (case aO => exact (by (with_reducible repeat (first | apply Kd.R_alloc | apply Kd.R_drewN | apply Kd.R_drew)); exact HO.out)); (case aS => exact (below_size (by repeat (first | (with_reducible first | exact HB.out | apply below_alloc | apply pw_below_drewN | apply below_drew1) | exact HB.out)))); (case aL => have := Hlen.out; omega); intro v3 w3 ho hb hg hat; have n1_ := Aside0.mk (ownsMap_grown HM.out hg (fun e => (HO.out.1 _ e.symm) rfl)); have n2_ := Aside0.mk ho; have n3_ := Aside0.mk hb; clear HM HO HB ho hb hg hat; have HM := n1_; have HO := n2_; have HB := n3_; clear n1_ n2_ n3_))
            go_roundw
            case rel => exact ⟨x + 1, D, by rw [wrap_succ P1.out (by have h1 := HOK.out.2.1; have h2 := Q1.out.1; omega)], ⟨by have := P1.out; have := Q1.out.1; omega⟩, ⟨by rw [toNat_succ P1.out, partition_Meet.out_succ]; exact HO.out⟩, ⟨by rw [toNat_succ P1.out]; exact HM.out.mono (Nat.le_succ _)⟩, ⟨by rw [toNat_succ P1.out]; exact HI2.out⟩, HB⟩
            case measure => rw [wrap_succ P1.out (by have h1 := HOK.out.2.1; have h2 := Q1.out.1; omega)]; simp only [intOf]; have := P1.out; have := Q1.out.1; omega
          · have he : ∀ j : Nat, j < x.toNat → ¬ (rd l0 (j : Int) = rd l0 (x.toNat : Int) ∧ rd l1 (j : Int) = rd l1 (x.toNat : Int)) := fun j hj h => hex ⟨j, hj, h⟩
            have hhas : Go.Maps.has D kl = false := (HI.out.2 _ _ kl Hkey.out).1 (fun j hj h => he j hj (by rw [Hxn.out]; exact h))
            have HI2 : Aside0 (partition_Meet.Inv l0 l1 (x.toNat + 1) (D.put kl (.lit (.int .i64 x)))) := ⟨by
              have h := partition_Meet.put HI.out he (kl := kl) (by rw [Hxn.out]; exact Hkey.out)
              rw [Hxn.out] at h
              exact h⟩
            have Hat : Aside0 (∀ c : Int, (D.put kl (.lit (.int .i64 x))).atKey kl (.lit (.int .i64 0)) = .lit (.int .i64 c) → (partition_Meet.at_ l0 l1 x.toNat : Int) = c) := ⟨fun c hc => by
              have h1 := ((HI2.out.2 _ _ kl Hkey.out).2 x.toNat (Nat.lt_succ_self _) (by rw [Hxn.out]) (by rw [Hxn.out])).2
              rw [h1] at hc
              injection hc with hc
              injection hc⟩
            clear hex he HI
            go_wp2_with (first | ((with_reducible refine gate_dst (N := 37) rfl ?_); refine Go.wpList_lookup_own_ok_int _ rfl _ _ 55 rfl 27 3 .i64 pairKeyed Try.underlying55 Try.underlying3 (pairZero _) w.heap.size _ D rfl HM.out _ kl rfl Hkey.out ?_; intro c hat hwc; clear hat hwc) | ((with_reducible refine gate_mapUpdate (t := 55) (m := .tmp 42) (k := .tmp 43) (v := .tmp 44) rfl ?_); refine Go.wpList_mapUpdate_own _ rfl _ _ _ 55 rfl 27 3 pairKeyed Try.underlying55 _ w.heap.size x.toNat D rfl HM.out Hlt.out _ _ kl rfl rfl Hkey.out _ [] (plainElem_int Try.underlying3 Hwx.out) ?_; intro w2 hown2 hg2; have n1_ := Aside0.mk hown2; have n2_ := Aside0.mk (Kd.R_grown HO.out hg2 (fun k hk e => hk (by injection e))); have n3_ := Aside0.mk (below_grown HB.out hg2 (Nat.le_refl _) (below_size HB.out)); have n4_ := hg2.cell hk0 (some_ne HG.out); have n5_ := hg2.cell hk1 (some_ne HG.out); clear HM HO HB hown2 hg2 hk0 hk1; have HM := n1_; have HO := n2_; have HB := n3_; have hk0 := n4_; have hk1 := n5_; clear n1_ n2_ n3_ n4_ n5_) | ((with_reducible refine gate_dst (N := 48) rfl ?_); refine Go.wpList_lookup_own_int _ rfl _ _ 55 rfl 27 3 .i64 pairKeyed Try.underlying55 Try.underlying3 (pairZero _) w.heap.size _ (D.put kl (.lit (.int .i64 x))) rfl HM.out _ kl rfl Hkey.out ?_; intro c hat hwc; clear hwc; obtain rfl := Hat.out c hat; clear hat) | ((with_reducible refine gate_builtin (b := .append) (xs := #[.tmp 45, .tmp 49]) rfl ?_); at_builtin; refine Kd.R_append (Kd.int .i64) (w0 := w) w.heap.size rfl (.tmp 45) (.tmp 49) 28 3 (.int .i64 0) 8 rfl Try.underlying28 info3 rfl (by decide) (by omega) u8 (partition_Meet.out l0 l1 x.toNat) (partition_Meet.at_ l0 l1 x.toNat : Int) [.int .i64 (partition_Meet.at_ l0 l1 x.toNat : Int)] (fun k_ => k_ ≠ w.heap.size) (fun _ => False) rfl rfl ?aP (fun _ hk => hk.elim) ?aF ?aO ?aB ?aS ?aL ?_; (case aP => exact rfl); (case aB => exact (by repeat (first | (with_reducible first | exact HB.out | apply below_alloc | apply pw_below_drewN | apply below_drew1) | exact HB.out))); (case aF => exact (fresh_ne HM.out)); (case aO => exact (by (with_reducible repeat (first | apply Kd.R_alloc | apply Kd.R_drewN | apply Kd.R_drew)); exact HO.out)); (case aS => exact (below_size (by repeat (first | (with_reducible first | exact HB.out | apply below_alloc | apply pw_below_drewN | apply below_drew1) | exact HB.out)))); (case aL => have := Hlen.out; omega); intro v3 w3 ho hb hg hat; have n1_ := Aside0.mk (ownsMap_grown HM.out hg (fun e => (HO.out.1 _ e.symm) rfl)); have n2_ := Aside0.mk ho; have n3_ := Aside0.mk hb; clear HM HO HB ho hb hg hat; have HM := n1_; have HO := n2_; have HB := n3_; clear n1_ n2_ n3_))
            go_roundw
            case rel => exact ⟨x + 1, D.put kl (.lit (.int .i64 x)), by rw [wrap_succ P1.out (by have h1 := HOK.out.2.1; have h2 := Q1.out.1; omega)], ⟨by have := P1.out; have := Q1.out.1; omega⟩, ⟨by rw [toNat_succ P1.out, partition_Meet.out_succ]; exact HO.out⟩, ⟨by rw [toNat_succ P1.out]; exact HM.out⟩, ⟨by rw [toNat_succ P1.out]; exact HI2.out⟩, HB⟩
            case measure => rw [wrap_succ P1.out (by have h1 := HOK.out.2.1; have h2 := Q1.out.1; omega)]; simp only [intOf]; have := P1.out; have := Q1.out.1; omega
        · have c1b0 : decide (x < (l0.length : Int)) = false := decide_eq_false c1
          have hxe : x.toNat = l0.length := by have := hx.out; omega
          rw [hxe] at HO
          clear c1 hxe HM HI
          go_wp2
          go_ret2
          exact ⟨_, rfl, by (with_reducible repeat (first | apply Kd.R_alloc | apply Kd.R_drewN | apply Kd.R_drew)); exact Kd.R_mono HO.out (fun _ _ => trivial), (by repeat (first | (with_reducible first | exact HB.out | apply below_alloc | apply pw_below_drewN | apply below_drew1) | exact HB.out))⟩
    · rw [if_neg hok] at h
      exact absurd h (by simp)
  · rw [if_neg ht] at h
    simp only [Option.some.injEq, Prod.mk.injEq] at h
    obtain ⟨rfl, rfl⟩ := h
    have hne : (t != 0) = true := bne_iff_ne.mpr ht
    clear ht
    go_enter Try.func17, Try.ntmps17
    go_wp2_with (first | ((with_reducible refine gate_callee (f := 35) rfl ?_); refine goesL_ (some 15) rfl rfl Try.func35 (by kernel_rfl) rfl #[.slice A0 l0.length c0, .slice A1 l1.length c1] rfl (by (try simp only [List.map_toArray, List.map_cons, List.map_nil]); first | done | rfl | (simp only [List.length_drop, List.length_take]; rfl)) ?_; (with_reducible refine (partition_two.calls k _ _ l0 _ _ l1 t _ HR0.out HC0.out HR1.out HC1.out A4.out).mono ?_); rintro e w' ⟨rfl, ⟨nd, rfl⟩⟩; refine ⟨_, rfl, ?_⟩))
    go_ret2
    exact ⟨_, rfl, Kd.R_nil _ _ _ _ _, by repeat (first | (with_reducible first | exact HB.out | apply below_alloc | apply pw_below_drewN | apply below_drew1) | exact HB.out)⟩

/-! ### slices_Clone_int_int: function 15 -/
def slices_Clone_int_int.f (l0 : List Int) : Option (List Int) := if l0.length < 17592186044416 then some l0 else none
set_option maxHeartbeats 8000000 in
set_option maxRecDepth 100000 in
theorem slices_Clone_int_int.calls (A0 : Option Addr) (c0 : Nat) (l0 : List Int) (r : List Int) (w : World) (hr0 : Kd.C (Kd.int .i64) w A0 l0.length l0) (hc0 : l0.length ≤ c0) (h : slices_Clone_int_int.f l0 = some r) :
    Calls Try.prog 15 #[.slice A0 l0.length c0] w fun e w' => ∃ v0_ : Value, e = .returned (v0_) ∧ Kd.R (Kd.int .i64) 3 w' w.heap.size (fun _ => True) v0_ r ∧ Below w.heap.size w w' := by
  have HB := Aside0.mk (Below.refl w.heap.size w)
  have HR0 := Aside0.mk hr0
  have HC0 := Aside0.mk hc0
  clear hr0 hc0
  unfold slices_Clone_int_int.f at h
  by_cases c1 : l0.length < 17592186044416
  · rw [if_pos c1] at h
    obtain rfl := Option.some.inj h
    clear h
    have LMc1 := Aside0.mk c1
    clear c1
    have hN := fun (W : World) (n c : Nat) => Go.Lib.run_eql_slice_nil (P := Try.prog) W 28 3 A0 n c 0 0 Try.underlying28
    cases A0 with
    | none =>
      have e0 : l0 = [] := by
        cases l0 with
        | nil => rfl
        | cons x xs => obtain ⟨_, e, _⟩ := HR0.out.2.2 (by simp); cases e
      subst e0
      clear HR0 HC0
      go_enter Try.func15, Try.ntmps15
      go_wp2
      go_ret
      exact ⟨_, rfl, Kd.R_nil _ _ _ _ _, HB.out⟩
    | some ad =>
      go_enter Try.func15, Try.ntmps15
      go_wp2_with (first | ((with_reducible refine gate_dst (N := 5) rfl ?_); refine Kd.R_lit (Kd.int .i64) _ 3 ?hg (N := 5) ?hd (xs := ([] : List Int)) (inner := []) (ok := fun _ => True) (okp := fun _ => True) ?hr ?hp (fun _ hk => hk) trivial (Below.refl _ _) (Nat.le_refl _) (by simp) ?_; (case hd => rfl); (case hg => rfl); (case hr => first | (go_simp; done) | (go_simp; rfl)); (case hp => exact (Reps.none _ _)); intro v1 w1 ho hb hg_ hnew_; clear hg_ hnew_; have n0_ := Aside0.mk (Kd.R_lower ho (below_size (by repeat (first | (with_reducible first | exact HB.out | apply below_alloc | apply pw_below_drewN | apply below_drew1) | exact HB.out)))); have n1_ := Aside0.mk (below_step (by repeat (first | (with_reducible first | exact HB.out | apply below_alloc | apply pw_below_drewN | apply below_drew1) | exact HB.out)) hb); have n2_ := Aside0.mk (Kd.C_below HR0.out hb); clear HB HR0; have HO := n0_; have HB := n1_; have HR0 := n2_; clear n0_ n1_ n2_ hb ho) | ((with_reducible refine gate_builtin (b := .append) (xs := #[.tmp 5, .tmp 6]) rfl ?_); at_builtin; refine Kd.R_append_rows (Kd.int .i64) (w0 := w) w.heap.size rfl (.tmp 5) (.tmp 6) 28 3 (.int .i64 0) 8 rfl Try.underlying28 info3 rfl (by decide) (by omega) v1 [] l0 _ _ _ (fun _ => True) (fun _ => False) rfl rfl ?aO ?aR (fun _ _ h => h) (fun _ h => h.elim) ?aF ?aB ?aS ?aL ?_; (case aR => repeat (first | exact HR0.out | (with_reducible refine Kd.C_alloc ?_ _) | (with_reducible refine Kd.C_drewN ?_ _) | (with_reducible refine Kd.C_drew ?_))); (case aB => exact (by repeat (first | (with_reducible first | exact HB.out | apply below_alloc | apply pw_below_drewN | apply below_drew1) | exact HB.out))); (case aF => exact (fun _ _ => trivial)); (case aO => exact (by (with_reducible repeat (first | apply Kd.R_alloc | apply Kd.R_drewN | apply Kd.R_drew)); exact HO.out)); (case aS => exact (below_size (by repeat (first | (with_reducible first | exact HB.out | apply below_alloc | apply pw_below_drewN | apply below_drew1) | exact HB.out)))); (case aL => have := LMc1.out; simp only [List.length_nil]; omega); intro v2 w2 ho hb hg hat; have n0_ := Aside0.mk (hb); have n1_ := Aside0.mk (ho); clear HB; clear HO; have HB := n0_; have HO := n1_; clear n0_ n1_; clear ho hb hg hat))
      go_ret
      exact ⟨_, rfl, HO.out, HB.out⟩
  · rw [if_neg c1] at h
    exact absurd h (by simp)

end Go.Proofs.Ytjkgjlaockihaaa.P
