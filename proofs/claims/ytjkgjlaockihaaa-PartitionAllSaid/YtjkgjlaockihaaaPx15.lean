-- Written by wip/drive.py of this session's repo over the kit's print.py (with contracts of the session's own): not the print's own text
import Derived.Test.YtjkgjlaockihaaaPx0
namespace Go.Proofs.Ytjkgjlaockihaaa.P
open Go.RowKit Go.Proofs.YtjkgjlaockihaaaW.PrintWords Go.Proofs.YtjkgjlaockihaaaW.PrintLast Go.Proofs.YtjkgjlaockihaaaW.PrintMore
attribute [local go_sem] max2_int min2_int max_two min_two max_three min_three max_four min_four   -- for this text's walks alone
set_option linter.unusedVariables false
set_option linter.unusedSimpArgs false

/-! ### scarfjointref02_All: function 30 -/
mutual
def scarfjointref02_All.l0 : Nat → Int → List (List Int) → Int → Option ((List (List Int)) × Int)
  | 0, _, _, _ => none
  | k + 1, x0, x4, x5 => if x5 < x0 then (scarfjointref02_All.l1 k x0 x4 x5 ([] : List (List Int)) 0) else (some (x4, 0))
def scarfjointref02_All.l1 : Nat → Int → List (List Int) → Int → List (List Int) → Int → Option ((List (List Int)) × Int)
  | 0, _, _, _, _, _ => none
  | k + 1, x0, x4, x5, x6, x7 => if x7 < (x4.length : Int) then (scarfjointref02_All.l2 k x0 x4 x5 x6 x7 0) else (scarfjointref02_All.l0 k x0 x6 (wrap64 (x5 + 1)))
def scarfjointref02_All.l2 : Nat → Int → List (List Int) → Int → List (List Int) → Int → Int → Option ((List (List Int)) × Int)
  | 0, _, _, _, _, _, _ => none
  | k + 1, x0, x4, x5, x6, x7, x8 => if x8 ≤ x5 then (if x8 = x5 then ((some (([] : List Int) : List Int)).bind fun y512 => (if 0 ≤ x7 then (if x7 < (x4.length : Int) then (if y512.length + (rd_L2 x4 x7).length < 17592186044416 then ((some (y512 ++ (rd_L2 x4 x7) : List Int)).bind fun y516 => (if y516.length < 17592186044416 then (if x6.length < 5864062014805 then (scarfjointref02_All.l2 k x0 x4 x5 (x6 ++ [(y516 ++ [x8])]) x7 (wrap64 (x8 + 1))) else (none)) else (none))) else (none)) else (none)) else (none))) else (if 0 ≤ x7 then (if x7 < (x4.length : Int) then (if 0 ≤ x8 then (if x8 < ((rd_L2 x4 x7).length : Int) then (if (rd (rd_L2 x4 x7) x8) = x8 then ((some (([] : List Int) : List Int)).bind fun y527 => (if y527.length + (rd_L2 x4 x7).length < 17592186044416 then ((some (y527 ++ (rd_L2 x4 x7) : List Int)).bind fun y531 => (if y531.length < 17592186044416 then (if x6.length < 5864062014805 then (scarfjointref02_All.l2 k x0 x4 x5 (x6 ++ [(y531 ++ [x8])]) x7 (wrap64 (x8 + 1))) else (none)) else (none))) else (none))) else (scarfjointref02_All.l2 k x0 x4 x5 x6 x7 (wrap64 (x8 + 1)))) else (none)) else (none)) else (none)) else (none))) else (scarfjointref02_All.l1 k x0 x4 x5 x6 (wrap64 (x7 + 1)))
end
def scarfjointref02_All.f (k : Nat) (a0 : Int) : Option ((List (List Int)) × Int) := if a0 > 7 then (some (([] : List (List Int)), 3)) else (if a0 < 0 then (some (([] : List (List Int)), 6)) else (scarfjointref02_All.l0 k a0 (([[]] : List (List Int))) 0))
theorem scarfjointref02_All.mono_l : ∀ k, (∀ y0 y1 y2, LeO (scarfjointref02_All.l0 k y0 y1 y2) (scarfjointref02_All.l0 (k + 1) y0 y1 y2)) ∧ (∀ y0 y1 y2 y3 y4, LeO (scarfjointref02_All.l1 k y0 y1 y2 y3 y4) (scarfjointref02_All.l1 (k + 1) y0 y1 y2 y3 y4)) ∧ (∀ y0 y1 y2 y3 y4 y5, LeO (scarfjointref02_All.l2 k y0 y1 y2 y3 y4 y5) (scarfjointref02_All.l2 (k + 1) y0 y1 y2 y3 y4 y5))
  | 0 => ⟨fun _ _ _ r h => by simp [scarfjointref02_All.l0] at h, fun _ _ _ _ _ r h => by simp [scarfjointref02_All.l1] at h, fun _ _ _ _ _ _ r h => by simp [scarfjointref02_All.l2] at h⟩
  | k + 1 => by
    obtain ⟨ih0, ih1, ih2⟩ := scarfjointref02_All.mono_l k
    refine ⟨?_, ?_, ?_⟩
    · intro y0 y1 y2
      unfold scarfjointref02_All.l0
      repeat' first
      | (with_reducible exact ih0 _ _ _)
      | (with_reducible exact ih1 _ _ _ _ _)
      | (with_reducible exact ih2 _ _ _ _ _ _)
      | (with_reducible exact LeO.refl _)
      | (with_reducible exact LeO.none _)
      | (with_reducible refine LeO.ite ?_ ?_)
      | (with_reducible refine LeO.bind ?_ (fun _ => ?_))
      | exact ih0 _ _ _
      | exact ih1 _ _ _ _ _
      | exact ih2 _ _ _ _ _ _
      | exact LeO.none _
      | refine LeO.ite ?_ ?_
      | refine LeO.bind ?_ (fun _ => ?_)
    · intro y0 y1 y2 y3 y4
      unfold scarfjointref02_All.l1
      repeat' first
      | (with_reducible exact ih0 _ _ _)
      | (with_reducible exact ih1 _ _ _ _ _)
      | (with_reducible exact ih2 _ _ _ _ _ _)
      | (with_reducible exact LeO.refl _)
      | (with_reducible exact LeO.none _)
      | (with_reducible refine LeO.ite ?_ ?_)
      | (with_reducible refine LeO.bind ?_ (fun _ => ?_))
      | exact ih0 _ _ _
      | exact ih1 _ _ _ _ _
      | exact ih2 _ _ _ _ _ _
      | exact LeO.none _
      | refine LeO.ite ?_ ?_
      | refine LeO.bind ?_ (fun _ => ?_)
    · intro y0 y1 y2 y3 y4 y5
      unfold scarfjointref02_All.l2
      repeat' first
      | (with_reducible exact ih0 _ _ _)
      | (with_reducible exact ih1 _ _ _ _ _)
      | (with_reducible exact ih2 _ _ _ _ _ _)
      | (with_reducible exact LeO.refl _)
      | (with_reducible exact LeO.none _)
      | (with_reducible refine LeO.ite ?_ ?_)
      | (with_reducible refine LeO.bind ?_ (fun _ => ?_))
      | exact ih0 _ _ _
      | exact ih1 _ _ _ _ _
      | exact ih2 _ _ _ _ _ _
      | exact LeO.none _
      | refine LeO.ite ?_ ?_
      | refine LeO.bind ?_ (fun _ => ?_)
theorem scarfjointref02_All.mono : ∀ a0 k, LeO (scarfjointref02_All.f k a0) (scarfjointref02_All.f (k + 1) a0) := by
  intro a0 k
  obtain ⟨ih0, ih1, ih2⟩ := scarfjointref02_All.mono_l k
  unfold scarfjointref02_All.f
  repeat' first
      | (with_reducible exact ih0 _ _ _)
      | (with_reducible exact ih1 _ _ _ _ _)
      | (with_reducible exact ih2 _ _ _ _ _ _)
      | (with_reducible exact LeO.refl _)
      | (with_reducible exact LeO.none _)
      | (with_reducible refine LeO.ite ?_ ?_)
      | (with_reducible refine LeO.bind ?_ (fun _ => ?_))
      | exact ih0 _ _ _
      | exact ih1 _ _ _ _ _
      | exact ih2 _ _ _ _ _ _
      | exact LeO.none _
      | refine LeO.ite ?_ ?_
      | refine LeO.bind ?_ (fun _ => ?_)
set_option maxHeartbeats 8000000 in
set_option maxRecDepth 100000 in
theorem scarfjointref02_All.calls (k : Nat) (a0 : Int) (r1 : List (List Int)) (r2 : Int) (w : World) (h : scarfjointref02_All.f k a0 = some (r1, r2)) :
    Calls Try.prog 30 #[.int .i64 a0] w fun e w' => ∃ v0_ : Value, e = .returned (.tuple #[v0_, .int .i64 r2]) ∧ Kd.S (Kd.slice 3 (Kd.int .i64)) 28 w' w.heap.size (fun _ => True) v0_ r1 ∧ Below w.heap.size w w' := by
  have HB := Aside0.mk (Below.refl w.heap.size w)
  have H : (if a0 > 7 then (some (([] : List (List Int)), 3)) else (if a0 < 0 then (some (([] : List (List Int)), 6)) else (scarfjointref02_All.l0 k a0 (([[]] : List (List Int))) 0))) = some (r1, r2) := h
  clear h
  by_cases c2 : a0 > 7
  · rw [if_pos c2] at H
    have c2b0 : decide (7 < a0) = true := decide_eq_true c2
    clear c2
    simp only [Option.some.injEq, Prod.mk.injEq] at H
    obtain ⟨rfl, rfl⟩ := H
    go_enter Try.func30, Try.ntmps30
    go_wp2
    go_ret2
    exact ⟨_, by first | rfl | (simp [errW_none, errW_some] <;> rfl) | (simp [*, errW_none, errW_some] <;> rfl), by first | exact Kd.S_nil _ _ _ _ _ | exact Kd.N_nil _ _ _ _ _ | exact Kd.V_nil _ _ _ _ _ | exact Kd.Q_nil _ _ _ _ _ | exact Kd.R_nil _ _ _ _ _, by repeat (first | (with_reducible first | exact HB.out | apply below_alloc | apply pw_below_drewN | apply below_drew1) | exact HB.out)⟩
  · rw [if_neg c2] at H
    have c2b0 : decide (7 < a0) = false := decide_eq_false c2
    clear c2
    by_cases c3 : a0 < 0
    · rw [if_pos c3] at H
      have c3b0 : decide (a0 < 0) = true := decide_eq_true c3
      clear c3
      simp only [Option.some.injEq, Prod.mk.injEq] at H
      obtain ⟨rfl, rfl⟩ := H
      go_enter Try.func30, Try.ntmps30
      go_wp2
      go_ret2
      exact ⟨_, by first | rfl | (simp [errW_none, errW_some] <;> rfl) | (simp [*, errW_none, errW_some] <;> rfl), by first | exact Kd.S_nil _ _ _ _ _ | exact Kd.N_nil _ _ _ _ _ | exact Kd.V_nil _ _ _ _ _ | exact Kd.Q_nil _ _ _ _ _ | exact Kd.R_nil _ _ _ _ _, by repeat (first | (with_reducible first | exact HB.out | apply below_alloc | apply pw_below_drewN | apply below_drew1) | exact HB.out)⟩
    · rw [if_neg c3] at H
      have c3b0 : decide (a0 < 0) = false := decide_eq_false c3
      clear c3
      obtain ⟨y509, hy509⟩ : ∃ y_ : List (List Int), y_ = (([[]] : List (List Int))) := ⟨_, rfl⟩
      replace H : (scarfjointref02_All.l0 k a0 y509 0) = some (r1, r2) := by first | (rw [hy509]; with_reducible exact H) | (have H2_ := (Option.bind_some _ _).symm.trans H; rw [hy509]; with_reducible exact H2_) | (have H2_ := (Option.bind_some _ _).symm.trans H; with_reducible exact H2_) | with_reducible exact H | (rw [hy509]; exact H) | exact H
      have Ny509 := Aside0.mk hy509
      clear hy509
      have H' := Aside0.mk H
      clear H
      go_enter Try.func30, Try.ntmps30
      go_wp2_with (first | ((with_reducible refine gate_dst (N := 13) rfl ?_); refine Kd.S_lit (Kd.slice 3 (Kd.int .i64)) _ 28 ?hg (N := 13) ?hd (xs := ([[]] : List (List Int))) (inner := [.slice none 0 0]) (ok := fun _ => True) (okp := fun _ => True) ?hr ?hp (fun _ hk => hk) trivial (Below.refl _ _) (Nat.le_refl _) (by simp) ?_; (case hd => rfl); (case hg => rfl); (case hr => first | (go_simp; done) | (go_simp; rfl)); (case hp => exact (Reps.one (show Kd.M (Kd.slice 3 (Kd.int .i64)) _ _ _ [] [.slice none 0 0] from ⟨_, rfl, Kd.R_nil _ _ _ _ _⟩) (Reps.none _ _))); intro v510 w4 ho5 hb hg_ hnew_; clear hg_ hnew_; (first | rw [← Ny509.out] at ho5 | (simp only [Int.reduceToNat] at ho5; rw [← Ny509.out] at ho5)); have n0_ := Aside0.mk (Kd.S_lower ho5 (below_size (by repeat (first | (with_reducible first | exact HB.out | apply below_alloc | apply pw_below_drewN | apply below_drew1) | exact HB.out)))); have n1_ := Aside0.mk (below_step (by repeat (first | (with_reducible first | exact HB.out | apply below_alloc | apply pw_below_drewN | apply below_drew1) | exact HB.out)) hb); clear HB; have HO511 := n0_; have HB := n1_; clear n0_ n1_; clear hb ho5))
      go_loopg [4, 5] k (fun kq v4 v5 w' => ∃ (x4_1 : List (List Int)) (x5_1 : Int), v5 = .int .i64 x5_1 ∧ Aside0 (scarfjointref02_All.l0 kq a0 x4_1 x5_1 = some (r1, r2)) ∧ Aside0 (kq ≤ k) ∧ Aside0 (Kd.S (Kd.slice 3 (Kd.int .i64)) 28 w' w.heap.size (fun _ => True) v4 x4_1) ∧ Aside0 (Below w.heap.size w w'))
      case atStart => exact ⟨(y509), (0), (by first | rfl | (simp; done) | (simp [*]; done)), H', ⟨Nat.le_refl _⟩, ⟨by (with_reducible repeat (first | apply Kd.S_alloc | apply Kd.S_drewN | apply Kd.S_drew)); exact HO511.out⟩, ⟨by repeat (first | (with_reducible first | exact HB.out | apply below_alloc | apply pw_below_drewN | apply below_drew1) | exact HB.out)⟩⟩
      case round =>
        clear H'
        try clear c2
        try clear c2b0
        try clear p2
        try clear c3
        try clear c3b0
        obtain ⟨x4_1, x5_1, rfl, HA, HK1, HO_4, HB⟩ := hrel
        cases gk with
        | zero => exact absurd HA.out (by simp [scarfjointref02_All.l0])
        | succ k1 =>
          have H := HA.out
          clear HA
          simp only [scarfjointref02_All.l0] at H
          by_cases c6 : x5_1 < a0
          · rw [if_pos c6] at H
            have c6b0 : decide (x5_1 < a0) = true := decide_eq_true c6
            clear c6
            have H' := Aside0.mk H
            clear H
            go_wp2
            go_loopg [6, 7] k1 (fun kq v6 v7 w' => ∃ (x6_2 : List (List Int)) (x7_2 : Int), v7 = .int .i64 x7_2 ∧ Aside0 (scarfjointref02_All.l1 kq a0 x4_1 x5_1 x6_2 x7_2 = some (r1, r2)) ∧ Aside0 (kq ≤ k1) ∧ Aside0 (Kd.S (Kd.slice 3 (Kd.int .i64)) 28 w' w.heap.size (fun k_ => some k_ ≠ (v6 : Value).ownBlock) u4 x4_1) ∧ Aside0 (Kd.S (Kd.slice 3 (Kd.int .i64)) 28 w' w.heap.size (fun k_ => some k_ ≠ (u4 : Value).ownBlock) v6 x6_2) ∧ Aside0 (Below w.heap.size w w'))
            case atStart => exact ⟨(([] : List (List Int))), (0), (by first | rfl | (simp; done) | (simp [*]; done)), H', ⟨Nat.le_refl _⟩, ⟨by (with_reducible repeat (first | apply Kd.S_alloc | apply Kd.S_drewN | apply Kd.S_drew)); exact Kd.S_mono HO_4.out (fun _ hk => (by simp [Value.ownBlock]))⟩, ⟨by first | exact Kd.S_nil _ _ _ _ _ | exact Kd.N_nil _ _ _ _ _ | exact Kd.V_nil _ _ _ _ _ | exact Kd.Q_nil _ _ _ _ _ | exact Kd.R_nil _ _ _ _ _⟩, ⟨by repeat (first | (with_reducible first | exact HB.out | apply below_alloc | apply pw_below_drewN | apply below_drew1) | exact HB.out)⟩⟩
            case round =>
              clear H'
              try clear c2
              try clear c2b0
              try clear p2
              try clear c3
              try clear c3b0
              try clear c6
              try clear c6b0
              try clear p2
              obtain ⟨x6_2, x7_2, rfl, HA, HK2, HO_4, HO_6, HB⟩ := hrel
              cases gk with
              | zero => exact absurd HA.out (by simp [scarfjointref02_All.l1])
              | succ k2 =>
                have H := HA.out
                clear HA
                simp only [scarfjointref02_All.l1] at H
                by_cases c7 : x7_2 < (x4_1.length : Int)
                · rw [if_pos c7] at H
                  have c7b0 : decide (x7_2 < (x4_1.length : Int)) = true := decide_eq_true c7
                  clear c7
                  have H' := Aside0.mk H
                  clear H
                  obtain ⟨Ao8, co8, eo8⟩ := Kd.S_slice HO_4.out
                  subst eo8
                  go_wp2
                  go_loopg [6, 8] k2 (fun kq v6 v8 w' => ∃ (x6_3 : List (List Int)) (x8_3 : Int), v8 = .int .i64 x8_3 ∧ Aside0 (scarfjointref02_All.l2 kq a0 x4_1 x5_1 x6_3 x7_2 x8_3 = some (r1, r2)) ∧ Aside0 (kq ≤ k2) ∧ Aside0 (Kd.S (Kd.slice 3 (Kd.int .i64)) 28 w' w.heap.size (fun k_ => some k_ ≠ (v6 : Value).ownBlock) (.slice Ao8 x4_1.length co8) x4_1) ∧ Aside0 (Kd.S (Kd.slice 3 (Kd.int .i64)) 28 w' w.heap.size (fun k_ => some k_ ≠ ((.slice Ao8 x4_1.length co8) : Value).ownBlock) v6 x6_3) ∧ Aside0 (Below w.heap.size w w'))
                  case atStart => exact ⟨(x6_2), (0), (by first | rfl | (simp; done) | (simp [*]; done)), H', ⟨Nat.le_refl _⟩, ⟨by (with_reducible repeat (first | apply Kd.S_alloc | apply Kd.S_drewN | apply Kd.S_drew)); exact HO_4.out⟩, ⟨by (with_reducible repeat (first | apply Kd.S_alloc | apply Kd.S_drewN | apply Kd.S_drew)); exact HO_6.out⟩, ⟨by repeat (first | (with_reducible first | exact HB.out | apply below_alloc | apply pw_below_drewN | apply below_drew1) | exact HB.out)⟩⟩
                  case round =>
                    clear H'
                    try clear c2
                    try clear c2b0
                    try clear p2
                    try clear c3
                    try clear c3b0
                    try clear c6
                    try clear c6b0
                    try clear c7
                    try clear c7b0
                    try clear p2
                    obtain ⟨x6_3, x8_3, rfl, HA, HK3, HO_4, HO_6, HB⟩ := hrel
                    cases gk with
                    | zero => exact absurd HA.out (by simp [scarfjointref02_All.l2])
                    | succ k3 =>
                      have H := HA.out
                      clear HA
                      simp only [scarfjointref02_All.l2] at H
                      by_cases c9 : x8_3 ≤ x5_1
                      · rw [if_pos c9] at H
                        have c9b0 : decide (x8_3 ≤ x5_1) = true := decide_eq_true c9
                        clear c9
                        by_cases c10 : x8_3 = x5_1
                        · rw [if_pos c10] at H
                          have c10b0 : (x8_3 == x5_1) = true := beq_iff_eq.mpr c10
                          have c10b1 : (x8_3 != x5_1) = false := bne_eq_false_iff_eq.mpr c10
                          clear c10
                          obtain ⟨y512, hy512⟩ : ∃ y_ : List Int, y_ = (([] : List Int)) := ⟨_, rfl⟩
                          replace H : (if 0 ≤ x7_2 then (if x7_2 < (x4_1.length : Int) then (if y512.length + (rd_L2 x4_1 x7_2).length < 17592186044416 then ((some (y512 ++ (rd_L2 x4_1 x7_2) : List Int)).bind fun y516 => (if y516.length < 17592186044416 then (if x6_3.length < 5864062014805 then (scarfjointref02_All.l2 k3 a0 x4_1 x5_1 (x6_3 ++ [(y516 ++ [x8_3])]) x7_2 (wrap64 (x8_3 + 1))) else (none)) else (none))) else (none)) else (none)) else (none)) = some (r1, r2) := by first | (rw [hy512]; with_reducible exact H) | (have H2_ := (Option.bind_some _ _).symm.trans H; rw [hy512]; with_reducible exact H2_) | (have H2_ := (Option.bind_some _ _).symm.trans H; with_reducible exact H2_) | with_reducible exact H | (rw [hy512]; exact H) | exact H
                          have Ny512 := Aside0.mk hy512
                          clear hy512
                          by_cases c11 : 0 ≤ x7_2
                          · rw [if_pos c11] at H
                            have c11b0 : decide (0 ≤ x7_2) = true := decide_eq_true c11
                            clear c11
                            by_cases c12 : x7_2 < (x4_1.length : Int)
                            · rw [if_pos c12] at H
                              have c12b0 : decide (x7_2 < (x4_1.length : Int)) = true := decide_eq_true c12
                              clear c12
                              by_cases c13 : y512.length + (rd_L2 x4_1 x7_2).length < 17592186044416
                              · rw [if_pos c13] at H
                                have LMc13 := Aside0.mk c13
                                clear c13
                                obtain ⟨y516, hy516⟩ : ∃ y_ : List Int, y_ = (y512 ++ (rd_L2 x4_1 x7_2)) := ⟨_, rfl⟩
                                replace H : (if y516.length < 17592186044416 then (if x6_3.length < 5864062014805 then (scarfjointref02_All.l2 k3 a0 x4_1 x5_1 (x6_3 ++ [(y516 ++ [x8_3])]) x7_2 (wrap64 (x8_3 + 1))) else (none)) else (none)) = some (r1, r2) := by first | (rw [hy516]; with_reducible exact H) | (have H2_ := (Option.bind_some _ _).symm.trans H; rw [hy516]; with_reducible exact H2_) | (have H2_ := (Option.bind_some _ _).symm.trans H; with_reducible exact H2_) | with_reducible exact H | (rw [hy516]; exact H) | exact H
                                have Ny516 := Aside0.mk hy516
                                clear hy516
                                by_cases c14 : y516.length < 17592186044416
                                · rw [if_pos c14] at H
                                  have LMc14 := Aside0.mk c14
                                  clear c14
                                  obtain ⟨y519, hy519⟩ : ∃ y_ : List Int, y_ = (y516 ++ [x8_3]) := ⟨_, rfl⟩
                                  replace H : (if x6_3.length < 5864062014805 then (scarfjointref02_All.l2 k3 a0 x4_1 x5_1 (x6_3 ++ [y519]) x7_2 (wrap64 (x8_3 + 1))) else (none)) = some (r1, r2) := by first | (rw [hy519]; with_reducible exact H) | (have H2_ := (Option.bind_some _ _).symm.trans H; rw [hy519]; with_reducible exact H2_) | (have H2_ := (Option.bind_some _ _).symm.trans H; with_reducible exact H2_) | with_reducible exact H | (rw [hy519]; exact H) | exact H
                                  have Ny519 := Aside0.mk hy519
                                  clear hy519
                                  by_cases c15 : x6_3.length < 5864062014805
                                  · rw [if_pos c15] at H
                                    have LMc15 := Aside0.mk c15
                                    clear c15
                                    obtain ⟨y522, hy522⟩ : ∃ y_ : List (List Int), y_ = (x6_3 ++ [y519]) := ⟨_, rfl⟩
                                    replace H : (scarfjointref02_All.l2 k3 a0 x4_1 x5_1 y522 x7_2 (wrap64 (x8_3 + 1))) = some (r1, r2) := by first | (rw [hy522]; with_reducible exact H) | (have H2_ := (Option.bind_some _ _).symm.trans H; rw [hy522]; with_reducible exact H2_) | (have H2_ := (Option.bind_some _ _).symm.trans H; with_reducible exact H2_) | with_reducible exact H | (rw [hy522]; exact H) | exact H
                                    have Ny522 := Aside0.mk hy522
                                    clear hy522
                                    have H' := Aside0.mk H
                                    clear H
                                    go_wp2_with (first | ((with_reducible refine gate_dst (N := 45) rfl ?_); refine Kd.R_lit (Kd.int .i64) _ 3 ?hg (N := 45) ?hd (xs := ([] : List Int)) (inner := []) (ok := fun _ => True) (okp := fun _ => True) ?hr ?hp (fun _ hk => hk) trivial (Below.refl _ _) (Nat.le_refl _) (by simp) ?_; (case hd => rfl); (case hg => rfl); (case hr => first | (go_simp; done) | (go_simp; rfl)); (case hp => exact (Reps.none _ _)); intro v513 w16 ho17 hb hg_ hnew_; clear hg_ hnew_; (first | rw [← Ny512.out] at ho17 | (simp only [Int.reduceToNat] at ho17; rw [← Ny512.out] at ho17)); have n0_ := Aside0.mk (Kd.S_elder' (by (with_reducible repeat (first | apply Kd.S_alloc | apply Kd.S_drewN | apply Kd.S_drew)); exact HO_4.out) (Kd.R_base ho17) hb); have n1_ := Aside0.mk (Kd.S_elder' (by (with_reducible repeat (first | apply Kd.S_alloc | apply Kd.S_drewN | apply Kd.S_drew)); exact HO_6.out) (Kd.R_base ho17) hb); have n2_ := Aside0.mk (Kd.R_lower ho17 (below_size (by repeat (first | (with_reducible first | exact HB.out | apply below_alloc | apply pw_below_drewN | apply below_drew1) | exact HB.out)))); have n3_ := Aside0.mk (below_step (by repeat (first | (with_reducible first | exact HB.out | apply below_alloc | apply pw_below_drewN | apply below_drew1) | exact HB.out)) hb); clear HO_4; clear HO_6; clear HB; have HO_4 := n0_; have HO_6 := n1_; have HO514 := n2_; have HB := n3_; clear n0_ n1_ n2_ n3_; clear hb ho17; have p515 : 0 ≤ (x7_2 : Int) := of_decide_eq_true (by first | (with_reducible assumption) | assumption); have q515 : x7_2 < (x4_1.length : Int) := of_decide_eq_true (by first | (with_reducible assumption) | assumption); obtain ⟨ad515, A515_0, c515_0, e515, hx515_0, hl515_0, hi515_0⟩ := at_L2 (Kd.S_reads' HO_4.out).2.2 x7_2 p515 q515; cases e515; obtain ⟨ce515, hce515, hMe515, hcc515⟩ := Kd.S_get HO_4.out [] x7_2 p515 (by first | exact q515 | exact of_decide_eq_true (by first | (with_reducible assumption) | assumption) | (have e_ := (Kd.S_reads' HO_4.out).1; omega)); obtain ⟨ve515_0, rfl, ge515_0⟩ := hMe515; have hv515_0 := hcc515 0 _ rfl; rw [Nat.add_zero, show ((Kd.slice 3 (Kd.int .i64))).sz = 1 from rfl, Nat.mul_one] at hv515_0; replace hv515_0 := Option.some.inj (hv515_0.symm.trans hx515_0); rw [hv515_0] at ge515_0; have HL515_0 := Aside0.mk (show Kd.R (Kd.int .i64) 3 _ _ _ _ (rd_L2 x4_1 x7_2) from ge515_0); clear hv515_0 ge515_0; clear hcc515 hce515; have HR515_0 := Aside0.mk hi515_0; have HC515_0 := Aside0.mk hl515_0; clear hi515_0 hl515_0; replace p515 := eq_true p515; replace q515 := eq_true q515) | ((with_reducible refine gate_builtin (b := .append) (xs := #[.tmp 45, .tmp 49]) rfl ?_); at_builtin; refine Kd.R_append_rows (Kd.int .i64) (w0 := w) w.heap.size rfl (.tmp 45) (.tmp 49) 28 3 (.int .i64 0) 8 rfl Try.underlying28 info3 rfl (by decide) (by omega) v513 y512 (rd_L2 x4_1 x7_2) _ _ _ (fun _ => True) (fun _ => False) rfl rfl ?aO ?aR (fun _ _ h => h) (fun _ h => h.elim) ?aF ?aB ?aS ?aL ?_; (case aR => repeat (first | exact (by repeat (first | (with_reducible exact HR515_0.out) | (with_reducible refine Kd.C_alloc ?_ _) | (with_reducible refine Kd.C_drewN ?_ _) | (with_reducible refine Kd.C_drew ?_) | exact HR515_0.out)) | (with_reducible refine Kd.C_alloc ?_ _) | (with_reducible refine Kd.C_drewN ?_ _) | (with_reducible refine Kd.C_drew ?_))); (case aB => exact (by repeat (first | (with_reducible first | exact HB.out | apply below_alloc | apply pw_below_drewN | apply below_drew1) | exact HB.out))); (case aF => exact (fun _ _ => trivial)); (case aO => exact (by (with_reducible repeat (first | apply Kd.R_alloc | apply Kd.R_drewN | apply Kd.R_drew)); exact HO514.out)); (case aS => exact (below_size (by repeat (first | (with_reducible first | exact HB.out | apply below_alloc | apply pw_below_drewN | apply below_drew1) | exact HB.out)))); (case aL => have := LMc13.out; omega); intro v517 w18 ho hb hg hat; rw [← Ny516.out] at ho; have n0_ := Aside0.mk (Kd.S_after (ok := (fun k_ => some k_ ≠ (u6 : Value).ownBlock)) (by (with_reducible repeat (first | apply Kd.S_alloc | apply Kd.S_drewN | apply Kd.S_drew)); exact HO_4.out) hg hat); have n1_ := Aside0.mk (Kd.S_after (ok := (fun k_ => some k_ ≠ (.slice (some ad515) x4_1.length co8 : Value).ownBlock)) (by (with_reducible repeat (first | apply Kd.S_alloc | apply Kd.S_drewN | apply Kd.S_drew)); exact HO_6.out) hg hat); have n2_ := Aside0.mk (Kd.R_after (ok := (fun k_ => some k_ ≠ (.slice (some ad515) x4_1.length co8 : Value).ownBlock ∧ some k_ ≠ (u6 : Value).ownBlock)) (by (with_reducible repeat (first | apply Kd.R_alloc | apply Kd.R_drewN | apply Kd.R_drew)); exact Kd.R_mono HL515_0.out (fun _ hk => ⟨⟨hk.2, hk.1.1⟩, hk.1.2⟩)) hg hat); have n3_ := Aside0.mk (hb); have n4_ := Aside0.mk (ho); clear HO_4; clear HO_6; clear HL515_0; clear HB; clear HO514; have HO_4 := n0_; have HO_6 := n1_; have HL515_0 := n2_; have HB := n3_; have HO518 := n4_; clear n0_ n1_ n2_ n3_ n4_; clear ho hb hg hat) | ((with_reducible refine gate_builtin (b := .append) (xs := #[.tmp 50, .tmp 52]) rfl ?_); at_builtin; refine Kd.R_append (Kd.int .i64) (w0 := w) w.heap.size rfl (.tmp 50) (.tmp 52) 28 3 (.int .i64 0) 8 rfl Try.underlying28 info3 rfl (by decide) (by omega) v517 y516 x8_3 [.int .i64 x8_3] (fun _ => True) (fun _ => False) rfl rfl ?aP (fun _ hk => hk.elim) ?aF ?aO ?aB ?aS ?aL ?_; (case aP => exact rfl); (case aB => exact (by repeat (first | (with_reducible first | exact HB.out | apply below_alloc | apply pw_below_drewN | apply below_drew1) | exact HB.out))); (case aF => exact (fun _ _ => trivial)); (case aO => exact (by (with_reducible repeat (first | apply Kd.R_alloc | apply Kd.R_drewN | apply Kd.R_drew)); exact HO518.out)); (case aS => exact (below_size (by repeat (first | (with_reducible first | exact HB.out | apply below_alloc | apply pw_below_drewN | apply below_drew1) | exact HB.out)))); (case aL => have := LMc14.out; omega); intro v520 w19 ho hb hg hat; rw [← Ny519.out] at ho; have n0_ := Aside0.mk (Kd.S_after (ok := (fun k_ => some k_ ≠ (u6 : Value).ownBlock)) (by (with_reducible repeat (first | apply Kd.S_alloc | apply Kd.S_drewN | apply Kd.S_drew)); exact HO_4.out) hg hat); have n1_ := Aside0.mk (Kd.S_after (ok := (fun k_ => some k_ ≠ (.slice (some ad515) x4_1.length co8 : Value).ownBlock)) (by (with_reducible repeat (first | apply Kd.S_alloc | apply Kd.S_drewN | apply Kd.S_drew)); exact HO_6.out) hg hat); have n2_ := Aside0.mk (Kd.R_after (ok := (fun k_ => some k_ ≠ (.slice (some ad515) x4_1.length co8 : Value).ownBlock ∧ some k_ ≠ (u6 : Value).ownBlock)) (by (with_reducible repeat (first | apply Kd.R_alloc | apply Kd.R_drewN | apply Kd.R_drew)); exact HL515_0.out) hg hat); have n3_ := Aside0.mk (hb); have n4_ := Aside0.mk (ho); clear HO_4; clear HO_6; clear HL515_0; clear HB; clear HO518; have HO_4 := n0_; have HO_6 := n1_; have HL515_0 := n2_; have HB := n3_; have HO521 := n4_; clear n0_ n1_ n2_ n3_ n4_; clear ho hb hg hat; obtain ⟨Ao21, co21, eo21⟩ := Kd.R_slice HO521.out; subst eo21) | ((with_reducible refine gate_builtin (b := .append) (xs := #[.tmp 44, .tmp 54]) rfl ?_); at_builtin; refine Kd.S_append (Kd.slice 3 (Kd.int .i64)) (w0 := w) w.heap.size rfl (.tmp 44) (.tmp 54) 42 28 (.slice none 0 0) 24 rfl Try.underlying42 info28 rfl (by decide) (by omega) u6 x6_3 y519 [.slice Ao21 y519.length co21] (fun k_ => some k_ ≠ (.slice (some ad515) x4_1.length co8 : Value).ownBlock) (fun k_ => some k_ = (.slice Ao21 y519.length co21 : Value).ownBlock) rfl rfl ?aP (fun k_ hk_ => ((Kd.R_mono (ok' := fun k_ => ((fun k_ => some k_ ≠ (.slice (some ad515) x4_1.length co8 : Value).ownBlock)) k_ ∧ some k_ ≠ (u6 : Value).ownBlock) (Kd.R_apart' (Kd.R_apart' (HO521.out) (Kd.S_typed HO_4.out) (by decide)) (Kd.S_typed HO_6.out) (by decide)) (fun k_ hk => ⟨hk.1.2, hk.2⟩))).1 k_ hk_.symm) ?aF ?aO ?aB ?aS ?aL ?_; (case aP => exact Kd.M_row (Kd.R_mono (Kd.R_tight rfl (Kd.R_mono (ok' := fun k_ => ((fun k_ => some k_ ≠ (.slice (some ad515) x4_1.length co8 : Value).ownBlock)) k_ ∧ some k_ ≠ (u6 : Value).ownBlock) (Kd.R_apart' (Kd.R_apart' (HO521.out) (Kd.S_typed HO_4.out) (by decide)) (Kd.S_typed HO_6.out) (by decide)) (fun k_ hk => ⟨hk.1.2, hk.2⟩))) (fun _ h_ => h_))); (case aB => exact (by repeat (first | (with_reducible first | exact HB.out | apply below_alloc | apply pw_below_drewN | apply below_drew1) | exact HB.out))); (case aF => exact (fun k_ hk => Kd.fresh' (Kd.S_lt (by (with_reducible repeat (first | apply Kd.S_alloc | apply Kd.S_drewN | apply Kd.S_drew)); exact HO_4.out)) k_ hk)); (case aO => exact (by (with_reducible repeat (first | apply Kd.S_alloc | apply Kd.S_drewN | apply Kd.S_drew)); exact Kd.S_mono HO_6.out (fun k_ hk => ⟨hk.1, fun e_ => hk.2 e_⟩))); (case aS => exact (below_size (by repeat (first | (with_reducible first | exact HB.out | apply below_alloc | apply pw_below_drewN | apply below_drew1) | exact HB.out)))); (case aL => have := LMc15.out; omega); intro v523 w20 ho hb hg hat; rw [← Ny522.out] at ho; have n0_ := Aside0.mk (Kd.S_after (ok := (fun k_ => some k_ ≠ (.slice Ao21 y519.length co21 : Value).ownBlock)) (by (with_reducible repeat (first | apply Kd.S_alloc | apply Kd.S_drewN | apply Kd.S_drew)); exact Kd.S_mono HO_4.out (fun _ hk => ⟨hk.2, hk.1⟩)) hg hat); have n1_ := Aside0.mk (Kd.R_after (ok := (fun k_ => some k_ ≠ (.slice (some ad515) x4_1.length co8 : Value).ownBlock ∧ some k_ ≠ (.slice Ao21 y519.length co21 : Value).ownBlock)) (by (with_reducible repeat (first | apply Kd.R_alloc | apply Kd.R_drewN | apply Kd.R_drew)); exact Kd.R_mono HL515_0.out (fun _ hk => ⟨⟨hk.1.1, hk.2⟩, hk.1.2⟩)) hg hat); have n2_ := Aside0.mk (hb); have n3_ := Aside0.mk (ho); clear HO_4; clear HL515_0; clear HB; clear HO_6; clear HO521; have HO_4 := n0_; have HL515_0 := n1_; have HB := n2_; have HO524 := n3_; clear n0_ n1_ n2_ n3_; clear ho hb hg hat))
                                    go_roundg k3
                                    case measure => have := HK1.out; have := HK2.out; have := HK3.out; omega
                                    case rel => exact ⟨(y522), (wrap64 (x8_3 + 1)), (by first | rfl | (simp; done) | (simp [*]; done)), H', ⟨by have := HK1.out; have := HK2.out; have := HK3.out; omega⟩, ⟨by (with_reducible repeat (first | apply Kd.S_alloc | apply Kd.S_drewN | apply Kd.S_drew)); exact Kd.S_mono HO_4.out (fun _ hk => hk.2)⟩, ⟨by (with_reducible repeat (first | apply Kd.S_alloc | apply Kd.S_drewN | apply Kd.S_drew)); exact HO524.out⟩, ⟨by repeat (first | (with_reducible first | exact HB.out | apply below_alloc | apply pw_below_drewN | apply below_drew1) | exact HB.out)⟩⟩
                                  · rw [if_neg c15] at H
                                    exact absurd H (by simp)
                                · rw [if_neg c14] at H
                                  exact absurd H (by simp)
                              · rw [if_neg c13] at H
                                exact absurd H (by simp)
                            · rw [if_neg c12] at H
                              exact absurd H (by simp)
                          · rw [if_neg c11] at H
                            exact absurd H (by simp)
                        · rw [if_neg c10] at H
                          have c10b0 : (x8_3 == x5_1) = false := beq_eq_false_iff_ne.mpr c10
                          have c10b1 : (x8_3 != x5_1) = true := bne_iff_ne.mpr c10
                          by_cases c22 : 0 ≤ x7_2
                          · rw [if_pos c22] at H
                            have c22b0 : decide (0 ≤ x7_2) = true := decide_eq_true c22
                            clear c22
                            by_cases c23 : x7_2 < (x4_1.length : Int)
                            · rw [if_pos c23] at H
                              have c23b0 : decide (x7_2 < (x4_1.length : Int)) = true := decide_eq_true c23
                              clear c23
                              by_cases c24 : 0 ≤ x8_3
                              · rw [if_pos c24] at H
                                have c24b0 : decide (0 ≤ x8_3) = true := decide_eq_true c24
                                clear c24
                                by_cases c25 : x8_3 < ((rd_L2 x4_1 x7_2).length : Int)
                                · rw [if_pos c25] at H
                                  have c25b0 : decide (x8_3 < ((rd_L2 x4_1 x7_2).length : Int)) = true := decide_eq_true c25
                                  clear c25
                                  by_cases c26 : (rd (rd_L2 x4_1 x7_2) x8_3) = x8_3
                                  · rw [if_pos c26] at H
                                    have c26b0 : ((rd (rd_L2 x4_1 x7_2) x8_3) == x8_3) = true := beq_iff_eq.mpr c26
                                    have c26b1 : ((rd (rd_L2 x4_1 x7_2) x8_3) != x8_3) = false := bne_eq_false_iff_eq.mpr c26
                                    clear c26
                                    obtain ⟨y527, hy527⟩ : ∃ y_ : List Int, y_ = (([] : List Int)) := ⟨_, rfl⟩
                                    replace H : (if y527.length + (rd_L2 x4_1 x7_2).length < 17592186044416 then ((some (y527 ++ (rd_L2 x4_1 x7_2) : List Int)).bind fun y531 => (if y531.length < 17592186044416 then (if x6_3.length < 5864062014805 then (scarfjointref02_All.l2 k3 a0 x4_1 x5_1 (x6_3 ++ [(y531 ++ [x8_3])]) x7_2 (wrap64 (x8_3 + 1))) else (none)) else (none))) else (none)) = some (r1, r2) := by first | (rw [hy527]; with_reducible exact H) | (have H2_ := (Option.bind_some _ _).symm.trans H; rw [hy527]; with_reducible exact H2_) | (have H2_ := (Option.bind_some _ _).symm.trans H; with_reducible exact H2_) | with_reducible exact H | (rw [hy527]; exact H) | exact H
                                    have Ny527 := Aside0.mk hy527
                                    clear hy527
                                    by_cases c27 : y527.length + (rd_L2 x4_1 x7_2).length < 17592186044416
                                    · rw [if_pos c27] at H
                                      have LMc27 := Aside0.mk c27
                                      clear c27
                                      obtain ⟨y531, hy531⟩ : ∃ y_ : List Int, y_ = (y527 ++ (rd_L2 x4_1 x7_2)) := ⟨_, rfl⟩
                                      replace H : (if y531.length < 17592186044416 then (if x6_3.length < 5864062014805 then (scarfjointref02_All.l2 k3 a0 x4_1 x5_1 (x6_3 ++ [(y531 ++ [x8_3])]) x7_2 (wrap64 (x8_3 + 1))) else (none)) else (none)) = some (r1, r2) := by first | (rw [hy531]; with_reducible exact H) | (have H2_ := (Option.bind_some _ _).symm.trans H; rw [hy531]; with_reducible exact H2_) | (have H2_ := (Option.bind_some _ _).symm.trans H; with_reducible exact H2_) | with_reducible exact H | (rw [hy531]; exact H) | exact H
                                      have Ny531 := Aside0.mk hy531
                                      clear hy531
                                      by_cases c28 : y531.length < 17592186044416
                                      · rw [if_pos c28] at H
                                        have LMc28 := Aside0.mk c28
                                        clear c28
                                        obtain ⟨y534, hy534⟩ : ∃ y_ : List Int, y_ = (y531 ++ [x8_3]) := ⟨_, rfl⟩
                                        replace H : (if x6_3.length < 5864062014805 then (scarfjointref02_All.l2 k3 a0 x4_1 x5_1 (x6_3 ++ [y534]) x7_2 (wrap64 (x8_3 + 1))) else (none)) = some (r1, r2) := by first | (rw [hy534]; with_reducible exact H) | (have H2_ := (Option.bind_some _ _).symm.trans H; rw [hy534]; with_reducible exact H2_) | (have H2_ := (Option.bind_some _ _).symm.trans H; with_reducible exact H2_) | with_reducible exact H | (rw [hy534]; exact H) | exact H
                                        have Ny534 := Aside0.mk hy534
                                        clear hy534
                                        by_cases c29 : x6_3.length < 5864062014805
                                        · rw [if_pos c29] at H
                                          have LMc29 := Aside0.mk c29
                                          clear c29
                                          obtain ⟨y537, hy537⟩ : ∃ y_ : List (List Int), y_ = (x6_3 ++ [y534]) := ⟨_, rfl⟩
                                          replace H : (scarfjointref02_All.l2 k3 a0 x4_1 x5_1 y537 x7_2 (wrap64 (x8_3 + 1))) = some (r1, r2) := by first | (rw [hy537]; with_reducible exact H) | (have H2_ := (Option.bind_some _ _).symm.trans H; rw [hy537]; with_reducible exact H2_) | (have H2_ := (Option.bind_some _ _).symm.trans H; with_reducible exact H2_) | with_reducible exact H | (rw [hy537]; exact H) | exact H
                                          have Ny537 := Aside0.mk hy537
                                          clear hy537
                                          have H' := Aside0.mk H
                                          clear H
                                          have p525 : 0 ≤ (x7_2 : Int) := of_decide_eq_true (by first | (with_reducible assumption) | assumption)
                                          have q525 : x7_2 < (x4_1.length : Int) := of_decide_eq_true (by first | (with_reducible assumption) | assumption)
                                          obtain ⟨ad525, A525_0, c525_0, e525, hx525_0, hl525_0, hi525_0⟩ := at_L2 (Kd.S_reads' HO_4.out).2.2 x7_2 p525 q525
                                          cases e525
                                          obtain ⟨ce525, hce525, hMe525, hcc525⟩ := Kd.S_get HO_4.out [] x7_2 p525 (by first | exact q525 | exact of_decide_eq_true (by first | (with_reducible assumption) | assumption) | (have e_ := (Kd.S_reads' HO_4.out).1; omega))
                                          obtain ⟨ve525_0, rfl, ge525_0⟩ := hMe525
                                          have hv525_0 := hcc525 0 _ rfl
                                          rw [Nat.add_zero, show ((Kd.slice 3 (Kd.int .i64))).sz = 1 from rfl, Nat.mul_one] at hv525_0
                                          replace hv525_0 := Option.some.inj (hv525_0.symm.trans hx525_0)
                                          rw [hv525_0] at ge525_0
                                          have HL525_0 := Aside0.mk (show Kd.R (Kd.int .i64) 3 _ _ _ _ (rd_L2 x4_1 x7_2) from ge525_0)
                                          clear hv525_0 ge525_0
                                          clear hcc525 hce525
                                          have HR525_0 := Aside0.mk hi525_0
                                          have HC525_0 := Aside0.mk hl525_0
                                          clear hi525_0 hl525_0
                                          replace p525 := eq_true p525
                                          replace q525 := eq_true q525
                                          have p526 : 0 ≤ (x8_3 : Int) := of_decide_eq_true (by first | (with_reducible assumption) | assumption)
                                          have q526 : x8_3 < ((rd_L2 x4_1 x7_2).length : Int) := of_decide_eq_true (by first | (with_reducible assumption) | assumption)
                                          obtain ⟨ad526, e526, hx526_0⟩ := Kd.at_int (by repeat (first | (with_reducible exact HR525_0.out) | (with_reducible refine Kd.C_alloc ?_ _) | (with_reducible refine Kd.C_drewN ?_ _) | (with_reducible refine Kd.C_drew ?_) | exact HR525_0.out)) x8_3 p526 q526
                                          cases e526
                                          replace p526 := eq_true p526
                                          replace q526 := eq_true q526
                                          go_wp2_with (first | ((with_reducible refine gate_dst (N := 45) rfl ?_); refine Kd.R_lit (Kd.int .i64) _ 3 ?hg (N := 45) ?hd (xs := ([] : List Int)) (inner := []) (ok := fun _ => True) (okp := fun _ => True) ?hr ?hp (fun _ hk => hk) trivial (Below.refl _ _) (Nat.le_refl _) (by simp) ?_; (case hd => rfl); (case hg => rfl); (case hr => first | (go_simp; done) | (go_simp; rfl)); (case hp => exact (Reps.none _ _)); intro v528 w30 ho31 hb hg_ hnew_; clear hg_ hnew_; (first | rw [← Ny527.out] at ho31 | (simp only [Int.reduceToNat] at ho31; rw [← Ny527.out] at ho31)); have n0_ := Aside0.mk (Kd.S_elder' (by (with_reducible repeat (first | apply Kd.S_alloc | apply Kd.S_drewN | apply Kd.S_drew)); exact HO_4.out) (Kd.R_base ho31) hb); have n1_ := Aside0.mk (Kd.S_elder' (by (with_reducible repeat (first | apply Kd.S_alloc | apply Kd.S_drewN | apply Kd.S_drew)); exact HO_6.out) (Kd.R_base ho31) hb); have n2_ := Aside0.mk (Kd.R_elder' (by (with_reducible repeat (first | apply Kd.R_alloc | apply Kd.R_drewN | apply Kd.R_drew)); exact HL525_0.out) (Kd.R_base ho31) hb); have n3_ := Aside0.mk (Kd.R_lower (Kd.R_new' ho31 (Kd.R_lt (by (with_reducible repeat (first | apply Kd.R_alloc | apply Kd.R_drewN | apply Kd.R_drew)); exact HL525_0.out))) (below_size (by repeat (first | (with_reducible first | exact HB.out | apply below_alloc | apply pw_below_drewN | apply below_drew1) | exact HB.out)))); have n4_ := Aside0.mk (Kd.C_below (by repeat (first | (with_reducible exact HR525_0.out) | (with_reducible refine Kd.C_alloc ?_ _) | (with_reducible refine Kd.C_drewN ?_ _) | (with_reducible refine Kd.C_drew ?_) | exact HR525_0.out)) hb); have n5_ := Aside0.mk (below_step (by repeat (first | (with_reducible first | exact HB.out | apply below_alloc | apply pw_below_drewN | apply below_drew1) | exact HB.out)) hb); clear HO_4; clear HO_6; clear HL525_0; clear HR525_0; clear HB; have HO_4 := n0_; have HO_6 := n1_; have HL525_0 := n2_; have HO529 := n3_; have HR525_0 := n4_; have HB := n5_; clear n0_ n1_ n2_ n3_ n4_ n5_; clear hb ho31; have p530 : 0 ≤ (x7_2 : Int) := of_decide_eq_true (by first | (with_reducible assumption) | assumption); have q530 : x7_2 < (x4_1.length : Int) := of_decide_eq_true (by first | (with_reducible assumption) | assumption); obtain ⟨ad530, A530_0, c530_0, e530, hx530_0, hl530_0, hi530_0⟩ := at_L2 (Kd.S_reads' HO_4.out).2.2 x7_2 p530 q530; obtain rfl : ad525 = ad530 := (by injection e530); obtain ⟨ce530, hce530, hMe530, hcc530⟩ := Kd.S_get HO_4.out [] x7_2 p530 (by first | exact q530 | exact of_decide_eq_true (by first | (with_reducible assumption) | assumption) | (have e_ := (Kd.S_reads' HO_4.out).1; omega)); obtain ⟨ve530_0, rfl, ge530_0⟩ := hMe530; have hv530_0 := hcc530 0 _ rfl; rw [Nat.add_zero, show ((Kd.slice 3 (Kd.int .i64))).sz = 1 from rfl, Nat.mul_one] at hv530_0; replace hv530_0 := Option.some.inj (hv530_0.symm.trans hx530_0); rw [hv530_0] at ge530_0; have HL530_0 := Aside0.mk (show Kd.R (Kd.int .i64) 3 _ _ _ _ (rd_L2 x4_1 x7_2) from ge530_0); clear hv530_0 ge530_0; clear hcc530 hce530; have HR530_0 := Aside0.mk hi530_0; have HC530_0 := Aside0.mk hl530_0; clear hi530_0 hl530_0; replace p530 := eq_true p530; replace q530 := eq_true q530) | ((with_reducible refine gate_builtin (b := .append) (xs := #[.tmp 45, .tmp 49]) rfl ?_); at_builtin; refine Kd.R_append_rows (Kd.int .i64) (w0 := w) w.heap.size rfl (.tmp 45) (.tmp 49) 28 3 (.int .i64 0) 8 rfl Try.underlying28 info3 rfl (by decide) (by omega) v528 y527 (rd_L2 x4_1 x7_2) _ _ _ (fun k_ => some k_ ≠ (.slice (some ad526) (rd_L2 x4_1 x7_2).length c525_0 : Value).ownBlock) (fun _ => False) rfl rfl ?aO ?aR (fun _ _ h => h) (fun _ h => h.elim) ?aF ?aB ?aS ?aL ?_; (case aR => repeat (first | exact (by repeat (first | (with_reducible exact HR530_0.out) | (with_reducible refine Kd.C_alloc ?_ _) | (with_reducible refine Kd.C_drewN ?_ _) | (with_reducible refine Kd.C_drew ?_) | exact HR530_0.out)) | (with_reducible refine Kd.C_alloc ?_ _) | (with_reducible refine Kd.C_drewN ?_ _) | (with_reducible refine Kd.C_drew ?_))); (case aB => exact (by repeat (first | (with_reducible first | exact HB.out | apply below_alloc | apply pw_below_drewN | apply below_drew1) | exact HB.out))); (case aF => exact (fun k_ hk => Kd.fresh' (Kd.R_lt (by (with_reducible repeat (first | apply Kd.R_alloc | apply Kd.R_drewN | apply Kd.R_drew)); exact HL525_0.out)) k_ hk)); (case aO => exact (by (with_reducible repeat (first | apply Kd.R_alloc | apply Kd.R_drewN | apply Kd.R_drew)); exact Kd.R_mono HO529.out (fun _ hk => hk.2))); (case aS => exact (below_size (by repeat (first | (with_reducible first | exact HB.out | apply below_alloc | apply pw_below_drewN | apply below_drew1) | exact HB.out)))); (case aL => have := LMc27.out; omega); intro v532 w32 ho hb hg hat; rw [← Ny531.out] at ho; have n0_ := Aside0.mk (Kd.S_after (ok := (fun k_ => some k_ ≠ (u6 : Value).ownBlock)) (by (with_reducible repeat (first | apply Kd.S_alloc | apply Kd.S_drewN | apply Kd.S_drew)); exact HO_4.out) hg hat); have n1_ := Aside0.mk (Kd.S_after (ok := (fun k_ => some k_ ≠ (.slice (some ad525) x4_1.length co8 : Value).ownBlock)) (by (with_reducible repeat (first | apply Kd.S_alloc | apply Kd.S_drewN | apply Kd.S_drew)); exact HO_6.out) hg hat); have n2_ := Aside0.mk (Kd.R_after (ok := (fun k_ => some k_ ≠ (.slice (some ad525) x4_1.length co8 : Value).ownBlock ∧ some k_ ≠ (u6 : Value).ownBlock)) (by (with_reducible repeat (first | apply Kd.R_alloc | apply Kd.R_drewN | apply Kd.R_drew)); exact Kd.R_mono HL525_0.out (fun _ hk => ⟨⟨hk.1.2, hk.1.1⟩, hk.2⟩)) hg hat); have n3_ := Aside0.mk (Kd.R_after (ok := (fun k_ => some k_ ≠ (.slice (some ad525) x4_1.length co8 : Value).ownBlock ∧ some k_ ≠ (u6 : Value).ownBlock)) (by (with_reducible repeat (first | apply Kd.R_alloc | apply Kd.R_drewN | apply Kd.R_drew)); exact Kd.R_mono HL530_0.out (fun _ hk => ⟨⟨hk.2, hk.1.1⟩, hk.1.2⟩)) hg hat); have n4_ := Aside0.mk (hb); have n5_ := Aside0.mk (ho); clear HO_4; clear HO_6; clear HL525_0; clear HL530_0; clear HB; clear HO529; have HO_4 := n0_; have HO_6 := n1_; have HL525_0 := n2_; have HL530_0 := n3_; have HB := n4_; have HO533 := n5_; clear n0_ n1_ n2_ n3_ n4_ n5_; clear ho hb hg hat) | ((with_reducible refine gate_builtin (b := .append) (xs := #[.tmp 50, .tmp 52]) rfl ?_); at_builtin; refine Kd.R_append (Kd.int .i64) (w0 := w) w.heap.size rfl (.tmp 50) (.tmp 52) 28 3 (.int .i64 0) 8 rfl Try.underlying28 info3 rfl (by decide) (by omega) v532 y531 x8_3 [.int .i64 x8_3] (fun k_ => some k_ ≠ (.slice (some ad526) (rd_L2 x4_1 x7_2).length c525_0 : Value).ownBlock) (fun _ => False) rfl rfl ?aP (fun _ hk => hk.elim) ?aF ?aO ?aB ?aS ?aL ?_; (case aP => exact rfl); (case aB => exact (by repeat (first | (with_reducible first | exact HB.out | apply below_alloc | apply pw_below_drewN | apply below_drew1) | exact HB.out))); (case aF => exact (fun k_ hk => Kd.fresh' (Kd.R_lt (by (with_reducible repeat (first | apply Kd.R_alloc | apply Kd.R_drewN | apply Kd.R_drew)); exact HL525_0.out)) k_ hk)); (case aO => exact (by (with_reducible repeat (first | apply Kd.R_alloc | apply Kd.R_drewN | apply Kd.R_drew)); exact HO533.out)); (case aS => exact (below_size (by repeat (first | (with_reducible first | exact HB.out | apply below_alloc | apply pw_below_drewN | apply below_drew1) | exact HB.out)))); (case aL => have := LMc28.out; omega); intro v535 w33 ho hb hg hat; rw [← Ny534.out] at ho; have n0_ := Aside0.mk (Kd.S_after (ok := (fun k_ => some k_ ≠ (u6 : Value).ownBlock)) (by (with_reducible repeat (first | apply Kd.S_alloc | apply Kd.S_drewN | apply Kd.S_drew)); exact HO_4.out) hg hat); have n1_ := Aside0.mk (Kd.S_after (ok := (fun k_ => some k_ ≠ (.slice (some ad525) x4_1.length co8 : Value).ownBlock)) (by (with_reducible repeat (first | apply Kd.S_alloc | apply Kd.S_drewN | apply Kd.S_drew)); exact HO_6.out) hg hat); have n2_ := Aside0.mk (Kd.R_after (ok := (fun k_ => some k_ ≠ (.slice (some ad525) x4_1.length co8 : Value).ownBlock ∧ some k_ ≠ (u6 : Value).ownBlock)) (by (with_reducible repeat (first | apply Kd.R_alloc | apply Kd.R_drewN | apply Kd.R_drew)); exact HL525_0.out) hg hat); have n3_ := Aside0.mk (Kd.R_after (ok := (fun k_ => some k_ ≠ (.slice (some ad525) x4_1.length co8 : Value).ownBlock ∧ some k_ ≠ (u6 : Value).ownBlock)) (by (with_reducible repeat (first | apply Kd.R_alloc | apply Kd.R_drewN | apply Kd.R_drew)); exact HL530_0.out) hg hat); have n4_ := Aside0.mk (hb); have n5_ := Aside0.mk (ho); clear HO_4; clear HO_6; clear HL525_0; clear HL530_0; clear HB; clear HO533; have HO_4 := n0_; have HO_6 := n1_; have HL525_0 := n2_; have HL530_0 := n3_; have HB := n4_; have HO536 := n5_; clear n0_ n1_ n2_ n3_ n4_ n5_; clear ho hb hg hat; obtain ⟨Ao35, co35, eo35⟩ := Kd.R_slice HO536.out; subst eo35) | ((with_reducible refine gate_builtin (b := .append) (xs := #[.tmp 44, .tmp 54]) rfl ?_); at_builtin; refine Kd.S_append (Kd.slice 3 (Kd.int .i64)) (w0 := w) w.heap.size rfl (.tmp 44) (.tmp 54) 42 28 (.slice none 0 0) 24 rfl Try.underlying42 info28 rfl (by decide) (by omega) u6 x6_3 y534 [.slice Ao35 y534.length co35] (fun k_ => some k_ ≠ (.slice (some ad525) x4_1.length co8 : Value).ownBlock) (fun k_ => some k_ = (.slice Ao35 y534.length co35 : Value).ownBlock) rfl rfl ?aP (fun k_ hk_ => ((Kd.R_mono (ok' := fun k_ => ((fun k_ => some k_ ≠ (.slice (some ad525) x4_1.length co8 : Value).ownBlock)) k_ ∧ some k_ ≠ (u6 : Value).ownBlock) (Kd.R_apart' (Kd.R_apart' (HO536.out) (Kd.S_typed HO_4.out) (by decide)) (Kd.S_typed HO_6.out) (by decide)) (fun k_ hk => ⟨hk.1.2, hk.2⟩))).1 k_ hk_.symm) ?aF ?aO ?aB ?aS ?aL ?_; (case aP => exact Kd.M_row (Kd.R_mono (Kd.R_tight rfl (Kd.R_mono (ok' := fun k_ => ((fun k_ => some k_ ≠ (.slice (some ad525) x4_1.length co8 : Value).ownBlock)) k_ ∧ some k_ ≠ (u6 : Value).ownBlock) (Kd.R_apart' (Kd.R_apart' (HO536.out) (Kd.S_typed HO_4.out) (by decide)) (Kd.S_typed HO_6.out) (by decide)) (fun k_ hk => ⟨hk.1.2, hk.2⟩))) (fun _ h_ => h_))); (case aB => exact (by repeat (first | (with_reducible first | exact HB.out | apply below_alloc | apply pw_below_drewN | apply below_drew1) | exact HB.out))); (case aF => exact (fun k_ hk => Kd.fresh' (Kd.S_lt (by (with_reducible repeat (first | apply Kd.S_alloc | apply Kd.S_drewN | apply Kd.S_drew)); exact HO_4.out)) k_ hk)); (case aO => exact (by (with_reducible repeat (first | apply Kd.S_alloc | apply Kd.S_drewN | apply Kd.S_drew)); exact Kd.S_mono HO_6.out (fun k_ hk => ⟨hk.1, fun e_ => hk.2 e_⟩))); (case aS => exact (below_size (by repeat (first | (with_reducible first | exact HB.out | apply below_alloc | apply pw_below_drewN | apply below_drew1) | exact HB.out)))); (case aL => have := LMc29.out; omega); intro v538 w34 ho hb hg hat; rw [← Ny537.out] at ho; have n0_ := Aside0.mk (Kd.S_after (ok := (fun k_ => some k_ ≠ (.slice Ao35 y534.length co35 : Value).ownBlock)) (by (with_reducible repeat (first | apply Kd.S_alloc | apply Kd.S_drewN | apply Kd.S_drew)); exact Kd.S_mono HO_4.out (fun _ hk => ⟨hk.2, hk.1⟩)) hg hat); have n1_ := Aside0.mk (Kd.R_after (ok := (fun k_ => some k_ ≠ (.slice (some ad525) x4_1.length co8 : Value).ownBlock ∧ some k_ ≠ (.slice Ao35 y534.length co35 : Value).ownBlock)) (by (with_reducible repeat (first | apply Kd.R_alloc | apply Kd.R_drewN | apply Kd.R_drew)); exact Kd.R_mono HL525_0.out (fun _ hk => ⟨⟨hk.1.1, hk.2⟩, hk.1.2⟩)) hg hat); have n2_ := Aside0.mk (Kd.R_after (ok := (fun k_ => some k_ ≠ (.slice (some ad525) x4_1.length co8 : Value).ownBlock ∧ some k_ ≠ (.slice Ao35 y534.length co35 : Value).ownBlock)) (by (with_reducible repeat (first | apply Kd.R_alloc | apply Kd.R_drewN | apply Kd.R_drew)); exact Kd.R_mono HL530_0.out (fun _ hk => ⟨⟨hk.1.1, hk.2⟩, hk.1.2⟩)) hg hat); have n3_ := Aside0.mk (hb); have n4_ := Aside0.mk (ho); clear HO_4; clear HL525_0; clear HL530_0; clear HB; clear HO_6; clear HO536; have HO_4 := n0_; have HL525_0 := n1_; have HL530_0 := n2_; have HB := n3_; have HO539 := n4_; clear n0_ n1_ n2_ n3_ n4_; clear ho hb hg hat))
                                          go_roundg k3
                                          case measure => have := HK1.out; have := HK2.out; have := HK3.out; omega
                                          case rel => exact ⟨(y537), (wrap64 (x8_3 + 1)), (by first | rfl | (simp; done) | (simp [*]; done)), H', ⟨by have := HK1.out; have := HK2.out; have := HK3.out; omega⟩, ⟨by (with_reducible repeat (first | apply Kd.S_alloc | apply Kd.S_drewN | apply Kd.S_drew)); exact Kd.S_mono HO_4.out (fun _ hk => hk.2)⟩, ⟨by (with_reducible repeat (first | apply Kd.S_alloc | apply Kd.S_drewN | apply Kd.S_drew)); exact HO539.out⟩, ⟨by repeat (first | (with_reducible first | exact HB.out | apply below_alloc | apply pw_below_drewN | apply below_drew1) | exact HB.out)⟩⟩
                                        · rw [if_neg c29] at H
                                          exact absurd H (by simp)
                                      · rw [if_neg c28] at H
                                        exact absurd H (by simp)
                                    · rw [if_neg c27] at H
                                      exact absurd H (by simp)
                                  · rw [if_neg c26] at H
                                    have c26b0 : ((rd (rd_L2 x4_1 x7_2) x8_3) == x8_3) = false := beq_eq_false_iff_ne.mpr c26
                                    have c26b1 : ((rd (rd_L2 x4_1 x7_2) x8_3) != x8_3) = true := bne_iff_ne.mpr c26
                                    have H' := Aside0.mk H
                                    clear H
                                    have p525 : 0 ≤ (x7_2 : Int) := of_decide_eq_true (by first | (with_reducible assumption) | assumption)
                                    have q525 : x7_2 < (x4_1.length : Int) := of_decide_eq_true (by first | (with_reducible assumption) | assumption)
                                    obtain ⟨ad525, A525_0, c525_0, e525, hx525_0, hl525_0, hi525_0⟩ := at_L2 (Kd.S_reads' HO_4.out).2.2 x7_2 p525 q525
                                    cases e525
                                    obtain ⟨ce525, hce525, hMe525, hcc525⟩ := Kd.S_get HO_4.out [] x7_2 p525 (by first | exact q525 | exact of_decide_eq_true (by first | (with_reducible assumption) | assumption) | (have e_ := (Kd.S_reads' HO_4.out).1; omega))
                                    obtain ⟨ve525_0, rfl, ge525_0⟩ := hMe525
                                    have hv525_0 := hcc525 0 _ rfl
                                    rw [Nat.add_zero, show ((Kd.slice 3 (Kd.int .i64))).sz = 1 from rfl, Nat.mul_one] at hv525_0
                                    replace hv525_0 := Option.some.inj (hv525_0.symm.trans hx525_0)
                                    rw [hv525_0] at ge525_0
                                    have HL525_0 := Aside0.mk (show Kd.R (Kd.int .i64) 3 _ _ _ _ (rd_L2 x4_1 x7_2) from ge525_0)
                                    clear hv525_0 ge525_0
                                    clear hcc525 hce525
                                    have HR525_0 := Aside0.mk hi525_0
                                    have HC525_0 := Aside0.mk hl525_0
                                    clear hi525_0 hl525_0
                                    replace p525 := eq_true p525
                                    replace q525 := eq_true q525
                                    have p526 : 0 ≤ (x8_3 : Int) := of_decide_eq_true (by first | (with_reducible assumption) | assumption)
                                    have q526 : x8_3 < ((rd_L2 x4_1 x7_2).length : Int) := of_decide_eq_true (by first | (with_reducible assumption) | assumption)
                                    obtain ⟨ad526, e526, hx526_0⟩ := Kd.at_int (by repeat (first | (with_reducible exact HR525_0.out) | (with_reducible refine Kd.C_alloc ?_ _) | (with_reducible refine Kd.C_drewN ?_ _) | (with_reducible refine Kd.C_drew ?_) | exact HR525_0.out)) x8_3 p526 q526
                                    cases e526
                                    replace p526 := eq_true p526
                                    replace q526 := eq_true q526
                                    go_wp2
                                    go_roundg k3
                                    case measure => have := HK1.out; have := HK2.out; have := HK3.out; omega
                                    case rel => exact ⟨(x6_3), (wrap64 (x8_3 + 1)), (by first | rfl | (simp; done) | (simp [*]; done)), H', ⟨by have := HK1.out; have := HK2.out; have := HK3.out; omega⟩, ⟨by (with_reducible repeat (first | apply Kd.S_alloc | apply Kd.S_drewN | apply Kd.S_drew)); exact HO_4.out⟩, ⟨by (with_reducible repeat (first | apply Kd.S_alloc | apply Kd.S_drewN | apply Kd.S_drew)); exact HO_6.out⟩, ⟨by repeat (first | (with_reducible first | exact HB.out | apply below_alloc | apply pw_below_drewN | apply below_drew1) | exact HB.out)⟩⟩
                                · rw [if_neg c25] at H
                                  exact absurd H (by simp)
                              · rw [if_neg c24] at H
                                exact absurd H (by simp)
                            · rw [if_neg c23] at H
                              exact absurd H (by simp)
                          · rw [if_neg c22] at H
                            exact absurd H (by simp)
                      · rw [if_neg c9] at H
                        have c9b0 : decide (x8_3 ≤ x5_1) = false := decide_eq_false c9
                        clear c9
                        have H' := Aside0.mk H
                        clear H
                        go_wp2
                        go_roundg k3
                        case measure => have := HK1.out; have := HK2.out; have := HK3.out; omega
                        case rel => exact ⟨(x6_3), (wrap64 (x7_2 + 1)), (by first | rfl | (simp; done) | (simp [*]; done)), H', ⟨by have := HK1.out; have := HK2.out; have := HK3.out; omega⟩, ⟨by (with_reducible repeat (first | apply Kd.S_alloc | apply Kd.S_drewN | apply Kd.S_drew)); exact HO_4.out⟩, ⟨by (with_reducible repeat (first | apply Kd.S_alloc | apply Kd.S_drewN | apply Kd.S_drew)); exact HO_6.out⟩, ⟨by repeat (first | (with_reducible first | exact HB.out | apply below_alloc | apply pw_below_drewN | apply below_drew1) | exact HB.out)⟩⟩
                · rw [if_neg c7] at H
                  have c7b0 : decide (x7_2 < (x4_1.length : Int)) = false := decide_eq_false c7
                  clear c7
                  have H' := Aside0.mk H
                  clear H
                  obtain ⟨Ao36, co36, eo36⟩ := Kd.S_slice HO_4.out
                  subst eo36
                  go_wp2
                  go_roundg k2
                  case measure => have := HK1.out; have := HK2.out; omega
                  case rel => exact ⟨(x6_2), (wrap64 (x5_1 + 1)), (by first | rfl | (simp; done) | (simp [*]; done)), H', ⟨by have := HK1.out; have := HK2.out; omega⟩, ⟨by (with_reducible repeat (first | apply Kd.S_alloc | apply Kd.S_drewN | apply Kd.S_drew)); exact Kd.S_mono HO_6.out (fun _ hk => trivial)⟩, ⟨by repeat (first | (with_reducible first | exact HB.out | apply below_alloc | apply pw_below_drewN | apply below_drew1) | exact HB.out)⟩⟩
          · rw [if_neg c6] at H
            have c6b0 : decide (x5_1 < a0) = false := decide_eq_false c6
            clear c6
            simp only [Option.some.injEq, Prod.mk.injEq] at H
            obtain ⟨rfl, rfl⟩ := H
            go_wp2
            go_ret2
            exact ⟨_, by first | rfl | (simp [errW_none, errW_some] <;> rfl) | (simp [*, errW_none, errW_some] <;> rfl), by (with_reducible repeat (first | apply Kd.S_alloc | apply Kd.S_drewN | apply Kd.S_drew)); exact HO_4.out, by repeat (first | (with_reducible first | exact HB.out | apply below_alloc | apply pw_below_drewN | apply below_drew1) | exact HB.out)⟩

/-! ### cmp_isNaN_int: function 45 -/
def cmp_isNaN_int.f (a0 : Int) : Option (Bool) := some (a0 != a0)
set_option maxHeartbeats 8000000 in
set_option maxRecDepth 100000 in
theorem cmp_isNaN_int.calls (a0 : Int) (r : Bool) (w : World) (h : cmp_isNaN_int.f a0 = some r) :
    Calls Try.prog 45 #[.int .i64 a0] w fun e w' => e = .returned (.bool r) ∧ Drawn0 w w' := by
  have H : (some (a0 != a0)) = some r := h
  clear h
  obtain rfl := Option.some.inj H
  go_enter Try.func45, Try.ntmps45
  go_wp2
  go_ret
  exact ⟨by first | rfl | (simp; done) | (simp [*]; done), by repeat (first | exact Drawn0.refl _ | apply Drawn0.step)⟩

/-! ### cmp_Compare_int: function 43 -/
def cmp_Compare_int.f (a0 : Int) (a1 : Int) : Option (Int) := (cmp_isNaN_int.f a0).bind fun t540 => ((cmp_isNaN_int.f a1).bind fun t541 => (if t540 = true then (if t541 = true then (some 0) else (some (-1))) else (if t541 = true then (some 1) else (if a0 < a1 then (some (-1)) else (if a0 > a1 then (some 1) else (some 0))))))
set_option maxHeartbeats 8000000 in
set_option maxRecDepth 100000 in
theorem cmp_Compare_int.calls (a0 : Int) (a1 : Int) (r : Int) (w : World) (h : cmp_Compare_int.f a0 a1 = some r) :
    Calls Try.prog 43 #[.int .i64 a0, .int .i64 a1] w fun e w' => e = .returned (.int .i64 r) ∧ Drawn0 w w' := by
  have H : ((cmp_isNaN_int.f a0).bind fun t540 => ((cmp_isNaN_int.f a1).bind fun t541 => (if t540 = true then (if t541 = true then (some 0) else (some (-1))) else (if t541 = true then (some 1) else (if a0 < a1 then (some (-1)) else (if a0 > a1 then (some 1) else (some 0))))))) = some r := h
  clear h
  replace H := Option.bind_eq_some_iff.mp H
  obtain ⟨t540, A30, H⟩ := H
  replace H : ((cmp_isNaN_int.f a1).bind fun t541 => (if t540 = true then (if t541 = true then (some 0) else (some (-1))) else (if t541 = true then (some 1) else (if a0 < a1 then (some (-1)) else (if a0 > a1 then (some 1) else (some 0)))))) = some r := H
  have A3 := Aside0.mk A30
  clear A30
  replace H := Option.bind_eq_some_iff.mp H
  obtain ⟨t541, A40, H⟩ := H
  replace H : (if t540 = true then (if t541 = true then (some 0) else (some (-1))) else (if t541 = true then (some 1) else (if a0 < a1 then (some (-1)) else (if a0 > a1 then (some 1) else (some 0))))) = some r := H
  have A4 := Aside0.mk A40
  clear A40
  by_cases c5 : t540 = true
  · subst c5
    have H1 : (if t541 = true then (some 0) else (some (-1))) = some r := by rw [if_pos rfl] at H; exact H
    clear H
    have H := H1
    clear H1
    by_cases c6 : t541 = true
    · subst c6
      have H1 : (some 0) = some r := by rw [if_pos rfl] at H; exact H
      clear H
      have H := H1
      clear H1
      obtain rfl := Option.some.inj H
      go_enter Try.func43, Try.ntmps43
      go_wp2_with (first | ((with_reducible refine gate_callee (f := 45) rfl ?_); refine goesL_ (some 8) rfl rfl Try.func45 (by kernel_rfl) rfl #[.int .i64 a0] rfl (by (try simp only [List.map_toArray, List.map_cons, List.map_nil]); first | done | rfl | (simp only [List.length_drop, List.length_take]; rfl)) ?_; (with_reducible refine (cmp_isNaN_int.calls a0 true _ A3.out).mono ?_); rintro e w' ⟨rfl, ⟨nd, rfl⟩⟩; refine ⟨_, rfl, ?_⟩) | ((with_reducible refine gate_callee (f := 45) rfl ?_); refine goesL_ (some 10) rfl rfl Try.func45 (by kernel_rfl) rfl #[.int .i64 a1] rfl (by (try simp only [List.map_toArray, List.map_cons, List.map_nil]); first | done | rfl | (simp only [List.length_drop, List.length_take]; rfl)) ?_; (with_reducible refine (cmp_isNaN_int.calls a1 true _ A4.out).mono ?_); rintro e w' ⟨rfl, ⟨nd, rfl⟩⟩; refine ⟨_, rfl, ?_⟩))
      go_ret
      exact ⟨by first | rfl | (simp; done) | (simp [*]; done), by repeat (first | exact Drawn0.refl _ | apply Drawn0.step)⟩
    · replace c6 := Bool.eq_false_iff.mpr c6
      subst c6
      have H1 : (some (-1)) = some r := by rw [if_neg (show ¬ (false = true) by decide)] at H; exact H
      clear H
      have H := H1
      clear H1
      obtain rfl := Option.some.inj H
      go_enter Try.func43, Try.ntmps43
      go_wp2_with (first | ((with_reducible refine gate_callee (f := 45) rfl ?_); refine goesL_ (some 8) rfl rfl Try.func45 (by kernel_rfl) rfl #[.int .i64 a0] rfl (by (try simp only [List.map_toArray, List.map_cons, List.map_nil]); first | done | rfl | (simp only [List.length_drop, List.length_take]; rfl)) ?_; (with_reducible refine (cmp_isNaN_int.calls a0 true _ A3.out).mono ?_); rintro e w' ⟨rfl, ⟨nd, rfl⟩⟩; refine ⟨_, rfl, ?_⟩) | ((with_reducible refine gate_callee (f := 45) rfl ?_); refine goesL_ (some 10) rfl rfl Try.func45 (by kernel_rfl) rfl #[.int .i64 a1] rfl (by (try simp only [List.map_toArray, List.map_cons, List.map_nil]); first | done | rfl | (simp only [List.length_drop, List.length_take]; rfl)) ?_; (with_reducible refine (cmp_isNaN_int.calls a1 false _ A4.out).mono ?_); rintro e w' ⟨rfl, ⟨nd, rfl⟩⟩; refine ⟨_, rfl, ?_⟩))
      go_ret
      exact ⟨by first | rfl | (simp; done) | (simp [*]; done), by repeat (first | exact Drawn0.refl _ | apply Drawn0.step)⟩
  · replace c5 := Bool.eq_false_iff.mpr c5
    subst c5
    have H1 : (if t541 = true then (some 1) else (if a0 < a1 then (some (-1)) else (if a0 > a1 then (some 1) else (some 0)))) = some r := by rw [if_neg (show ¬ (false = true) by decide)] at H; exact H
    clear H
    have H := H1
    clear H1
    by_cases c7 : t541 = true
    · subst c7
      have H1 : (some 1) = some r := by rw [if_pos rfl] at H; exact H
      clear H
      have H := H1
      clear H1
      obtain rfl := Option.some.inj H
      go_enter Try.func43, Try.ntmps43
      go_wp2_with (first | ((with_reducible refine gate_callee (f := 45) rfl ?_); refine goesL_ (some 8) rfl rfl Try.func45 (by kernel_rfl) rfl #[.int .i64 a0] rfl (by (try simp only [List.map_toArray, List.map_cons, List.map_nil]); first | done | rfl | (simp only [List.length_drop, List.length_take]; rfl)) ?_; (with_reducible refine (cmp_isNaN_int.calls a0 false _ A3.out).mono ?_); rintro e w' ⟨rfl, ⟨nd, rfl⟩⟩; refine ⟨_, rfl, ?_⟩) | ((with_reducible refine gate_callee (f := 45) rfl ?_); refine goesL_ (some 10) rfl rfl Try.func45 (by kernel_rfl) rfl #[.int .i64 a1] rfl (by (try simp only [List.map_toArray, List.map_cons, List.map_nil]); first | done | rfl | (simp only [List.length_drop, List.length_take]; rfl)) ?_; (with_reducible refine (cmp_isNaN_int.calls a1 true _ A4.out).mono ?_); rintro e w' ⟨rfl, ⟨nd, rfl⟩⟩; refine ⟨_, rfl, ?_⟩))
      go_ret
      exact ⟨by first | rfl | (simp; done) | (simp [*]; done), by repeat (first | exact Drawn0.refl _ | apply Drawn0.step)⟩
    · replace c7 := Bool.eq_false_iff.mpr c7
      subst c7
      have H1 : (if a0 < a1 then (some (-1)) else (if a0 > a1 then (some 1) else (some 0))) = some r := by rw [if_neg (show ¬ (false = true) by decide)] at H; exact H
      clear H
      have H := H1
      clear H1
      by_cases c8 : a0 < a1
      · rw [if_pos c8] at H
        have c8b0 : decide (a0 < a1) = true := decide_eq_true c8
        clear c8
        obtain rfl := Option.some.inj H
        go_enter Try.func43, Try.ntmps43
        go_wp2_with (first | ((with_reducible refine gate_callee (f := 45) rfl ?_); refine goesL_ (some 8) rfl rfl Try.func45 (by kernel_rfl) rfl #[.int .i64 a0] rfl (by (try simp only [List.map_toArray, List.map_cons, List.map_nil]); first | done | rfl | (simp only [List.length_drop, List.length_take]; rfl)) ?_; (with_reducible refine (cmp_isNaN_int.calls a0 false _ A3.out).mono ?_); rintro e w' ⟨rfl, ⟨nd, rfl⟩⟩; refine ⟨_, rfl, ?_⟩) | ((with_reducible refine gate_callee (f := 45) rfl ?_); refine goesL_ (some 10) rfl rfl Try.func45 (by kernel_rfl) rfl #[.int .i64 a1] rfl (by (try simp only [List.map_toArray, List.map_cons, List.map_nil]); first | done | rfl | (simp only [List.length_drop, List.length_take]; rfl)) ?_; (with_reducible refine (cmp_isNaN_int.calls a1 false _ A4.out).mono ?_); rintro e w' ⟨rfl, ⟨nd, rfl⟩⟩; refine ⟨_, rfl, ?_⟩))
        go_ret
        exact ⟨by first | rfl | (simp; done) | (simp [*]; done), by repeat (first | exact Drawn0.refl _ | apply Drawn0.step)⟩
      · rw [if_neg c8] at H
        have c8b0 : decide (a0 < a1) = false := decide_eq_false c8
        clear c8
        by_cases c9 : a0 > a1
        · rw [if_pos c9] at H
          have c9b0 : decide (a1 < a0) = true := decide_eq_true c9
          clear c9
          obtain rfl := Option.some.inj H
          go_enter Try.func43, Try.ntmps43
          go_wp2_with (first | ((with_reducible refine gate_callee (f := 45) rfl ?_); refine goesL_ (some 8) rfl rfl Try.func45 (by kernel_rfl) rfl #[.int .i64 a0] rfl (by (try simp only [List.map_toArray, List.map_cons, List.map_nil]); first | done | rfl | (simp only [List.length_drop, List.length_take]; rfl)) ?_; (with_reducible refine (cmp_isNaN_int.calls a0 false _ A3.out).mono ?_); rintro e w' ⟨rfl, ⟨nd, rfl⟩⟩; refine ⟨_, rfl, ?_⟩) | ((with_reducible refine gate_callee (f := 45) rfl ?_); refine goesL_ (some 10) rfl rfl Try.func45 (by kernel_rfl) rfl #[.int .i64 a1] rfl (by (try simp only [List.map_toArray, List.map_cons, List.map_nil]); first | done | rfl | (simp only [List.length_drop, List.length_take]; rfl)) ?_; (with_reducible refine (cmp_isNaN_int.calls a1 false _ A4.out).mono ?_); rintro e w' ⟨rfl, ⟨nd, rfl⟩⟩; refine ⟨_, rfl, ?_⟩))
          go_ret
          exact ⟨by first | rfl | (simp; done) | (simp [*]; done), by repeat (first | exact Drawn0.refl _ | apply Drawn0.step)⟩
        · rw [if_neg c9] at H
          have c9b0 : decide (a1 < a0) = false := decide_eq_false c9
          clear c9
          obtain rfl := Option.some.inj H
          go_enter Try.func43, Try.ntmps43
          go_wp2_with (first | ((with_reducible refine gate_callee (f := 45) rfl ?_); refine goesL_ (some 8) rfl rfl Try.func45 (by kernel_rfl) rfl #[.int .i64 a0] rfl (by (try simp only [List.map_toArray, List.map_cons, List.map_nil]); first | done | rfl | (simp only [List.length_drop, List.length_take]; rfl)) ?_; (with_reducible refine (cmp_isNaN_int.calls a0 false _ A3.out).mono ?_); rintro e w' ⟨rfl, ⟨nd, rfl⟩⟩; refine ⟨_, rfl, ?_⟩) | ((with_reducible refine gate_callee (f := 45) rfl ?_); refine goesL_ (some 10) rfl rfl Try.func45 (by kernel_rfl) rfl #[.int .i64 a1] rfl (by (try simp only [List.map_toArray, List.map_cons, List.map_nil]); first | done | rfl | (simp only [List.length_drop, List.length_take]; rfl)) ?_; (with_reducible refine (cmp_isNaN_int.calls a1 false _ A4.out).mono ?_); rintro e w' ⟨rfl, ⟨nd, rfl⟩⟩; refine ⟨_, rfl, ?_⟩))
          go_ret
          exact ⟨by first | rfl | (simp; done) | (simp [*]; done), by repeat (first | exact Drawn0.refl _ | apply Drawn0.step)⟩

/-! ### slices_Compare_int_int: function 31 -/
def slices_Compare_int_int.l0 : Nat → List Int → List Int → List Int → Int → Int → Option (Int)
  | 0, _, _, _, _, _ => none
  | k + 1, x0, x1, x9, x10, x11 => if x11 < x10 then (if 0 ≤ x11 then (if x11 < (x9.length : Int) then (if x11 ≥ (x1.length : Int) then (some 1) else (if x11 < (x1.length : Int) then ((cmp_Compare_int.f (rd x9 x11) (rd x1 x11)).bind fun t544 => (if t544 = 0 then (slices_Compare_int_int.l0 k x0 x1 x9 x10 (wrap64 (x11 + 1))) else (some t544))) else (none))) else (none)) else (none)) else (if (x0.length : Int) < (x1.length : Int) then (some (-1)) else (some 0))
def slices_Compare_int_int.f (k : Nat) (l0 : List Int) (l1 : List Int) : Option (Int) := slices_Compare_int_int.l0 k l0 l1 l0 (l0.length : Int) 0
theorem slices_Compare_int_int.mono_l : ∀ k, (∀ y0 y1 y2 y3 y4, LeO (slices_Compare_int_int.l0 k y0 y1 y2 y3 y4) (slices_Compare_int_int.l0 (k + 1) y0 y1 y2 y3 y4))
  | 0 => fun _ _ _ _ _ r h => by simp [slices_Compare_int_int.l0] at h
  | k + 1 => by
    have ih0 := slices_Compare_int_int.mono_l k
    · intro y0 y1 y2 y3 y4
      unfold slices_Compare_int_int.l0
      repeat' first
      | (with_reducible exact ih0 _ _ _ _ _)
      | (with_reducible exact LeO.refl _)
      | (with_reducible exact LeO.none _)
      | (with_reducible refine LeO.ite ?_ ?_)
      | (with_reducible refine LeO.bind ?_ (fun _ => ?_))
      | exact ih0 _ _ _ _ _
      | exact LeO.none _
      | refine LeO.ite ?_ ?_
      | refine LeO.bind ?_ (fun _ => ?_)
theorem slices_Compare_int_int.mono : ∀ a0 a1 k, LeO (slices_Compare_int_int.f k a0 a1) (slices_Compare_int_int.f (k + 1) a0 a1) := by
  intro a0 a1 k
  have ih0 := slices_Compare_int_int.mono_l k
  unfold slices_Compare_int_int.f
  repeat' first
      | (with_reducible exact ih0 _ _ _ _ _)
      | (with_reducible exact LeO.refl _)
      | (with_reducible exact LeO.none _)
      | (with_reducible refine LeO.ite ?_ ?_)
      | (with_reducible refine LeO.bind ?_ (fun _ => ?_))
      | exact ih0 _ _ _ _ _
      | exact LeO.none _
      | refine LeO.ite ?_ ?_
      | refine LeO.bind ?_ (fun _ => ?_)
set_option maxHeartbeats 8000000 in
set_option maxRecDepth 100000 in
theorem slices_Compare_int_int.calls (k : Nat) (A0 : Option Addr) (c0 : Nat) (l0 : List Int) (A1 : Option Addr) (c1 : Nat) (l1 : List Int) (r : Int) (w : World) (hr0 : Kd.C (Kd.int .i64) w A0 l0.length l0) (hc0 : l0.length ≤ c0) (hr1 : Kd.C (Kd.int .i64) w A1 l1.length l1) (hc1 : l1.length ≤ c1) (h : slices_Compare_int_int.f k l0 l1 = some r) :
    Calls Try.prog 31 #[.slice A0 l0.length c0, .slice A1 l1.length c1] w fun e w' => e = .returned (.int .i64 r) ∧ Drawn0 w w' := by
  have HR0 := Aside0.mk hr0
  have HC0 := Aside0.mk hc0
  clear hr0 hc0
  have HR1 := Aside0.mk hr1
  have HC1 := Aside0.mk hc1
  clear hr1 hc1
  have H : (slices_Compare_int_int.l0 k l0 l1 l0 (l0.length : Int) 0) = some r := h
  clear h
  have H' := Aside0.mk H
  clear H
  go_enter Try.func31, Try.ntmps31
  go_wp2
  go_loopg [11] k (fun kq v11 w' => ∃ (x11_1 : Int), v11 = .int .i64 x11_1 ∧ Aside0 (slices_Compare_int_int.l0 kq l0 l1 l0 (l0.length : Int) x11_1 = some r) ∧ Aside0 (kq ≤ k) ∧ Drawn0 w w')
  case atStart => exact ⟨(0), (by first | rfl | (simp; done) | (simp [*]; done)), H', ⟨Nat.le_refl _⟩, by repeat (first | exact Drawn0.refl _ | apply Drawn0.step)⟩
  case round =>
    clear H'
    try clear c1
    try clear p2
    obtain ⟨x11_1, rfl, HA, HK1, ⟨m1, rfl⟩⟩ := hrel
    cases gk with
    | zero => exact absurd HA.out (by simp [slices_Compare_int_int.l0])
    | succ k1 =>
      have H := HA.out
      clear HA
      simp only [slices_Compare_int_int.l0] at H
      by_cases c3 : x11_1 < (l0.length : Int)
      · rw [if_pos c3] at H
        have c3b0 : decide (x11_1 < (l0.length : Int)) = true := decide_eq_true c3
        clear c3
        by_cases c4 : 0 ≤ x11_1
        · rw [if_pos c4] at H
          have c4b0 : decide (0 ≤ x11_1) = true := decide_eq_true c4
          clear c4
          by_cases c5 : x11_1 < (l0.length : Int)
          · rw [if_pos c5] at H
            have c5b0 : decide (x11_1 < (l0.length : Int)) = true := decide_eq_true c5
            clear c5
            by_cases c6 : x11_1 ≥ (l1.length : Int)
            · rw [if_pos c6] at H
              have c6b0 : decide ((l1.length : Int) ≤ x11_1) = true := decide_eq_true c6
              clear c6
              obtain rfl := Option.some.inj H
              have p542 : 0 ≤ (x11_1 : Int) := of_decide_eq_true (by first | (with_reducible assumption) | assumption)
              have q542 : x11_1 < (l0.length : Int) := of_decide_eq_true (by first | (with_reducible assumption) | assumption)
              obtain ⟨ad542, e542, hx542_0⟩ := Kd.at_int HR0.out x11_1 p542 q542
              cases e542
              replace p542 := eq_true p542
              replace q542 := eq_true q542
              go_wp2
              go_ret
              exact ⟨by first | rfl | (simp; done) | (simp [*]; done), by repeat (first | exact Drawn0.refl _ | apply Drawn0.step)⟩
            · rw [if_neg c6] at H
              have c6b0 : decide ((l1.length : Int) ≤ x11_1) = false := decide_eq_false c6
              clear c6
              by_cases c7 : x11_1 < (l1.length : Int)
              · rw [if_pos c7] at H
                have c7b0 : decide (x11_1 < (l1.length : Int)) = true := decide_eq_true c7
                clear c7
                replace H := Option.bind_eq_some_iff.mp H
                obtain ⟨t544, A80, H⟩ := H
                replace H : (if t544 = 0 then (slices_Compare_int_int.l0 k1 l0 l1 l0 (l0.length : Int) (wrap64 (x11_1 + 1))) else (some t544)) = some r := H
                have A8 := Aside0.mk A80
                clear A80
                by_cases c9 : t544 = 0
                · rw [if_pos c9] at H
                  have c9b0 : (t544 == 0) = true := beq_iff_eq.mpr c9
                  have c9b1 : (t544 != 0) = false := bne_eq_false_iff_eq.mpr c9
                  clear c9
                  have H' := Aside0.mk H
                  clear H
                  have p542 : 0 ≤ (x11_1 : Int) := of_decide_eq_true (by first | (with_reducible assumption) | assumption)
                  have q542 : x11_1 < (l0.length : Int) := of_decide_eq_true (by first | (with_reducible assumption) | assumption)
                  obtain ⟨ad542, e542, hx542_0⟩ := Kd.at_int HR0.out x11_1 p542 q542
                  cases e542
                  replace p542 := eq_true p542
                  replace q542 := eq_true q542
                  have p543 : 0 ≤ (x11_1 : Int) := of_decide_eq_true (by first | (with_reducible assumption) | assumption)
                  have q543 : x11_1 < (l1.length : Int) := of_decide_eq_true (by first | (with_reducible assumption) | assumption)
                  obtain ⟨ad543, e543, hx543_0⟩ := Kd.at_int HR1.out x11_1 p543 q543
                  cases e543
                  replace p543 := eq_true p543
                  replace q543 := eq_true q543
                  go_wp2_with (first | ((with_reducible refine gate_callee (f := 43) rfl ?_); refine goesL_ (some 26) rfl rfl Try.func43 (by kernel_rfl) rfl #[.int .i64 (rd l0 x11_1), .int .i64 (rd l1 x11_1)] rfl (by (try simp only [List.map_toArray, List.map_cons, List.map_nil]); first | done | rfl | (simp only [List.length_drop, List.length_take]; rfl)) ?_; (with_reducible refine (cmp_Compare_int.calls (rd l0 x11_1) (rd l1 x11_1) t544 _ A8.out).mono ?_); rintro e w' ⟨rfl, ⟨nd, rfl⟩⟩; refine ⟨_, rfl, ?_⟩))
                  go_roundg k1
                  case measure => have := HK1.out; omega
                  case rel => exact ⟨(wrap64 (x11_1 + 1)), (by first | rfl | (simp; done) | (simp [*]; done)), H', ⟨by have := HK1.out; omega⟩, by repeat (first | exact Drawn0.refl _ | apply Drawn0.step)⟩
                · rw [if_neg c9] at H
                  have c9b0 : (t544 == 0) = false := beq_eq_false_iff_ne.mpr c9
                  have c9b1 : (t544 != 0) = true := bne_iff_ne.mpr c9
                  obtain rfl := Option.some.inj H
                  have p542 : 0 ≤ (x11_1 : Int) := of_decide_eq_true (by first | (with_reducible assumption) | assumption)
                  have q542 : x11_1 < (l0.length : Int) := of_decide_eq_true (by first | (with_reducible assumption) | assumption)
                  obtain ⟨ad542, e542, hx542_0⟩ := Kd.at_int HR0.out x11_1 p542 q542
                  cases e542
                  replace p542 := eq_true p542
                  replace q542 := eq_true q542
                  have p543 : 0 ≤ (x11_1 : Int) := of_decide_eq_true (by first | (with_reducible assumption) | assumption)
                  have q543 : x11_1 < (l1.length : Int) := of_decide_eq_true (by first | (with_reducible assumption) | assumption)
                  obtain ⟨ad543, e543, hx543_0⟩ := Kd.at_int HR1.out x11_1 p543 q543
                  cases e543
                  replace p543 := eq_true p543
                  replace q543 := eq_true q543
                  go_wp2_with (first | ((with_reducible refine gate_callee (f := 43) rfl ?_); refine goesL_ (some 26) rfl rfl Try.func43 (by kernel_rfl) rfl #[.int .i64 (rd l0 x11_1), .int .i64 (rd l1 x11_1)] rfl (by (try simp only [List.map_toArray, List.map_cons, List.map_nil]); first | done | rfl | (simp only [List.length_drop, List.length_take]; rfl)) ?_; (with_reducible refine (cmp_Compare_int.calls (rd l0 x11_1) (rd l1 x11_1) t544 _ A8.out).mono ?_); rintro e w' ⟨rfl, ⟨nd, rfl⟩⟩; refine ⟨_, rfl, ?_⟩))
                  go_ret
                  exact ⟨by first | rfl | (simp; done) | (simp [*]; done), by repeat (first | exact Drawn0.refl _ | apply Drawn0.step)⟩
              · rw [if_neg c7] at H
                exact absurd H (by simp)
          · rw [if_neg c5] at H
            exact absurd H (by simp)
        · rw [if_neg c4] at H
          exact absurd H (by simp)
      · rw [if_neg c3] at H
        have c3b0 : decide (x11_1 < (l0.length : Int)) = false := decide_eq_false c3
        clear c3
        by_cases c10 : (l0.length : Int) < (l1.length : Int)
        · rw [if_pos c10] at H
          have c10b0 : decide ((l0.length : Int) < (l1.length : Int)) = true := decide_eq_true c10
          have c10b1 : decide (l0.length < l1.length) = true := decide_eq_true (Int.ofNat_lt.mp c10)
          clear c10
          obtain rfl := Option.some.inj H
          go_wp2
          go_ret
          exact ⟨by first | rfl | (simp; done) | (simp [*]; done), by repeat (first | exact Drawn0.refl _ | apply Drawn0.step)⟩
        · rw [if_neg c10] at H
          have c10b0 : decide ((l0.length : Int) < (l1.length : Int)) = false := decide_eq_false c10
          have c10b1 : decide (l0.length < l1.length) = false := decide_eq_false (fun h => c10 (Int.ofNat_lt.mpr h))
          clear c10
          obtain rfl := Option.some.inj H
          go_wp2
          go_ret
          exact ⟨by first | rfl | (simp; done) | (simp [*]; done), by repeat (first | exact Drawn0.refl _ | apply Drawn0.step)⟩

end Go.Proofs.Ytjkgjlaockihaaa.P
