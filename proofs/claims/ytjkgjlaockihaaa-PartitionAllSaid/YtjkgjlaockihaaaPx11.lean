-- Written by wip/drive.py of this session's repo over the kit's print.py (with contracts of the session's own): not the print's own text
import Derived.Test.YtjkgjlaockihaaaPx0
import Derived.Test.YtjkgjlaockihaaaPx1
namespace Go.Proofs.Ytjkgjlaockihaaa.P
open Go.RowKit Go.Proofs.YtjkgjlaockihaaaW.PrintWords Go.Proofs.YtjkgjlaockihaaaW.PrintLast Go.Proofs.YtjkgjlaockihaaaW.PrintMore
attribute [local go_sem] max2_int min2_int max_two min_two max_three min_three max_four min_four   -- for this text's walks alone
set_option linter.unusedVariables false
set_option linter.unusedSimpArgs false

/-! ### partition_one: function 39 -/
def partition_one.f (k : Nat) (l0 : List Int) : Option (Int) := if (l0.length : Int) > 80 then (some 3) else ((partition_right.f k l0).bind fun t408 => (if t408 = true then (some 0) else (some 1)))
theorem partition_one.mono : ∀ a0 k, LeO (partition_one.f k a0) (partition_one.f (k + 1) a0) := by
  intro a0 k
  unfold partition_one.f
  repeat' first
      | (with_reducible exact partition_right.mono _ _)
      | (with_reducible exact LeO.refl _)
      | (with_reducible exact LeO.none _)
      | (with_reducible refine LeO.ite ?_ ?_)
      | (with_reducible refine LeO.bind ?_ (fun _ => ?_))
      | exact partition_right.mono _ _
      | exact LeO.none _
      | refine LeO.ite ?_ ?_
      | refine LeO.bind ?_ (fun _ => ?_)
set_option maxHeartbeats 8000000 in
set_option maxRecDepth 100000 in
theorem partition_one.calls (k : Nat) (A0 : Option Addr) (c0 : Nat) (l0 : List Int) (r : Int) (w : World) (hr0 : Kd.C (Kd.int .i64) w A0 l0.length l0) (hc0 : l0.length ≤ c0) (h : partition_one.f k l0 = some r) :
    Calls Try.prog 39 #[.slice A0 l0.length c0] w fun e w' => e = .returned (.int .i64 r) ∧ Drawn0 w w' := by
  have HR0 := Aside0.mk hr0
  have HC0 := Aside0.mk hc0
  clear hr0 hc0
  have H : (if (l0.length : Int) > 80 then (some 3) else ((partition_right.f k l0).bind fun t408 => (if t408 = true then (some 0) else (some 1)))) = some r := h
  clear h
  by_cases c2 : (l0.length : Int) > 80
  · rw [if_pos c2] at H
    have c2b0 : decide (80 < (l0.length : Int)) = true := decide_eq_true c2
    have c2b1 : decide (80 < l0.length) = true := decide_eq_true (by omega)
    clear c2
    obtain rfl := Option.some.inj H
    go_enter Try.func39, Try.ntmps39
    go_wp2
    go_ret
    exact ⟨by first | rfl | (simp; done) | (simp [*]; done), by repeat (first | exact Drawn0.refl _ | apply Drawn0.step)⟩
  · rw [if_neg c2] at H
    have c2b0 : decide (80 < (l0.length : Int)) = false := decide_eq_false c2
    have c2b1 : decide (80 < l0.length) = false := decide_eq_false (by omega)
    clear c2
    replace H := Option.bind_eq_some_iff.mp H
    obtain ⟨t408, A30, H⟩ := H
    replace H : (if t408 = true then (some 0) else (some 1)) = some r := H
    have A3 := Aside0.mk A30
    clear A30
    by_cases c4 : t408 = true
    · subst c4
      have H1 : (some 0) = some r := by rw [if_pos rfl] at H; exact H
      clear H
      have H := H1
      clear H1
      obtain rfl := Option.some.inj H
      go_enter Try.func39, Try.ntmps39
      go_wp2_with (first | ((with_reducible refine gate_callee (f := 41) rfl ?_); refine goesL_ (some 7) rfl rfl Try.func41 (by kernel_rfl) rfl #[.slice A0 l0.length c0] rfl (by (try simp only [List.map_toArray, List.map_cons, List.map_nil]); first | done | rfl | (simp only [List.length_drop, List.length_take]; rfl)) ?_; (with_reducible refine (partition_right.calls k _ _ l0 true _ ?side1 ?side2 A3.out).mono ?_); (case side1 => repeat (first | exact HR0.out | (with_reducible refine Kd.C_alloc ?_ _) | (with_reducible refine Kd.C_drewN ?_ _) | (with_reducible refine Kd.C_drew ?_))); (case side2 => exact HC0.out); rintro e w' ⟨rfl, ⟨nd, rfl⟩⟩; refine ⟨_, rfl, ?_⟩))
      go_ret
      exact ⟨by first | rfl | (simp; done) | (simp [*]; done), by repeat (first | exact Drawn0.refl _ | apply Drawn0.step)⟩
    · replace c4 := Bool.eq_false_iff.mpr c4
      subst c4
      have H1 : (some 1) = some r := by rw [if_neg (show ¬ (false = true) by decide)] at H; exact H
      clear H
      have H := H1
      clear H1
      obtain rfl := Option.some.inj H
      go_enter Try.func39, Try.ntmps39
      go_wp2_with (first | ((with_reducible refine gate_callee (f := 41) rfl ?_); refine goesL_ (some 7) rfl rfl Try.func41 (by kernel_rfl) rfl #[.slice A0 l0.length c0] rfl (by (try simp only [List.map_toArray, List.map_cons, List.map_nil]); first | done | rfl | (simp only [List.length_drop, List.length_take]; rfl)) ?_; (with_reducible refine (partition_right.calls k _ _ l0 false _ ?side1 ?side2 A3.out).mono ?_); (case side1 => repeat (first | exact HR0.out | (with_reducible refine Kd.C_alloc ?_ _) | (with_reducible refine Kd.C_drewN ?_ _) | (with_reducible refine Kd.C_drew ?_))); (case side2 => exact HC0.out); rintro e w' ⟨rfl, ⟨nd, rfl⟩⟩; refine ⟨_, rfl, ?_⟩))
      go_ret
      exact ⟨by first | rfl | (simp; done) | (simp [*]; done), by repeat (first | exact Drawn0.refl _ | apply Drawn0.step)⟩

/-! ### partition_Quotient: function 22 -/
def partition_Quotient.l0 : Nat → List Int → Int → List Int → Int → Int → Option (List Int × Int × Int)
  | 0, _, _, _, _, _ => none
  | k + 1, x6, x7, x15, x16, x17 => if x17 < x16 then (if 0 ≤ x17 then (if x17 < (x15.length : Int) then (if (rd x15 x17) = x17 then (if x6.length < 17592186044416 then (partition_Quotient.l0 k (x6 ++ [x7]) (wrap64 (x7 + 1)) x15 x16 (wrap64 (x17 + 1))) else (none)) else (if 0 ≤ (rd x15 x17) then (if (rd x15 x17) < (x6.length : Int) then (if x6.length < 17592186044416 then (partition_Quotient.l0 k (x6 ++ [rd x6 (rd x15 x17)]) x7 x15 x16 (wrap64 (x17 + 1))) else (none)) else (none)) else (none))) else (none)) else (none)) else (some (x6, x7, 0))
def partition_Quotient.f (k : Nat) (l0 : List Int) : Option (List Int × Int × Int) := (partition_one.f k l0).bind fun t409 => (if t409 = 0 then (partition_Quotient.l0 k ([] : List Int) 0 l0 (l0.length : Int) 0) else (some (([] : List Int), 0, t409)))
theorem partition_Quotient.mono_l : ∀ k, (∀ y0 y1 y2 y3 y4, LeO (partition_Quotient.l0 k y0 y1 y2 y3 y4) (partition_Quotient.l0 (k + 1) y0 y1 y2 y3 y4))
  | 0 => fun _ _ _ _ _ r h => by simp [partition_Quotient.l0] at h
  | k + 1 => by
    have ih0 := partition_Quotient.mono_l k
    · intro y0 y1 y2 y3 y4
      unfold partition_Quotient.l0
      repeat' first
      | (with_reducible exact ih0 _ _ _ _ _)
      | (with_reducible exact partition_one.mono _ _)
      | (with_reducible exact LeO.refl _)
      | (with_reducible exact LeO.none _)
      | (with_reducible refine LeO.ite ?_ ?_)
      | (with_reducible refine LeO.bind ?_ (fun _ => ?_))
      | exact ih0 _ _ _ _ _
      | exact partition_one.mono _ _
      | exact LeO.none _
      | refine LeO.ite ?_ ?_
      | refine LeO.bind ?_ (fun _ => ?_)
theorem partition_Quotient.mono : ∀ a0 k, LeO (partition_Quotient.f k a0) (partition_Quotient.f (k + 1) a0) := by
  intro a0 k
  have ih0 := partition_Quotient.mono_l k
  unfold partition_Quotient.f
  repeat' first
      | (with_reducible exact ih0 _ _ _ _ _)
      | (with_reducible exact partition_one.mono _ _)
      | (with_reducible exact LeO.refl _)
      | (with_reducible exact LeO.none _)
      | (with_reducible refine LeO.ite ?_ ?_)
      | (with_reducible refine LeO.bind ?_ (fun _ => ?_))
      | exact ih0 _ _ _ _ _
      | exact partition_one.mono _ _
      | exact LeO.none _
      | refine LeO.ite ?_ ?_
      | refine LeO.bind ?_ (fun _ => ?_)
set_option maxHeartbeats 8000000 in
set_option maxRecDepth 100000 in
theorem partition_Quotient.calls (k : Nat) (A0 : Option Addr) (c0 : Nat) (l0 : List Int) (r1 : List Int) (r2 : Int) (r3 : Int) (w : World) (hr0 : Kd.C (Kd.int .i64) w A0 l0.length l0) (hc0 : l0.length ≤ c0) (h : partition_Quotient.f k l0 = some (r1, r2, r3)) :
    Calls Try.prog 22 #[.slice A0 l0.length c0] w fun e w' => ∃ v0_ : Value, e = .returned (.tuple #[v0_, .int .i64 r2, .int .i64 r3]) ∧ Kd.R (Kd.int .i64) 3 w' w.heap.size (fun _ => True) v0_ r1 ∧ Below w.heap.size w w' := by
  have HR0 := Aside0.mk hr0
  have HC0 := Aside0.mk hc0
  clear hr0 hc0
  have HB := Aside0.mk (Below.refl w.heap.size w)
  have H : ((partition_one.f k l0).bind fun t409 => (if t409 = 0 then (partition_Quotient.l0 k ([] : List Int) 0 l0 (l0.length : Int) 0) else (some (([] : List Int), 0, t409)))) = some (r1, r2, r3) := h
  clear h
  replace H := Option.bind_eq_some_iff.mp H
  obtain ⟨t409, A20, H⟩ := H
  replace H : (if t409 = 0 then (partition_Quotient.l0 k ([] : List Int) 0 l0 (l0.length : Int) 0) else (some (([] : List Int), 0, t409))) = some (r1, r2, r3) := H
  have A2 := Aside0.mk A20
  clear A20
  by_cases c3 : t409 = 0
  · rw [if_pos c3] at H
    have c3b0 : (t409 == 0) = true := beq_iff_eq.mpr c3
    have c3b1 : (t409 != 0) = false := bne_eq_false_iff_eq.mpr c3
    clear c3
    have H' := Aside0.mk H
    clear H
    go_enter Try.func22, Try.ntmps22
    go_wp2_with (first | ((with_reducible refine gate_callee (f := 39) rfl ?_); refine goesL_ (some 11) rfl rfl Try.func39 (by kernel_rfl) rfl #[.slice A0 l0.length c0] rfl (by (try simp only [List.map_toArray, List.map_cons, List.map_nil]); first | done | rfl | (simp only [List.length_drop, List.length_take]; rfl)) ?_; (with_reducible refine (partition_one.calls k _ _ l0 t409 _ ?side1 ?side2 A2.out).mono ?_); (case side1 => repeat (first | exact HR0.out | (with_reducible refine Kd.C_alloc ?_ _) | (with_reducible refine Kd.C_drewN ?_ _) | (with_reducible refine Kd.C_drew ?_))); (case side2 => exact HC0.out); rintro e w' ⟨rfl, ⟨nd, rfl⟩⟩; refine ⟨_, rfl, ?_⟩))
    go_loopg [6, 7, 17] k (fun kq v6 v7 v17 w' => ∃ (x6_1 : List Int) (x7_1 : Int) (x17_1 : Int), v7 = .int .i64 x7_1 ∧ v17 = .int .i64 x17_1 ∧ Aside0 (partition_Quotient.l0 kq x6_1 x7_1 l0 (l0.length : Int) x17_1 = some (r1, r2, r3)) ∧ Aside0 (kq ≤ k) ∧ Aside0 (Kd.R (Kd.int .i64) 3 w' w.heap.size (fun _ => True) v6 x6_1) ∧ Aside0 (Below w.heap.size w w'))
    case atStart => exact ⟨(([] : List Int)), (0), (0), (by first | rfl | (simp; done) | (simp [*]; done)), (by first | rfl | (simp; done) | (simp [*]; done)), H', ⟨Nat.le_refl _⟩, ⟨by first | exact Kd.R_nil _ _ _ _ _ | exact Kd.N_nil _ _ _ _ _ | exact Kd.V_nil _ _ _ _ _ | exact Kd.Q_nil _ _ _ _ _ | exact Kd.S_nil _ _ _ _ _⟩, ⟨by repeat (first | (with_reducible first | exact HB.out | apply below_alloc | apply pw_below_drewN | apply below_drew1) | exact HB.out)⟩⟩
    case round =>
      clear H'
      try clear c2
      try clear p2
      try clear c3
      try clear c3b0
      try clear c3b1
      obtain ⟨x6_1, x7_1, x17_1, rfl, rfl, HA, HK1, HO_6, HB⟩ := hrel
      cases gk with
      | zero => exact absurd HA.out (by simp [partition_Quotient.l0])
      | succ k1 =>
        have H := HA.out
        clear HA
        simp only [partition_Quotient.l0] at H
        by_cases c4 : x17_1 < (l0.length : Int)
        · rw [if_pos c4] at H
          have c4b0 : decide (x17_1 < (l0.length : Int)) = true := decide_eq_true c4
          clear c4
          by_cases c5 : 0 ≤ x17_1
          · rw [if_pos c5] at H
            have c5b0 : decide (0 ≤ x17_1) = true := decide_eq_true c5
            clear c5
            by_cases c6 : x17_1 < (l0.length : Int)
            · rw [if_pos c6] at H
              have c6b0 : decide (x17_1 < (l0.length : Int)) = true := decide_eq_true c6
              clear c6
              by_cases c7 : (rd l0 x17_1) = x17_1
              · rw [if_pos c7] at H
                have c7b0 : ((rd l0 x17_1) == x17_1) = true := beq_iff_eq.mpr c7
                have c7b1 : ((rd l0 x17_1) != x17_1) = false := bne_eq_false_iff_eq.mpr c7
                clear c7
                by_cases c8 : x6_1.length < 17592186044416
                · rw [if_pos c8] at H
                  have LMc8 := Aside0.mk c8
                  clear c8
                  obtain ⟨y411, hy411⟩ : ∃ y_ : List Int, y_ = (x6_1 ++ [x7_1]) := ⟨_, rfl⟩
                  replace H : (partition_Quotient.l0 k1 y411 (wrap64 (x7_1 + 1)) l0 (l0.length : Int) (wrap64 (x17_1 + 1))) = some (r1, r2, r3) := by first | (rw [hy411]; with_reducible exact H) | (have H2_ := (Option.bind_some _ _).symm.trans H; rw [hy411]; with_reducible exact H2_) | (have H2_ := (Option.bind_some _ _).symm.trans H; with_reducible exact H2_) | with_reducible exact H | (rw [hy411]; exact H) | exact H
                  have Ny411 := Aside0.mk hy411
                  clear hy411
                  have H' := Aside0.mk H
                  clear H
                  have p410 : 0 ≤ (x17_1 : Int) := of_decide_eq_true (by first | (with_reducible assumption) | assumption)
                  have q410 : x17_1 < (l0.length : Int) := of_decide_eq_true (by first | (with_reducible assumption) | assumption)
                  obtain ⟨ad410, e410, hx410_0⟩ := Kd.at_int HR0.out x17_1 p410 q410
                  cases e410
                  (try replace hx410_0 := (HB.out.cell (World.block_lt_of_cell? w _ hx410_0)).trans hx410_0)
                  replace p410 := eq_true p410
                  replace q410 := eq_true q410
                  go_wp2_with (first | ((with_reducible refine gate_builtin (b := .append) (xs := #[.tmp 25, .tmp 27]) rfl ?_); at_builtin; refine Kd.R_append (Kd.int .i64) (w0 := w) w.heap.size rfl (.tmp 25) (.tmp 27) 28 3 (.int .i64 0) 8 rfl Try.underlying28 info3 rfl (by decide) (by omega) u6 x6_1 x7_1 [.int .i64 x7_1] (fun _ => True) (fun _ => False) rfl rfl ?aP (fun _ hk => hk.elim) ?aF ?aO ?aB ?aS ?aL ?_; (case aP => exact rfl); (case aB => exact (by repeat (first | (with_reducible first | exact HB.out | apply below_alloc | apply pw_below_drewN | apply below_drew1) | exact HB.out))); (case aF => exact (fun _ _ => trivial)); (case aO => exact (by (with_reducible repeat (first | apply Kd.R_alloc | apply Kd.R_drewN | apply Kd.R_drew)); exact HO_6.out)); (case aS => exact (below_size (by repeat (first | (with_reducible first | exact HB.out | apply below_alloc | apply pw_below_drewN | apply below_drew1) | exact HB.out)))); (case aL => have := LMc8.out; omega); intro v412 w9 ho hb hg hat; rw [← Ny411.out] at ho; have n0_ := Aside0.mk (hb); have n1_ := Aside0.mk (ho); clear HB; clear HO_6; have HB := n0_; have HO413 := n1_; clear n0_ n1_; clear ho hb hg hat))
                  go_roundg k1
                  case measure => have := HK1.out; omega
                  case rel => exact ⟨(y411), (wrap64 (x7_1 + 1)), (wrap64 (x17_1 + 1)), (by first | rfl | (simp; done) | (simp [*]; done)), (by first | rfl | (simp; done) | (simp [*]; done)), H', ⟨by have := HK1.out; omega⟩, ⟨by (with_reducible repeat (first | apply Kd.R_alloc | apply Kd.R_drewN | apply Kd.R_drew)); exact HO413.out⟩, ⟨by repeat (first | (with_reducible first | exact HB.out | apply below_alloc | apply pw_below_drewN | apply below_drew1) | exact HB.out)⟩⟩
                · rw [if_neg c8] at H
                  exact absurd H (by simp)
              · rw [if_neg c7] at H
                have c7b0 : ((rd l0 x17_1) == x17_1) = false := beq_eq_false_iff_ne.mpr c7
                have c7b1 : ((rd l0 x17_1) != x17_1) = true := bne_iff_ne.mpr c7
                by_cases c10 : 0 ≤ (rd l0 x17_1)
                · rw [if_pos c10] at H
                  have c10b0 : decide (0 ≤ (rd l0 x17_1)) = true := decide_eq_true c10
                  clear c10
                  by_cases c11 : (rd l0 x17_1) < (x6_1.length : Int)
                  · rw [if_pos c11] at H
                    have c11b0 : decide ((rd l0 x17_1) < (x6_1.length : Int)) = true := decide_eq_true c11
                    clear c11
                    by_cases c12 : x6_1.length < 17592186044416
                    · rw [if_pos c12] at H
                      have LMc12 := Aside0.mk c12
                      clear c12
                      obtain ⟨y415, hy415⟩ : ∃ y_ : List Int, y_ = (x6_1 ++ [rd x6_1 (rd l0 x17_1)]) := ⟨_, rfl⟩
                      replace H : (partition_Quotient.l0 k1 y415 x7_1 l0 (l0.length : Int) (wrap64 (x17_1 + 1))) = some (r1, r2, r3) := by first | (rw [hy415]; with_reducible exact H) | (have H2_ := (Option.bind_some _ _).symm.trans H; rw [hy415]; with_reducible exact H2_) | (have H2_ := (Option.bind_some _ _).symm.trans H; with_reducible exact H2_) | with_reducible exact H | (rw [hy415]; exact H) | exact H
                      have Ny415 := Aside0.mk hy415
                      clear hy415
                      have H' := Aside0.mk H
                      clear H
                      have p410 : 0 ≤ (x17_1 : Int) := of_decide_eq_true (by first | (with_reducible assumption) | assumption)
                      have q410 : x17_1 < (l0.length : Int) := of_decide_eq_true (by first | (with_reducible assumption) | assumption)
                      obtain ⟨ad410, e410, hx410_0⟩ := Kd.at_int HR0.out x17_1 p410 q410
                      cases e410
                      (try replace hx410_0 := (HB.out.cell (World.block_lt_of_cell? w _ hx410_0)).trans hx410_0)
                      replace p410 := eq_true p410
                      replace q410 := eq_true q410
                      obtain ⟨Ao13, co13, eo13⟩ := Kd.R_slice HO_6.out
                      subst eo13
                      have p414 : 0 ≤ ((rd l0 x17_1) : Int) := of_decide_eq_true (by first | (with_reducible assumption) | assumption)
                      have q414 : (rd l0 x17_1) < (x6_1.length : Int) := of_decide_eq_true (by first | (with_reducible assumption) | assumption)
                      obtain ⟨ad414, e414, hx414_0⟩ := Kd.at_int (Kd.R_reads' HO_6.out).2.2 (rd l0 x17_1) p414 q414
                      cases e414
                      replace p414 := eq_true p414
                      replace q414 := eq_true q414
                      go_wp2_with (first | ((with_reducible refine gate_builtin (b := .append) (xs := #[.tmp 31, .tmp 36]) rfl ?_); at_builtin; refine Kd.R_append (Kd.int .i64) (w0 := w) w.heap.size rfl (.tmp 31) (.tmp 36) 28 3 (.int .i64 0) 8 rfl Try.underlying28 info3 rfl (by decide) (by omega) (.slice (some ad414) x6_1.length co13) x6_1 (rd x6_1 (rd l0 x17_1)) [.int .i64 (rd x6_1 (rd l0 x17_1))] (fun _ => True) (fun _ => False) rfl rfl ?aP (fun _ hk => hk.elim) ?aF ?aO ?aB ?aS ?aL ?_; (case aP => exact rfl); (case aB => exact (by repeat (first | (with_reducible first | exact HB.out | apply below_alloc | apply pw_below_drewN | apply below_drew1) | exact HB.out))); (case aF => exact (fun _ _ => trivial)); (case aO => exact (by (with_reducible repeat (first | apply Kd.R_alloc | apply Kd.R_drewN | apply Kd.R_drew)); exact HO_6.out)); (case aS => exact (below_size (by repeat (first | (with_reducible first | exact HB.out | apply below_alloc | apply pw_below_drewN | apply below_drew1) | exact HB.out)))); (case aL => have := LMc12.out; omega); intro v416 w14 ho hb hg hat; rw [← Ny415.out] at ho; have n0_ := Aside0.mk (hb); have n1_ := Aside0.mk (ho); clear HB; clear HO_6; have HB := n0_; have HO417 := n1_; clear n0_ n1_; clear ho hb hg hat))
                      go_roundg k1
                      case measure => have := HK1.out; omega
                      case rel => exact ⟨(y415), (x7_1), (wrap64 (x17_1 + 1)), (by first | rfl | (simp; done) | (simp [*]; done)), (by first | rfl | (simp; done) | (simp [*]; done)), H', ⟨by have := HK1.out; omega⟩, ⟨by (with_reducible repeat (first | apply Kd.R_alloc | apply Kd.R_drewN | apply Kd.R_drew)); exact HO417.out⟩, ⟨by repeat (first | (with_reducible first | exact HB.out | apply below_alloc | apply pw_below_drewN | apply below_drew1) | exact HB.out)⟩⟩
                    · rw [if_neg c12] at H
                      exact absurd H (by simp)
                  · rw [if_neg c11] at H
                    exact absurd H (by simp)
                · rw [if_neg c10] at H
                  exact absurd H (by simp)
            · rw [if_neg c6] at H
              exact absurd H (by simp)
          · rw [if_neg c5] at H
            exact absurd H (by simp)
        · rw [if_neg c4] at H
          have c4b0 : decide (x17_1 < (l0.length : Int)) = false := decide_eq_false c4
          clear c4
          simp only [Option.some.injEq, Prod.mk.injEq] at H
          obtain ⟨rfl, rfl, rfl⟩ := H
          go_wp2
          go_ret3
          exact ⟨_, by first | rfl | (simp [errW_none, errW_some] <;> rfl) | (simp [*, errW_none, errW_some] <;> rfl), by (with_reducible repeat (first | apply Kd.R_alloc | apply Kd.R_drewN | apply Kd.R_drew)); exact HO_6.out, by repeat (first | (with_reducible first | exact HB.out | apply below_alloc | apply pw_below_drewN | apply below_drew1) | exact HB.out)⟩
  · rw [if_neg c3] at H
    have c3b0 : (t409 == 0) = false := beq_eq_false_iff_ne.mpr c3
    have c3b1 : (t409 != 0) = true := bne_iff_ne.mpr c3
    simp only [Option.some.injEq, Prod.mk.injEq] at H
    obtain ⟨rfl, rfl, rfl⟩ := H
    go_enter Try.func22, Try.ntmps22
    go_wp2_with (first | ((with_reducible refine gate_callee (f := 39) rfl ?_); refine goesL_ (some 11) rfl rfl Try.func39 (by kernel_rfl) rfl #[.slice A0 l0.length c0] rfl (by (try simp only [List.map_toArray, List.map_cons, List.map_nil]); first | done | rfl | (simp only [List.length_drop, List.length_take]; rfl)) ?_; (with_reducible refine (partition_one.calls k _ _ l0 t409 _ ?side1 ?side2 A2.out).mono ?_); (case side1 => repeat (first | exact HR0.out | (with_reducible refine Kd.C_alloc ?_ _) | (with_reducible refine Kd.C_drewN ?_ _) | (with_reducible refine Kd.C_drew ?_))); (case side2 => exact HC0.out); rintro e w' ⟨rfl, ⟨nd, rfl⟩⟩; refine ⟨_, rfl, ?_⟩))
    go_ret3
    exact ⟨_, by first | rfl | (simp [errW_none, errW_some] <;> rfl) | (simp [*, errW_none, errW_some] <;> rfl), by first | exact Kd.R_nil _ _ _ _ _ | exact Kd.N_nil _ _ _ _ _ | exact Kd.V_nil _ _ _ _ _ | exact Kd.Q_nil _ _ _ _ _ | exact Kd.S_nil _ _ _ _ _, by repeat (first | (with_reducible first | exact HB.out | apply below_alloc | apply pw_below_drewN | apply below_drew1) | exact HB.out)⟩

/-! ### partition_Classes: function 23 -/
def partition_Classes.l0 : Nat → List (List Int) → List Int → Int → Int → Option ((List (List Int)) × Int)
  | 0, _, _, _, _ => none
  | k + 1, x7, x21, x22, x23 => if x23 < x22 then (if 0 ≤ x23 then (if x23 < (x21.length : Int) then (if 0 ≤ (rd x21 x23) then (if (rd x21 x23) < (x7.length : Int) then (if (rd_L2 x7 (rd x21 x23)).length < 17592186044416 then (partition_Classes.l0 k (x7.set ((rd x21 x23) : Int).toNat ((rd_L2 x7 (rd x21 x23)) ++ [x23])) x21 x22 (wrap64 (x23 + 1))) else (none)) else (none)) else (none)) else (none)) else (none)) else (some (x7, 0))
def partition_Classes.f (k : Nat) (l0 : List Int) : Option ((List (List Int)) × Int) := (partition_Quotient.f k l0).bind fun bt418 => (if bt418.2.2 = 0 then (if 0 ≤ bt418.2.1 then (if (bt418.2.1 : Int).toNat ≤ 11728124029610 then (partition_Classes.l0 k (List.replicate (bt418.2.1 : Int).toNat []) bt418.1 (bt418.1.length : Int) 0) else (none)) else (none)) else (some (([] : List (List Int)), bt418.2.2)))
theorem partition_Classes.mono_l : ∀ k, (∀ y0 y1 y2 y3, LeO (partition_Classes.l0 k y0 y1 y2 y3) (partition_Classes.l0 (k + 1) y0 y1 y2 y3))
  | 0 => fun _ _ _ _ r h => by simp [partition_Classes.l0] at h
  | k + 1 => by
    have ih0 := partition_Classes.mono_l k
    · intro y0 y1 y2 y3
      unfold partition_Classes.l0
      repeat' first
      | (with_reducible exact ih0 _ _ _ _)
      | (with_reducible exact partition_Quotient.mono _ _)
      | (with_reducible exact LeO.refl _)
      | (with_reducible exact LeO.none _)
      | (with_reducible refine LeO.ite ?_ ?_)
      | (with_reducible refine LeO.bind ?_ (fun _ => ?_))
      | exact ih0 _ _ _ _
      | exact partition_Quotient.mono _ _
      | exact LeO.none _
      | refine LeO.ite ?_ ?_
      | refine LeO.bind ?_ (fun _ => ?_)
theorem partition_Classes.mono : ∀ a0 k, LeO (partition_Classes.f k a0) (partition_Classes.f (k + 1) a0) := by
  intro a0 k
  have ih0 := partition_Classes.mono_l k
  unfold partition_Classes.f
  repeat' first
      | (with_reducible exact ih0 _ _ _ _)
      | (with_reducible exact partition_Quotient.mono _ _)
      | (with_reducible exact LeO.refl _)
      | (with_reducible exact LeO.none _)
      | (with_reducible refine LeO.ite ?_ ?_)
      | (with_reducible refine LeO.bind ?_ (fun _ => ?_))
      | exact ih0 _ _ _ _
      | exact partition_Quotient.mono _ _
      | exact LeO.none _
      | refine LeO.ite ?_ ?_
      | refine LeO.bind ?_ (fun _ => ?_)
set_option maxHeartbeats 8000000 in
set_option maxRecDepth 100000 in
theorem partition_Classes.calls (k : Nat) (A0 : Option Addr) (c0 : Nat) (l0 : List Int) (r1 : List (List Int)) (r2 : Int) (w : World) (hr0 : Kd.C (Kd.int .i64) w A0 l0.length l0) (hc0 : l0.length ≤ c0) (h : partition_Classes.f k l0 = some (r1, r2)) :
    Calls Try.prog 23 #[.slice A0 l0.length c0] w fun e w' => ∃ v0_ : Value, e = .returned (.tuple #[v0_, .int .i64 r2]) ∧ Kd.S (Kd.slice 3 (Kd.int .i64)) 28 w' w.heap.size (fun _ => True) v0_ r1 ∧ Below w.heap.size w w' := by
  have HR0 := Aside0.mk hr0
  have HC0 := Aside0.mk hc0
  clear hr0 hc0
  have HB := Aside0.mk (Below.refl w.heap.size w)
  have H : ((partition_Quotient.f k l0).bind fun bt418 => (if bt418.2.2 = 0 then (if 0 ≤ bt418.2.1 then (if (bt418.2.1 : Int).toNat ≤ 11728124029610 then (partition_Classes.l0 k (List.replicate (bt418.2.1 : Int).toNat []) bt418.1 (bt418.1.length : Int) 0) else (none)) else (none)) else (some (([] : List (List Int)), bt418.2.2)))) = some (r1, r2) := h
  clear h
  replace H := Option.bind_eq_some_iff.mp H
  obtain ⟨⟨t418, t419, t420⟩, A20, H⟩ := H
  replace H : (if t420 = 0 then (if 0 ≤ t419 then (if (t419 : Int).toNat ≤ 11728124029610 then (partition_Classes.l0 k (List.replicate (t419 : Int).toNat []) t418 (t418.length : Int) 0) else (none)) else (none)) else (some (([] : List (List Int)), t420))) = some (r1, r2) := H
  have A2 := Aside0.mk A20
  clear A20
  by_cases c3 : t420 = 0
  · rw [if_pos c3] at H
    have c3b0 : (t420 == 0) = true := beq_iff_eq.mpr c3
    have c3b1 : (t420 != 0) = false := bne_eq_false_iff_eq.mpr c3
    clear c3
    by_cases c4 : 0 ≤ t419
    · rw [if_pos c4] at H
      have c4b0 := eq_true c4
      have c4b1 : decide (0 ≤ t419) = true := decide_eq_true c4
      clear c4
      by_cases c5 : (t419 : Int).toNat ≤ 11728124029610
      · rw [if_pos c5] at H
        have c5b0 := eq_true c5
        have c5b1 : decide ((t419 : Int).toNat ≤ 11728124029610) = true := decide_eq_true c5
        clear c5
        obtain ⟨y423, hy423⟩ : ∃ y_ : List (List Int), y_ = (List.replicate (t419 : Int).toNat []) := ⟨_, rfl⟩
        replace H : (partition_Classes.l0 k y423 t418 (t418.length : Int) 0) = some (r1, r2) := by first | (rw [hy423]; with_reducible exact H) | (have H2_ := (Option.bind_some _ _).symm.trans H; rw [hy423]; with_reducible exact H2_) | (have H2_ := (Option.bind_some _ _).symm.trans H; with_reducible exact H2_) | with_reducible exact H | (rw [hy423]; exact H) | exact H
        have Ny423 := Aside0.mk hy423
        clear hy423
        have H' := Aside0.mk H
        clear H
        go_enter Try.func23, Try.ntmps23
        go_wp2_with (first | ((with_reducible refine gate_callee (f := 22) rfl ?_); refine goesL_ (some 12) rfl rfl Try.func22 (by kernel_rfl) rfl #[.slice A0 l0.length c0] rfl (by (try simp only [List.map_toArray, List.map_cons, List.map_nil]); first | done | rfl | (simp only [List.length_drop, List.length_take]; rfl)) ?_; (with_reducible refine (partition_Quotient.calls k _ _ l0 t418 t419 t420 _ ?side1 ?side2 A2.out).mono ?_); (case side1 => repeat (first | exact HR0.out | (with_reducible refine Kd.C_alloc ?_ _) | (with_reducible refine Kd.C_drewN ?_ _) | (with_reducible refine Kd.C_drew ?_))); (case side2 => exact HC0.out); rintro e w6 ⟨v421, rfl, ho0, hb⟩; refine ⟨_, rfl, ?_⟩; have n0_ := Aside0.mk (Kd.R_lower ho0 (below_size (by repeat (first | (with_reducible first | exact HB.out | apply below_alloc | apply pw_below_drewN | apply below_drew1) | exact HB.out)))); have n1_ := Aside0.mk (below_step (by repeat (first | (with_reducible first | exact HB.out | apply below_alloc | apply pw_below_drewN | apply below_drew1) | exact HB.out)) hb); clear HB; have HO422 := n0_; have HB := n1_; clear n0_ n1_; (try clear hb); (try clear hb2); (try clear hk); (try clear hi); (try clear ho0)) | ((with_reducible refine gate_dst (N := 20) rfl ?_); refine Kd.S_make (Kd.slice 3 (Kd.int .i64)) _ 28 rfl (N := 20) rfl 42 _ _ rfl t419 rfl rfl Try.underlying42 (.slice none 0 0) 24 info28 rfl (by decide) (by omega) [] (ok := fun _ => True) (okp := fun _ => True) ⟨_, rfl, Kd.R_nil _ _ _ _ _⟩ (fun _ hk => hk) trivial (of_decide_eq_true (by first | (with_reducible assumption) | assumption)) (Nat.le_trans (Nat.mul_le_mul_right _ (of_decide_eq_true (by first | (with_reducible assumption) | assumption) : t419.toNat ≤ 11728124029610)) (by omega)) (Below.refl _ _) (Nat.le_refl _) ?_; intro v424 w7 ho8 hb hg_ hnew_; clear hg_ hnew_; (first | rw [← Ny423.out] at ho8 | (simp only [Int.reduceToNat] at ho8; rw [← Ny423.out] at ho8)); have n0_ := Aside0.mk (Kd.R_below (by (with_reducible repeat (first | apply Kd.R_alloc | apply Kd.R_drewN | apply Kd.R_drew)); exact HO422.out) hb); have n1_ := Aside0.mk (Kd.S_lower (Kd.S_new' ho8 (Kd.R_lt (by (with_reducible repeat (first | apply Kd.R_alloc | apply Kd.R_drewN | apply Kd.R_drew)); exact HO422.out))) (below_size (by repeat (first | (with_reducible first | exact HB.out | apply below_alloc | apply pw_below_drewN | apply below_drew1) | exact HB.out)))); have n2_ := Aside0.mk (below_step (by repeat (first | (with_reducible first | exact HB.out | apply below_alloc | apply pw_below_drewN | apply below_drew1) | exact HB.out)) hb); clear HO422; clear HB; have HO422 := n0_; have HO425 := n1_; have HB := n2_; clear n0_ n1_ n2_; clear hb ho8; obtain ⟨Ao9, co9, eo9⟩ := Kd.R_slice HO422.out; subst eo9))
        go_loopg [23] k (fun kq v23 w' => ∃ (x7_1 : List (List Int)) (x23_1 : Int), v23 = .int .i64 x23_1 ∧ Aside0 (partition_Classes.l0 kq x7_1 t418 (t418.length : Int) x23_1 = some (r1, r2)) ∧ Aside0 (kq ≤ k) ∧ Aside0 (Kd.S (Kd.slice 3 (Kd.int .i64)) 28 w' w.heap.size (fun k_ => some k_ ≠ ((.slice Ao9 t418.length co9) : Value).ownBlock) v424 x7_1) ∧ Aside0 (Kd.R (Kd.int .i64) 3 w' w.heap.size (fun _ => True) (.slice Ao9 t418.length co9) t418) ∧ Aside0 (Below w.heap.size w w'))
        case atStart => exact ⟨(y423), (0), (by first | rfl | (simp; done) | (simp [*]; done)), H', ⟨Nat.le_refl _⟩, ⟨by (with_reducible repeat (first | apply Kd.S_alloc | apply Kd.S_drewN | apply Kd.S_drew)); exact Kd.S_mono HO425.out (fun _ hk => hk.2)⟩, ⟨by (with_reducible repeat (first | apply Kd.R_alloc | apply Kd.R_drewN | apply Kd.R_drew)); exact HO422.out⟩, ⟨by repeat (first | (with_reducible first | exact HB.out | apply below_alloc | apply pw_below_drewN | apply below_drew1) | exact HB.out)⟩⟩
        case round =>
          clear H'
          try clear c2
          try clear p2
          try clear c3
          try clear c3b0
          try clear c3b1
          try clear c4
          try clear c4b0
          try clear c4b1
          try clear c5
          try clear c5b0
          try clear c5b1
          obtain ⟨x7_1, x23_1, rfl, HA, HK1, HO_7, HO_21, HB⟩ := hrel
          cases gk with
          | zero => exact absurd HA.out (by simp [partition_Classes.l0])
          | succ k1 =>
            have H := HA.out
            clear HA
            simp only [partition_Classes.l0] at H
            by_cases c10 : x23_1 < (t418.length : Int)
            · rw [if_pos c10] at H
              have c10b0 : decide (x23_1 < (t418.length : Int)) = true := decide_eq_true c10
              clear c10
              by_cases c11 : 0 ≤ x23_1
              · rw [if_pos c11] at H
                have c11b0 : decide (0 ≤ x23_1) = true := decide_eq_true c11
                clear c11
                by_cases c12 : x23_1 < (t418.length : Int)
                · rw [if_pos c12] at H
                  have c12b0 : decide (x23_1 < (t418.length : Int)) = true := decide_eq_true c12
                  clear c12
                  by_cases c13 : 0 ≤ (rd t418 x23_1)
                  · rw [if_pos c13] at H
                    have c13b0 : decide (0 ≤ (rd t418 x23_1)) = true := decide_eq_true c13
                    clear c13
                    by_cases c14 : (rd t418 x23_1) < (x7_1.length : Int)
                    · rw [if_pos c14] at H
                      have c14b0 : decide ((rd t418 x23_1) < (x7_1.length : Int)) = true := decide_eq_true c14
                      clear c14
                      by_cases c15 : (rd_L2 x7_1 (rd t418 x23_1)).length < 17592186044416
                      · rw [if_pos c15] at H
                        have LMc15 := Aside0.mk c15
                        clear c15
                        obtain ⟨y428, hy428⟩ : ∃ y_ : List Int, y_ = ((rd_L2 x7_1 (rd t418 x23_1)) ++ [x23_1]) := ⟨_, rfl⟩
                        replace H : (partition_Classes.l0 k1 (x7_1.set ((rd t418 x23_1) : Int).toNat y428) t418 (t418.length : Int) (wrap64 (x23_1 + 1))) = some (r1, r2) := by first | (rw [hy428]; with_reducible exact H) | (have H2_ := (Option.bind_some _ _).symm.trans H; rw [hy428]; with_reducible exact H2_) | (have H2_ := (Option.bind_some _ _).symm.trans H; with_reducible exact H2_) | with_reducible exact H | (rw [hy428]; exact H) | exact H
                        have Ny428 := Aside0.mk hy428
                        clear hy428
                        obtain ⟨y431, hy431⟩ : ∃ y_ : List (List Int), y_ = (x7_1.set ((rd t418 x23_1) : Int).toNat y428) := ⟨_, rfl⟩
                        replace H : (partition_Classes.l0 k1 y431 t418 (t418.length : Int) (wrap64 (x23_1 + 1))) = some (r1, r2) := by first | (rw [hy431]; with_reducible exact H) | (have H2_ := (Option.bind_some _ _).symm.trans H; rw [hy431]; with_reducible exact H2_) | (have H2_ := (Option.bind_some _ _).symm.trans H; with_reducible exact H2_) | with_reducible exact H | (rw [hy431]; exact H) | exact H
                        have Ny431 := Aside0.mk hy431
                        clear hy431
                        have H' := Aside0.mk H
                        clear H
                        have p426 : 0 ≤ (x23_1 : Int) := of_decide_eq_true (by first | (with_reducible assumption) | assumption)
                        have q426 : x23_1 < (t418.length : Int) := of_decide_eq_true (by first | (with_reducible assumption) | assumption)
                        obtain ⟨ad426, e426, hx426_0⟩ := Kd.at_int (Kd.R_reads' HO_21.out).2.2 x23_1 p426 q426
                        cases e426
                        replace p426 := eq_true p426
                        replace q426 := eq_true q426
                        obtain ⟨Ao17, co17, eo17⟩ := Kd.S_slice HO_7.out
                        subst eo17
                        have p427 : 0 ≤ ((rd t418 x23_1) : Int) := of_decide_eq_true (by first | (with_reducible assumption) | assumption)
                        have q427 : (rd t418 x23_1) < (x7_1.length : Int) := of_decide_eq_true (by first | (with_reducible assumption) | assumption)
                        obtain ⟨ad427, A427_0, c427_0, e427, hx427_0, hl427_0, hi427_0⟩ := at_L2 (Kd.S_reads' HO_7.out).2.2 (rd t418 x23_1) p427 q427
                        cases e427
                        obtain ⟨ce427, hce427, hMe427, hcc427⟩ := Kd.S_get HO_7.out [] (rd t418 x23_1) p427 (by first | exact q427 | exact of_decide_eq_true (by first | (with_reducible assumption) | assumption) | (have e_ := (Kd.S_reads' HO_7.out).1; omega))
                        obtain ⟨ve427_0, rfl, ge427_0⟩ := hMe427
                        have hv427_0 := hcc427 0 _ rfl
                        rw [Nat.add_zero, show ((Kd.slice 3 (Kd.int .i64))).sz = 1 from rfl, Nat.mul_one] at hv427_0
                        replace hv427_0 := Option.some.inj (hv427_0.symm.trans hx427_0)
                        rw [hv427_0] at ge427_0
                        have HL427_0 := Aside0.mk (show Kd.R (Kd.int .i64) 3 _ _ _ _ (rd_L2 x7_1 (rd t418 x23_1)) from ge427_0)
                        clear hv427_0 ge427_0
                        have HX427_0 := Aside0.mk hx427_0
                        clear hcc427 hce427
                        have HR427_0 := Aside0.mk hi427_0
                        have HC427_0 := Aside0.mk hl427_0
                        clear hi427_0 hl427_0
                        replace p427 := eq_true p427
                        replace q427 := eq_true q427
                        obtain ⟨go18, co18, eo18, gb18, gl18, cl18, HG18⟩ := Kd.S_form HO_7.out (by have h_ : ((rd t418 x23_1) : Int) < ((x7_1.length : Int) : Int) := of_decide_eq_true (by first | (with_reducible assumption) | assumption); have h2_ : 0 ≤ ((rd t418 x23_1) : Int) := (of_decide_eq_true (by first | (with_reducible assumption) | assumption)); omega)
                        (first | cases eo18 | (injection eo18 with ea_ en_ ec_; (first | subst ea_ | (injection ea_ with ea_; subst ea_)); subst ec_; clear en_))
                        have GB18 := Aside0.mk gb18
                        have GG18 := Aside0.mk HG18
                        clear gb18 gl18 HG18
                        (first | simp only [add_plain] at hx427_0 | skip)
                        obtain ⟨oki18, ce18, hcl18, hM18, hcc18, _, _, hH18⟩ := Kd.S_elem HO_7.out [] ((rd t418 x23_1) : Int) (of_decide_eq_true (by first | (with_reducible assumption) | assumption)) (by have h_ : ((rd t418 x23_1) : Int) < ((x7_1.length : Int) : Int) := of_decide_eq_true (by first | (with_reducible assumption) | assumption); first | exact h_ | (have e_ := (Kd.S_reads' HO_7.out).1; omega) | simpa using h_)
                        obtain ⟨ve18_0, rfl, ge18_0⟩ := hM18
                        have hv18 := hcc18 0 _ rfl
                        have hX18 := HX427_0.out
                        (try simp only [add_plain] at hX18)
                        (try simp only [Nat.add_zero] at hv18)
                        (try rw [show ((Kd.slice 3 (Kd.int .i64))).sz = 1 from rfl, Nat.mul_one] at hv18)
                        replace hv18 := Option.some.inj (hv18.symm.trans hX18)
                        subst hv18
                        clear hX18 hcc18 hcl18
                        have UU18 := Aside0.mk (show Kd.R (Kd.int .i64) 3 _ w.heap.size oki18 (.slice A427_0 (rd_L2 x7_1 (rd t418 x23_1)).length c427_0) (rd_L2 x7_1 (rd t418 x23_1)) from ge18_0)
                        have HH18 := Aside0.mk hH18
                        have HN18 := Aside0.mk (Kd.S_reads' HO_7.out).1
                        clear hH18 ge18_0
                        go_wp2_with (first | ((with_reducible refine gate_builtin (b := .append) (xs := #[.tmp 33, .tmp 35]) rfl ?_); at_builtin; refine Kd.R_append (Kd.int .i64) (w0 := w) w.heap.size rfl (.tmp 33) (.tmp 35) 28 3 (.int .i64 0) 8 rfl Try.underlying28 info3 rfl (by decide) (by omega) (.slice A427_0 (rd_L2 x7_1 (rd t418 x23_1)).length c427_0) (rd_L2 x7_1 (rd t418 x23_1)) x23_1 [.int .i64 x23_1] (fun k_ => oki18 k_ ∨ ((fun k_ => some k_ ≠ (.slice (some ad426) t418.length co9 : Value).ownBlock)) k_ ∧ wr.heap.size ≤ k_) (fun _ => False) rfl rfl ?aP (fun _ hk => hk.elim) ?aF ?aO ?aB ?aS ?aL ?_; (case aP => exact rfl); (case aB => exact (by repeat (first | (with_reducible first | exact HB.out | apply below_alloc | apply pw_below_drewN | apply below_drew1) | exact HB.out))); (case aF => exact (fun k_ hk => .inr ⟨Kd.fresh' (Kd.R_lt (by (with_reducible repeat (first | apply Kd.R_alloc | apply Kd.R_drewN | apply Kd.R_drew)); exact HO_21.out)) k_ hk, hk⟩)); (case aO => exact (by (with_reducible repeat (first | apply Kd.R_alloc | apply Kd.R_drewN | apply Kd.R_drew)); exact Kd.R_mono UU18.out (fun _ hk => .inl hk))); (case aS => exact (below_size (by repeat (first | (with_reducible first | exact HB.out | apply below_alloc | apply pw_below_drewN | apply below_drew1) | exact HB.out)))); (case aL => have := LMc15.out; omega); intro v429 w19 ho hb hg hat; rw [← Ny428.out] at ho; have n0_ := Aside0.mk (Kd.R_grown2 (by (with_reducible repeat (first | apply Kd.R_alloc | apply Kd.R_drewN | apply Kd.R_drew)); exact HO_21.out) rfl hg (fun k_ e_ => (HL427_0.out.1 k_ e_).1)); have n1_ := Aside0.mk (hb); have n2_ := Aside0.mk (Kd.H_grown (Kd.H_widen (by repeat (first | exact HH18.out | refine Kd.H_alloc ?_ _ | refine Kd.H_drewN ?_ _ | refine Kd.H_drew ?_))) hg (fun k_ e_ => .inl (UU18.out.1 k_ e_))); have n3_ := Aside0.mk (ho); clear HO_21; clear HB; clear HH18; clear HO_7; clear UU18; clear HL427_0; have HO_21 := n0_; have HB := n1_; have HH18 := n2_; have HO430 := n3_; clear n0_ n1_ n2_ n3_; clear ho hb hg hat; have p16 : 0 ≤ ((rd t418 x23_1) : Int) := of_decide_eq_true (by first | (with_reducible assumption) | assumption); have q16 : ((rd t418 x23_1) : Int) < ((x7_1.length : Int) : Int) := of_decide_eq_true (by first | (with_reducible assumption) | assumption); replace p16 := eq_true p16; replace q16 := eq_true q16; obtain ⟨Ao22, co22, eo22⟩ := Kd.R_slice HO430.out; subst eo22; obtain ⟨_, _, hraw20, _, _, hcc20, _⟩ := Kd.H_raw HH18.out (of_decide_eq_true (by first | (with_reducible assumption) | assumption)) (by have h_ : ((rd t418 x23_1) : Int) < ((x7_1.length : Int) : Int) := of_decide_eq_true (by first | (with_reducible assumption) | assumption); first | exact h_ | (have e_ := (HN18.out); omega) | simpa using h_); obtain ⟨_, hfr20⟩ := Kd.H_at HH18.out (of_decide_eq_true (by first | (with_reducible assumption) | assumption)) (by have h_ : ((rd t418 x23_1) : Int) < ((x7_1.length : Int) : Int) := of_decide_eq_true (by first | (with_reducible assumption) | assumption); first | exact h_ | (have e_ := (HN18.out); omega) | simpa using h_); have hx20_0 := hcc20 0 _ rfl; have hf20_0 := hfr20 0; (try simp only [Nat.add_zero] at hx20_0 hf20_0); (try rw [show ((Kd.slice 3 (Kd.int .i64))).sz = 1 from rfl, Nat.mul_one] at hx20_0); (try rw [show ((Kd.slice 3 (Kd.int .i64))).sz = 1 from rfl, Nat.mul_one] at hf20_0); have HP20 := Kd.S_seg0 HH18.out (of_decide_eq_true (by first | (with_reducible assumption) | assumption)) (by have h_ : ((rd t418 x23_1) : Int) < ((x7_1.length : Int) : Int) := of_decide_eq_true (by first | (with_reducible assumption) | assumption); first | exact h_ | (have e_ := (HN18.out); omega) | simpa using h_) (seg := [.slice Ao22 y428.length co22]) (j := 0) (show 1 ≤ 1 from by decide) (x' := y428) (Kd.M_row HO430.out) (fun _ hk => hk); (try simp only [show ((Kd.slice 3 (Kd.int .i64))).sz = 1 from rfl, Nat.mul_one, Nat.add_zero] at HP20); clear hcc20 hfr20) | ((with_reducible refine gate_store (t := 28) (p := 37) rfl ?_); refine store_event (t := 28) (p := 37) (v := ?vo_w21) (w1 := (w19.setCell ⟨go18, ((rd t418 x23_1) : Int).toNat, none⟩ (.slice Ao22 y428.length co22))) ?hg ?ho ?hn ?hr ?_; (case ho => rfl); (case hg => rfl); (case hn => rfl); (case hr => first | (go_simp; done) | (go_simp; rfl)); intro w21 hw; have hg : w19.grownBy w21 (some go18) := (by rw [hw]; exact HP20.2); have hp_ : Kd.S (Kd.slice 3 (Kd.int .i64)) 28 w21 w.heap.size (fun k_ => some k_ ≠ (.slice (some ad426) t418.length co9 : Value).ownBlock) (.slice (some ⟨go18, 0, none⟩) x7_1.length co17) y431 := (by rw [hw, Ny431.out]; exact HP20.1); clear HP20; have n0_ := Aside0.mk (Kd.R_over' (v := (.slice (some ⟨go18, 0, none⟩) x7_1.length co17)) (by (with_reducible repeat (first | apply Kd.R_alloc | apply Kd.R_drewN | apply Kd.R_drew)); exact HO_21.out) (Kd.R_typed hraw20) (by decide) hg); have n1_ := Aside0.mk ((by rw [hw]; exact below_set HB.out GB18.out : Below w.heap.size w w21)); have n2_ := Aside0.mk (hp_); clear HO_21; clear HB; clear HO430; clear HH18; have HO_21 := n0_; have HB := n1_; have HO_7 := n2_; clear n0_ n1_ n2_; clear hg hw hp_ hraw20))
                        go_roundg k1
                        case measure => have := HK1.out; omega
                        case rel => exact ⟨(y431), (wrap64 (x23_1 + 1)), (by first | rfl | (simp; done) | (simp [*]; done)), H', ⟨by have := HK1.out; omega⟩, ⟨by (with_reducible repeat (first | apply Kd.S_alloc | apply Kd.S_drewN | apply Kd.S_drew)); exact HO_7.out⟩, ⟨by (with_reducible repeat (first | apply Kd.R_alloc | apply Kd.R_drewN | apply Kd.R_drew)); exact HO_21.out⟩, ⟨by repeat (first | (with_reducible first | exact HB.out | apply below_alloc | apply pw_below_drewN | apply below_drew1) | exact HB.out)⟩⟩
                      · rw [if_neg c15] at H
                        exact absurd H (by simp)
                    · rw [if_neg c14] at H
                      exact absurd H (by simp)
                  · rw [if_neg c13] at H
                    exact absurd H (by simp)
                · rw [if_neg c12] at H
                  exact absurd H (by simp)
              · rw [if_neg c11] at H
                exact absurd H (by simp)
            · rw [if_neg c10] at H
              have c10b0 : decide (x23_1 < (t418.length : Int)) = false := decide_eq_false c10
              clear c10
              simp only [Option.some.injEq, Prod.mk.injEq] at H
              obtain ⟨rfl, rfl⟩ := H
              go_wp2
              go_ret2
              exact ⟨_, by first | rfl | (simp [errW_none, errW_some] <;> rfl) | (simp [*, errW_none, errW_some] <;> rfl), by (with_reducible repeat (first | apply Kd.S_alloc | apply Kd.S_drewN | apply Kd.S_drew)); exact Kd.S_mono HO_7.out (fun _ hk => trivial), by repeat (first | (with_reducible first | exact HB.out | apply below_alloc | apply pw_below_drewN | apply below_drew1) | exact HB.out)⟩
      · rw [if_neg c5] at H
        exact absurd H (by simp)
    · rw [if_neg c4] at H
      exact absurd H (by simp)
  · rw [if_neg c3] at H
    have c3b0 : (t420 == 0) = false := beq_eq_false_iff_ne.mpr c3
    have c3b1 : (t420 != 0) = true := bne_iff_ne.mpr c3
    simp only [Option.some.injEq, Prod.mk.injEq] at H
    obtain ⟨rfl, rfl⟩ := H
    go_enter Try.func23, Try.ntmps23
    go_wp2_with (first | ((with_reducible refine gate_callee (f := 22) rfl ?_); refine goesL_ (some 12) rfl rfl Try.func22 (by kernel_rfl) rfl #[.slice A0 l0.length c0] rfl (by (try simp only [List.map_toArray, List.map_cons, List.map_nil]); first | done | rfl | (simp only [List.length_drop, List.length_take]; rfl)) ?_; (with_reducible refine (partition_Quotient.calls k _ _ l0 t418 t419 t420 _ ?side1 ?side2 A2.out).mono ?_); (case side1 => repeat (first | exact HR0.out | (with_reducible refine Kd.C_alloc ?_ _) | (with_reducible refine Kd.C_drewN ?_ _) | (with_reducible refine Kd.C_drew ?_))); (case side2 => exact HC0.out); rintro e w23 ⟨v421, rfl, ho0, hb⟩; refine ⟨_, rfl, ?_⟩; have n0_ := Aside0.mk (Kd.R_lower ho0 (below_size (by repeat (first | (with_reducible first | exact HB.out | apply below_alloc | apply pw_below_drewN | apply below_drew1) | exact HB.out)))); have n1_ := Aside0.mk (below_step (by repeat (first | (with_reducible first | exact HB.out | apply below_alloc | apply pw_below_drewN | apply below_drew1) | exact HB.out)) hb); clear HB; have HO422 := n0_; have HB := n1_; clear n0_ n1_; (try clear hb); (try clear hb2); (try clear hk); (try clear hi); (try clear ho0)))
    go_ret2
    exact ⟨_, by first | rfl | (simp [errW_none, errW_some] <;> rfl) | (simp [*, errW_none, errW_some] <;> rfl), by first | exact Kd.S_nil _ _ _ _ _ | exact Kd.N_nil _ _ _ _ _ | exact Kd.V_nil _ _ _ _ _ | exact Kd.Q_nil _ _ _ _ _ | exact Kd.R_nil _ _ _ _ _, by repeat (first | (with_reducible first | exact HB.out | apply below_alloc | apply pw_below_drewN | apply below_drew1) | exact HB.out)⟩

end Go.Proofs.Ytjkgjlaockihaaa.P
