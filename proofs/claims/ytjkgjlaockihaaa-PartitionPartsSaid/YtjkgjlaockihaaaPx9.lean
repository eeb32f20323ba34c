-- Written by wip/drive.py of this session's repo over the kit's print.py (with contracts of the session's own): not the print's own text
import Derived.Test.YtjkgjlaockihaaaPx0
namespace Go.Proofs.Ytjkgjlaockihaaa.P
open Go.RowKit Go.Proofs.YtjkgjlaockihaaaW.PrintWords Go.Proofs.YtjkgjlaockihaaaW.PrintLast Go.Proofs.YtjkgjlaockihaaaW.PrintMore
attribute [local go_sem] max2_int min2_int max_two min_two max_three min_three max_four min_four   -- for this text's walks alone
set_option linter.unusedVariables false
set_option linter.unusedSimpArgs false

/-! ### scarfjointref02_Made: function 21 -/
mutual
def scarfjointref02_Made.l0 : Nat → List Int → List Int → Int → Option (List Int)
  | 0, _, _, _ => none
  | k + 1, x0, x3, x4 => if x4 < (x0.length : Int) then (scarfjointref02_Made.j1 k x0 x3 x4 (decide (x4 < 12))) else (scarfjointref02_Made.j1 k x0 x3 x4 false)
def scarfjointref02_Made.j1 : Nat → List Int → List Int → Int → Bool → Option (List Int)
  | 0, _, _, _, _ => none
  | k + 1, x0, x3, x4, x13 => if x13 = true then (if 0 ≤ x4 then (if x4 < (x0.length : Int) then (if (wrap64 (x4 + 2)) = 0 then (none) else (if (Int.tmod (wrap64 (rd x0 x4)) (wrap64 (x4 + 2))) > x4 then (if x4 < x4 then (if x4 < (x3.length : Int) then (if x3.length < 17592186044416 then (scarfjointref02_Made.l0 k x0 (x3 ++ [rd x3 x4]) (wrap64 (x4 + 1))) else (none)) else (none)) else (if x3.length < 17592186044416 then (scarfjointref02_Made.l0 k x0 (x3 ++ [x4]) (wrap64 (x4 + 1))) else (none))) else (if (Int.tmod (wrap64 (rd x0 x4)) (wrap64 (x4 + 2))) < x4 then (if 0 ≤ (Int.tmod (wrap64 (rd x0 x4)) (wrap64 (x4 + 2))) then (if (Int.tmod (wrap64 (rd x0 x4)) (wrap64 (x4 + 2))) < (x3.length : Int) then (if x3.length < 17592186044416 then (scarfjointref02_Made.l0 k x0 (x3 ++ [rd x3 (Int.tmod (wrap64 (rd x0 x4)) (wrap64 (x4 + 2)))]) (wrap64 (x4 + 1))) else (none)) else (none)) else (none)) else (if x3.length < 17592186044416 then (scarfjointref02_Made.l0 k x0 (x3 ++ [Int.tmod (wrap64 (rd x0 x4)) (wrap64 (x4 + 2))]) (wrap64 (x4 + 1))) else (none))))) else (none)) else (none)) else (some x3)
end
def scarfjointref02_Made.f (k : Nat) (l0 : List Int) : Option (List Int) := scarfjointref02_Made.l0 k l0 ([] : List Int) 0
theorem scarfjointref02_Made.mono_l : ∀ k, (∀ y0 y1 y2, LeO (scarfjointref02_Made.l0 k y0 y1 y2) (scarfjointref02_Made.l0 (k + 1) y0 y1 y2)) ∧ (∀ y0 y1 y2 y3, LeO (scarfjointref02_Made.j1 k y0 y1 y2 y3) (scarfjointref02_Made.j1 (k + 1) y0 y1 y2 y3))
  | 0 => ⟨fun _ _ _ r h => by simp [scarfjointref02_Made.l0] at h, fun _ _ _ _ r h => by simp [scarfjointref02_Made.j1] at h⟩
  | k + 1 => by
    obtain ⟨ih0, ih1⟩ := scarfjointref02_Made.mono_l k
    refine ⟨?_, ?_⟩
    · intro y0 y1 y2
      unfold scarfjointref02_Made.l0
      repeat' first
      | (with_reducible exact ih0 _ _ _)
      | (with_reducible exact ih1 _ _ _ _)
      | (with_reducible exact LeO.refl _)
      | (with_reducible exact LeO.none _)
      | (with_reducible refine LeO.ite ?_ ?_)
      | (with_reducible refine LeO.bind ?_ (fun _ => ?_))
      | exact ih0 _ _ _
      | exact ih1 _ _ _ _
      | exact LeO.none _
      | refine LeO.ite ?_ ?_
      | refine LeO.bind ?_ (fun _ => ?_)
    · intro y0 y1 y2 y3
      unfold scarfjointref02_Made.j1
      repeat' first
      | (with_reducible exact ih0 _ _ _)
      | (with_reducible exact ih1 _ _ _ _)
      | (with_reducible exact LeO.refl _)
      | (with_reducible exact LeO.none _)
      | (with_reducible refine LeO.ite ?_ ?_)
      | (with_reducible refine LeO.bind ?_ (fun _ => ?_))
      | exact ih0 _ _ _
      | exact ih1 _ _ _ _
      | exact LeO.none _
      | refine LeO.ite ?_ ?_
      | refine LeO.bind ?_ (fun _ => ?_)
theorem scarfjointref02_Made.mono : ∀ a0 k, LeO (scarfjointref02_Made.f k a0) (scarfjointref02_Made.f (k + 1) a0) := by
  intro a0 k
  obtain ⟨ih0, ih1⟩ := scarfjointref02_Made.mono_l k
  unfold scarfjointref02_Made.f
  repeat' first
      | (with_reducible exact ih0 _ _ _)
      | (with_reducible exact ih1 _ _ _ _)
      | (with_reducible exact LeO.refl _)
      | (with_reducible exact LeO.none _)
      | (with_reducible refine LeO.ite ?_ ?_)
      | (with_reducible refine LeO.bind ?_ (fun _ => ?_))
      | exact ih0 _ _ _
      | exact ih1 _ _ _ _
      | exact LeO.none _
      | refine LeO.ite ?_ ?_
      | refine LeO.bind ?_ (fun _ => ?_)
set_option maxHeartbeats 8000000 in
set_option maxRecDepth 100000 in
theorem scarfjointref02_Made.calls (k : Nat) (A0 : Option Addr) (c0 : Nat) (l0 : List Int) (r : List Int) (w : World) (hr0 : Kd.C (Kd.int .u8) w A0 l0.length l0) (hc0 : l0.length ≤ c0) (h : scarfjointref02_Made.f k l0 = some r) :
    Calls Try.prog 21 #[.slice A0 l0.length c0] w fun e w' => ∃ v0_ : Value, e = .returned (v0_) ∧ Kd.R (Kd.int .i64) 3 w' w.heap.size (fun _ => True) v0_ r ∧ Below w.heap.size w w' := by
  have HR0 := Aside0.mk hr0
  have HC0 := Aside0.mk hc0
  clear hr0 hc0
  have HB := Aside0.mk (Below.refl w.heap.size w)
  have H : (scarfjointref02_Made.l0 k l0 ([] : List Int) 0) = some r := h
  clear h
  have H' := Aside0.mk H
  clear H
  go_enter Try.func21, Try.ntmps21
  go_wp2
  go_loopg [3, 4] k (fun kq v3 v4 w' => ∃ (x3_1 : List Int) (x4_1 : Int), v4 = .int .i64 x4_1 ∧ Aside0 (scarfjointref02_Made.l0 kq l0 x3_1 x4_1 = some r) ∧ Aside0 (kq ≤ k) ∧ Aside0 (Kd.R (Kd.int .i64) 3 w' w.heap.size (fun _ => True) v3 x3_1) ∧ Aside0 (Below w.heap.size w w'))
  case atStart => exact ⟨(([] : List Int)), (0), (by first | rfl | (simp; done) | (simp [*]; done)), H', ⟨Nat.le_refl _⟩, ⟨by first | exact Kd.R_nil _ _ _ _ _ | exact Kd.N_nil _ _ _ _ _ | exact Kd.V_nil _ _ _ _ _ | exact Kd.Q_nil _ _ _ _ _ | exact Kd.S_nil _ _ _ _ _⟩, ⟨by repeat (first | (with_reducible first | exact HB.out | apply below_alloc | apply pw_below_drewN | apply below_drew1) | exact HB.out)⟩⟩
  case round =>
    clear H'
    obtain ⟨x3_1, x4_1, rfl, HA, HK1, HO_3, HB⟩ := hrel
    cases gk with
    | zero => exact absurd HA.out (by simp [scarfjointref02_Made.l0])
    | succ k1 =>
      have H := HA.out
      clear HA
      simp only [scarfjointref02_Made.l0] at H
      have HC2 := Aside0.mk H
      clear H
      go_upto_region 3 with (fail)
      go_cut [13] (fun v13 wc => ∃ (kq : Nat) (x13_1 : Bool), v13 = .bool x13_1 ∧ Aside0 (scarfjointref02_Made.j1 kq l0 x3_1 x4_1 x13_1 = some r) ∧ Aside0 (kq ≤ k1) ∧ Aside0 (Kd.R (Kd.int .i64) 3 wc w.heap.size (fun _ => True) u3 x3_1) ∧ Aside0 (Below w.heap.size w wc))
      case first =>
        have H := HC2.out
        clear HC2
        by_cases c3 : x4_1 < (l0.length : Int)
        · rw [if_pos c3] at H
          have c3b0 : decide (x4_1 < (l0.length : Int)) = true := decide_eq_true c3
          clear c3
          (first | rw [c3b0] | (simp only [i64_w, i32_w]; rw [c3b0]) | skip)
          have H' := Aside0.mk H
          clear H
          go_wp2
          go_meet
          case rel => exact ⟨_, (decide (x4_1 < 12)), (by first | rfl | (simp; done) | (simp [*]; done)), H', ⟨by have := HK1.out; first | omega | exact Nat.le_refl _⟩, ⟨by (with_reducible repeat (first | apply Kd.R_alloc | apply Kd.R_drewN | apply Kd.R_drew)); exact HO_3.out⟩, ⟨by repeat (first | (with_reducible first | exact HB.out | apply below_alloc | apply pw_below_drewN | apply below_drew1) | exact HB.out)⟩⟩
        · rw [if_neg c3] at H
          have c3b0 : decide (x4_1 < (l0.length : Int)) = false := decide_eq_false c3
          clear c3
          (first | rw [c3b0] | (simp only [i64_w, i32_w]; rw [c3b0]) | skip)
          have H' := Aside0.mk H
          clear H
          go_wp2
          go_meet
          case rel => exact ⟨_, (false), (by first | rfl | (simp; done) | (simp [*]; done)), H', ⟨by have := HK1.out; first | omega | exact Nat.le_refl _⟩, ⟨by (with_reducible repeat (first | apply Kd.R_alloc | apply Kd.R_drewN | apply Kd.R_drew)); exact HO_3.out⟩, ⟨by repeat (first | (with_reducible first | exact HB.out | apply below_alloc | apply pw_below_drewN | apply below_drew1) | exact HB.out)⟩⟩
      case rest =>
        clear HC2
        try clear c2
        try clear p2
        try clear c3
        try clear c3b0
        obtain ⟨kq, x13_1, rfl, HA, HJ1, HO_3, HB⟩ := hcut
        cases kq with
        | zero => exact absurd HA.out (by simp [scarfjointref02_Made.j1])
        | succ kj1 =>
          have H := HA.out
          clear HA
          simp only [scarfjointref02_Made.j1] at H
          by_cases c4 : x13_1 = true
          · subst c4
            have H1 : (if 0 ≤ x4_1 then (if x4_1 < (l0.length : Int) then (if (wrap64 (x4_1 + 2)) = 0 then (none) else (if (Int.tmod (wrap64 (rd l0 x4_1)) (wrap64 (x4_1 + 2))) > x4_1 then (if x4_1 < x4_1 then (if x4_1 < (x3_1.length : Int) then (if x3_1.length < 17592186044416 then (scarfjointref02_Made.l0 kj1 l0 (x3_1 ++ [rd x3_1 x4_1]) (wrap64 (x4_1 + 1))) else (none)) else (none)) else (if x3_1.length < 17592186044416 then (scarfjointref02_Made.l0 kj1 l0 (x3_1 ++ [x4_1]) (wrap64 (x4_1 + 1))) else (none))) else (if (Int.tmod (wrap64 (rd l0 x4_1)) (wrap64 (x4_1 + 2))) < x4_1 then (if 0 ≤ (Int.tmod (wrap64 (rd l0 x4_1)) (wrap64 (x4_1 + 2))) then (if (Int.tmod (wrap64 (rd l0 x4_1)) (wrap64 (x4_1 + 2))) < (x3_1.length : Int) then (if x3_1.length < 17592186044416 then (scarfjointref02_Made.l0 kj1 l0 (x3_1 ++ [rd x3_1 (Int.tmod (wrap64 (rd l0 x4_1)) (wrap64 (x4_1 + 2)))]) (wrap64 (x4_1 + 1))) else (none)) else (none)) else (none)) else (if x3_1.length < 17592186044416 then (scarfjointref02_Made.l0 kj1 l0 (x3_1 ++ [Int.tmod (wrap64 (rd l0 x4_1)) (wrap64 (x4_1 + 2))]) (wrap64 (x4_1 + 1))) else (none))))) else (none)) else (none)) = some r := by rw [if_pos rfl] at H; exact H
            clear H
            have H := H1
            clear H1
            by_cases c5 : 0 ≤ x4_1
            · rw [if_pos c5] at H
              have c5b0 : decide (0 ≤ x4_1) = true := decide_eq_true c5
              clear c5
              by_cases c6 : x4_1 < (l0.length : Int)
              · rw [if_pos c6] at H
                have c6b0 : decide (x4_1 < (l0.length : Int)) = true := decide_eq_true c6
                clear c6
                by_cases c7 : (wrap64 (x4_1 + 2)) = 0
                · rw [if_pos c7] at H
                  exact absurd H (by simp)
                · rw [if_neg c7] at H
                  have c7b0 : ((wrap64 (x4_1 + 2)) == 0) = false := beq_eq_false_iff_ne.mpr c7
                  have c7b1 : ((wrap64 (x4_1 + 2)) != 0) = true := bne_iff_ne.mpr c7
                  by_cases c8 : (Int.tmod (wrap64 (rd l0 x4_1)) (wrap64 (x4_1 + 2))) > x4_1
                  · rw [if_pos c8] at H
                    have c8b0 : decide (x4_1 < (Int.tmod (wrap64 (rd l0 x4_1)) (wrap64 (x4_1 + 2)))) = true := decide_eq_true c8
                    clear c8
                    by_cases c9 : x4_1 < x4_1
                    · exact absurd c9 (by omega)
                    · rw [if_neg c9] at H
                      have c9b0 : decide (x4_1 < x4_1) = false := decide_eq_false c9
                      clear c9
                      by_cases c14 : x3_1.length < 17592186044416
                      · rw [if_pos c14] at H
                        have LMc14 := Aside0.mk c14
                        clear c14
                        obtain ⟨y334, hy334⟩ : ∃ y_ : List Int, y_ = (x3_1 ++ [x4_1]) := ⟨_, rfl⟩
                        replace H : (scarfjointref02_Made.l0 kj1 l0 y334 (wrap64 (x4_1 + 1))) = some r := by first | (rw [hy334]; with_reducible exact H) | (have H2_ := (Option.bind_some _ _).symm.trans H; rw [hy334]; with_reducible exact H2_) | (have H2_ := (Option.bind_some _ _).symm.trans H; with_reducible exact H2_) | with_reducible exact H | (rw [hy334]; exact H) | exact H
                        have Ny334 := Aside0.mk hy334
                        clear hy334
                        have H' := Aside0.mk H
                        clear H
                        have p329 : 0 ≤ (x4_1 : Int) := of_decide_eq_true (by first | (with_reducible assumption) | assumption)
                        have q329 : x4_1 < (l0.length : Int) := of_decide_eq_true (by first | (with_reducible assumption) | assumption)
                        obtain ⟨ad329, e329, hx329_0⟩ := Kd.at_int HR0.out x4_1 p329 q329
                        cases e329
                        (try replace hx329_0 := (HB.out.cell (World.block_lt_of_cell? w _ hx329_0)).trans hx329_0)
                        replace p329 := eq_true p329
                        replace q329 := eq_true q329
                        go_wp2_with (first | ((with_reducible refine gate_builtin (b := .append) (xs := #[.tmp 35, .tmp 37]) rfl ?_); at_builtin; refine Kd.R_append (Kd.int .i64) (w0 := w) w.heap.size rfl (.tmp 35) (.tmp 37) 28 3 (.int .i64 0) 8 rfl Try.underlying28 info3 rfl (by decide) (by omega) u3 x3_1 x4_1 [.int .i64 x4_1] (fun _ => True) (fun _ => False) rfl rfl ?aP (fun _ hk => hk.elim) ?aF ?aO ?aB ?aS ?aL ?_; (case aP => exact rfl); (case aB => exact (by repeat (first | (with_reducible first | exact HB.out | apply below_alloc | apply pw_below_drewN | apply below_drew1) | exact HB.out))); (case aF => exact (fun _ _ => trivial)); (case aO => exact (by (with_reducible repeat (first | apply Kd.R_alloc | apply Kd.R_drewN | apply Kd.R_drew)); exact HO_3.out)); (case aS => exact (below_size (by repeat (first | (with_reducible first | exact HB.out | apply below_alloc | apply pw_below_drewN | apply below_drew1) | exact HB.out)))); (case aL => have := LMc14.out; omega); intro v335 w15 ho hb hg hat; rw [← Ny334.out] at ho; have n0_ := Aside0.mk (hb); have n1_ := Aside0.mk (ho); clear HB; clear HO_3; have HB := n0_; have HO336 := n1_; clear n0_ n1_; clear ho hb hg hat))
                        go_roundg kj1
                        case measure => have := HK1.out; have := HJ1.out; omega
                        case rel => exact ⟨(y334), (wrap64 (x4_1 + 1)), (by first | rfl | (simp; done) | (simp [*]; done)), H', ⟨by have := HK1.out; have := HJ1.out; omega⟩, ⟨by (with_reducible repeat (first | apply Kd.R_alloc | apply Kd.R_drewN | apply Kd.R_drew)); exact HO336.out⟩, ⟨by repeat (first | (with_reducible first | exact HB.out | apply below_alloc | apply pw_below_drewN | apply below_drew1) | exact HB.out)⟩⟩
                      · rw [if_neg c14] at H
                        exact absurd H (by simp)
                  · rw [if_neg c8] at H
                    have c8b0 : decide (x4_1 < (Int.tmod (wrap64 (rd l0 x4_1)) (wrap64 (x4_1 + 2)))) = false := decide_eq_false c8
                    clear c8
                    by_cases c16 : (Int.tmod (wrap64 (rd l0 x4_1)) (wrap64 (x4_1 + 2))) < x4_1
                    · rw [if_pos c16] at H
                      have c16b0 : decide ((Int.tmod (wrap64 (rd l0 x4_1)) (wrap64 (x4_1 + 2))) < x4_1) = true := decide_eq_true c16
                      clear c16
                      obtain ⟨ji17, hji17⟩ : ∃ j_ : Int, (Int.tmod (wrap64 (rd l0 x4_1)) (wrap64 (x4_1 + 2))) = j_ := ⟨_, rfl⟩
                      replace H : (if 0 ≤ (ji17) then (if (ji17) < (x3_1.length : Int) then (if x3_1.length < 17592186044416 then (scarfjointref02_Made.l0 kj1 l0 (x3_1 ++ [rd x3_1 (ji17)]) (wrap64 (x4_1 + 1))) else (none)) else (none)) else (none)) = some r := by first | (rw [hji17] at H; exact H) | (simp only [hji17] at H ⊢; exact H)
                      (try rw [hji17] at c8b0)
                      (try rw [hji17] at c16b0)
                      by_cases c18 : 0 ≤ (ji17)
                      · rw [if_pos c18] at H
                        have c18b0 : decide (0 ≤ (ji17)) = true := decide_eq_true c18
                        clear c18
                        by_cases c19 : (ji17) < (x3_1.length : Int)
                        · rw [if_pos c19] at H
                          have c19b0 : decide ((ji17) < (x3_1.length : Int)) = true := decide_eq_true c19
                          clear c19
                          by_cases c20 : x3_1.length < 17592186044416
                          · rw [if_pos c20] at H
                            have LMc20 := Aside0.mk c20
                            clear c20
                            obtain ⟨y338, hy338⟩ : ∃ y_ : List Int, y_ = (x3_1 ++ [rd x3_1 (ji17)]) := ⟨_, rfl⟩
                            replace H : (scarfjointref02_Made.l0 kj1 l0 y338 (wrap64 (x4_1 + 1))) = some r := by first | (rw [hy338]; with_reducible exact H) | (have H2_ := (Option.bind_some _ _).symm.trans H; rw [hy338]; with_reducible exact H2_) | (have H2_ := (Option.bind_some _ _).symm.trans H; with_reducible exact H2_) | with_reducible exact H | (rw [hy338]; exact H) | exact H
                            have Ny338 := Aside0.mk hy338
                            clear hy338
                            have H' := Aside0.mk H
                            clear H
                            have p329 : 0 ≤ (x4_1 : Int) := of_decide_eq_true (by first | (with_reducible assumption) | assumption)
                            have q329 : x4_1 < (l0.length : Int) := of_decide_eq_true (by first | (with_reducible assumption) | assumption)
                            obtain ⟨ad329, e329, hx329_0⟩ := Kd.at_int HR0.out x4_1 p329 q329
                            cases e329
                            (try replace hx329_0 := (HB.out.cell (World.block_lt_of_cell? w _ hx329_0)).trans hx329_0)
                            replace p329 := eq_true p329
                            replace q329 := eq_true q329
                            obtain ⟨Ao21, co21, eo21⟩ := Kd.R_slice HO_3.out
                            subst eo21
                            have p337 : 0 ≤ ((ji17) : Int) := of_decide_eq_true (by first | (with_reducible assumption) | assumption)
                            have q337 : (ji17) < (x3_1.length : Int) := of_decide_eq_true (by first | (with_reducible assumption) | assumption)
                            obtain ⟨ad337, e337, hx337_0⟩ := Kd.at_int (Kd.R_reads' HO_3.out).2.2 (ji17) p337 q337
                            cases e337
                            replace p337 := eq_true p337
                            replace q337 := eq_true q337
                            go_wp2_with (first | ((with_reducible refine gate_builtin (b := .append) (xs := #[.tmp 35, .tmp 37]) rfl ?_); at_builtin; refine Kd.R_append (Kd.int .i64) (w0 := w) w.heap.size rfl (.tmp 35) (.tmp 37) 28 3 (.int .i64 0) 8 rfl Try.underlying28 info3 rfl (by decide) (by omega) (.slice (some ad337) x3_1.length co21) x3_1 (rd x3_1 (ji17)) [.int .i64 (rd x3_1 (ji17))] (fun _ => True) (fun _ => False) rfl rfl ?aP (fun _ hk => hk.elim) ?aF ?aO ?aB ?aS ?aL ?_; (case aP => exact rfl); (case aB => exact (by repeat (first | (with_reducible first | exact HB.out | apply below_alloc | apply pw_below_drewN | apply below_drew1) | exact HB.out))); (case aF => exact (fun _ _ => trivial)); (case aO => exact (by (with_reducible repeat (first | apply Kd.R_alloc | apply Kd.R_drewN | apply Kd.R_drew)); exact HO_3.out)); (case aS => exact (below_size (by repeat (first | (with_reducible first | exact HB.out | apply below_alloc | apply pw_below_drewN | apply below_drew1) | exact HB.out)))); (case aL => have := LMc20.out; omega); intro v339 w22 ho hb hg hat; rw [← Ny338.out] at ho; have n0_ := Aside0.mk (hb); have n1_ := Aside0.mk (ho); clear HB; clear HO_3; have HB := n0_; have HO340 := n1_; clear n0_ n1_; clear ho hb hg hat))
                            go_roundg kj1
                            case measure => have := HK1.out; have := HJ1.out; omega
                            case rel => exact ⟨(y338), (wrap64 (x4_1 + 1)), (by first | rfl | (simp; done) | (simp [*]; done)), H', ⟨by have := HK1.out; have := HJ1.out; omega⟩, ⟨by (with_reducible repeat (first | apply Kd.R_alloc | apply Kd.R_drewN | apply Kd.R_drew)); exact HO340.out⟩, ⟨by repeat (first | (with_reducible first | exact HB.out | apply below_alloc | apply pw_below_drewN | apply below_drew1) | exact HB.out)⟩⟩
                          · rw [if_neg c20] at H
                            exact absurd H (by simp)
                        · rw [if_neg c19] at H
                          exact absurd H (by simp)
                      · rw [if_neg c18] at H
                        exact absurd H (by simp)
                    · rw [if_neg c16] at H
                      have c16b0 : decide ((Int.tmod (wrap64 (rd l0 x4_1)) (wrap64 (x4_1 + 2))) < x4_1) = false := decide_eq_false c16
                      clear c16
                      by_cases c23 : x3_1.length < 17592186044416
                      · rw [if_pos c23] at H
                        have LMc23 := Aside0.mk c23
                        clear c23
                        obtain ⟨y341, hy341⟩ : ∃ y_ : List Int, y_ = (x3_1 ++ [Int.tmod (wrap64 (rd l0 x4_1)) (wrap64 (x4_1 + 2))]) := ⟨_, rfl⟩
                        replace H : (scarfjointref02_Made.l0 kj1 l0 y341 (wrap64 (x4_1 + 1))) = some r := by first | (rw [hy341]; with_reducible exact H) | (have H2_ := (Option.bind_some _ _).symm.trans H; rw [hy341]; with_reducible exact H2_) | (have H2_ := (Option.bind_some _ _).symm.trans H; with_reducible exact H2_) | with_reducible exact H | (rw [hy341]; exact H) | exact H
                        have Ny341 := Aside0.mk hy341
                        clear hy341
                        have H' := Aside0.mk H
                        clear H
                        have p329 : 0 ≤ (x4_1 : Int) := of_decide_eq_true (by first | (with_reducible assumption) | assumption)
                        have q329 : x4_1 < (l0.length : Int) := of_decide_eq_true (by first | (with_reducible assumption) | assumption)
                        obtain ⟨ad329, e329, hx329_0⟩ := Kd.at_int HR0.out x4_1 p329 q329
                        cases e329
                        (try replace hx329_0 := (HB.out.cell (World.block_lt_of_cell? w _ hx329_0)).trans hx329_0)
                        replace p329 := eq_true p329
                        replace q329 := eq_true q329
                        go_wp2_with (first | ((with_reducible refine gate_builtin (b := .append) (xs := #[.tmp 35, .tmp 37]) rfl ?_); at_builtin; refine Kd.R_append (Kd.int .i64) (w0 := w) w.heap.size rfl (.tmp 35) (.tmp 37) 28 3 (.int .i64 0) 8 rfl Try.underlying28 info3 rfl (by decide) (by omega) u3 x3_1 (Int.tmod (wrap64 (rd l0 x4_1)) (wrap64 (x4_1 + 2))) [.int .i64 (Int.tmod (wrap64 (rd l0 x4_1)) (wrap64 (x4_1 + 2)))] (fun _ => True) (fun _ => False) rfl rfl ?aP (fun _ hk => hk.elim) ?aF ?aO ?aB ?aS ?aL ?_; (case aP => exact rfl); (case aB => exact (by repeat (first | (with_reducible first | exact HB.out | apply below_alloc | apply pw_below_drewN | apply below_drew1) | exact HB.out))); (case aF => exact (fun _ _ => trivial)); (case aO => exact (by (with_reducible repeat (first | apply Kd.R_alloc | apply Kd.R_drewN | apply Kd.R_drew)); exact HO_3.out)); (case aS => exact (below_size (by repeat (first | (with_reducible first | exact HB.out | apply below_alloc | apply pw_below_drewN | apply below_drew1) | exact HB.out)))); (case aL => have := LMc23.out; omega); intro v342 w24 ho hb hg hat; rw [← Ny341.out] at ho; have n0_ := Aside0.mk (hb); have n1_ := Aside0.mk (ho); clear HB; clear HO_3; have HB := n0_; have HO343 := n1_; clear n0_ n1_; clear ho hb hg hat))
                        go_roundg kj1
                        case measure => have := HK1.out; have := HJ1.out; omega
                        case rel => exact ⟨(y341), (wrap64 (x4_1 + 1)), (by first | rfl | (simp; done) | (simp [*]; done)), H', ⟨by have := HK1.out; have := HJ1.out; omega⟩, ⟨by (with_reducible repeat (first | apply Kd.R_alloc | apply Kd.R_drewN | apply Kd.R_drew)); exact HO343.out⟩, ⟨by repeat (first | (with_reducible first | exact HB.out | apply below_alloc | apply pw_below_drewN | apply below_drew1) | exact HB.out)⟩⟩
                      · rw [if_neg c23] at H
                        exact absurd H (by simp)
              · rw [if_neg c6] at H
                exact absurd H (by simp)
            · rw [if_neg c5] at H
              exact absurd H (by simp)
          · replace c4 := Bool.eq_false_iff.mpr c4
            subst c4
            have H1 : (some x3_1) = some r := by rw [if_neg (show ¬ (false = true) by decide)] at H; exact H
            clear H
            have H := H1
            clear H1
            obtain rfl := Option.some.inj H
            go_wp2
            go_ret
            exact ⟨_, by first | rfl | (simp [errW_none, errW_some] <;> rfl) | (simp [*, errW_none, errW_some] <;> rfl), by (with_reducible repeat (first | apply Kd.R_alloc | apply Kd.R_drewN | apply Kd.R_drew)); exact HO_3.out, by repeat (first | (with_reducible first | exact HB.out | apply below_alloc | apply pw_below_drewN | apply below_drew1) | exact HB.out)⟩

end Go.Proofs.Ytjkgjlaockihaaa.P
