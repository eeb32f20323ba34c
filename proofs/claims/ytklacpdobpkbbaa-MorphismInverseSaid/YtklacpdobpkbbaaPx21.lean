-- Written by wip/drive.py of this session's repo over the kit's print.py (with contracts of the session's own): not the print's own text
import Derived.Test.YtklacpdobpkbbaaPx0
import Derived.Test.YtklacpdobpkbbaaPx8
namespace Go.Proofs.Ytklacpdobpkbbaa.P
open Go.RowKit Go.Proofs.YtklacpdobpkbbaaW.PrintWords Go.Proofs.YtklacpdobpkbbaaW.PrintLast Go.Proofs.YtklacpdobpkbbaaW.PrintMore
attribute [local go_sem] max2_int min2_int max_two min_two max_three min_three max_four min_four   -- for this text's walks alone
set_option linter.unusedVariables false
set_option linter.unusedSimpArgs false

/-! ### morphism_through: function 50 -/
def morphism_through.l0 : Nat → List Int → List Int → List Int → Int → Int → Option (List Int)
 | 0, _, _, _, _, _ => none
 | k + 1, x1, x5, x11, x12, x13 => if x13 < x12 then (if 0 ≤ x13 then (if x13 < (x11.length : Int) then (if 0 ≤ (rd x11 x13) then (if (rd x11 x13) < (x1.length : Int) then (if x13 < (x5.length : Int) then (morphism_through.l0 k x1 (x5.set (x13 : Int).toNat (rd x1 (rd x11 x13))) x11 x12 (wrap64 (x13 + 1))) else (none)) else (none)) else (none)) else (none)) else (none)) else (some x5)
def morphism_through.f (k : Nat) (l0 : List Int) (l1 : List Int) : Option (List Int) := if 0 ≤ (l0.length : Int) then (if ((l0.length : Int) : Int).toNat ≤ 35184372088832 then (morphism_through.l0 k l1 (List.replicate ((l0.length : Int) : Int).toNat 0) l0 (l0.length : Int) 0) else (none)) else (none)
theorem morphism_through.mono_l : ∀ k, (∀ y0 y1 y2 y3 y4, LeO (morphism_through.l0 k y0 y1 y2 y3 y4) (morphism_through.l0 (k + 1) y0 y1 y2 y3 y4))
 | 0 => fun _ _ _ _ _ r h => by simp [morphism_through.l0] at h
 | k + 1 => by
  have ih0 := morphism_through.mono_l k
  ·intro y0 y1 y2 y3 y4
   unfold morphism_through.l0
   repeat' first
   | (with_reducible exact ih0 _ _ _ _ _)
   | (with_reducible exact LeO.refl _)
   | (with_reducible exact LeO.none _)
   | (with_reducible refine LeO.ite ?_ ?_)
   | (with_reducible refine LeO.bind ?_ (fun _ => ?_))
   | exact ih0 _ _ _ _ _
   | exact LeO.none _
   | refine LeO.ite ?_ ?_
   | refine LeO.bind ?_ (fun _ => ?_)
theorem morphism_through.mono : ∀ a0 a1 k, LeO (morphism_through.f k a0 a1) (morphism_through.f (k + 1) a0 a1) := by
 intro a0 a1 k
 have ih0 := morphism_through.mono_l k
 unfold morphism_through.f
 repeat' first
   | (with_reducible exact ih0 _ _ _ _ _)
   | (with_reducible exact LeO.refl _)
   | (with_reducible exact LeO.none _)
   | (with_reducible refine LeO.ite ?_ ?_)
   | (with_reducible refine LeO.bind ?_ (fun _ => ?_))
   | exact ih0 _ _ _ _ _
   | exact LeO.none _
   | refine LeO.ite ?_ ?_
   | refine LeO.bind ?_ (fun _ => ?_)
set_option maxHeartbeats 8000000 in
set_option maxRecDepth 100000 in
theorem morphism_through.calls (k : Nat) (A0 : Option Addr) (c0 : Nat) (l0 : List Int) (A1 : Option Addr) (c1 : Nat) (l1 : List Int) (r : List Int) (w : World) (hr0 : Kd.C (Kd.int .i64) w A0 l0.length l0) (hc0 : l0.length ≤ c0) (hr1 : Kd.C (Kd.int .i64) w A1 l1.length l1) (hc1 : l1.length ≤ c1) (h : morphism_through.f k l0 l1 = some r) :
  Calls Try.prog 50 #[.slice A0 l0.length c0, .slice A1 l1.length c1] w fun e w' => ∃ v0_ : Value, e = .returned (v0_) ∧ Kd.R (Kd.int .i64) 3 w' w.heap.size (fun _ => True) v0_ r ∧ Below w.heap.size w w' := by
 have HR0 := Aside0.mk hr0
 have HC0 := Aside0.mk hc0
 clear hr0 hc0
 have HR1 := Aside0.mk hr1
 have HC1 := Aside0.mk hc1
 clear hr1 hc1
 have HB := Aside0.mk (Below.refl w.heap.size w)
 have H : (if 0 ≤ (l0.length : Int) then (if ((l0.length : Int) : Int).toNat ≤ 35184372088832 then (morphism_through.l0 k l1 (List.replicate ((l0.length : Int) : Int).toNat 0) l0 (l0.length : Int) 0) else (none)) else (none)) = some r := h
 clear h
 by_cases c3 : 0 ≤ (l0.length : Int)
 ·rw [if_pos c3] at H
  have c3b0 := eq_true c3
  have c3b1 : decide (0 ≤ (l0.length : Int)) = true := decide_eq_true c3
  clear c3
  by_cases c4 : ((l0.length : Int) : Int).toNat ≤ 35184372088832
  ·rw [if_pos c4] at H
   have c4b0 := eq_true c4
   have c4b1 : decide (((l0.length : Int) : Int).toNat ≤ 35184372088832) = true := decide_eq_true c4
   clear c4
   obtain ⟨y337, hy337⟩ : ∃ y_ : List Int, y_ = (List.replicate ((l0.length : Int) : Int).toNat 0) := ⟨_, rfl⟩
   replace H : (morphism_through.l0 k l1 y337 l0 (l0.length : Int) 0) = some r := by first | (rw [hy337]; with_reducible exact H) | (have H2_ := (Option.bind_some _ _).symm.trans H; rw [hy337]; with_reducible exact H2_) | (have H2_ := (Option.bind_some _ _).symm.trans H; with_reducible exact H2_) | with_reducible exact H | (rw [hy337]; exact H) | exact H
   have Ny337 := Aside0.mk hy337
   clear hy337
   have H' := Aside0.mk H
   clear H
   go_enter Try.func50, Try.ntmps50
   go_wp2_with (first | ((with_reducible refine gate_dst (N := 10) rfl ?_); refine Kd.R_make (Kd.int .i64) _ 3 rfl (N := 10) rfl 22 _ _ rfl (l0.length : Int) rfl rfl Try.underlying22 (.int .i64 0) 8 info3 rfl (by decide) (by omega) 0 (ok := fun _ => True) (okp := fun _ => True) rfl (fun _ hk => hk) trivial (of_decide_eq_true (by first | (with_reducible assumption) | assumption)) (Nat.le_trans (Nat.mul_le_mul_right _ (of_decide_eq_true (by first | (with_reducible assumption) | assumption) : (l0.length : Int).toNat ≤ 35184372088832)) (by omega)) (Below.refl _ _) (Nat.le_refl _) ?_; intro v338 w5 ho6 hb hg_ hnew_; clear hg_ hnew_; (first | rw [← Ny337.out] at ho6 | (simp only [Int.reduceToNat] at ho6; rw [← Ny337.out] at ho6)); have HO339 := Aside0.mk (Kd.R_lower ho6 (below_size (mb_ HB.out))); replace HB := Aside0.mk (below_step (mb_ HB.out) hb); clear hb ho6))
   go_loopg [13] k (fun kq v13 w' => ∃ (x5_1 : List Int) (x13_1 : Int), v13 = .int .i64 x13_1 ∧ Aside0 (morphism_through.l0 kq l1 x5_1 l0 (l0.length : Int) x13_1 = some r) ∧ Aside0 (kq ≤ k) ∧ Aside0 (Kd.R (Kd.int .i64) 3 w' w.heap.size (fun _ => True) v338 x5_1) ∧ Aside0 (Below w.heap.size w w'))
   case atStart => exact ⟨(y337), (0), (by first | rfl | (simp; done) | (simp [*]; done)), H', ⟨Nat.le_refl _⟩, ⟨mr_ HO339.out⟩, ⟨mb_ HB.out⟩⟩
   case round =>
    clear H'
    try clear c1
    try clear p2
    try clear c3
    try clear c3b0
    try clear c3b1
    try clear c4
    try clear c4b0
    try clear c4b1
    try clear c5
    obtain ⟨x5_1, x13_1, rfl, HA, HK1, HO_5, HB⟩ := hrel
    cases gk with
    | zero => exact absurd HA.out (by simp [morphism_through.l0])
    | succ k1 =>
     have H := HA.out
     clear HA
     simp only [morphism_through.l0] at H
     by_cases c7 : x13_1 < (l0.length : Int)
     ·rw [if_pos c7] at H
      have c7b0 : decide (x13_1 < (l0.length : Int)) = true := decide_eq_true c7
      clear c7
      by_cases c8 : 0 ≤ x13_1
      ·rw [if_pos c8] at H
       have c8b0 : decide (0 ≤ x13_1) = true := decide_eq_true c8
       clear c8
       by_cases c9 : x13_1 < (l0.length : Int)
       ·rw [if_pos c9] at H
        have c9b0 : decide (x13_1 < (l0.length : Int)) = true := decide_eq_true c9
        clear c9
        by_cases c10 : 0 ≤ (rd l0 x13_1)
        ·rw [if_pos c10] at H
         have c10b0 : decide (0 ≤ (rd l0 x13_1)) = true := decide_eq_true c10
         clear c10
         by_cases c11 : (rd l0 x13_1) < (l1.length : Int)
         ·rw [if_pos c11] at H
          have c11b0 : decide ((rd l0 x13_1) < (l1.length : Int)) = true := decide_eq_true c11
          clear c11
          by_cases c12 : x13_1 < (x5_1.length : Int)
          ·rw [if_pos c12] at H
           have c12b0 : decide (x13_1 < (x5_1.length : Int)) = true := decide_eq_true c12
           clear c12
           obtain ⟨y342, hy342⟩ : ∃ y_ : List Int, y_ = (x5_1.set (x13_1 : Int).toNat (rd l1 (rd l0 x13_1))) := ⟨_, rfl⟩
           replace H : (morphism_through.l0 k1 l1 y342 l0 (l0.length : Int) (wrap64 (x13_1 + 1))) = some r := by first | (rw [hy342]; with_reducible exact H) | (have H2_ := (Option.bind_some _ _).symm.trans H; rw [hy342]; with_reducible exact H2_) | (have H2_ := (Option.bind_some _ _).symm.trans H; with_reducible exact H2_) | with_reducible exact H | (rw [hy342]; exact H) | exact H
           have Ny342 := Aside0.mk hy342
           clear hy342
           have H' := Aside0.mk H
           clear H
           have p340 : 0 ≤ (x13_1 : Int) := of_decide_eq_true (by first | (with_reducible assumption) | assumption)
           have q340 : x13_1 < (l0.length : Int) := of_decide_eq_true (by first | (with_reducible assumption) | assumption)
           obtain ⟨ad340, e340, hx340_0⟩ := Kd.at_int HR0.out x13_1 p340 q340
           cases e340
           (try replace hx340_0 := (HB.out.cell (World.block_lt_of_cell? w _ hx340_0)).trans hx340_0)
           replace p340 := eq_true p340
           replace q340 := eq_true q340
           have p341 : 0 ≤ ((rd l0 x13_1) : Int) := of_decide_eq_true (by first | (with_reducible assumption) | assumption)
           have q341 : (rd l0 x13_1) < (l1.length : Int) := of_decide_eq_true (by first | (with_reducible assumption) | assumption)
           obtain ⟨ad341, e341, hx341_0⟩ := Kd.at_int HR1.out (rd l0 x13_1) p341 q341
           cases e341
           (try replace hx341_0 := (HB.out.cell (World.block_lt_of_cell? w _ hx341_0)).trans hx341_0)
           replace p341 := eq_true p341
           replace q341 := eq_true q341
           have p13 : 0 ≤ (x13_1 : Int) := of_decide_eq_true (by first | (with_reducible assumption) | assumption)
           have q13 : (x13_1 : Int) < ((x5_1.length : Int) : Int) := of_decide_eq_true (by first | (with_reducible assumption) | assumption)
           obtain ⟨go13, co13, eo13, gb13, gl13, cl13, HG13⟩ := Kd.R_form HO_5.out (by omega)
           (first | cases eo13 | (injection eo13 with ea_ en_ ec_; (first | subst ea_ | (injection ea_ with ea_; subst ea_)); subst ec_; clear en_))
           have GB13 := Aside0.mk gb13
           have GG13 := Aside0.mk HG13
           clear gb13 gl13 HG13
           obtain ⟨hx13_0, hf13_0⟩ := Kd.R_celln 0 HO_5.out (x13_1 : Int) p13 q13
           replace p13 := eq_true p13
           replace q13 := eq_true q13
           have HP14 := Kd.R_putg HO_5.out (x13_1 : Int) (rd l1 (rd l0 x13_1))
           go_wp2_with (first | ((with_reducible refine gate_store (t := 3) (p := 24) rfl ?_); refine store_event (t := 3) (p := 24) (v := ?vo_w15) (w1 := (wr.setCell ⟨go13, (x13_1 : Int).toNat, none⟩ (.int .i64 (rd l1 (rd l0 x13_1))))) ?hg ?ho ?hn ?hr ?_; (case ho => rfl); (case hg => rfl); (case hn => rfl); (case hr => first | (go_simp; done) | (go_simp; rfl)); intro w15 hw; have hg : wr.grownBy w15 (some go13) := (by rw [hw]; exact HP14.2); have hp_ : Kd.R (Kd.int .i64) 3 w15 w.heap.size (fun _ => True) (.slice (some ⟨go13, 0, none⟩) x5_1.length co13) y342 := (by rw [hw, Ny342.out]; exact HP14.1); clear HP14; replace HO_5 := Aside0.mk (hp_); replace HB := Aside0.mk ((by rw [hw]; exact below_set (HB.out) GB13.out : Below w.heap.size w w15)); clear hg hw hp_))
           go_roundg k1
           case measure => have := HK1.out; omega
           case rel => exact ⟨(y342), (wrap64 (x13_1 + 1)), (by first | rfl | (simp; done) | (simp [*]; done)), H', ⟨by have := HK1.out; omega⟩, ⟨mr_ HO_5.out⟩, ⟨mb_ HB.out⟩⟩
          rw [if_neg c12] at H
          exact absurd H (by simp)
         rw [if_neg c11] at H
         exact absurd H (by simp)
        rw [if_neg c10] at H
        exact absurd H (by simp)
       rw [if_neg c9] at H
       exact absurd H (by simp)
      rw [if_neg c8] at H
      exact absurd H (by simp)
     rw [if_neg c7] at H
     have c7b0 : decide (x13_1 < (l0.length : Int)) = false := decide_eq_false c7
     clear c7
     obtain rfl := Option.some.inj H
     go_wp2
     go_ret
     exact ⟨_, by first | rfl | (simp [errW_none, errW_some] <;> rfl) | (simp [*, errW_none, errW_some] <;> rfl), mr_ HO_5.out, mb_ HB.out⟩
  rw [if_neg c4] at H
  exact absurd H (by simp)
 rw [if_neg c3] at H
 exact absurd H (by simp)

/-! ### morphism_Compose: function 29 -/
def morphism_Compose.f (k : Nat) (l0_0 : List Int) (l0_1 : List (S65)) (l1_0 : List Int) (l1_1 : List (S65)) (l2_0 : List Int) (l2_1 : List (S65)) (l3_0 : List Int) (l3_1 : List Int) (l4_0 : List Int) (l4_1 : List Int) : Option (List Int × List Int × Int) := (morphism_Valid.f k l0_0 l0_1 l1_0 l1_1 l3_0 l3_1).bind fun t349 => (if t349 = 0 then ((morphism_Valid.f k l1_0 l1_1 l2_0 l2_1 l4_0 l4_1).bind fun t350 => (if t350 = 0 then ((morphism_through.f k l3_0 l4_0).bind fun t351 => ((morphism_through.f k l3_1 l4_1).bind fun t354 => (some (t351, t354, 0)))) else (some (([] : List Int), ([] : List Int), t350)))) else (some (([] : List Int), ([] : List Int), t349)))
theorem morphism_Compose.mono : ∀ a0 a1 a2 a3 a4 a5 a6 a7 a8 a9 k, LeO (morphism_Compose.f k a0 a1 a2 a3 a4 a5 a6 a7 a8 a9) (morphism_Compose.f (k + 1) a0 a1 a2 a3 a4 a5 a6 a7 a8 a9) := by
 intro a0 a1 a2 a3 a4 a5 a6 a7 a8 a9 k
 unfold morphism_Compose.f
 repeat' first
   | (with_reducible exact morphism_Valid.mono _ _ _ _ _ _ _)
   | (with_reducible exact morphism_through.mono _ _ _)
   | (with_reducible exact LeO.refl _)
   | (with_reducible exact LeO.none _)
   | (with_reducible refine LeO.ite ?_ ?_)
   | (with_reducible refine LeO.bind ?_ (fun _ => ?_))
   | exact morphism_Valid.mono _ _ _ _ _ _ _
   | exact morphism_through.mono _ _ _
   | exact LeO.none _
   | refine LeO.ite ?_ ?_
   | refine LeO.bind ?_ (fun _ => ?_)
def morphism_Compose.T7 : Bool × List (List Nat × List Nat) := (true, [([], []), ([0], [0]), ([], []), ([2], [2]), ([1, 3], [1, 3]), ([], []), ([5], [5]), ([], []), ([7], [7]), ([6, 8, 4], [6, 8]), ([4, 9], [4, 9]), ([10, 9, 0, 1, 2, 3, 4, 5, 6, 7, 8, 9, 10], [10]), ([11, 0, 1, 2, 3, 4, 5, 6, 7, 8, 9, 10, 11], [])])
def morphism_Compose.B7 : List Nat := [0, 1, 0, 4, 15, 0, 32, 0, 128, 511, 1023, 2047, 4095]
theorem morphism_Compose.tab7 : rtab .any (opsOf Try.f29 7) = morphism_Compose.T7 := by kernel_rfl
theorem morphism_Compose.bits7 : waitsOk morphism_Compose.T7.2 morphism_Compose.B7 = true := by kernel_rfl
set_option maxHeartbeats 8000000 in
set_option maxRecDepth 100000 in
theorem morphism_Compose.calls (k : Nat) (A0_0 : Option Addr) (c0_0 : Nat) (l0_0 : List Int) (A0_1 : Option Addr) (c0_1 : Nat) (l0_1 : List (S65)) (A1_0 : Option Addr) (c1_0 : Nat) (l1_0 : List Int) (A1_1 : Option Addr) (c1_1 : Nat) (l1_1 : List (S65)) (A2_0 : Option Addr) (c2_0 : Nat) (l2_0 : List Int) (A2_1 : Option Addr) (c2_1 : Nat) (l2_1 : List (S65)) (A3_0 : Option Addr) (c3_0 : Nat) (l3_0 : List Int) (A3_1 : Option Addr) (c3_1 : Nat) (l3_1 : List Int) (A4_0 : Option Addr) (c4_0 : Nat) (l4_0 : List Int) (A4_1 : Option Addr) (c4_1 : Nat) (l4_1 : List Int) (r1 : List Int) (r2 : List Int) (r3 : Int) (w : World) (hr0_0 : Kd.C (Kd.int .i64) w A0_0 l0_0.length l0_0) (hc0_0 : l0_0.length ≤ c0_0) (hr0_1 : Kd.C k65 w A0_1 l0_1.length l0_1) (hc0_1 : l0_1.length ≤ c0_1) (hr1_0 : Kd.C (Kd.int .i64) w A1_0 l1_0.length l1_0) (hc1_0 : l1_0.length ≤ c1_0) (hr1_1 : Kd.C k65 w A1_1 l1_1.length l1_1) (hc1_1 : l1_1.length ≤ c1_1) (hr2_0 : Kd.C (Kd.int .i64) w A2_0 l2_0.length l2_0) (hc2_0 : l2_0.length ≤ c2_0) (hr2_1 : Kd.C k65 w A2_1 l2_1.length l2_1) (hc2_1 : l2_1.length ≤ c2_1) (hr3_0 : Kd.C (Kd.int .i64) w A3_0 l3_0.length l3_0) (hc3_0 : l3_0.length ≤ c3_0) (hr3_1 : Kd.C (Kd.int .i64) w A3_1 l3_1.length l3_1) (hc3_1 : l3_1.length ≤ c3_1) (hr4_0 : Kd.C (Kd.int .i64) w A4_0 l4_0.length l4_0) (hc4_0 : l4_0.length ≤ c4_0) (hr4_1 : Kd.C (Kd.int .i64) w A4_1 l4_1.length l4_1) (hc4_1 : l4_1.length ≤ c4_1) (h : morphism_Compose.f k l0_0 l0_1 l1_0 l1_1 l2_0 l2_1 l3_0 l3_1 l4_0 l4_1 = some (r1, r2, r3)) :
  Calls Try.prog 29 #[.agg #[.slice A0_0 l0_0.length c0_0, .slice A0_1 l0_1.length c0_1], .agg #[.slice A1_0 l1_0.length c1_0, .slice A1_1 l1_1.length c1_1], .agg #[.slice A2_0 l2_0.length c2_0, .slice A2_1 l2_1.length c2_1], .agg #[.slice A3_0 l3_0.length c3_0, .slice A3_1 l3_1.length c3_1], .agg #[.slice A4_0 l4_0.length c4_0, .slice A4_1 l4_1.length c4_1]] w fun e w' => ∃ v0_ v1_ : Value, e = .returned (.tuple #[.agg #[v0_, v1_], .int .i64 r3]) ∧ Kd.R (Kd.int .i64) 3 w' w.heap.size (fun k_ => some k_ ≠ (v1_ : Value).ownBlock) v0_ r1 ∧ Kd.R (Kd.int .i64) 3 w' w.heap.size (fun k_ => some k_ ≠ (v0_ : Value).ownBlock) v1_ r2 ∧ Below w.heap.size w w' := by
 have hu25 := Try.underlying25
 have hu27 := Try.underlying27
 have HR0_0 := Aside0.mk hr0_0
 have HC0_0 := Aside0.mk hc0_0
 clear hr0_0 hc0_0
 have HR0_1 := Aside0.mk hr0_1
 have HC0_1 := Aside0.mk hc0_1
 clear hr0_1 hc0_1
 have HR1_0 := Aside0.mk hr1_0
 have HC1_0 := Aside0.mk hc1_0
 clear hr1_0 hc1_0
 have HR1_1 := Aside0.mk hr1_1
 have HC1_1 := Aside0.mk hc1_1
 clear hr1_1 hc1_1
 have HR2_0 := Aside0.mk hr2_0
 have HC2_0 := Aside0.mk hc2_0
 clear hr2_0 hc2_0
 have HR2_1 := Aside0.mk hr2_1
 have HC2_1 := Aside0.mk hc2_1
 clear hr2_1 hc2_1
 have HR3_0 := Aside0.mk hr3_0
 have HC3_0 := Aside0.mk hc3_0
 clear hr3_0 hc3_0
 have HR3_1 := Aside0.mk hr3_1
 have HC3_1 := Aside0.mk hc3_1
 clear hr3_1 hc3_1
 have HR4_0 := Aside0.mk hr4_0
 have HC4_0 := Aside0.mk hc4_0
 clear hr4_0 hc4_0
 have HR4_1 := Aside0.mk hr4_1
 have HC4_1 := Aside0.mk hc4_1
 clear hr4_1 hc4_1
 have HB := Aside0.mk (Below.refl w.heap.size w)
 have H : ((morphism_Valid.f k l0_0 l0_1 l1_0 l1_1 l3_0 l3_1).bind fun t349 => (if t349 = 0 then ((morphism_Valid.f k l1_0 l1_1 l2_0 l2_1 l4_0 l4_1).bind fun t350 => (if t350 = 0 then ((morphism_through.f k l3_0 l4_0).bind fun t351 => ((morphism_through.f k l3_1 l4_1).bind fun t354 => (some (t351, t354, 0)))) else (some (([] : List Int), ([] : List Int), t350)))) else (some (([] : List Int), ([] : List Int), t349)))) = some (r1, r2, r3) := h
 clear h
 replace H := Option.bind_eq_some_iff.mp H
 obtain ⟨t349, A60, H⟩ := H
 replace H : (if t349 = 0 then ((morphism_Valid.f k l1_0 l1_1 l2_0 l2_1 l4_0 l4_1).bind fun t350 => (if t350 = 0 then ((morphism_through.f k l3_0 l4_0).bind fun t351 => ((morphism_through.f k l3_1 l4_1).bind fun t354 => (some (t351, t354, 0)))) else (some (([] : List Int), ([] : List Int), t350)))) else (some (([] : List Int), ([] : List Int), t349))) = some (r1, r2, r3) := H
 have A6 := Aside0.mk A60
 clear A60
 by_cases c7 : t349 = 0
 ·rw [if_pos c7] at H
  have c7b0 : (t349 == 0) = true := beq_iff_eq.mpr c7
  have c7b1 : (t349 != 0) = false := bne_eq_false_iff_eq.mpr c7
  clear c7
  replace H := Option.bind_eq_some_iff.mp H
  obtain ⟨t350, A80, H⟩ := H
  replace H : (if t350 = 0 then ((morphism_through.f k l3_0 l4_0).bind fun t351 => ((morphism_through.f k l3_1 l4_1).bind fun t354 => (some (t351, t354, 0)))) else (some (([] : List Int), ([] : List Int), t350))) = some (r1, r2, r3) := H
  have A8 := Aside0.mk A80
  clear A80
  by_cases c9 : t350 = 0
  ·rw [if_pos c9] at H
   have c9b0 : (t350 == 0) = true := beq_iff_eq.mpr c9
   have c9b1 : (t350 != 0) = false := bne_eq_false_iff_eq.mpr c9
   clear c9
   replace H := Option.bind_eq_some_iff.mp H
   obtain ⟨t351, A100, H⟩ := H
   replace H : ((morphism_through.f k l3_1 l4_1).bind fun t354 => (some (t351, t354, 0))) = some (r1, r2, r3) := H
   have A10 := Aside0.mk A100
   clear A100
   replace H := Option.bind_eq_some_iff.mp H
   obtain ⟨t354, A110, H⟩ := H
   replace H : (some (t351, t354, 0)) = some (r1, r2, r3) := H
   have A11 := Aside0.mk A110
   clear A110
   simp only [Option.some.injEq, Prod.mk.injEq] at H
   obtain ⟨rfl, rfl, rfl⟩ := H
   go_enter Try.func29, Try.ntmps29
   try go_wp2_with (first | ((with_reducible refine gate_dst (N := 5) rfl ?_); refine box_event ?hg (N := 5) ?hd (cs := #[.slice A0_0 l0_0.length c0_0, .slice A0_1 l0_1.length c0_1]) (t := 25) ?hr ?_; (case hd => rfl); (case hg => rfl); (case hr => first | (go_simp; done) | (go_simp; rfl)); intro gb343 hg w12 hbox hb; have BK343 := Aside0.mk (hbox); have GW343 := Aside0.mk (gw_ hg (mb_ HB.out)); have GE343 := Aside0.mk (gw_ hg (mb_ HB.out)); replace HB := Aside0.mk (below_step (mb_ HB.out) hb); clear hb hbox hg) | ((with_reducible refine gate_dst (N := 6) rfl ?_); refine box_event ?hg (N := 6) ?hd (cs := #[.slice A1_0 l1_0.length c1_0, .slice A1_1 l1_1.length c1_1]) (t := 25) ?hr ?_; (case hd => rfl); (case hg => rfl); (case hr => first | (go_simp; done) | (go_simp; rfl)); intro gb344 hg w13 hbox hb; have BK344 := Aside0.mk (hbox); have GW344 := Aside0.mk (gw_ hg (mbs_ HB.out)); have GE344 := Aside0.mk (gw_ hg (mbs_ HB.out)); replace HB := Aside0.mk (below_step (mbs_ HB.out) hb); have NB343_344 := Aside0.mk (nb_ hg (bk_ BK343.out)); have NB344_343 := Aside0.mk (nc_ hg (bk_ BK343.out)); replace BK343 := kb_ (bk_ BK343.out) hb; clear hb hbox hg) | ((with_reducible refine gate_dst (N := 7) rfl ?_); refine box_event ?hg (N := 7) ?hd (cs := #[.slice A2_0 l2_0.length c2_0, .slice A2_1 l2_1.length c2_1]) (t := 25) ?hr ?_; (case hd => rfl); (case hg => rfl); (case hr => first | (go_simp; done) | (go_simp; rfl)); intro gb345 hg w14 hbox hb; have BK345 := Aside0.mk (hbox); have GW345 := Aside0.mk (gw_ hg (mbs_ HB.out)); have GE345 := Aside0.mk (gw_ hg (mbs_ HB.out)); replace HB := Aside0.mk (below_step (mbs_ HB.out) hb); have NB343_345 := Aside0.mk (nb_ hg (bk_ BK343.out)); have NB345_343 := Aside0.mk (nc_ hg (bk_ BK343.out)); replace BK343 := kb_ (bk_ BK343.out) hb; have NB344_345 := Aside0.mk (nb_ hg (bk_ BK344.out)); have NB345_344 := Aside0.mk (nc_ hg (bk_ BK344.out)); replace BK344 := kb_ (bk_ BK344.out) hb; clear hb hbox hg) | ((with_reducible refine gate_dst (N := 8) rfl ?_); refine box_event ?hg (N := 8) ?hd (cs := #[.slice A3_0 l3_0.length c3_0, .slice A3_1 l3_1.length c3_1]) (t := 27) ?hr ?_; (case hd => rfl); (case hg => rfl); (case hr => first | (go_simp; done) | (go_simp; rfl)); intro gb346 hg w15 hbox hb; have BK346 := Aside0.mk (hbox); have GW346 := Aside0.mk (gw_ hg (mbs_ HB.out)); have GE346 := Aside0.mk (gw_ hg (mbs_ HB.out)); replace HB := Aside0.mk (below_step (mbs_ HB.out) hb); have NB343_346 := Aside0.mk (nb_ hg (bk_ BK343.out)); have NB346_343 := Aside0.mk (nc_ hg (bk_ BK343.out)); replace BK343 := kb_ (bk_ BK343.out) hb; have NB344_346 := Aside0.mk (nb_ hg (bk_ BK344.out)); have NB346_344 := Aside0.mk (nc_ hg (bk_ BK344.out)); replace BK344 := kb_ (bk_ BK344.out) hb; have NB345_346 := Aside0.mk (nb_ hg (bk_ BK345.out)); have NB346_345 := Aside0.mk (nc_ hg (bk_ BK345.out)); replace BK345 := kb_ (bk_ BK345.out) hb; clear hb hbox hg) | ((with_reducible refine gate_dst (N := 9) rfl ?_); refine box_event ?hg (N := 9) ?hd (cs := #[.slice A4_0 l4_0.length c4_0, .slice A4_1 l4_1.length c4_1]) (t := 27) ?hr ?_; (case hd => rfl); (case hg => rfl); (case hr => first | (go_simp; done) | (go_simp; rfl)); intro gb347 hg w16 hbox hb; have BK347 := Aside0.mk (hbox); have GW347 := Aside0.mk (gw_ hg (mbs_ HB.out)); have GE347 := Aside0.mk (gw_ hg (mbs_ HB.out)); replace HB := Aside0.mk (below_step (mbs_ HB.out) hb); have NB343_347 := Aside0.mk (nb_ hg (bk_ BK343.out)); have NB347_343 := Aside0.mk (nc_ hg (bk_ BK343.out)); replace BK343 := kb_ (bk_ BK343.out) hb; have NB344_347 := Aside0.mk (nb_ hg (bk_ BK344.out)); have NB347_344 := Aside0.mk (nc_ hg (bk_ BK344.out)); replace BK344 := kb_ (bk_ BK344.out) hb; have NB345_347 := Aside0.mk (nb_ hg (bk_ BK345.out)); have NB347_345 := Aside0.mk (nc_ hg (bk_ BK345.out)); replace BK345 := kb_ (bk_ BK345.out) hb; have NB346_347 := Aside0.mk (nb_ hg (bk_ BK346.out)); have NB347_346 := Aside0.mk (nc_ hg (bk_ BK346.out)); replace BK346 := kb_ (bk_ BK346.out) hb; clear hb hbox hg) | ((with_reducible refine gate_dst (N := 10) rfl ?_); refine box_event ?hg (N := 10) ?hd (cs := #[.slice none 0 0, .slice none 0 0]) (t := 27) ?hr ?_; (case hd => rfl); (case hg => rfl); (case hr => first | (go_simp; done) | (go_simp; rfl)); intro gb348 hg w17 hbox hb; have BK348 := Aside0.mk (hbox); have GW348 := Aside0.mk (gw_ hg (mbs_ HB.out)); have GE348 := Aside0.mk (gw_ hg (mbs_ HB.out)); replace HB := Aside0.mk (below_step (mbs_ HB.out) hb); have NB343_348 := Aside0.mk (nb_ hg (bk_ BK343.out)); have NB348_343 := Aside0.mk (nc_ hg (bk_ BK343.out)); replace BK343 := kb_ (bk_ BK343.out) hb; have NB344_348 := Aside0.mk (nb_ hg (bk_ BK344.out)); have NB348_344 := Aside0.mk (nc_ hg (bk_ BK344.out)); replace BK344 := kb_ (bk_ BK344.out) hb; have NB345_348 := Aside0.mk (nb_ hg (bk_ BK345.out)); have NB348_345 := Aside0.mk (nc_ hg (bk_ BK345.out)); replace BK345 := kb_ (bk_ BK345.out) hb; have NB346_348 := Aside0.mk (nb_ hg (bk_ BK346.out)); have NB348_346 := Aside0.mk (nc_ hg (bk_ BK346.out)); replace BK346 := kb_ (bk_ BK346.out) hb; have NB347_348 := Aside0.mk (nb_ hg (bk_ BK347.out)); have NB348_347 := Aside0.mk (nc_ hg (bk_ BK347.out)); replace BK347 := kb_ (bk_ BK347.out) hb; clear hb hbox hg; have hnb18 := NB343_344.out; have hnc18 := NB344_343.out; have hnb19 := NB343_345.out; have hnc19 := NB345_343.out; have hnb20 := NB343_346.out; have hnc20 := NB346_343.out; have hnb21 := NB343_347.out; have hnc21 := NB347_343.out; have hnb22 := NB343_348.out; have hnc22 := NB348_343.out; have hcz23_0 := bc0_ BK343.out; have hcz23_1 := bc1_ BK343.out; have hfz23_0 := blk_frozen BK343.out 0; have hfz23_1 := blk_frozen BK343.out 1; have hnb24 := NB344_345.out; have hnc24 := NB345_344.out; have hnb25 := NB344_346.out; have hnc25 := NB346_344.out; have hnb26 := NB344_347.out; have hnc26 := NB347_344.out; have hnb27 := NB344_348.out; have hnc27 := NB348_344.out; have hcz28_0 := bc0_ BK344.out; have hcz28_1 := bc1_ BK344.out; have hfz28_0 := blk_frozen BK344.out 0; have hfz28_1 := blk_frozen BK344.out 1; have hnb29 := NB346_345.out; have hnc29 := NB345_346.out; have hnb30 := NB346_347.out; have hnc30 := NB347_346.out; have hnb31 := NB346_348.out; have hnc31 := NB348_346.out; have hcz32_0 := bc0_ BK346.out; have hcz32_1 := bc1_ BK346.out; have hfz32_0 := blk_frozen BK346.out 0; have hfz32_1 := blk_frozen BK346.out 1) | ((with_reducible refine gate_callee (f := 12) rfl ?_); refine goesL_ (some 17) rfl rfl Try.func12 (by kernel_rfl) rfl #[.agg #[.slice A0_0 l0_0.length c0_0, .slice A0_1 l0_1.length c0_1], .agg #[.slice A1_0 l1_0.length c1_0, .slice A1_1 l1_1.length c1_1], .agg #[.slice A3_0 l3_0.length c3_0, .slice A3_1 l3_1.length c3_1]] rfl (by (try simp only [List.map_toArray, List.map_cons, List.map_nil]); first | done | rfl | (simp only [List.length_drop, List.length_take]; rfl)) ?_; (with_reducible refine (morphism_Valid.calls k _ _ l0_0 _ _ l0_1 _ _ l1_0 _ _ l1_1 _ _ l3_0 _ _ l3_1 t349 _ ?side1 ?side2 ?side3 ?side4 ?side5 ?side6 ?side7 ?side8 ?side9 ?side10 ?side11 ?side12 A6.out).mono ?_); (case side1 => exact mc_ (Kd.C_below HR0_0.out HB.out)); (case side2 => exact HC0_0.out); (case side3 => exact mc_ (Kd.C_below HR0_1.out HB.out)); (case side4 => exact HC0_1.out); (case side5 => exact mc_ (Kd.C_below HR1_0.out HB.out)); (case side6 => exact HC1_0.out); (case side7 => exact mc_ (Kd.C_below HR1_1.out HB.out)); (case side8 => exact HC1_1.out); (case side9 => exact mc_ (Kd.C_below HR3_0.out HB.out)); (case side10 => exact HC3_0.out); (case side11 => exact mc_ (Kd.C_below HR3_1.out HB.out)); (case side12 => exact HC3_1.out); rintro e w33 ⟨rfl, hb⟩; refine ⟨_, rfl, ?_⟩; replace BK343 := kb_ (bk_ BK343.out) hb; replace BK344 := kb_ (bk_ BK344.out) hb; replace BK345 := kb_ (bk_ BK345.out) hb; replace BK346 := kb_ (bk_ BK346.out) hb; replace BK347 := kb_ (bk_ BK347.out) hb; replace BK348 := kb_ (bk_ BK348.out) hb; replace HB := Aside0.mk (below_step (mbs_ HB.out) hb); (try clear hb); (try clear hb2); (try clear hk); (try clear hi); have hcz34_0 := bc0_ BK344.out; have hcz34_1 := bc1_ BK344.out; have hfz34_0 := blk_frozen BK344.out 0; have hfz34_1 := blk_frozen BK344.out 1; have hnb35 := NB345_347.out; have hnc35 := NB347_345.out; have hnb36 := NB345_348.out; have hnc36 := NB348_345.out; have hcz37_0 := bc0_ BK345.out; have hcz37_1 := bc1_ BK345.out; have hfz37_0 := blk_frozen BK345.out 0; have hfz37_1 := blk_frozen BK345.out 1; have hnb38 := NB347_348.out; have hnc38 := NB348_347.out; have hcz39_0 := bc0_ BK347.out; have hcz39_1 := bc1_ BK347.out; have hfz39_0 := blk_frozen BK347.out 0; have hfz39_1 := blk_frozen BK347.out 1) | ((with_reducible refine gate_callee (f := 12) rfl ?_); refine goesL_ (some 25) rfl rfl Try.func12 (by kernel_rfl) rfl #[.agg #[.slice A1_0 l1_0.length c1_0, .slice A1_1 l1_1.length c1_1], .agg #[.slice A2_0 l2_0.length c2_0, .slice A2_1 l2_1.length c2_1], .agg #[.slice A4_0 l4_0.length c4_0, .slice A4_1 l4_1.length c4_1]] rfl (by (try simp only [List.map_toArray, List.map_cons, List.map_nil]); first | done | rfl | (simp only [List.length_drop, List.length_take]; rfl)) ?_; (with_reducible refine (morphism_Valid.calls k _ _ l1_0 _ _ l1_1 _ _ l2_0 _ _ l2_1 _ _ l4_0 _ _ l4_1 t350 _ ?side1 ?side2 ?side3 ?side4 ?side5 ?side6 ?side7 ?side8 ?side9 ?side10 ?side11 ?side12 A8.out).mono ?_); (case side1 => exact mc_ (Kd.C_below HR1_0.out HB.out)); (case side2 => exact HC1_0.out); (case side3 => exact mc_ (Kd.C_below HR1_1.out HB.out)); (case side4 => exact HC1_1.out); (case side5 => exact mc_ (Kd.C_below HR2_0.out HB.out)); (case side6 => exact HC2_0.out); (case side7 => exact mc_ (Kd.C_below HR2_1.out HB.out)); (case side8 => exact HC2_1.out); (case side9 => exact mc_ (Kd.C_below HR4_0.out HB.out)); (case side10 => exact HC4_0.out); (case side11 => exact mc_ (Kd.C_below HR4_1.out HB.out)); (case side12 => exact HC4_1.out); rintro e w40 ⟨rfl, hb⟩; refine ⟨_, rfl, ?_⟩; replace BK343 := kb_ (bk_ BK343.out) hb; replace BK344 := kb_ (bk_ BK344.out) hb; replace BK345 := kb_ (bk_ BK345.out) hb; replace BK346 := kb_ (bk_ BK346.out) hb; replace BK347 := kb_ (bk_ BK347.out) hb; replace BK348 := kb_ (bk_ BK348.out) hb; replace HB := Aside0.mk (below_step (mbs_ HB.out) hb); (try clear hb); (try clear hb2); (try clear hk); (try clear hi)))
   replace BK343 := Aside0.mk (blk_drew BK343.out)
   replace BK344 := Aside0.mk (blk_drew BK344.out)
   replace BK345 := Aside0.mk (blk_drew BK345.out)
   replace BK346 := Aside0.mk (blk_drew BK346.out)
   replace BK347 := Aside0.mk (blk_drew BK347.out)
   replace BK348 := Aside0.mk (blk_drew BK348.out)
   replace HB := Aside0.mk (below_drew1 HB.out)
   refine start_ (n := 13) (S := fun w' => w'.cell? ⟨gb346, 0, none⟩ = some (.slice A3_0 l3_0.length c3_0) ∧ w'.cell? ⟨gb346, 1, none⟩ = some (.slice A3_1 l3_1.length c3_1) ∧ w'.cell? ⟨gb347, 0, none⟩ = some (.slice A4_0 l4_0.length c4_0) ∧ w'.cell? ⟨gb347, 1, none⟩ = some (.slice A4_1 l4_1.length c4_1)) (ds := []) #[false, false, false, false, false, false, false, false, false, false, false, false, false] (by kernel_rfl) rfl rfl ⟨(blk_cell BK346.out 0).trans rfl, (blk_cell BK346.out 1).trans rfl, (blk_cell BK347.out 0).trans rfl, (blk_cell BK347.out 1).trans rfl⟩ (fun hHeld => ?_); refine with_tabW morphism_Compose.tab7 morphism_Compose.bits7 (fun HT_ HW_ => ?_)
   generalize w40.drew = w41 at BK343 BK344 BK345 BK346 BK347 BK348 HB hHeld ⊢
   refine pw_ (i := 0) (N := some 30) (bm_ 13 1) rfl HT_.out ?_
   refine pw_ (i := 2) (N := some 32) (bm_ 13 5) rfl HT_.out ?_
   refine pw_ (i := 5) (N := some 35) (bm_ 13 37) rfl HT_.out ?_
   refine pw_ (i := 7) (N := some 37) (bm_ 13 165) rfl HT_.out ?_
   refine tw_ (i := 1) (N := some 31) (bm_ 13 167) rfl HT_.out HW_.out hHeld ?_
   refine tw_ (i := 3) (N := some 33) (bm_ 13 175) rfl HT_.out HW_.out hHeld ?_
   refine tw_ (i := 6) (N := some 36) (bm_ 13 239) rfl HT_.out HW_.out hHeld ?_
   refine tw_ (i := 8) (N := some 38) (bm_ 13 495) rfl HT_.out HW_.out hHeld ?_
   refine one_ (i := 4) (N := some 34) (bm_ 13 511) rfl rfl (one_of HT_.out (by kernel_rfl)) (by decide) (fun K hK => ?_)
   refine goes_ Try.func50 (by kernel_rfl) rfl #[.slice A3_0 l3_0.length c3_0, .slice A4_0 l4_0.length c4_0] (by rfl) rfl rfl (by (try simp only [List.map_toArray, List.map_cons, List.map_nil]); first | done | rfl | (simp only [List.length_drop, List.length_take]; rfl)) ?_
   with_reducible refine (morphism_through.calls k _ _ l3_0 _ _ l4_0 t351 _ ?side1 ?side2 ?side3 ?side4 A10.out).mono ?_
   (case side1 => exact mc_ (Kd.C_below HR3_0.out HB.out))
   (case side2 => exact HC3_0.out)
   (case side3 => exact mc_ (Kd.C_below HR4_0.out HB.out))
   (case side4 => exact HC4_0.out)
   rintro e w42 ⟨v352, rfl, ho0, hb⟩
   refine ⟨_, rfl, ?_⟩
   have HO353 := Aside0.mk (Kd.R_lower ho0 (below_size (mbs_ HB.out)))
   replace BK343 := kb_ (bk_ BK343.out) hb
   replace BK344 := kb_ (bk_ BK344.out) hb
   replace BK345 := kb_ (bk_ BK345.out) hb
   replace BK346 := kb_ (bk_ BK346.out) hb
   replace BK347 := kb_ (bk_ BK347.out) hb
   replace BK348 := kb_ (bk_ BK348.out) hb
   replace HB := Aside0.mk (below_step (mbs_ HB.out) hb)
   (try clear hb)
   (try clear hb2)
   (try clear hk)
   (try clear hi)
   (try clear ho0)
   refine hK.out _ _ ⟨(blk_cell BK346.out 0).trans rfl, (blk_cell BK346.out 1).trans rfl, (blk_cell BK347.out 0).trans rfl, (blk_cell BK347.out 1).trans rfl⟩ (fun hHeld => ?_)
   clear hK K
   refine norm_ (a' := ?_) ?_ ?_
   rotate_left
   ·show Act.put _ (some 34) _ = _
    simp only [Act.put, List.setIfInBounds_toArray, List.set_cons_zero, List.set_cons_succ, i64_w, i32_w]
    rfl
   refine one_ (i := 9) (N := some 39) (bm_ 13 1023) rfl rfl (one_of HT_.out (by kernel_rfl)) (by decide) (fun K hK => ?_)
   refine goes_ Try.func50 (by kernel_rfl) rfl #[.slice A3_1 l3_1.length c3_1, .slice A4_1 l4_1.length c4_1] (by rfl) rfl rfl (by (try simp only [List.map_toArray, List.map_cons, List.map_nil]); first | done | rfl | (simp only [List.length_drop, List.length_take]; rfl)) ?_
   with_reducible refine (morphism_through.calls k _ _ l3_1 _ _ l4_1 t354 _ ?side1 ?side2 ?side3 ?side4 A11.out).mono ?_
   (case side1 => exact mc_ (Kd.C_below HR3_1.out HB.out))
   (case side2 => exact HC3_1.out)
   (case side3 => exact mc_ (Kd.C_below HR4_1.out HB.out))
   (case side4 => exact HC4_1.out)
   rintro e w43 ⟨v355, rfl, ho0, hb⟩
   refine ⟨_, rfl, ?_⟩
   have HO356 := Aside0.mk (Kd.R_lower (Kd.R_new' ho0 (Kd.R_lt (mr_ HO353.out))) (below_size (mbs_ HB.out)))
   replace HO353 := Aside0.mk (Kd.R_elder' (mr_ HO353.out) (Kd.R_base ho0) hb)
   replace BK343 := kb_ (bk_ BK343.out) hb
   replace BK344 := kb_ (bk_ BK344.out) hb
   replace BK345 := kb_ (bk_ BK345.out) hb
   replace BK346 := kb_ (bk_ BK346.out) hb
   replace BK347 := kb_ (bk_ BK347.out) hb
   replace BK348 := kb_ (bk_ BK348.out) hb
   replace HB := Aside0.mk (below_step (mbs_ HB.out) hb)
   (try clear hb)
   (try clear hb2)
   (try clear hk)
   (try clear hi)
   (try clear ho0)
   obtain ⟨Ao44, co44, eo44⟩ := Kd.R_slice HO356.out
   (first | subst eo44 | (injection eo44 with f1_ f2_ f3_; have f4_ := f1_.symm; have f5_ := f3_.symm; clear f1_ f2_ f3_; subst f4_; subst f5_))
   obtain ⟨Ao45, co45, eo45⟩ := Kd.R_slice HO353.out
   (first | subst eo45 | (injection eo45 with f1_ f2_ f3_; have f4_ := f1_.symm; have f5_ := f3_.symm; clear f1_ f2_ f3_; subst f4_; subst f5_))
   refine hK.out _ _ ⟨(blk_cell BK346.out 0).trans rfl, (blk_cell BK346.out 1).trans rfl, (blk_cell BK347.out 0).trans rfl, (blk_cell BK347.out 1).trans rfl⟩ (fun hHeld => ?_)
   clear hK K
   refine norm_ (a' := ?_) ?_ ?_
   rotate_left
   ·show Act.put _ (some 39) _ = _
    simp only [Act.put, List.setIfInBounds_toArray, List.set_cons_zero, List.set_cons_succ, i64_w, i32_w]
    rfl
   refine pw_ (i := 10) (N := some 40) (bm_ 13 2047) rfl HT_.out ?_
   refine one_ (i := 11) (N := none) (bm_ 13 4095) rfl rfl (one_of HT_.out (by kernel_rfl)) (by decide) (fun K hK => ?_)
   have hs46 : w43.cell? ⟨gb348, 0, none⟩ = some (.slice none 0 0) := (blk_cell BK348.out 0).trans rfl
   have hfs46 := blk_frozen BK348.out 0
   have hns46_0 := NB343_348.out
   have hns46_1 := NB344_348.out
   have hns46_2 := NB345_348.out
   have hns46_3 := NB346_348.out
   have hns46_4 := NB347_348.out
   have hms46_0 := NB348_343.out
   have hms46_1 := NB348_344.out
   have hms46_2 := NB348_345.out
   have hms46_3 := NB348_346.out
   have hms46_4 := NB348_347.out
   have hs47 : w43.cell? ⟨gb348, 1, none⟩ = some (.slice none 0 0) := (blk_cell BK348.out 1).trans rfl
   have hfs47 := blk_frozen BK348.out 1
   have hns47_0 := NB343_348.out
   have hns47_1 := NB344_348.out
   have hns47_2 := NB345_348.out
   have hns47_3 := NB346_348.out
   have hns47_4 := NB347_348.out
   have hms47_0 := NB348_343.out
   have hms47_1 := NB348_344.out
   have hms47_2 := NB348_345.out
   have hms47_3 := NB348_346.out
   have hms47_4 := NB348_347.out
   refine skip_ (w1 := ?_) (by rfl) rfl ?_ ?_
   rotate_left
   ·go_simp
    rfl
   refine hK.out _ _ ⟨((cell_far (p := ⟨gb348, _, none⟩) NB346_348.out _).trans (((cell_far (p := ⟨gb348, _, none⟩) NB346_348.out _).trans (hHeld.1)))), ((cell_far (p := ⟨gb348, _, none⟩) NB346_348.out _).trans (((cell_far (p := ⟨gb348, _, none⟩) NB346_348.out _).trans (hHeld.2.1)))), ((cell_far (p := ⟨gb348, _, none⟩) NB347_348.out _).trans (((cell_far (p := ⟨gb348, _, none⟩) NB347_348.out _).trans (hHeld.2.2.1)))), ((cell_far (p := ⟨gb348, _, none⟩) NB347_348.out _).trans (((cell_far (p := ⟨gb348, _, none⟩) NB347_348.out _).trans (hHeld.2.2.2))))⟩ (fun hHeld => ?_)
   clear hK K
   refine pw_ (i := 12) (N := some 11) (bm_ 13 8191) rfl HT_.out ?_
   refine done_ (done_of HT_.out (by kernel_rfl)) ?_
   try go_wp2
   refine bodyPost_ret (results_ct rfl _ _ gb348 27 #[.slice Ao45 t351.length co45, .slice Ao44 t354.length co44] (0, 0) _ rfl (by (with_reducible repeat (first | refine blk_drewN ?_ _ | refine blk_drew ?_ | refine blk_alloc ?_ _)); refine blk_put (cs := #[.slice Ao45 t351.length co45, .slice none 0 0]) ?_ 1 _ rfl; (with_reducible repeat (first | refine blk_drewN ?_ _ | refine blk_drew ?_ | refine blk_alloc ?_ _)); refine blk_put (cs := #[.slice none 0 0, .slice none 0 0]) ?_ 0 _ rfl; (with_reducible repeat (first | refine blk_drewN ?_ _ | refine blk_drew ?_ | refine blk_alloc ?_ _)); exact BK348.out) Try.underlying27 rfl (by kernel_rfl)) rfl ?_
   exact ⟨_, _, by first | rfl | (simp [errW_none, errW_some] <;> rfl) | (simp [*, errW_none, errW_some] <;> rfl), by (with_reducible repeat (first | apply Kd.R_alloc | apply Kd.R_drewN | apply Kd.R_drew)); exact Kd.R_mono (Kd.R_far (p := ⟨gb348, 1, none⟩) (Kd.R_far (p := ⟨gb348, 0, none⟩) (Kd.R_types HO353.out BK348.out (by decide)) (fun _ hk => hk.2) (.slice Ao45 t351.length co45)) (fun _ hk => hk.2) (.slice Ao44 t354.length co44)) (fun _ hk => hk.1.2), by (with_reducible repeat (first | apply Kd.R_alloc | apply Kd.R_drewN | apply Kd.R_drew)); exact Kd.R_mono (Kd.R_far (p := ⟨gb348, 1, none⟩) (Kd.R_far (p := ⟨gb348, 0, none⟩) (Kd.R_types HO356.out BK348.out (by decide)) (fun _ hk => hk.2) (.slice Ao45 t351.length co45)) (fun _ hk => hk.2) (.slice Ao44 t354.length co44)) (fun _ hk => hk.1.2), mbs_ HB.out⟩
  rw [if_neg c9] at H
  have c9b0 : (t350 == 0) = false := beq_eq_false_iff_ne.mpr c9
  have c9b1 : (t350 != 0) = true := bne_iff_ne.mpr c9
  simp only [Option.some.injEq, Prod.mk.injEq] at H
  obtain ⟨rfl, rfl, rfl⟩ := H
  go_enter Try.func29, Try.ntmps29
  go_wp2_with (first | ((with_reducible refine gate_dst (N := 5) rfl ?_); refine box_event ?hg (N := 5) ?hd (cs := #[.slice A0_0 l0_0.length c0_0, .slice A0_1 l0_1.length c0_1]) (t := 25) ?hr ?_; (case hd => rfl); (case hg => rfl); (case hr => first | (go_simp; done) | (go_simp; rfl)); intro gb343 hg w48 hbox hb; have BK343 := Aside0.mk (hbox); have GW343 := Aside0.mk (gw_ hg (mb_ HB.out)); have GE343 := Aside0.mk (gw_ hg (mb_ HB.out)); replace HB := Aside0.mk (below_step (mb_ HB.out) hb); clear hb hbox hg) | ((with_reducible refine gate_dst (N := 6) rfl ?_); refine box_event ?hg (N := 6) ?hd (cs := #[.slice A1_0 l1_0.length c1_0, .slice A1_1 l1_1.length c1_1]) (t := 25) ?hr ?_; (case hd => rfl); (case hg => rfl); (case hr => first | (go_simp; done) | (go_simp; rfl)); intro gb344 hg w49 hbox hb; have BK344 := Aside0.mk (hbox); have GW344 := Aside0.mk (gw_ hg (mbs_ HB.out)); have GE344 := Aside0.mk (gw_ hg (mbs_ HB.out)); replace HB := Aside0.mk (below_step (mbs_ HB.out) hb); have NB343_344 := Aside0.mk (nb_ hg (bk_ BK343.out)); have NB344_343 := Aside0.mk (nc_ hg (bk_ BK343.out)); replace BK343 := kb_ (bk_ BK343.out) hb; clear hb hbox hg) | ((with_reducible refine gate_dst (N := 7) rfl ?_); refine box_event ?hg (N := 7) ?hd (cs := #[.slice A2_0 l2_0.length c2_0, .slice A2_1 l2_1.length c2_1]) (t := 25) ?hr ?_; (case hd => rfl); (case hg => rfl); (case hr => first | (go_simp; done) | (go_simp; rfl)); intro gb345 hg w50 hbox hb; have BK345 := Aside0.mk (hbox); have GW345 := Aside0.mk (gw_ hg (mbs_ HB.out)); have GE345 := Aside0.mk (gw_ hg (mbs_ HB.out)); replace HB := Aside0.mk (below_step (mbs_ HB.out) hb); have NB343_345 := Aside0.mk (nb_ hg (bk_ BK343.out)); have NB345_343 := Aside0.mk (nc_ hg (bk_ BK343.out)); replace BK343 := kb_ (bk_ BK343.out) hb; have NB344_345 := Aside0.mk (nb_ hg (bk_ BK344.out)); have NB345_344 := Aside0.mk (nc_ hg (bk_ BK344.out)); replace BK344 := kb_ (bk_ BK344.out) hb; clear hb hbox hg) | ((with_reducible refine gate_dst (N := 8) rfl ?_); refine box_event ?hg (N := 8) ?hd (cs := #[.slice A3_0 l3_0.length c3_0, .slice A3_1 l3_1.length c3_1]) (t := 27) ?hr ?_; (case hd => rfl); (case hg => rfl); (case hr => first | (go_simp; done) | (go_simp; rfl)); intro gb346 hg w51 hbox hb; have BK346 := Aside0.mk (hbox); have GW346 := Aside0.mk (gw_ hg (mbs_ HB.out)); have GE346 := Aside0.mk (gw_ hg (mbs_ HB.out)); replace HB := Aside0.mk (below_step (mbs_ HB.out) hb); have NB343_346 := Aside0.mk (nb_ hg (bk_ BK343.out)); have NB346_343 := Aside0.mk (nc_ hg (bk_ BK343.out)); replace BK343 := kb_ (bk_ BK343.out) hb; have NB344_346 := Aside0.mk (nb_ hg (bk_ BK344.out)); have NB346_344 := Aside0.mk (nc_ hg (bk_ BK344.out)); replace BK344 := kb_ (bk_ BK344.out) hb; have NB345_346 := Aside0.mk (nb_ hg (bk_ BK345.out)); have NB346_345 := Aside0.mk (nc_ hg (bk_ BK345.out)); replace BK345 := kb_ (bk_ BK345.out) hb; clear hb hbox hg) | ((with_reducible refine gate_dst (N := 9) rfl ?_); refine box_event ?hg (N := 9) ?hd (cs := #[.slice A4_0 l4_0.length c4_0, .slice A4_1 l4_1.length c4_1]) (t := 27) ?hr ?_; (case hd => rfl); (case hg => rfl); (case hr => first | (go_simp; done) | (go_simp; rfl)); intro gb347 hg w52 hbox hb; have BK347 := Aside0.mk (hbox); have GW347 := Aside0.mk (gw_ hg (mbs_ HB.out)); have GE347 := Aside0.mk (gw_ hg (mbs_ HB.out)); replace HB := Aside0.mk (below_step (mbs_ HB.out) hb); have NB343_347 := Aside0.mk (nb_ hg (bk_ BK343.out)); have NB347_343 := Aside0.mk (nc_ hg (bk_ BK343.out)); replace BK343 := kb_ (bk_ BK343.out) hb; have NB344_347 := Aside0.mk (nb_ hg (bk_ BK344.out)); have NB347_344 := Aside0.mk (nc_ hg (bk_ BK344.out)); replace BK344 := kb_ (bk_ BK344.out) hb; have NB345_347 := Aside0.mk (nb_ hg (bk_ BK345.out)); have NB347_345 := Aside0.mk (nc_ hg (bk_ BK345.out)); replace BK345 := kb_ (bk_ BK345.out) hb; have NB346_347 := Aside0.mk (nb_ hg (bk_ BK346.out)); have NB347_346 := Aside0.mk (nc_ hg (bk_ BK346.out)); replace BK346 := kb_ (bk_ BK346.out) hb; clear hb hbox hg) | ((with_reducible refine gate_dst (N := 10) rfl ?_); refine box_event ?hg (N := 10) ?hd (cs := #[.slice none 0 0, .slice none 0 0]) (t := 27) ?hr ?_; (case hd => rfl); (case hg => rfl); (case hr => first | (go_simp; done) | (go_simp; rfl)); intro gb348 hg w53 hbox hb; have BK348 := Aside0.mk (hbox); have GW348 := Aside0.mk (gw_ hg (mbs_ HB.out)); have GE348 := Aside0.mk (gw_ hg (mbs_ HB.out)); replace HB := Aside0.mk (below_step (mbs_ HB.out) hb); have NB343_348 := Aside0.mk (nb_ hg (bk_ BK343.out)); have NB348_343 := Aside0.mk (nc_ hg (bk_ BK343.out)); replace BK343 := kb_ (bk_ BK343.out) hb; have NB344_348 := Aside0.mk (nb_ hg (bk_ BK344.out)); have NB348_344 := Aside0.mk (nc_ hg (bk_ BK344.out)); replace BK344 := kb_ (bk_ BK344.out) hb; have NB345_348 := Aside0.mk (nb_ hg (bk_ BK345.out)); have NB348_345 := Aside0.mk (nc_ hg (bk_ BK345.out)); replace BK345 := kb_ (bk_ BK345.out) hb; have NB346_348 := Aside0.mk (nb_ hg (bk_ BK346.out)); have NB348_346 := Aside0.mk (nc_ hg (bk_ BK346.out)); replace BK346 := kb_ (bk_ BK346.out) hb; have NB347_348 := Aside0.mk (nb_ hg (bk_ BK347.out)); have NB348_347 := Aside0.mk (nc_ hg (bk_ BK347.out)); replace BK347 := kb_ (bk_ BK347.out) hb; clear hb hbox hg; have hnb54 := NB343_344.out; have hnc54 := NB344_343.out; have hnb55 := NB343_345.out; have hnc55 := NB345_343.out; have hnb56 := NB343_346.out; have hnc56 := NB346_343.out; have hnb57 := NB343_347.out; have hnc57 := NB347_343.out; have hnb58 := NB343_348.out; have hnc58 := NB348_343.out; have hcz59_0 := bc0_ BK343.out; have hcz59_1 := bc1_ BK343.out; have hfz59_0 := blk_frozen BK343.out 0; have hfz59_1 := blk_frozen BK343.out 1; have hnb60 := NB344_345.out; have hnc60 := NB345_344.out; have hnb61 := NB344_346.out; have hnc61 := NB346_344.out; have hnb62 := NB344_347.out; have hnc62 := NB347_344.out; have hnb63 := NB344_348.out; have hnc63 := NB348_344.out; have hcz64_0 := bc0_ BK344.out; have hcz64_1 := bc1_ BK344.out; have hfz64_0 := blk_frozen BK344.out 0; have hfz64_1 := blk_frozen BK344.out 1; have hnb65 := NB346_345.out; have hnc65 := NB345_346.out; have hnb66 := NB346_347.out; have hnc66 := NB347_346.out; have hnb67 := NB346_348.out; have hnc67 := NB348_346.out; have hcz68_0 := bc0_ BK346.out; have hcz68_1 := bc1_ BK346.out; have hfz68_0 := blk_frozen BK346.out 0; have hfz68_1 := blk_frozen BK346.out 1) | ((with_reducible refine gate_callee (f := 12) rfl ?_); refine goesL_ (some 17) rfl rfl Try.func12 (by kernel_rfl) rfl #[.agg #[.slice A0_0 l0_0.length c0_0, .slice A0_1 l0_1.length c0_1], .agg #[.slice A1_0 l1_0.length c1_0, .slice A1_1 l1_1.length c1_1], .agg #[.slice A3_0 l3_0.length c3_0, .slice A3_1 l3_1.length c3_1]] rfl (by (try simp only [List.map_toArray, List.map_cons, List.map_nil]); first | done | rfl | (simp only [List.length_drop, List.length_take]; rfl)) ?_; (with_reducible refine (morphism_Valid.calls k _ _ l0_0 _ _ l0_1 _ _ l1_0 _ _ l1_1 _ _ l3_0 _ _ l3_1 t349 _ ?side1 ?side2 ?side3 ?side4 ?side5 ?side6 ?side7 ?side8 ?side9 ?side10 ?side11 ?side12 A6.out).mono ?_); (case side1 => exact mc_ (Kd.C_below HR0_0.out HB.out)); (case side2 => exact HC0_0.out); (case side3 => exact mc_ (Kd.C_below HR0_1.out HB.out)); (case side4 => exact HC0_1.out); (case side5 => exact mc_ (Kd.C_below HR1_0.out HB.out)); (case side6 => exact HC1_0.out); (case side7 => exact mc_ (Kd.C_below HR1_1.out HB.out)); (case side8 => exact HC1_1.out); (case side9 => exact mc_ (Kd.C_below HR3_0.out HB.out)); (case side10 => exact HC3_0.out); (case side11 => exact mc_ (Kd.C_below HR3_1.out HB.out)); (case side12 => exact HC3_1.out); rintro e w69 ⟨rfl, hb⟩; refine ⟨_, rfl, ?_⟩; replace BK343 := kb_ (bk_ BK343.out) hb; replace BK344 := kb_ (bk_ BK344.out) hb; replace BK345 := kb_ (bk_ BK345.out) hb; replace BK346 := kb_ (bk_ BK346.out) hb; replace BK347 := kb_ (bk_ BK347.out) hb; replace BK348 := kb_ (bk_ BK348.out) hb; replace HB := Aside0.mk (below_step (mbs_ HB.out) hb); (try clear hb); (try clear hb2); (try clear hk); (try clear hi); have hcz70_0 := bc0_ BK344.out; have hcz70_1 := bc1_ BK344.out; have hfz70_0 := blk_frozen BK344.out 0; have hfz70_1 := blk_frozen BK344.out 1; have hnb71 := NB345_347.out; have hnc71 := NB347_345.out; have hnb72 := NB345_348.out; have hnc72 := NB348_345.out; have hcz73_0 := bc0_ BK345.out; have hcz73_1 := bc1_ BK345.out; have hfz73_0 := blk_frozen BK345.out 0; have hfz73_1 := blk_frozen BK345.out 1; have hnb74 := NB347_348.out; have hnc74 := NB348_347.out; have hcz75_0 := bc0_ BK347.out; have hcz75_1 := bc1_ BK347.out; have hfz75_0 := blk_frozen BK347.out 0; have hfz75_1 := blk_frozen BK347.out 1) | ((with_reducible refine gate_callee (f := 12) rfl ?_); refine goesL_ (some 25) rfl rfl Try.func12 (by kernel_rfl) rfl #[.agg #[.slice A1_0 l1_0.length c1_0, .slice A1_1 l1_1.length c1_1], .agg #[.slice A2_0 l2_0.length c2_0, .slice A2_1 l2_1.length c2_1], .agg #[.slice A4_0 l4_0.length c4_0, .slice A4_1 l4_1.length c4_1]] rfl (by (try simp only [List.map_toArray, List.map_cons, List.map_nil]); first | done | rfl | (simp only [List.length_drop, List.length_take]; rfl)) ?_; (with_reducible refine (morphism_Valid.calls k _ _ l1_0 _ _ l1_1 _ _ l2_0 _ _ l2_1 _ _ l4_0 _ _ l4_1 t350 _ ?side1 ?side2 ?side3 ?side4 ?side5 ?side6 ?side7 ?side8 ?side9 ?side10 ?side11 ?side12 A8.out).mono ?_); (case side1 => exact mc_ (Kd.C_below HR1_0.out HB.out)); (case side2 => exact HC1_0.out); (case side3 => exact mc_ (Kd.C_below HR1_1.out HB.out)); (case side4 => exact HC1_1.out); (case side5 => exact mc_ (Kd.C_below HR2_0.out HB.out)); (case side6 => exact HC2_0.out); (case side7 => exact mc_ (Kd.C_below HR2_1.out HB.out)); (case side8 => exact HC2_1.out); (case side9 => exact mc_ (Kd.C_below HR4_0.out HB.out)); (case side10 => exact HC4_0.out); (case side11 => exact mc_ (Kd.C_below HR4_1.out HB.out)); (case side12 => exact HC4_1.out); rintro e w76 ⟨rfl, hb⟩; refine ⟨_, rfl, ?_⟩; replace BK343 := kb_ (bk_ BK343.out) hb; replace BK344 := kb_ (bk_ BK344.out) hb; replace BK345 := kb_ (bk_ BK345.out) hb; replace BK346 := kb_ (bk_ BK346.out) hb; replace BK347 := kb_ (bk_ BK347.out) hb; replace BK348 := kb_ (bk_ BK348.out) hb; replace HB := Aside0.mk (below_step (mbs_ HB.out) hb); (try clear hb); (try clear hb2); (try clear hk); (try clear hi); have hcz77_0 := bc0_ BK348.out; have hcz77_1 := bc1_ BK348.out; have hfz77_0 := blk_frozen BK348.out 0; have hfz77_1 := blk_frozen BK348.out 1))
  refine bodyPost_ret (results_ct rfl _ _ gb348 27 #[.slice none 0 0, .slice none 0 0] (0, 0) _ rfl (by (with_reducible repeat (first | refine blk_drewN ?_ _ | refine blk_drew ?_ | refine blk_alloc ?_ _)); refine blk_put (cs := #[.slice none 0 0, .slice none 0 0]) ?_ 1 _ rfl; (with_reducible repeat (first | refine blk_drewN ?_ _ | refine blk_drew ?_ | refine blk_alloc ?_ _)); refine blk_put (cs := #[.slice none 0 0, .slice none 0 0]) ?_ 0 _ rfl; (with_reducible repeat (first | refine blk_drewN ?_ _ | refine blk_drew ?_ | refine blk_alloc ?_ _)); exact BK348.out) Try.underlying27 rfl (by kernel_rfl)) rfl ?_
  exact ⟨_, _, by first | rfl | (simp [errW_none, errW_some] <;> rfl) | (simp [*, errW_none, errW_some] <;> rfl), by first | exact Kd.R_nil _ _ _ _ _ | exact Kd.N_nil _ _ _ _ _ | exact Kd.V_nil _ _ _ _ _ | exact Kd.Q_nil _ _ _ _ _ | exact Kd.S_nil _ _ _ _ _, by first | exact Kd.R_nil _ _ _ _ _ | exact Kd.N_nil _ _ _ _ _ | exact Kd.V_nil _ _ _ _ _ | exact Kd.Q_nil _ _ _ _ _ | exact Kd.S_nil _ _ _ _ _, mbs_ HB.out⟩
 rw [if_neg c7] at H
 have c7b0 : (t349 == 0) = false := beq_eq_false_iff_ne.mpr c7
 have c7b1 : (t349 != 0) = true := bne_iff_ne.mpr c7
 simp only [Option.some.injEq, Prod.mk.injEq] at H
 obtain ⟨rfl, rfl, rfl⟩ := H
 go_enter Try.func29, Try.ntmps29
 go_wp2_with (first | ((with_reducible refine gate_dst (N := 5) rfl ?_); refine box_event ?hg (N := 5) ?hd (cs := #[.slice A0_0 l0_0.length c0_0, .slice A0_1 l0_1.length c0_1]) (t := 25) ?hr ?_; (case hd => rfl); (case hg => rfl); (case hr => first | (go_simp; done) | (go_simp; rfl)); intro gb343 hg w78 hbox hb; have BK343 := Aside0.mk (hbox); have GW343 := Aside0.mk (gw_ hg (mb_ HB.out)); have GE343 := Aside0.mk (gw_ hg (mb_ HB.out)); replace HB := Aside0.mk (below_step (mb_ HB.out) hb); clear hb hbox hg) | ((with_reducible refine gate_dst (N := 6) rfl ?_); refine box_event ?hg (N := 6) ?hd (cs := #[.slice A1_0 l1_0.length c1_0, .slice A1_1 l1_1.length c1_1]) (t := 25) ?hr ?_; (case hd => rfl); (case hg => rfl); (case hr => first | (go_simp; done) | (go_simp; rfl)); intro gb344 hg w79 hbox hb; have BK344 := Aside0.mk (hbox); have GW344 := Aside0.mk (gw_ hg (mbs_ HB.out)); have GE344 := Aside0.mk (gw_ hg (mbs_ HB.out)); replace HB := Aside0.mk (below_step (mbs_ HB.out) hb); have NB343_344 := Aside0.mk (nb_ hg (bk_ BK343.out)); have NB344_343 := Aside0.mk (nc_ hg (bk_ BK343.out)); replace BK343 := kb_ (bk_ BK343.out) hb; clear hb hbox hg) | ((with_reducible refine gate_dst (N := 7) rfl ?_); refine box_event ?hg (N := 7) ?hd (cs := #[.slice A2_0 l2_0.length c2_0, .slice A2_1 l2_1.length c2_1]) (t := 25) ?hr ?_; (case hd => rfl); (case hg => rfl); (case hr => first | (go_simp; done) | (go_simp; rfl)); intro gb345 hg w80 hbox hb; have BK345 := Aside0.mk (hbox); have GW345 := Aside0.mk (gw_ hg (mbs_ HB.out)); have GE345 := Aside0.mk (gw_ hg (mbs_ HB.out)); replace HB := Aside0.mk (below_step (mbs_ HB.out) hb); have NB343_345 := Aside0.mk (nb_ hg (bk_ BK343.out)); have NB345_343 := Aside0.mk (nc_ hg (bk_ BK343.out)); replace BK343 := kb_ (bk_ BK343.out) hb; have NB344_345 := Aside0.mk (nb_ hg (bk_ BK344.out)); have NB345_344 := Aside0.mk (nc_ hg (bk_ BK344.out)); replace BK344 := kb_ (bk_ BK344.out) hb; clear hb hbox hg) | ((with_reducible refine gate_dst (N := 8) rfl ?_); refine box_event ?hg (N := 8) ?hd (cs := #[.slice A3_0 l3_0.length c3_0, .slice A3_1 l3_1.length c3_1]) (t := 27) ?hr ?_; (case hd => rfl); (case hg => rfl); (case hr => first | (go_simp; done) | (go_simp; rfl)); intro gb346 hg w81 hbox hb; have BK346 := Aside0.mk (hbox); have GW346 := Aside0.mk (gw_ hg (mbs_ HB.out)); have GE346 := Aside0.mk (gw_ hg (mbs_ HB.out)); replace HB := Aside0.mk (below_step (mbs_ HB.out) hb); have NB343_346 := Aside0.mk (nb_ hg (bk_ BK343.out)); have NB346_343 := Aside0.mk (nc_ hg (bk_ BK343.out)); replace BK343 := kb_ (bk_ BK343.out) hb; have NB344_346 := Aside0.mk (nb_ hg (bk_ BK344.out)); have NB346_344 := Aside0.mk (nc_ hg (bk_ BK344.out)); replace BK344 := kb_ (bk_ BK344.out) hb; have NB345_346 := Aside0.mk (nb_ hg (bk_ BK345.out)); have NB346_345 := Aside0.mk (nc_ hg (bk_ BK345.out)); replace BK345 := kb_ (bk_ BK345.out) hb; clear hb hbox hg) | ((with_reducible refine gate_dst (N := 9) rfl ?_); refine box_event ?hg (N := 9) ?hd (cs := #[.slice A4_0 l4_0.length c4_0, .slice A4_1 l4_1.length c4_1]) (t := 27) ?hr ?_; (case hd => rfl); (case hg => rfl); (case hr => first | (go_simp; done) | (go_simp; rfl)); intro gb347 hg w82 hbox hb; have BK347 := Aside0.mk (hbox); have GW347 := Aside0.mk (gw_ hg (mbs_ HB.out)); have GE347 := Aside0.mk (gw_ hg (mbs_ HB.out)); replace HB := Aside0.mk (below_step (mbs_ HB.out) hb); have NB343_347 := Aside0.mk (nb_ hg (bk_ BK343.out)); have NB347_343 := Aside0.mk (nc_ hg (bk_ BK343.out)); replace BK343 := kb_ (bk_ BK343.out) hb; have NB344_347 := Aside0.mk (nb_ hg (bk_ BK344.out)); have NB347_344 := Aside0.mk (nc_ hg (bk_ BK344.out)); replace BK344 := kb_ (bk_ BK344.out) hb; have NB345_347 := Aside0.mk (nb_ hg (bk_ BK345.out)); have NB347_345 := Aside0.mk (nc_ hg (bk_ BK345.out)); replace BK345 := kb_ (bk_ BK345.out) hb; have NB346_347 := Aside0.mk (nb_ hg (bk_ BK346.out)); have NB347_346 := Aside0.mk (nc_ hg (bk_ BK346.out)); replace BK346 := kb_ (bk_ BK346.out) hb; clear hb hbox hg) | ((with_reducible refine gate_dst (N := 10) rfl ?_); refine box_event ?hg (N := 10) ?hd (cs := #[.slice none 0 0, .slice none 0 0]) (t := 27) ?hr ?_; (case hd => rfl); (case hg => rfl); (case hr => first | (go_simp; done) | (go_simp; rfl)); intro gb348 hg w83 hbox hb; have BK348 := Aside0.mk (hbox); have GW348 := Aside0.mk (gw_ hg (mbs_ HB.out)); have GE348 := Aside0.mk (gw_ hg (mbs_ HB.out)); replace HB := Aside0.mk (below_step (mbs_ HB.out) hb); have NB343_348 := Aside0.mk (nb_ hg (bk_ BK343.out)); have NB348_343 := Aside0.mk (nc_ hg (bk_ BK343.out)); replace BK343 := kb_ (bk_ BK343.out) hb; have NB344_348 := Aside0.mk (nb_ hg (bk_ BK344.out)); have NB348_344 := Aside0.mk (nc_ hg (bk_ BK344.out)); replace BK344 := kb_ (bk_ BK344.out) hb; have NB345_348 := Aside0.mk (nb_ hg (bk_ BK345.out)); have NB348_345 := Aside0.mk (nc_ hg (bk_ BK345.out)); replace BK345 := kb_ (bk_ BK345.out) hb; have NB346_348 := Aside0.mk (nb_ hg (bk_ BK346.out)); have NB348_346 := Aside0.mk (nc_ hg (bk_ BK346.out)); replace BK346 := kb_ (bk_ BK346.out) hb; have NB347_348 := Aside0.mk (nb_ hg (bk_ BK347.out)); have NB348_347 := Aside0.mk (nc_ hg (bk_ BK347.out)); replace BK347 := kb_ (bk_ BK347.out) hb; clear hb hbox hg; have hnb84 := NB343_344.out; have hnc84 := NB344_343.out; have hnb85 := NB343_345.out; have hnc85 := NB345_343.out; have hnb86 := NB343_346.out; have hnc86 := NB346_343.out; have hnb87 := NB343_347.out; have hnc87 := NB347_343.out; have hnb88 := NB343_348.out; have hnc88 := NB348_343.out; have hcz89_0 := bc0_ BK343.out; have hcz89_1 := bc1_ BK343.out; have hfz89_0 := blk_frozen BK343.out 0; have hfz89_1 := blk_frozen BK343.out 1; have hnb90 := NB344_345.out; have hnc90 := NB345_344.out; have hnb91 := NB344_346.out; have hnc91 := NB346_344.out; have hnb92 := NB344_347.out; have hnc92 := NB347_344.out; have hnb93 := NB344_348.out; have hnc93 := NB348_344.out; have hcz94_0 := bc0_ BK344.out; have hcz94_1 := bc1_ BK344.out; have hfz94_0 := blk_frozen BK344.out 0; have hfz94_1 := blk_frozen BK344.out 1; have hnb95 := NB346_345.out; have hnc95 := NB345_346.out; have hnb96 := NB346_347.out; have hnc96 := NB347_346.out; have hnb97 := NB346_348.out; have hnc97 := NB348_346.out; have hcz98_0 := bc0_ BK346.out; have hcz98_1 := bc1_ BK346.out; have hfz98_0 := blk_frozen BK346.out 0; have hfz98_1 := blk_frozen BK346.out 1) | ((with_reducible refine gate_callee (f := 12) rfl ?_); refine goesL_ (some 17) rfl rfl Try.func12 (by kernel_rfl) rfl #[.agg #[.slice A0_0 l0_0.length c0_0, .slice A0_1 l0_1.length c0_1], .agg #[.slice A1_0 l1_0.length c1_0, .slice A1_1 l1_1.length c1_1], .agg #[.slice A3_0 l3_0.length c3_0, .slice A3_1 l3_1.length c3_1]] rfl (by (try simp only [List.map_toArray, List.map_cons, List.map_nil]); first | done | rfl | (simp only [List.length_drop, List.length_take]; rfl)) ?_; (with_reducible refine (morphism_Valid.calls k _ _ l0_0 _ _ l0_1 _ _ l1_0 _ _ l1_1 _ _ l3_0 _ _ l3_1 t349 _ ?side1 ?side2 ?side3 ?side4 ?side5 ?side6 ?side7 ?side8 ?side9 ?side10 ?side11 ?side12 A6.out).mono ?_); (case side1 => exact mc_ (Kd.C_below HR0_0.out HB.out)); (case side2 => exact HC0_0.out); (case side3 => exact mc_ (Kd.C_below HR0_1.out HB.out)); (case side4 => exact HC0_1.out); (case side5 => exact mc_ (Kd.C_below HR1_0.out HB.out)); (case side6 => exact HC1_0.out); (case side7 => exact mc_ (Kd.C_below HR1_1.out HB.out)); (case side8 => exact HC1_1.out); (case side9 => exact mc_ (Kd.C_below HR3_0.out HB.out)); (case side10 => exact HC3_0.out); (case side11 => exact mc_ (Kd.C_below HR3_1.out HB.out)); (case side12 => exact HC3_1.out); rintro e w99 ⟨rfl, hb⟩; refine ⟨_, rfl, ?_⟩; replace BK343 := kb_ (bk_ BK343.out) hb; replace BK344 := kb_ (bk_ BK344.out) hb; replace BK345 := kb_ (bk_ BK345.out) hb; replace BK346 := kb_ (bk_ BK346.out) hb; replace BK347 := kb_ (bk_ BK347.out) hb; replace BK348 := kb_ (bk_ BK348.out) hb; replace HB := Aside0.mk (below_step (mbs_ HB.out) hb); (try clear hb); (try clear hb2); (try clear hk); (try clear hi); have hnb100 := NB348_345.out; have hnc100 := NB345_348.out; have hnb101 := NB348_347.out; have hnc101 := NB347_348.out; have hcz102_0 := bc0_ BK348.out; have hcz102_1 := bc1_ BK348.out; have hfz102_0 := blk_frozen BK348.out 0; have hfz102_1 := blk_frozen BK348.out 1))
 refine bodyPost_ret (results_ct rfl _ _ gb348 27 #[.slice none 0 0, .slice none 0 0] (0, 0) _ rfl (by (with_reducible repeat (first | refine blk_drewN ?_ _ | refine blk_drew ?_ | refine blk_alloc ?_ _)); refine blk_put (cs := #[.slice none 0 0, .slice none 0 0]) ?_ 1 _ rfl; (with_reducible repeat (first | refine blk_drewN ?_ _ | refine blk_drew ?_ | refine blk_alloc ?_ _)); refine blk_put (cs := #[.slice none 0 0, .slice none 0 0]) ?_ 0 _ rfl; (with_reducible repeat (first | refine blk_drewN ?_ _ | refine blk_drew ?_ | refine blk_alloc ?_ _)); exact BK348.out) Try.underlying27 rfl (by kernel_rfl)) rfl ?_
 exact ⟨_, _, by first | rfl | (simp [errW_none, errW_some] <;> rfl) | (simp [*, errW_none, errW_some] <;> rfl), by first | exact Kd.R_nil _ _ _ _ _ | exact Kd.N_nil _ _ _ _ _ | exact Kd.V_nil _ _ _ _ _ | exact Kd.Q_nil _ _ _ _ _ | exact Kd.S_nil _ _ _ _ _, by first | exact Kd.R_nil _ _ _ _ _ | exact Kd.N_nil _ _ _ _ _ | exact Kd.V_nil _ _ _ _ _ | exact Kd.Q_nil _ _ _ _ _ | exact Kd.S_nil _ _ _ _ _, mbs_ HB.out⟩

end Go.Proofs.Ytklacpdobpkbbaa.P
