-- Written by wip/drive.py of this session's repo over the kit's print.py (with contracts of the session's own): not the print's own text
import Derived.Test.YtklacpdobpkbbaaPx0
import Derived.Test.YtklacpdobpkbbaaPx8
import Derived.Test.YtklacpdobpkbbaaPx9
namespace Go.Proofs.Ytklacpdobpkbbaa.P
open Go.RowKit Go.Proofs.YtklacpdobpkbbaaW.PrintWords Go.Proofs.YtklacpdobpkbbaaW.PrintLast Go.Proofs.YtklacpdobpkbbaaW.PrintMore
attribute [local go_sem] max2_int min2_int max_two min_two max_three min_three max_four min_four   -- for this text's walks alone
set_option linter.unusedVariables false
set_option linter.unusedSimpArgs false

/-! ### morphism_back: function 57 -/
def morphism_back.l0 : Nat → List Int → List Int → Int → Int → Option (List Int)
 | 0, _, _, _, _ => none
 | k + 1, x3, x9, x10, x11 => if x11 < x10 then (if 0 ≤ x11 then (if x11 < (x9.length : Int) then (if 0 ≤ (rd x9 x11) then (if (rd x9 x11) < (x3.length : Int) then (morphism_back.l0 k (x3.set ((rd x9 x11) : Int).toNat x11) x9 x10 (wrap64 (x11 + 1))) else (none)) else (none)) else (none)) else (none)) else (some x3)
def morphism_back.f (k : Nat) (l0 : List Int) : Option (List Int) := if 0 ≤ (l0.length : Int) then (if ((l0.length : Int) : Int).toNat ≤ 35184372088832 then (morphism_back.l0 k (List.replicate ((l0.length : Int) : Int).toNat 0) l0 (l0.length : Int) 0) else (none)) else (none)
theorem morphism_back.mono_l : ∀ k, (∀ y0 y1 y2 y3, LeO (morphism_back.l0 k y0 y1 y2 y3) (morphism_back.l0 (k + 1) y0 y1 y2 y3))
 | 0 => fun _ _ _ _ r h => by simp [morphism_back.l0] at h
 | k + 1 => by
  have ih0 := morphism_back.mono_l k
  ·intro y0 y1 y2 y3
   unfold morphism_back.l0
   repeat' first
   | (with_reducible exact ih0 _ _ _ _)
   | (with_reducible exact LeO.refl _)
   | (with_reducible exact LeO.none _)
   | (with_reducible refine LeO.ite ?_ ?_)
   | (with_reducible refine LeO.bind ?_ (fun _ => ?_))
   | exact ih0 _ _ _ _
   | exact LeO.none _
   | refine LeO.ite ?_ ?_
   | refine LeO.bind ?_ (fun _ => ?_)
theorem morphism_back.mono : ∀ a0 k, LeO (morphism_back.f k a0) (morphism_back.f (k + 1) a0) := by
 intro a0 k
 have ih0 := morphism_back.mono_l k
 unfold morphism_back.f
 repeat' first
   | (with_reducible exact ih0 _ _ _ _)
   | (with_reducible exact LeO.refl _)
   | (with_reducible exact LeO.none _)
   | (with_reducible refine LeO.ite ?_ ?_)
   | (with_reducible refine LeO.bind ?_ (fun _ => ?_))
   | exact ih0 _ _ _ _
   | exact LeO.none _
   | refine LeO.ite ?_ ?_
   | refine LeO.bind ?_ (fun _ => ?_)
set_option maxHeartbeats 8000000 in
set_option maxRecDepth 100000 in
theorem morphism_back.calls (k : Nat) (A0 : Option Addr) (c0 : Nat) (l0 : List Int) (r : List Int) (w : World) (hr0 : Kd.C (Kd.int .i64) w A0 l0.length l0) (hc0 : l0.length ≤ c0) (h : morphism_back.f k l0 = some r) :
  Calls Try.prog 57 #[.slice A0 l0.length c0] w fun e w' => ∃ v0_ : Value, e = .returned (v0_) ∧ Kd.R (Kd.int .i64) 3 w' w.heap.size (fun _ => True) v0_ r ∧ Below w.heap.size w w' := by
 have HR0 := Aside0.mk hr0
 have HC0 := Aside0.mk hc0
 clear hr0 hc0
 have HB := Aside0.mk (Below.refl w.heap.size w)
 have H : (if 0 ≤ (l0.length : Int) then (if ((l0.length : Int) : Int).toNat ≤ 35184372088832 then (morphism_back.l0 k (List.replicate ((l0.length : Int) : Int).toNat 0) l0 (l0.length : Int) 0) else (none)) else (none)) = some r := h
 clear h
 by_cases c2 : 0 ≤ (l0.length : Int)
 ·rw [if_pos c2] at H
  have c2b0 := eq_true c2
  have c2b1 : decide (0 ≤ (l0.length : Int)) = true := decide_eq_true c2
  clear c2
  by_cases c3 : ((l0.length : Int) : Int).toNat ≤ 35184372088832
  ·rw [if_pos c3] at H
   have c3b0 := eq_true c3
   have c3b1 : decide (((l0.length : Int) : Int).toNat ≤ 35184372088832) = true := decide_eq_true c3
   clear c3
   obtain ⟨y385, hy385⟩ : ∃ y_ : List Int, y_ = (List.replicate ((l0.length : Int) : Int).toNat 0) := ⟨_, rfl⟩
   replace H : (morphism_back.l0 k y385 l0 (l0.length : Int) 0) = some r := by first | (rw [hy385]; with_reducible exact H) | (have H2_ := (Option.bind_some _ _).symm.trans H; rw [hy385]; with_reducible exact H2_) | (have H2_ := (Option.bind_some _ _).symm.trans H; with_reducible exact H2_) | with_reducible exact H | (rw [hy385]; exact H) | exact H
   have Ny385 := Aside0.mk hy385
   clear hy385
   have H' := Aside0.mk H
   clear H
   go_enter Try.func57, Try.ntmps57
   go_wp2_with (first | ((with_reducible refine gate_dst (N := 8) rfl ?_); refine Kd.R_make (Kd.int .i64) _ 3 rfl (N := 8) rfl 22 _ _ rfl (l0.length : Int) rfl rfl Try.underlying22 (.int .i64 0) 8 info3 rfl (by decide) (by omega) 0 (ok := fun _ => True) (okp := fun _ => True) rfl (fun _ hk => hk) trivial (of_decide_eq_true (by first | (with_reducible assumption) | assumption)) (Nat.le_trans (Nat.mul_le_mul_right _ (of_decide_eq_true (by first | (with_reducible assumption) | assumption) : (l0.length : Int).toNat ≤ 35184372088832)) (by omega)) (Below.refl _ _) (Nat.le_refl _) ?_; intro v386 w4 ho5 hb hg_ hnew_; clear hg_ hnew_; (first | rw [← Ny385.out] at ho5 | (simp only [Int.reduceToNat] at ho5; rw [← Ny385.out] at ho5)); have HO387 := Aside0.mk (Kd.R_lower ho5 (below_size (mb_ HB.out))); replace HB := Aside0.mk (below_step (mb_ HB.out) hb); clear hb ho5))
   go_loopg [11] k (fun kq v11 w' => ∃ (x3_1 : List Int) (x11_1 : Int), v11 = .int .i64 x11_1 ∧ Aside0 (morphism_back.l0 kq x3_1 l0 (l0.length : Int) x11_1 = some r) ∧ Aside0 (kq ≤ k) ∧ Aside0 (Kd.R (Kd.int .i64) 3 w' w.heap.size (fun _ => True) v386 x3_1) ∧ Aside0 (Below w.heap.size w w'))
   case atStart => exact ⟨(y385), (0), (by first | rfl | (simp; done) | (simp [*]; done)), H', ⟨Nat.le_refl _⟩, ⟨mr_ HO387.out⟩, ⟨mb_ HB.out⟩⟩
   case round =>
    clear H'
    try clear c2
    try clear c2b0
    try clear c2b1
    try clear p2
    try clear c3
    try clear c3b0
    try clear c3b1
    try clear c5
    obtain ⟨x3_1, x11_1, rfl, HA, HK1, HO_3, HB⟩ := hrel
    cases gk with
    | zero => exact absurd HA.out (by simp [morphism_back.l0])
    | succ k1 =>
     have H := HA.out
     clear HA
     simp only [morphism_back.l0] at H
     by_cases c6 : x11_1 < (l0.length : Int)
     ·rw [if_pos c6] at H
      have c6b0 : decide (x11_1 < (l0.length : Int)) = true := decide_eq_true c6
      clear c6
      by_cases c7 : 0 ≤ x11_1
      ·rw [if_pos c7] at H
       have c7b0 : decide (0 ≤ x11_1) = true := decide_eq_true c7
       clear c7
       by_cases c8 : x11_1 < (l0.length : Int)
       ·rw [if_pos c8] at H
        have c8b0 : decide (x11_1 < (l0.length : Int)) = true := decide_eq_true c8
        clear c8
        by_cases c9 : 0 ≤ (rd l0 x11_1)
        ·rw [if_pos c9] at H
         have c9b0 : decide (0 ≤ (rd l0 x11_1)) = true := decide_eq_true c9
         clear c9
         by_cases c10 : (rd l0 x11_1) < (x3_1.length : Int)
         ·rw [if_pos c10] at H
          have c10b0 : decide ((rd l0 x11_1) < (x3_1.length : Int)) = true := decide_eq_true c10
          clear c10
          obtain ⟨y389, hy389⟩ : ∃ y_ : List Int, y_ = (x3_1.set ((rd l0 x11_1) : Int).toNat x11_1) := ⟨_, rfl⟩
          replace H : (morphism_back.l0 k1 y389 l0 (l0.length : Int) (wrap64 (x11_1 + 1))) = some r := by first | (rw [hy389]; with_reducible exact H) | (have H2_ := (Option.bind_some _ _).symm.trans H; rw [hy389]; with_reducible exact H2_) | (have H2_ := (Option.bind_some _ _).symm.trans H; with_reducible exact H2_) | with_reducible exact H | (rw [hy389]; exact H) | exact H
          have Ny389 := Aside0.mk hy389
          clear hy389
          have H' := Aside0.mk H
          clear H
          have p388 : 0 ≤ (x11_1 : Int) := of_decide_eq_true (by first | (with_reducible assumption) | assumption)
          have q388 : x11_1 < (l0.length : Int) := of_decide_eq_true (by first | (with_reducible assumption) | assumption)
          obtain ⟨ad388, e388, hx388_0⟩ := Kd.at_int HR0.out x11_1 p388 q388
          cases e388
          (try replace hx388_0 := (HB.out.cell (World.block_lt_of_cell? w _ hx388_0)).trans hx388_0)
          replace p388 := eq_true p388
          replace q388 := eq_true q388
          have p11 : 0 ≤ ((rd l0 x11_1) : Int) := of_decide_eq_true (by first | (with_reducible assumption) | assumption)
          have q11 : ((rd l0 x11_1) : Int) < ((x3_1.length : Int) : Int) := of_decide_eq_true (by first | (with_reducible assumption) | assumption)
          obtain ⟨go11, co11, eo11, gb11, gl11, cl11, HG11⟩ := Kd.R_form HO_3.out (by omega)
          (first | cases eo11 | (injection eo11 with ea_ en_ ec_; (first | subst ea_ | (injection ea_ with ea_; subst ea_)); subst ec_; clear en_))
          have GB11 := Aside0.mk gb11
          have GG11 := Aside0.mk HG11
          clear gb11 gl11 HG11
          obtain ⟨hx11_0, hf11_0⟩ := Kd.R_celln 0 HO_3.out ((rd l0 x11_1) : Int) p11 q11
          replace p11 := eq_true p11
          replace q11 := eq_true q11
          have HP12 := Kd.R_putg HO_3.out ((rd l0 x11_1) : Int) x11_1
          go_wp2_with (first | ((with_reducible refine gate_store (t := 3) (p := 19) rfl ?_); refine store_event (t := 3) (p := 19) (v := ?vo_w13) (w1 := (wr.setCell ⟨go11, ((rd l0 x11_1) : Int).toNat, none⟩ (.int .i64 x11_1))) ?hg ?ho ?hn ?hr ?_; (case ho => rfl); (case hg => rfl); (case hn => rfl); (case hr => first | (go_simp; done) | (go_simp; rfl)); intro w13 hw; have hg : wr.grownBy w13 (some go11) := (by rw [hw]; exact HP12.2); have hp_ : Kd.R (Kd.int .i64) 3 w13 w.heap.size (fun _ => True) (.slice (some ⟨go11, 0, none⟩) x3_1.length co11) y389 := (by rw [hw, Ny389.out]; exact HP12.1); clear HP12; replace HO_3 := Aside0.mk (hp_); replace HB := Aside0.mk ((by rw [hw]; exact below_set (HB.out) GB11.out : Below w.heap.size w w13)); clear hg hw hp_))
          go_roundg k1
          case measure => have := HK1.out; omega
          case rel => exact ⟨(y389), (wrap64 (x11_1 + 1)), (by first | rfl | (simp; done) | (simp [*]; done)), H', ⟨by have := HK1.out; omega⟩, ⟨mr_ HO_3.out⟩, ⟨mb_ HB.out⟩⟩
         rw [if_neg c10] at H
         exact absurd H (by simp)
        rw [if_neg c9] at H
        exact absurd H (by simp)
       rw [if_neg c8] at H
       exact absurd H (by simp)
      rw [if_neg c7] at H
      exact absurd H (by simp)
     rw [if_neg c6] at H
     have c6b0 : decide (x11_1 < (l0.length : Int)) = false := decide_eq_false c6
     clear c6
     obtain rfl := Option.some.inj H
     go_wp2
     go_ret
     exact ⟨_, by first | rfl | (simp [errW_none, errW_some] <;> rfl) | (simp [*, errW_none, errW_some] <;> rfl), mr_ HO_3.out, mb_ HB.out⟩
  rw [if_neg c3] at H
  exact absurd H (by simp)
 rw [if_neg c2] at H
 exact absurd H (by simp)

/-! ### morphism_Inverse: function 35 -/
def morphism_Inverse.j0 : Nat → Bool → List Int → List Int → Option (List Int × List Int × Int)
 | 0, _, _, _ => none
 | k + 1, x28, x393000, x393001 => if x28 = true then (some (([] : List Int), ([] : List Int), 10)) else ((morphism_back.f k x393000).bind fun t397 => ((morphism_back.f k x393001).bind fun t400 => (some (t397, t400, 0))))
def morphism_Inverse.f (k : Nat) (l0_0 : List Int) (l0_1 : List (S65)) (l1_0 : List Int) (l1_1 : List (S65)) (l2_0 : List Int) (l2_1 : List Int) : Option (List Int × List Int × Int) := (morphism_Valid.f k l0_0 l0_1 l1_0 l1_1 l2_0 l2_1).bind fun t394 => (if t394 = 0 then ((morphism_Injective.f k l0_0 l0_1 l1_0 l1_1 l2_0 l2_1).bind fun t395 => (if t395 = true then ((morphism_Surjective.f k l0_0 l0_1 l1_0 l1_1 l2_0 l2_1).bind fun t396 => (morphism_Inverse.j0 k (!t396) l2_0 l2_1)) else (morphism_Inverse.j0 k true l2_0 l2_1))) else (some (([] : List Int), ([] : List Int), t394)))
theorem morphism_Inverse.mono_l : ∀ k, (∀ y0 y1 y2, LeO (morphism_Inverse.j0 k y0 y1 y2) (morphism_Inverse.j0 (k + 1) y0 y1 y2))
 | 0 => fun _ _ _ r h => by simp [morphism_Inverse.j0] at h
 | k + 1 => by
  have ih0 := morphism_Inverse.mono_l k
  ·intro y0 y1 y2
   unfold morphism_Inverse.j0
   repeat' first
   | (with_reducible exact ih0 _ _ _)
   | (with_reducible exact morphism_Injective.mono _ _ _ _ _ _ _)
   | (with_reducible exact morphism_Surjective.mono _ _ _ _ _ _ _)
   | (with_reducible exact morphism_Valid.mono _ _ _ _ _ _ _)
   | (with_reducible exact morphism_back.mono _ _)
   | (with_reducible exact LeO.refl _)
   | (with_reducible exact LeO.none _)
   | (with_reducible refine LeO.ite ?_ ?_)
   | (with_reducible refine LeO.bind ?_ (fun _ => ?_))
   | exact ih0 _ _ _
   | exact morphism_Injective.mono _ _ _ _ _ _ _
   | exact morphism_Surjective.mono _ _ _ _ _ _ _
   | exact morphism_Valid.mono _ _ _ _ _ _ _
   | exact morphism_back.mono _ _
   | exact LeO.none _
   | refine LeO.ite ?_ ?_
   | refine LeO.bind ?_ (fun _ => ?_)
theorem morphism_Inverse.mono : ∀ a0 a1 a2 a3 a4 a5 k, LeO (morphism_Inverse.f k a0 a1 a2 a3 a4 a5) (morphism_Inverse.f (k + 1) a0 a1 a2 a3 a4 a5) := by
 intro a0 a1 a2 a3 a4 a5 k
 have ih0 := morphism_Inverse.mono_l k
 unfold morphism_Inverse.f
 repeat' first
   | (with_reducible exact ih0 _ _ _)
   | (with_reducible exact morphism_Injective.mono _ _ _ _ _ _ _)
   | (with_reducible exact morphism_Surjective.mono _ _ _ _ _ _ _)
   | (with_reducible exact morphism_Valid.mono _ _ _ _ _ _ _)
   | (with_reducible exact morphism_back.mono _ _)
   | (with_reducible exact LeO.refl _)
   | (with_reducible exact LeO.none _)
   | (with_reducible refine LeO.ite ?_ ?_)
   | (with_reducible refine LeO.bind ?_ (fun _ => ?_))
   | exact ih0 _ _ _
   | exact morphism_Injective.mono _ _ _ _ _ _ _
   | exact morphism_Surjective.mono _ _ _ _ _ _ _
   | exact morphism_Valid.mono _ _ _ _ _ _ _
   | exact morphism_back.mono _ _
   | exact LeO.none _
   | refine LeO.ite ?_ ?_
   | refine LeO.bind ?_ (fun _ => ?_)
def morphism_Inverse.T6 : Bool × List (List Nat × List Nat) := (true, [([], []), ([0], [0]), ([1], [1]), ([], []), ([3], [3]), ([4, 2], [4]), ([2, 5], [2, 5]), ([6, 5, 0, 1, 2, 3, 4, 5, 6], [6]), ([7, 0, 1, 2, 3, 4, 5, 6, 7], [])])
def morphism_Inverse.B6 : List Nat := [0, 1, 3, 0, 8, 31, 63, 127, 255]
theorem morphism_Inverse.tab6 : rtab .any (opsOf Try.f35 6) = morphism_Inverse.T6 := by kernel_rfl
theorem morphism_Inverse.bits6 : waitsOk morphism_Inverse.T6.2 morphism_Inverse.B6 = true := by kernel_rfl
set_option maxHeartbeats 8000000 in
set_option maxRecDepth 100000 in
theorem morphism_Inverse.calls (k : Nat) (A0_0 : Option Addr) (c0_0 : Nat) (l0_0 : List Int) (A0_1 : Option Addr) (c0_1 : Nat) (l0_1 : List (S65)) (A1_0 : Option Addr) (c1_0 : Nat) (l1_0 : List Int) (A1_1 : Option Addr) (c1_1 : Nat) (l1_1 : List (S65)) (A2_0 : Option Addr) (c2_0 : Nat) (l2_0 : List Int) (A2_1 : Option Addr) (c2_1 : Nat) (l2_1 : List Int) (r1 : List Int) (r2 : List Int) (r3 : Int) (w : World) (hr0_0 : Kd.C (Kd.int .i64) w A0_0 l0_0.length l0_0) (hc0_0 : l0_0.length ≤ c0_0) (hr0_1 : Kd.C k65 w A0_1 l0_1.length l0_1) (hc0_1 : l0_1.length ≤ c0_1) (hr1_0 : Kd.C (Kd.int .i64) w A1_0 l1_0.length l1_0) (hc1_0 : l1_0.length ≤ c1_0) (hr1_1 : Kd.C k65 w A1_1 l1_1.length l1_1) (hc1_1 : l1_1.length ≤ c1_1) (hr2_0 : Kd.C (Kd.int .i64) w A2_0 l2_0.length l2_0) (hc2_0 : l2_0.length ≤ c2_0) (hr2_1 : Kd.C (Kd.int .i64) w A2_1 l2_1.length l2_1) (hc2_1 : l2_1.length ≤ c2_1) (h : morphism_Inverse.f k l0_0 l0_1 l1_0 l1_1 l2_0 l2_1 = some (r1, r2, r3)) :
  Calls Try.prog 35 #[.agg #[.slice A0_0 l0_0.length c0_0, .slice A0_1 l0_1.length c0_1], .agg #[.slice A1_0 l1_0.length c1_0, .slice A1_1 l1_1.length c1_1], .agg #[.slice A2_0 l2_0.length c2_0, .slice A2_1 l2_1.length c2_1]] w fun e w' => ∃ v0_ v1_ : Value, e = .returned (.tuple #[.agg #[v0_, v1_], .int .i64 r3]) ∧ Kd.R (Kd.int .i64) 3 w' w.heap.size (fun k_ => some k_ ≠ (v1_ : Value).ownBlock) v0_ r1 ∧ Kd.R (Kd.int .i64) 3 w' w.heap.size (fun k_ => some k_ ≠ (v0_ : Value).ownBlock) v1_ r2 ∧ Below w.heap.size w w' := by
 have hu25 := Try.underlying25
 have hu27 := Try.underlying27
 have HR0_0 := Aside0.mk hr0_0
 have HC0_0 := Aside0.mk hc0_0
 clear hr0_0 hc0_0
 have HR0_1 := Aside0.mk hr0_1
 have HC0_1 := Aside0.mk hc0_1
 clear hr0_1 hc0_1
 have HR1_0 := Aside0.mk hr1_0
 have HC1_0 := Aside0.mk hc1_0
 clear hr1_0 hc1_0
 have HR1_1 := Aside0.mk hr1_1
 have HC1_1 := Aside0.mk hc1_1
 clear hr1_1 hc1_1
 have HR2_0 := Aside0.mk hr2_0
 have HC2_0 := Aside0.mk hc2_0
 clear hr2_0 hc2_0
 have HR2_1 := Aside0.mk hr2_1
 have HC2_1 := Aside0.mk hc2_1
 clear hr2_1 hc2_1
 have HB := Aside0.mk (Below.refl w.heap.size w)
 have H : ((morphism_Valid.f k l0_0 l0_1 l1_0 l1_1 l2_0 l2_1).bind fun t394 => (if t394 = 0 then ((morphism_Injective.f k l0_0 l0_1 l1_0 l1_1 l2_0 l2_1).bind fun t395 => (if t395 = true then ((morphism_Surjective.f k l0_0 l0_1 l1_0 l1_1 l2_0 l2_1).bind fun t396 => (morphism_Inverse.j0 k (!t396) l2_0 l2_1)) else (morphism_Inverse.j0 k true l2_0 l2_1))) else (some (([] : List Int), ([] : List Int), t394)))) = some (r1, r2, r3) := h
 clear h
 replace H := Option.bind_eq_some_iff.mp H
 obtain ⟨t394, A40, H⟩ := H
 replace H : (if t394 = 0 then ((morphism_Injective.f k l0_0 l0_1 l1_0 l1_1 l2_0 l2_1).bind fun t395 => (if t395 = true then ((morphism_Surjective.f k l0_0 l0_1 l1_0 l1_1 l2_0 l2_1).bind fun t396 => (morphism_Inverse.j0 k (!t396) l2_0 l2_1)) else (morphism_Inverse.j0 k true l2_0 l2_1))) else (some (([] : List Int), ([] : List Int), t394))) = some (r1, r2, r3) := H
 have A4 := Aside0.mk A40
 clear A40
 by_cases c5 : t394 = 0
 ·rw [if_pos c5] at H
  have c5b0 : (t394 == 0) = true := beq_iff_eq.mpr c5
  have c5b1 : (t394 != 0) = false := bne_eq_false_iff_eq.mpr c5
  clear c5
  have HC6 := Aside0.mk H
  clear H
  go_enter Try.func35, Try.ntmps35
  go_upto_region 4 with (first | ((with_reducible refine gate_dst (N := 3) rfl ?_); refine box_event ?hg (N := 3) ?hd (cs := #[.slice A0_0 l0_0.length c0_0, .slice A0_1 l0_1.length c0_1]) (t := 25) ?hr ?_; (case hd => rfl); (case hg => rfl); (case hr => first | (go_simp; done) | (go_simp; rfl)); intro gb390 hg w7 hbox hb; have BK390 := Aside0.mk (hbox); have GW390 := Aside0.mk (gw_ hg (mb_ HB.out)); have GE390 := Aside0.mk (gw_ hg (mb_ HB.out)); replace HB := Aside0.mk (below_step (mb_ HB.out) hb); clear hb hbox hg) | ((with_reducible refine gate_dst (N := 4) rfl ?_); refine box_event ?hg (N := 4) ?hd (cs := #[.slice A1_0 l1_0.length c1_0, .slice A1_1 l1_1.length c1_1]) (t := 25) ?hr ?_; (case hd => rfl); (case hg => rfl); (case hr => first | (go_simp; done) | (go_simp; rfl)); intro gb391 hg w8 hbox hb; have BK391 := Aside0.mk (hbox); have GW391 := Aside0.mk (gw_ hg (mbs_ HB.out)); have GE391 := Aside0.mk (gw_ hg (mbs_ HB.out)); replace HB := Aside0.mk (below_step (mbs_ HB.out) hb); have NB390_391 := Aside0.mk (nb_ hg (bk_ BK390.out)); have NB391_390 := Aside0.mk (nc_ hg (bk_ BK390.out)); replace BK390 := kb_ (bk_ BK390.out) hb; clear hb hbox hg) | ((with_reducible refine gate_dst (N := 5) rfl ?_); refine box_event ?hg (N := 5) ?hd (cs := #[.slice A2_0 l2_0.length c2_0, .slice A2_1 l2_1.length c2_1]) (t := 27) ?hr ?_; (case hd => rfl); (case hg => rfl); (case hr => first | (go_simp; done) | (go_simp; rfl)); intro gb392 hg w9 hbox hb; have BK392 := Aside0.mk (hbox); have GW392 := Aside0.mk (gw_ hg (mbs_ HB.out)); have GE392 := Aside0.mk (gw_ hg (mbs_ HB.out)); replace HB := Aside0.mk (below_step (mbs_ HB.out) hb); have NB390_392 := Aside0.mk (nb_ hg (bk_ BK390.out)); have NB392_390 := Aside0.mk (nc_ hg (bk_ BK390.out)); replace BK390 := kb_ (bk_ BK390.out) hb; have NB391_392 := Aside0.mk (nb_ hg (bk_ BK391.out)); have NB392_391 := Aside0.mk (nc_ hg (bk_ BK391.out)); replace BK391 := kb_ (bk_ BK391.out) hb; clear hb hbox hg) | ((with_reducible refine gate_dst (N := 6) rfl ?_); refine box_event ?hg (N := 6) ?hd (cs := #[.slice none 0 0, .slice none 0 0]) (t := 27) ?hr ?_; (case hd => rfl); (case hg => rfl); (case hr => first | (go_simp; done) | (go_simp; rfl)); intro gb393 hg w10 hbox hb; have BK393 := Aside0.mk (hbox); have GW393 := Aside0.mk (gw_ hg (mbs_ HB.out)); have GE393 := Aside0.mk (gw_ hg (mbs_ HB.out)); replace HB := Aside0.mk (below_step (mbs_ HB.out) hb); have NB390_393 := Aside0.mk (nb_ hg (bk_ BK390.out)); have NB393_390 := Aside0.mk (nc_ hg (bk_ BK390.out)); replace BK390 := kb_ (bk_ BK390.out) hb; have NB391_393 := Aside0.mk (nb_ hg (bk_ BK391.out)); have NB393_391 := Aside0.mk (nc_ hg (bk_ BK391.out)); replace BK391 := kb_ (bk_ BK391.out) hb; have NB392_393 := Aside0.mk (nb_ hg (bk_ BK392.out)); have NB393_392 := Aside0.mk (nc_ hg (bk_ BK392.out)); replace BK392 := kb_ (bk_ BK392.out) hb; clear hb hbox hg; have hnb11 := NB390_391.out; have hnc11 := NB391_390.out; have hnb12 := NB390_392.out; have hnc12 := NB392_390.out; have hnb13 := NB390_393.out; have hnc13 := NB393_390.out; have hcz14_0 := bc0_ BK390.out; have hcz14_1 := bc1_ BK390.out; have hfz14_0 := blk_frozen BK390.out 0; have hfz14_1 := blk_frozen BK390.out 1; have hnb15 := NB391_392.out; have hnc15 := NB392_391.out; have hnb16 := NB391_393.out; have hnc16 := NB393_391.out; have hcz17_0 := bc0_ BK391.out; have hcz17_1 := bc1_ BK391.out; have hfz17_0 := blk_frozen BK391.out 0; have hfz17_1 := blk_frozen BK391.out 1; have hnb18 := NB392_393.out; have hnc18 := NB393_392.out; have hcz19_0 := bc0_ BK392.out; have hcz19_1 := bc1_ BK392.out; have hfz19_0 := blk_frozen BK392.out 0; have hfz19_1 := blk_frozen BK392.out 1) | ((with_reducible refine gate_callee (f := 12) rfl ?_); refine goesL_ (some 12) rfl rfl Try.func12 (by kernel_rfl) rfl #[.agg #[.slice A0_0 l0_0.length c0_0, .slice A0_1 l0_1.length c0_1], .agg #[.slice A1_0 l1_0.length c1_0, .slice A1_1 l1_1.length c1_1], .agg #[.slice A2_0 l2_0.length c2_0, .slice A2_1 l2_1.length c2_1]] rfl (by (try simp only [List.map_toArray, List.map_cons, List.map_nil]); first | done | rfl | (simp only [List.length_drop, List.length_take]; rfl)) ?_; (with_reducible refine (morphism_Valid.calls k _ _ l0_0 _ _ l0_1 _ _ l1_0 _ _ l1_1 _ _ l2_0 _ _ l2_1 t394 _ ?side1 ?side2 ?side3 ?side4 ?side5 ?side6 ?side7 ?side8 ?side9 ?side10 ?side11 ?side12 A4.out).mono ?_); (case side1 => exact mc_ (Kd.C_below HR0_0.out HB.out)); (case side2 => exact HC0_0.out); (case side3 => exact mc_ (Kd.C_below HR0_1.out HB.out)); (case side4 => exact HC0_1.out); (case side5 => exact mc_ (Kd.C_below HR1_0.out HB.out)); (case side6 => exact HC1_0.out); (case side7 => exact mc_ (Kd.C_below HR1_1.out HB.out)); (case side8 => exact HC1_1.out); (case side9 => exact mc_ (Kd.C_below HR2_0.out HB.out)); (case side10 => exact HC2_0.out); (case side11 => exact mc_ (Kd.C_below HR2_1.out HB.out)); (case side12 => exact HC2_1.out); rintro e w20 ⟨rfl, hb⟩; refine ⟨_, rfl, ?_⟩; replace BK390 := kb_ (bk_ BK390.out) hb; replace BK391 := kb_ (bk_ BK391.out) hb; replace BK392 := kb_ (bk_ BK392.out) hb; replace BK393 := kb_ (bk_ BK393.out) hb; replace HB := Aside0.mk (below_step (mbs_ HB.out) hb); (try clear hb); (try clear hb2); (try clear hk); (try clear hi)))
  (try simp only [Act.put, List.setIfInBounds_toArray, List.set_cons_zero, List.set_cons_succ])
  go_cut [28] (fun v28 wc => ∃ (kq : Nat) (x28_5 : Bool), v28 = .bool x28_5 ∧ Aside0 (morphism_Inverse.j0 kq x28_5 l2_0 l2_1 = some (r1, r2, r3)) ∧ Aside0 (kq ≤ k) ∧ Aside0 (wc.heap[gb390]? = some (.cells #[(.slice A0_0 l0_0.length c0_0), (.slice A0_1 l0_1.length c0_1)] 25 (0, 0))) ∧ Aside0 (wc.heap[gb391]? = some (.cells #[(.slice A1_0 l1_0.length c1_0), (.slice A1_1 l1_1.length c1_1)] 25 (0, 0))) ∧ Aside0 (wc.heap[gb392]? = some (.cells #[(.slice A2_0 l2_0.length c2_0), (.slice A2_1 l2_1.length c2_1)] 27 (0, 0))) ∧ Aside0 (wc.heap[gb393]? = some (.cells #[(.slice none 0 0), (.slice none 0 0)] 27 (0, 0))) ∧ Aside0 (Below w.heap.size w wc))
  case first =>
   have H := HC6.out
   clear HC6
   replace H := Option.bind_eq_some_iff.mp H
   obtain ⟨t395, A210, H⟩ := H
   replace H : (if t395 = true then ((morphism_Surjective.f k l0_0 l0_1 l1_0 l1_1 l2_0 l2_1).bind fun t396 => (morphism_Inverse.j0 k (!t396) l2_0 l2_1)) else (morphism_Inverse.j0 k true l2_0 l2_1)) = some (r1, r2, r3) := H
   have A21 := Aside0.mk A210
   clear A210
   by_cases c22 : t395 = true
   ·subst c22
    have H1 : ((morphism_Surjective.f k l0_0 l0_1 l1_0 l1_1 l2_0 l2_1).bind fun t396 => (morphism_Inverse.j0 k (!t396) l2_0 l2_1)) = some (r1, r2, r3) := by rw [if_pos rfl] at H; exact H
    clear H
    have H := H1
    clear H1
    replace H := Option.bind_eq_some_iff.mp H
    obtain ⟨t396, A230, H⟩ := H
    replace H : (morphism_Inverse.j0 k (!t396) l2_0 l2_1) = some (r1, r2, r3) := H
    have A23 := Aside0.mk A230
    clear A230
    have H' := Aside0.mk H
    clear H
    have hnb24 := NB390_391.out
    have hnc24 := NB391_390.out
    have hnb25 := NB390_392.out
    have hnc25 := NB392_390.out
    have hnb26 := NB390_393.out
    have hnc26 := NB393_390.out
    have hcz27_0 := bc0_ BK390.out
    have hcz27_1 := bc1_ BK390.out
    have hfz27_0 := blk_frozen BK390.out 0
    have hfz27_1 := blk_frozen BK390.out 1
    have hnb28 := NB391_392.out
    have hnc28 := NB392_391.out
    have hnb29 := NB391_393.out
    have hnc29 := NB393_391.out
    have hcz30_0 := bc0_ BK391.out
    have hcz30_1 := bc1_ BK391.out
    have hfz30_0 := blk_frozen BK391.out 0
    have hfz30_1 := blk_frozen BK391.out 1
    have hnb31 := NB392_393.out
    have hnc31 := NB393_392.out
    have hcz32_0 := bc0_ BK392.out
    have hcz32_1 := bc1_ BK392.out
    have hfz32_0 := blk_frozen BK392.out 0
    have hfz32_1 := blk_frozen BK392.out 1
    go_wp2_with (first | ((with_reducible refine gate_callee (f := 15) rfl ?_); refine goesL_ (some 20) rfl rfl Try.func15 (by kernel_rfl) rfl #[.agg #[.slice A0_0 l0_0.length c0_0, .slice A0_1 l0_1.length c0_1], .agg #[.slice A1_0 l1_0.length c1_0, .slice A1_1 l1_1.length c1_1], .agg #[.slice A2_0 l2_0.length c2_0, .slice A2_1 l2_1.length c2_1]] rfl (by (try simp only [List.map_toArray, List.map_cons, List.map_nil]); first | done | rfl | (simp only [List.length_drop, List.length_take]; rfl)) ?_; (with_reducible refine (morphism_Injective.calls k _ _ l0_0 _ _ l0_1 _ _ l1_0 _ _ l1_1 _ _ l2_0 _ _ l2_1 true _ ?side1 ?side2 ?side3 ?side4 ?side5 ?side6 ?side7 ?side8 ?side9 ?side10 ?side11 ?side12 A21.out).mono ?_); (case side1 => exact mc_ (Kd.C_below HR0_0.out HB.out)); (case side2 => exact HC0_0.out); (case side3 => exact mc_ (Kd.C_below HR0_1.out HB.out)); (case side4 => exact HC0_1.out); (case side5 => exact mc_ (Kd.C_below HR1_0.out HB.out)); (case side6 => exact HC1_0.out); (case side7 => exact mc_ (Kd.C_below HR1_1.out HB.out)); (case side8 => exact HC1_1.out); (case side9 => exact mc_ (Kd.C_below HR2_0.out HB.out)); (case side10 => exact HC2_0.out); (case side11 => exact mc_ (Kd.C_below HR2_1.out HB.out)); (case side12 => exact HC2_1.out); rintro e w33 ⟨rfl, hb⟩; refine ⟨_, rfl, ?_⟩; replace BK390 := kb_ (bk_ BK390.out) hb; replace BK391 := kb_ (bk_ BK391.out) hb; replace BK392 := kb_ (bk_ BK392.out) hb; replace BK393 := kb_ (bk_ BK393.out) hb; replace HB := Aside0.mk (below_step (mbs_ HB.out) hb); (try clear hb); (try clear hb2); (try clear hk); (try clear hi); have hcz34_0 := bc0_ BK390.out; have hcz34_1 := bc1_ BK390.out; have hfz34_0 := blk_frozen BK390.out 0; have hfz34_1 := blk_frozen BK390.out 1; have hcz35_0 := bc0_ BK391.out; have hcz35_1 := bc1_ BK391.out; have hfz35_0 := blk_frozen BK391.out 0; have hfz35_1 := blk_frozen BK391.out 1; have hcz36_0 := bc0_ BK392.out; have hcz36_1 := bc1_ BK392.out; have hfz36_0 := blk_frozen BK392.out 0; have hfz36_1 := blk_frozen BK392.out 1) | (go_at_call 17; (with_reducible refine (morphism_Surjective.calls k _ _ l0_0 _ _ l0_1 _ _ l1_0 _ _ l1_1 _ _ l2_0 _ _ l2_1 t396 _ ?side1 ?side2 ?side3 ?side4 ?side5 ?side6 ?side7 ?side8 ?side9 ?side10 ?side11 ?side12 A23.out).mono ?_); (case side1 => exact mc_ (Kd.C_below HR0_0.out HB.out)); (case side2 => exact HC0_0.out); (case side3 => exact mc_ (Kd.C_below HR0_1.out HB.out)); (case side4 => exact HC0_1.out); (case side5 => exact mc_ (Kd.C_below HR1_0.out HB.out)); (case side6 => exact HC1_0.out); (case side7 => exact mc_ (Kd.C_below HR1_1.out HB.out)); (case side8 => exact HC1_1.out); (case side9 => exact mc_ (Kd.C_below HR2_0.out HB.out)); (case side10 => exact HC2_0.out); (case side11 => exact mc_ (Kd.C_below HR2_1.out HB.out)); (case side12 => exact HC2_1.out); rintro e w37 ⟨rfl, hb⟩; replace BK390 := kb_ (bk_ BK390.out) hb; replace BK391 := kb_ (bk_ BK391.out) hb; replace BK392 := kb_ (bk_ BK392.out) hb; replace BK393 := kb_ (bk_ BK393.out) hb; replace HB := Aside0.mk (below_step (mbs_ HB.out) hb); (try clear hb); (try clear hb2); (try clear hk); (try clear hi)))
    go_meet
    case rel => exact ⟨_, (!t396), (by first | rfl | (simp; done) | (simp [*]; done)), H', ⟨by first | omega | exact Nat.le_refl _⟩, ⟨bk_ BK390.out⟩, ⟨bk_ BK391.out⟩, ⟨bk_ BK392.out⟩, ⟨bk_ BK393.out⟩, ⟨mbs_ HB.out⟩⟩
   replace c22 := Bool.eq_false_iff.mpr c22
   subst c22
   have H1 : (morphism_Inverse.j0 k true l2_0 l2_1) = some (r1, r2, r3) := by rw [if_neg (show ¬ (false = true) by decide)] at H; exact H
   clear H
   have H := H1
   clear H1
   have H' := Aside0.mk H
   clear H
   have hnb38 := NB390_391.out
   have hnc38 := NB391_390.out
   have hnb39 := NB390_392.out
   have hnc39 := NB392_390.out
   have hnb40 := NB390_393.out
   have hnc40 := NB393_390.out
   have hcz41_0 := bc0_ BK390.out
   have hcz41_1 := bc1_ BK390.out
   have hfz41_0 := blk_frozen BK390.out 0
   have hfz41_1 := blk_frozen BK390.out 1
   have hnb42 := NB391_392.out
   have hnc42 := NB392_391.out
   have hnb43 := NB391_393.out
   have hnc43 := NB393_391.out
   have hcz44_0 := bc0_ BK391.out
   have hcz44_1 := bc1_ BK391.out
   have hfz44_0 := blk_frozen BK391.out 0
   have hfz44_1 := blk_frozen BK391.out 1
   have hnb45 := NB392_393.out
   have hnc45 := NB393_392.out
   have hcz46_0 := bc0_ BK392.out
   have hcz46_1 := bc1_ BK392.out
   have hfz46_0 := blk_frozen BK392.out 0
   have hfz46_1 := blk_frozen BK392.out 1
   go_wp2_with (first | ((with_reducible refine gate_callee (f := 15) rfl ?_); refine goesL_ (some 20) rfl rfl Try.func15 (by kernel_rfl) rfl #[.agg #[.slice A0_0 l0_0.length c0_0, .slice A0_1 l0_1.length c0_1], .agg #[.slice A1_0 l1_0.length c1_0, .slice A1_1 l1_1.length c1_1], .agg #[.slice A2_0 l2_0.length c2_0, .slice A2_1 l2_1.length c2_1]] rfl (by (try simp only [List.map_toArray, List.map_cons, List.map_nil]); first | done | rfl | (simp only [List.length_drop, List.length_take]; rfl)) ?_; (with_reducible refine (morphism_Injective.calls k _ _ l0_0 _ _ l0_1 _ _ l1_0 _ _ l1_1 _ _ l2_0 _ _ l2_1 false _ ?side1 ?side2 ?side3 ?side4 ?side5 ?side6 ?side7 ?side8 ?side9 ?side10 ?side11 ?side12 A21.out).mono ?_); (case side1 => exact mc_ (Kd.C_below HR0_0.out HB.out)); (case side2 => exact HC0_0.out); (case side3 => exact mc_ (Kd.C_below HR0_1.out HB.out)); (case side4 => exact HC0_1.out); (case side5 => exact mc_ (Kd.C_below HR1_0.out HB.out)); (case side6 => exact HC1_0.out); (case side7 => exact mc_ (Kd.C_below HR1_1.out HB.out)); (case side8 => exact HC1_1.out); (case side9 => exact mc_ (Kd.C_below HR2_0.out HB.out)); (case side10 => exact HC2_0.out); (case side11 => exact mc_ (Kd.C_below HR2_1.out HB.out)); (case side12 => exact HC2_1.out); rintro e w47 ⟨rfl, hb⟩; refine ⟨_, rfl, ?_⟩; replace BK390 := kb_ (bk_ BK390.out) hb; replace BK391 := kb_ (bk_ BK391.out) hb; replace BK392 := kb_ (bk_ BK392.out) hb; replace BK393 := kb_ (bk_ BK393.out) hb; replace HB := Aside0.mk (below_step (mbs_ HB.out) hb); (try clear hb); (try clear hb2); (try clear hk); (try clear hi)))
   go_meet
   case rel => exact ⟨_, (true), (by first | rfl | (simp; done) | (simp [*]; done)), H', ⟨by first | omega | exact Nat.le_refl _⟩, ⟨bk_ BK390.out⟩, ⟨bk_ BK391.out⟩, ⟨bk_ BK392.out⟩, ⟨bk_ BK393.out⟩, ⟨mbs_ HB.out⟩⟩
  case rest =>
   clear HC6
   try clear c1
   try clear c2
   try clear p2
   try clear c3
   try clear c4
   try clear c5
   try clear c5b0
   try clear c5b1
   try clear c11
   try clear c12
   try clear c13
   try clear c15
   try clear c16
   try clear c18
   try clear c22
   try clear c24
   try clear c25
   try clear c26
   try clear c28
   try clear c29
   try clear c31
   try clear c35
   try clear c38
   try clear c39
   try clear c40
   try clear c42
   try clear c43
   try clear c45
   try clear hcz14_0
   try clear hcz14_1
   try clear hcz17_0
   try clear hcz17_1
   try clear hcz19_0
   try clear hcz19_1
   try clear hcz27_0
   try clear hcz27_1
   try clear hcz30_0
   try clear hcz30_1
   try clear hcz32_0
   try clear hcz32_1
   try clear hcz34_0
   try clear hcz34_1
   try clear hcz35_0
   try clear hcz35_1
   try clear hcz36_0
   try clear hcz36_1
   try clear hcz41_0
   try clear hcz41_1
   try clear hcz44_0
   try clear hcz44_1
   try clear hcz46_0
   try clear hcz46_1
   try clear hfz14_0
   try clear hfz14_1
   try clear hfz17_0
   try clear hfz17_1
   try clear hfz19_0
   try clear hfz19_1
   try clear hfz27_0
   try clear hfz27_1
   try clear hfz30_0
   try clear hfz30_1
   try clear hfz32_0
   try clear hfz32_1
   try clear hfz34_0
   try clear hfz34_1
   try clear hfz35_0
   try clear hfz35_1
   try clear hfz36_0
   try clear hfz36_1
   try clear hfz41_0
   try clear hfz41_1
   try clear hfz44_0
   try clear hfz44_1
   try clear hfz46_0
   try clear hfz46_1
   obtain ⟨kq, x28_5, rfl, HA, HJ5, BK390, BK391, BK392, BK393, HB⟩ := hcut
   cases kq with
   | zero => exact absurd HA.out (by simp [morphism_Inverse.j0])
   | succ kj5 =>
    have H := HA.out
    clear HA
    simp only [morphism_Inverse.j0] at H
    by_cases c48 : x28_5 = true
    ·subst c48
     have H1 : (some (([] : List Int), ([] : List Int), 10)) = some (r1, r2, r3) := by rw [if_pos rfl] at H; exact H
     clear H
     have H := H1
     clear H1
     simp only [Option.some.injEq, Prod.mk.injEq] at H
     obtain ⟨rfl, rfl, rfl⟩ := H
     have hnb49 := NB393_390.out
     have hnc49 := NB390_393.out
     have hnb50 := NB393_391.out
     have hnc50 := NB391_393.out
     have hnb51 := NB393_392.out
     have hnc51 := NB392_393.out
     have hcz52_0 := bc0_ BK393.out
     have hcz52_1 := bc1_ BK393.out
     have hfz52_0 := blk_frozen BK393.out 0
     have hfz52_1 := blk_frozen BK393.out 1
     go_wp2
     refine bodyPost_ret (results_ct rfl _ _ gb393 27 #[.slice none 0 0, .slice none 0 0] (0, 0) _ rfl (by (with_reducible repeat (first | refine blk_drewN ?_ _ | refine blk_drew ?_ | refine blk_alloc ?_ _)); refine blk_put (cs := #[.slice none 0 0, .slice none 0 0]) ?_ 1 _ rfl; (with_reducible repeat (first | refine blk_drewN ?_ _ | refine blk_drew ?_ | refine blk_alloc ?_ _)); refine blk_put (cs := #[.slice none 0 0, .slice none 0 0]) ?_ 0 _ rfl; (with_reducible repeat (first | refine blk_drewN ?_ _ | refine blk_drew ?_ | refine blk_alloc ?_ _)); exact BK393.out) Try.underlying27 rfl (by kernel_rfl)) rfl ?_
     exact ⟨_, _, by first | rfl | (simp [errW_none, errW_some] <;> rfl) | (simp [*, errW_none, errW_some] <;> rfl), by first | exact Kd.R_nil _ _ _ _ _ | exact Kd.N_nil _ _ _ _ _ | exact Kd.V_nil _ _ _ _ _ | exact Kd.Q_nil _ _ _ _ _ | exact Kd.S_nil _ _ _ _ _, by first | exact Kd.R_nil _ _ _ _ _ | exact Kd.N_nil _ _ _ _ _ | exact Kd.V_nil _ _ _ _ _ | exact Kd.Q_nil _ _ _ _ _ | exact Kd.S_nil _ _ _ _ _, mbs_ HB.out⟩
    replace c48 := Bool.eq_false_iff.mpr c48
    subst c48
    have H1 : ((morphism_back.f kj5 l2_0).bind fun t397 => ((morphism_back.f kj5 l2_1).bind fun t400 => (some (t397, t400, 0)))) = some (r1, r2, r3) := by rw [if_neg (show ¬ (false = true) by decide)] at H; exact H
    clear H
    have H := H1
    clear H1
    replace H := Option.bind_eq_some_iff.mp H
    obtain ⟨t397, A530, H⟩ := H
    replace H : ((morphism_back.f kj5 l2_1).bind fun t400 => (some (t397, t400, 0))) = some (r1, r2, r3) := H
    have A53 := Aside0.mk A530
    clear A530
    replace H := Option.bind_eq_some_iff.mp H
    obtain ⟨t400, A540, H⟩ := H
    replace H : (some (t397, t400, 0)) = some (r1, r2, r3) := H
    have A54 := Aside0.mk A540
    clear A540
    simp only [Option.some.injEq, Prod.mk.injEq] at H
    obtain ⟨rfl, rfl, rfl⟩ := H
    try go_wp2
    replace BK390 := Aside0.mk (blk_drew BK390.out)
    replace BK391 := Aside0.mk (blk_drew BK391.out)
    replace BK392 := Aside0.mk (blk_drew BK392.out)
    replace BK393 := Aside0.mk (blk_drew BK393.out)
    replace HB := Aside0.mk (below_drew1 HB.out)
    refine start_ (n := 9) (S := fun w' => w'.cell? ⟨gb392, 0, none⟩ = some (.slice A2_0 l2_0.length c2_0) ∧ w'.cell? ⟨gb392, 1, none⟩ = some (.slice A2_1 l2_1.length c2_1)) (ds := []) #[false, false, false, false, false, false, false, false, false] (by kernel_rfl) rfl rfl ⟨(blk_cell BK392.out 0).trans rfl, (blk_cell BK392.out 1).trans rfl⟩ (fun hHeld => ?_); refine with_tabW morphism_Inverse.tab6 morphism_Inverse.bits6 (fun HT_ HW_ => ?_)
    generalize wc.drew = w55 at BK390 BK391 BK392 BK393 HB hHeld ⊢
    refine pw_ (i := 0) (N := some 30) (bm_ 9 1) rfl HT_.out ?_
    refine pw_ (i := 3) (N := some 33) (bm_ 9 9) rfl HT_.out ?_
    refine tw_ (i := 1) (N := some 31) (bm_ 9 11) rfl HT_.out HW_.out hHeld ?_
    refine tw_ (i := 4) (N := some 34) (bm_ 9 27) rfl HT_.out HW_.out hHeld ?_
    refine one_ (i := 2) (N := some 32) (bm_ 9 31) rfl rfl (one_of HT_.out (by kernel_rfl)) (by decide) (fun K hK => ?_)
    refine goes_ Try.func57 (by kernel_rfl) rfl #[.slice A2_0 l2_0.length c2_0] (by rfl) rfl rfl (by (try simp only [List.map_toArray, List.map_cons, List.map_nil]); first | done | rfl | (simp only [List.length_drop, List.length_take]; rfl)) ?_
    with_reducible refine (morphism_back.calls kj5 _ _ l2_0 t397 _ ?side1 ?side2 A53.out).mono ?_
    (case side1 => exact mc_ (Kd.C_below HR2_0.out HB.out))
    (case side2 => exact HC2_0.out)
    rintro e w56 ⟨v398, rfl, ho0, hb⟩
    refine ⟨_, rfl, ?_⟩
    have HO399 := Aside0.mk (Kd.R_lower ho0 (below_size (mbs_ HB.out)))
    replace BK390 := kb_ (bk_ BK390.out) hb
    replace BK391 := kb_ (bk_ BK391.out) hb
    replace BK392 := kb_ (bk_ BK392.out) hb
    replace BK393 := kb_ (bk_ BK393.out) hb
    replace HB := Aside0.mk (below_step (mbs_ HB.out) hb)
    (try clear hb)
    (try clear hb2)
    (try clear hk)
    (try clear hi)
    (try clear ho0)
    refine hK.out _ _ ⟨(blk_cell BK392.out 0).trans rfl, (blk_cell BK392.out 1).trans rfl⟩ (fun hHeld => ?_)
    clear hK K
    refine norm_ (a' := ?_) ?_ ?_
    rotate_left
    ·show Act.put _ (some 32) _ = _
     simp only [Act.put, List.setIfInBounds_toArray, List.set_cons_zero, List.set_cons_succ, i64_w, i32_w]
     rfl
    refine one_ (i := 5) (N := some 35) (bm_ 9 63) rfl rfl (one_of HT_.out (by kernel_rfl)) (by decide) (fun K hK => ?_)
    refine goes_ Try.func57 (by kernel_rfl) rfl #[.slice A2_1 l2_1.length c2_1] (by rfl) rfl rfl (by (try simp only [List.map_toArray, List.map_cons, List.map_nil]); first | done | rfl | (simp only [List.length_drop, List.length_take]; rfl)) ?_
    with_reducible refine (morphism_back.calls kj5 _ _ l2_1 t400 _ ?side1 ?side2 A54.out).mono ?_
    (case side1 => exact mc_ (Kd.C_below HR2_1.out HB.out))
    (case side2 => exact HC2_1.out)
    rintro e w57 ⟨v401, rfl, ho0, hb⟩
    refine ⟨_, rfl, ?_⟩
    have HO402 := Aside0.mk (Kd.R_lower (Kd.R_new' ho0 (Kd.R_lt (mr_ HO399.out))) (below_size (mbs_ HB.out)))
    replace HO399 := Aside0.mk (Kd.R_elder' (mr_ HO399.out) (Kd.R_base ho0) hb)
    replace BK390 := kb_ (bk_ BK390.out) hb
    replace BK391 := kb_ (bk_ BK391.out) hb
    replace BK392 := kb_ (bk_ BK392.out) hb
    replace BK393 := kb_ (bk_ BK393.out) hb
    replace HB := Aside0.mk (below_step (mbs_ HB.out) hb)
    (try clear hb)
    (try clear hb2)
    (try clear hk)
    (try clear hi)
    (try clear ho0)
    obtain ⟨Ao58, co58, eo58⟩ := Kd.R_slice HO402.out
    (first | subst eo58 | (injection eo58 with f1_ f2_ f3_; have f4_ := f1_.symm; have f5_ := f3_.symm; clear f1_ f2_ f3_; subst f4_; subst f5_))
    obtain ⟨Ao59, co59, eo59⟩ := Kd.R_slice HO399.out
    (first | subst eo59 | (injection eo59 with f1_ f2_ f3_; have f4_ := f1_.symm; have f5_ := f3_.symm; clear f1_ f2_ f3_; subst f4_; subst f5_))
    refine hK.out _ _ ⟨(blk_cell BK392.out 0).trans rfl, (blk_cell BK392.out 1).trans rfl⟩ (fun hHeld => ?_)
    clear hK K
    refine norm_ (a' := ?_) ?_ ?_
    rotate_left
    ·show Act.put _ (some 35) _ = _
     simp only [Act.put, List.setIfInBounds_toArray, List.set_cons_zero, List.set_cons_succ, i64_w, i32_w]
     rfl
    refine pw_ (i := 6) (N := some 36) (bm_ 9 127) rfl HT_.out ?_
    refine one_ (i := 7) (N := none) (bm_ 9 255) rfl rfl (one_of HT_.out (by kernel_rfl)) (by decide) (fun K hK => ?_)
    have hs60 : w57.cell? ⟨gb393, 0, none⟩ = some (.slice none 0 0) := (blk_cell BK393.out 0).trans rfl
    have hfs60 := blk_frozen BK393.out 0
    have hns60_0 := NB390_393.out
    have hns60_1 := NB391_393.out
    have hns60_2 := NB392_393.out
    have hms60_0 := NB393_390.out
    have hms60_1 := NB393_391.out
    have hms60_2 := NB393_392.out
    have hs61 : w57.cell? ⟨gb393, 1, none⟩ = some (.slice none 0 0) := (blk_cell BK393.out 1).trans rfl
    have hfs61 := blk_frozen BK393.out 1
    have hns61_0 := NB390_393.out
    have hns61_1 := NB391_393.out
    have hns61_2 := NB392_393.out
    have hms61_0 := NB393_390.out
    have hms61_1 := NB393_391.out
    have hms61_2 := NB393_392.out
    refine skip_ (w1 := ?_) (by rfl) rfl ?_ ?_
    rotate_left
    ·go_simp
     rfl
    refine hK.out _ _ ⟨((cell_far (p := ⟨gb393, _, none⟩) NB392_393.out _).trans (((cell_far (p := ⟨gb393, _, none⟩) NB392_393.out _).trans (hHeld.1)))), ((cell_far (p := ⟨gb393, _, none⟩) NB392_393.out _).trans (((cell_far (p := ⟨gb393, _, none⟩) NB392_393.out _).trans (hHeld.2))))⟩ (fun hHeld => ?_)
    clear hK K
    refine pw_ (i := 8) (N := some 7) (bm_ 9 511) rfl HT_.out ?_
    refine done_ (done_of HT_.out (by kernel_rfl)) ?_
    try go_wp2
    refine bodyPost_ret (results_ct rfl _ _ gb393 27 #[.slice Ao59 t397.length co59, .slice Ao58 t400.length co58] (0, 0) _ rfl (by (with_reducible repeat (first | refine blk_drewN ?_ _ | refine blk_drew ?_ | refine blk_alloc ?_ _)); refine blk_put (cs := #[.slice Ao59 t397.length co59, .slice none 0 0]) ?_ 1 _ rfl; (with_reducible repeat (first | refine blk_drewN ?_ _ | refine blk_drew ?_ | refine blk_alloc ?_ _)); refine blk_put (cs := #[.slice none 0 0, .slice none 0 0]) ?_ 0 _ rfl; (with_reducible repeat (first | refine blk_drewN ?_ _ | refine blk_drew ?_ | refine blk_alloc ?_ _)); exact BK393.out) Try.underlying27 rfl (by kernel_rfl)) rfl ?_
    exact ⟨_, _, by first | rfl | (simp [errW_none, errW_some] <;> rfl) | (simp [*, errW_none, errW_some] <;> rfl), by (with_reducible repeat (first | apply Kd.R_alloc | apply Kd.R_drewN | apply Kd.R_drew)); exact Kd.R_mono (Kd.R_far (p := ⟨gb393, 1, none⟩) (Kd.R_far (p := ⟨gb393, 0, none⟩) (Kd.R_types HO399.out BK393.out (by decide)) (fun _ hk => hk.2) (.slice Ao59 t397.length co59)) (fun _ hk => hk.2) (.slice Ao58 t400.length co58)) (fun _ hk => hk.1.2), by (with_reducible repeat (first | apply Kd.R_alloc | apply Kd.R_drewN | apply Kd.R_drew)); exact Kd.R_mono (Kd.R_far (p := ⟨gb393, 1, none⟩) (Kd.R_far (p := ⟨gb393, 0, none⟩) (Kd.R_types HO402.out BK393.out (by decide)) (fun _ hk => hk.2) (.slice Ao59 t397.length co59)) (fun _ hk => hk.2) (.slice Ao58 t400.length co58)) (fun _ hk => hk.1.2), mbs_ HB.out⟩
 rw [if_neg c5] at H
 have c5b0 : (t394 == 0) = false := beq_eq_false_iff_ne.mpr c5
 have c5b1 : (t394 != 0) = true := bne_iff_ne.mpr c5
 simp only [Option.some.injEq, Prod.mk.injEq] at H
 obtain ⟨rfl, rfl, rfl⟩ := H
 go_enter Try.func35, Try.ntmps35
 go_wp2_with (first | ((with_reducible refine gate_dst (N := 3) rfl ?_); refine box_event ?hg (N := 3) ?hd (cs := #[.slice A0_0 l0_0.length c0_0, .slice A0_1 l0_1.length c0_1]) (t := 25) ?hr ?_; (case hd => rfl); (case hg => rfl); (case hr => first | (go_simp; done) | (go_simp; rfl)); intro gb390 hg w62 hbox hb; have BK390 := Aside0.mk (hbox); have GW390 := Aside0.mk (gw_ hg (mb_ HB.out)); have GE390 := Aside0.mk (gw_ hg (mb_ HB.out)); replace HB := Aside0.mk (below_step (mb_ HB.out) hb); clear hb hbox hg) | ((with_reducible refine gate_dst (N := 4) rfl ?_); refine box_event ?hg (N := 4) ?hd (cs := #[.slice A1_0 l1_0.length c1_0, .slice A1_1 l1_1.length c1_1]) (t := 25) ?hr ?_; (case hd => rfl); (case hg => rfl); (case hr => first | (go_simp; done) | (go_simp; rfl)); intro gb391 hg w63 hbox hb; have BK391 := Aside0.mk (hbox); have GW391 := Aside0.mk (gw_ hg (mbs_ HB.out)); have GE391 := Aside0.mk (gw_ hg (mbs_ HB.out)); replace HB := Aside0.mk (below_step (mbs_ HB.out) hb); have NB390_391 := Aside0.mk (nb_ hg (bk_ BK390.out)); have NB391_390 := Aside0.mk (nc_ hg (bk_ BK390.out)); replace BK390 := kb_ (bk_ BK390.out) hb; clear hb hbox hg) | ((with_reducible refine gate_dst (N := 5) rfl ?_); refine box_event ?hg (N := 5) ?hd (cs := #[.slice A2_0 l2_0.length c2_0, .slice A2_1 l2_1.length c2_1]) (t := 27) ?hr ?_; (case hd => rfl); (case hg => rfl); (case hr => first | (go_simp; done) | (go_simp; rfl)); intro gb392 hg w64 hbox hb; have BK392 := Aside0.mk (hbox); have GW392 := Aside0.mk (gw_ hg (mbs_ HB.out)); have GE392 := Aside0.mk (gw_ hg (mbs_ HB.out)); replace HB := Aside0.mk (below_step (mbs_ HB.out) hb); have NB390_392 := Aside0.mk (nb_ hg (bk_ BK390.out)); have NB392_390 := Aside0.mk (nc_ hg (bk_ BK390.out)); replace BK390 := kb_ (bk_ BK390.out) hb; have NB391_392 := Aside0.mk (nb_ hg (bk_ BK391.out)); have NB392_391 := Aside0.mk (nc_ hg (bk_ BK391.out)); replace BK391 := kb_ (bk_ BK391.out) hb; clear hb hbox hg) | ((with_reducible refine gate_dst (N := 6) rfl ?_); refine box_event ?hg (N := 6) ?hd (cs := #[.slice none 0 0, .slice none 0 0]) (t := 27) ?hr ?_; (case hd => rfl); (case hg => rfl); (case hr => first | (go_simp; done) | (go_simp; rfl)); intro gb393 hg w65 hbox hb; have BK393 := Aside0.mk (hbox); have GW393 := Aside0.mk (gw_ hg (mbs_ HB.out)); have GE393 := Aside0.mk (gw_ hg (mbs_ HB.out)); replace HB := Aside0.mk (below_step (mbs_ HB.out) hb); have NB390_393 := Aside0.mk (nb_ hg (bk_ BK390.out)); have NB393_390 := Aside0.mk (nc_ hg (bk_ BK390.out)); replace BK390 := kb_ (bk_ BK390.out) hb; have NB391_393 := Aside0.mk (nb_ hg (bk_ BK391.out)); have NB393_391 := Aside0.mk (nc_ hg (bk_ BK391.out)); replace BK391 := kb_ (bk_ BK391.out) hb; have NB392_393 := Aside0.mk (nb_ hg (bk_ BK392.out)); have NB393_392 := Aside0.mk (nc_ hg (bk_ BK392.out)); replace BK392 := kb_ (bk_ BK392.out) hb; clear hb hbox hg; have hnb66 := NB390_391.out; have hnc66 := NB391_390.out; have hnb67 := NB390_392.out; have hnc67 := NB392_390.out; have hnb68 := NB390_393.out; have hnc68 := NB393_390.out; have hcz69_0 := bc0_ BK390.out; have hcz69_1 := bc1_ BK390.out; have hfz69_0 := blk_frozen BK390.out 0; have hfz69_1 := blk_frozen BK390.out 1; have hnb70 := NB391_392.out; have hnc70 := NB392_391.out; have hnb71 := NB391_393.out; have hnc71 := NB393_391.out; have hcz72_0 := bc0_ BK391.out; have hcz72_1 := bc1_ BK391.out; have hfz72_0 := blk_frozen BK391.out 0; have hfz72_1 := blk_frozen BK391.out 1; have hnb73 := NB392_393.out; have hnc73 := NB393_392.out; have hcz74_0 := bc0_ BK392.out; have hcz74_1 := bc1_ BK392.out; have hfz74_0 := blk_frozen BK392.out 0; have hfz74_1 := blk_frozen BK392.out 1) | ((with_reducible refine gate_callee (f := 12) rfl ?_); refine goesL_ (some 12) rfl rfl Try.func12 (by kernel_rfl) rfl #[.agg #[.slice A0_0 l0_0.length c0_0, .slice A0_1 l0_1.length c0_1], .agg #[.slice A1_0 l1_0.length c1_0, .slice A1_1 l1_1.length c1_1], .agg #[.slice A2_0 l2_0.length c2_0, .slice A2_1 l2_1.length c2_1]] rfl (by (try simp only [List.map_toArray, List.map_cons, List.map_nil]); first | done | rfl | (simp only [List.length_drop, List.length_take]; rfl)) ?_; (with_reducible refine (morphism_Valid.calls k _ _ l0_0 _ _ l0_1 _ _ l1_0 _ _ l1_1 _ _ l2_0 _ _ l2_1 t394 _ ?side1 ?side2 ?side3 ?side4 ?side5 ?side6 ?side7 ?side8 ?side9 ?side10 ?side11 ?side12 A4.out).mono ?_); (case side1 => exact mc_ (Kd.C_below HR0_0.out HB.out)); (case side2 => exact HC0_0.out); (case side3 => exact mc_ (Kd.C_below HR0_1.out HB.out)); (case side4 => exact HC0_1.out); (case side5 => exact mc_ (Kd.C_below HR1_0.out HB.out)); (case side6 => exact HC1_0.out); (case side7 => exact mc_ (Kd.C_below HR1_1.out HB.out)); (case side8 => exact HC1_1.out); (case side9 => exact mc_ (Kd.C_below HR2_0.out HB.out)); (case side10 => exact HC2_0.out); (case side11 => exact mc_ (Kd.C_below HR2_1.out HB.out)); (case side12 => exact HC2_1.out); rintro e w75 ⟨rfl, hb⟩; refine ⟨_, rfl, ?_⟩; replace BK390 := kb_ (bk_ BK390.out) hb; replace BK391 := kb_ (bk_ BK391.out) hb; replace BK392 := kb_ (bk_ BK392.out) hb; replace BK393 := kb_ (bk_ BK393.out) hb; replace HB := Aside0.mk (below_step (mbs_ HB.out) hb); (try clear hb); (try clear hb2); (try clear hk); (try clear hi); have hcz76_0 := bc0_ BK393.out; have hcz76_1 := bc1_ BK393.out; have hfz76_0 := blk_frozen BK393.out 0; have hfz76_1 := blk_frozen BK393.out 1))
 refine bodyPost_ret (results_ct rfl _ _ gb393 27 #[.slice none 0 0, .slice none 0 0] (0, 0) _ rfl (by (with_reducible repeat (first | refine blk_drewN ?_ _ | refine blk_drew ?_ | refine blk_alloc ?_ _)); refine blk_put (cs := #[.slice none 0 0, .slice none 0 0]) ?_ 1 _ rfl; (with_reducible repeat (first | refine blk_drewN ?_ _ | refine blk_drew ?_ | refine blk_alloc ?_ _)); refine blk_put (cs := #[.slice none 0 0, .slice none 0 0]) ?_ 0 _ rfl; (with_reducible repeat (first | refine blk_drewN ?_ _ | refine blk_drew ?_ | refine blk_alloc ?_ _)); exact BK393.out) Try.underlying27 rfl (by kernel_rfl)) rfl ?_
 exact ⟨_, _, by first | rfl | (simp [errW_none, errW_some] <;> rfl) | (simp [*, errW_none, errW_some] <;> rfl), by first | exact Kd.R_nil _ _ _ _ _ | exact Kd.N_nil _ _ _ _ _ | exact Kd.V_nil _ _ _ _ _ | exact Kd.Q_nil _ _ _ _ _ | exact Kd.S_nil _ _ _ _ _, by first | exact Kd.R_nil _ _ _ _ _ | exact Kd.N_nil _ _ _ _ _ | exact Kd.V_nil _ _ _ _ _ | exact Kd.Q_nil _ _ _ _ _ | exact Kd.S_nil _ _ _ _ _, mbs_ HB.out⟩

/-! ### scarfjointref06_Back: function 58 -/
mutual
def scarfjointref06_Back.l0 : Nat → List Int → Int → List Int → Int → Option (List Int)
 | 0, _, _, _, _ => none
 | k + 1, x0, x1, x5, x6 => if x6 < x1 then (if x5.length < 17592186044416 then (scarfjointref06_Back.l1 k x0 x1 (x5 ++ [(-1)]) x6 0) else (none)) else (some x5)
def scarfjointref06_Back.l1 : Nat → List Int → Int → List Int → Int → Int → Option (List Int)
 | 0, _, _, _, _, _ => none
 | k + 1, x0, x1, x5, x6, x7 => if x7 < (x0.length : Int) then (if 0 ≤ x7 then (if (rd x0 x7) = x6 then (if 0 ≤ x6 then (if x6 < (x5.length : Int) then (scarfjointref06_Back.l1 k x0 x1 (x5.set (x6 : Int).toNat x7) x6 (wrap64 (x7 + 1))) else (none)) else (none)) else (scarfjointref06_Back.l1 k x0 x1 x5 x6 (wrap64 (x7 + 1)))) else (none)) else (scarfjointref06_Back.l0 k x0 x1 x5 (wrap64 (x6 + 1)))
end
def scarfjointref06_Back.f (k : Nat) (l0 : List Int) (a1 : Int) : Option (List Int) := scarfjointref06_Back.l0 k l0 a1 ([] : List Int) 0
theorem scarfjointref06_Back.mono_l : ∀ k, (∀ y0 y1 y2 y3, LeO (scarfjointref06_Back.l0 k y0 y1 y2 y3) (scarfjointref06_Back.l0 (k + 1) y0 y1 y2 y3)) ∧ (∀ y0 y1 y2 y3 y4, LeO (scarfjointref06_Back.l1 k y0 y1 y2 y3 y4) (scarfjointref06_Back.l1 (k + 1) y0 y1 y2 y3 y4))
 | 0 => ⟨fun _ _ _ _ r h => by simp [scarfjointref06_Back.l0] at h, fun _ _ _ _ _ r h => by simp [scarfjointref06_Back.l1] at h⟩
 | k + 1 => by
  obtain ⟨ih0, ih1⟩ := scarfjointref06_Back.mono_l k
  refine ⟨?_, ?_⟩
  ·intro y0 y1 y2 y3
   unfold scarfjointref06_Back.l0
   repeat' first
   | (with_reducible exact ih0 _ _ _ _)
   | (with_reducible exact ih1 _ _ _ _ _)
   | (with_reducible exact LeO.refl _)
   | (with_reducible exact LeO.none _)
   | (with_reducible refine LeO.ite ?_ ?_)
   | (with_reducible refine LeO.bind ?_ (fun _ => ?_))
   | exact ih0 _ _ _ _
   | exact ih1 _ _ _ _ _
   | exact LeO.none _
   | refine LeO.ite ?_ ?_
   | refine LeO.bind ?_ (fun _ => ?_)
  ·intro y0 y1 y2 y3 y4
   unfold scarfjointref06_Back.l1
   repeat' first
   | (with_reducible exact ih0 _ _ _ _)
   | (with_reducible exact ih1 _ _ _ _ _)
   | (with_reducible exact LeO.refl _)
   | (with_reducible exact LeO.none _)
   | (with_reducible refine LeO.ite ?_ ?_)
   | (with_reducible refine LeO.bind ?_ (fun _ => ?_))
   | exact ih0 _ _ _ _
   | exact ih1 _ _ _ _ _
   | exact LeO.none _
   | refine LeO.ite ?_ ?_
   | refine LeO.bind ?_ (fun _ => ?_)
theorem scarfjointref06_Back.mono : ∀ a0 a1 k, LeO (scarfjointref06_Back.f k a0 a1) (scarfjointref06_Back.f (k + 1) a0 a1) := by
 intro a0 a1 k
 obtain ⟨ih0, ih1⟩ := scarfjointref06_Back.mono_l k
 unfold scarfjointref06_Back.f
 repeat' first
   | (with_reducible exact ih0 _ _ _ _)
   | (with_reducible exact ih1 _ _ _ _ _)
   | (with_reducible exact LeO.refl _)
   | (with_reducible exact LeO.none _)
   | (with_reducible refine LeO.ite ?_ ?_)
   | (with_reducible refine LeO.bind ?_ (fun _ => ?_))
   | exact ih0 _ _ _ _
   | exact ih1 _ _ _ _ _
   | exact LeO.none _
   | refine LeO.ite ?_ ?_
   | refine LeO.bind ?_ (fun _ => ?_)
set_option maxHeartbeats 8000000 in
set_option maxRecDepth 100000 in
theorem scarfjointref06_Back.calls (k : Nat) (A0 : Option Addr) (c0 : Nat) (l0 : List Int) (a1 : Int) (r : List Int) (w : World) (hr0 : Kd.C (Kd.int .i64) w A0 l0.length l0) (hc0 : l0.length ≤ c0) (h : scarfjointref06_Back.f k l0 a1 = some r) :
  Calls Try.prog 58 #[.slice A0 l0.length c0, .int .i64 a1] w fun e w' => ∃ v0_ : Value, e = .returned (v0_) ∧ Kd.R (Kd.int .i64) 3 w' w.heap.size (fun _ => True) v0_ r ∧ Below w.heap.size w w' := by
 have HR0 := Aside0.mk hr0
 have HC0 := Aside0.mk hc0
 clear hr0 hc0
 have HB := Aside0.mk (Below.refl w.heap.size w)
 have H : (scarfjointref06_Back.l0 k l0 a1 ([] : List Int) 0) = some r := h
 clear h
 have H' := Aside0.mk H
 clear H
 go_enter Try.func58, Try.ntmps58
 go_wp2
 go_loopg [5, 6] k (fun kq v5 v6 w' => ∃ (x5_1 : List Int) (x6_1 : Int), v6 = .int .i64 x6_1 ∧ Aside0 (scarfjointref06_Back.l0 kq l0 a1 x5_1 x6_1 = some r) ∧ Aside0 (kq ≤ k) ∧ Aside0 (Kd.R (Kd.int .i64) 3 w' w.heap.size (fun _ => True) v5 x5_1) ∧ Aside0 (Below w.heap.size w w'))
 case atStart => exact ⟨(([] : List Int)), (0), (by first | rfl | (simp; done) | (simp [*]; done)), H', ⟨Nat.le_refl _⟩, ⟨by first | exact Kd.R_nil _ _ _ _ _ | exact Kd.N_nil _ _ _ _ _ | exact Kd.V_nil _ _ _ _ _ | exact Kd.Q_nil _ _ _ _ _ | exact Kd.S_nil _ _ _ _ _⟩, ⟨mb_ HB.out⟩⟩
 case round =>
  clear H'
  try clear p2
  obtain ⟨x5_1, x6_1, rfl, HA, HK1, HO_5, HB⟩ := hrel
  cases gk with
  | zero => exact absurd HA.out (by simp [scarfjointref06_Back.l0])
  | succ k1 =>
   have H := HA.out
   clear HA
   simp only [scarfjointref06_Back.l0] at H
   by_cases c3 : x6_1 < a1
   ·rw [if_pos c3] at H
    have c3b0 : decide (x6_1 < a1) = true := decide_eq_true c3
    clear c3
    by_cases c4 : x5_1.length < 17592186044416
    ·rw [if_pos c4] at H
     have LMc4 := Aside0.mk c4
     clear c4
     obtain ⟨y403, hy403⟩ : ∃ y_ : List Int, y_ = (x5_1 ++ [(-1)]) := ⟨_, rfl⟩
     replace H : (scarfjointref06_Back.l1 k1 l0 a1 y403 x6_1 0) = some r := by first | (rw [hy403]; with_reducible exact H) | (have H2_ := (Option.bind_some _ _).symm.trans H; rw [hy403]; with_reducible exact H2_) | (have H2_ := (Option.bind_some _ _).symm.trans H; with_reducible exact H2_) | with_reducible exact H | (rw [hy403]; exact H) | exact H
     have Ny403 := Aside0.mk hy403
     clear hy403
     have H' := Aside0.mk H
     clear H
     go_wp2_with (first | ((with_reducible refine gate_builtin (b := .append) (xs := #[.tmp 13, .tmp 14]) rfl ?_); at_builtin; refine Kd.R_append (Kd.int .i64) (w0 := w) w.heap.size rfl (.tmp 13) (.tmp 14) 22 3 (.int .i64 0) 8 rfl Try.underlying22 info3 rfl (by decide) (by omega) u5 x5_1 (-1) [.int .i64 (-1)] (fun _ => True) (fun _ => False) rfl rfl ?aP (fun _ hk => hk.elim) ?aF ?aO ?aB ?aS ?aL ?_; (case aP => exact rfl); (case aB => exact (mb_ HB.out)); (case aF => exact (fun _ _ => trivial)); (case aO => exact (mr_ HO_5.out)); (case aS => exact (below_size (mb_ HB.out))); (case aL => have := LMc4.out; omega); intro v404 w5 ho hb hg hat; rw [← Ny403.out] at ho; replace HB := Aside0.mk (hb); have HO405 := Aside0.mk (ho); clear HO_5; clear ho hb hg hat))
     go_loopg [7] k1 (fun kq v7 w' => ∃ (x5_2 : List Int) (x7_2 : Int), v7 = .int .i64 x7_2 ∧ Aside0 (scarfjointref06_Back.l1 kq l0 a1 x5_2 x6_1 x7_2 = some r) ∧ Aside0 (kq ≤ k1) ∧ Aside0 (Kd.R (Kd.int .i64) 3 w' w.heap.size (fun _ => True) v404 x5_2) ∧ Aside0 (Below w.heap.size w w'))
     case atStart => exact ⟨(y403), (0), (by first | rfl | (simp; done) | (simp [*]; done)), H', ⟨Nat.le_refl _⟩, ⟨mr_ HO405.out⟩, ⟨mb_ HB.out⟩⟩
     case round =>
      clear H'
      try clear p2
      try clear c3
      try clear c3b0
      try clear c4
      try clear c5
      try clear p2
      obtain ⟨x5_2, x7_2, rfl, HA, HK2, HO_5, HB⟩ := hrel
      cases gk with
      | zero => exact absurd HA.out (by simp [scarfjointref06_Back.l1])
      | succ k2 =>
       have H := HA.out
       clear HA
       simp only [scarfjointref06_Back.l1] at H
       by_cases c6 : x7_2 < (l0.length : Int)
       ·rw [if_pos c6] at H
        have c6b0 : decide (x7_2 < (l0.length : Int)) = true := decide_eq_true c6
        clear c6
        by_cases c7 : 0 ≤ x7_2
        ·rw [if_pos c7] at H
         have c7b0 : decide (0 ≤ x7_2) = true := decide_eq_true c7
         clear c7
         by_cases c8 : (rd l0 x7_2) = x6_1
         ·rw [if_pos c8] at H
          have c8b0 : ((rd l0 x7_2) == x6_1) = true := beq_iff_eq.mpr c8
          have c8b1 : ((rd l0 x7_2) != x6_1) = false := bne_eq_false_iff_eq.mpr c8
          clear c8
          by_cases c9 : 0 ≤ x6_1
          ·rw [if_pos c9] at H
           have c9b0 : decide (0 ≤ x6_1) = true := decide_eq_true c9
           clear c9
           by_cases c10 : x6_1 < (x5_2.length : Int)
           ·rw [if_pos c10] at H
            have c10b0 : decide (x6_1 < (x5_2.length : Int)) = true := decide_eq_true c10
            clear c10
            obtain ⟨y407, hy407⟩ : ∃ y_ : List Int, y_ = (x5_2.set (x6_1 : Int).toNat x7_2) := ⟨_, rfl⟩
            replace H : (scarfjointref06_Back.l1 k2 l0 a1 y407 x6_1 (wrap64 (x7_2 + 1))) = some r := by first | (rw [hy407]; with_reducible exact H) | (have H2_ := (Option.bind_some _ _).symm.trans H; rw [hy407]; with_reducible exact H2_) | (have H2_ := (Option.bind_some _ _).symm.trans H; with_reducible exact H2_) | with_reducible exact H | (rw [hy407]; exact H) | exact H
            have Ny407 := Aside0.mk hy407
            clear hy407
            have H' := Aside0.mk H
            clear H
            have p406 : 0 ≤ (x7_2 : Int) := of_decide_eq_true (by first | (with_reducible assumption) | assumption)
            have q406 : x7_2 < (l0.length : Int) := of_decide_eq_true (by first | (with_reducible assumption) | assumption)
            obtain ⟨ad406, e406, hx406_0⟩ := Kd.at_int HR0.out x7_2 p406 q406
            cases e406
            (try replace hx406_0 := (HB.out.cell (World.block_lt_of_cell? w _ hx406_0)).trans hx406_0)
            replace p406 := eq_true p406
            replace q406 := eq_true q406
            have p11 : 0 ≤ (x6_1 : Int) := of_decide_eq_true (by first | (with_reducible assumption) | assumption)
            have q11 : (x6_1 : Int) < ((x5_2.length : Int) : Int) := of_decide_eq_true (by first | (with_reducible assumption) | assumption)
            obtain ⟨go11, co11, eo11, gb11, gl11, cl11, HG11⟩ := Kd.R_form HO_5.out (by omega)
            (first | cases eo11 | (injection eo11 with ea_ en_ ec_; (first | subst ea_ | (injection ea_ with ea_; subst ea_)); subst ec_; clear en_))
            have GB11 := Aside0.mk gb11
            have GG11 := Aside0.mk HG11
            clear gb11 gl11 HG11
            obtain ⟨hx11_0, hf11_0⟩ := Kd.R_celln 0 HO_5.out (x6_1 : Int) p11 q11
            replace p11 := eq_true p11
            replace q11 := eq_true q11
            have HP12 := Kd.R_putg HO_5.out (x6_1 : Int) x7_2
            go_wp2_with (first | ((with_reducible refine gate_store (t := 3) (p := 31) rfl ?_); refine store_event (t := 3) (p := 31) (v := ?vo_w13) (w1 := (wr.setCell ⟨go11, (x6_1 : Int).toNat, none⟩ (.int .i64 x7_2))) ?hg ?ho ?hn ?hr ?_; (case ho => rfl); (case hg => rfl); (case hn => rfl); (case hr => first | (go_simp; done) | (go_simp; rfl)); intro w13 hw; have hg : wr.grownBy w13 (some go11) := (by rw [hw]; exact HP12.2); have hp_ : Kd.R (Kd.int .i64) 3 w13 w.heap.size (fun _ => True) (.slice (some ⟨go11, 0, none⟩) x5_2.length co11) y407 := (by rw [hw, Ny407.out]; exact HP12.1); clear HP12; replace HO_5 := Aside0.mk (hp_); replace HB := Aside0.mk ((by rw [hw]; exact below_set (HB.out) GB11.out : Below w.heap.size w w13)); clear hg hw hp_))
            go_roundg k2
            case measure => have := HK1.out; have := HK2.out; omega
            case rel => exact ⟨(y407), (wrap64 (x7_2 + 1)), (by first | rfl | (simp; done) | (simp [*]; done)), H', ⟨by have := HK1.out; have := HK2.out; omega⟩, ⟨mr_ HO_5.out⟩, ⟨mb_ HB.out⟩⟩
           rw [if_neg c10] at H
           exact absurd H (by simp)
          rw [if_neg c9] at H
          exact absurd H (by simp)
         rw [if_neg c8] at H
         have c8b0 : ((rd l0 x7_2) == x6_1) = false := beq_eq_false_iff_ne.mpr c8
         have c8b1 : ((rd l0 x7_2) != x6_1) = true := bne_iff_ne.mpr c8
         have H' := Aside0.mk H
         clear H
         have p406 : 0 ≤ (x7_2 : Int) := of_decide_eq_true (by first | (with_reducible assumption) | assumption)
         have q406 : x7_2 < (l0.length : Int) := of_decide_eq_true (by first | (with_reducible assumption) | assumption)
         obtain ⟨ad406, e406, hx406_0⟩ := Kd.at_int HR0.out x7_2 p406 q406
         cases e406
         (try replace hx406_0 := (HB.out.cell (World.block_lt_of_cell? w _ hx406_0)).trans hx406_0)
         replace p406 := eq_true p406
         replace q406 := eq_true q406
         go_wp2
         go_roundg k2
         case measure => have := HK1.out; have := HK2.out; omega
         case rel => exact ⟨(x5_2), (wrap64 (x7_2 + 1)), (by first | rfl | (simp; done) | (simp [*]; done)), H', ⟨by have := HK1.out; have := HK2.out; omega⟩, ⟨mr_ HO_5.out⟩, ⟨mb_ HB.out⟩⟩
        rw [if_neg c7] at H
        exact absurd H (by simp)
       rw [if_neg c6] at H
       have c6b0 : decide (x7_2 < (l0.length : Int)) = false := decide_eq_false c6
       clear c6
       have H' := Aside0.mk H
       clear H
       go_wp2
       go_roundg k2
       case measure => have := HK1.out; have := HK2.out; omega
       case rel => exact ⟨(x5_2), (wrap64 (x6_1 + 1)), (by first | rfl | (simp; done) | (simp [*]; done)), H', ⟨by have := HK1.out; have := HK2.out; omega⟩, ⟨mr_ HO_5.out⟩, ⟨mb_ HB.out⟩⟩
    rw [if_neg c4] at H
    exact absurd H (by simp)
   rw [if_neg c3] at H
   have c3b0 : decide (x6_1 < a1) = false := decide_eq_false c3
   clear c3
   obtain rfl := Option.some.inj H
   go_wp2
   go_ret
   exact ⟨_, by first | rfl | (simp [errW_none, errW_some] <;> rfl) | (simp [*, errW_none, errW_some] <;> rfl), mr_ HO_5.out, mb_ HB.out⟩

end Go.Proofs.Ytklacpdobpkbbaa.P
