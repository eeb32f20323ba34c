-- Written by wip/drive.py of this session's repo over the kit's print.py (with contracts of the session's own): not the print's own text
import Derived.Test.YtjkgjlaockihaaaPx0
import Derived.Test.YtjkgjlaockihaaaPx3
import Derived.Test.YtjkgjlaockihaaaPx13
import Derived.Test.YtjkgjlaockihaaaPx15
namespace Go.Proofs.Ytjkgjlaockihaaa.P
open Go.RowKit Go.Proofs.YtjkgjlaockihaaaW.PrintWords Go.Proofs.YtjkgjlaockihaaaW.PrintLast Go.Proofs.YtjkgjlaockihaaaW.PrintMore
attribute [local go_sem] max2_int min2_int max_two min_two max_three min_three max_four min_four   -- for this text's walks alone
set_option linter.unusedVariables false
set_option linter.unusedSimpArgs false

/-! ### scarfjointlaw02_PartitionAll: function 9 -/
mutual
def scarfjointlaw02_PartitionAll.j0 : Nat → Int → List (List Int) → Int → List (List Int) → Int → Bool → Option (Bool)
  | 0, _, _, _, _, _, _ => none
  | k + 1, x0, x3, x4, x5, x6, x33 => if x33 = true then (if x4 = x6 then ((scarfjointref02_SameLists.f k x3 x5).bind fun t555 => (some t555)) else (some false)) else (scarfjointlaw02_PartitionAll.l0 k x0 x3 x3 (x3.length : Int) 0)
def scarfjointlaw02_PartitionAll.l0 : Nat → Int → List (List Int) → List (List Int) → Int → Int → Option (Bool)
  | 0, _, _, _, _, _ => none
  | k + 1, x0, x3, x42, x43, x44 => if x44 < x43 then (if 0 ≤ x44 then (if x44 < (x42.length : Int) then ((partition_Valid.f k (rd_L2 x42 x44)).bind fun t561 => (if t561 = true then (if ((rd_L2 x42 x44).length : Int) = x0 then (if x44 > 0 then (if 0 ≤ (wrap64 (x44 - 1)) then (if (wrap64 (x44 - 1)) < (x3.length : Int) then ((slices_Compare_int_int.f k (rd_L2 x3 (wrap64 (x44 - 1))) (rd_L2 x42 x44)).bind fun t563 => (if t563 ≥ 0 then (some false) else (scarfjointlaw02_PartitionAll.l0 k x0 x3 x42 x43 (wrap64 (x44 + 1))))) else (none)) else (none)) else (scarfjointlaw02_PartitionAll.l0 k x0 x3 x42 x43 (wrap64 (x44 + 1)))) else (some false)) else (some false))) else (none)) else (none)) else (if x0 < 0 then (some true) else (if x0 > 7 then (some true) else ((some (([1, 1, 2, 5, 15, 52, 203, 877] : List Int) : List Int)).bind fun y556 => (if 0 ≤ x0 then (if x0 < (y556.length : Int) then (some ((x3.length : Int) == (rd y556 x0))) else (none)) else (none)))))
end
def scarfjointlaw02_PartitionAll.f (k : Nat) (a0 : Int) : Option (Bool) := (scarfjointlaw02_awake.f k).bind fun t545 => (if t545 = true then ((partition_All.f k a0).bind fun bt546 => ((scarfjointref02_All.f k a0).bind fun bt550 => (if bt546.2 = bt550.2 then ((scarfjointref02_SameLists.f k bt546.1 bt550.1).bind fun t554 => (if t554 = true then (scarfjointlaw02_PartitionAll.j0 k a0 bt546.1 bt546.2 bt550.1 bt550.2 (bt546.2 != 0)) else (scarfjointlaw02_PartitionAll.j0 k a0 bt546.1 bt546.2 bt550.1 bt550.2 true))) else (scarfjointlaw02_PartitionAll.j0 k a0 bt546.1 bt546.2 bt550.1 bt550.2 true)))) else (some false))
theorem scarfjointlaw02_PartitionAll.mono_l : ∀ k, (∀ y0 y1 y2 y3 y4 y5, LeO (scarfjointlaw02_PartitionAll.j0 k y0 y1 y2 y3 y4 y5) (scarfjointlaw02_PartitionAll.j0 (k + 1) y0 y1 y2 y3 y4 y5)) ∧ (∀ y0 y1 y2 y3 y4, LeO (scarfjointlaw02_PartitionAll.l0 k y0 y1 y2 y3 y4) (scarfjointlaw02_PartitionAll.l0 (k + 1) y0 y1 y2 y3 y4))
  | 0 => ⟨fun _ _ _ _ _ _ r h => by simp [scarfjointlaw02_PartitionAll.j0] at h, fun _ _ _ _ _ r h => by simp [scarfjointlaw02_PartitionAll.l0] at h⟩
  | k + 1 => by
    obtain ⟨ih0, ih1⟩ := scarfjointlaw02_PartitionAll.mono_l k
    refine ⟨?_, ?_⟩
    · intro y0 y1 y2 y3 y4 y5
      unfold scarfjointlaw02_PartitionAll.j0
      repeat' first
      | (with_reducible exact ih0 _ _ _ _ _ _)
      | (with_reducible exact ih1 _ _ _ _ _)
      | (with_reducible exact partition_All.mono _ _)
      | (with_reducible exact partition_Valid.mono _ _)
      | (with_reducible exact scarfjointlaw02_awake.mono _)
      | (with_reducible exact scarfjointref02_All.mono _ _)
      | (with_reducible exact scarfjointref02_SameLists.mono _ _ _)
      | (with_reducible exact slices_Compare_int_int.mono _ _ _)
      | (with_reducible exact LeO.refl _)
      | (with_reducible exact LeO.none _)
      | (with_reducible refine LeO.ite ?_ ?_)
      | (with_reducible refine LeO.bind ?_ (fun _ => ?_))
      | exact ih0 _ _ _ _ _ _
      | exact ih1 _ _ _ _ _
      | exact partition_All.mono _ _
      | exact partition_Valid.mono _ _
      | exact scarfjointlaw02_awake.mono _
      | exact scarfjointref02_All.mono _ _
      | exact scarfjointref02_SameLists.mono _ _ _
      | exact slices_Compare_int_int.mono _ _ _
      | exact LeO.none _
      | refine LeO.ite ?_ ?_
      | refine LeO.bind ?_ (fun _ => ?_)
    · intro y0 y1 y2 y3 y4
      unfold scarfjointlaw02_PartitionAll.l0
      repeat' first
      | (with_reducible exact ih0 _ _ _ _ _ _)
      | (with_reducible exact ih1 _ _ _ _ _)
      | (with_reducible exact partition_All.mono _ _)
      | (with_reducible exact partition_Valid.mono _ _)
      | (with_reducible exact scarfjointlaw02_awake.mono _)
      | (with_reducible exact scarfjointref02_All.mono _ _)
      | (with_reducible exact scarfjointref02_SameLists.mono _ _ _)
      | (with_reducible exact slices_Compare_int_int.mono _ _ _)
      | (with_reducible exact LeO.refl _)
      | (with_reducible exact LeO.none _)
      | (with_reducible refine LeO.ite ?_ ?_)
      | (with_reducible refine LeO.bind ?_ (fun _ => ?_))
      | exact ih0 _ _ _ _ _ _
      | exact ih1 _ _ _ _ _
      | exact partition_All.mono _ _
      | exact partition_Valid.mono _ _
      | exact scarfjointlaw02_awake.mono _
      | exact scarfjointref02_All.mono _ _
      | exact scarfjointref02_SameLists.mono _ _ _
      | exact slices_Compare_int_int.mono _ _ _
      | exact LeO.none _
      | refine LeO.ite ?_ ?_
      | refine LeO.bind ?_ (fun _ => ?_)
theorem scarfjointlaw02_PartitionAll.mono : ∀ a0 k, LeO (scarfjointlaw02_PartitionAll.f k a0) (scarfjointlaw02_PartitionAll.f (k + 1) a0) := by
  intro a0 k
  obtain ⟨ih0, ih1⟩ := scarfjointlaw02_PartitionAll.mono_l k
  unfold scarfjointlaw02_PartitionAll.f
  repeat' first
      | (with_reducible exact ih0 _ _ _ _ _ _)
      | (with_reducible exact ih1 _ _ _ _ _)
      | (with_reducible exact partition_All.mono _ _)
      | (with_reducible exact partition_Valid.mono _ _)
      | (with_reducible exact scarfjointlaw02_awake.mono _)
      | (with_reducible exact scarfjointref02_All.mono _ _)
      | (with_reducible exact scarfjointref02_SameLists.mono _ _ _)
      | (with_reducible exact slices_Compare_int_int.mono _ _ _)
      | (with_reducible exact LeO.refl _)
      | (with_reducible exact LeO.none _)
      | (with_reducible refine LeO.ite ?_ ?_)
      | (with_reducible refine LeO.bind ?_ (fun _ => ?_))
      | exact ih0 _ _ _ _ _ _
      | exact ih1 _ _ _ _ _
      | exact partition_All.mono _ _
      | exact partition_Valid.mono _ _
      | exact scarfjointlaw02_awake.mono _
      | exact scarfjointref02_All.mono _ _
      | exact scarfjointref02_SameLists.mono _ _ _
      | exact slices_Compare_int_int.mono _ _ _
      | exact LeO.none _
      | refine LeO.ite ?_ ?_
      | refine LeO.bind ?_ (fun _ => ?_)
set_option maxHeartbeats 8000000 in
set_option maxRecDepth 100000 in
theorem scarfjointlaw02_PartitionAll.calls (k : Nat) (a0 : Int) (r : Bool) (w : World) (h : scarfjointlaw02_PartitionAll.f k a0 = some r) :
    Calls Try.prog 9 #[.int .i64 a0] w fun e w' => e = .returned (.bool r) ∧ Below w.heap.size w w' := by
  have HB := Aside0.mk (Below.refl w.heap.size w)
  have H : ((scarfjointlaw02_awake.f k).bind fun t545 => (if t545 = true then ((partition_All.f k a0).bind fun bt546 => ((scarfjointref02_All.f k a0).bind fun bt550 => (if bt546.2 = bt550.2 then ((scarfjointref02_SameLists.f k bt546.1 bt550.1).bind fun t554 => (if t554 = true then (scarfjointlaw02_PartitionAll.j0 k a0 bt546.1 bt546.2 bt550.1 bt550.2 (bt546.2 != 0)) else (scarfjointlaw02_PartitionAll.j0 k a0 bt546.1 bt546.2 bt550.1 bt550.2 true))) else (scarfjointlaw02_PartitionAll.j0 k a0 bt546.1 bt546.2 bt550.1 bt550.2 true)))) else (some false))) = some r := h
  clear h
  replace H := Option.bind_eq_some_iff.mp H
  obtain ⟨t545, A20, H⟩ := H
  replace H : (if t545 = true then ((partition_All.f k a0).bind fun bt546 => ((scarfjointref02_All.f k a0).bind fun bt550 => (if bt546.2 = bt550.2 then ((scarfjointref02_SameLists.f k bt546.1 bt550.1).bind fun t554 => (if t554 = true then (scarfjointlaw02_PartitionAll.j0 k a0 bt546.1 bt546.2 bt550.1 bt550.2 (bt546.2 != 0)) else (scarfjointlaw02_PartitionAll.j0 k a0 bt546.1 bt546.2 bt550.1 bt550.2 true))) else (scarfjointlaw02_PartitionAll.j0 k a0 bt546.1 bt546.2 bt550.1 bt550.2 true)))) else (some false)) = some r := H
  have A2 := Aside0.mk A20
  clear A20
  by_cases c3 : t545 = true
  · subst c3
    have H1 : ((partition_All.f k a0).bind fun bt546 => ((scarfjointref02_All.f k a0).bind fun bt550 => (if bt546.2 = bt550.2 then ((scarfjointref02_SameLists.f k bt546.1 bt550.1).bind fun t554 => (if t554 = true then (scarfjointlaw02_PartitionAll.j0 k a0 bt546.1 bt546.2 bt550.1 bt550.2 (bt546.2 != 0)) else (scarfjointlaw02_PartitionAll.j0 k a0 bt546.1 bt546.2 bt550.1 bt550.2 true))) else (scarfjointlaw02_PartitionAll.j0 k a0 bt546.1 bt546.2 bt550.1 bt550.2 true)))) = some r := by rw [if_pos rfl] at H; exact H
    clear H
    have H := H1
    clear H1
    replace H := Option.bind_eq_some_iff.mp H
    obtain ⟨⟨t546, t547⟩, A40, H⟩ := H
    replace H : ((scarfjointref02_All.f k a0).bind fun bt550 => (if t547 = bt550.2 then ((scarfjointref02_SameLists.f k t546 bt550.1).bind fun t554 => (if t554 = true then (scarfjointlaw02_PartitionAll.j0 k a0 t546 t547 bt550.1 bt550.2 (t547 != 0)) else (scarfjointlaw02_PartitionAll.j0 k a0 t546 t547 bt550.1 bt550.2 true))) else (scarfjointlaw02_PartitionAll.j0 k a0 t546 t547 bt550.1 bt550.2 true))) = some r := H
    have A4 := Aside0.mk A40
    clear A40
    replace H := Option.bind_eq_some_iff.mp H
    obtain ⟨⟨t550, t551⟩, A50, H⟩ := H
    replace H : (if t547 = t551 then ((scarfjointref02_SameLists.f k t546 t550).bind fun t554 => (if t554 = true then (scarfjointlaw02_PartitionAll.j0 k a0 t546 t547 t550 t551 (t547 != 0)) else (scarfjointlaw02_PartitionAll.j0 k a0 t546 t547 t550 t551 true))) else (scarfjointlaw02_PartitionAll.j0 k a0 t546 t547 t550 t551 true)) = some r := H
    have A5 := Aside0.mk A50
    clear A50
    have HC6 := Aside0.mk H
    clear H
    go_enter Try.func9, Try.ntmps9
    go_upto_region 5 with (first | ((with_reducible refine gate_callee (f := 10) rfl ?_); refine goesL_ (some 9) rfl rfl Try.func10 (by kernel_rfl) rfl #[] rfl (by (try simp only [List.map_toArray, List.map_cons, List.map_nil]); first | done | rfl | (simp only [List.length_drop, List.length_take]; rfl)) ?_; (with_reducible refine (scarfjointlaw02_awake.calls k  true _ A2.out).mono ?_); rintro e w7 ⟨rfl, hb⟩; refine ⟨_, rfl, ?_⟩; have n0_ := Aside0.mk (below_step (by repeat (first | (with_reducible first | exact HB.out | apply below_alloc | apply pw_below_drewN | apply below_drew1) | exact HB.out)) hb); clear HB; have HB := n0_; clear n0_; (try clear hb); (try clear hb2); (try clear hk); (try clear hi)) | ((with_reducible refine gate_callee (f := 29) rfl ?_); refine goesL_ (some 13) rfl rfl Try.func29 (by kernel_rfl) rfl #[.int .i64 a0] rfl (by (try simp only [List.map_toArray, List.map_cons, List.map_nil]); first | done | rfl | (simp only [List.length_drop, List.length_take]; rfl)) ?_; (with_reducible refine (partition_All.calls k a0 t546 t547 _ A4.out).mono ?_); rintro e w8 ⟨v548, rfl, ho0, hb⟩; refine ⟨_, rfl, ?_⟩; have n0_ := Aside0.mk (Kd.S_lower ho0 (below_size (by repeat (first | (with_reducible first | exact HB.out | apply below_alloc | apply pw_below_drewN | apply below_drew1) | exact HB.out)))); have n1_ := Aside0.mk (below_step (by repeat (first | (with_reducible first | exact HB.out | apply below_alloc | apply pw_below_drewN | apply below_drew1) | exact HB.out)) hb); clear HB; have HO549 := n0_; have HB := n1_; clear n0_ n1_; (try clear hb); (try clear hb2); (try clear hk); (try clear hi); (try clear ho0)) | ((with_reducible refine gate_callee (f := 30) rfl ?_); refine goesL_ (some 18) rfl rfl Try.func30 (by kernel_rfl) rfl #[.int .i64 a0] rfl (by (try simp only [List.map_toArray, List.map_cons, List.map_nil]); first | done | rfl | (simp only [List.length_drop, List.length_take]; rfl)) ?_; (with_reducible refine (scarfjointref02_All.calls k a0 t550 t551 _ A5.out).mono ?_); rintro e w9 ⟨v552, rfl, ho0, hb⟩; refine ⟨_, rfl, ?_⟩; have n0_ := Aside0.mk (Kd.S_elder' (by (with_reducible repeat (first | apply Kd.S_alloc | apply Kd.S_drewN | apply Kd.S_drew)); exact HO549.out) (Kd.S_base ho0) hb); have n1_ := Aside0.mk (Kd.S_lower (Kd.S_new' ho0 (Kd.S_lt (by (with_reducible repeat (first | apply Kd.S_alloc | apply Kd.S_drewN | apply Kd.S_drew)); exact HO549.out))) (below_size (by repeat (first | (with_reducible first | exact HB.out | apply below_alloc | apply pw_below_drewN | apply below_drew1) | exact HB.out)))); have n2_ := Aside0.mk (below_step (by repeat (first | (with_reducible first | exact HB.out | apply below_alloc | apply pw_below_drewN | apply below_drew1) | exact HB.out)) hb); clear HO549; clear HB; have HO549 := n0_; have HO553 := n1_; have HB := n2_; clear n0_ n1_ n2_; (try clear hb); (try clear hb2); (try clear hk); (try clear hi); (try clear ho0)))
    (try simp only [Act.put, List.setIfInBounds_toArray, List.set_cons_zero, List.set_cons_succ])
    go_cut [33] (fun v33 wc => ∃ (kq : Nat) (x33_5 : Bool), v33 = .bool x33_5 ∧ Aside0 (scarfjointlaw02_PartitionAll.j0 kq a0 t546 t547 t550 t551 x33_5 = some r) ∧ Aside0 (kq ≤ k) ∧ Aside0 (Kd.S (Kd.slice 3 (Kd.int .i64)) 28 wc w.heap.size (fun k_ => some k_ ≠ (v552 : Value).ownBlock) v548 t546) ∧ Aside0 (Kd.S (Kd.slice 3 (Kd.int .i64)) 28 wc w.heap.size (fun k_ => some k_ ≠ (v548 : Value).ownBlock) v552 t550) ∧ Aside0 (Below w.heap.size w wc))
    case first =>
      have H := HC6.out
      clear HC6
      by_cases c10 : t547 = t551
      · rw [if_pos c10] at H
        have c10b0 : (t547 == t551) = true := beq_iff_eq.mpr c10
        have c10b1 : (t547 != t551) = false := bne_eq_false_iff_eq.mpr c10
        clear c10
        (first | rw [c10b0] | (simp only [i64_w, i32_w]; rw [c10b0]) | skip)
        replace H := Option.bind_eq_some_iff.mp H
        obtain ⟨t554, A110, H⟩ := H
        replace H : (if t554 = true then (scarfjointlaw02_PartitionAll.j0 k a0 t546 t547 t550 t551 (t547 != 0)) else (scarfjointlaw02_PartitionAll.j0 k a0 t546 t547 t550 t551 true)) = some r := H
        have A11 := Aside0.mk A110
        clear A110
        by_cases c12 : t554 = true
        · subst c12
          have H1 : (scarfjointlaw02_PartitionAll.j0 k a0 t546 t547 t550 t551 (t547 != 0)) = some r := by rw [if_pos rfl] at H; exact H
          clear H
          have H := H1
          clear H1
          have H' := Aside0.mk H
          clear H
          obtain ⟨Ao13, co13, eo13⟩ := Kd.S_slice HO549.out
          subst eo13
          obtain ⟨Ao14, co14, eo14⟩ := Kd.S_slice HO553.out
          subst eo14
          go_wp2_with (first | (go_at_call 28; (with_reducible refine (scarfjointref02_SameLists.calls k _ _ t546 _ _ t550 true _ ?side1 ?side2 ?side3 ?side4 A11.out).mono ?_); (case side1 => repeat (first | exact (Kd.S_reads' HO549.out).2.2 | (with_reducible refine Kd.C_alloc ?_ _) | (with_reducible refine Kd.C_drewN ?_ _) | (with_reducible refine Kd.C_drew ?_))); (case side2 => exact (Kd.S_reads' HO549.out).2.1); (case side3 => repeat (first | exact (Kd.S_reads' HO553.out).2.2 | (with_reducible refine Kd.C_alloc ?_ _) | (with_reducible refine Kd.C_drewN ?_ _) | (with_reducible refine Kd.C_drew ?_))); (case side4 => exact (Kd.S_reads' HO553.out).2.1); rintro e w' ⟨rfl, ⟨nd, rfl⟩⟩))
          go_meet
          case rel => exact ⟨_, ((t547 != 0)), (by first | rfl | (simp; done) | (simp [*]; done)), H', ⟨by first | omega | exact Nat.le_refl _⟩, ⟨by (with_reducible repeat (first | apply Kd.S_alloc | apply Kd.S_drewN | apply Kd.S_drew)); exact Kd.S_mono HO549.out (fun _ hk => hk.2)⟩, ⟨by (with_reducible repeat (first | apply Kd.S_alloc | apply Kd.S_drewN | apply Kd.S_drew)); exact Kd.S_mono HO553.out (fun _ hk => hk.2)⟩, ⟨by repeat (first | (with_reducible first | exact HB.out | apply below_alloc | apply pw_below_drewN | apply below_drew1) | exact HB.out)⟩⟩
        · replace c12 := Bool.eq_false_iff.mpr c12
          subst c12
          have H1 : (scarfjointlaw02_PartitionAll.j0 k a0 t546 t547 t550 t551 true) = some r := by rw [if_neg (show ¬ (false = true) by decide)] at H; exact H
          clear H
          have H := H1
          clear H1
          have H' := Aside0.mk H
          clear H
          obtain ⟨Ao15, co15, eo15⟩ := Kd.S_slice HO549.out
          subst eo15
          obtain ⟨Ao16, co16, eo16⟩ := Kd.S_slice HO553.out
          subst eo16
          go_wp2_with (first | (go_at_call 28; (with_reducible refine (scarfjointref02_SameLists.calls k _ _ t546 _ _ t550 false _ ?side1 ?side2 ?side3 ?side4 A11.out).mono ?_); (case side1 => repeat (first | exact (Kd.S_reads' HO549.out).2.2 | (with_reducible refine Kd.C_alloc ?_ _) | (with_reducible refine Kd.C_drewN ?_ _) | (with_reducible refine Kd.C_drew ?_))); (case side2 => exact (Kd.S_reads' HO549.out).2.1); (case side3 => repeat (first | exact (Kd.S_reads' HO553.out).2.2 | (with_reducible refine Kd.C_alloc ?_ _) | (with_reducible refine Kd.C_drewN ?_ _) | (with_reducible refine Kd.C_drew ?_))); (case side4 => exact (Kd.S_reads' HO553.out).2.1); rintro e w' ⟨rfl, ⟨nd, rfl⟩⟩))
          go_meet
          case rel => exact ⟨_, (true), (by first | rfl | (simp; done) | (simp [*]; done)), H', ⟨by first | omega | exact Nat.le_refl _⟩, ⟨by (with_reducible repeat (first | apply Kd.S_alloc | apply Kd.S_drewN | apply Kd.S_drew)); exact Kd.S_mono HO549.out (fun _ hk => hk.2)⟩, ⟨by (with_reducible repeat (first | apply Kd.S_alloc | apply Kd.S_drewN | apply Kd.S_drew)); exact Kd.S_mono HO553.out (fun _ hk => hk.2)⟩, ⟨by repeat (first | (with_reducible first | exact HB.out | apply below_alloc | apply pw_below_drewN | apply below_drew1) | exact HB.out)⟩⟩
      · rw [if_neg c10] at H
        have c10b0 : (t547 == t551) = false := beq_eq_false_iff_ne.mpr c10
        have c10b1 : (t547 != t551) = true := bne_iff_ne.mpr c10
        (first | rw [c10b0] | (simp only [i64_w, i32_w]; rw [c10b0]) | skip)
        have H' := Aside0.mk H
        clear H
        go_wp2
        go_meet
        case rel => exact ⟨_, (true), (by first | rfl | (simp; done) | (simp [*]; done)), H', ⟨by first | omega | exact Nat.le_refl _⟩, ⟨by (with_reducible repeat (first | apply Kd.S_alloc | apply Kd.S_drewN | apply Kd.S_drew)); exact Kd.S_mono HO549.out (fun _ hk => hk.2)⟩, ⟨by (with_reducible repeat (first | apply Kd.S_alloc | apply Kd.S_drewN | apply Kd.S_drew)); exact Kd.S_mono HO553.out (fun _ hk => hk.2)⟩, ⟨by repeat (first | (with_reducible first | exact HB.out | apply below_alloc | apply pw_below_drewN | apply below_drew1) | exact HB.out)⟩⟩
    case rest =>
      clear HC6
      try clear c1
      try clear c2
      try clear p2
      try clear c3
      try clear c9
      try clear c10
      try clear c10b0
      try clear c10b1
      try clear c12
      obtain ⟨kq, x33_5, rfl, HA, HJ5, HO_3, HO_5, HB⟩ := hcut
      cases kq with
      | zero => exact absurd HA.out (by simp [scarfjointlaw02_PartitionAll.j0])
      | succ kj5 =>
        have H := HA.out
        clear HA
        simp only [scarfjointlaw02_PartitionAll.j0] at H
        by_cases c17 : x33_5 = true
        · subst c17
          have H1 : (if t547 = t551 then ((scarfjointref02_SameLists.f kj5 t546 t550).bind fun t555 => (some t555)) else (some false)) = some r := by rw [if_pos rfl] at H; exact H
          clear H
          have H := H1
          clear H1
          by_cases c18 : t547 = t551
          · rw [if_pos c18] at H
            have c18b0 : (t547 == t551) = true := beq_iff_eq.mpr c18
            have c18b1 : (t547 != t551) = false := bne_eq_false_iff_eq.mpr c18
            clear c18
            replace H := Option.bind_eq_some_iff.mp H
            obtain ⟨t555, A190, H⟩ := H
            replace H : (some t555) = some r := H
            have A19 := Aside0.mk A190
            clear A190
            obtain rfl := Option.some.inj H
            obtain ⟨Ao20, co20, eo20⟩ := Kd.S_slice HO_3.out
            subst eo20
            obtain ⟨Ao21, co21, eo21⟩ := Kd.S_slice HO_5.out
            subst eo21
            go_wp2_with (first | (go_at_call 28; (with_reducible refine (scarfjointref02_SameLists.calls kj5 _ _ t546 _ _ t550 t555 _ ?side1 ?side2 ?side3 ?side4 A19.out).mono ?_); (case side1 => repeat (first | exact (Kd.S_reads' HO_3.out).2.2 | (with_reducible refine Kd.C_alloc ?_ _) | (with_reducible refine Kd.C_drewN ?_ _) | (with_reducible refine Kd.C_drew ?_))); (case side2 => exact (Kd.S_reads' HO_3.out).2.1); (case side3 => repeat (first | exact (Kd.S_reads' HO_5.out).2.2 | (with_reducible refine Kd.C_alloc ?_ _) | (with_reducible refine Kd.C_drewN ?_ _) | (with_reducible refine Kd.C_drew ?_))); (case side4 => exact (Kd.S_reads' HO_5.out).2.1); rintro e w' ⟨rfl, ⟨nd, rfl⟩⟩))
            go_ret
            exact ⟨by first | rfl | (simp [errW_none, errW_some] <;> rfl) | (simp [*, errW_none, errW_some] <;> rfl), by repeat (first | (with_reducible first | exact HB.out | apply below_alloc | apply pw_below_drewN | apply below_drew1) | exact HB.out)⟩
          · rw [if_neg c18] at H
            have c18b0 : (t547 == t551) = false := beq_eq_false_iff_ne.mpr c18
            have c18b1 : (t547 != t551) = true := bne_iff_ne.mpr c18
            obtain rfl := Option.some.inj H
            go_wp2
            go_ret
            exact ⟨by first | rfl | (simp [errW_none, errW_some] <;> rfl) | (simp [*, errW_none, errW_some] <;> rfl), by repeat (first | (with_reducible first | exact HB.out | apply below_alloc | apply pw_below_drewN | apply below_drew1) | exact HB.out)⟩
        · replace c17 := Bool.eq_false_iff.mpr c17
          subst c17
          have H1 : (scarfjointlaw02_PartitionAll.l0 kj5 a0 t546 t546 (t546.length : Int) 0) = some r := by rw [if_neg (show ¬ (false = true) by decide)] at H; exact H
          clear H
          have H := H1
          clear H1
          have H' := Aside0.mk H
          clear H
          obtain ⟨Ao22, co22, eo22⟩ := Kd.S_slice HO_3.out
          subst eo22
          go_wp2
          go_loopg [44] kj5 (fun kq v44 w' => ∃ (x44_2 : Int), v44 = .int .i64 x44_2 ∧ Aside0 (scarfjointlaw02_PartitionAll.l0 kq a0 t546 t546 (t546.length : Int) x44_2 = some r) ∧ Aside0 (kq ≤ kj5) ∧ Aside0 (Kd.S (Kd.slice 3 (Kd.int .i64)) 28 w' w.heap.size (fun _ => True) (.slice Ao22 t546.length co22) t546) ∧ Aside0 (Kd.S (Kd.slice 3 (Kd.int .i64)) 28 w' w.heap.size (fun _ => True) (.slice Ao22 t546.length co22) t546) ∧ Aside0 (Below w.heap.size w w'))
          case atStart => exact ⟨(0), (by first | rfl | (simp; done) | (simp [*]; done)), H', ⟨Nat.le_refl _⟩, ⟨by (with_reducible repeat (first | apply Kd.S_alloc | apply Kd.S_drewN | apply Kd.S_drew)); exact Kd.S_mono HO_3.out (fun _ hk => trivial)⟩, ⟨by (with_reducible repeat (first | apply Kd.S_alloc | apply Kd.S_drewN | apply Kd.S_drew)); exact Kd.S_mono HO_3.out (fun _ hk => trivial)⟩, ⟨by repeat (first | (with_reducible first | exact HB.out | apply below_alloc | apply pw_below_drewN | apply below_drew1) | exact HB.out)⟩⟩
          case round =>
            clear H'
            try clear c1
            try clear c2
            try clear p2
            try clear c3
            try clear c9
            try clear c10
            try clear c10b0
            try clear c10b1
            try clear c12
            try clear c17
            try clear c18
            try clear c18b0
            try clear c18b1
            try clear p2
            obtain ⟨x44_2, rfl, HA, HK2, HO_3, HO_42, HB⟩ := hrel
            cases gk with
            | zero => exact absurd HA.out (by simp [scarfjointlaw02_PartitionAll.l0])
            | succ k2 =>
              have H := HA.out
              clear HA
              simp only [scarfjointlaw02_PartitionAll.l0] at H
              by_cases c23 : x44_2 < (t546.length : Int)
              · rw [if_pos c23] at H
                have c23b0 : decide (x44_2 < (t546.length : Int)) = true := decide_eq_true c23
                clear c23
                by_cases c24 : 0 ≤ x44_2
                · rw [if_pos c24] at H
                  have c24b0 : decide (0 ≤ x44_2) = true := decide_eq_true c24
                  clear c24
                  by_cases c25 : x44_2 < (t546.length : Int)
                  · rw [if_pos c25] at H
                    have c25b0 : decide (x44_2 < (t546.length : Int)) = true := decide_eq_true c25
                    clear c25
                    replace H := Option.bind_eq_some_iff.mp H
                    obtain ⟨t561, A260, H⟩ := H
                    replace H : (if t561 = true then (if ((rd_L2 t546 x44_2).length : Int) = a0 then (if x44_2 > 0 then (if 0 ≤ (wrap64 (x44_2 - 1)) then (if (wrap64 (x44_2 - 1)) < (t546.length : Int) then ((slices_Compare_int_int.f k2 (rd_L2 t546 (wrap64 (x44_2 - 1))) (rd_L2 t546 x44_2)).bind fun t563 => (if t563 ≥ 0 then (some false) else (scarfjointlaw02_PartitionAll.l0 k2 a0 t546 t546 (t546.length : Int) (wrap64 (x44_2 + 1))))) else (none)) else (none)) else (scarfjointlaw02_PartitionAll.l0 k2 a0 t546 t546 (t546.length : Int) (wrap64 (x44_2 + 1)))) else (some false)) else (some false)) = some r := H
                    have A26 := Aside0.mk A260
                    clear A260
                    by_cases c27 : t561 = true
                    · subst c27
                      have H1 : (if ((rd_L2 t546 x44_2).length : Int) = a0 then (if x44_2 > 0 then (if 0 ≤ (wrap64 (x44_2 - 1)) then (if (wrap64 (x44_2 - 1)) < (t546.length : Int) then ((slices_Compare_int_int.f k2 (rd_L2 t546 (wrap64 (x44_2 - 1))) (rd_L2 t546 x44_2)).bind fun t563 => (if t563 ≥ 0 then (some false) else (scarfjointlaw02_PartitionAll.l0 k2 a0 t546 t546 (t546.length : Int) (wrap64 (x44_2 + 1))))) else (none)) else (none)) else (scarfjointlaw02_PartitionAll.l0 k2 a0 t546 t546 (t546.length : Int) (wrap64 (x44_2 + 1)))) else (some false)) = some r := by rw [if_pos rfl] at H; exact H
                      clear H
                      have H := H1
                      clear H1
                      by_cases c28 : ((rd_L2 t546 x44_2).length : Int) = a0
                      · rw [if_pos c28] at H
                        have c28b0 : (((rd_L2 t546 x44_2).length : Int) == a0) = true := beq_iff_eq.mpr c28
                        have c28b1 : (((rd_L2 t546 x44_2).length : Int) != a0) = false := bne_eq_false_iff_eq.mpr c28
                        clear c28
                        by_cases c29 : x44_2 > 0
                        · rw [if_pos c29] at H
                          have c29b0 : decide (0 < x44_2) = true := decide_eq_true c29
                          clear c29
                          obtain ⟨ji30, hji30⟩ : ∃ j_ : Int, (wrap64 (x44_2 - 1)) = j_ := ⟨_, rfl⟩
                          replace H : (if 0 ≤ (ji30) then (if (ji30) < (t546.length : Int) then ((slices_Compare_int_int.f k2 (rd_L2 t546 (ji30)) (rd_L2 t546 x44_2)).bind fun t563 => (if t563 ≥ 0 then (some false) else (scarfjointlaw02_PartitionAll.l0 k2 a0 t546 t546 (t546.length : Int) (wrap64 (x44_2 + 1))))) else (none)) else (none)) = some r := by first | (rw [hji30] at H; exact H) | (simp only [hji30] at H ⊢; exact H)
                          (try rw [hji30] at A26)
                          have hji30w : (IntKind.i64.wrap (x44_2 - 1)) = ji30 := (i64_w _).trans hji30
                          by_cases c31 : 0 ≤ (ji30)
                          · rw [if_pos c31] at H
                            have c31b0 : decide (0 ≤ (ji30)) = true := decide_eq_true c31
                            clear c31
                            by_cases c32 : (ji30) < (t546.length : Int)
                            · rw [if_pos c32] at H
                              have c32b0 : decide ((ji30) < (t546.length : Int)) = true := decide_eq_true c32
                              clear c32
                              replace H := Option.bind_eq_some_iff.mp H
                              obtain ⟨t563, A330, H⟩ := H
                              replace H : (if t563 ≥ 0 then (some false) else (scarfjointlaw02_PartitionAll.l0 k2 a0 t546 t546 (t546.length : Int) (wrap64 (x44_2 + 1)))) = some r := H
                              have A33 := Aside0.mk A330
                              clear A330
                              by_cases c34 : t563 ≥ 0
                              · rw [if_pos c34] at H
                                have c34b0 : decide (0 ≤ t563) = true := decide_eq_true c34
                                clear c34
                                obtain rfl := Option.some.inj H
                                have p560 : 0 ≤ (x44_2 : Int) := of_decide_eq_true (by first | (with_reducible assumption) | assumption)
                                have q560 : x44_2 < (t546.length : Int) := of_decide_eq_true (by first | (with_reducible assumption) | assumption)
                                obtain ⟨ad560, A560_0, c560_0, e560, hx560_0, hl560_0, hi560_0⟩ := at_L2 (Kd.S_reads' HO_42.out).2.2 x44_2 p560 q560
                                cases e560
                                obtain ⟨ce560, hce560, hMe560, hcc560⟩ := Kd.S_get HO_42.out [] x44_2 p560 (by first | exact q560 | exact of_decide_eq_true (by first | (with_reducible assumption) | assumption) | (have e_ := (Kd.S_reads' HO_42.out).1; omega))
                                obtain ⟨ve560_0, rfl, ge560_0⟩ := hMe560
                                have hv560_0 := hcc560 0 _ rfl
                                rw [Nat.add_zero, show ((Kd.slice 3 (Kd.int .i64))).sz = 1 from rfl, Nat.mul_one] at hv560_0
                                replace hv560_0 := Option.some.inj (hv560_0.symm.trans hx560_0)
                                rw [hv560_0] at ge560_0
                                have HL560_0 := Aside0.mk (show Kd.R (Kd.int .i64) 3 _ _ _ _ (rd_L2 t546 x44_2) from ge560_0)
                                clear hv560_0 ge560_0
                                clear hcc560 hce560
                                have HR560_0 := Aside0.mk hi560_0
                                have HC560_0 := Aside0.mk hl560_0
                                clear hi560_0 hl560_0
                                replace p560 := eq_true p560
                                replace q560 := eq_true q560
                                go_wp2_with (first | ((with_reducible refine gate_callee (f := 26) rfl ?_); refine goesL_ (some 50) rfl rfl Try.func26 (by kernel_rfl) rfl #[.slice A560_0 (rd_L2 t546 x44_2).length c560_0] rfl (by (try simp only [List.map_toArray, List.map_cons, List.map_nil]); first | done | rfl | (simp only [List.length_drop, List.length_take]; rfl)) ?_; (with_reducible refine (partition_Valid.calls k2 _ _ (rd_L2 t546 x44_2) true _ ?side1 ?side2 A26.out).mono ?_); (case side1 => repeat (first | exact (by repeat (first | (with_reducible exact HR560_0.out) | (with_reducible refine Kd.C_alloc ?_ _) | (with_reducible refine Kd.C_drewN ?_ _) | (with_reducible refine Kd.C_drew ?_) | exact HR560_0.out)) | (with_reducible refine Kd.C_alloc ?_ _) | (with_reducible refine Kd.C_drewN ?_ _) | (with_reducible refine Kd.C_drew ?_))); (case side2 => exact HC560_0.out); rintro e w' ⟨rfl, ⟨nd, rfl⟩⟩; refine ⟨_, rfl, ?_⟩; have p562 : 0 ≤ ((ji30) : Int) := of_decide_eq_true (by first | (with_reducible assumption) | assumption); have q562 : (ji30) < (t546.length : Int) := of_decide_eq_true (by first | (with_reducible assumption) | assumption); obtain ⟨ad562, A562_0, c562_0, e562, hx562_0, hl562_0, hi562_0⟩ := at_L2 (Kd.S_reads' HO_3.out).2.2 (ji30) p562 q562; obtain rfl : ad560 = ad562 := (by injection e562); obtain ⟨ce562, hce562, hMe562, hcc562⟩ := Kd.S_get HO_3.out [] (ji30) p562 (by first | exact q562 | exact of_decide_eq_true (by first | (with_reducible assumption) | assumption) | (have e_ := (Kd.S_reads' HO_3.out).1; omega)); obtain ⟨ve562_0, rfl, ge562_0⟩ := hMe562; have hv562_0 := hcc562 0 _ rfl; rw [Nat.add_zero, show ((Kd.slice 3 (Kd.int .i64))).sz = 1 from rfl, Nat.mul_one] at hv562_0; replace hv562_0 := Option.some.inj (hv562_0.symm.trans hx562_0); rw [hv562_0] at ge562_0; have HL562_0 := Aside0.mk (show Kd.R (Kd.int .i64) 3 _ _ _ _ (rd_L2 t546 (ji30)) from ge562_0); clear hv562_0 ge562_0; clear hcc562 hce562; have HR562_0 := Aside0.mk hi562_0; have HC562_0 := Aside0.mk hl562_0; clear hi562_0 hl562_0; replace p562 := eq_true p562; replace q562 := eq_true q562) | (go_at_call 31; (with_reducible refine (slices_Compare_int_int.calls k2 _ _ (rd_L2 t546 (ji30)) _ _ (rd_L2 t546 x44_2) t563 _ ?side1 ?side2 ?side3 ?side4 A33.out).mono ?_); (case side1 => repeat (first | exact (by repeat (first | (with_reducible exact HR562_0.out) | (with_reducible refine Kd.C_alloc ?_ _) | (with_reducible refine Kd.C_drewN ?_ _) | (with_reducible refine Kd.C_drew ?_) | exact HR562_0.out)) | (with_reducible refine Kd.C_alloc ?_ _) | (with_reducible refine Kd.C_drewN ?_ _) | (with_reducible refine Kd.C_drew ?_))); (case side2 => exact HC562_0.out); (case side3 => repeat (first | exact (by repeat (first | (with_reducible exact HR560_0.out) | (with_reducible refine Kd.C_alloc ?_ _) | (with_reducible refine Kd.C_drewN ?_ _) | (with_reducible refine Kd.C_drew ?_) | exact HR560_0.out)) | (with_reducible refine Kd.C_alloc ?_ _) | (with_reducible refine Kd.C_drewN ?_ _) | (with_reducible refine Kd.C_drew ?_))); (case side4 => exact HC560_0.out); rintro e w' ⟨rfl, ⟨nd, rfl⟩⟩))
                                go_ret
                                exact ⟨by first | rfl | (simp [errW_none, errW_some] <;> rfl) | (simp only [← hji30]; first | rfl | (simp [errW_none, errW_some] <;> rfl)) | (simp [*, errW_none, errW_some] <;> rfl), by repeat (first | (with_reducible first | exact HB.out | apply below_alloc | apply pw_below_drewN | apply below_drew1) | exact HB.out)⟩
                              · rw [if_neg c34] at H
                                have c34b0 : decide (0 ≤ t563) = false := decide_eq_false c34
                                clear c34
                                have H' := Aside0.mk H
                                clear H
                                have p560 : 0 ≤ (x44_2 : Int) := of_decide_eq_true (by first | (with_reducible assumption) | assumption)
                                have q560 : x44_2 < (t546.length : Int) := of_decide_eq_true (by first | (with_reducible assumption) | assumption)
                                obtain ⟨ad560, A560_0, c560_0, e560, hx560_0, hl560_0, hi560_0⟩ := at_L2 (Kd.S_reads' HO_42.out).2.2 x44_2 p560 q560
                                cases e560
                                obtain ⟨ce560, hce560, hMe560, hcc560⟩ := Kd.S_get HO_42.out [] x44_2 p560 (by first | exact q560 | exact of_decide_eq_true (by first | (with_reducible assumption) | assumption) | (have e_ := (Kd.S_reads' HO_42.out).1; omega))
                                obtain ⟨ve560_0, rfl, ge560_0⟩ := hMe560
                                have hv560_0 := hcc560 0 _ rfl
                                rw [Nat.add_zero, show ((Kd.slice 3 (Kd.int .i64))).sz = 1 from rfl, Nat.mul_one] at hv560_0
                                replace hv560_0 := Option.some.inj (hv560_0.symm.trans hx560_0)
                                rw [hv560_0] at ge560_0
                                have HL560_0 := Aside0.mk (show Kd.R (Kd.int .i64) 3 _ _ _ _ (rd_L2 t546 x44_2) from ge560_0)
                                clear hv560_0 ge560_0
                                clear hcc560 hce560
                                have HR560_0 := Aside0.mk hi560_0
                                have HC560_0 := Aside0.mk hl560_0
                                clear hi560_0 hl560_0
                                replace p560 := eq_true p560
                                replace q560 := eq_true q560
                                go_wp2_with (first | ((with_reducible refine gate_callee (f := 26) rfl ?_); refine goesL_ (some 50) rfl rfl Try.func26 (by kernel_rfl) rfl #[.slice A560_0 (rd_L2 t546 x44_2).length c560_0] rfl (by (try simp only [List.map_toArray, List.map_cons, List.map_nil]); first | done | rfl | (simp only [List.length_drop, List.length_take]; rfl)) ?_; (with_reducible refine (partition_Valid.calls k2 _ _ (rd_L2 t546 x44_2) true _ ?side1 ?side2 A26.out).mono ?_); (case side1 => repeat (first | exact (by repeat (first | (with_reducible exact HR560_0.out) | (with_reducible refine Kd.C_alloc ?_ _) | (with_reducible refine Kd.C_drewN ?_ _) | (with_reducible refine Kd.C_drew ?_) | exact HR560_0.out)) | (with_reducible refine Kd.C_alloc ?_ _) | (with_reducible refine Kd.C_drewN ?_ _) | (with_reducible refine Kd.C_drew ?_))); (case side2 => exact HC560_0.out); rintro e w' ⟨rfl, ⟨nd, rfl⟩⟩; refine ⟨_, rfl, ?_⟩; have p562 : 0 ≤ ((ji30) : Int) := of_decide_eq_true (by first | (with_reducible assumption) | assumption); have q562 : (ji30) < (t546.length : Int) := of_decide_eq_true (by first | (with_reducible assumption) | assumption); obtain ⟨ad562, A562_0, c562_0, e562, hx562_0, hl562_0, hi562_0⟩ := at_L2 (Kd.S_reads' HO_3.out).2.2 (ji30) p562 q562; obtain rfl : ad560 = ad562 := (by injection e562); obtain ⟨ce562, hce562, hMe562, hcc562⟩ := Kd.S_get HO_3.out [] (ji30) p562 (by first | exact q562 | exact of_decide_eq_true (by first | (with_reducible assumption) | assumption) | (have e_ := (Kd.S_reads' HO_3.out).1; omega)); obtain ⟨ve562_0, rfl, ge562_0⟩ := hMe562; have hv562_0 := hcc562 0 _ rfl; rw [Nat.add_zero, show ((Kd.slice 3 (Kd.int .i64))).sz = 1 from rfl, Nat.mul_one] at hv562_0; replace hv562_0 := Option.some.inj (hv562_0.symm.trans hx562_0); rw [hv562_0] at ge562_0; have HL562_0 := Aside0.mk (show Kd.R (Kd.int .i64) 3 _ _ _ _ (rd_L2 t546 (ji30)) from ge562_0); clear hv562_0 ge562_0; clear hcc562 hce562; have HR562_0 := Aside0.mk hi562_0; have HC562_0 := Aside0.mk hl562_0; clear hi562_0 hl562_0; replace p562 := eq_true p562; replace q562 := eq_true q562) | (go_at_call 31; (with_reducible refine (slices_Compare_int_int.calls k2 _ _ (rd_L2 t546 (ji30)) _ _ (rd_L2 t546 x44_2) t563 _ ?side1 ?side2 ?side3 ?side4 A33.out).mono ?_); (case side1 => repeat (first | exact (by repeat (first | (with_reducible exact HR562_0.out) | (with_reducible refine Kd.C_alloc ?_ _) | (with_reducible refine Kd.C_drewN ?_ _) | (with_reducible refine Kd.C_drew ?_) | exact HR562_0.out)) | (with_reducible refine Kd.C_alloc ?_ _) | (with_reducible refine Kd.C_drewN ?_ _) | (with_reducible refine Kd.C_drew ?_))); (case side2 => exact HC562_0.out); (case side3 => repeat (first | exact (by repeat (first | (with_reducible exact HR560_0.out) | (with_reducible refine Kd.C_alloc ?_ _) | (with_reducible refine Kd.C_drewN ?_ _) | (with_reducible refine Kd.C_drew ?_) | exact HR560_0.out)) | (with_reducible refine Kd.C_alloc ?_ _) | (with_reducible refine Kd.C_drewN ?_ _) | (with_reducible refine Kd.C_drew ?_))); (case side4 => exact HC560_0.out); rintro e w' ⟨rfl, ⟨nd, rfl⟩⟩))
                                go_roundg k2
                                case measure => have := HJ5.out; have := HK2.out; omega
                                case rel => exact ⟨(wrap64 (x44_2 + 1)), (by first | rfl | (simp; done) | (simp [*]; done)), H', ⟨by have := HJ5.out; have := HK2.out; omega⟩, ⟨by (with_reducible repeat (first | apply Kd.S_alloc | apply Kd.S_drewN | apply Kd.S_drew)); exact HO_3.out⟩, ⟨by (with_reducible repeat (first | apply Kd.S_alloc | apply Kd.S_drewN | apply Kd.S_drew)); exact HO_42.out⟩, ⟨by repeat (first | (with_reducible first | exact HB.out | apply below_alloc | apply pw_below_drewN | apply below_drew1) | exact HB.out)⟩⟩
                            · rw [if_neg c32] at H
                              exact absurd H (by simp)
                          · rw [if_neg c31] at H
                            exact absurd H (by simp)
                        · rw [if_neg c29] at H
                          have c29b0 : decide (0 < x44_2) = false := decide_eq_false c29
                          clear c29
                          have H' := Aside0.mk H
                          clear H
                          have p560 : 0 ≤ (x44_2 : Int) := of_decide_eq_true (by first | (with_reducible assumption) | assumption)
                          have q560 : x44_2 < (t546.length : Int) := of_decide_eq_true (by first | (with_reducible assumption) | assumption)
                          obtain ⟨ad560, A560_0, c560_0, e560, hx560_0, hl560_0, hi560_0⟩ := at_L2 (Kd.S_reads' HO_42.out).2.2 x44_2 p560 q560
                          cases e560
                          obtain ⟨ce560, hce560, hMe560, hcc560⟩ := Kd.S_get HO_42.out [] x44_2 p560 (by first | exact q560 | exact of_decide_eq_true (by first | (with_reducible assumption) | assumption) | (have e_ := (Kd.S_reads' HO_42.out).1; omega))
                          obtain ⟨ve560_0, rfl, ge560_0⟩ := hMe560
                          have hv560_0 := hcc560 0 _ rfl
                          rw [Nat.add_zero, show ((Kd.slice 3 (Kd.int .i64))).sz = 1 from rfl, Nat.mul_one] at hv560_0
                          replace hv560_0 := Option.some.inj (hv560_0.symm.trans hx560_0)
                          rw [hv560_0] at ge560_0
                          have HL560_0 := Aside0.mk (show Kd.R (Kd.int .i64) 3 _ _ _ _ (rd_L2 t546 x44_2) from ge560_0)
                          clear hv560_0 ge560_0
                          clear hcc560 hce560
                          have HR560_0 := Aside0.mk hi560_0
                          have HC560_0 := Aside0.mk hl560_0
                          clear hi560_0 hl560_0
                          replace p560 := eq_true p560
                          replace q560 := eq_true q560
                          go_wp2_with (first | ((with_reducible refine gate_callee (f := 26) rfl ?_); refine goesL_ (some 50) rfl rfl Try.func26 (by kernel_rfl) rfl #[.slice A560_0 (rd_L2 t546 x44_2).length c560_0] rfl (by (try simp only [List.map_toArray, List.map_cons, List.map_nil]); first | done | rfl | (simp only [List.length_drop, List.length_take]; rfl)) ?_; (with_reducible refine (partition_Valid.calls k2 _ _ (rd_L2 t546 x44_2) true _ ?side1 ?side2 A26.out).mono ?_); (case side1 => repeat (first | exact (by repeat (first | (with_reducible exact HR560_0.out) | (with_reducible refine Kd.C_alloc ?_ _) | (with_reducible refine Kd.C_drewN ?_ _) | (with_reducible refine Kd.C_drew ?_) | exact HR560_0.out)) | (with_reducible refine Kd.C_alloc ?_ _) | (with_reducible refine Kd.C_drewN ?_ _) | (with_reducible refine Kd.C_drew ?_))); (case side2 => exact HC560_0.out); rintro e w' ⟨rfl, ⟨nd, rfl⟩⟩; refine ⟨_, rfl, ?_⟩))
                          go_roundg k2
                          case measure => have := HJ5.out; have := HK2.out; omega
                          case rel => exact ⟨(wrap64 (x44_2 + 1)), (by first | rfl | (simp; done) | (simp [*]; done)), H', ⟨by have := HJ5.out; have := HK2.out; omega⟩, ⟨by (with_reducible repeat (first | apply Kd.S_alloc | apply Kd.S_drewN | apply Kd.S_drew)); exact HO_3.out⟩, ⟨by (with_reducible repeat (first | apply Kd.S_alloc | apply Kd.S_drewN | apply Kd.S_drew)); exact HO_42.out⟩, ⟨by repeat (first | (with_reducible first | exact HB.out | apply below_alloc | apply pw_below_drewN | apply below_drew1) | exact HB.out)⟩⟩
                      · rw [if_neg c28] at H
                        have c28b0 : (((rd_L2 t546 x44_2).length : Int) == a0) = false := beq_eq_false_iff_ne.mpr c28
                        have c28b1 : (((rd_L2 t546 x44_2).length : Int) != a0) = true := bne_iff_ne.mpr c28
                        obtain rfl := Option.some.inj H
                        have p560 : 0 ≤ (x44_2 : Int) := of_decide_eq_true (by first | (with_reducible assumption) | assumption)
                        have q560 : x44_2 < (t546.length : Int) := of_decide_eq_true (by first | (with_reducible assumption) | assumption)
                        obtain ⟨ad560, A560_0, c560_0, e560, hx560_0, hl560_0, hi560_0⟩ := at_L2 (Kd.S_reads' HO_42.out).2.2 x44_2 p560 q560
                        cases e560
                        obtain ⟨ce560, hce560, hMe560, hcc560⟩ := Kd.S_get HO_42.out [] x44_2 p560 (by first | exact q560 | exact of_decide_eq_true (by first | (with_reducible assumption) | assumption) | (have e_ := (Kd.S_reads' HO_42.out).1; omega))
                        obtain ⟨ve560_0, rfl, ge560_0⟩ := hMe560
                        have hv560_0 := hcc560 0 _ rfl
                        rw [Nat.add_zero, show ((Kd.slice 3 (Kd.int .i64))).sz = 1 from rfl, Nat.mul_one] at hv560_0
                        replace hv560_0 := Option.some.inj (hv560_0.symm.trans hx560_0)
                        rw [hv560_0] at ge560_0
                        have HL560_0 := Aside0.mk (show Kd.R (Kd.int .i64) 3 _ _ _ _ (rd_L2 t546 x44_2) from ge560_0)
                        clear hv560_0 ge560_0
                        clear hcc560 hce560
                        have HR560_0 := Aside0.mk hi560_0
                        have HC560_0 := Aside0.mk hl560_0
                        clear hi560_0 hl560_0
                        replace p560 := eq_true p560
                        replace q560 := eq_true q560
                        go_wp2_with (first | ((with_reducible refine gate_callee (f := 26) rfl ?_); refine goesL_ (some 50) rfl rfl Try.func26 (by kernel_rfl) rfl #[.slice A560_0 (rd_L2 t546 x44_2).length c560_0] rfl (by (try simp only [List.map_toArray, List.map_cons, List.map_nil]); first | done | rfl | (simp only [List.length_drop, List.length_take]; rfl)) ?_; (with_reducible refine (partition_Valid.calls k2 _ _ (rd_L2 t546 x44_2) true _ ?side1 ?side2 A26.out).mono ?_); (case side1 => repeat (first | exact (by repeat (first | (with_reducible exact HR560_0.out) | (with_reducible refine Kd.C_alloc ?_ _) | (with_reducible refine Kd.C_drewN ?_ _) | (with_reducible refine Kd.C_drew ?_) | exact HR560_0.out)) | (with_reducible refine Kd.C_alloc ?_ _) | (with_reducible refine Kd.C_drewN ?_ _) | (with_reducible refine Kd.C_drew ?_))); (case side2 => exact HC560_0.out); rintro e w' ⟨rfl, ⟨nd, rfl⟩⟩; refine ⟨_, rfl, ?_⟩))
                        go_ret
                        exact ⟨by first | rfl | (simp [errW_none, errW_some] <;> rfl) | (simp [*, errW_none, errW_some] <;> rfl), by repeat (first | (with_reducible first | exact HB.out | apply below_alloc | apply pw_below_drewN | apply below_drew1) | exact HB.out)⟩
                    · replace c27 := Bool.eq_false_iff.mpr c27
                      subst c27
                      have H1 : (some false) = some r := by rw [if_neg (show ¬ (false = true) by decide)] at H; exact H
                      clear H
                      have H := H1
                      clear H1
                      obtain rfl := Option.some.inj H
                      have p560 : 0 ≤ (x44_2 : Int) := of_decide_eq_true (by first | (with_reducible assumption) | assumption)
                      have q560 : x44_2 < (t546.length : Int) := of_decide_eq_true (by first | (with_reducible assumption) | assumption)
                      obtain ⟨ad560, A560_0, c560_0, e560, hx560_0, hl560_0, hi560_0⟩ := at_L2 (Kd.S_reads' HO_42.out).2.2 x44_2 p560 q560
                      cases e560
                      obtain ⟨ce560, hce560, hMe560, hcc560⟩ := Kd.S_get HO_42.out [] x44_2 p560 (by first | exact q560 | exact of_decide_eq_true (by first | (with_reducible assumption) | assumption) | (have e_ := (Kd.S_reads' HO_42.out).1; omega))
                      obtain ⟨ve560_0, rfl, ge560_0⟩ := hMe560
                      have hv560_0 := hcc560 0 _ rfl
                      rw [Nat.add_zero, show ((Kd.slice 3 (Kd.int .i64))).sz = 1 from rfl, Nat.mul_one] at hv560_0
                      replace hv560_0 := Option.some.inj (hv560_0.symm.trans hx560_0)
                      rw [hv560_0] at ge560_0
                      have HL560_0 := Aside0.mk (show Kd.R (Kd.int .i64) 3 _ _ _ _ (rd_L2 t546 x44_2) from ge560_0)
                      clear hv560_0 ge560_0
                      clear hcc560 hce560
                      have HR560_0 := Aside0.mk hi560_0
                      have HC560_0 := Aside0.mk hl560_0
                      clear hi560_0 hl560_0
                      replace p560 := eq_true p560
                      replace q560 := eq_true q560
                      go_wp2_with (first | ((with_reducible refine gate_callee (f := 26) rfl ?_); refine goesL_ (some 50) rfl rfl Try.func26 (by kernel_rfl) rfl #[.slice A560_0 (rd_L2 t546 x44_2).length c560_0] rfl (by (try simp only [List.map_toArray, List.map_cons, List.map_nil]); first | done | rfl | (simp only [List.length_drop, List.length_take]; rfl)) ?_; (with_reducible refine (partition_Valid.calls k2 _ _ (rd_L2 t546 x44_2) false _ ?side1 ?side2 A26.out).mono ?_); (case side1 => repeat (first | exact (by repeat (first | (with_reducible exact HR560_0.out) | (with_reducible refine Kd.C_alloc ?_ _) | (with_reducible refine Kd.C_drewN ?_ _) | (with_reducible refine Kd.C_drew ?_) | exact HR560_0.out)) | (with_reducible refine Kd.C_alloc ?_ _) | (with_reducible refine Kd.C_drewN ?_ _) | (with_reducible refine Kd.C_drew ?_))); (case side2 => exact HC560_0.out); rintro e w' ⟨rfl, ⟨nd, rfl⟩⟩; refine ⟨_, rfl, ?_⟩))
                      go_ret
                      exact ⟨by first | rfl | (simp [errW_none, errW_some] <;> rfl) | (simp [*, errW_none, errW_some] <;> rfl), by repeat (first | (with_reducible first | exact HB.out | apply below_alloc | apply pw_below_drewN | apply below_drew1) | exact HB.out)⟩
                  · rw [if_neg c25] at H
                    exact absurd H (by simp)
                · rw [if_neg c24] at H
                  exact absurd H (by simp)
              · rw [if_neg c23] at H
                have c23b0 : decide (x44_2 < (t546.length : Int)) = false := decide_eq_false c23
                clear c23
                by_cases c35 : a0 < 0
                · rw [if_pos c35] at H
                  have c35b0 : decide (a0 < 0) = true := decide_eq_true c35
                  clear c35
                  obtain rfl := Option.some.inj H
                  go_wp2
                  go_ret
                  exact ⟨by first | rfl | (simp [errW_none, errW_some] <;> rfl) | (simp [*, errW_none, errW_some] <;> rfl), by repeat (first | (with_reducible first | exact HB.out | apply below_alloc | apply pw_below_drewN | apply below_drew1) | exact HB.out)⟩
                · rw [if_neg c35] at H
                  have c35b0 : decide (a0 < 0) = false := decide_eq_false c35
                  clear c35
                  by_cases c36 : a0 > 7
                  · rw [if_pos c36] at H
                    have c36b0 : decide (7 < a0) = true := decide_eq_true c36
                    clear c36
                    obtain rfl := Option.some.inj H
                    go_wp2
                    go_ret
                    exact ⟨by first | rfl | (simp [errW_none, errW_some] <;> rfl) | (simp [*, errW_none, errW_some] <;> rfl), by repeat (first | (with_reducible first | exact HB.out | apply below_alloc | apply pw_below_drewN | apply below_drew1) | exact HB.out)⟩
                  · rw [if_neg c36] at H
                    have c36b0 : decide (7 < a0) = false := decide_eq_false c36
                    clear c36
                    obtain ⟨y556, hy556⟩ : ∃ y_ : List Int, y_ = (([1, 1, 2, 5, 15, 52, 203, 877] : List Int)) := ⟨_, rfl⟩
                    replace H : (if 0 ≤ a0 then (if a0 < (y556.length : Int) then (some ((t546.length : Int) == (rd y556 a0))) else (none)) else (none)) = some r := by first | (rw [hy556]; with_reducible exact H) | (have H2_ := (Option.bind_some _ _).symm.trans H; rw [hy556]; with_reducible exact H2_) | (have H2_ := (Option.bind_some _ _).symm.trans H; with_reducible exact H2_) | with_reducible exact H | (rw [hy556]; exact H) | exact H
                    have Ny556 := Aside0.mk hy556
                    clear hy556
                    by_cases c37 : 0 ≤ a0
                    · rw [if_pos c37] at H
                      have c37b0 : decide (0 ≤ a0) = true := decide_eq_true c37
                      clear c37
                      by_cases c38 : a0 < (y556.length : Int)
                      · rw [if_pos c38] at H
                        have c38b0 : decide (a0 < (y556.length : Int)) = true := decide_eq_true c38
                        clear c38
                        obtain rfl := Option.some.inj H
                        go_wp2_with (first | ((with_reducible refine gate_dst (N := 82) rfl ?_); (try (refine gate_guard (by rfl) ?_; dsimp only)); refine Kd.R_lit (Kd.int .i64) _ 3 ?hg (N := 82) ?hd (xs := ([1, 1, 2, 5, 15, 52, 203, 877] : List Int)) (inner := [.int .i64 1, .int .i64 1, .int .i64 2, .int .i64 5, .int .i64 15, .int .i64 52, .int .i64 203, .int .i64 877]) (ok := fun _ => True) (okp := fun _ => True) ?hr ?hp (fun _ hk => hk) trivial (Below.refl _ _) (Nat.le_refl _) (by simp) ?_; (case hd => rfl); (case hg => rfl); (case hr => first | (go_simp; done) | (go_simp; rfl)); (case hp => exact (Reps.one (show Kd.M (Kd.int .i64) _ _ _ 1 [.int .i64 1] from rfl) (Reps.one (show Kd.M (Kd.int .i64) _ _ _ 1 [.int .i64 1] from rfl) (Reps.one (show Kd.M (Kd.int .i64) _ _ _ 2 [.int .i64 2] from rfl) (Reps.one (show Kd.M (Kd.int .i64) _ _ _ 5 [.int .i64 5] from rfl) (Reps.one (show Kd.M (Kd.int .i64) _ _ _ 15 [.int .i64 15] from rfl) (Reps.one (show Kd.M (Kd.int .i64) _ _ _ 52 [.int .i64 52] from rfl) (Reps.one (show Kd.M (Kd.int .i64) _ _ _ 203 [.int .i64 203] from rfl) (Reps.one (show Kd.M (Kd.int .i64) _ _ _ 877 [.int .i64 877] from rfl) (Reps.none _ _)))))))))); intro v557 w39 ho40 hb hg_ hnew_; clear hg_ hnew_; (first | rw [← Ny556.out] at ho40 | (simp only [Int.reduceToNat] at ho40; rw [← Ny556.out] at ho40)); have n0_ := Aside0.mk (Kd.S_elder' (by (with_reducible repeat (first | apply Kd.S_alloc | apply Kd.S_drewN | apply Kd.S_drew)); exact HO_3.out) (Kd.R_base ho40) hb); have n1_ := Aside0.mk (Kd.S_elder' (by (with_reducible repeat (first | apply Kd.S_alloc | apply Kd.S_drewN | apply Kd.S_drew)); exact HO_42.out) (Kd.R_base ho40) hb); have n2_ := Aside0.mk (Kd.R_lower ho40 (below_size (by repeat (first | (with_reducible first | exact HB.out | apply below_alloc | apply pw_below_drewN | apply below_drew1) | exact HB.out)))); have n3_ := Aside0.mk (below_step (by repeat (first | (with_reducible first | exact HB.out | apply below_alloc | apply pw_below_drewN | apply below_drew1) | exact HB.out)) hb); clear HO_3; clear HO_42; clear HB; have HO_3 := n0_; have HO_42 := n1_; have HO558 := n2_; have HB := n3_; clear n0_ n1_ n2_ n3_; clear hb ho40; obtain ⟨Ao41, co41, eo41⟩ := Kd.R_slice HO558.out; subst eo41; have p559 : 0 ≤ (a0 : Int) := of_decide_eq_true (by first | (with_reducible assumption) | assumption); have q559 : a0 < (y556.length : Int) := of_decide_eq_true (by first | (with_reducible assumption) | assumption); obtain ⟨ad559, e559, hx559_0⟩ := Kd.at_int (Kd.R_reads' HO558.out).2.2 a0 p559 q559; cases e559; replace p559 := eq_true p559; replace q559 := eq_true q559))
                        go_ret
                        exact ⟨by first | rfl | (simp [errW_none, errW_some] <;> rfl) | (simp [*, errW_none, errW_some] <;> rfl), by repeat (first | (with_reducible first | exact HB.out | apply below_alloc | apply pw_below_drewN | apply below_drew1) | exact HB.out)⟩
                      · rw [if_neg c38] at H
                        exact absurd H (by simp)
                    · rw [if_neg c37] at H
                      exact absurd H (by simp)
  · replace c3 := Bool.eq_false_iff.mpr c3
    subst c3
    have H1 : (some false) = some r := by rw [if_neg (show ¬ (false = true) by decide)] at H; exact H
    clear H
    have H := H1
    clear H1
    obtain rfl := Option.some.inj H
    go_enter Try.func9, Try.ntmps9
    go_wp2_with (first | ((with_reducible refine gate_callee (f := 10) rfl ?_); refine goesL_ (some 9) rfl rfl Try.func10 (by kernel_rfl) rfl #[] rfl (by (try simp only [List.map_toArray, List.map_cons, List.map_nil]); first | done | rfl | (simp only [List.length_drop, List.length_take]; rfl)) ?_; (with_reducible refine (scarfjointlaw02_awake.calls k  false _ A2.out).mono ?_); rintro e w42 ⟨rfl, hb⟩; refine ⟨_, rfl, ?_⟩; have n0_ := Aside0.mk (below_step (by repeat (first | (with_reducible first | exact HB.out | apply below_alloc | apply pw_below_drewN | apply below_drew1) | exact HB.out)) hb); clear HB; have HB := n0_; clear n0_; (try clear hb); (try clear hb2); (try clear hk); (try clear hi)))
    go_ret
    exact ⟨by first | rfl | (simp [errW_none, errW_some] <;> rfl) | (simp [*, errW_none, errW_some] <;> rfl), by repeat (first | (with_reducible first | exact HB.out | apply below_alloc | apply pw_below_drewN | apply below_drew1) | exact HB.out)⟩

/-- THE ONE PURE STATEMENT of scarfjointlaw02_PartitionAll: yours. -/
def scarfjointlaw02_PartitionAll.Pure : Prop := ∀ (a0 : Int), (Lit.int .i64 a0).wf = true → ∃ k, scarfjointlaw02_PartitionAll.f k a0 = some true
theorem scarfjointlaw02_PartitionAll.walk (P : scarfjointlaw02_PartitionAll.Pure) (a0 : Int) (w : World) (w0 : (Lit.int .i64 a0).wf = true) :
    Calls Try.prog 9 #[.int .i64 a0] w fun e w' => e = .returned (.bool true) ∧ Below w.heap.size w w' := by
  obtain ⟨k, h⟩ := P a0 w0
  refine (scarfjointlaw02_PartitionAll.calls k a0 true w h).mono ?_
  rintro e w' ⟨rfl, hd⟩
  exact ⟨rfl, hd⟩

end Go.Proofs.Ytjkgjlaockihaaa.P
