-- Written by wip/drive.py of this session's repo over the kit's print.py (with contracts of the session's own): not the print's own text
import Derived.Test.YtklacpdobpkbbaaPx0
import Derived.Test.YtklacpdobpkbbaaPx12
import Derived.Test.YtklacpdobpkbbaaPx13
import Derived.Test.YtklacpdobpkbbaaPx14
import Derived.Test.YtklacpdobpkbbaaPx20
import Derived.Test.YtklacpdobpkbbaaPx21
import Derived.Test.YtklacpdobpkbbaaPx22
namespace Go.Proofs.Ytklacpdobpkbbaa.P
open Go.RowKit Go.Proofs.YtklacpdobpkbbaaW.PrintWords Go.Proofs.YtklacpdobpkbbaaW.PrintLast Go.Proofs.YtklacpdobpkbbaaW.PrintMore
attribute [local go_sem] max2_int min2_int max_two min_two max_three min_three max_four min_four   -- for this text's walks alone
set_option linter.unusedVariables false
set_option linter.unusedSimpArgs false

/-! ### scarfjointlaw06_MorphismCompose: function 6 -/
def scarfjointlaw06_MorphismCompose.f (k : Nat) (l0_0 : List (Int)) (l0_1 : List (S65)) (l1_0 : List (Int)) (l1_1 : List (S65)) (l1_2 : List (Int)) (l1_3 : List (Int)) (l2_0 : List (Int)) (l2_1 : List (S65)) (l2_2 : List (Int)) (l2_3 : List (Int)) : Option (Bool) := ((scarfjointlaw06_awake.f k ).bind fun t7 => (if t7 = true then ((scarfjointlaw06_few.f k l0_0 l0_1 ([(⟨(⟨l1_0, l1_1⟩ : S25), (⟨l1_2, l1_3⟩ : S27)⟩ : S29), (⟨(⟨l2_0, l2_1⟩ : S25), (⟨l2_2, l2_3⟩ : S27)⟩ : S29)] : List (S29))).bind fun t11 => (if t11 = true then ((scarfjointlaw06_copied.f l1_2 l1_3).bind fun bt65 => ((scarfjointlaw06_copied.f l2_2 l2_3).bind fun bt64 => ((morphism_Compose.f k l0_0 l0_1 l1_0 l1_1 l2_0 l2_1 bt65.1 bt65.2 bt64.1 bt64.2).bind fun bt63 => ((scarfjointref06_Compose.f k l0_0 l0_1 l1_0 l1_1 l2_0 l2_1 l1_2 l1_3 l2_2 l2_3).bind fun bt62 => (if bt63.2.2 = bt62.2.2 then ((scarfjointref06_Same.f k bt63.1 bt63.2.1 bt62.1 bt62.2.1).bind fun t59 => (some t59)) else (some false)))))) else ((scarfjointlaw06_awake.f k ).bind fun t69 => (some t69)))) else none))
theorem scarfjointlaw06_MorphismCompose.mono : ∀ a0 a1 a2 a3 a4 a5 a6 a7 a8 a9 k, LeO (scarfjointlaw06_MorphismCompose.f k a0 a1 a2 a3 a4 a5 a6 a7 a8 a9) (scarfjointlaw06_MorphismCompose.f (k + 1) a0 a1 a2 a3 a4 a5 a6 a7 a8 a9) := by
  intro a0 a1 a2 a3 a4 a5 a6 a7 a8 a9 k
  unfold scarfjointlaw06_MorphismCompose.f
  repeat' first
    | (with_reducible exact scarfjointlaw06_awake.mono _)
    | (with_reducible exact scarfjointlaw06_few.mono _ _ _ _)
    | (with_reducible exact morphism_Compose.mono _ _ _ _ _ _ _ _ _ _ _)
    | (with_reducible exact scarfjointref06_Compose.mono _ _ _ _ _ _ _ _ _ _ _)
    | (with_reducible exact scarfjointref06_Same.mono _ _ _ _ _)
    | (with_reducible exact LeO.refl _)
    | (with_reducible exact LeO.none _)
    | (with_reducible refine LeO.ite ?_ ?_)
    | (with_reducible refine LeO.bind ?_ (fun _ => ?_))
    | exact scarfjointlaw06_awake.mono _
    | exact scarfjointlaw06_few.mono _ _ _ _
    | exact morphism_Compose.mono _ _ _ _ _ _ _ _ _ _ _
    | exact scarfjointref06_Compose.mono _ _ _ _ _ _ _ _ _ _ _
    | exact scarfjointref06_Same.mono _ _ _ _ _
    | exact LeO.none _
    | refine LeO.ite ?_ ?_
    | refine LeO.bind ?_ (fun _ => ?_)
def scarfjointlaw06_MorphismCompose.T3 : Bool × List (List Nat × List Nat) := (true, [([], []), ([], []), ([1], [1]), ([], []), ([3], [3]), ([], []), ([5], [5]), ([6], [6]), ([], []), ([8], [8]), ([9, 7], [9]), ([0, 2, 4, 7, 10, 10], [0, 2, 4, 7, 10]), ([11], [11]), ([12], [12]), ([12], [12]), ([], []), ([15, 13, 11, 0, 1, 2, 3, 4, 5, 6, 7, 8, 9, 10, 11, 12, 13, 15], [13, 15]), ([14, 16, 0, 1, 2, 3, 4, 5, 6, 7, 8, 9, 10, 11, 12, 13, 14, 15, 16], [14])])
def scarfjointlaw06_MorphismCompose.B3 : List Nat := [0, 0, 2, 0, 8, 0, 32, 96, 0, 256, 992, 2047, 4095, 8191, 8191, 0, 49151, 131071]
theorem scarfjointlaw06_MorphismCompose.tab3 : rtab .any (opsOf Try.f6 3) = scarfjointlaw06_MorphismCompose.T3 := by kernel_rfl
theorem scarfjointlaw06_MorphismCompose.bits3 : waitsOk scarfjointlaw06_MorphismCompose.T3.2 scarfjointlaw06_MorphismCompose.B3 = true := by kernel_rfl
set_option maxHeartbeats 8000000 in
set_option maxRecDepth 100000 in
theorem scarfjointlaw06_MorphismCompose.calls (k : Nat) (A0_0 : Option Addr) (c0_0 : Nat) (l0_0 : List (Int)) (A0_1 : Option Addr) (c0_1 : Nat) (l0_1 : List (S65)) (A1_0 : Option Addr) (c1_0 : Nat) (l1_0 : List (Int)) (A1_1 : Option Addr) (c1_1 : Nat) (l1_1 : List (S65)) (A1_2 : Option Addr) (c1_2 : Nat) (l1_2 : List (Int)) (A1_3 : Option Addr) (c1_3 : Nat) (l1_3 : List (Int)) (A2_0 : Option Addr) (c2_0 : Nat) (l2_0 : List (Int)) (A2_1 : Option Addr) (c2_1 : Nat) (l2_1 : List (S65)) (A2_2 : Option Addr) (c2_2 : Nat) (l2_2 : List (Int)) (A2_3 : Option Addr) (c2_3 : Nat) (l2_3 : List (Int)) (r : Bool) (w : World) (hr0_0 : Kd.C (Kd.int .i64) w A0_0 l0_0.length l0_0) (hc0_0 : l0_0.length ≤ c0_0) (hr0_1 : Kd.C k65 w A0_1 l0_1.length l0_1) (hc0_1 : l0_1.length ≤ c0_1) (hr1_0 : Kd.C (Kd.int .i64) w A1_0 l1_0.length l1_0) (hc1_0 : l1_0.length ≤ c1_0) (hr1_1 : Kd.C k65 w A1_1 l1_1.length l1_1) (hc1_1 : l1_1.length ≤ c1_1) (hr1_2 : Kd.C (Kd.int .i64) w A1_2 l1_2.length l1_2) (hc1_2 : l1_2.length ≤ c1_2) (hr1_3 : Kd.C (Kd.int .i64) w A1_3 l1_3.length l1_3) (hc1_3 : l1_3.length ≤ c1_3) (hr2_0 : Kd.C (Kd.int .i64) w A2_0 l2_0.length l2_0) (hc2_0 : l2_0.length ≤ c2_0) (hr2_1 : Kd.C k65 w A2_1 l2_1.length l2_1) (hc2_1 : l2_1.length ≤ c2_1) (hr2_2 : Kd.C (Kd.int .i64) w A2_2 l2_2.length l2_2) (hc2_2 : l2_2.length ≤ c2_2) (hr2_3 : Kd.C (Kd.int .i64) w A2_3 l2_3.length l2_3) (hc2_3 : l2_3.length ≤ c2_3) (h : scarfjointlaw06_MorphismCompose.f k l0_0 l0_1 l1_0 l1_1 l1_2 l1_3 l2_0 l2_1 l2_2 l2_3 = some r) :
    Calls Try.prog 6 #[.agg #[.slice A0_0 l0_0.length c0_0, .slice A0_1 l0_1.length c0_1], .agg #[.slice A1_0 l1_0.length c1_0, .slice A1_1 l1_1.length c1_1, .slice A1_2 l1_2.length c1_2, .slice A1_3 l1_3.length c1_3], .agg #[.slice A2_0 l2_0.length c2_0, .slice A2_1 l2_1.length c2_1, .slice A2_2 l2_2.length c2_2, .slice A2_3 l2_3.length c2_3]] w fun e w' => e = .returned (.bool r) ∧ Below w.heap.size w w' := by
  have hu25 := Try.underlying25
  have hu27 := Try.underlying27
  have hu29 := Try.underlying29
  have hu66 := Try.underlying66
  have HR0_0 := Aside0.mk hr0_0
  have HC0_0 := Aside0.mk hc0_0
  clear hr0_0 hc0_0
  have HR0_1 := Aside0.mk hr0_1
  have HC0_1 := Aside0.mk hc0_1
  clear hr0_1 hc0_1
  have HR1_0 := Aside0.mk hr1_0
  have HC1_0 := Aside0.mk hc1_0
  clear hr1_0 hc1_0
  have HR1_1 := Aside0.mk hr1_1
  have HC1_1 := Aside0.mk hc1_1
  clear hr1_1 hc1_1
  have HR1_2 := Aside0.mk hr1_2
  have HC1_2 := Aside0.mk hc1_2
  clear hr1_2 hc1_2
  have HR1_3 := Aside0.mk hr1_3
  have HC1_3 := Aside0.mk hc1_3
  clear hr1_3 hc1_3
  have HR2_0 := Aside0.mk hr2_0
  have HC2_0 := Aside0.mk hc2_0
  clear hr2_0 hc2_0
  have HR2_1 := Aside0.mk hr2_1
  have HC2_1 := Aside0.mk hc2_1
  clear hr2_1 hc2_1
  have HR2_2 := Aside0.mk hr2_2
  have HC2_2 := Aside0.mk hc2_2
  clear hr2_2 hc2_2
  have HR2_3 := Aside0.mk hr2_3
  have HC2_3 := Aside0.mk hc2_3
  clear hr2_3 hc2_3
  have HB := Aside0.mk (Below.refl w.heap.size w)
  unfold scarfjointlaw06_MorphismCompose.f at h
  have HH := Aside0.mk h
  clear h
  go_enter Try.func6, Try.ntmps6
  have HW := Aside0.mk (Below.refl w.heap.size w)
  go_upto_region 1 with (first | ((with_reducible refine gate_dst (N := 3) rfl ?_); refine box_event ?hg (N := 3) ?hd (cs := #[.slice A0_0 l0_0.length c0_0, .slice A0_1 l0_1.length c0_1]) (t := 25) ?hr ?_; (case hd => rfl); (case hg => rfl); (case hr => first | (go_simp; done) | (go_simp; rfl)); intro g1 hg w4 hbox hb; have GWg1 := Aside0.mk (show w.heap.size ≤ g1 from by rw [hg]; exact below_size HW.out); have BKg1 := Aside0.mk hbox; have n_ := Aside0.mk (below_step HW.out hb); clear HW; have HW := n_; clear n_; clear hb hbox hg) | ((with_reducible refine gate_dst (N := 4) rfl ?_); refine box_event ?hg (N := 4) ?hd (cs := #[.slice A1_0 l1_0.length c1_0, .slice A1_1 l1_1.length c1_1, .slice A1_2 l1_2.length c1_2, .slice A1_3 l1_3.length c1_3]) (t := 29) ?hr ?_; (case hd => rfl); (case hg => rfl); (case hr => first | (go_simp; done) | (go_simp; rfl)); intro g2 hg w5 hbox hb; have GWg2 := Aside0.mk (show w.heap.size ≤ g2 from by rw [hg]; exact below_size HW.out); have NBg1_g2 := Aside0.mk (show g1 ≠ g2 from by rw [hg]; exact Nat.ne_of_lt (blk_lt BKg1.out)); replace BKg1 := kb_ BKg1.out hb; have BKg2 := Aside0.mk hbox; have n_ := Aside0.mk (below_step HW.out hb); clear HW; have HW := n_; clear n_; clear hb hbox hg) | ((with_reducible refine gate_dst (N := 5) rfl ?_); refine box_event ?hg (N := 5) ?hd (cs := #[.slice A2_0 l2_0.length c2_0, .slice A2_1 l2_1.length c2_1, .slice A2_2 l2_2.length c2_2, .slice A2_3 l2_3.length c2_3]) (t := 29) ?hr ?_; (case hd => rfl); (case hg => rfl); (case hr => first | (go_simp; done) | (go_simp; rfl)); intro g3 hg w6 hbox hb; have GWg3 := Aside0.mk (show w.heap.size ≤ g3 from by rw [hg]; exact below_size HW.out); have NBg1_g3 := Aside0.mk (show g1 ≠ g3 from by rw [hg]; exact Nat.ne_of_lt (blk_lt BKg1.out)); have NBg2_g3 := Aside0.mk (show g2 ≠ g3 from by rw [hg]; exact Nat.ne_of_lt (blk_lt BKg2.out)); replace BKg1 := kb_ BKg1.out hb; replace BKg2 := kb_ BKg2.out hb; have BKg3 := Aside0.mk hbox; have n_ := Aside0.mk (below_step HW.out hb); clear HW; have HW := n_; clear n_; clear hb hbox hg))
  replace GWg1 := Aside0.mk (Nat.le_trans (below_size HB.out) GWg1.out)
  replace GWg2 := Aside0.mk (Nat.le_trans (below_size HB.out) GWg2.out)
  replace GWg3 := Aside0.mk (Nat.le_trans (below_size HB.out) GWg3.out)
  replace HB := Aside0.mk (below_step HB.out HW.out)
  clear HW
  have H := HH.out
  clear HH
  replace H := Option.bind_eq_some_iff.mp H
  obtain ⟨t7, A_80, H⟩ := H
  (try dsimp only at H)
  have A_8 := Aside0.mk A_80
  clear A_80
  have HH := Aside0.mk H
  clear H
  have H := HH.out
  clear HH
  by_cases c9 : t7 = true
  rotate_left
  · rw [if_neg c9] at H
    cases H
  subst c9
  rw [if_pos rfl] at H
  have HH := Aside0.mk H
  clear H
  have H := HH.out
  clear HH
  replace H := Option.bind_eq_some_iff.mp H
  obtain ⟨t11, A_120, H⟩ := H
  (try dsimp only at H)
  have A_12 := Aside0.mk A_120
  clear A_120
  have HH := Aside0.mk H
  clear H
  have H := HH.out
  clear HH
  by_cases c13 : t11 = true
  · subst c13
    rw [if_pos rfl] at H
    have HH := Aside0.mk H
    clear H
    have HW := Aside0.mk (Below.refl w6.heap.size w6)
    go_upto_region 3 with (first | ((with_reducible refine gate_callee (f := 10) rfl ?_); refine goesL_ (some 11) rfl rfl Try.func10 (by kernel_rfl) rfl #[] rfl (by (try simp only [List.map_toArray, List.map_cons, List.map_nil]); first | done | rfl | (simp only [List.length_drop, List.length_take]; rfl)) ?_; have hb0_ := below_step HB.out HW.out; (with_reducible refine (scarfjointlaw06_awake.calls k true _ A_8.out).mono ?_); rintro e w14 ⟨rfl, hb⟩; refine ⟨_, rfl, ?_⟩; have n_ := Aside0.mk (below_step HW.out hb); clear HW; have HW := n_; clear n_; clear hb hb0_; (try clear gn_); have hl0_ : w14.cell? ⟨g1, 0, none⟩ = some (.slice A0_0 l0_0.length c0_0) := (blk_cell (blk_below BKg1.out HW.out) 0).trans rfl; have hl1_ : w14.cell? ⟨g1, 1, none⟩ = some (.slice A0_1 l0_1.length c0_1) := (blk_cell (blk_below BKg1.out HW.out) 1).trans rfl; have hl2_ : w14.cell? ⟨g2, 0, none⟩ = some (.slice A1_0 l1_0.length c1_0) := (blk_cell (blk_below BKg2.out HW.out) 0).trans rfl; have hl3_ : w14.cell? ⟨g2, 1, none⟩ = some (.slice A1_1 l1_1.length c1_1) := (blk_cell (blk_below BKg2.out HW.out) 1).trans rfl; have hl4_ : w14.cell? ⟨g2, 2, none⟩ = some (.slice A1_2 l1_2.length c1_2) := (blk_cell (blk_below BKg2.out HW.out) 2).trans rfl; have hl5_ : w14.cell? ⟨g2, 3, none⟩ = some (.slice A1_3 l1_3.length c1_3) := (blk_cell (blk_below BKg2.out HW.out) 3).trans rfl; have hl6_ : w14.cell? ⟨g3, 0, none⟩ = some (.slice A2_0 l2_0.length c2_0) := (blk_cell (blk_below BKg3.out HW.out) 0).trans rfl; have hl7_ : w14.cell? ⟨g3, 1, none⟩ = some (.slice A2_1 l2_1.length c2_1) := (blk_cell (blk_below BKg3.out HW.out) 1).trans rfl; have hl8_ : w14.cell? ⟨g3, 2, none⟩ = some (.slice A2_2 l2_2.length c2_2) := (blk_cell (blk_below BKg3.out HW.out) 2).trans rfl; have hl9_ : w14.cell? ⟨g3, 3, none⟩ = some (.slice A2_3 l2_3.length c2_3) := (blk_cell (blk_below BKg3.out HW.out) 3).trans rfl) | ((with_reducible refine gate_dst (N := 17) rfl ?_); (try (refine gate_guard (by rfl) ?_; dsimp only)); refine lit_event ?hg (N := 17) ?hd (cs := #[.slice A1_0 l1_0.length c1_0, .slice A1_1 l1_1.length c1_1, .slice A1_2 l1_2.length c1_2, .slice A1_3 l1_3.length c1_3, .slice A2_0 l2_0.length c2_0, .slice A2_1 l2_1.length c2_1, .slice A2_2 l2_2.length c2_2, .slice A2_3 l2_3.length c2_3]) (t := 29) (n := 2) ?hr ?_; (case hd => rfl); (case hg => rfl); (case hr => first | (go_simp; done) | (go_simp; rfl)); intro g10 hg w15 hbox hb; have GWg10 := Aside0.mk (show w6.heap.size ≤ g10 from by rw [hg]; exact below_size HW.out); have BKg10 := Aside0.mk hbox; have n_ := Aside0.mk (below_step HW.out hb); clear HW; have HW := n_; clear n_; clear hb hbox hg) | ((with_reducible refine gate_callee (f := 11) rfl ?_); (try (refine gate_guard (by rfl) ?_; dsimp only)); refine goesL_ (some 18) rfl rfl Try.func11 (by kernel_rfl) rfl #[.agg #[.slice A0_0 l0_0.length c0_0, .slice A0_1 l0_1.length c0_1], .slice (some ⟨g10, 0, none⟩) ([(⟨(⟨l1_0, l1_1⟩ : S25), (⟨l1_2, l1_3⟩ : S27)⟩ : S29), (⟨(⟨l2_0, l2_1⟩ : S25), (⟨l2_2, l2_3⟩ : S27)⟩ : S29)] : List (S29)).length 2] rfl (by (try simp only [List.map_toArray, List.map_cons, List.map_nil]); first | done | rfl | (simp only [List.length_drop, List.length_take]; rfl)) ?_; have hb0_ := below_step HB.out HW.out; (with_reducible refine (scarfjointlaw06_few.calls k _ _ l0_0 _ _ l0_1 _ _ ([(⟨(⟨l1_0, l1_1⟩ : S25), (⟨l1_2, l1_3⟩ : S27)⟩ : S29), (⟨(⟨l2_0, l2_1⟩ : S25), (⟨l2_2, l2_3⟩ : S27)⟩ : S29)] : List (S29)) true _ ?s1 ?s2 ?s3 ?s4 ?s5 ?s6 A_12.out).mono ?_); (case s1 => exact (Kd.C_below HR0_0.out hb0_)); (case s2 => exact HC0_0.out); (case s3 => exact (Kd.C_below HR0_1.out hb0_)); (case s4 => exact HC0_1.out); (case s5 => exact (lit_C BKg10.out (Reps.c4 (k29_mk _ (⟨(⟨l1_0, l1_1⟩ : S25), (⟨l1_2, l1_3⟩ : S27)⟩ : S29) HC1_0.out (Kd.C_below HR1_0.out hb0_) HC1_1.out (Kd.C_below HR1_1.out hb0_) HC1_2.out (Kd.C_below HR1_2.out hb0_) HC1_3.out (Kd.C_below HR1_3.out hb0_)) (Reps.c4 (k29_mk _ (⟨(⟨l2_0, l2_1⟩ : S25), (⟨l2_2, l2_3⟩ : S27)⟩ : S29) HC2_0.out (Kd.C_below HR2_0.out hb0_) HC2_1.out (Kd.C_below HR2_1.out hb0_) HC2_2.out (Kd.C_below HR2_2.out hb0_) HC2_3.out (Kd.C_below HR2_3.out hb0_)) (Reps.none _ _))))); (case s6 => exact (Nat.le_refl _)); rintro e w16 ⟨rfl, hb⟩; refine ⟨_, rfl, ?_⟩; replace BKg10 := kb_ BKg10.out hb; have n_ := Aside0.mk (below_step HW.out hb); clear HW; have HW := n_; clear n_; clear hb hb0_; (try clear gn_)))
    replace BKg1 := kb_ BKg1.out HW.out
    replace BKg2 := kb_ BKg2.out HW.out
    replace BKg3 := kb_ BKg3.out HW.out
    replace GWg10 := Aside0.mk (Nat.le_trans (below_size HB.out) GWg10.out)
    replace HB := Aside0.mk (below_step HB.out HW.out)
    clear HW
    (try clear hl0_)
    (try clear hl1_)
    (try clear hl2_)
    (try clear hl3_)
    (try clear hl4_)
    (try clear hl5_)
    (try clear hl6_)
    (try clear hl7_)
    (try clear hl8_)
    (try clear hl9_)
    have H := HH.out
    clear HH
    replace H := Option.bind_eq_some_iff.mp H
    obtain ⟨⟨t17, t18⟩, A_230, H⟩ := H
    (try dsimp only at H)
    have A_23 := Aside0.mk A_230
    clear A_230
    have HH := Aside0.mk H
    clear H
    have H := HH.out
    clear HH
    replace H := Option.bind_eq_some_iff.mp H
    obtain ⟨⟨t24, t25⟩, A_300, H⟩ := H
    (try dsimp only at H)
    have A_30 := Aside0.mk A_300
    clear A_300
    have HH := Aside0.mk H
    clear H
    have H := HH.out
    clear HH
    replace H := Option.bind_eq_some_iff.mp H
    obtain ⟨⟨t31, t32, t33⟩, A_380, H⟩ := H
    (try dsimp only at H)
    have A_38 := Aside0.mk A_380
    clear A_380
    have HH := Aside0.mk H
    clear H
    refine start_ (n := 18) (S := fun _ => True) (ds := []) (bm_ 18 0) (by kernel_rfl) rfl (by kernel_rfl) trivial (fun hHeld => ?_)
    clear hHeld
    refine with_tabW scarfjointlaw06_MorphismCompose.tab3 scarfjointlaw06_MorphismCompose.bits3 (fun HT_ HW_ => ?_)
    have hd_ : Below w16.heap.size w16 w16.drew := below_drew1 (Below.refl _ _)
    generalize w16.drew = w40 at hd_ ⊢
    replace BKg1 := kb_ BKg1.out hd_
    replace BKg2 := kb_ BKg2.out hd_
    replace BKg3 := kb_ BKg3.out hd_
    replace BKg10 := kb_ BKg10.out hd_
    replace HB := Aside0.mk (below_step HB.out hd_)
    clear hd_
    refine pw_ (i := 1) (N := some 24) (bm_ 18 2) rfl HT_.out ?_
    refine pw_ (i := 3) (N := some 26) (bm_ 18 10) rfl HT_.out ?_
    refine pw_ (i := 5) (N := some 28) (bm_ 18 42) rfl HT_.out ?_
    refine pw_ (i := 8) (N := some 31) (bm_ 18 298) rfl HT_.out ?_
    refine inv_at [0, 2, 4, 6, 7, 9, 10, 11, 12, 13, 14, 15, 16, 17] (fun a0_ b a w' => ∃ (v_t17 : Value) (v_t18 : Value) (v_t24 : Value) (v_t25 : Value) (v_t31 : Value) (v_t32 : Value) (g39 : Nat) (m12_ : Value) (m13_ : Value), a = putSel a0_ b [(0, 23, .agg #[.slice A0_0 l0_0.length c0_0, .slice A0_1 l0_1.length c0_1]), (2, 25, .agg #[.slice A1_0 l1_0.length c1_0, .slice A1_1 l1_1.length c1_1]), (4, 27, .agg #[.slice A2_0 l2_0.length c2_0, .slice A2_1 l2_1.length c2_1]), (6, 29, .agg #[.slice A1_2 l1_2.length c1_2, .slice A1_3 l1_3.length c1_3]), (7, 30, .agg #[v_t17, v_t18]), (9, 32, .agg #[.slice A2_2 l2_2.length c2_2, .slice A2_3 l2_3.length c2_3]), (10, 33, .agg #[v_t24, v_t25]), (11, 34, .tuple #[.agg #[v_t31, v_t32], .int .i64 t33]), (12, 22, m12_), (13, 35, m13_), (14, 36, .int .i64 t33), (15, 7, .pointer (some ⟨g39, 0, none⟩)), (17, 8, .int .i64 t33)] ∧ (Below w40.heap.size w40 w') ∧ (b 7 = true → Sc [25, 27, 29] (fun v' => (Kd.R (Kd.int .i64) 3 v' w.heap.size (fun _ => True) v_t17 t17) ∧ Kd.R (Kd.int .i64) 3 v' w.heap.size (fun _ => True) v_t18 t18) w') ∧ (b 10 = true → Sc [25, 27, 29] (fun v' => (Kd.R (Kd.int .i64) 3 v' w.heap.size (fun _ => True) v_t24 t24) ∧ Kd.R (Kd.int .i64) 3 v' w.heap.size (fun _ => True) v_t25 t25) w') ∧ (b 11 = true → Sc [25, 27, 29] (fun v' => (Kd.R (Kd.int .i64) 3 v' w.heap.size (fun _ => True) v_t31 t31) ∧ Kd.R (Kd.int .i64) 3 v' w.heap.size (fun _ => True) v_t32 t32) w') ∧ (b 15 = true → b 16 = false → w'.heap[g39]? = some (.cells #[.slice none 0 0, .slice none 0 0] 27 (0, 0))) ∧ (b 15 = true → w40.heap.size ≤ g39) ∧ (b 16 = true → w'.heap[g39]? = some (.cells #[v_t31, v_t32] 27 (0, 0))) ∧ (b 12 = true → (m12_ : Value) = .tuple #[.agg #[v_t31, v_t32], .int .i64 t33]) ∧ (b 13 = true → (m13_ : Value) = .agg #[v_t31, v_t32])) HT_.out HW_.out (by kernel_rfl) (by kernel_rfl) ?_ ?_ ?_
    · exact ⟨.bool false, .bool false, .bool false, .bool false, .bool false, .bool false, 0, .bool false, .bool false, by simp only [putSel, Bool.false_eq_true, if_false], Below.refl _ _, fun h_ => absurd h_ (by decide), fun h_ => absurd h_ (by decide), fun h_ => absurd h_ (by decide), fun h_ => absurd h_ (by decide), fun h_ => absurd h_ (by decide), fun h_ => absurd h_ (by decide), fun h_ => absurd h_ (by decide), fun h_ => absurd h_ (by decide)⟩
    · skip
      refine steps_cons ?_ ?_
      · rintro b a w' ⟨v_t17, v_t18, v_t24, v_t25, v_t31, v_t32, g39, m12_, m13_, ha, QQ⟩ hb_ hon hoff
        refine ⟨_, rfl, fun K hK => ?_⟩
        have e3 : a.tmps[3]? = some (.pointer (some ⟨g1, 0, none⟩)) := by rw [ha]; exact (putSel_off rfl).trans rfl
        replace ha := Aside0.mk ha
        have hc0_ : w'.cell? ⟨g1, 0, none⟩ = some (.slice A0_0 l0_0.length c0_0) := (blk_cell (blk_below BKg1.out QQ.1) 0).trans rfl
        have hc1_ : w'.cell? ⟨g1, 1, none⟩ = some (.slice A0_1 l0_1.length c0_1) := (blk_cell (blk_below BKg1.out QQ.1) 1).trans rfl
        refine value_ (w1 := w') (v := .agg #[.slice A0_0 l0_0.length c0_0, .slice A0_1 l0_1.length c0_1]) (by rfl) rfl (by go_simp; (try simp only [i64_w]); try rfl) ?_
        exact hK.out _ _ ⟨v_t17, v_t18, v_t24, v_t25, v_t31, v_t32, g39, m12_, m13_, (by rw [ha.out]; exact putSel_upk 0 hb_ rfl rfl rfl), QQ⟩
      refine steps_cons ?_ ?_
      · rintro b a w' ⟨v_t17, v_t18, v_t24, v_t25, v_t31, v_t32, g39, m12_, m13_, ha, QQ⟩ hb_ hon hoff
        refine ⟨_, rfl, fun K hK => ?_⟩
        have e24 : a.tmps[24]? = some (.pointer (some ⟨g2, 0, none⟩)) := by rw [ha]; exact (putSel_off rfl).trans rfl
        replace ha := Aside0.mk ha
        have hc0_ : w'.cell? ⟨g2, 0, none⟩ = some (.slice A1_0 l1_0.length c1_0) := (blk_cell (blk_below BKg2.out QQ.1) 0).trans rfl
        have hc1_ : w'.cell? ⟨g2, 1, none⟩ = some (.slice A1_1 l1_1.length c1_1) := (blk_cell (blk_below BKg2.out QQ.1) 1).trans rfl
        refine value_ (w1 := w') (v := .agg #[.slice A1_0 l1_0.length c1_0, .slice A1_1 l1_1.length c1_1]) (by rfl) rfl (by go_simp; (try simp only [i64_w]); try rfl) ?_
        exact hK.out _ _ ⟨v_t17, v_t18, v_t24, v_t25, v_t31, v_t32, g39, m12_, m13_, (by rw [ha.out]; exact putSel_upk 1 hb_ rfl rfl rfl), QQ⟩
      refine steps_cons ?_ ?_
      · rintro b a w' ⟨v_t17, v_t18, v_t24, v_t25, v_t31, v_t32, g39, m12_, m13_, ha, QQ⟩ hb_ hon hoff
        refine ⟨_, rfl, fun K hK => ?_⟩
        have e26 : a.tmps[26]? = some (.pointer (some ⟨g3, 0, none⟩)) := by rw [ha]; exact (putSel_off rfl).trans rfl
        replace ha := Aside0.mk ha
        have hc0_ : w'.cell? ⟨g3, 0, none⟩ = some (.slice A2_0 l2_0.length c2_0) := (blk_cell (blk_below BKg3.out QQ.1) 0).trans rfl
        have hc1_ : w'.cell? ⟨g3, 1, none⟩ = some (.slice A2_1 l2_1.length c2_1) := (blk_cell (blk_below BKg3.out QQ.1) 1).trans rfl
        refine value_ (w1 := w') (v := .agg #[.slice A2_0 l2_0.length c2_0, .slice A2_1 l2_1.length c2_1]) (by rfl) rfl (by go_simp; (try simp only [i64_w]); try rfl) ?_
        exact hK.out _ _ ⟨v_t17, v_t18, v_t24, v_t25, v_t31, v_t32, g39, m12_, m13_, (by rw [ha.out]; exact putSel_upk 2 hb_ rfl rfl rfl), QQ⟩
      refine steps_cons ?_ ?_
      · rintro b a w' ⟨v_t17, v_t18, v_t24, v_t25, v_t31, v_t32, g39, m12_, m13_, ha, QQ⟩ hb_ hon hoff
        refine ⟨_, rfl, fun K hK => ?_⟩
        have e28 : a.tmps[28]? = some (.pointer (some ⟨g2, 2, none⟩)) := by rw [ha]; exact (putSel_off rfl).trans rfl
        replace ha := Aside0.mk ha
        have hc0_ : w'.cell? ⟨g2, 2, none⟩ = some (.slice A1_2 l1_2.length c1_2) := (blk_cell (blk_below BKg2.out QQ.1) 2).trans rfl
        have hc1_ : w'.cell? ⟨g2, 3, none⟩ = some (.slice A1_3 l1_3.length c1_3) := (blk_cell (blk_below BKg2.out QQ.1) 3).trans rfl
        refine value_ (w1 := w') (v := .agg #[.slice A1_2 l1_2.length c1_2, .slice A1_3 l1_3.length c1_3]) (by rfl) rfl (by go_simp; (try simp only [i64_w]); try rfl) ?_
        exact hK.out _ _ ⟨v_t17, v_t18, v_t24, v_t25, v_t31, v_t32, g39, m12_, m13_, (by rw [ha.out]; exact putSel_upk 3 hb_ rfl rfl rfl), QQ⟩
      refine steps_cons ?_ ?_
      · rintro b a w' ⟨v_t17, v_t18, v_t24, v_t25, v_t31, v_t32, g39, m12_, m13_, ha, Q_HW, Q_S7, Q_S10, Q_S11, Q_K_g39, Q_GW_g39, Q_KE_g39, Q_X12_, Q_X13_⟩ hb_ hon hoff
        refine ⟨_, rfl, fun K hK => ?_⟩
        have e29 : a.tmps[29]? = some (.agg #[.slice A1_2 l1_2.length c1_2, .slice A1_3 l1_3.length c1_3]) := by rw [ha]; exact putSel_on (e := (6, 29, .agg #[.slice A1_2 l1_2.length c1_2, .slice A1_3 l1_3.length c1_3])) 3 rfl rfl (hon 6 (by kernel_rfl)) rfl
        replace ha := Aside0.mk ha
        have hb0_ := below_step HB.out Q_HW
        refine goes_ Try.func13 (by kernel_rfl) rfl #[.agg #[.slice A1_2 l1_2.length c1_2, .slice A1_3 l1_3.length c1_3]] (by rfl) rfl rfl (by first | (simp only [List.map_toArray, List.map_cons, List.map_nil, Act.eval, Array.getD_eq_getD_getElem?, Option.getD_some, e29]; done) | (simp only [List.map_toArray, List.map_cons, List.map_nil, Act.eval, Array.getD_eq_getD_getElem?, Option.getD_some, e29]; rfl)) ?_
        (with_reducible refine (scarfjointlaw06_copied.calls _ _ l1_2 _ _ l1_3 t17 t18 _ ?s1 ?s2 ?s3 ?s4 A_23.out).mono ?_)
        (case s1 => exact (Kd.C_below HR1_2.out hb0_))
        (case s2 => exact HC1_2.out)
        (case s3 => exact (Kd.C_below HR1_3.out hb0_))
        (case s4 => exact HC1_3.out)
        rintro e w41 ⟨u0_, u1_, rfl, ho0, ho1, hb⟩
        refine ⟨_, rfl, ?_⟩
        exact hK.out _ _ ⟨u0_, u1_, v_t24, v_t25, v_t31, v_t32, g39, m12_, m13_, (by rw [ha.out]; exact putSel_upk 4 hb_ rfl rfl rfl), below_step Q_HW hb, fun _ => ((Sc.row (T := [25, 27, 29]) (b' := w.heap.size) ho0 (below_size hb0_)).and (Sc.row (T := [25, 27, 29]) (b' := w.heap.size) ho1 (below_size hb0_))), fun h0_ => absurd ((hoff 10 (by kernel_rfl)).symm.trans h0_) (by decide), fun h0_ => absurd ((hoff 11 (by kernel_rfl)).symm.trans h0_) (by decide), fun h0_ h1_ => blk_below (Q_K_g39 h0_ h1_) hb, Q_GW_g39, fun h0_ => absurd ((hoff 16 (by kernel_rfl)).symm.trans h0_) (by decide), fun h0_ => absurd ((hoff 12 (by kernel_rfl)).symm.trans h0_) (by decide), fun h0_ => absurd ((hoff 13 (by kernel_rfl)).symm.trans h0_) (by decide)⟩
      refine steps_cons ?_ ?_
      · rintro b a w' ⟨v_t17, v_t18, v_t24, v_t25, v_t31, v_t32, g39, m12_, m13_, ha, QQ⟩ hb_ hon hoff
        refine ⟨_, rfl, fun K hK => ?_⟩
        have e31 : a.tmps[31]? = some (.pointer (some ⟨g3, 2, none⟩)) := by rw [ha]; exact (putSel_off rfl).trans rfl
        replace ha := Aside0.mk ha
        have hc0_ : w'.cell? ⟨g3, 2, none⟩ = some (.slice A2_2 l2_2.length c2_2) := (blk_cell (blk_below BKg3.out QQ.1) 2).trans rfl
        have hc1_ : w'.cell? ⟨g3, 3, none⟩ = some (.slice A2_3 l2_3.length c2_3) := (blk_cell (blk_below BKg3.out QQ.1) 3).trans rfl
        refine value_ (w1 := w') (v := .agg #[.slice A2_2 l2_2.length c2_2, .slice A2_3 l2_3.length c2_3]) (by rfl) rfl (by go_simp; (try simp only [i64_w]); try rfl) ?_
        exact hK.out _ _ ⟨v_t17, v_t18, v_t24, v_t25, v_t31, v_t32, g39, m12_, m13_, (by rw [ha.out]; exact putSel_upk 5 hb_ rfl rfl rfl), QQ⟩
      refine steps_cons ?_ ?_
      · rintro b a w' ⟨v_t17, v_t18, v_t24, v_t25, v_t31, v_t32, g39, m12_, m13_, ha, Q_HW, Q_S7, Q_S10, Q_S11, Q_K_g39, Q_GW_g39, Q_KE_g39, Q_X12_, Q_X13_⟩ hb_ hon hoff
        refine ⟨_, rfl, fun K hK => ?_⟩
        have e32 : a.tmps[32]? = some (.agg #[.slice A2_2 l2_2.length c2_2, .slice A2_3 l2_3.length c2_3]) := by rw [ha]; exact putSel_on (e := (9, 32, .agg #[.slice A2_2 l2_2.length c2_2, .slice A2_3 l2_3.length c2_3])) 5 rfl rfl (hon 9 (by kernel_rfl)) rfl
        replace ha := Aside0.mk ha
        have hb0_ := below_step HB.out Q_HW
        refine goes_ Try.func13 (by kernel_rfl) rfl #[.agg #[.slice A2_2 l2_2.length c2_2, .slice A2_3 l2_3.length c2_3]] (by rfl) rfl rfl (by first | (simp only [List.map_toArray, List.map_cons, List.map_nil, Act.eval, Array.getD_eq_getD_getElem?, Option.getD_some, e32]; done) | (simp only [List.map_toArray, List.map_cons, List.map_nil, Act.eval, Array.getD_eq_getD_getElem?, Option.getD_some, e32]; rfl)) ?_
        (with_reducible refine (scarfjointlaw06_copied.calls _ _ l2_2 _ _ l2_3 t24 t25 _ ?s1 ?s2 ?s3 ?s4 A_30.out).mono ?_)
        (case s1 => exact (Kd.C_below HR2_2.out hb0_))
        (case s2 => exact HC2_2.out)
        (case s3 => exact (Kd.C_below HR2_3.out hb0_))
        (case s4 => exact HC2_3.out)
        rintro e w42 ⟨u0_, u1_, rfl, ho0, ho1, hb⟩
        refine ⟨_, rfl, ?_⟩
        exact hK.out _ _ ⟨v_t17, v_t18, u0_, u1_, v_t31, v_t32, g39, m12_, m13_, (by rw [ha.out]; exact putSel_upk 6 hb_ rfl rfl rfl), below_step Q_HW hb, fun h0_ => (Q_S7 h0_).step (Calm.below hb), fun _ => ((Sc.row (T := [25, 27, 29]) (b' := w.heap.size) ho0 (below_size hb0_)).and (Sc.row (T := [25, 27, 29]) (b' := w.heap.size) ho1 (below_size hb0_))), fun h0_ => absurd ((hoff 11 (by kernel_rfl)).symm.trans h0_) (by decide), fun h0_ h1_ => blk_below (Q_K_g39 h0_ h1_) hb, Q_GW_g39, fun h0_ => absurd ((hoff 16 (by kernel_rfl)).symm.trans h0_) (by decide), fun h0_ => absurd ((hoff 12 (by kernel_rfl)).symm.trans h0_) (by decide), fun h0_ => absurd ((hoff 13 (by kernel_rfl)).symm.trans h0_) (by decide)⟩
      refine steps_cons ?_ ?_
      · rintro b a w' ⟨v_t17, v_t18, v_t24, v_t25, v_t31, v_t32, g39, m12_, m13_, ha, Q_HW, Q_S7, Q_S10, Q_S11, Q_K_g39, Q_GW_g39, Q_KE_g39, Q_X12_, Q_X13_⟩ hb_ hon hoff
        refine ⟨_, rfl, fun K hK => ?_⟩
        have e23 : a.tmps[23]? = some (.agg #[.slice A0_0 l0_0.length c0_0, .slice A0_1 l0_1.length c0_1]) := by rw [ha]; exact putSel_on (e := (0, 23, .agg #[.slice A0_0 l0_0.length c0_0, .slice A0_1 l0_1.length c0_1])) 0 rfl rfl (hon 0 (by kernel_rfl)) rfl
        have e25 : a.tmps[25]? = some (.agg #[.slice A1_0 l1_0.length c1_0, .slice A1_1 l1_1.length c1_1]) := by rw [ha]; exact putSel_on (e := (2, 25, .agg #[.slice A1_0 l1_0.length c1_0, .slice A1_1 l1_1.length c1_1])) 1 rfl rfl (hon 2 (by kernel_rfl)) rfl
        have e27 : a.tmps[27]? = some (.agg #[.slice A2_0 l2_0.length c2_0, .slice A2_1 l2_1.length c2_1]) := by rw [ha]; exact putSel_on (e := (4, 27, .agg #[.slice A2_0 l2_0.length c2_0, .slice A2_1 l2_1.length c2_1])) 2 rfl rfl (hon 4 (by kernel_rfl)) rfl
        have e30 : a.tmps[30]? = some (.agg #[v_t17, v_t18]) := by rw [ha]; exact putSel_on (e := (7, 30, .agg #[v_t17, v_t18])) 4 rfl rfl (hon 7 (by kernel_rfl)) rfl
        have e33 : a.tmps[33]? = some (.agg #[v_t24, v_t25]) := by rw [ha]; exact putSel_on (e := (10, 33, .agg #[v_t24, v_t25])) 6 rfl rfl (hon 10 (by kernel_rfl)) rfl
        replace ha := Aside0.mk ha
        obtain ⟨A19, c20, rfl⟩ := Kd.R_slice ((Q_S7 (hon 7 (by kernel_rfl))).now).1
        obtain ⟨A21, c22, rfl⟩ := Kd.R_slice ((Q_S7 (hon 7 (by kernel_rfl))).now).2
        obtain ⟨A26, c27, rfl⟩ := Kd.R_slice ((Q_S10 (hon 10 (by kernel_rfl))).now).1
        obtain ⟨A28, c29, rfl⟩ := Kd.R_slice ((Q_S10 (hon 10 (by kernel_rfl))).now).2
        have hb0_ := below_step HB.out Q_HW
        refine goes_ Try.func29 (by kernel_rfl) rfl #[.agg #[.slice A0_0 l0_0.length c0_0, .slice A0_1 l0_1.length c0_1], .agg #[.slice A1_0 l1_0.length c1_0, .slice A1_1 l1_1.length c1_1], .agg #[.slice A2_0 l2_0.length c2_0, .slice A2_1 l2_1.length c2_1], .agg #[.slice A19 t17.length c20, .slice A21 t18.length c22], .agg #[.slice A26 t24.length c27, .slice A28 t25.length c29]] (by rfl) rfl rfl (by first | (simp only [List.map_toArray, List.map_cons, List.map_nil, Act.eval, Array.getD_eq_getD_getElem?, Option.getD_some, e23, e25, e27, e30, e33]; done) | (simp only [List.map_toArray, List.map_cons, List.map_nil, Act.eval, Array.getD_eq_getD_getElem?, Option.getD_some, e23, e25, e27, e30, e33]; rfl)) ?_
        (with_reducible refine (morphism_Compose.calls k _ _ l0_0 _ _ l0_1 _ _ l1_0 _ _ l1_1 _ _ l2_0 _ _ l2_1 _ _ t17 _ _ t18 _ _ t24 _ _ t25 t31 t32 t33 _ ?s1 ?s2 ?s3 ?s4 ?s5 ?s6 ?s7 ?s8 ?s9 ?s10 ?s11 ?s12 ?s13 ?s14 ?s15 ?s16 ?s17 ?s18 ?s19 ?s20 A_38.out).mono ?_)
        (case s1 => exact (Kd.C_below HR0_0.out hb0_))
        (case s2 => exact HC0_0.out)
        (case s3 => exact (Kd.C_below HR0_1.out hb0_))
        (case s4 => exact HC0_1.out)
        (case s5 => exact (Kd.C_below HR1_0.out hb0_))
        (case s6 => exact HC1_0.out)
        (case s7 => exact (Kd.C_below HR1_1.out hb0_))
        (case s8 => exact HC1_1.out)
        (case s9 => exact (Kd.C_below HR2_0.out hb0_))
        (case s10 => exact HC2_0.out)
        (case s11 => exact (Kd.C_below HR2_1.out hb0_))
        (case s12 => exact HC2_1.out)
        (case s13 => exact (Kd.R_reads' (Sc.now (Q_S7 (hon 7 (by kernel_rfl)))).1).2.2)
        (case s14 => exact (Kd.R_reads' (Sc.now (Q_S7 (hon 7 (by kernel_rfl)))).1).2.1)
        (case s15 => exact (Kd.R_reads' (Sc.now (Q_S7 (hon 7 (by kernel_rfl)))).2).2.2)
        (case s16 => exact (Kd.R_reads' (Sc.now (Q_S7 (hon 7 (by kernel_rfl)))).2).2.1)
        (case s17 => exact (Kd.R_reads' (Sc.now (Q_S10 (hon 10 (by kernel_rfl)))).1).2.2)
        (case s18 => exact (Kd.R_reads' (Sc.now (Q_S10 (hon 10 (by kernel_rfl)))).1).2.1)
        (case s19 => exact (Kd.R_reads' (Sc.now (Q_S10 (hon 10 (by kernel_rfl)))).2).2.2)
        (case s20 => exact (Kd.R_reads' (Sc.now (Q_S10 (hon 10 (by kernel_rfl)))).2).2.1)
        rintro e w43 ⟨u0_, u1_, rfl, ho0, ho1, hb⟩
        refine ⟨_, rfl, ?_⟩
        exact hK.out _ _ ⟨(.slice A19 t17.length c20), (.slice A21 t18.length c22), (.slice A26 t24.length c27), (.slice A28 t25.length c29), u0_, u1_, g39, m12_, m13_, (by rw [ha.out]; exact putSel_upk 7 hb_ rfl rfl rfl), below_step Q_HW hb, fun h0_ => (Q_S7 h0_).step (Calm.below hb), fun h0_ => (Q_S10 h0_).step (Calm.below hb), fun _ => ((Sc.row (T := [25, 27, 29]) (b' := w.heap.size) ho0 (below_size hb0_)).and (Sc.row (T := [25, 27, 29]) (b' := w.heap.size) ho1 (below_size hb0_))), fun h0_ h1_ => blk_below (Q_K_g39 h0_ h1_) hb, Q_GW_g39, fun h0_ => absurd ((hoff 16 (by kernel_rfl)).symm.trans h0_) (by decide), fun h0_ => absurd ((hoff 12 (by kernel_rfl)).symm.trans h0_) (by decide), fun h0_ => absurd ((hoff 13 (by kernel_rfl)).symm.trans h0_) (by decide)⟩
      refine steps_cons ?_ ?_
      · rintro b a w' ⟨v_t17, v_t18, v_t24, v_t25, v_t31, v_t32, g39, m12_, m13_, ha, Q_HW, Q_S7, Q_S10, Q_S11, Q_K_g39, Q_GW_g39, Q_KE_g39, Q_X12_, Q_X13_⟩ hb_ hon hoff
        refine ⟨_, rfl, fun K hK => ?_⟩
        have e34 : a.tmps[34]? = some (.tuple #[.agg #[v_t31, v_t32], .int .i64 t33]) := by rw [ha]; exact putSel_on (e := (11, 34, .tuple #[.agg #[v_t31, v_t32], .int .i64 t33])) 7 rfl rfl (hon 11 (by kernel_rfl)) rfl
        replace ha := Aside0.mk ha
        refine value_ (w1 := w') (v := .tuple #[.agg #[v_t31, v_t32], .int .i64 t33]) (by rfl) rfl (by go_simp; (try simp only [i64_w]); try rfl) ?_
        exact hK.out _ _ ⟨v_t17, v_t18, v_t24, v_t25, v_t31, v_t32, g39, (.tuple #[.agg #[v_t31, v_t32], .int .i64 t33]), m13_, (by rw [ha.out]; exact putSel_upk 8 hb_ rfl rfl rfl), Q_HW, Q_S7, Q_S10, Q_S11, Q_K_g39, Q_GW_g39, fun h0_ => absurd ((hoff 16 (by kernel_rfl)).symm.trans h0_) (by decide), fun _ => rfl, fun h0_ => absurd ((hoff 13 (by kernel_rfl)).symm.trans h0_) (by decide)⟩
      refine steps_cons ?_ ?_
      · rintro b a w' ⟨v_t17, v_t18, v_t24, v_t25, v_t31, v_t32, g39, m12_, m13_, ha, Q_HW, Q_S7, Q_S10, Q_S11, Q_K_g39, Q_GW_g39, Q_KE_g39, Q_X12_, Q_X13_⟩ hb_ hon hoff
        refine ⟨_, rfl, fun K hK => ?_⟩
        have e22 : a.tmps[22]? = some (m12_) := by rw [ha]; exact putSel_on (e := (12, 22, m12_)) 8 rfl rfl (hon 12 (by kernel_rfl)) rfl
        rw [Q_X12_ (hon 12 (by kernel_rfl))] at e22
        replace ha := Aside0.mk ha
        refine value_ (w1 := w') (v := .agg #[v_t31, v_t32]) (by rfl) rfl (by go_simp; (try simp only [i64_w]); try rfl) ?_
        exact hK.out _ _ ⟨v_t17, v_t18, v_t24, v_t25, v_t31, v_t32, g39, m12_, (.agg #[v_t31, v_t32]), (by rw [ha.out]; exact putSel_upk 9 hb_ rfl rfl rfl), Q_HW, Q_S7, Q_S10, Q_S11, Q_K_g39, Q_GW_g39, fun h0_ => absurd ((hoff 16 (by kernel_rfl)).symm.trans h0_) (by decide), Q_X12_, fun _ => rfl⟩
      refine steps_cons ?_ ?_
      · rintro b a w' ⟨v_t17, v_t18, v_t24, v_t25, v_t31, v_t32, g39, m12_, m13_, ha, Q_HW, Q_S7, Q_S10, Q_S11, Q_K_g39, Q_GW_g39, Q_KE_g39, Q_X12_, Q_X13_⟩ hb_ hon hoff
        refine ⟨_, rfl, fun K hK => ?_⟩
        have e22 : a.tmps[22]? = some (m12_) := by rw [ha]; exact putSel_on (e := (12, 22, m12_)) 8 rfl rfl (hon 12 (by kernel_rfl)) rfl
        rw [Q_X12_ (hon 12 (by kernel_rfl))] at e22
        replace ha := Aside0.mk ha
        refine value_ (w1 := w') (v := .int .i64 t33) (by rfl) rfl (by go_simp; (try simp only [i64_w]); try rfl) ?_
        exact hK.out _ _ ⟨v_t17, v_t18, v_t24, v_t25, v_t31, v_t32, g39, m12_, m13_, (by rw [ha.out]; exact putSel_upk 10 hb_ rfl rfl rfl), Q_HW, Q_S7, Q_S10, Q_S11, Q_K_g39, Q_GW_g39, Q_KE_g39, Q_X12_, Q_X13_⟩
      refine steps_cons ?_ ?_
      · rintro b a w' ⟨v_t17, v_t18, v_t24, v_t25, v_t31, v_t32, g39, m12_, m13_, ha, Q_HW, Q_S7, Q_S10, Q_S11, Q_K_g39, Q_GW_g39, Q_KE_g39, Q_X12_, Q_X13_⟩ hb_ hon hoff
        refine ⟨_, rfl, fun K hK => ?_⟩
        replace ha := Aside0.mk ha
        refine box_step ?hg (N := 7) ?hd (cs := #[.slice none 0 0, .slice none 0 0]) (t := 27) ?hr ?_; (case hd => rfl); (case hg => rfl); (case hr => first | (go_simp; done) | (go_simp; rfl))
        intro g_ hg w44 hbox hb
        exact hK.out _ _ ⟨v_t17, v_t18, v_t24, v_t25, v_t31, v_t32, g_, m12_, m13_, (by rw [ha.out]; exact putSel_upk 11 hb_ rfl rfl rfl), below_step Q_HW hb, fun h0_ => (Q_S7 h0_).step (Calm.below hb), fun h0_ => (Q_S10 h0_).step (Calm.below hb), fun h0_ => (Q_S11 h0_).step (Calm.below hb), fun _ _ => hbox, fun _ => (by rw [hg]; exact below_size Q_HW), fun h0_ => absurd ((hoff 16 (by kernel_rfl)).symm.trans h0_) (by decide), Q_X12_, Q_X13_⟩
      refine steps_cons ?_ ?_
      · rintro b a w' ⟨v_t17, v_t18, v_t24, v_t25, v_t31, v_t32, g39, m12_, m13_, ha, Q_HW, Q_S7, Q_S10, Q_S11, Q_K_g39, Q_GW_g39, Q_KE_g39, Q_X12_, Q_X13_⟩ hb_ hon hoff
        refine ⟨_, rfl, fun K hK => ?_⟩
        have e7 : a.tmps[7]? = some (.pointer (some ⟨g39, 0, none⟩)) := by rw [ha]; exact putSel_on (e := (15, 7, .pointer (some ⟨g39, 0, none⟩))) 11 rfl rfl (hon 15 (by kernel_rfl)) rfl
        have e35 : a.tmps[35]? = some (m13_) := by rw [ha]; exact putSel_on (e := (13, 35, m13_)) 9 rfl rfl (hon 13 (by kernel_rfl)) rfl
        rw [Q_X13_ (hon 13 (by kernel_rfl))] at e35
        replace ha := Aside0.mk ha
        obtain ⟨A34, c35, rfl⟩ := Kd.R_slice ((Q_S11 (hon 11 (by kernel_rfl))).now).1
        obtain ⟨A36, c37, rfl⟩ := Kd.R_slice ((Q_S11 (hon 11 (by kernel_rfl))).now).2
        have hs0_ : w'.cell? ⟨g39, 0, none⟩ = some (.slice none 0 0) := (blk_cell (Q_K_g39 (hon 15 (by kernel_rfl)) hb_) 0).trans rfl
        have hf0_ := blk_frozen (Q_K_g39 (hon 15 (by kernel_rfl)) hb_) 0
        have hs1_ : w'.cell? ⟨g39, 1, none⟩ = some (.slice none 0 0) := (blk_cell (Q_K_g39 (hon 15 (by kernel_rfl)) hb_) 1).trans rfl
        have hf1_ := blk_frozen (Q_K_g39 (hon 15 (by kernel_rfl)) hb_) 1
        refine skip_ (w1 := ((w'.setCell ⟨g39, 0, none⟩ (.slice A34 t31.length c35)).setCell ⟨g39, 1, none⟩ (.slice A36 t32.length c37))) (by rfl) rfl (by first | (go_simp; done) | (go_simp; rfl)) ?_
        exact hK.out _ _ ⟨v_t17, v_t18, v_t24, v_t25, (.slice A34 t31.length c35), (.slice A36 t32.length c37), g39, m12_, m13_, (by rw [ha.out]; exact putSel_none (v := undef) rfl), sets_below (Q_GW_g39 (hon 15 (by kernel_rfl))) [.slice A34 t31.length c35, .slice A36 t32.length c37] 0 Q_HW, fun h0_ => (Q_S7 h0_).step (sets_calm (T := [25, 27, 29]) (by decide) [.slice A34 t31.length c35, .slice A36 t32.length c37] 0 (Q_K_g39 (hon 15 (by kernel_rfl)) hb_)), fun h0_ => (Q_S10 h0_).step (sets_calm (T := [25, 27, 29]) (by decide) [.slice A34 t31.length c35, .slice A36 t32.length c37] 0 (Q_K_g39 (hon 15 (by kernel_rfl)) hb_)), fun h0_ => (Q_S11 h0_).step (sets_calm (T := [25, 27, 29]) (by decide) [.slice A34 t31.length c35, .slice A36 t32.length c37] 0 (Q_K_g39 (hon 15 (by kernel_rfl)) hb_)), fun _ h1_ => absurd ((up_self b 16).symm.trans h1_) (by decide), Q_GW_g39, fun _ => sets_blk [.slice A34 t31.length c35, .slice A36 t32.length c37] 0 (Q_K_g39 (hon 15 (by kernel_rfl)) hb_), Q_X12_, Q_X13_⟩
      refine steps_cons ?_ ?_
      · rintro b a w' ⟨v_t17, v_t18, v_t24, v_t25, v_t31, v_t32, g39, m12_, m13_, ha, QQ⟩ hb_ hon hoff
        refine ⟨_, rfl, fun K hK => ?_⟩
        have e36 : a.tmps[36]? = some (.int .i64 t33) := by rw [ha]; exact putSel_on (e := (14, 36, .int .i64 t33)) 10 rfl rfl (hon 14 (by kernel_rfl)) rfl
        replace ha := Aside0.mk ha
        refine value_ (w1 := w') (v := .int .i64 t33) (by rfl) rfl (by go_simp; (try simp only [i64_w]); try rfl) ?_
        exact hK.out _ _ ⟨v_t17, v_t18, v_t24, v_t25, v_t31, v_t32, g39, m12_, m13_, (by rw [ha.out]; exact putSel_upk 12 hb_ rfl rfl rfl), QQ⟩
      exact steps_nil
    rintro b a w45 hall ⟨v_t17, v_t18, v_t24, v_t25, v_t31, v_t32, g39, m12_, m13_, ha, Q_HW, Q_S7, Q_S10, Q_S11, Q_K_g39, Q_GW_g39, Q_KE_g39, Q_X12_, Q_X13_⟩
    have hb0_ := hall 0 (by kernel_rfl)
    have hb2_ := hall 2 (by kernel_rfl)
    have hb4_ := hall 4 (by kernel_rfl)
    have hb6_ := hall 6 (by kernel_rfl)
    have hb7_ := hall 7 (by kernel_rfl)
    have hb9_ := hall 9 (by kernel_rfl)
    have hb10_ := hall 10 (by kernel_rfl)
    have hb11_ := hall 11 (by kernel_rfl)
    have hb12_ := hall 12 (by kernel_rfl)
    have hb13_ := hall 13 (by kernel_rfl)
    have hb14_ := hall 14 (by kernel_rfl)
    have hb15_ := hall 15 (by kernel_rfl)
    have hb16_ := hall 16 (by kernel_rfl)
    have hb17_ := hall 17 (by kernel_rfl)
    subst ha
    obtain rfl := Q_X12_ hb12_
    obtain rfl := Q_X13_ hb13_
    have S7 := Aside0.mk (Q_S7 hb7_)
    clear Q_S7
    obtain ⟨A19, c20, rfl⟩ := Kd.R_slice S7.out.now.1
    obtain ⟨A21, c22, rfl⟩ := Kd.R_slice S7.out.now.2
    have S10 := Aside0.mk (Q_S10 hb10_)
    clear Q_S10
    obtain ⟨A26, c27, rfl⟩ := Kd.R_slice S10.out.now.1
    obtain ⟨A28, c29, rfl⟩ := Kd.R_slice S10.out.now.2
    have S11 := Aside0.mk (Q_S11 hb11_)
    clear Q_S11
    obtain ⟨A34, c35, rfl⟩ := Kd.R_slice S11.out.now.1
    obtain ⟨A36, c37, rfl⟩ := Kd.R_slice S11.out.now.2
    simp only [putSel, hb0_, hb2_, hb4_, hb6_, hb7_, hb9_, hb10_, hb11_, hb12_, hb13_, hb14_, hb15_, hb16_, hb17_, if_true, Act.put, List.setIfInBounds_toArray, List.set_cons_zero, List.set_cons_succ]
    replace BKg1 := kb_ BKg1.out Q_HW
    replace BKg2 := kb_ BKg2.out Q_HW
    replace BKg3 := kb_ BKg3.out Q_HW
    replace BKg10 := kb_ BKg10.out Q_HW
    have BKg39 := Aside0.mk (Q_KE_g39 hb16_)
    have GWg39 := Aside0.mk (Nat.le_trans (below_size HB.out) (Q_GW_g39 hb15_))
    replace HB := Aside0.mk (below_step HB.out Q_HW)
    have GS := S7
    replace GS := Aside0.mk (GS.out.and S10.out)
    replace GS := Aside0.mk (GS.out.and S11.out)
    clear hall hb0_ hb2_ hb4_ hb6_ hb7_ hb9_ hb10_ hb11_ hb12_ hb13_ hb14_ hb15_ hb16_ hb17_ Q_HW Q_K_g39 Q_GW_g39 Q_KE_g39
    clear S7 S10 S11
    go_upto_region 4 with fail
    have H := HH.out
    clear HH
    replace H := Option.bind_eq_some_iff.mp H
    obtain ⟨⟨t46, t47, t48⟩, A_530, H⟩ := H
    (try dsimp only at H)
    have A_53 := Aside0.mk A_530
    clear A_530
    have HH := Aside0.mk H
    clear H
    have HW := Aside0.mk (Below.refl w45.heap.size w45)
    have hl0_ : w45.cell? ⟨g1, 0, none⟩ = some (.slice A0_0 l0_0.length c0_0) := (blk_cell BKg1.out 0).trans rfl
    have hl1_ : w45.cell? ⟨g1, 1, none⟩ = some (.slice A0_1 l0_1.length c0_1) := (blk_cell BKg1.out 1).trans rfl
    have hl2_ : w45.cell? ⟨g2, 0, none⟩ = some (.slice A1_0 l1_0.length c1_0) := (blk_cell BKg2.out 0).trans rfl
    have hl3_ : w45.cell? ⟨g2, 1, none⟩ = some (.slice A1_1 l1_1.length c1_1) := (blk_cell BKg2.out 1).trans rfl
    have hl4_ : w45.cell? ⟨g3, 0, none⟩ = some (.slice A2_0 l2_0.length c2_0) := (blk_cell BKg3.out 0).trans rfl
    have hl5_ : w45.cell? ⟨g3, 1, none⟩ = some (.slice A2_1 l2_1.length c2_1) := (blk_cell BKg3.out 1).trans rfl
    have hl6_ : w45.cell? ⟨g2, 2, none⟩ = some (.slice A1_2 l1_2.length c1_2) := (blk_cell BKg2.out 2).trans rfl
    have hl7_ : w45.cell? ⟨g2, 3, none⟩ = some (.slice A1_3 l1_3.length c1_3) := (blk_cell BKg2.out 3).trans rfl
    have hl8_ : w45.cell? ⟨g3, 2, none⟩ = some (.slice A2_2 l2_2.length c2_2) := (blk_cell BKg3.out 2).trans rfl
    have hl9_ : w45.cell? ⟨g3, 3, none⟩ = some (.slice A2_3 l2_3.length c2_3) := (blk_cell BKg3.out 3).trans rfl
    go_upto_region 5 with (first | ((with_reducible refine gate_callee (f := 30) rfl ?_); refine goesL_ (some 47) rfl rfl Try.func30 (by kernel_rfl) rfl #[.agg #[.slice A0_0 l0_0.length c0_0, .slice A0_1 l0_1.length c0_1], .agg #[.slice A1_0 l1_0.length c1_0, .slice A1_1 l1_1.length c1_1], .agg #[.slice A2_0 l2_0.length c2_0, .slice A2_1 l2_1.length c2_1], .agg #[.slice A1_2 l1_2.length c1_2, .slice A1_3 l1_3.length c1_3], .agg #[.slice A2_2 l2_2.length c2_2, .slice A2_3 l2_3.length c2_3]] rfl (by (try simp only [List.map_toArray, List.map_cons, List.map_nil]); first | done | rfl | (simp only [List.length_drop, List.length_take]; rfl)) ?_; have hb0_ := below_step HB.out HW.out; have gs_ := GS.out _ (Calm.below HW.out); (with_reducible refine (scarfjointref06_Compose.calls k _ _ l0_0 _ _ l0_1 _ _ l1_0 _ _ l1_1 _ _ l2_0 _ _ l2_1 _ _ l1_2 _ _ l1_3 _ _ l2_2 _ _ l2_3 t46 t47 t48 _ ?s1 ?s2 ?s3 ?s4 ?s5 ?s6 ?s7 ?s8 ?s9 ?s10 ?s11 ?s12 ?s13 ?s14 ?s15 ?s16 ?s17 ?s18 ?s19 ?s20 A_53.out).mono ?_); (case s1 => exact (Kd.C_below HR0_0.out hb0_)); (case s2 => exact HC0_0.out); (case s3 => exact (Kd.C_below HR0_1.out hb0_)); (case s4 => exact HC0_1.out); (case s5 => exact (Kd.C_below HR1_0.out hb0_)); (case s6 => exact HC1_0.out); (case s7 => exact (Kd.C_below HR1_1.out hb0_)); (case s8 => exact HC1_1.out); (case s9 => exact (Kd.C_below HR2_0.out hb0_)); (case s10 => exact HC2_0.out); (case s11 => exact (Kd.C_below HR2_1.out hb0_)); (case s12 => exact HC2_1.out); (case s13 => exact (Kd.C_below HR1_2.out hb0_)); (case s14 => exact HC1_2.out); (case s15 => exact (Kd.C_below HR1_3.out hb0_)); (case s16 => exact HC1_3.out); (case s17 => exact (Kd.C_below HR2_2.out hb0_)); (case s18 => exact HC2_2.out); (case s19 => exact (Kd.C_below HR2_3.out hb0_)); (case s20 => exact HC2_3.out); rintro e w55 ⟨u0_, u1_, rfl, ho0, ho1, hb⟩; refine ⟨_, rfl, ?_⟩; obtain ⟨A49, c50, rfl⟩ := Kd.R_slice ho0; obtain ⟨A51, c52, rfl⟩ := Kd.R_slice ho1; have GN := Aside0.mk ((Sc.row (T := [25, 27, 29]) (b' := w.heap.size) ho0 (below_size hb0_)).and (Sc.row (T := [25, 27, 29]) (b' := w.heap.size) ho1 (below_size hb0_))); have n_ := Aside0.mk (below_step HW.out hb); clear HW; have HW := n_; clear n_; clear hb hb0_; (try clear gs_); (try clear gn_); clear ho0; clear ho1) | ((with_reducible refine gate_dst (N := 9) rfl ?_); refine box_event ?hg (N := 9) ?hd (cs := #[.slice none 0 0, .slice none 0 0]) (t := 27) ?hr ?_; (case hd => rfl); (case hg => rfl); (case hr => first | (go_simp; done) | (go_simp; rfl)); intro g54 hg w56 hbox hb; have GWg54 := Aside0.mk (show w45.heap.size ≤ g54 from by rw [hg]; exact below_size HW.out); replace GN := Aside0.mk (GN.out.step (Calm.below hb)); have BKg54 := Aside0.mk hbox; have n_ := Aside0.mk (below_step HW.out hb); clear HW; have HW := n_; clear n_; clear hb hbox hg) | ((with_reducible refine gate_store (t := 27) (p := 9) rfl ?_); have hs0_ : w56.cell? ⟨g54, 0, none⟩ = some (.slice none 0 0) := (blk_cell BKg54.out 0).trans rfl; have hf0_ := blk_frozen BKg54.out 0; have hs1_ : w56.cell? ⟨g54, 1, none⟩ = some (.slice none 0 0) := (blk_cell BKg54.out 1).trans rfl; have hf1_ := blk_frozen BKg54.out 1; refine store_event (t := 27) (p := 9) (v := ?vo_w57) (w1 := ((w56.setCell ⟨g54, 0, none⟩ (.slice A49 t46.length c50)).setCell ⟨g54, 1, none⟩ (.slice A51 t47.length c52))) ?hg ?ho ?hn ?hr ?_; (case ho => rfl); (case hg => rfl); (case hn => rfl); (case hr => first | (go_simp; done) | (go_simp; rfl)); intro w57 hw_; replace hw_ : w57 = sets w56 g54 0 [.slice A49 t46.length c50, .slice A51 t47.length c52] := hw_; clear hs0_ hf0_ hs1_ hf1_; replace GN := Aside0.mk (GN.out.step (hw_ ▸ sets_calm (T := [25, 27, 29]) (by decide) _ _ BKg54.out)); have n_ : Aside0 (Below w45.heap.size w45 w57) := ⟨(hw_ ▸ sets_below GWg54.out _ _ HW.out)⟩; clear HW; have HW := n_; clear n_; replace BKg54 := Aside0.mk (show w57.heap[g54]? = some (.cells #[.slice A49 t46.length c50, .slice A51 t47.length c52] 27 (0, 0)) from hw_ ▸ sets_blk _ _ BKg54.out); clear hw_))
    replace BKg1 := kb_ BKg1.out HW.out
    replace BKg2 := kb_ BKg2.out HW.out
    replace BKg3 := kb_ BKg3.out HW.out
    replace BKg10 := kb_ BKg10.out HW.out
    replace BKg39 := kb_ BKg39.out HW.out
    replace GWg54 := Aside0.mk (Nat.le_trans (below_size HB.out) GWg54.out)
    replace HB := Aside0.mk (below_step HB.out HW.out)
    replace GS := Aside0.mk ((GS.out.step (Calm.below HW.out)).and GN.out)
    clear HW GN
    (try clear hl0_)
    (try clear hl1_)
    (try clear hl2_)
    (try clear hl3_)
    (try clear hl4_)
    (try clear hl5_)
    (try clear hl6_)
    (try clear hl7_)
    (try clear hl8_)
    (try clear hl9_)
    have H := HH.out
    clear HH
    by_cases c58 : t33 = t48
    · subst c58
      rw [if_pos rfl] at H
      have c58a : (t33 == t33) = true := beq_self_eq_true _
      have c58b : (t33 != t33) = false := bne_self_eq_false _
      have HH := Aside0.mk H
      clear H
      have H := HH.out
      clear HH
      replace H := Option.bind_eq_some_iff.mp H
      obtain ⟨t59, A_600, H⟩ := H
      (try dsimp only at H)
      have A_60 := Aside0.mk A_600
      clear A_600
      have HH := Aside0.mk H
      clear H
      have HW := Aside0.mk (Below.refl w57.heap.size w57)
      have hl0_ : w57.cell? ⟨g39, 0, none⟩ = some (.slice A34 t31.length c35) := (blk_cell BKg39.out 0).trans rfl
      have hl1_ : w57.cell? ⟨g39, 1, none⟩ = some (.slice A36 t32.length c37) := (blk_cell BKg39.out 1).trans rfl
      have hl2_ : w57.cell? ⟨g54, 0, none⟩ = some (.slice A49 t46.length c50) := (blk_cell BKg54.out 0).trans rfl
      have hl3_ : w57.cell? ⟨g54, 1, none⟩ = some (.slice A51 t47.length c52) := (blk_cell BKg54.out 1).trans rfl
      go_wp2_with (first | ((with_reducible refine gate_callee (f := 27) rfl ?_); (try (refine gate_guard (by rfl) ?_; dsimp only)); refine goesL_ (some 56) rfl rfl Try.func27 (by kernel_rfl) rfl #[.agg #[.slice A34 t31.length c35, .slice A36 t32.length c37], .agg #[.slice A49 t46.length c50, .slice A51 t47.length c52]] rfl (by (try simp only [List.map_toArray, List.map_cons, List.map_nil]); first | done | rfl | (simp only [List.length_drop, List.length_take]; rfl)) ?_; have hb0_ := below_step HB.out HW.out; have gs_ := GS.out _ (Calm.below HW.out); (with_reducible refine (scarfjointref06_Same.calls k _ _ t31 _ _ t32 _ _ t46 _ _ t47 t59 _ ?s1 ?s2 ?s3 ?s4 ?s5 ?s6 ?s7 ?s8 A_60.out).mono ?_); (case s1 => exact (Kd.R_reads' gs_.1.2.1).2.2); (case s2 => exact (Kd.R_reads' gs_.1.2.1).2.1); (case s3 => exact (Kd.R_reads' gs_.1.2.2).2.2); (case s4 => exact (Kd.R_reads' gs_.1.2.2).2.1); (case s5 => exact (Kd.R_reads' gs_.2.1).2.2); (case s6 => exact (Kd.R_reads' gs_.2.1).2.1); (case s7 => exact (Kd.R_reads' gs_.2.2).2.2); (case s8 => exact (Kd.R_reads' gs_.2.2).2.1); rintro e w61 ⟨rfl, hb⟩; refine ⟨_, rfl, ?_⟩; have n_ := Aside0.mk (below_step HW.out hb); clear HW; have HW := n_; clear n_; clear hb hb0_; (try clear gs_); (try clear gn_)))
      replace BKg1 := kb_ BKg1.out HW.out
      replace BKg2 := kb_ BKg2.out HW.out
      replace BKg3 := kb_ BKg3.out HW.out
      replace BKg10 := kb_ BKg10.out HW.out
      replace BKg39 := kb_ BKg39.out HW.out
      replace BKg54 := kb_ BKg54.out HW.out
      replace HB := Aside0.mk (below_step HB.out HW.out)
      replace GS := Aside0.mk (GS.out.step (Calm.below HW.out))
      clear HW
      (try clear hl0_)
      (try clear hl1_)
      (try clear hl2_)
      (try clear hl3_)
      have H := HH.out
      clear HH
      obtain rfl := Option.some.inj H
      go_ret
      exact ⟨by first | rfl | (simp; done) | (simp [*]; done), HB.out⟩
    · rw [if_neg c58] at H
      have c58a : (t33 == t48) = false := beq_eq_false_iff_ne.mpr c58
      have c58b : (t33 != t48) = true := bne_iff_ne.mpr c58
      clear c58
      have HH := Aside0.mk H
      clear H
      (try go_wp2)
      have H := HH.out
      clear HH
      obtain rfl := Option.some.inj H
      go_ret
      exact ⟨by first | rfl | (simp; done) | (simp [*]; done), HB.out⟩
  · replace c13 : t11 = false := Bool.not_eq_true _ ▸ c13
    subst c13
    rw [if_neg (by decide)] at H
    have HH := Aside0.mk H
    clear H
    have HW := Aside0.mk (Below.refl w6.heap.size w6)
    go_upto_region 2 with (first | ((with_reducible refine gate_callee (f := 10) rfl ?_); refine goesL_ (some 11) rfl rfl Try.func10 (by kernel_rfl) rfl #[] rfl (by (try simp only [List.map_toArray, List.map_cons, List.map_nil]); first | done | rfl | (simp only [List.length_drop, List.length_take]; rfl)) ?_; have hb0_ := below_step HB.out HW.out; (with_reducible refine (scarfjointlaw06_awake.calls k true _ A_8.out).mono ?_); rintro e w66 ⟨rfl, hb⟩; refine ⟨_, rfl, ?_⟩; have n_ := Aside0.mk (below_step HW.out hb); clear HW; have HW := n_; clear n_; clear hb hb0_; (try clear gn_); have hl0_ : w66.cell? ⟨g1, 0, none⟩ = some (.slice A0_0 l0_0.length c0_0) := (blk_cell (blk_below BKg1.out HW.out) 0).trans rfl; have hl1_ : w66.cell? ⟨g1, 1, none⟩ = some (.slice A0_1 l0_1.length c0_1) := (blk_cell (blk_below BKg1.out HW.out) 1).trans rfl; have hl2_ : w66.cell? ⟨g2, 0, none⟩ = some (.slice A1_0 l1_0.length c1_0) := (blk_cell (blk_below BKg2.out HW.out) 0).trans rfl; have hl3_ : w66.cell? ⟨g2, 1, none⟩ = some (.slice A1_1 l1_1.length c1_1) := (blk_cell (blk_below BKg2.out HW.out) 1).trans rfl; have hl4_ : w66.cell? ⟨g2, 2, none⟩ = some (.slice A1_2 l1_2.length c1_2) := (blk_cell (blk_below BKg2.out HW.out) 2).trans rfl; have hl5_ : w66.cell? ⟨g2, 3, none⟩ = some (.slice A1_3 l1_3.length c1_3) := (blk_cell (blk_below BKg2.out HW.out) 3).trans rfl; have hl6_ : w66.cell? ⟨g3, 0, none⟩ = some (.slice A2_0 l2_0.length c2_0) := (blk_cell (blk_below BKg3.out HW.out) 0).trans rfl; have hl7_ : w66.cell? ⟨g3, 1, none⟩ = some (.slice A2_1 l2_1.length c2_1) := (blk_cell (blk_below BKg3.out HW.out) 1).trans rfl; have hl8_ : w66.cell? ⟨g3, 2, none⟩ = some (.slice A2_2 l2_2.length c2_2) := (blk_cell (blk_below BKg3.out HW.out) 2).trans rfl; have hl9_ : w66.cell? ⟨g3, 3, none⟩ = some (.slice A2_3 l2_3.length c2_3) := (blk_cell (blk_below BKg3.out HW.out) 3).trans rfl) | ((with_reducible refine gate_dst (N := 17) rfl ?_); (try (refine gate_guard (by rfl) ?_; dsimp only)); refine lit_event ?hg (N := 17) ?hd (cs := #[.slice A1_0 l1_0.length c1_0, .slice A1_1 l1_1.length c1_1, .slice A1_2 l1_2.length c1_2, .slice A1_3 l1_3.length c1_3, .slice A2_0 l2_0.length c2_0, .slice A2_1 l2_1.length c2_1, .slice A2_2 l2_2.length c2_2, .slice A2_3 l2_3.length c2_3]) (t := 29) (n := 2) ?hr ?_; (case hd => rfl); (case hg => rfl); (case hr => first | (go_simp; done) | (go_simp; rfl)); intro g10 hg w67 hbox hb; have GWg10 := Aside0.mk (show w6.heap.size ≤ g10 from by rw [hg]; exact below_size HW.out); have BKg10 := Aside0.mk hbox; have n_ := Aside0.mk (below_step HW.out hb); clear HW; have HW := n_; clear n_; clear hb hbox hg) | ((with_reducible refine gate_callee (f := 11) rfl ?_); (try (refine gate_guard (by rfl) ?_; dsimp only)); refine goesL_ (some 18) rfl rfl Try.func11 (by kernel_rfl) rfl #[.agg #[.slice A0_0 l0_0.length c0_0, .slice A0_1 l0_1.length c0_1], .slice (some ⟨g10, 0, none⟩) ([(⟨(⟨l1_0, l1_1⟩ : S25), (⟨l1_2, l1_3⟩ : S27)⟩ : S29), (⟨(⟨l2_0, l2_1⟩ : S25), (⟨l2_2, l2_3⟩ : S27)⟩ : S29)] : List (S29)).length 2] rfl (by (try simp only [List.map_toArray, List.map_cons, List.map_nil]); first | done | rfl | (simp only [List.length_drop, List.length_take]; rfl)) ?_; have hb0_ := below_step HB.out HW.out; (with_reducible refine (scarfjointlaw06_few.calls k _ _ l0_0 _ _ l0_1 _ _ ([(⟨(⟨l1_0, l1_1⟩ : S25), (⟨l1_2, l1_3⟩ : S27)⟩ : S29), (⟨(⟨l2_0, l2_1⟩ : S25), (⟨l2_2, l2_3⟩ : S27)⟩ : S29)] : List (S29)) false _ ?s1 ?s2 ?s3 ?s4 ?s5 ?s6 A_12.out).mono ?_); (case s1 => exact (Kd.C_below HR0_0.out hb0_)); (case s2 => exact HC0_0.out); (case s3 => exact (Kd.C_below HR0_1.out hb0_)); (case s4 => exact HC0_1.out); (case s5 => exact (lit_C BKg10.out (Reps.c4 (k29_mk _ (⟨(⟨l1_0, l1_1⟩ : S25), (⟨l1_2, l1_3⟩ : S27)⟩ : S29) HC1_0.out (Kd.C_below HR1_0.out hb0_) HC1_1.out (Kd.C_below HR1_1.out hb0_) HC1_2.out (Kd.C_below HR1_2.out hb0_) HC1_3.out (Kd.C_below HR1_3.out hb0_)) (Reps.c4 (k29_mk _ (⟨(⟨l2_0, l2_1⟩ : S25), (⟨l2_2, l2_3⟩ : S27)⟩ : S29) HC2_0.out (Kd.C_below HR2_0.out hb0_) HC2_1.out (Kd.C_below HR2_1.out hb0_) HC2_2.out (Kd.C_below HR2_2.out hb0_) HC2_3.out (Kd.C_below HR2_3.out hb0_)) (Reps.none _ _))))); (case s6 => exact (Nat.le_refl _)); rintro e w68 ⟨rfl, hb⟩; refine ⟨_, rfl, ?_⟩; replace BKg10 := kb_ BKg10.out hb; have n_ := Aside0.mk (below_step HW.out hb); clear HW; have HW := n_; clear n_; clear hb hb0_; (try clear gn_)))
    replace BKg1 := kb_ BKg1.out HW.out
    replace BKg2 := kb_ BKg2.out HW.out
    replace BKg3 := kb_ BKg3.out HW.out
    replace GWg10 := Aside0.mk (Nat.le_trans (below_size HB.out) GWg10.out)
    replace HB := Aside0.mk (below_step HB.out HW.out)
    clear HW
    (try clear hl0_)
    (try clear hl1_)
    (try clear hl2_)
    (try clear hl3_)
    (try clear hl4_)
    (try clear hl5_)
    (try clear hl6_)
    (try clear hl7_)
    (try clear hl8_)
    (try clear hl9_)
    have H := HH.out
    clear HH
    replace H := Option.bind_eq_some_iff.mp H
    obtain ⟨t69, A_700, H⟩ := H
    (try dsimp only at H)
    have A_70 := Aside0.mk A_700
    clear A_700
    have HH := Aside0.mk H
    clear H
    have HW := Aside0.mk (Below.refl w68.heap.size w68)
    go_wp2_with (first | ((with_reducible refine gate_callee (f := 10) rfl ?_); refine goesL_ (some 21) rfl rfl Try.func10 (by kernel_rfl) rfl #[] rfl (by (try simp only [List.map_toArray, List.map_cons, List.map_nil]); first | done | rfl | (simp only [List.length_drop, List.length_take]; rfl)) ?_; have hb0_ := below_step HB.out HW.out; (with_reducible refine (scarfjointlaw06_awake.calls k t69 _ A_70.out).mono ?_); rintro e w71 ⟨rfl, hb⟩; refine ⟨_, rfl, ?_⟩; have n_ := Aside0.mk (below_step HW.out hb); clear HW; have HW := n_; clear n_; clear hb hb0_; (try clear gn_)))
    replace BKg1 := kb_ BKg1.out HW.out
    replace BKg2 := kb_ BKg2.out HW.out
    replace BKg3 := kb_ BKg3.out HW.out
    replace BKg10 := kb_ BKg10.out HW.out
    replace HB := Aside0.mk (below_step HB.out HW.out)
    clear HW
    have H := HH.out
    clear HH
    obtain rfl := Option.some.inj H
    go_ret
    exact ⟨by first | rfl | (simp; done) | (simp [*]; done), HB.out⟩

end Go.Proofs.Ytklacpdobpkbbaa.P
