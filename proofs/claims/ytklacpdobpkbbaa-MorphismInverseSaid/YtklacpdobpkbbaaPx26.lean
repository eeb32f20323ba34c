-- Written by wip/drive.py of this session's repo over the kit's print.py (with contracts of the session's own): not the print's own text
import Derived.Test.YtklacpdobpkbbaaPx0
import Derived.Test.YtklacpdobpkbbaaPx12
import Derived.Test.YtklacpdobpkbbaaPx13
import Derived.Test.YtklacpdobpkbbaaPx14
import Derived.Test.YtklacpdobpkbbaaPx19
import Derived.Test.YtklacpdobpkbbaaPx20
import Derived.Test.YtklacpdobpkbbaaPx21
import Derived.Test.YtklacpdobpkbbaaPx24
import Derived.Test.YtklacpdobpkbbaaPx25
namespace Go.Proofs.Ytklacpdobpkbbaa.P
open Go.RowKit Go.Proofs.YtklacpdobpkbbaaW.PrintWords Go.Proofs.YtklacpdobpkbbaaW.PrintLast Go.Proofs.YtklacpdobpkbbaaW.PrintMore
attribute [local go_sem] max2_int min2_int max_two min_two max_three min_three max_four min_four   -- for this text's walks alone
set_option linter.unusedVariables false
set_option linter.unusedSimpArgs false

/-! ### scarfjointlaw06_MorphismInverse: function 9 -/
def scarfjointlaw06_MorphismInverse.f (k : Nat) (l0_0 : List (Int)) (l0_1 : List (S65)) (l1_0 : List (Int)) (l1_1 : List (S65)) (l1_2 : List (Int)) (l1_3 : List (Int)) : Option (Bool) := ((scarfjointlaw06_awake.f k ).bind fun t5 => (if t5 = true then ((scarfjointlaw06_few.f k l0_0 l0_1 ([(⟨(⟨l1_0, l1_1⟩ : S25), (⟨l1_2, l1_3⟩ : S27)⟩ : S29)] : List (S29))).bind fun t9 => (if t9 = true then ((scarfjointlaw06_copied.f l1_2 l1_3).bind fun bt125 => ((morphism_Inverse.f k l0_0 l0_1 l1_0 l1_1 bt125.1 bt125.2).bind fun bt124 => ((scarfjointref06_Inverse.f k l0_0 l0_1 l1_0 l1_1 l1_2 l1_3).bind fun bt123 => (if bt124.2.2 = bt123.2.2 then ((scarfjointref06_Same.f k bt124.1 bt124.2.1 bt123.1 bt123.2.1).bind fun t49 => (if t49 = true then (if bt124.2.2 = 0 then ((morphism_Compose.f k l0_0 l0_1 l1_0 l1_1 l0_0 l0_1 l1_2 l1_3 bt124.1 bt124.2.1).bind fun bt114 => ((morphism_Compose.f k l1_0 l1_1 l0_0 l0_1 l1_0 l1_1 bt124.1 bt124.2.1 l1_2 l1_3).bind fun bt113 => (if bt114.2.2 = 0 then (if bt113.2.2 = 0 then ((scarfjointref06_Of.f k l0_0 l0_1).bind fun bt110 => ((scarfjointref06_Same.f k bt114.1 bt114.2.1 bt110.1 bt110.2).bind fun t87 => (if t87 = true then ((scarfjointref06_Of.f k l1_0 l1_1).bind fun bt105 => ((scarfjointref06_Same.f k bt113.1 bt113.2.1 bt105.1 bt105.2).bind fun t97 => (some t97))) else (some false)))) else (some false)) else (some false)))) else ((scarfjointref06_Same.f k bt124.1 bt124.2.1 bt123.1 bt123.2.1).bind fun t116 => (some t116))) else ((scarfjointref06_Same.f k bt124.1 bt124.2.1 bt123.1 bt123.2.1).bind fun t120 => (some t120)))) else (some false))))) else ((scarfjointlaw06_awake.f k ).bind fun t129 => (some t129)))) else none))
theorem scarfjointlaw06_MorphismInverse.mono : ∀ a0 a1 a2 a3 a4 a5 k, LeO (scarfjointlaw06_MorphismInverse.f k a0 a1 a2 a3 a4 a5) (scarfjointlaw06_MorphismInverse.f (k + 1) a0 a1 a2 a3 a4 a5) := by
  intro a0 a1 a2 a3 a4 a5 k
  unfold scarfjointlaw06_MorphismInverse.f
  repeat' first
    | (with_reducible exact scarfjointlaw06_awake.mono _)
    | (with_reducible exact scarfjointlaw06_few.mono _ _ _ _)
    | (with_reducible exact morphism_Inverse.mono _ _ _ _ _ _ _)
    | (with_reducible exact scarfjointref06_Inverse.mono _ _ _ _ _ _ _)
    | (with_reducible exact scarfjointref06_Same.mono _ _ _ _ _)
    | (with_reducible exact morphism_Compose.mono _ _ _ _ _ _ _ _ _ _ _)
    | (with_reducible exact scarfjointref06_Of.mono _ _ _)
    | (with_reducible exact LeO.refl _)
    | (with_reducible exact LeO.none _)
    | (with_reducible refine LeO.ite ?_ ?_)
    | (with_reducible refine LeO.bind ?_ (fun _ => ?_))
    | exact scarfjointlaw06_awake.mono _
    | exact scarfjointlaw06_few.mono _ _ _ _
    | exact morphism_Inverse.mono _ _ _ _ _ _ _
    | exact scarfjointref06_Inverse.mono _ _ _ _ _ _ _
    | exact scarfjointref06_Same.mono _ _ _ _ _
    | exact morphism_Compose.mono _ _ _ _ _ _ _ _ _ _ _
    | exact scarfjointref06_Of.mono _ _ _
    | exact LeO.none _
    | refine LeO.ite ?_ ?_
    | refine LeO.bind ?_ (fun _ => ?_)
def scarfjointlaw06_MorphismInverse.T3 : Bool × List (List Nat × List Nat) := (true, [([], []), ([], []), ([1], [1]), ([], []), ([3], [3]), ([4], [4]), ([0, 2, 5, 5], [0, 2, 5]), ([6], [6]), ([7], [7]), ([7], [7]), ([], []), ([10, 8, 6, 0, 1, 2, 3, 4, 5, 6, 7, 8, 10], [8, 10]), ([9, 11, 0, 1, 2, 3, 4, 5, 6, 7, 8, 9, 10, 11], [9])])
def scarfjointlaw06_MorphismInverse.B3 : List Nat := [0, 0, 2, 0, 8, 24, 63, 127, 255, 255, 0, 1535, 4095]
theorem scarfjointlaw06_MorphismInverse.tab3 : rtab .any (opsOf Try.f9 3) = scarfjointlaw06_MorphismInverse.T3 := by kernel_rfl
theorem scarfjointlaw06_MorphismInverse.bits3 : waitsOk scarfjointlaw06_MorphismInverse.T3.2 scarfjointlaw06_MorphismInverse.B3 = true := by kernel_rfl
def scarfjointlaw06_MorphismInverse.T9 : Bool × List (List Nat × List Nat) := (true, [([], []), ([0], [0]), ([1], [1]), ([2], [2]), ([3, 2], [2, 3]), ([2, 4], [2, 4]), ([5, 2], [5]), ([6], [6]), ([6], [6]), ([8, 6, 6], [6, 8]), ([7, 9, 9, 6], [6, 7, 9]), ([6, 10], [6, 10]), ([11, 10], [11]), ([12], [12]), ([12], [12]), ([14, 12], [12, 14]), ([15, 12, 12], [12, 15]), ([13, 16, 16, 12], [12, 13, 16]), ([12, 17], [12, 17]), ([18, 17, 0, 1, 2, 3, 4, 5, 6, 7, 8, 9, 10, 11, 12, 13, 14, 15, 16, 17, 18], [18])])
def scarfjointlaw06_MorphismInverse.B9 : List Nat := [0, 1, 3, 7, 15, 31, 63, 127, 127, 383, 1023, 2047, 4095, 8191, 8191, 24575, 57343, 131071, 262143, 524287]
theorem scarfjointlaw06_MorphismInverse.tab9 : rtab .any (opsOf Try.f9 9) = scarfjointlaw06_MorphismInverse.T9 := by kernel_rfl
theorem scarfjointlaw06_MorphismInverse.bits9 : waitsOk scarfjointlaw06_MorphismInverse.T9.2 scarfjointlaw06_MorphismInverse.B9 = true := by kernel_rfl
set_option maxHeartbeats 8000000 in
set_option maxRecDepth 100000 in
theorem scarfjointlaw06_MorphismInverse.calls (k : Nat) (A0_0 : Option Addr) (c0_0 : Nat) (l0_0 : List (Int)) (A0_1 : Option Addr) (c0_1 : Nat) (l0_1 : List (S65)) (A1_0 : Option Addr) (c1_0 : Nat) (l1_0 : List (Int)) (A1_1 : Option Addr) (c1_1 : Nat) (l1_1 : List (S65)) (A1_2 : Option Addr) (c1_2 : Nat) (l1_2 : List (Int)) (A1_3 : Option Addr) (c1_3 : Nat) (l1_3 : List (Int)) (r : Bool) (w : World) (hr0_0 : Kd.C (Kd.int .i64) w A0_0 l0_0.length l0_0) (hc0_0 : l0_0.length ≤ c0_0) (hr0_1 : Kd.C k65 w A0_1 l0_1.length l0_1) (hc0_1 : l0_1.length ≤ c0_1) (hr1_0 : Kd.C (Kd.int .i64) w A1_0 l1_0.length l1_0) (hc1_0 : l1_0.length ≤ c1_0) (hr1_1 : Kd.C k65 w A1_1 l1_1.length l1_1) (hc1_1 : l1_1.length ≤ c1_1) (hr1_2 : Kd.C (Kd.int .i64) w A1_2 l1_2.length l1_2) (hc1_2 : l1_2.length ≤ c1_2) (hr1_3 : Kd.C (Kd.int .i64) w A1_3 l1_3.length l1_3) (hc1_3 : l1_3.length ≤ c1_3) (h : scarfjointlaw06_MorphismInverse.f k l0_0 l0_1 l1_0 l1_1 l1_2 l1_3 = some r) :
    Calls Try.prog 9 #[.agg #[.slice A0_0 l0_0.length c0_0, .slice A0_1 l0_1.length c0_1], .agg #[.slice A1_0 l1_0.length c1_0, .slice A1_1 l1_1.length c1_1, .slice A1_2 l1_2.length c1_2, .slice A1_3 l1_3.length c1_3]] w fun e w' => e = .returned (.bool r) ∧ Below w.heap.size w w' := by
  have hu25 := Try.underlying25
  have hu27 := Try.underlying27
  have hu29 := Try.underlying29
  have hu66 := Try.underlying66
  have HR0_0 := Aside0.mk hr0_0
  have HC0_0 := Aside0.mk hc0_0
  clear hr0_0 hc0_0
  have HR0_1 := Aside0.mk hr0_1
  have HC0_1 := Aside0.mk hc0_1
  clear hr0_1 hc0_1
  have HR1_0 := Aside0.mk hr1_0
  have HC1_0 := Aside0.mk hc1_0
  clear hr1_0 hc1_0
  have HR1_1 := Aside0.mk hr1_1
  have HC1_1 := Aside0.mk hc1_1
  clear hr1_1 hc1_1
  have HR1_2 := Aside0.mk hr1_2
  have HC1_2 := Aside0.mk hc1_2
  clear hr1_2 hc1_2
  have HR1_3 := Aside0.mk hr1_3
  have HC1_3 := Aside0.mk hc1_3
  clear hr1_3 hc1_3
  have HB := Aside0.mk (Below.refl w.heap.size w)
  unfold scarfjointlaw06_MorphismInverse.f at h
  have HH := Aside0.mk h
  clear h
  go_enter Try.func9, Try.ntmps9
  have HW := Aside0.mk (Below.refl w.heap.size w)
  go_upto_region 1 with (first | ((with_reducible refine gate_dst (N := 2) rfl ?_); refine box_event ?hg (N := 2) ?hd (cs := #[.slice A0_0 l0_0.length c0_0, .slice A0_1 l0_1.length c0_1]) (t := 25) ?hr ?_; (case hd => rfl); (case hg => rfl); (case hr => first | (go_simp; done) | (go_simp; rfl)); intro g1 hg w3 hbox hb; have GWg1 := Aside0.mk (show w.heap.size ≤ g1 from by rw [hg]; exact below_size HW.out); have BKg1 := Aside0.mk hbox; have n_ := Aside0.mk (below_step HW.out hb); clear HW; have HW := n_; clear n_; clear hb hbox hg) | ((with_reducible refine gate_dst (N := 3) rfl ?_); refine box_event ?hg (N := 3) ?hd (cs := #[.slice A1_0 l1_0.length c1_0, .slice A1_1 l1_1.length c1_1, .slice A1_2 l1_2.length c1_2, .slice A1_3 l1_3.length c1_3]) (t := 29) ?hr ?_; (case hd => rfl); (case hg => rfl); (case hr => first | (go_simp; done) | (go_simp; rfl)); intro g2 hg w4 hbox hb; have GWg2 := Aside0.mk (show w.heap.size ≤ g2 from by rw [hg]; exact below_size HW.out); have NBg1_g2 := Aside0.mk (show g1 ≠ g2 from by rw [hg]; exact Nat.ne_of_lt (blk_lt BKg1.out)); replace BKg1 := kb_ BKg1.out hb; have BKg2 := Aside0.mk hbox; have n_ := Aside0.mk (below_step HW.out hb); clear HW; have HW := n_; clear n_; clear hb hbox hg))
  replace GWg1 := Aside0.mk (Nat.le_trans (below_size HB.out) GWg1.out)
  replace GWg2 := Aside0.mk (Nat.le_trans (below_size HB.out) GWg2.out)
  replace HB := Aside0.mk (below_step HB.out HW.out)
  clear HW
  have H := HH.out
  clear HH
  replace H := Option.bind_eq_some_iff.mp H
  obtain ⟨t5, A_60, H⟩ := H
  (try dsimp only at H)
  have A_6 := Aside0.mk A_60
  clear A_60
  have HH := Aside0.mk H
  clear H
  have H := HH.out
  clear HH
  by_cases c7 : t5 = true
  rotate_left
  · rw [if_neg c7] at H
    cases H
  subst c7
  rw [if_pos rfl] at H
  have HH := Aside0.mk H
  clear H
  have H := HH.out
  clear HH
  replace H := Option.bind_eq_some_iff.mp H
  obtain ⟨t9, A_100, H⟩ := H
  (try dsimp only at H)
  have A_10 := Aside0.mk A_100
  clear A_100
  have HH := Aside0.mk H
  clear H
  have H := HH.out
  clear HH
  by_cases c11 : t9 = true
  · subst c11
    rw [if_pos rfl] at H
    have HH := Aside0.mk H
    clear H
    have HW := Aside0.mk (Below.refl w4.heap.size w4)
    go_upto_region 3 with (first | ((with_reducible refine gate_callee (f := 10) rfl ?_); refine goesL_ (some 13) rfl rfl Try.func10 (by kernel_rfl) rfl #[] rfl (by (try simp only [List.map_toArray, List.map_cons, List.map_nil]); first | done | rfl | (simp only [List.length_drop, List.length_take]; rfl)) ?_; have hb0_ := below_step HB.out HW.out; (with_reducible refine (scarfjointlaw06_awake.calls k true _ A_6.out).mono ?_); rintro e w12 ⟨rfl, hb⟩; refine ⟨_, rfl, ?_⟩; have n_ := Aside0.mk (below_step HW.out hb); clear HW; have HW := n_; clear n_; clear hb hb0_; (try clear gn_); have hl0_ : w12.cell? ⟨g1, 0, none⟩ = some (.slice A0_0 l0_0.length c0_0) := (blk_cell (blk_below BKg1.out HW.out) 0).trans rfl; have hl1_ : w12.cell? ⟨g1, 1, none⟩ = some (.slice A0_1 l0_1.length c0_1) := (blk_cell (blk_below BKg1.out HW.out) 1).trans rfl; have hl2_ : w12.cell? ⟨g2, 0, none⟩ = some (.slice A1_0 l1_0.length c1_0) := (blk_cell (blk_below BKg2.out HW.out) 0).trans rfl; have hl3_ : w12.cell? ⟨g2, 1, none⟩ = some (.slice A1_1 l1_1.length c1_1) := (blk_cell (blk_below BKg2.out HW.out) 1).trans rfl; have hl4_ : w12.cell? ⟨g2, 2, none⟩ = some (.slice A1_2 l1_2.length c1_2) := (blk_cell (blk_below BKg2.out HW.out) 2).trans rfl; have hl5_ : w12.cell? ⟨g2, 3, none⟩ = some (.slice A1_3 l1_3.length c1_3) := (blk_cell (blk_below BKg2.out HW.out) 3).trans rfl) | ((with_reducible refine gate_dst (N := 18) rfl ?_); (try (refine gate_guard (by rfl) ?_; dsimp only)); refine lit_event ?hg (N := 18) ?hd (cs := #[.slice A1_0 l1_0.length c1_0, .slice A1_1 l1_1.length c1_1, .slice A1_2 l1_2.length c1_2, .slice A1_3 l1_3.length c1_3]) (t := 29) (n := 1) ?hr ?_; (case hd => rfl); (case hg => rfl); (case hr => first | (go_simp; done) | (go_simp; rfl)); intro g8 hg w13 hbox hb; have GWg8 := Aside0.mk (show w4.heap.size ≤ g8 from by rw [hg]; exact below_size HW.out); have BKg8 := Aside0.mk hbox; have n_ := Aside0.mk (below_step HW.out hb); clear HW; have HW := n_; clear n_; clear hb hbox hg) | ((with_reducible refine gate_callee (f := 11) rfl ?_); (try (refine gate_guard (by rfl) ?_; dsimp only)); refine goesL_ (some 19) rfl rfl Try.func11 (by kernel_rfl) rfl #[.agg #[.slice A0_0 l0_0.length c0_0, .slice A0_1 l0_1.length c0_1], .slice (some ⟨g8, 0, none⟩) ([(⟨(⟨l1_0, l1_1⟩ : S25), (⟨l1_2, l1_3⟩ : S27)⟩ : S29)] : List (S29)).length 1] rfl (by (try simp only [List.map_toArray, List.map_cons, List.map_nil]); first | done | rfl | (simp only [List.length_drop, List.length_take]; rfl)) ?_; have hb0_ := below_step HB.out HW.out; (with_reducible refine (scarfjointlaw06_few.calls k _ _ l0_0 _ _ l0_1 _ _ ([(⟨(⟨l1_0, l1_1⟩ : S25), (⟨l1_2, l1_3⟩ : S27)⟩ : S29)] : List (S29)) true _ ?s1 ?s2 ?s3 ?s4 ?s5 ?s6 A_10.out).mono ?_); (case s1 => exact (Kd.C_below HR0_0.out hb0_)); (case s2 => exact HC0_0.out); (case s3 => exact (Kd.C_below HR0_1.out hb0_)); (case s4 => exact HC0_1.out); (case s5 => exact (lit_C BKg8.out (Reps.c4 (k29_mk _ (⟨(⟨l1_0, l1_1⟩ : S25), (⟨l1_2, l1_3⟩ : S27)⟩ : S29) HC1_0.out (Kd.C_below HR1_0.out hb0_) HC1_1.out (Kd.C_below HR1_1.out hb0_) HC1_2.out (Kd.C_below HR1_2.out hb0_) HC1_3.out (Kd.C_below HR1_3.out hb0_)) (Reps.none _ _)))); (case s6 => exact (Nat.le_refl _)); rintro e w14 ⟨rfl, hb⟩; refine ⟨_, rfl, ?_⟩; replace BKg8 := kb_ BKg8.out hb; have n_ := Aside0.mk (below_step HW.out hb); clear HW; have HW := n_; clear n_; clear hb hb0_; (try clear gn_)))
    replace BKg1 := kb_ BKg1.out HW.out
    replace BKg2 := kb_ BKg2.out HW.out
    replace GWg8 := Aside0.mk (Nat.le_trans (below_size HB.out) GWg8.out)
    replace HB := Aside0.mk (below_step HB.out HW.out)
    clear HW
    (try clear hl0_)
    (try clear hl1_)
    (try clear hl2_)
    (try clear hl3_)
    (try clear hl4_)
    (try clear hl5_)
    have H := HH.out
    clear HH
    replace H := Option.bind_eq_some_iff.mp H
    obtain ⟨⟨t15, t16⟩, A_210, H⟩ := H
    (try dsimp only at H)
    have A_21 := Aside0.mk A_210
    clear A_210
    have HH := Aside0.mk H
    clear H
    have H := HH.out
    clear HH
    replace H := Option.bind_eq_some_iff.mp H
    obtain ⟨⟨t22, t23, t24⟩, A_290, H⟩ := H
    (try dsimp only at H)
    have A_29 := Aside0.mk A_290
    clear A_290
    have HH := Aside0.mk H
    clear H
    refine start_ (n := 13) (S := fun _ => True) (ds := []) (bm_ 13 0) (by kernel_rfl) rfl (by kernel_rfl) trivial (fun hHeld => ?_)
    clear hHeld
    refine with_tabW scarfjointlaw06_MorphismInverse.tab3 scarfjointlaw06_MorphismInverse.bits3 (fun HT_ HW_ => ?_)
    have hd_ : Below w14.heap.size w14 w14.drew := below_drew1 (Below.refl _ _)
    generalize w14.drew = w31 at hd_ ⊢
    replace BKg1 := kb_ BKg1.out hd_
    replace BKg2 := kb_ BKg2.out hd_
    replace BKg8 := kb_ BKg8.out hd_
    replace HB := Aside0.mk (below_step HB.out hd_)
    clear hd_
    refine pw_ (i := 1) (N := some 25) (bm_ 13 2) rfl HT_.out ?_
    refine pw_ (i := 3) (N := some 27) (bm_ 13 10) rfl HT_.out ?_
    refine inv_at [0, 2, 4, 5, 6, 7, 8, 9, 10, 11, 12] (fun a0_ b a w' => ∃ (v_t15 : Value) (v_t16 : Value) (v_t22 : Value) (v_t23 : Value) (g30 : Nat) (m7_ : Value) (m8_ : Value), a = putSel a0_ b [(0, 24, .agg #[.slice A0_0 l0_0.length c0_0, .slice A0_1 l0_1.length c0_1]), (2, 26, .agg #[.slice A1_0 l1_0.length c1_0, .slice A1_1 l1_1.length c1_1]), (4, 28, .agg #[.slice A1_2 l1_2.length c1_2, .slice A1_3 l1_3.length c1_3]), (5, 29, .agg #[v_t15, v_t16]), (6, 30, .tuple #[.agg #[v_t22, v_t23], .int .i64 t24]), (7, 23, m7_), (8, 31, m8_), (9, 32, .int .i64 t24), (10, 5, .pointer (some ⟨g30, 0, none⟩)), (12, 6, .int .i64 t24)] ∧ (Below w31.heap.size w31 w') ∧ (b 5 = true → Sc [25, 27, 29] (fun v' => (Kd.R (Kd.int .i64) 3 v' w.heap.size (fun _ => True) v_t15 t15) ∧ Kd.R (Kd.int .i64) 3 v' w.heap.size (fun _ => True) v_t16 t16) w') ∧ (b 6 = true → Sc [25, 27, 29] (fun v' => (Kd.R (Kd.int .i64) 3 v' w.heap.size (fun _ => True) v_t22 t22) ∧ Kd.R (Kd.int .i64) 3 v' w.heap.size (fun _ => True) v_t23 t23) w') ∧ (b 10 = true → b 11 = false → w'.heap[g30]? = some (.cells #[.slice none 0 0, .slice none 0 0] 27 (0, 0))) ∧ (b 10 = true → w31.heap.size ≤ g30) ∧ (b 11 = true → w'.heap[g30]? = some (.cells #[v_t22, v_t23] 27 (0, 0))) ∧ (b 7 = true → (m7_ : Value) = .tuple #[.agg #[v_t22, v_t23], .int .i64 t24]) ∧ (b 8 = true → (m8_ : Value) = .agg #[v_t22, v_t23])) HT_.out HW_.out (by kernel_rfl) (by kernel_rfl) ?_ ?_ ?_
    · exact ⟨.bool false, .bool false, .bool false, .bool false, 0, .bool false, .bool false, by simp only [putSel, Bool.false_eq_true, if_false], Below.refl _ _, fun h_ => absurd h_ (by decide), fun h_ => absurd h_ (by decide), fun h_ => absurd h_ (by decide), fun h_ => absurd h_ (by decide), fun h_ => absurd h_ (by decide), fun h_ => absurd h_ (by decide), fun h_ => absurd h_ (by decide)⟩
    · skip
      refine steps_cons ?_ ?_
      · rintro b a w' ⟨v_t15, v_t16, v_t22, v_t23, g30, m7_, m8_, ha, QQ⟩ hb_ hon hoff
        refine ⟨_, rfl, fun K hK => ?_⟩
        have e2 : a.tmps[2]? = some (.pointer (some ⟨g1, 0, none⟩)) := by rw [ha]; exact (putSel_off rfl).trans rfl
        replace ha := Aside0.mk ha
        have hc0_ : w'.cell? ⟨g1, 0, none⟩ = some (.slice A0_0 l0_0.length c0_0) := (blk_cell (blk_below BKg1.out QQ.1) 0).trans rfl
        have hc1_ : w'.cell? ⟨g1, 1, none⟩ = some (.slice A0_1 l0_1.length c0_1) := (blk_cell (blk_below BKg1.out QQ.1) 1).trans rfl
        refine value_ (w1 := w') (v := .agg #[.slice A0_0 l0_0.length c0_0, .slice A0_1 l0_1.length c0_1]) (by rfl) rfl (by go_simp; (try simp only [i64_w]); try rfl) ?_
        exact hK.out _ _ ⟨v_t15, v_t16, v_t22, v_t23, g30, m7_, m8_, (by rw [ha.out]; exact putSel_upk 0 hb_ rfl rfl rfl), QQ⟩
      refine steps_cons ?_ ?_
      · rintro b a w' ⟨v_t15, v_t16, v_t22, v_t23, g30, m7_, m8_, ha, QQ⟩ hb_ hon hoff
        refine ⟨_, rfl, fun K hK => ?_⟩
        have e25 : a.tmps[25]? = some (.pointer (some ⟨g2, 0, none⟩)) := by rw [ha]; exact (putSel_off rfl).trans rfl
        replace ha := Aside0.mk ha
        have hc0_ : w'.cell? ⟨g2, 0, none⟩ = some (.slice A1_0 l1_0.length c1_0) := (blk_cell (blk_below BKg2.out QQ.1) 0).trans rfl
        have hc1_ : w'.cell? ⟨g2, 1, none⟩ = some (.slice A1_1 l1_1.length c1_1) := (blk_cell (blk_below BKg2.out QQ.1) 1).trans rfl
        refine value_ (w1 := w') (v := .agg #[.slice A1_0 l1_0.length c1_0, .slice A1_1 l1_1.length c1_1]) (by rfl) rfl (by go_simp; (try simp only [i64_w]); try rfl) ?_
        exact hK.out _ _ ⟨v_t15, v_t16, v_t22, v_t23, g30, m7_, m8_, (by rw [ha.out]; exact putSel_upk 1 hb_ rfl rfl rfl), QQ⟩
      refine steps_cons ?_ ?_
      · rintro b a w' ⟨v_t15, v_t16, v_t22, v_t23, g30, m7_, m8_, ha, QQ⟩ hb_ hon hoff
        refine ⟨_, rfl, fun K hK => ?_⟩
        have e27 : a.tmps[27]? = some (.pointer (some ⟨g2, 2, none⟩)) := by rw [ha]; exact (putSel_off rfl).trans rfl
        replace ha := Aside0.mk ha
        have hc0_ : w'.cell? ⟨g2, 2, none⟩ = some (.slice A1_2 l1_2.length c1_2) := (blk_cell (blk_below BKg2.out QQ.1) 2).trans rfl
        have hc1_ : w'.cell? ⟨g2, 3, none⟩ = some (.slice A1_3 l1_3.length c1_3) := (blk_cell (blk_below BKg2.out QQ.1) 3).trans rfl
        refine value_ (w1 := w') (v := .agg #[.slice A1_2 l1_2.length c1_2, .slice A1_3 l1_3.length c1_3]) (by rfl) rfl (by go_simp; (try simp only [i64_w]); try rfl) ?_
        exact hK.out _ _ ⟨v_t15, v_t16, v_t22, v_t23, g30, m7_, m8_, (by rw [ha.out]; exact putSel_upk 2 hb_ rfl rfl rfl), QQ⟩
      refine steps_cons ?_ ?_
      · rintro b a w' ⟨v_t15, v_t16, v_t22, v_t23, g30, m7_, m8_, ha, Q_HW, Q_S5, Q_S6, Q_K_g30, Q_GW_g30, Q_KE_g30, Q_X7_, Q_X8_⟩ hb_ hon hoff
        refine ⟨_, rfl, fun K hK => ?_⟩
        have e28 : a.tmps[28]? = some (.agg #[.slice A1_2 l1_2.length c1_2, .slice A1_3 l1_3.length c1_3]) := by rw [ha]; exact putSel_on (e := (4, 28, .agg #[.slice A1_2 l1_2.length c1_2, .slice A1_3 l1_3.length c1_3])) 2 rfl rfl (hon 4 (by kernel_rfl)) rfl
        replace ha := Aside0.mk ha
        have hb0_ := below_step HB.out Q_HW
        refine goes_ Try.func13 (by kernel_rfl) rfl #[.agg #[.slice A1_2 l1_2.length c1_2, .slice A1_3 l1_3.length c1_3]] (by rfl) rfl rfl (by first | (simp only [List.map_toArray, List.map_cons, List.map_nil, Act.eval, Array.getD_eq_getD_getElem?, Option.getD_some, e28]; done) | (simp only [List.map_toArray, List.map_cons, List.map_nil, Act.eval, Array.getD_eq_getD_getElem?, Option.getD_some, e28]; rfl)) ?_
        (with_reducible refine (scarfjointlaw06_copied.calls _ _ l1_2 _ _ l1_3 t15 t16 _ ?s1 ?s2 ?s3 ?s4 A_21.out).mono ?_)
        (case s1 => exact (Kd.C_below HR1_2.out hb0_))
        (case s2 => exact HC1_2.out)
        (case s3 => exact (Kd.C_below HR1_3.out hb0_))
        (case s4 => exact HC1_3.out)
        rintro e w32 ⟨u0_, u1_, rfl, ho0, ho1, hb⟩
        refine ⟨_, rfl, ?_⟩
        exact hK.out _ _ ⟨u0_, u1_, v_t22, v_t23, g30, m7_, m8_, (by rw [ha.out]; exact putSel_upk 3 hb_ rfl rfl rfl), below_step Q_HW hb, fun _ => ((Sc.row (T := [25, 27, 29]) (b' := w.heap.size) ho0 (below_size hb0_)).and (Sc.row (T := [25, 27, 29]) (b' := w.heap.size) ho1 (below_size hb0_))), fun h0_ => absurd ((hoff 6 (by kernel_rfl)).symm.trans h0_) (by decide), fun h0_ h1_ => blk_below (Q_K_g30 h0_ h1_) hb, Q_GW_g30, fun h0_ => absurd ((hoff 11 (by kernel_rfl)).symm.trans h0_) (by decide), fun h0_ => absurd ((hoff 7 (by kernel_rfl)).symm.trans h0_) (by decide), fun h0_ => absurd ((hoff 8 (by kernel_rfl)).symm.trans h0_) (by decide)⟩
      refine steps_cons ?_ ?_
      · rintro b a w' ⟨v_t15, v_t16, v_t22, v_t23, g30, m7_, m8_, ha, Q_HW, Q_S5, Q_S6, Q_K_g30, Q_GW_g30, Q_KE_g30, Q_X7_, Q_X8_⟩ hb_ hon hoff
        refine ⟨_, rfl, fun K hK => ?_⟩
        have e24 : a.tmps[24]? = some (.agg #[.slice A0_0 l0_0.length c0_0, .slice A0_1 l0_1.length c0_1]) := by rw [ha]; exact putSel_on (e := (0, 24, .agg #[.slice A0_0 l0_0.length c0_0, .slice A0_1 l0_1.length c0_1])) 0 rfl rfl (hon 0 (by kernel_rfl)) rfl
        have e26 : a.tmps[26]? = some (.agg #[.slice A1_0 l1_0.length c1_0, .slice A1_1 l1_1.length c1_1]) := by rw [ha]; exact putSel_on (e := (2, 26, .agg #[.slice A1_0 l1_0.length c1_0, .slice A1_1 l1_1.length c1_1])) 1 rfl rfl (hon 2 (by kernel_rfl)) rfl
        have e29 : a.tmps[29]? = some (.agg #[v_t15, v_t16]) := by rw [ha]; exact putSel_on (e := (5, 29, .agg #[v_t15, v_t16])) 3 rfl rfl (hon 5 (by kernel_rfl)) rfl
        replace ha := Aside0.mk ha
        obtain ⟨A17, c18, rfl⟩ := Kd.R_slice ((Q_S5 (hon 5 (by kernel_rfl))).now).1
        obtain ⟨A19, c20, rfl⟩ := Kd.R_slice ((Q_S5 (hon 5 (by kernel_rfl))).now).2
        have hb0_ := below_step HB.out Q_HW
        refine goes_ Try.func35 (by kernel_rfl) rfl #[.agg #[.slice A0_0 l0_0.length c0_0, .slice A0_1 l0_1.length c0_1], .agg #[.slice A1_0 l1_0.length c1_0, .slice A1_1 l1_1.length c1_1], .agg #[.slice A17 t15.length c18, .slice A19 t16.length c20]] (by rfl) rfl rfl (by first | (simp only [List.map_toArray, List.map_cons, List.map_nil, Act.eval, Array.getD_eq_getD_getElem?, Option.getD_some, e24, e26, e29]; done) | (simp only [List.map_toArray, List.map_cons, List.map_nil, Act.eval, Array.getD_eq_getD_getElem?, Option.getD_some, e24, e26, e29]; rfl)) ?_
        (with_reducible refine (morphism_Inverse.calls k _ _ l0_0 _ _ l0_1 _ _ l1_0 _ _ l1_1 _ _ t15 _ _ t16 t22 t23 t24 _ ?s1 ?s2 ?s3 ?s4 ?s5 ?s6 ?s7 ?s8 ?s9 ?s10 ?s11 ?s12 A_29.out).mono ?_)
        (case s1 => exact (Kd.C_below HR0_0.out hb0_))
        (case s2 => exact HC0_0.out)
        (case s3 => exact (Kd.C_below HR0_1.out hb0_))
        (case s4 => exact HC0_1.out)
        (case s5 => exact (Kd.C_below HR1_0.out hb0_))
        (case s6 => exact HC1_0.out)
        (case s7 => exact (Kd.C_below HR1_1.out hb0_))
        (case s8 => exact HC1_1.out)
        (case s9 => exact (Kd.R_reads' (Sc.now (Q_S5 (hon 5 (by kernel_rfl)))).1).2.2)
        (case s10 => exact (Kd.R_reads' (Sc.now (Q_S5 (hon 5 (by kernel_rfl)))).1).2.1)
        (case s11 => exact (Kd.R_reads' (Sc.now (Q_S5 (hon 5 (by kernel_rfl)))).2).2.2)
        (case s12 => exact (Kd.R_reads' (Sc.now (Q_S5 (hon 5 (by kernel_rfl)))).2).2.1)
        rintro e w33 ⟨u0_, u1_, rfl, ho0, ho1, hb⟩
        refine ⟨_, rfl, ?_⟩
        exact hK.out _ _ ⟨(.slice A17 t15.length c18), (.slice A19 t16.length c20), u0_, u1_, g30, m7_, m8_, (by rw [ha.out]; exact putSel_upk 4 hb_ rfl rfl rfl), below_step Q_HW hb, fun h0_ => (Q_S5 h0_).step (Calm.below hb), fun _ => ((Sc.row (T := [25, 27, 29]) (b' := w.heap.size) ho0 (below_size hb0_)).and (Sc.row (T := [25, 27, 29]) (b' := w.heap.size) ho1 (below_size hb0_))), fun h0_ h1_ => blk_below (Q_K_g30 h0_ h1_) hb, Q_GW_g30, fun h0_ => absurd ((hoff 11 (by kernel_rfl)).symm.trans h0_) (by decide), fun h0_ => absurd ((hoff 7 (by kernel_rfl)).symm.trans h0_) (by decide), fun h0_ => absurd ((hoff 8 (by kernel_rfl)).symm.trans h0_) (by decide)⟩
      refine steps_cons ?_ ?_
      · rintro b a w' ⟨v_t15, v_t16, v_t22, v_t23, g30, m7_, m8_, ha, Q_HW, Q_S5, Q_S6, Q_K_g30, Q_GW_g30, Q_KE_g30, Q_X7_, Q_X8_⟩ hb_ hon hoff
        refine ⟨_, rfl, fun K hK => ?_⟩
        have e30 : a.tmps[30]? = some (.tuple #[.agg #[v_t22, v_t23], .int .i64 t24]) := by rw [ha]; exact putSel_on (e := (6, 30, .tuple #[.agg #[v_t22, v_t23], .int .i64 t24])) 4 rfl rfl (hon 6 (by kernel_rfl)) rfl
        replace ha := Aside0.mk ha
        refine value_ (w1 := w') (v := .tuple #[.agg #[v_t22, v_t23], .int .i64 t24]) (by rfl) rfl (by go_simp; (try simp only [i64_w]); try rfl) ?_
        exact hK.out _ _ ⟨v_t15, v_t16, v_t22, v_t23, g30, (.tuple #[.agg #[v_t22, v_t23], .int .i64 t24]), m8_, (by rw [ha.out]; exact putSel_upk 5 hb_ rfl rfl rfl), Q_HW, Q_S5, Q_S6, Q_K_g30, Q_GW_g30, fun h0_ => absurd ((hoff 11 (by kernel_rfl)).symm.trans h0_) (by decide), fun _ => rfl, fun h0_ => absurd ((hoff 8 (by kernel_rfl)).symm.trans h0_) (by decide)⟩
      refine steps_cons ?_ ?_
      · rintro b a w' ⟨v_t15, v_t16, v_t22, v_t23, g30, m7_, m8_, ha, Q_HW, Q_S5, Q_S6, Q_K_g30, Q_GW_g30, Q_KE_g30, Q_X7_, Q_X8_⟩ hb_ hon hoff
        refine ⟨_, rfl, fun K hK => ?_⟩
        have e23 : a.tmps[23]? = some (m7_) := by rw [ha]; exact putSel_on (e := (7, 23, m7_)) 5 rfl rfl (hon 7 (by kernel_rfl)) rfl
        rw [Q_X7_ (hon 7 (by kernel_rfl))] at e23
        replace ha := Aside0.mk ha
        refine value_ (w1 := w') (v := .agg #[v_t22, v_t23]) (by rfl) rfl (by go_simp; (try simp only [i64_w]); try rfl) ?_
        exact hK.out _ _ ⟨v_t15, v_t16, v_t22, v_t23, g30, m7_, (.agg #[v_t22, v_t23]), (by rw [ha.out]; exact putSel_upk 6 hb_ rfl rfl rfl), Q_HW, Q_S5, Q_S6, Q_K_g30, Q_GW_g30, fun h0_ => absurd ((hoff 11 (by kernel_rfl)).symm.trans h0_) (by decide), Q_X7_, fun _ => rfl⟩
      refine steps_cons ?_ ?_
      · rintro b a w' ⟨v_t15, v_t16, v_t22, v_t23, g30, m7_, m8_, ha, Q_HW, Q_S5, Q_S6, Q_K_g30, Q_GW_g30, Q_KE_g30, Q_X7_, Q_X8_⟩ hb_ hon hoff
        refine ⟨_, rfl, fun K hK => ?_⟩
        have e23 : a.tmps[23]? = some (m7_) := by rw [ha]; exact putSel_on (e := (7, 23, m7_)) 5 rfl rfl (hon 7 (by kernel_rfl)) rfl
        rw [Q_X7_ (hon 7 (by kernel_rfl))] at e23
        replace ha := Aside0.mk ha
        refine value_ (w1 := w') (v := .int .i64 t24) (by rfl) rfl (by go_simp; (try simp only [i64_w]); try rfl) ?_
        exact hK.out _ _ ⟨v_t15, v_t16, v_t22, v_t23, g30, m7_, m8_, (by rw [ha.out]; exact putSel_upk 7 hb_ rfl rfl rfl), Q_HW, Q_S5, Q_S6, Q_K_g30, Q_GW_g30, Q_KE_g30, Q_X7_, Q_X8_⟩
      refine steps_cons ?_ ?_
      · rintro b a w' ⟨v_t15, v_t16, v_t22, v_t23, g30, m7_, m8_, ha, Q_HW, Q_S5, Q_S6, Q_K_g30, Q_GW_g30, Q_KE_g30, Q_X7_, Q_X8_⟩ hb_ hon hoff
        refine ⟨_, rfl, fun K hK => ?_⟩
        replace ha := Aside0.mk ha
        refine box_step ?hg (N := 5) ?hd (cs := #[.slice none 0 0, .slice none 0 0]) (t := 27) ?hr ?_; (case hd => rfl); (case hg => rfl); (case hr => first | (go_simp; done) | (go_simp; rfl))
        intro g_ hg w34 hbox hb
        exact hK.out _ _ ⟨v_t15, v_t16, v_t22, v_t23, g_, m7_, m8_, (by rw [ha.out]; exact putSel_upk 8 hb_ rfl rfl rfl), below_step Q_HW hb, fun h0_ => (Q_S5 h0_).step (Calm.below hb), fun h0_ => (Q_S6 h0_).step (Calm.below hb), fun _ _ => hbox, fun _ => (by rw [hg]; exact below_size Q_HW), fun h0_ => absurd ((hoff 11 (by kernel_rfl)).symm.trans h0_) (by decide), Q_X7_, Q_X8_⟩
      refine steps_cons ?_ ?_
      · rintro b a w' ⟨v_t15, v_t16, v_t22, v_t23, g30, m7_, m8_, ha, Q_HW, Q_S5, Q_S6, Q_K_g30, Q_GW_g30, Q_KE_g30, Q_X7_, Q_X8_⟩ hb_ hon hoff
        refine ⟨_, rfl, fun K hK => ?_⟩
        have e5 : a.tmps[5]? = some (.pointer (some ⟨g30, 0, none⟩)) := by rw [ha]; exact putSel_on (e := (10, 5, .pointer (some ⟨g30, 0, none⟩))) 8 rfl rfl (hon 10 (by kernel_rfl)) rfl
        have e31 : a.tmps[31]? = some (m8_) := by rw [ha]; exact putSel_on (e := (8, 31, m8_)) 6 rfl rfl (hon 8 (by kernel_rfl)) rfl
        rw [Q_X8_ (hon 8 (by kernel_rfl))] at e31
        replace ha := Aside0.mk ha
        obtain ⟨A25, c26, rfl⟩ := Kd.R_slice ((Q_S6 (hon 6 (by kernel_rfl))).now).1
        obtain ⟨A27, c28, rfl⟩ := Kd.R_slice ((Q_S6 (hon 6 (by kernel_rfl))).now).2
        have hs0_ : w'.cell? ⟨g30, 0, none⟩ = some (.slice none 0 0) := (blk_cell (Q_K_g30 (hon 10 (by kernel_rfl)) hb_) 0).trans rfl
        have hf0_ := blk_frozen (Q_K_g30 (hon 10 (by kernel_rfl)) hb_) 0
        have hs1_ : w'.cell? ⟨g30, 1, none⟩ = some (.slice none 0 0) := (blk_cell (Q_K_g30 (hon 10 (by kernel_rfl)) hb_) 1).trans rfl
        have hf1_ := blk_frozen (Q_K_g30 (hon 10 (by kernel_rfl)) hb_) 1
        refine skip_ (w1 := ((w'.setCell ⟨g30, 0, none⟩ (.slice A25 t22.length c26)).setCell ⟨g30, 1, none⟩ (.slice A27 t23.length c28))) (by rfl) rfl (by first | (go_simp; done) | (go_simp; rfl)) ?_
        exact hK.out _ _ ⟨v_t15, v_t16, (.slice A25 t22.length c26), (.slice A27 t23.length c28), g30, m7_, m8_, (by rw [ha.out]; exact putSel_none (v := undef) rfl), sets_below (Q_GW_g30 (hon 10 (by kernel_rfl))) [.slice A25 t22.length c26, .slice A27 t23.length c28] 0 Q_HW, fun h0_ => (Q_S5 h0_).step (sets_calm (T := [25, 27, 29]) (by decide) [.slice A25 t22.length c26, .slice A27 t23.length c28] 0 (Q_K_g30 (hon 10 (by kernel_rfl)) hb_)), fun h0_ => (Q_S6 h0_).step (sets_calm (T := [25, 27, 29]) (by decide) [.slice A25 t22.length c26, .slice A27 t23.length c28] 0 (Q_K_g30 (hon 10 (by kernel_rfl)) hb_)), fun _ h1_ => absurd ((up_self b 11).symm.trans h1_) (by decide), Q_GW_g30, fun _ => sets_blk [.slice A25 t22.length c26, .slice A27 t23.length c28] 0 (Q_K_g30 (hon 10 (by kernel_rfl)) hb_), Q_X7_, Q_X8_⟩
      refine steps_cons ?_ ?_
      · rintro b a w' ⟨v_t15, v_t16, v_t22, v_t23, g30, m7_, m8_, ha, QQ⟩ hb_ hon hoff
        refine ⟨_, rfl, fun K hK => ?_⟩
        have e32 : a.tmps[32]? = some (.int .i64 t24) := by rw [ha]; exact putSel_on (e := (9, 32, .int .i64 t24)) 7 rfl rfl (hon 9 (by kernel_rfl)) rfl
        replace ha := Aside0.mk ha
        refine value_ (w1 := w') (v := .int .i64 t24) (by rfl) rfl (by go_simp; (try simp only [i64_w]); try rfl) ?_
        exact hK.out _ _ ⟨v_t15, v_t16, v_t22, v_t23, g30, m7_, m8_, (by rw [ha.out]; exact putSel_upk 9 hb_ rfl rfl rfl), QQ⟩
      exact steps_nil
    rintro b a w35 hall ⟨v_t15, v_t16, v_t22, v_t23, g30, m7_, m8_, ha, Q_HW, Q_S5, Q_S6, Q_K_g30, Q_GW_g30, Q_KE_g30, Q_X7_, Q_X8_⟩
    have hb0_ := hall 0 (by kernel_rfl)
    have hb2_ := hall 2 (by kernel_rfl)
    have hb4_ := hall 4 (by kernel_rfl)
    have hb5_ := hall 5 (by kernel_rfl)
    have hb6_ := hall 6 (by kernel_rfl)
    have hb7_ := hall 7 (by kernel_rfl)
    have hb8_ := hall 8 (by kernel_rfl)
    have hb9_ := hall 9 (by kernel_rfl)
    have hb10_ := hall 10 (by kernel_rfl)
    have hb11_ := hall 11 (by kernel_rfl)
    have hb12_ := hall 12 (by kernel_rfl)
    subst ha
    obtain rfl := Q_X7_ hb7_
    obtain rfl := Q_X8_ hb8_
    have S5 := Aside0.mk (Q_S5 hb5_)
    clear Q_S5
    obtain ⟨A17, c18, rfl⟩ := Kd.R_slice S5.out.now.1
    obtain ⟨A19, c20, rfl⟩ := Kd.R_slice S5.out.now.2
    have S6 := Aside0.mk (Q_S6 hb6_)
    clear Q_S6
    obtain ⟨A25, c26, rfl⟩ := Kd.R_slice S6.out.now.1
    obtain ⟨A27, c28, rfl⟩ := Kd.R_slice S6.out.now.2
    simp only [putSel, hb0_, hb2_, hb4_, hb5_, hb6_, hb7_, hb8_, hb9_, hb10_, hb11_, hb12_, if_true, Act.put, List.setIfInBounds_toArray, List.set_cons_zero, List.set_cons_succ]
    replace BKg1 := kb_ BKg1.out Q_HW
    replace BKg2 := kb_ BKg2.out Q_HW
    replace BKg8 := kb_ BKg8.out Q_HW
    have BKg30 := Aside0.mk (Q_KE_g30 hb11_)
    have GWg30 := Aside0.mk (Nat.le_trans (below_size HB.out) (Q_GW_g30 hb10_))
    replace HB := Aside0.mk (below_step HB.out Q_HW)
    have GS := S5
    replace GS := Aside0.mk (GS.out.and S6.out)
    clear hall hb0_ hb2_ hb4_ hb5_ hb6_ hb7_ hb8_ hb9_ hb10_ hb11_ hb12_ Q_HW Q_K_g30 Q_GW_g30 Q_KE_g30
    clear S5 S6
    go_upto_region 4 with fail
    have H := HH.out
    clear HH
    replace H := Option.bind_eq_some_iff.mp H
    obtain ⟨⟨t36, t37, t38⟩, A_430, H⟩ := H
    (try dsimp only at H)
    have A_43 := Aside0.mk A_430
    clear A_430
    have HH := Aside0.mk H
    clear H
    have HW := Aside0.mk (Below.refl w35.heap.size w35)
    have hl0_ : w35.cell? ⟨g1, 0, none⟩ = some (.slice A0_0 l0_0.length c0_0) := (blk_cell BKg1.out 0).trans rfl
    have hl1_ : w35.cell? ⟨g1, 1, none⟩ = some (.slice A0_1 l0_1.length c0_1) := (blk_cell BKg1.out 1).trans rfl
    have hl2_ : w35.cell? ⟨g2, 0, none⟩ = some (.slice A1_0 l1_0.length c1_0) := (blk_cell BKg2.out 0).trans rfl
    have hl3_ : w35.cell? ⟨g2, 1, none⟩ = some (.slice A1_1 l1_1.length c1_1) := (blk_cell BKg2.out 1).trans rfl
    have hl4_ : w35.cell? ⟨g2, 2, none⟩ = some (.slice A1_2 l1_2.length c1_2) := (blk_cell BKg2.out 2).trans rfl
    have hl5_ : w35.cell? ⟨g2, 3, none⟩ = some (.slice A1_3 l1_3.length c1_3) := (blk_cell BKg2.out 3).trans rfl
    go_upto_region 5 with (first | ((with_reducible refine gate_callee (f := 36) rfl ?_); refine goesL_ (some 39) rfl rfl Try.func36 (by kernel_rfl) rfl #[.agg #[.slice A0_0 l0_0.length c0_0, .slice A0_1 l0_1.length c0_1], .agg #[.slice A1_0 l1_0.length c1_0, .slice A1_1 l1_1.length c1_1], .agg #[.slice A1_2 l1_2.length c1_2, .slice A1_3 l1_3.length c1_3]] rfl (by (try simp only [List.map_toArray, List.map_cons, List.map_nil]); first | done | rfl | (simp only [List.length_drop, List.length_take]; rfl)) ?_; have hb0_ := below_step HB.out HW.out; have gs_ := GS.out _ (Calm.below HW.out); (with_reducible refine (scarfjointref06_Inverse.calls k _ _ l0_0 _ _ l0_1 _ _ l1_0 _ _ l1_1 _ _ l1_2 _ _ l1_3 t36 t37 t38 _ ?s1 ?s2 ?s3 ?s4 ?s5 ?s6 ?s7 ?s8 ?s9 ?s10 ?s11 ?s12 A_43.out).mono ?_); (case s1 => exact (Kd.C_below HR0_0.out hb0_)); (case s2 => exact HC0_0.out); (case s3 => exact (Kd.C_below HR0_1.out hb0_)); (case s4 => exact HC0_1.out); (case s5 => exact (Kd.C_below HR1_0.out hb0_)); (case s6 => exact HC1_0.out); (case s7 => exact (Kd.C_below HR1_1.out hb0_)); (case s8 => exact HC1_1.out); (case s9 => exact (Kd.C_below HR1_2.out hb0_)); (case s10 => exact HC1_2.out); (case s11 => exact (Kd.C_below HR1_3.out hb0_)); (case s12 => exact HC1_3.out); rintro e w45 ⟨u0_, u1_, rfl, ho0, ho1, hb⟩; refine ⟨_, rfl, ?_⟩; obtain ⟨A39, c40, rfl⟩ := Kd.R_slice ho0; obtain ⟨A41, c42, rfl⟩ := Kd.R_slice ho1; have GN := Aside0.mk ((Sc.row (T := [25, 27, 29]) (b' := w.heap.size) ho0 (below_size hb0_)).and (Sc.row (T := [25, 27, 29]) (b' := w.heap.size) ho1 (below_size hb0_))); have n_ := Aside0.mk (below_step HW.out hb); clear HW; have HW := n_; clear n_; clear hb hb0_; (try clear gs_); (try clear gn_); clear ho0; clear ho1) | ((with_reducible refine gate_dst (N := 7) rfl ?_); refine box_event ?hg (N := 7) ?hd (cs := #[.slice none 0 0, .slice none 0 0]) (t := 27) ?hr ?_; (case hd => rfl); (case hg => rfl); (case hr => first | (go_simp; done) | (go_simp; rfl)); intro g44 hg w46 hbox hb; have GWg44 := Aside0.mk (show w35.heap.size ≤ g44 from by rw [hg]; exact below_size HW.out); replace GN := Aside0.mk (GN.out.step (Calm.below hb)); have BKg44 := Aside0.mk hbox; have n_ := Aside0.mk (below_step HW.out hb); clear HW; have HW := n_; clear n_; clear hb hbox hg) | ((with_reducible refine gate_store (t := 27) (p := 7) rfl ?_); have hs0_ : w46.cell? ⟨g44, 0, none⟩ = some (.slice none 0 0) := (blk_cell BKg44.out 0).trans rfl; have hf0_ := blk_frozen BKg44.out 0; have hs1_ : w46.cell? ⟨g44, 1, none⟩ = some (.slice none 0 0) := (blk_cell BKg44.out 1).trans rfl; have hf1_ := blk_frozen BKg44.out 1; refine store_event (t := 27) (p := 7) (v := ?vo_w47) (w1 := ((w46.setCell ⟨g44, 0, none⟩ (.slice A39 t36.length c40)).setCell ⟨g44, 1, none⟩ (.slice A41 t37.length c42))) ?hg ?ho ?hn ?hr ?_; (case ho => rfl); (case hg => rfl); (case hn => rfl); (case hr => first | (go_simp; done) | (go_simp; rfl)); intro w47 hw_; replace hw_ : w47 = sets w46 g44 0 [.slice A39 t36.length c40, .slice A41 t37.length c42] := hw_; clear hs0_ hf0_ hs1_ hf1_; replace GN := Aside0.mk (GN.out.step (hw_ ▸ sets_calm (T := [25, 27, 29]) (by decide) _ _ BKg44.out)); have n_ : Aside0 (Below w35.heap.size w35 w47) := ⟨(hw_ ▸ sets_below GWg44.out _ _ HW.out)⟩; clear HW; have HW := n_; clear n_; replace BKg44 := Aside0.mk (show w47.heap[g44]? = some (.cells #[.slice A39 t36.length c40, .slice A41 t37.length c42] 27 (0, 0)) from hw_ ▸ sets_blk _ _ BKg44.out); clear hw_))
    replace BKg1 := kb_ BKg1.out HW.out
    replace BKg2 := kb_ BKg2.out HW.out
    replace BKg8 := kb_ BKg8.out HW.out
    replace BKg30 := kb_ BKg30.out HW.out
    replace GWg44 := Aside0.mk (Nat.le_trans (below_size HB.out) GWg44.out)
    replace HB := Aside0.mk (below_step HB.out HW.out)
    replace GS := Aside0.mk ((GS.out.step (Calm.below HW.out)).and GN.out)
    clear HW GN
    (try clear hl0_)
    (try clear hl1_)
    (try clear hl2_)
    (try clear hl3_)
    (try clear hl4_)
    (try clear hl5_)
    have H := HH.out
    clear HH
    by_cases c48 : t24 = t38
    · subst c48
      rw [if_pos rfl] at H
      have c48a : (t24 == t24) = true := beq_self_eq_true _
      have c48b : (t24 != t24) = false := bne_self_eq_false _
      have HH := Aside0.mk H
      clear H
      have H := HH.out
      clear HH
      replace H := Option.bind_eq_some_iff.mp H
      obtain ⟨t49, A_500, H⟩ := H
      (try dsimp only at H)
      have A_50 := Aside0.mk A_500
      clear A_500
      have HH := Aside0.mk H
      clear H
      have H := HH.out
      clear HH
      by_cases c51 : t49 = true
      · subst c51
        rw [if_pos rfl] at H
        have HH := Aside0.mk H
        clear H
        have H := HH.out
        clear HH
        by_cases c52 : t24 = 0
        · subst c52
          rw [if_pos rfl] at H
          have HH := Aside0.mk H
          clear H
          have HW := Aside0.mk (Below.refl w47.heap.size w47)
          have hl0_ : w47.cell? ⟨g30, 0, none⟩ = some (.slice A25 t22.length c26) := (blk_cell BKg30.out 0).trans rfl
          have hl1_ : w47.cell? ⟨g30, 1, none⟩ = some (.slice A27 t23.length c28) := (blk_cell BKg30.out 1).trans rfl
          have hl2_ : w47.cell? ⟨g44, 0, none⟩ = some (.slice A39 t36.length c40) := (blk_cell BKg44.out 0).trans rfl
          have hl3_ : w47.cell? ⟨g44, 1, none⟩ = some (.slice A41 t37.length c42) := (blk_cell BKg44.out 1).trans rfl
          go_upto_region 7 with (first | ((with_reducible refine gate_callee (f := 27) rfl ?_); (try (refine gate_guard (by rfl) ?_; dsimp only)); refine goesL_ (some 48) rfl rfl Try.func27 (by kernel_rfl) rfl #[.agg #[.slice A25 t22.length c26, .slice A27 t23.length c28], .agg #[.slice A39 t36.length c40, .slice A41 t37.length c42]] rfl (by (try simp only [List.map_toArray, List.map_cons, List.map_nil]); first | done | rfl | (simp only [List.length_drop, List.length_take]; rfl)) ?_; have hb0_ := below_step HB.out HW.out; have gs_ := GS.out _ (Calm.below HW.out); (with_reducible refine (scarfjointref06_Same.calls k _ _ t22 _ _ t23 _ _ t36 _ _ t37 true _ ?s1 ?s2 ?s3 ?s4 ?s5 ?s6 ?s7 ?s8 A_50.out).mono ?_); (case s1 => exact (Kd.R_reads' gs_.1.2.1).2.2); (case s2 => exact (Kd.R_reads' gs_.1.2.1).2.1); (case s3 => exact (Kd.R_reads' gs_.1.2.2).2.2); (case s4 => exact (Kd.R_reads' gs_.1.2.2).2.1); (case s5 => exact (Kd.R_reads' gs_.2.1).2.2); (case s6 => exact (Kd.R_reads' gs_.2.1).2.1); (case s7 => exact (Kd.R_reads' gs_.2.2).2.2); (case s8 => exact (Kd.R_reads' gs_.2.2).2.1); rintro e w53 ⟨rfl, hb⟩; refine ⟨_, rfl, ?_⟩; have n_ := Aside0.mk (below_step HW.out hb); clear HW; have HW := n_; clear n_; clear hb hb0_; (try clear gs_); (try clear gn_)))
          replace BKg1 := kb_ BKg1.out HW.out
          replace BKg2 := kb_ BKg2.out HW.out
          replace BKg8 := kb_ BKg8.out HW.out
          replace BKg30 := kb_ BKg30.out HW.out
          replace BKg44 := kb_ BKg44.out HW.out
          replace HB := Aside0.mk (below_step HB.out HW.out)
          replace GS := Aside0.mk (GS.out.step (Calm.below HW.out))
          clear HW
          (try clear hl0_)
          (try clear hl1_)
          (try clear hl2_)
          (try clear hl3_)
          have H := HH.out
          clear HH
          replace H := Option.bind_eq_some_iff.mp H
          obtain ⟨⟨t54, t55, t56⟩, A_610, H⟩ := H
          (try dsimp only at H)
          have A_61 := Aside0.mk A_610
          clear A_610
          have HH := Aside0.mk H
          clear H
          have HW := Aside0.mk (Below.refl w53.heap.size w53)
          have hl0_ : w53.cell? ⟨g1, 0, none⟩ = some (.slice A0_0 l0_0.length c0_0) := (blk_cell BKg1.out 0).trans rfl
          have hl1_ : w53.cell? ⟨g1, 1, none⟩ = some (.slice A0_1 l0_1.length c0_1) := (blk_cell BKg1.out 1).trans rfl
          have hl2_ : w53.cell? ⟨g2, 0, none⟩ = some (.slice A1_0 l1_0.length c1_0) := (blk_cell BKg2.out 0).trans rfl
          have hl3_ : w53.cell? ⟨g2, 1, none⟩ = some (.slice A1_1 l1_1.length c1_1) := (blk_cell BKg2.out 1).trans rfl
          have hl4_ : w53.cell? ⟨g2, 2, none⟩ = some (.slice A1_2 l1_2.length c1_2) := (blk_cell BKg2.out 2).trans rfl
          have hl5_ : w53.cell? ⟨g2, 3, none⟩ = some (.slice A1_3 l1_3.length c1_3) := (blk_cell BKg2.out 3).trans rfl
          have hl6_ : w53.cell? ⟨g30, 0, none⟩ = some (.slice A25 t22.length c26) := (blk_cell BKg30.out 0).trans rfl
          have hl7_ : w53.cell? ⟨g30, 1, none⟩ = some (.slice A27 t23.length c28) := (blk_cell BKg30.out 1).trans rfl
          go_upto_region 8 with (first | ((with_reducible refine gate_callee (f := 29) rfl ?_); refine goesL_ (some 71) rfl rfl Try.func29 (by kernel_rfl) rfl #[.agg #[.slice A0_0 l0_0.length c0_0, .slice A0_1 l0_1.length c0_1], .agg #[.slice A1_0 l1_0.length c1_0, .slice A1_1 l1_1.length c1_1], .agg #[.slice A0_0 l0_0.length c0_0, .slice A0_1 l0_1.length c0_1], .agg #[.slice A1_2 l1_2.length c1_2, .slice A1_3 l1_3.length c1_3], .agg #[.slice A25 t22.length c26, .slice A27 t23.length c28]] rfl (by (try simp only [List.map_toArray, List.map_cons, List.map_nil]); first | done | rfl | (simp only [List.length_drop, List.length_take]; rfl)) ?_; have hb0_ := below_step HB.out HW.out; have gs_ := GS.out _ (Calm.below HW.out); (with_reducible refine (morphism_Compose.calls k _ _ l0_0 _ _ l0_1 _ _ l1_0 _ _ l1_1 _ _ l0_0 _ _ l0_1 _ _ l1_2 _ _ l1_3 _ _ t22 _ _ t23 t54 t55 t56 _ ?s1 ?s2 ?s3 ?s4 ?s5 ?s6 ?s7 ?s8 ?s9 ?s10 ?s11 ?s12 ?s13 ?s14 ?s15 ?s16 ?s17 ?s18 ?s19 ?s20 A_61.out).mono ?_); (case s1 => exact (Kd.C_below HR0_0.out hb0_)); (case s2 => exact HC0_0.out); (case s3 => exact (Kd.C_below HR0_1.out hb0_)); (case s4 => exact HC0_1.out); (case s5 => exact (Kd.C_below HR1_0.out hb0_)); (case s6 => exact HC1_0.out); (case s7 => exact (Kd.C_below HR1_1.out hb0_)); (case s8 => exact HC1_1.out); (case s9 => exact (Kd.C_below HR0_0.out hb0_)); (case s10 => exact HC0_0.out); (case s11 => exact (Kd.C_below HR0_1.out hb0_)); (case s12 => exact HC0_1.out); (case s13 => exact (Kd.C_below HR1_2.out hb0_)); (case s14 => exact HC1_2.out); (case s15 => exact (Kd.C_below HR1_3.out hb0_)); (case s16 => exact HC1_3.out); (case s17 => exact (Kd.R_reads' gs_.1.2.1).2.2); (case s18 => exact (Kd.R_reads' gs_.1.2.1).2.1); (case s19 => exact (Kd.R_reads' gs_.1.2.2).2.2); (case s20 => exact (Kd.R_reads' gs_.1.2.2).2.1); rintro e w63 ⟨u0_, u1_, rfl, ho0, ho1, hb⟩; refine ⟨_, rfl, ?_⟩; obtain ⟨A57, c58, rfl⟩ := Kd.R_slice ho0; obtain ⟨A59, c60, rfl⟩ := Kd.R_slice ho1; have GN := Aside0.mk ((Sc.row (T := [25, 27, 29]) (b' := w.heap.size) ho0 (below_size hb0_)).and (Sc.row (T := [25, 27, 29]) (b' := w.heap.size) ho1 (below_size hb0_))); have n_ := Aside0.mk (below_step HW.out hb); clear HW; have HW := n_; clear n_; clear hb hb0_; (try clear gs_); (try clear gn_); clear ho0; clear ho1) | ((with_reducible refine gate_dst (N := 9) rfl ?_); refine box_event ?hg (N := 9) ?hd (cs := #[.slice none 0 0, .slice none 0 0]) (t := 27) ?hr ?_; (case hd => rfl); (case hg => rfl); (case hr => first | (go_simp; done) | (go_simp; rfl)); intro g62 hg w64 hbox hb; have GWg62 := Aside0.mk (show w53.heap.size ≤ g62 from by rw [hg]; exact below_size HW.out); replace GN := Aside0.mk (GN.out.step (Calm.below hb)); have BKg62 := Aside0.mk hbox; have n_ := Aside0.mk (below_step HW.out hb); clear HW; have HW := n_; clear n_; clear hb hbox hg) | ((with_reducible refine gate_store (t := 27) (p := 9) rfl ?_); have hs0_ : w64.cell? ⟨g62, 0, none⟩ = some (.slice none 0 0) := (blk_cell BKg62.out 0).trans rfl; have hf0_ := blk_frozen BKg62.out 0; have hs1_ : w64.cell? ⟨g62, 1, none⟩ = some (.slice none 0 0) := (blk_cell BKg62.out 1).trans rfl; have hf1_ := blk_frozen BKg62.out 1; refine store_event (t := 27) (p := 9) (v := ?vo_w65) (w1 := ((w64.setCell ⟨g62, 0, none⟩ (.slice A57 t54.length c58)).setCell ⟨g62, 1, none⟩ (.slice A59 t55.length c60))) ?hg ?ho ?hn ?hr ?_; (case ho => rfl); (case hg => rfl); (case hn => rfl); (case hr => first | (go_simp; done) | (go_simp; rfl)); intro w65 hw_; replace hw_ : w65 = sets w64 g62 0 [.slice A57 t54.length c58, .slice A59 t55.length c60] := hw_; clear hs0_ hf0_ hs1_ hf1_; replace GN := Aside0.mk (GN.out.step (hw_ ▸ sets_calm (T := [25, 27, 29]) (by decide) _ _ BKg62.out)); have n_ : Aside0 (Below w53.heap.size w53 w65) := ⟨(hw_ ▸ sets_below GWg62.out _ _ HW.out)⟩; clear HW; have HW := n_; clear n_; replace BKg62 := Aside0.mk (show w65.heap[g62]? = some (.cells #[.slice A57 t54.length c58, .slice A59 t55.length c60] 27 (0, 0)) from hw_ ▸ sets_blk _ _ BKg62.out); clear hw_))
          replace BKg1 := kb_ BKg1.out HW.out
          replace BKg2 := kb_ BKg2.out HW.out
          replace BKg8 := kb_ BKg8.out HW.out
          replace BKg30 := kb_ BKg30.out HW.out
          replace BKg44 := kb_ BKg44.out HW.out
          replace GWg62 := Aside0.mk (Nat.le_trans (below_size HB.out) GWg62.out)
          replace HB := Aside0.mk (below_step HB.out HW.out)
          replace GS := Aside0.mk ((GS.out.step (Calm.below HW.out)).and GN.out)
          clear HW GN
          (try clear hl0_)
          (try clear hl1_)
          (try clear hl2_)
          (try clear hl3_)
          (try clear hl4_)
          (try clear hl5_)
          (try clear hl6_)
          (try clear hl7_)
          have H := HH.out
          clear HH
          replace H := Option.bind_eq_some_iff.mp H
          obtain ⟨⟨t66, t67, t68⟩, A_730, H⟩ := H
          (try dsimp only at H)
          have A_73 := Aside0.mk A_730
          clear A_730
          have HH := Aside0.mk H
          clear H
          have HW := Aside0.mk (Below.refl w65.heap.size w65)
          have hl0_ : w65.cell? ⟨g2, 0, none⟩ = some (.slice A1_0 l1_0.length c1_0) := (blk_cell BKg2.out 0).trans rfl
          have hl1_ : w65.cell? ⟨g2, 1, none⟩ = some (.slice A1_1 l1_1.length c1_1) := (blk_cell BKg2.out 1).trans rfl
          have hl2_ : w65.cell? ⟨g1, 0, none⟩ = some (.slice A0_0 l0_0.length c0_0) := (blk_cell BKg1.out 0).trans rfl
          have hl3_ : w65.cell? ⟨g1, 1, none⟩ = some (.slice A0_1 l0_1.length c0_1) := (blk_cell BKg1.out 1).trans rfl
          have hl4_ : w65.cell? ⟨g30, 0, none⟩ = some (.slice A25 t22.length c26) := (blk_cell BKg30.out 0).trans rfl
          have hl5_ : w65.cell? ⟨g30, 1, none⟩ = some (.slice A27 t23.length c28) := (blk_cell BKg30.out 1).trans rfl
          have hl6_ : w65.cell? ⟨g2, 2, none⟩ = some (.slice A1_2 l1_2.length c1_2) := (blk_cell BKg2.out 2).trans rfl
          have hl7_ : w65.cell? ⟨g2, 3, none⟩ = some (.slice A1_3 l1_3.length c1_3) := (blk_cell BKg2.out 3).trans rfl
          go_upto_region 9 with (first | ((with_reducible refine gate_callee (f := 29) rfl ?_); refine goesL_ (some 83) rfl rfl Try.func29 (by kernel_rfl) rfl #[.agg #[.slice A1_0 l1_0.length c1_0, .slice A1_1 l1_1.length c1_1], .agg #[.slice A0_0 l0_0.length c0_0, .slice A0_1 l0_1.length c0_1], .agg #[.slice A1_0 l1_0.length c1_0, .slice A1_1 l1_1.length c1_1], .agg #[.slice A25 t22.length c26, .slice A27 t23.length c28], .agg #[.slice A1_2 l1_2.length c1_2, .slice A1_3 l1_3.length c1_3]] rfl (by (try simp only [List.map_toArray, List.map_cons, List.map_nil]); first | done | rfl | (simp only [List.length_drop, List.length_take]; rfl)) ?_; have hb0_ := below_step HB.out HW.out; have gs_ := GS.out _ (Calm.below HW.out); (with_reducible refine (morphism_Compose.calls k _ _ l1_0 _ _ l1_1 _ _ l0_0 _ _ l0_1 _ _ l1_0 _ _ l1_1 _ _ t22 _ _ t23 _ _ l1_2 _ _ l1_3 t66 t67 t68 _ ?s1 ?s2 ?s3 ?s4 ?s5 ?s6 ?s7 ?s8 ?s9 ?s10 ?s11 ?s12 ?s13 ?s14 ?s15 ?s16 ?s17 ?s18 ?s19 ?s20 A_73.out).mono ?_); (case s1 => exact (Kd.C_below HR1_0.out hb0_)); (case s2 => exact HC1_0.out); (case s3 => exact (Kd.C_below HR1_1.out hb0_)); (case s4 => exact HC1_1.out); (case s5 => exact (Kd.C_below HR0_0.out hb0_)); (case s6 => exact HC0_0.out); (case s7 => exact (Kd.C_below HR0_1.out hb0_)); (case s8 => exact HC0_1.out); (case s9 => exact (Kd.C_below HR1_0.out hb0_)); (case s10 => exact HC1_0.out); (case s11 => exact (Kd.C_below HR1_1.out hb0_)); (case s12 => exact HC1_1.out); (case s13 => exact (Kd.R_reads' gs_.1.1.2.1).2.2); (case s14 => exact (Kd.R_reads' gs_.1.1.2.1).2.1); (case s15 => exact (Kd.R_reads' gs_.1.1.2.2).2.2); (case s16 => exact (Kd.R_reads' gs_.1.1.2.2).2.1); (case s17 => exact (Kd.C_below HR1_2.out hb0_)); (case s18 => exact HC1_2.out); (case s19 => exact (Kd.C_below HR1_3.out hb0_)); (case s20 => exact HC1_3.out); rintro e w75 ⟨u0_, u1_, rfl, ho0, ho1, hb⟩; refine ⟨_, rfl, ?_⟩; obtain ⟨A69, c70, rfl⟩ := Kd.R_slice ho0; obtain ⟨A71, c72, rfl⟩ := Kd.R_slice ho1; have GN := Aside0.mk ((Sc.row (T := [25, 27, 29]) (b' := w.heap.size) ho0 (below_size hb0_)).and (Sc.row (T := [25, 27, 29]) (b' := w.heap.size) ho1 (below_size hb0_))); have n_ := Aside0.mk (below_step HW.out hb); clear HW; have HW := n_; clear n_; clear hb hb0_; (try clear gs_); (try clear gn_); clear ho0; clear ho1) | ((with_reducible refine gate_dst (N := 11) rfl ?_); refine box_event ?hg (N := 11) ?hd (cs := #[.slice none 0 0, .slice none 0 0]) (t := 27) ?hr ?_; (case hd => rfl); (case hg => rfl); (case hr => first | (go_simp; done) | (go_simp; rfl)); intro g74 hg w76 hbox hb; have GWg74 := Aside0.mk (show w65.heap.size ≤ g74 from by rw [hg]; exact below_size HW.out); replace GN := Aside0.mk (GN.out.step (Calm.below hb)); have BKg74 := Aside0.mk hbox; have n_ := Aside0.mk (below_step HW.out hb); clear HW; have HW := n_; clear n_; clear hb hbox hg) | ((with_reducible refine gate_store (t := 27) (p := 11) rfl ?_); have hs0_ : w76.cell? ⟨g74, 0, none⟩ = some (.slice none 0 0) := (blk_cell BKg74.out 0).trans rfl; have hf0_ := blk_frozen BKg74.out 0; have hs1_ : w76.cell? ⟨g74, 1, none⟩ = some (.slice none 0 0) := (blk_cell BKg74.out 1).trans rfl; have hf1_ := blk_frozen BKg74.out 1; refine store_event (t := 27) (p := 11) (v := ?vo_w77) (w1 := ((w76.setCell ⟨g74, 0, none⟩ (.slice A69 t66.length c70)).setCell ⟨g74, 1, none⟩ (.slice A71 t67.length c72))) ?hg ?ho ?hn ?hr ?_; (case ho => rfl); (case hg => rfl); (case hn => rfl); (case hr => first | (go_simp; done) | (go_simp; rfl)); intro w77 hw_; replace hw_ : w77 = sets w76 g74 0 [.slice A69 t66.length c70, .slice A71 t67.length c72] := hw_; clear hs0_ hf0_ hs1_ hf1_; replace GN := Aside0.mk (GN.out.step (hw_ ▸ sets_calm (T := [25, 27, 29]) (by decide) _ _ BKg74.out)); have n_ : Aside0 (Below w65.heap.size w65 w77) := ⟨(hw_ ▸ sets_below GWg74.out _ _ HW.out)⟩; clear HW; have HW := n_; clear n_; replace BKg74 := Aside0.mk (show w77.heap[g74]? = some (.cells #[.slice A69 t66.length c70, .slice A71 t67.length c72] 27 (0, 0)) from hw_ ▸ sets_blk _ _ BKg74.out); clear hw_))
          replace BKg1 := kb_ BKg1.out HW.out
          replace BKg2 := kb_ BKg2.out HW.out
          replace BKg8 := kb_ BKg8.out HW.out
          replace BKg30 := kb_ BKg30.out HW.out
          replace BKg44 := kb_ BKg44.out HW.out
          replace BKg62 := kb_ BKg62.out HW.out
          replace GWg74 := Aside0.mk (Nat.le_trans (below_size HB.out) GWg74.out)
          replace HB := Aside0.mk (below_step HB.out HW.out)
          replace GS := Aside0.mk ((GS.out.step (Calm.below HW.out)).and GN.out)
          clear HW GN
          (try clear hl0_)
          (try clear hl1_)
          (try clear hl2_)
          (try clear hl3_)
          (try clear hl4_)
          (try clear hl5_)
          (try clear hl6_)
          (try clear hl7_)
          have H := HH.out
          clear HH
          by_cases c78 : t56 = 0
          · subst c78
            rw [if_pos rfl] at H
            have HH := Aside0.mk H
            clear H
            have H := HH.out
            clear HH
            by_cases c79 : t68 = 0
            · subst c79
              rw [if_pos rfl] at H
              have HH := Aside0.mk H
              clear H
              have H := HH.out
              clear HH
              replace H := Option.bind_eq_some_iff.mp H
              obtain ⟨⟨t80, t81⟩, A_860, H⟩ := H
              (try dsimp only at H)
              have A_86 := Aside0.mk A_860
              clear A_860
              have HH := Aside0.mk H
              clear H
              have H := HH.out
              clear HH
              replace H := Option.bind_eq_some_iff.mp H
              obtain ⟨t87, A_880, H⟩ := H
              (try dsimp only at H)
              have A_88 := Aside0.mk A_880
              clear A_880
              have HH := Aside0.mk H
              clear H
              have H := HH.out
              clear HH
              by_cases c89 : t87 = true
              · subst c89
                rw [if_pos rfl] at H
                have HH := Aside0.mk H
                clear H
                have H := HH.out
                clear HH
                replace H := Option.bind_eq_some_iff.mp H
                obtain ⟨⟨t90, t91⟩, A_960, H⟩ := H
                (try dsimp only at H)
                have A_96 := Aside0.mk A_960
                clear A_960
                have HH := Aside0.mk H
                clear H
                have H := HH.out
                clear HH
                replace H := Option.bind_eq_some_iff.mp H
                obtain ⟨t97, A_980, H⟩ := H
                (try dsimp only at H)
                have A_98 := Aside0.mk A_980
                clear A_980
                have HH := Aside0.mk H
                clear H
                refine start_ (n := 20) (S := fun _ => True) (ds := []) (bm_ 20 0) (by kernel_rfl) rfl (by kernel_rfl) trivial (fun hHeld => ?_)
                clear hHeld
                refine with_tabW scarfjointlaw06_MorphismInverse.tab9 scarfjointlaw06_MorphismInverse.bits9 (fun HT_ HW_ => ?_)
                have hd_ : Below w77.heap.size w77 w77.drew := below_drew1 (Below.refl _ _)
                generalize w77.drew = w99 at hd_ ⊢
                replace BKg1 := kb_ BKg1.out hd_
                replace BKg2 := kb_ BKg2.out hd_
                replace BKg8 := kb_ BKg8.out hd_
                replace BKg30 := kb_ BKg30.out hd_
                replace BKg44 := kb_ BKg44.out hd_
                replace BKg62 := kb_ BKg62.out hd_
                replace BKg74 := kb_ BKg74.out hd_
                replace GS := Aside0.mk (GS.out.step (Calm.below hd_))
                replace HB := Aside0.mk (below_step HB.out hd_)
                clear hd_
                refine pw_ (i := 0) (N := some 86) (bm_ 20 1) rfl HT_.out ?_
                refine pw_ (i := 1) (N := some 87) (bm_ 20 3) rfl HT_.out ?_
                refine pw_ (i := 2) (N := some 88) (bm_ 20 7) rfl HT_.out ?_
                refine pw_ (i := 3) (N := some 89) (bm_ 20 15) rfl HT_.out ?_
                refine pw_ (i := 4) (N := some 90) (bm_ 20 31) rfl HT_.out ?_
                refine pw_ (i := 5) (N := some 91) (bm_ 20 63) rfl HT_.out ?_
                refine pw_ (i := 6) (N := some 92) (bm_ 20 127) rfl HT_.out ?_
                refine inv_at [7, 8, 9, 10, 11, 12, 13, 14, 15, 16, 17, 18, 19] (fun a0_ b a w' => ∃ (v_t80 : Value) (v_t81 : Value) (v_t90 : Value) (v_t91 : Value), a = putSel a0_ b [(7, 93, .agg #[.slice A57 t54.length c58, .slice A59 t55.length c60]), (8, 94, .agg #[.slice A0_0 l0_0.length c0_0, .slice A0_1 l0_1.length c0_1]), (9, 95, .agg #[v_t80, v_t81]), (10, 96, .bool true), (11, 97, .bool true), (12, 98, .bool true), (13, 99, .agg #[.slice A69 t66.length c70, .slice A71 t67.length c72]), (14, 100, .pointer (some ⟨g2, 0, none⟩)), (15, 101, .agg #[.slice A1_0 l1_0.length c1_0, .slice A1_1 l1_1.length c1_1]), (16, 102, .agg #[v_t90, v_t91]), (17, 103, .bool t97), (18, 104, .bool t97), (19, 4, .bool t97)] ∧ (Below w99.heap.size w99 w') ∧ (b 9 = true → Sc [25, 27, 29] (fun v' => (Kd.R (Kd.int .i64) 3 v' w.heap.size (fun _ => True) v_t80 t80) ∧ Kd.R (Kd.int .i64) 3 v' w.heap.size (fun _ => True) v_t81 t81) w') ∧ (b 16 = true → Sc [25, 27, 29] (fun v' => (Kd.R (Kd.int .i64) 3 v' w.heap.size (fun _ => True) v_t90 t90) ∧ Kd.R (Kd.int .i64) 3 v' w.heap.size (fun _ => True) v_t91 t91) w')) HT_.out HW_.out (by kernel_rfl) (by kernel_rfl) ?_ ?_ ?_
                · exact ⟨.bool false, .bool false, .bool false, .bool false, by simp only [putSel, Bool.false_eq_true, if_false], Below.refl _ _, fun h_ => absurd h_ (by decide), fun h_ => absurd h_ (by decide)⟩
                · skip
                  refine steps_cons ?_ ?_
                  · rintro b a w' ⟨v_t80, v_t81, v_t90, v_t91, ha, QQ⟩ hb_ hon hoff
                    refine ⟨_, rfl, fun K hK => ?_⟩
                    have e9 : a.tmps[9]? = some (.pointer (some ⟨g62, 0, none⟩)) := by rw [ha]; exact (putSel_off rfl).trans rfl
                    have e92 : a.tmps[92]? = some (.bool true) := by rw [ha]; exact (putSel_off rfl).trans rfl
                    replace ha := Aside0.mk ha
                    have hc0_ : w'.cell? ⟨g62, 0, none⟩ = some (.slice A57 t54.length c58) := (blk_cell (blk_below BKg62.out QQ.1) 0).trans rfl
                    have hc1_ : w'.cell? ⟨g62, 1, none⟩ = some (.slice A59 t55.length c60) := (blk_cell (blk_below BKg62.out QQ.1) 1).trans rfl
                    refine value_ (w1 := w') (v := .agg #[.slice A57 t54.length c58, .slice A59 t55.length c60]) (wanted_on rfl rfl rfl (e92.trans (by first | rfl | (simp [*]; done)))) rfl (by go_simp; (try simp only [i64_w]); try rfl) ?_
                    exact hK.out _ _ ⟨v_t80, v_t81, v_t90, v_t91, (by rw [ha.out]; exact putSel_upk 0 hb_ rfl rfl rfl), QQ⟩
                  refine steps_cons ?_ ?_
                  · rintro b a w' ⟨v_t80, v_t81, v_t90, v_t91, ha, QQ⟩ hb_ hon hoff
                    refine ⟨_, rfl, fun K hK => ?_⟩
                    have e2 : a.tmps[2]? = some (.pointer (some ⟨g1, 0, none⟩)) := by rw [ha]; exact (putSel_off rfl).trans rfl
                    have e92 : a.tmps[92]? = some (.bool true) := by rw [ha]; exact (putSel_off rfl).trans rfl
                    replace ha := Aside0.mk ha
                    have hc0_ : w'.cell? ⟨g1, 0, none⟩ = some (.slice A0_0 l0_0.length c0_0) := (blk_cell (blk_below BKg1.out QQ.1) 0).trans rfl
                    have hc1_ : w'.cell? ⟨g1, 1, none⟩ = some (.slice A0_1 l0_1.length c0_1) := (blk_cell (blk_below BKg1.out QQ.1) 1).trans rfl
                    refine value_ (w1 := w') (v := .agg #[.slice A0_0 l0_0.length c0_0, .slice A0_1 l0_1.length c0_1]) (wanted_on rfl rfl rfl (e92.trans (by first | rfl | (simp [*]; done)))) rfl (by go_simp; (try simp only [i64_w]); try rfl) ?_
                    exact hK.out _ _ ⟨v_t80, v_t81, v_t90, v_t91, (by rw [ha.out]; exact putSel_upk 1 hb_ rfl rfl rfl), QQ⟩
                  refine steps_cons ?_ ?_
                  · rintro b a w' ⟨v_t80, v_t81, v_t90, v_t91, ha, Q_HW, Q_S9, Q_S16⟩ hb_ hon hoff
                    refine ⟨_, rfl, fun K hK => ?_⟩
                    have e94 : a.tmps[94]? = some (.agg #[.slice A0_0 l0_0.length c0_0, .slice A0_1 l0_1.length c0_1]) := by rw [ha]; exact putSel_on (e := (8, 94, .agg #[.slice A0_0 l0_0.length c0_0, .slice A0_1 l0_1.length c0_1])) 1 rfl rfl (hon 8 (by kernel_rfl)) rfl
                    have e92 : a.tmps[92]? = some (.bool true) := by rw [ha]; exact (putSel_off rfl).trans rfl
                    replace ha := Aside0.mk ha
                    have hb0_ := below_step HB.out Q_HW
                    have gs_ := GS.out _ (Calm.below Q_HW)
                    refine goes_ Try.func37 (by kernel_rfl) rfl #[.agg #[.slice A0_0 l0_0.length c0_0, .slice A0_1 l0_1.length c0_1]] (wanted_on rfl rfl rfl (e92.trans (by first | rfl | (simp [*]; done)))) rfl rfl (by first | (simp only [List.map_toArray, List.map_cons, List.map_nil, Act.eval, Array.getD_eq_getD_getElem?, Option.getD_some, e94, e92]; done) | (simp only [List.map_toArray, List.map_cons, List.map_nil, Act.eval, Array.getD_eq_getD_getElem?, Option.getD_some, e94, e92]; rfl)) ?_
                    (with_reducible refine (scarfjointref06_Of.calls k _ _ l0_0 _ _ l0_1 t80 t81 _ ?s1 ?s2 ?s3 ?s4 A_86.out).mono ?_)
                    (case s1 => exact (Kd.C_below HR0_0.out hb0_))
                    (case s2 => exact HC0_0.out)
                    (case s3 => exact (Kd.C_below HR0_1.out hb0_))
                    (case s4 => exact HC0_1.out)
                    rintro e w100 ⟨u0_, u1_, rfl, ho0, ho1, hb⟩
                    refine ⟨_, rfl, ?_⟩
                    exact hK.out _ _ ⟨u0_, u1_, v_t90, v_t91, (by rw [ha.out]; exact putSel_upk 2 hb_ rfl rfl rfl), below_step Q_HW hb, fun _ => ((Sc.row (T := [25, 27, 29]) (b' := w.heap.size) ho0 (below_size hb0_)).and (Sc.row (T := [25, 27, 29]) (b' := w.heap.size) ho1 (below_size hb0_))), fun h0_ => absurd ((hoff 16 (by kernel_rfl)).symm.trans h0_) (by decide)⟩
                  refine steps_cons ?_ ?_
                  · rintro b a w' ⟨v_t80, v_t81, v_t90, v_t91, ha, Q_HW, Q_S9, Q_S16⟩ hb_ hon hoff
                    refine ⟨_, rfl, fun K hK => ?_⟩
                    have e93 : a.tmps[93]? = some (.agg #[.slice A57 t54.length c58, .slice A59 t55.length c60]) := by rw [ha]; exact putSel_on (e := (7, 93, .agg #[.slice A57 t54.length c58, .slice A59 t55.length c60])) 0 rfl rfl (hon 7 (by kernel_rfl)) rfl
                    have e95 : a.tmps[95]? = some (.agg #[v_t80, v_t81]) := by rw [ha]; exact putSel_on (e := (9, 95, .agg #[v_t80, v_t81])) 2 rfl rfl (hon 9 (by kernel_rfl)) rfl
                    have e92 : a.tmps[92]? = some (.bool true) := by rw [ha]; exact (putSel_off rfl).trans rfl
                    replace ha := Aside0.mk ha
                    obtain ⟨A82, c83, rfl⟩ := Kd.R_slice ((Q_S9 (hon 9 (by kernel_rfl))).now).1
                    obtain ⟨A84, c85, rfl⟩ := Kd.R_slice ((Q_S9 (hon 9 (by kernel_rfl))).now).2
                    have hb0_ := below_step HB.out Q_HW
                    have gs_ := GS.out _ (Calm.below Q_HW)
                    refine goes_ Try.func27 (by kernel_rfl) rfl #[.agg #[.slice A57 t54.length c58, .slice A59 t55.length c60], .agg #[.slice A82 t80.length c83, .slice A84 t81.length c85]] (wanted_on rfl rfl rfl (e92.trans (by first | rfl | (simp [*]; done)))) rfl rfl (by first | (simp only [List.map_toArray, List.map_cons, List.map_nil, Act.eval, Array.getD_eq_getD_getElem?, Option.getD_some, e93, e95, e92]; done) | (simp only [List.map_toArray, List.map_cons, List.map_nil, Act.eval, Array.getD_eq_getD_getElem?, Option.getD_some, e93, e95, e92]; rfl)) ?_
                    (with_reducible refine (scarfjointref06_Same.calls k _ _ t54 _ _ t55 _ _ t80 _ _ t81 true _ ?s1 ?s2 ?s3 ?s4 ?s5 ?s6 ?s7 ?s8 A_88.out).mono ?_)
                    (case s1 => exact (Kd.R_reads' gs_.1.2.1).2.2)
                    (case s2 => exact (Kd.R_reads' gs_.1.2.1).2.1)
                    (case s3 => exact (Kd.R_reads' gs_.1.2.2).2.2)
                    (case s4 => exact (Kd.R_reads' gs_.1.2.2).2.1)
                    (case s5 => exact (Kd.R_reads' (Sc.now (Q_S9 (hon 9 (by kernel_rfl)))).1).2.2)
                    (case s6 => exact (Kd.R_reads' (Sc.now (Q_S9 (hon 9 (by kernel_rfl)))).1).2.1)
                    (case s7 => exact (Kd.R_reads' (Sc.now (Q_S9 (hon 9 (by kernel_rfl)))).2).2.2)
                    (case s8 => exact (Kd.R_reads' (Sc.now (Q_S9 (hon 9 (by kernel_rfl)))).2).2.1)
                    rintro e w101 ⟨rfl, hb⟩
                    refine ⟨_, rfl, ?_⟩
                    exact hK.out _ _ ⟨(.slice A82 t80.length c83), (.slice A84 t81.length c85), v_t90, v_t91, (by rw [ha.out]; exact putSel_upk 3 hb_ rfl rfl rfl), below_step Q_HW hb, fun h0_ => (Q_S9 h0_).step (Calm.below hb), fun h0_ => absurd ((hoff 16 (by kernel_rfl)).symm.trans h0_) (by decide)⟩
                  refine steps_cons ?_ ?_
                  · rintro b a w' ⟨v_t80, v_t81, v_t90, v_t91, ha, QQ⟩ hb_ hon hoff
                    refine ⟨_, rfl, fun K hK => ?_⟩
                    have e92 : a.tmps[92]? = some (.bool true) := by rw [ha]; exact (putSel_off rfl).trans rfl
                    have e96 : a.tmps[96]? = some (.bool true) := by rw [ha]; exact putSel_on (e := (10, 96, .bool true)) 3 rfl rfl (hon 10 (by kernel_rfl)) rfl
                    replace ha := Aside0.mk ha
                    refine value_ (w1 := w') (v := .bool true) (by rfl) rfl (by go_simp; (try simp only [i64_w]); try rfl) ?_
                    exact hK.out _ _ ⟨v_t80, v_t81, v_t90, v_t91, (by rw [ha.out]; exact putSel_upk 4 hb_ rfl rfl rfl), QQ⟩
                  refine steps_cons ?_ ?_
                  · rintro b a w' ⟨v_t80, v_t81, v_t90, v_t91, ha, QQ⟩ hb_ hon hoff
                    refine ⟨_, rfl, fun K hK => ?_⟩
                    have e97 : a.tmps[97]? = some (.bool true) := by rw [ha]; exact putSel_on (e := (11, 97, .bool true)) 4 rfl rfl (hon 11 (by kernel_rfl)) rfl
                    replace ha := Aside0.mk ha
                    refine value_ (w1 := w') (v := .bool true) (by rfl) rfl (by go_simp; (try simp only [i64_w]); try rfl) ?_
                    exact hK.out _ _ ⟨v_t80, v_t81, v_t90, v_t91, (by rw [ha.out]; exact putSel_upk 5 hb_ rfl rfl rfl), QQ⟩
                  refine steps_cons ?_ ?_
                  · rintro b a w' ⟨v_t80, v_t81, v_t90, v_t91, ha, QQ⟩ hb_ hon hoff
                    refine ⟨_, rfl, fun K hK => ?_⟩
                    have e11 : a.tmps[11]? = some (.pointer (some ⟨g74, 0, none⟩)) := by rw [ha]; exact (putSel_off rfl).trans rfl
                    have e98 : a.tmps[98]? = some (.bool true) := by rw [ha]; exact putSel_on (e := (12, 98, .bool true)) 5 rfl rfl (hon 12 (by kernel_rfl)) rfl
                    replace ha := Aside0.mk ha
                    have hc0_ : w'.cell? ⟨g74, 0, none⟩ = some (.slice A69 t66.length c70) := (blk_cell (blk_below BKg74.out QQ.1) 0).trans rfl
                    have hc1_ : w'.cell? ⟨g74, 1, none⟩ = some (.slice A71 t67.length c72) := (blk_cell (blk_below BKg74.out QQ.1) 1).trans rfl
                    refine value_ (w1 := w') (v := .agg #[.slice A69 t66.length c70, .slice A71 t67.length c72]) (wanted_on rfl rfl rfl (e98.trans (by first | rfl | (simp [*]; done)))) rfl (by go_simp; (try simp only [i64_w]); try rfl) ?_
                    exact hK.out _ _ ⟨v_t80, v_t81, v_t90, v_t91, (by rw [ha.out]; exact putSel_upk 6 hb_ rfl rfl rfl), QQ⟩
                  refine steps_cons ?_ ?_
                  · rintro b a w' ⟨v_t80, v_t81, v_t90, v_t91, ha, QQ⟩ hb_ hon hoff
                    refine ⟨_, rfl, fun K hK => ?_⟩
                    have e3 : a.tmps[3]? = some (.pointer (some ⟨g2, 0, none⟩)) := by rw [ha]; exact (putSel_off rfl).trans rfl
                    have e98 : a.tmps[98]? = some (.bool true) := by rw [ha]; exact putSel_on (e := (12, 98, .bool true)) 5 rfl rfl (hon 12 (by kernel_rfl)) rfl
                    replace ha := Aside0.mk ha
                    refine value_ (w1 := w') (v := .pointer (some ⟨g2, 0, none⟩)) (wanted_on rfl rfl rfl (e98.trans (by first | rfl | (simp [*]; done)))) rfl (by go_simp; (try simp only [i64_w]); try rfl) ?_
                    exact hK.out _ _ ⟨v_t80, v_t81, v_t90, v_t91, (by rw [ha.out]; exact putSel_upk 7 hb_ rfl rfl rfl), QQ⟩
                  refine steps_cons ?_ ?_
                  · rintro b a w' ⟨v_t80, v_t81, v_t90, v_t91, ha, QQ⟩ hb_ hon hoff
                    refine ⟨_, rfl, fun K hK => ?_⟩
                    have e100 : a.tmps[100]? = some (.pointer (some ⟨g2, 0, none⟩)) := by rw [ha]; exact putSel_on (e := (14, 100, .pointer (some ⟨g2, 0, none⟩))) 7 rfl rfl (hon 14 (by kernel_rfl)) rfl
                    have e98 : a.tmps[98]? = some (.bool true) := by rw [ha]; exact putSel_on (e := (12, 98, .bool true)) 5 rfl rfl (hon 12 (by kernel_rfl)) rfl
                    replace ha := Aside0.mk ha
                    have hc0_ : w'.cell? ⟨g2, 0, none⟩ = some (.slice A1_0 l1_0.length c1_0) := (blk_cell (blk_below BKg2.out QQ.1) 0).trans rfl
                    have hc1_ : w'.cell? ⟨g2, 1, none⟩ = some (.slice A1_1 l1_1.length c1_1) := (blk_cell (blk_below BKg2.out QQ.1) 1).trans rfl
                    refine value_ (w1 := w') (v := .agg #[.slice A1_0 l1_0.length c1_0, .slice A1_1 l1_1.length c1_1]) (wanted_on rfl rfl rfl (e98.trans (by first | rfl | (simp [*]; done)))) rfl (by go_simp; (try simp only [i64_w]); try rfl) ?_
                    exact hK.out _ _ ⟨v_t80, v_t81, v_t90, v_t91, (by rw [ha.out]; exact putSel_upk 8 hb_ rfl rfl rfl), QQ⟩
                  refine steps_cons ?_ ?_
                  · rintro b a w' ⟨v_t80, v_t81, v_t90, v_t91, ha, Q_HW, Q_S9, Q_S16⟩ hb_ hon hoff
                    refine ⟨_, rfl, fun K hK => ?_⟩
                    have e101 : a.tmps[101]? = some (.agg #[.slice A1_0 l1_0.length c1_0, .slice A1_1 l1_1.length c1_1]) := by rw [ha]; exact putSel_on (e := (15, 101, .agg #[.slice A1_0 l1_0.length c1_0, .slice A1_1 l1_1.length c1_1])) 8 rfl rfl (hon 15 (by kernel_rfl)) rfl
                    have e98 : a.tmps[98]? = some (.bool true) := by rw [ha]; exact putSel_on (e := (12, 98, .bool true)) 5 rfl rfl (hon 12 (by kernel_rfl)) rfl
                    replace ha := Aside0.mk ha
                    have hb0_ := below_step HB.out Q_HW
                    have gs_ := GS.out _ (Calm.below Q_HW)
                    refine goes_ Try.func37 (by kernel_rfl) rfl #[.agg #[.slice A1_0 l1_0.length c1_0, .slice A1_1 l1_1.length c1_1]] (wanted_on rfl rfl rfl (e98.trans (by first | rfl | (simp [*]; done)))) rfl rfl (by first | (simp only [List.map_toArray, List.map_cons, List.map_nil, Act.eval, Array.getD_eq_getD_getElem?, Option.getD_some, e101, e98]; done) | (simp only [List.map_toArray, List.map_cons, List.map_nil, Act.eval, Array.getD_eq_getD_getElem?, Option.getD_some, e101, e98]; rfl)) ?_
                    (with_reducible refine (scarfjointref06_Of.calls k _ _ l1_0 _ _ l1_1 t90 t91 _ ?s1 ?s2 ?s3 ?s4 A_96.out).mono ?_)
                    (case s1 => exact (Kd.C_below HR1_0.out hb0_))
                    (case s2 => exact HC1_0.out)
                    (case s3 => exact (Kd.C_below HR1_1.out hb0_))
                    (case s4 => exact HC1_1.out)
                    rintro e w102 ⟨u0_, u1_, rfl, ho0, ho1, hb⟩
                    refine ⟨_, rfl, ?_⟩
                    exact hK.out _ _ ⟨v_t80, v_t81, u0_, u1_, (by rw [ha.out]; exact putSel_upk 9 hb_ rfl rfl rfl), below_step Q_HW hb, fun h0_ => (Q_S9 h0_).step (Calm.below hb), fun _ => ((Sc.row (T := [25, 27, 29]) (b' := w.heap.size) ho0 (below_size hb0_)).and (Sc.row (T := [25, 27, 29]) (b' := w.heap.size) ho1 (below_size hb0_)))⟩
                  refine steps_cons ?_ ?_
                  · rintro b a w' ⟨v_t80, v_t81, v_t90, v_t91, ha, Q_HW, Q_S9, Q_S16⟩ hb_ hon hoff
                    refine ⟨_, rfl, fun K hK => ?_⟩
                    have e99 : a.tmps[99]? = some (.agg #[.slice A69 t66.length c70, .slice A71 t67.length c72]) := by rw [ha]; exact putSel_on (e := (13, 99, .agg #[.slice A69 t66.length c70, .slice A71 t67.length c72])) 6 rfl rfl (hon 13 (by kernel_rfl)) rfl
                    have e102 : a.tmps[102]? = some (.agg #[v_t90, v_t91]) := by rw [ha]; exact putSel_on (e := (16, 102, .agg #[v_t90, v_t91])) 9 rfl rfl (hon 16 (by kernel_rfl)) rfl
                    have e98 : a.tmps[98]? = some (.bool true) := by rw [ha]; exact putSel_on (e := (12, 98, .bool true)) 5 rfl rfl (hon 12 (by kernel_rfl)) rfl
                    replace ha := Aside0.mk ha
                    obtain ⟨A92, c93, rfl⟩ := Kd.R_slice ((Q_S16 (hon 16 (by kernel_rfl))).now).1
                    obtain ⟨A94, c95, rfl⟩ := Kd.R_slice ((Q_S16 (hon 16 (by kernel_rfl))).now).2
                    have hb0_ := below_step HB.out Q_HW
                    have gs_ := GS.out _ (Calm.below Q_HW)
                    refine goes_ Try.func27 (by kernel_rfl) rfl #[.agg #[.slice A69 t66.length c70, .slice A71 t67.length c72], .agg #[.slice A92 t90.length c93, .slice A94 t91.length c95]] (wanted_on rfl rfl rfl (e98.trans (by first | rfl | (simp [*]; done)))) rfl rfl (by first | (simp only [List.map_toArray, List.map_cons, List.map_nil, Act.eval, Array.getD_eq_getD_getElem?, Option.getD_some, e99, e102, e98]; done) | (simp only [List.map_toArray, List.map_cons, List.map_nil, Act.eval, Array.getD_eq_getD_getElem?, Option.getD_some, e99, e102, e98]; rfl)) ?_
                    (with_reducible refine (scarfjointref06_Same.calls k _ _ t66 _ _ t67 _ _ t90 _ _ t91 t97 _ ?s1 ?s2 ?s3 ?s4 ?s5 ?s6 ?s7 ?s8 A_98.out).mono ?_)
                    (case s1 => exact (Kd.R_reads' gs_.2.1).2.2)
                    (case s2 => exact (Kd.R_reads' gs_.2.1).2.1)
                    (case s3 => exact (Kd.R_reads' gs_.2.2).2.2)
                    (case s4 => exact (Kd.R_reads' gs_.2.2).2.1)
                    (case s5 => exact (Kd.R_reads' (Sc.now (Q_S16 (hon 16 (by kernel_rfl)))).1).2.2)
                    (case s6 => exact (Kd.R_reads' (Sc.now (Q_S16 (hon 16 (by kernel_rfl)))).1).2.1)
                    (case s7 => exact (Kd.R_reads' (Sc.now (Q_S16 (hon 16 (by kernel_rfl)))).2).2.2)
                    (case s8 => exact (Kd.R_reads' (Sc.now (Q_S16 (hon 16 (by kernel_rfl)))).2).2.1)
                    rintro e w103 ⟨rfl, hb⟩
                    refine ⟨_, rfl, ?_⟩
                    exact hK.out _ _ ⟨v_t80, v_t81, (.slice A92 t90.length c93), (.slice A94 t91.length c95), (by rw [ha.out]; exact putSel_upk 10 hb_ rfl rfl rfl), below_step Q_HW hb, fun h0_ => (Q_S9 h0_).step (Calm.below hb), fun h0_ => (Q_S16 h0_).step (Calm.below hb)⟩
                  refine steps_cons ?_ ?_
                  · rintro b a w' ⟨v_t80, v_t81, v_t90, v_t91, ha, QQ⟩ hb_ hon hoff
                    refine ⟨_, rfl, fun K hK => ?_⟩
                    have e98 : a.tmps[98]? = some (.bool true) := by rw [ha]; exact putSel_on (e := (12, 98, .bool true)) 5 rfl rfl (hon 12 (by kernel_rfl)) rfl
                    have e103 : a.tmps[103]? = some (.bool t97) := by rw [ha]; exact putSel_on (e := (17, 103, .bool t97)) 10 rfl rfl (hon 17 (by kernel_rfl)) rfl
                    replace ha := Aside0.mk ha
                    refine value_ (w1 := w') (v := .bool t97) (by rfl) rfl (by go_simp; (try simp only [i64_w]); try rfl) ?_
                    exact hK.out _ _ ⟨v_t80, v_t81, v_t90, v_t91, (by rw [ha.out]; exact putSel_upk 11 hb_ rfl rfl rfl), QQ⟩
                  refine steps_cons ?_ ?_
                  · rintro b a w' ⟨v_t80, v_t81, v_t90, v_t91, ha, QQ⟩ hb_ hon hoff
                    refine ⟨_, rfl, fun K hK => ?_⟩
                    have e104 : a.tmps[104]? = some (.bool t97) := by rw [ha]; exact putSel_on (e := (18, 104, .bool t97)) 11 rfl rfl (hon 18 (by kernel_rfl)) rfl
                    replace ha := Aside0.mk ha
                    refine value_ (w1 := w') (v := .bool t97) (by rfl) rfl (by go_simp; (try simp only [i64_w]); try rfl) ?_
                    exact hK.out _ _ ⟨v_t80, v_t81, v_t90, v_t91, (by rw [ha.out]; exact putSel_upk 12 hb_ rfl rfl rfl), QQ⟩
                  exact steps_nil
                rintro b a w104 hall ⟨v_t80, v_t81, v_t90, v_t91, ha, Q_HW, Q_S9, Q_S16⟩
                have hb7_ := hall 7 (by kernel_rfl)
                have hb8_ := hall 8 (by kernel_rfl)
                have hb9_ := hall 9 (by kernel_rfl)
                have hb10_ := hall 10 (by kernel_rfl)
                have hb11_ := hall 11 (by kernel_rfl)
                have hb12_ := hall 12 (by kernel_rfl)
                have hb13_ := hall 13 (by kernel_rfl)
                have hb14_ := hall 14 (by kernel_rfl)
                have hb15_ := hall 15 (by kernel_rfl)
                have hb16_ := hall 16 (by kernel_rfl)
                have hb17_ := hall 17 (by kernel_rfl)
                have hb18_ := hall 18 (by kernel_rfl)
                have hb19_ := hall 19 (by kernel_rfl)
                subst ha
                have S9 := Aside0.mk (Q_S9 hb9_)
                clear Q_S9
                obtain ⟨A82, c83, rfl⟩ := Kd.R_slice S9.out.now.1
                obtain ⟨A84, c85, rfl⟩ := Kd.R_slice S9.out.now.2
                have S16 := Aside0.mk (Q_S16 hb16_)
                clear Q_S16
                obtain ⟨A92, c93, rfl⟩ := Kd.R_slice S16.out.now.1
                obtain ⟨A94, c95, rfl⟩ := Kd.R_slice S16.out.now.2
                simp only [putSel, hb7_, hb8_, hb9_, hb10_, hb11_, hb12_, hb13_, hb14_, hb15_, hb16_, hb17_, hb18_, hb19_, if_true, Act.put, List.setIfInBounds_toArray, List.set_cons_zero, List.set_cons_succ]
                replace BKg1 := kb_ BKg1.out Q_HW
                replace BKg2 := kb_ BKg2.out Q_HW
                replace BKg8 := kb_ BKg8.out Q_HW
                replace BKg30 := kb_ BKg30.out Q_HW
                replace BKg44 := kb_ BKg44.out Q_HW
                replace BKg62 := kb_ BKg62.out Q_HW
                replace BKg74 := kb_ BKg74.out Q_HW
                replace HB := Aside0.mk (below_step HB.out Q_HW)
                replace GS := Aside0.mk (GS.out.step (Calm.below Q_HW))
                replace GS := Aside0.mk (GS.out.and S9.out)
                replace GS := Aside0.mk (GS.out.and S16.out)
                clear hall hb7_ hb8_ hb9_ hb10_ hb11_ hb12_ hb13_ hb14_ hb15_ hb16_ hb17_ hb18_ hb19_ Q_HW
                clear S9 S16
                (try go_wp2)
                have H := HH.out
                clear HH
                obtain rfl := Option.some.inj H
                go_ret
                exact ⟨by first | rfl | (simp; done) | (simp [*]; done), HB.out⟩
              · replace c89 : t87 = false := Bool.not_eq_true _ ▸ c89
                subst c89
                rw [if_neg (by decide)] at H
                have HH := Aside0.mk H
                clear H
                refine start_ (n := 20) (S := fun _ => True) (ds := []) (bm_ 20 0) (by kernel_rfl) rfl (by kernel_rfl) trivial (fun hHeld => ?_)
                clear hHeld
                refine with_tabW scarfjointlaw06_MorphismInverse.tab9 scarfjointlaw06_MorphismInverse.bits9 (fun HT_ HW_ => ?_)
                have hd_ : Below w77.heap.size w77 w77.drew := below_drew1 (Below.refl _ _)
                generalize w77.drew = w106 at hd_ ⊢
                replace BKg1 := kb_ BKg1.out hd_
                replace BKg2 := kb_ BKg2.out hd_
                replace BKg8 := kb_ BKg8.out hd_
                replace BKg30 := kb_ BKg30.out hd_
                replace BKg44 := kb_ BKg44.out hd_
                replace BKg62 := kb_ BKg62.out hd_
                replace BKg74 := kb_ BKg74.out hd_
                replace GS := Aside0.mk (GS.out.step (Calm.below hd_))
                replace HB := Aside0.mk (below_step HB.out hd_)
                clear hd_
                refine pw_ (i := 0) (N := some 86) (bm_ 20 1) rfl HT_.out ?_
                refine pw_ (i := 1) (N := some 87) (bm_ 20 3) rfl HT_.out ?_
                refine pw_ (i := 2) (N := some 88) (bm_ 20 7) rfl HT_.out ?_
                refine pw_ (i := 3) (N := some 89) (bm_ 20 15) rfl HT_.out ?_
                refine pw_ (i := 4) (N := some 90) (bm_ 20 31) rfl HT_.out ?_
                refine pw_ (i := 5) (N := some 91) (bm_ 20 63) rfl HT_.out ?_
                refine pw_ (i := 6) (N := some 92) (bm_ 20 127) rfl HT_.out ?_
                refine inv_at [7, 8, 9, 10, 11, 12, 13, 14, 15, 16, 17, 18, 19] (fun a0_ b a w' => ∃ (v_t80 : Value) (v_t81 : Value), a = putSel a0_ b [(7, 93, .agg #[.slice A57 t54.length c58, .slice A59 t55.length c60]), (8, 94, .agg #[.slice A0_0 l0_0.length c0_0, .slice A0_1 l0_1.length c0_1]), (9, 95, .agg #[v_t80, v_t81]), (10, 96, .bool false), (11, 97, .bool false), (12, 98, .bool false), (13, 99, undef), (14, 100, undef), (15, 101, undef), (16, 102, undef), (17, 103, undef), (18, 104, .bool false), (19, 4, .bool false)] ∧ (Below w106.heap.size w106 w') ∧ (b 9 = true → Sc [25, 27, 29] (fun v' => (Kd.R (Kd.int .i64) 3 v' w.heap.size (fun _ => True) v_t80 t80) ∧ Kd.R (Kd.int .i64) 3 v' w.heap.size (fun _ => True) v_t81 t81) w')) HT_.out HW_.out (by kernel_rfl) (by kernel_rfl) ?_ ?_ ?_
                · exact ⟨.bool false, .bool false, by simp only [putSel, Bool.false_eq_true, if_false], Below.refl _ _, fun h_ => absurd h_ (by decide)⟩
                · skip
                  refine steps_cons ?_ ?_
                  · rintro b a w' ⟨v_t80, v_t81, ha, QQ⟩ hb_ hon hoff
                    refine ⟨_, rfl, fun K hK => ?_⟩
                    have e9 : a.tmps[9]? = some (.pointer (some ⟨g62, 0, none⟩)) := by rw [ha]; exact (putSel_off rfl).trans rfl
                    have e92 : a.tmps[92]? = some (.bool true) := by rw [ha]; exact (putSel_off rfl).trans rfl
                    replace ha := Aside0.mk ha
                    have hc0_ : w'.cell? ⟨g62, 0, none⟩ = some (.slice A57 t54.length c58) := (blk_cell (blk_below BKg62.out QQ.1) 0).trans rfl
                    have hc1_ : w'.cell? ⟨g62, 1, none⟩ = some (.slice A59 t55.length c60) := (blk_cell (blk_below BKg62.out QQ.1) 1).trans rfl
                    refine value_ (w1 := w') (v := .agg #[.slice A57 t54.length c58, .slice A59 t55.length c60]) (wanted_on rfl rfl rfl (e92.trans (by first | rfl | (simp [*]; done)))) rfl (by go_simp; (try simp only [i64_w]); try rfl) ?_
                    exact hK.out _ _ ⟨v_t80, v_t81, (by rw [ha.out]; exact putSel_upk 0 hb_ rfl rfl rfl), QQ⟩
                  refine steps_cons ?_ ?_
                  · rintro b a w' ⟨v_t80, v_t81, ha, QQ⟩ hb_ hon hoff
                    refine ⟨_, rfl, fun K hK => ?_⟩
                    have e2 : a.tmps[2]? = some (.pointer (some ⟨g1, 0, none⟩)) := by rw [ha]; exact (putSel_off rfl).trans rfl
                    have e92 : a.tmps[92]? = some (.bool true) := by rw [ha]; exact (putSel_off rfl).trans rfl
                    replace ha := Aside0.mk ha
                    have hc0_ : w'.cell? ⟨g1, 0, none⟩ = some (.slice A0_0 l0_0.length c0_0) := (blk_cell (blk_below BKg1.out QQ.1) 0).trans rfl
                    have hc1_ : w'.cell? ⟨g1, 1, none⟩ = some (.slice A0_1 l0_1.length c0_1) := (blk_cell (blk_below BKg1.out QQ.1) 1).trans rfl
                    refine value_ (w1 := w') (v := .agg #[.slice A0_0 l0_0.length c0_0, .slice A0_1 l0_1.length c0_1]) (wanted_on rfl rfl rfl (e92.trans (by first | rfl | (simp [*]; done)))) rfl (by go_simp; (try simp only [i64_w]); try rfl) ?_
                    exact hK.out _ _ ⟨v_t80, v_t81, (by rw [ha.out]; exact putSel_upk 1 hb_ rfl rfl rfl), QQ⟩
                  refine steps_cons ?_ ?_
                  · rintro b a w' ⟨v_t80, v_t81, ha, Q_HW, Q_S9⟩ hb_ hon hoff
                    refine ⟨_, rfl, fun K hK => ?_⟩
                    have e94 : a.tmps[94]? = some (.agg #[.slice A0_0 l0_0.length c0_0, .slice A0_1 l0_1.length c0_1]) := by rw [ha]; exact putSel_on (e := (8, 94, .agg #[.slice A0_0 l0_0.length c0_0, .slice A0_1 l0_1.length c0_1])) 1 rfl rfl (hon 8 (by kernel_rfl)) rfl
                    have e92 : a.tmps[92]? = some (.bool true) := by rw [ha]; exact (putSel_off rfl).trans rfl
                    replace ha := Aside0.mk ha
                    have hb0_ := below_step HB.out Q_HW
                    have gs_ := GS.out _ (Calm.below Q_HW)
                    refine goes_ Try.func37 (by kernel_rfl) rfl #[.agg #[.slice A0_0 l0_0.length c0_0, .slice A0_1 l0_1.length c0_1]] (wanted_on rfl rfl rfl (e92.trans (by first | rfl | (simp [*]; done)))) rfl rfl (by first | (simp only [List.map_toArray, List.map_cons, List.map_nil, Act.eval, Array.getD_eq_getD_getElem?, Option.getD_some, e94, e92]; done) | (simp only [List.map_toArray, List.map_cons, List.map_nil, Act.eval, Array.getD_eq_getD_getElem?, Option.getD_some, e94, e92]; rfl)) ?_
                    (with_reducible refine (scarfjointref06_Of.calls k _ _ l0_0 _ _ l0_1 t80 t81 _ ?s1 ?s2 ?s3 ?s4 A_86.out).mono ?_)
                    (case s1 => exact (Kd.C_below HR0_0.out hb0_))
                    (case s2 => exact HC0_0.out)
                    (case s3 => exact (Kd.C_below HR0_1.out hb0_))
                    (case s4 => exact HC0_1.out)
                    rintro e w107 ⟨u0_, u1_, rfl, ho0, ho1, hb⟩
                    refine ⟨_, rfl, ?_⟩
                    exact hK.out _ _ ⟨u0_, u1_, (by rw [ha.out]; exact putSel_upk 2 hb_ rfl rfl rfl), below_step Q_HW hb, fun _ => ((Sc.row (T := [25, 27, 29]) (b' := w.heap.size) ho0 (below_size hb0_)).and (Sc.row (T := [25, 27, 29]) (b' := w.heap.size) ho1 (below_size hb0_)))⟩
                  refine steps_cons ?_ ?_
                  · rintro b a w' ⟨v_t80, v_t81, ha, Q_HW, Q_S9⟩ hb_ hon hoff
                    refine ⟨_, rfl, fun K hK => ?_⟩
                    have e93 : a.tmps[93]? = some (.agg #[.slice A57 t54.length c58, .slice A59 t55.length c60]) := by rw [ha]; exact putSel_on (e := (7, 93, .agg #[.slice A57 t54.length c58, .slice A59 t55.length c60])) 0 rfl rfl (hon 7 (by kernel_rfl)) rfl
                    have e95 : a.tmps[95]? = some (.agg #[v_t80, v_t81]) := by rw [ha]; exact putSel_on (e := (9, 95, .agg #[v_t80, v_t81])) 2 rfl rfl (hon 9 (by kernel_rfl)) rfl
                    have e92 : a.tmps[92]? = some (.bool true) := by rw [ha]; exact (putSel_off rfl).trans rfl
                    replace ha := Aside0.mk ha
                    obtain ⟨A82, c83, rfl⟩ := Kd.R_slice ((Q_S9 (hon 9 (by kernel_rfl))).now).1
                    obtain ⟨A84, c85, rfl⟩ := Kd.R_slice ((Q_S9 (hon 9 (by kernel_rfl))).now).2
                    have hb0_ := below_step HB.out Q_HW
                    have gs_ := GS.out _ (Calm.below Q_HW)
                    refine goes_ Try.func27 (by kernel_rfl) rfl #[.agg #[.slice A57 t54.length c58, .slice A59 t55.length c60], .agg #[.slice A82 t80.length c83, .slice A84 t81.length c85]] (wanted_on rfl rfl rfl (e92.trans (by first | rfl | (simp [*]; done)))) rfl rfl (by first | (simp only [List.map_toArray, List.map_cons, List.map_nil, Act.eval, Array.getD_eq_getD_getElem?, Option.getD_some, e93, e95, e92]; done) | (simp only [List.map_toArray, List.map_cons, List.map_nil, Act.eval, Array.getD_eq_getD_getElem?, Option.getD_some, e93, e95, e92]; rfl)) ?_
                    (with_reducible refine (scarfjointref06_Same.calls k _ _ t54 _ _ t55 _ _ t80 _ _ t81 false _ ?s1 ?s2 ?s3 ?s4 ?s5 ?s6 ?s7 ?s8 A_88.out).mono ?_)
                    (case s1 => exact (Kd.R_reads' gs_.1.2.1).2.2)
                    (case s2 => exact (Kd.R_reads' gs_.1.2.1).2.1)
                    (case s3 => exact (Kd.R_reads' gs_.1.2.2).2.2)
                    (case s4 => exact (Kd.R_reads' gs_.1.2.2).2.1)
                    (case s5 => exact (Kd.R_reads' (Sc.now (Q_S9 (hon 9 (by kernel_rfl)))).1).2.2)
                    (case s6 => exact (Kd.R_reads' (Sc.now (Q_S9 (hon 9 (by kernel_rfl)))).1).2.1)
                    (case s7 => exact (Kd.R_reads' (Sc.now (Q_S9 (hon 9 (by kernel_rfl)))).2).2.2)
                    (case s8 => exact (Kd.R_reads' (Sc.now (Q_S9 (hon 9 (by kernel_rfl)))).2).2.1)
                    rintro e w108 ⟨rfl, hb⟩
                    refine ⟨_, rfl, ?_⟩
                    exact hK.out _ _ ⟨(.slice A82 t80.length c83), (.slice A84 t81.length c85), (by rw [ha.out]; exact putSel_upk 3 hb_ rfl rfl rfl), below_step Q_HW hb, fun h0_ => (Q_S9 h0_).step (Calm.below hb)⟩
                  refine steps_cons ?_ ?_
                  · rintro b a w' ⟨v_t80, v_t81, ha, QQ⟩ hb_ hon hoff
                    refine ⟨_, rfl, fun K hK => ?_⟩
                    have e92 : a.tmps[92]? = some (.bool true) := by rw [ha]; exact (putSel_off rfl).trans rfl
                    have e96 : a.tmps[96]? = some (.bool false) := by rw [ha]; exact putSel_on (e := (10, 96, .bool false)) 3 rfl rfl (hon 10 (by kernel_rfl)) rfl
                    replace ha := Aside0.mk ha
                    refine value_ (w1 := w') (v := .bool false) (by rfl) rfl (by go_simp; (try simp only [i64_w]); try rfl) ?_
                    exact hK.out _ _ ⟨v_t80, v_t81, (by rw [ha.out]; exact putSel_upk 4 hb_ rfl rfl rfl), QQ⟩
                  refine steps_cons ?_ ?_
                  · rintro b a w' ⟨v_t80, v_t81, ha, QQ⟩ hb_ hon hoff
                    refine ⟨_, rfl, fun K hK => ?_⟩
                    have e97 : a.tmps[97]? = some (.bool false) := by rw [ha]; exact putSel_on (e := (11, 97, .bool false)) 4 rfl rfl (hon 11 (by kernel_rfl)) rfl
                    replace ha := Aside0.mk ha
                    refine value_ (w1 := w') (v := .bool false) (by rfl) rfl (by go_simp; (try simp only [i64_w]); try rfl) ?_
                    exact hK.out _ _ ⟨v_t80, v_t81, (by rw [ha.out]; exact putSel_upk 5 hb_ rfl rfl rfl), QQ⟩
                  refine steps_cons ?_ ?_
                  · rintro b a w' ⟨v_t80, v_t81, ha, Q_HW, Q_S9⟩ hb_ hon hoff
                    refine ⟨_, rfl, fun K hK => ?_⟩
                    have e98 : a.tmps[98]? = some (.bool false) := by rw [ha]; exact putSel_on (e := (12, 98, .bool false)) 5 rfl rfl (hon 12 (by kernel_rfl)) rfl
                    replace ha := Aside0.mk ha
                    refine off_ (wanted_off rfl rfl rfl (e98.trans (by first | rfl | (simp [*]; done)))) ?_
                    exact hK.out _ _ ⟨v_t80, v_t81, (by rw [ha.out]; exact putSel_upk 6 hb_ rfl rfl rfl), Q_HW, Q_S9⟩
                  refine steps_cons ?_ ?_
                  · rintro b a w' ⟨v_t80, v_t81, ha, Q_HW, Q_S9⟩ hb_ hon hoff
                    refine ⟨_, rfl, fun K hK => ?_⟩
                    have e98 : a.tmps[98]? = some (.bool false) := by rw [ha]; exact putSel_on (e := (12, 98, .bool false)) 5 rfl rfl (hon 12 (by kernel_rfl)) rfl
                    replace ha := Aside0.mk ha
                    refine off_ (wanted_off rfl rfl rfl (e98.trans (by first | rfl | (simp [*]; done)))) ?_
                    exact hK.out _ _ ⟨v_t80, v_t81, (by rw [ha.out]; exact putSel_upk 7 hb_ rfl rfl rfl), Q_HW, Q_S9⟩
                  refine steps_cons ?_ ?_
                  · rintro b a w' ⟨v_t80, v_t81, ha, Q_HW, Q_S9⟩ hb_ hon hoff
                    refine ⟨_, rfl, fun K hK => ?_⟩
                    have e98 : a.tmps[98]? = some (.bool false) := by rw [ha]; exact putSel_on (e := (12, 98, .bool false)) 5 rfl rfl (hon 12 (by kernel_rfl)) rfl
                    replace ha := Aside0.mk ha
                    refine off_ (wanted_off rfl rfl rfl (e98.trans (by first | rfl | (simp [*]; done)))) ?_
                    exact hK.out _ _ ⟨v_t80, v_t81, (by rw [ha.out]; exact putSel_upk 8 hb_ rfl rfl rfl), Q_HW, Q_S9⟩
                  refine steps_cons ?_ ?_
                  · rintro b a w' ⟨v_t80, v_t81, ha, Q_HW, Q_S9⟩ hb_ hon hoff
                    refine ⟨_, rfl, fun K hK => ?_⟩
                    have e98 : a.tmps[98]? = some (.bool false) := by rw [ha]; exact putSel_on (e := (12, 98, .bool false)) 5 rfl rfl (hon 12 (by kernel_rfl)) rfl
                    replace ha := Aside0.mk ha
                    refine off_ (wanted_off rfl rfl rfl (e98.trans (by first | rfl | (simp [*]; done)))) ?_
                    exact hK.out _ _ ⟨v_t80, v_t81, (by rw [ha.out]; exact putSel_upk 9 hb_ rfl rfl rfl), Q_HW, Q_S9⟩
                  refine steps_cons ?_ ?_
                  · rintro b a w' ⟨v_t80, v_t81, ha, Q_HW, Q_S9⟩ hb_ hon hoff
                    refine ⟨_, rfl, fun K hK => ?_⟩
                    have e98 : a.tmps[98]? = some (.bool false) := by rw [ha]; exact putSel_on (e := (12, 98, .bool false)) 5 rfl rfl (hon 12 (by kernel_rfl)) rfl
                    replace ha := Aside0.mk ha
                    refine off_ (wanted_off rfl rfl rfl (e98.trans (by first | rfl | (simp [*]; done)))) ?_
                    exact hK.out _ _ ⟨v_t80, v_t81, (by rw [ha.out]; exact putSel_upk 10 hb_ rfl rfl rfl), Q_HW, Q_S9⟩
                  refine steps_cons ?_ ?_
                  · rintro b a w' ⟨v_t80, v_t81, ha, QQ⟩ hb_ hon hoff
                    refine ⟨_, rfl, fun K hK => ?_⟩
                    have e98 : a.tmps[98]? = some (.bool false) := by rw [ha]; exact putSel_on (e := (12, 98, .bool false)) 5 rfl rfl (hon 12 (by kernel_rfl)) rfl
                    have e103 : a.tmps[103]? = some (undef) := by rw [ha]; exact putSel_on (e := (17, 103, undef)) 10 rfl rfl (hon 17 (by kernel_rfl)) rfl
                    replace ha := Aside0.mk ha
                    refine value_ (w1 := w') (v := .bool false) (by rfl) rfl (by go_simp; (try simp only [i64_w]); try rfl) ?_
                    exact hK.out _ _ ⟨v_t80, v_t81, (by rw [ha.out]; exact putSel_upk 11 hb_ rfl rfl rfl), QQ⟩
                  refine steps_cons ?_ ?_
                  · rintro b a w' ⟨v_t80, v_t81, ha, QQ⟩ hb_ hon hoff
                    refine ⟨_, rfl, fun K hK => ?_⟩
                    have e104 : a.tmps[104]? = some (.bool false) := by rw [ha]; exact putSel_on (e := (18, 104, .bool false)) 11 rfl rfl (hon 18 (by kernel_rfl)) rfl
                    replace ha := Aside0.mk ha
                    refine value_ (w1 := w') (v := .bool false) (by rfl) rfl (by go_simp; (try simp only [i64_w]); try rfl) ?_
                    exact hK.out _ _ ⟨v_t80, v_t81, (by rw [ha.out]; exact putSel_upk 12 hb_ rfl rfl rfl), QQ⟩
                  exact steps_nil
                rintro b a w109 hall ⟨v_t80, v_t81, ha, Q_HW, Q_S9⟩
                have hb7_ := hall 7 (by kernel_rfl)
                have hb8_ := hall 8 (by kernel_rfl)
                have hb9_ := hall 9 (by kernel_rfl)
                have hb10_ := hall 10 (by kernel_rfl)
                have hb11_ := hall 11 (by kernel_rfl)
                have hb12_ := hall 12 (by kernel_rfl)
                have hb13_ := hall 13 (by kernel_rfl)
                have hb14_ := hall 14 (by kernel_rfl)
                have hb15_ := hall 15 (by kernel_rfl)
                have hb16_ := hall 16 (by kernel_rfl)
                have hb17_ := hall 17 (by kernel_rfl)
                have hb18_ := hall 18 (by kernel_rfl)
                have hb19_ := hall 19 (by kernel_rfl)
                subst ha
                have S9 := Aside0.mk (Q_S9 hb9_)
                clear Q_S9
                obtain ⟨A82, c83, rfl⟩ := Kd.R_slice S9.out.now.1
                obtain ⟨A84, c85, rfl⟩ := Kd.R_slice S9.out.now.2
                simp only [putSel, hb7_, hb8_, hb9_, hb10_, hb11_, hb12_, hb13_, hb14_, hb15_, hb16_, hb17_, hb18_, hb19_, if_true, Act.put, List.setIfInBounds_toArray, List.set_cons_zero, List.set_cons_succ]
                replace BKg1 := kb_ BKg1.out Q_HW
                replace BKg2 := kb_ BKg2.out Q_HW
                replace BKg8 := kb_ BKg8.out Q_HW
                replace BKg30 := kb_ BKg30.out Q_HW
                replace BKg44 := kb_ BKg44.out Q_HW
                replace BKg62 := kb_ BKg62.out Q_HW
                replace BKg74 := kb_ BKg74.out Q_HW
                replace HB := Aside0.mk (below_step HB.out Q_HW)
                replace GS := Aside0.mk (GS.out.step (Calm.below Q_HW))
                replace GS := Aside0.mk (GS.out.and S9.out)
                clear hall hb7_ hb8_ hb9_ hb10_ hb11_ hb12_ hb13_ hb14_ hb15_ hb16_ hb17_ hb18_ hb19_ Q_HW
                clear S9
                (try go_wp2)
                have H := HH.out
                clear HH
                obtain rfl := Option.some.inj H
                go_ret
                exact ⟨by first | rfl | (simp; done) | (simp [*]; done), HB.out⟩
            · rw [if_neg c79] at H
              have c79a : (t68 == 0) = false := beq_eq_false_iff_ne.mpr c79
              have c79b : (t68 != 0) = true := bne_iff_ne.mpr c79
              clear c79
              have HH := Aside0.mk H
              clear H
              refine start_ (n := 20) (S := fun _ => True) (ds := []) (bm_ 20 0) (by kernel_rfl) rfl (by kernel_rfl) trivial (fun hHeld => ?_)
              clear hHeld
              refine with_tabW scarfjointlaw06_MorphismInverse.tab9 scarfjointlaw06_MorphismInverse.bits9 (fun HT_ HW_ => ?_)
              have hd_ : Below w77.heap.size w77 w77.drew := below_drew1 (Below.refl _ _)
              generalize w77.drew = w111 at hd_ ⊢
              replace BKg1 := kb_ BKg1.out hd_
              replace BKg2 := kb_ BKg2.out hd_
              replace BKg8 := kb_ BKg8.out hd_
              replace BKg30 := kb_ BKg30.out hd_
              replace BKg44 := kb_ BKg44.out hd_
              replace BKg62 := kb_ BKg62.out hd_
              replace BKg74 := kb_ BKg74.out hd_
              replace GS := Aside0.mk (GS.out.step (Calm.below hd_))
              replace HB := Aside0.mk (below_step HB.out hd_)
              clear hd_
              refine pw_ (i := 0) (N := some 86) (bm_ 20 1) rfl HT_.out ?_
              refine pw_ (i := 1) (N := some 87) (bm_ 20 3) rfl HT_.out ?_
              refine pw_ (i := 2) (N := some 88) (bm_ 20 7) rfl HT_.out ?_
              refine pw_ (i := 3) (N := some 89) (bm_ 20 15) rfl HT_.out ?_
              refine pw_ (i := 4) (N := some 90) (bm_ 20 31) rfl HT_.out ?_
              refine pw_ (i := 5) (N := some 91) (bm_ 20 63) rfl HT_.out ?_
              refine pw_ (i := 6) (N := some 92) (bm_ 20 127) rfl HT_.out ?_
              refine pz_ (i := 7) (N := some 93) (bm_ 20 255) rfl HT_.out ?_
              refine pz_ (i := 8) (N := some 94) (bm_ 20 511) rfl HT_.out ?_
              refine pz_ (i := 9) (N := some 95) (bm_ 20 1023) rfl HT_.out ?_
              refine pz_ (i := 10) (N := some 96) (bm_ 20 2047) rfl HT_.out ?_
              refine pw_ (i := 11) (N := some 97) (bm_ 20 4095) rfl HT_.out ?_
              refine pw_ (i := 12) (N := some 98) (bm_ 20 8191) rfl HT_.out ?_
              refine pz_ (i := 13) (N := some 99) (bm_ 20 16383) rfl HT_.out ?_
              refine pz_ (i := 14) (N := some 100) (bm_ 20 32767) rfl HT_.out ?_
              refine pz_ (i := 15) (N := some 101) (bm_ 20 65535) rfl HT_.out ?_
              refine pz_ (i := 16) (N := some 102) (bm_ 20 131071) rfl HT_.out ?_
              refine pz_ (i := 17) (N := some 103) (bm_ 20 262143) rfl HT_.out ?_
              refine pw_ (i := 18) (N := some 104) (bm_ 20 524287) rfl HT_.out ?_
              refine pw_ (i := 19) (N := some 4) (bm_ 20 1048575) rfl HT_.out ?_
              refine done_ (done_of HT_.out (by kernel_rfl)) ?_
              (try go_wp2)
              (try go_wp2)
              have H := HH.out
              clear HH
              obtain rfl := Option.some.inj H
              go_ret
              exact ⟨by first | rfl | (simp; done) | (simp [*]; done), HB.out⟩
          · rw [if_neg c78] at H
            have c78a : (t56 == 0) = false := beq_eq_false_iff_ne.mpr c78
            have c78b : (t56 != 0) = true := bne_iff_ne.mpr c78
            clear c78
            have HH := Aside0.mk H
            clear H
            refine start_ (n := 20) (S := fun _ => True) (ds := []) (bm_ 20 0) (by kernel_rfl) rfl (by kernel_rfl) trivial (fun hHeld => ?_)
            clear hHeld
            refine with_tabW scarfjointlaw06_MorphismInverse.tab9 scarfjointlaw06_MorphismInverse.bits9 (fun HT_ HW_ => ?_)
            have hd_ : Below w77.heap.size w77 w77.drew := below_drew1 (Below.refl _ _)
            generalize w77.drew = w112 at hd_ ⊢
            replace BKg1 := kb_ BKg1.out hd_
            replace BKg2 := kb_ BKg2.out hd_
            replace BKg8 := kb_ BKg8.out hd_
            replace BKg30 := kb_ BKg30.out hd_
            replace BKg44 := kb_ BKg44.out hd_
            replace BKg62 := kb_ BKg62.out hd_
            replace BKg74 := kb_ BKg74.out hd_
            replace GS := Aside0.mk (GS.out.step (Calm.below hd_))
            replace HB := Aside0.mk (below_step HB.out hd_)
            clear hd_
            refine pw_ (i := 0) (N := some 86) (bm_ 20 1) rfl HT_.out ?_
            refine pw_ (i := 1) (N := some 87) (bm_ 20 3) rfl HT_.out ?_
            refine pw_ (i := 2) (N := some 88) (bm_ 20 7) rfl HT_.out ?_
            refine pz_ (i := 3) (N := some 89) (bm_ 20 15) rfl HT_.out ?_
            refine pz_ (i := 4) (N := some 90) (bm_ 20 31) rfl HT_.out ?_
            refine pw_ (i := 5) (N := some 91) (bm_ 20 63) rfl HT_.out ?_
            refine pw_ (i := 6) (N := some 92) (bm_ 20 127) rfl HT_.out ?_
            refine pz_ (i := 7) (N := some 93) (bm_ 20 255) rfl HT_.out ?_
            refine pz_ (i := 8) (N := some 94) (bm_ 20 511) rfl HT_.out ?_
            refine pz_ (i := 9) (N := some 95) (bm_ 20 1023) rfl HT_.out ?_
            refine pz_ (i := 10) (N := some 96) (bm_ 20 2047) rfl HT_.out ?_
            refine pw_ (i := 11) (N := some 97) (bm_ 20 4095) rfl HT_.out ?_
            refine pw_ (i := 12) (N := some 98) (bm_ 20 8191) rfl HT_.out ?_
            refine pz_ (i := 13) (N := some 99) (bm_ 20 16383) rfl HT_.out ?_
            refine pz_ (i := 14) (N := some 100) (bm_ 20 32767) rfl HT_.out ?_
            refine pz_ (i := 15) (N := some 101) (bm_ 20 65535) rfl HT_.out ?_
            refine pz_ (i := 16) (N := some 102) (bm_ 20 131071) rfl HT_.out ?_
            refine pz_ (i := 17) (N := some 103) (bm_ 20 262143) rfl HT_.out ?_
            refine pw_ (i := 18) (N := some 104) (bm_ 20 524287) rfl HT_.out ?_
            refine pw_ (i := 19) (N := some 4) (bm_ 20 1048575) rfl HT_.out ?_
            refine done_ (done_of HT_.out (by kernel_rfl)) ?_
            (try go_wp2)
            (try go_wp2)
            have H := HH.out
            clear HH
            obtain rfl := Option.some.inj H
            go_ret
            exact ⟨by first | rfl | (simp; done) | (simp [*]; done), HB.out⟩
        · rw [if_neg c52] at H
          have c52a : (t24 == 0) = false := beq_eq_false_iff_ne.mpr c52
          have c52b : (t24 != 0) = true := bne_iff_ne.mpr c52
          clear c52
          have HH := Aside0.mk H
          clear H
          have HW := Aside0.mk (Below.refl w47.heap.size w47)
          have hl0_ : w47.cell? ⟨g30, 0, none⟩ = some (.slice A25 t22.length c26) := (blk_cell BKg30.out 0).trans rfl
          have hl1_ : w47.cell? ⟨g30, 1, none⟩ = some (.slice A27 t23.length c28) := (blk_cell BKg30.out 1).trans rfl
          have hl2_ : w47.cell? ⟨g44, 0, none⟩ = some (.slice A39 t36.length c40) := (blk_cell BKg44.out 0).trans rfl
          have hl3_ : w47.cell? ⟨g44, 1, none⟩ = some (.slice A41 t37.length c42) := (blk_cell BKg44.out 1).trans rfl
          go_upto_region 6 with (first | ((with_reducible refine gate_callee (f := 27) rfl ?_); (try (refine gate_guard (by rfl) ?_; dsimp only)); refine goesL_ (some 48) rfl rfl Try.func27 (by kernel_rfl) rfl #[.agg #[.slice A25 t22.length c26, .slice A27 t23.length c28], .agg #[.slice A39 t36.length c40, .slice A41 t37.length c42]] rfl (by (try simp only [List.map_toArray, List.map_cons, List.map_nil]); first | done | rfl | (simp only [List.length_drop, List.length_take]; rfl)) ?_; have hb0_ := below_step HB.out HW.out; have gs_ := GS.out _ (Calm.below HW.out); (with_reducible refine (scarfjointref06_Same.calls k _ _ t22 _ _ t23 _ _ t36 _ _ t37 true _ ?s1 ?s2 ?s3 ?s4 ?s5 ?s6 ?s7 ?s8 A_50.out).mono ?_); (case s1 => exact (Kd.R_reads' gs_.1.2.1).2.2); (case s2 => exact (Kd.R_reads' gs_.1.2.1).2.1); (case s3 => exact (Kd.R_reads' gs_.1.2.2).2.2); (case s4 => exact (Kd.R_reads' gs_.1.2.2).2.1); (case s5 => exact (Kd.R_reads' gs_.2.1).2.2); (case s6 => exact (Kd.R_reads' gs_.2.1).2.1); (case s7 => exact (Kd.R_reads' gs_.2.2).2.2); (case s8 => exact (Kd.R_reads' gs_.2.2).2.1); rintro e w115 ⟨rfl, hb⟩; refine ⟨_, rfl, ?_⟩; have n_ := Aside0.mk (below_step HW.out hb); clear HW; have HW := n_; clear n_; clear hb hb0_; (try clear gs_); (try clear gn_)))
          replace BKg1 := kb_ BKg1.out HW.out
          replace BKg2 := kb_ BKg2.out HW.out
          replace BKg8 := kb_ BKg8.out HW.out
          replace BKg30 := kb_ BKg30.out HW.out
          replace BKg44 := kb_ BKg44.out HW.out
          replace HB := Aside0.mk (below_step HB.out HW.out)
          replace GS := Aside0.mk (GS.out.step (Calm.below HW.out))
          clear HW
          (try clear hl0_)
          (try clear hl1_)
          (try clear hl2_)
          (try clear hl3_)
          have H := HH.out
          clear HH
          replace H := Option.bind_eq_some_iff.mp H
          obtain ⟨t116, A_1170, H⟩ := H
          (try dsimp only at H)
          have A_117 := Aside0.mk A_1170
          clear A_1170
          have HH := Aside0.mk H
          clear H
          have HW := Aside0.mk (Below.refl w115.heap.size w115)
          have hl0_ : w115.cell? ⟨g30, 0, none⟩ = some (.slice A25 t22.length c26) := (blk_cell BKg30.out 0).trans rfl
          have hl1_ : w115.cell? ⟨g30, 1, none⟩ = some (.slice A27 t23.length c28) := (blk_cell BKg30.out 1).trans rfl
          have hl2_ : w115.cell? ⟨g44, 0, none⟩ = some (.slice A39 t36.length c40) := (blk_cell BKg44.out 0).trans rfl
          have hl3_ : w115.cell? ⟨g44, 1, none⟩ = some (.slice A41 t37.length c42) := (blk_cell BKg44.out 1).trans rfl
          go_wp2_with (first | ((with_reducible refine gate_callee (f := 27) rfl ?_); (try (refine gate_guard (by rfl) ?_; dsimp only)); refine goesL_ (some 61) rfl rfl Try.func27 (by kernel_rfl) rfl #[.agg #[.slice A25 t22.length c26, .slice A27 t23.length c28], .agg #[.slice A39 t36.length c40, .slice A41 t37.length c42]] rfl (by (try simp only [List.map_toArray, List.map_cons, List.map_nil]); first | done | rfl | (simp only [List.length_drop, List.length_take]; rfl)) ?_; have hb0_ := below_step HB.out HW.out; have gs_ := GS.out _ (Calm.below HW.out); (with_reducible refine (scarfjointref06_Same.calls k _ _ t22 _ _ t23 _ _ t36 _ _ t37 t116 _ ?s1 ?s2 ?s3 ?s4 ?s5 ?s6 ?s7 ?s8 A_117.out).mono ?_); (case s1 => exact (Kd.R_reads' gs_.1.2.1).2.2); (case s2 => exact (Kd.R_reads' gs_.1.2.1).2.1); (case s3 => exact (Kd.R_reads' gs_.1.2.2).2.2); (case s4 => exact (Kd.R_reads' gs_.1.2.2).2.1); (case s5 => exact (Kd.R_reads' gs_.2.1).2.2); (case s6 => exact (Kd.R_reads' gs_.2.1).2.1); (case s7 => exact (Kd.R_reads' gs_.2.2).2.2); (case s8 => exact (Kd.R_reads' gs_.2.2).2.1); rintro e w118 ⟨rfl, hb⟩; refine ⟨_, rfl, ?_⟩; have n_ := Aside0.mk (below_step HW.out hb); clear HW; have HW := n_; clear n_; clear hb hb0_; (try clear gs_); (try clear gn_)))
          replace BKg1 := kb_ BKg1.out HW.out
          replace BKg2 := kb_ BKg2.out HW.out
          replace BKg8 := kb_ BKg8.out HW.out
          replace BKg30 := kb_ BKg30.out HW.out
          replace BKg44 := kb_ BKg44.out HW.out
          replace HB := Aside0.mk (below_step HB.out HW.out)
          replace GS := Aside0.mk (GS.out.step (Calm.below HW.out))
          clear HW
          (try clear hl0_)
          (try clear hl1_)
          (try clear hl2_)
          (try clear hl3_)
          have H := HH.out
          clear HH
          obtain rfl := Option.some.inj H
          go_ret
          exact ⟨by first | rfl | (simp; done) | (simp [*]; done), HB.out⟩
      · replace c51 : t49 = false := Bool.not_eq_true _ ▸ c51
        subst c51
        rw [if_neg (by decide)] at H
        have HH := Aside0.mk H
        clear H
        have HW := Aside0.mk (Below.refl w47.heap.size w47)
        have hl0_ : w47.cell? ⟨g30, 0, none⟩ = some (.slice A25 t22.length c26) := (blk_cell BKg30.out 0).trans rfl
        have hl1_ : w47.cell? ⟨g30, 1, none⟩ = some (.slice A27 t23.length c28) := (blk_cell BKg30.out 1).trans rfl
        have hl2_ : w47.cell? ⟨g44, 0, none⟩ = some (.slice A39 t36.length c40) := (blk_cell BKg44.out 0).trans rfl
        have hl3_ : w47.cell? ⟨g44, 1, none⟩ = some (.slice A41 t37.length c42) := (blk_cell BKg44.out 1).trans rfl
        go_upto_region 6 with (first | ((with_reducible refine gate_callee (f := 27) rfl ?_); (try (refine gate_guard (by rfl) ?_; dsimp only)); refine goesL_ (some 48) rfl rfl Try.func27 (by kernel_rfl) rfl #[.agg #[.slice A25 t22.length c26, .slice A27 t23.length c28], .agg #[.slice A39 t36.length c40, .slice A41 t37.length c42]] rfl (by (try simp only [List.map_toArray, List.map_cons, List.map_nil]); first | done | rfl | (simp only [List.length_drop, List.length_take]; rfl)) ?_; have hb0_ := below_step HB.out HW.out; have gs_ := GS.out _ (Calm.below HW.out); (with_reducible refine (scarfjointref06_Same.calls k _ _ t22 _ _ t23 _ _ t36 _ _ t37 false _ ?s1 ?s2 ?s3 ?s4 ?s5 ?s6 ?s7 ?s8 A_50.out).mono ?_); (case s1 => exact (Kd.R_reads' gs_.1.2.1).2.2); (case s2 => exact (Kd.R_reads' gs_.1.2.1).2.1); (case s3 => exact (Kd.R_reads' gs_.1.2.2).2.2); (case s4 => exact (Kd.R_reads' gs_.1.2.2).2.1); (case s5 => exact (Kd.R_reads' gs_.2.1).2.2); (case s6 => exact (Kd.R_reads' gs_.2.1).2.1); (case s7 => exact (Kd.R_reads' gs_.2.2).2.2); (case s8 => exact (Kd.R_reads' gs_.2.2).2.1); rintro e w119 ⟨rfl, hb⟩; refine ⟨_, rfl, ?_⟩; have n_ := Aside0.mk (below_step HW.out hb); clear HW; have HW := n_; clear n_; clear hb hb0_; (try clear gs_); (try clear gn_)))
        replace BKg1 := kb_ BKg1.out HW.out
        replace BKg2 := kb_ BKg2.out HW.out
        replace BKg8 := kb_ BKg8.out HW.out
        replace BKg30 := kb_ BKg30.out HW.out
        replace BKg44 := kb_ BKg44.out HW.out
        replace HB := Aside0.mk (below_step HB.out HW.out)
        replace GS := Aside0.mk (GS.out.step (Calm.below HW.out))
        clear HW
        (try clear hl0_)
        (try clear hl1_)
        (try clear hl2_)
        (try clear hl3_)
        have H := HH.out
        clear HH
        replace H := Option.bind_eq_some_iff.mp H
        obtain ⟨t120, A_1210, H⟩ := H
        (try dsimp only at H)
        have A_121 := Aside0.mk A_1210
        clear A_1210
        have HH := Aside0.mk H
        clear H
        have HW := Aside0.mk (Below.refl w119.heap.size w119)
        have hl0_ : w119.cell? ⟨g30, 0, none⟩ = some (.slice A25 t22.length c26) := (blk_cell BKg30.out 0).trans rfl
        have hl1_ : w119.cell? ⟨g30, 1, none⟩ = some (.slice A27 t23.length c28) := (blk_cell BKg30.out 1).trans rfl
        have hl2_ : w119.cell? ⟨g44, 0, none⟩ = some (.slice A39 t36.length c40) := (blk_cell BKg44.out 0).trans rfl
        have hl3_ : w119.cell? ⟨g44, 1, none⟩ = some (.slice A41 t37.length c42) := (blk_cell BKg44.out 1).trans rfl
        go_wp2_with (first | ((with_reducible refine gate_callee (f := 27) rfl ?_); (try (refine gate_guard (by rfl) ?_; dsimp only)); refine goesL_ (some 61) rfl rfl Try.func27 (by kernel_rfl) rfl #[.agg #[.slice A25 t22.length c26, .slice A27 t23.length c28], .agg #[.slice A39 t36.length c40, .slice A41 t37.length c42]] rfl (by (try simp only [List.map_toArray, List.map_cons, List.map_nil]); first | done | rfl | (simp only [List.length_drop, List.length_take]; rfl)) ?_; have hb0_ := below_step HB.out HW.out; have gs_ := GS.out _ (Calm.below HW.out); (with_reducible refine (scarfjointref06_Same.calls k _ _ t22 _ _ t23 _ _ t36 _ _ t37 t120 _ ?s1 ?s2 ?s3 ?s4 ?s5 ?s6 ?s7 ?s8 A_121.out).mono ?_); (case s1 => exact (Kd.R_reads' gs_.1.2.1).2.2); (case s2 => exact (Kd.R_reads' gs_.1.2.1).2.1); (case s3 => exact (Kd.R_reads' gs_.1.2.2).2.2); (case s4 => exact (Kd.R_reads' gs_.1.2.2).2.1); (case s5 => exact (Kd.R_reads' gs_.2.1).2.2); (case s6 => exact (Kd.R_reads' gs_.2.1).2.1); (case s7 => exact (Kd.R_reads' gs_.2.2).2.2); (case s8 => exact (Kd.R_reads' gs_.2.2).2.1); rintro e w122 ⟨rfl, hb⟩; refine ⟨_, rfl, ?_⟩; have n_ := Aside0.mk (below_step HW.out hb); clear HW; have HW := n_; clear n_; clear hb hb0_; (try clear gs_); (try clear gn_)))
        replace BKg1 := kb_ BKg1.out HW.out
        replace BKg2 := kb_ BKg2.out HW.out
        replace BKg8 := kb_ BKg8.out HW.out
        replace BKg30 := kb_ BKg30.out HW.out
        replace BKg44 := kb_ BKg44.out HW.out
        replace HB := Aside0.mk (below_step HB.out HW.out)
        replace GS := Aside0.mk (GS.out.step (Calm.below HW.out))
        clear HW
        (try clear hl0_)
        (try clear hl1_)
        (try clear hl2_)
        (try clear hl3_)
        have H := HH.out
        clear HH
        obtain rfl := Option.some.inj H
        go_ret
        exact ⟨by first | rfl | (simp; done) | (simp [*]; done), HB.out⟩
    · rw [if_neg c48] at H
      have c48a : (t24 == t38) = false := beq_eq_false_iff_ne.mpr c48
      have c48b : (t24 != t38) = true := bne_iff_ne.mpr c48
      clear c48
      have HH := Aside0.mk H
      clear H
      go_upto_region 6 with fail
      (try go_wp2)
      have H := HH.out
      clear HH
      obtain rfl := Option.some.inj H
      go_ret
      exact ⟨by first | rfl | (simp; done) | (simp [*]; done), HB.out⟩
  · replace c11 : t9 = false := Bool.not_eq_true _ ▸ c11
    subst c11
    rw [if_neg (by decide)] at H
    have HH := Aside0.mk H
    clear H
    have HW := Aside0.mk (Below.refl w4.heap.size w4)
    go_upto_region 2 with (first | ((with_reducible refine gate_callee (f := 10) rfl ?_); refine goesL_ (some 13) rfl rfl Try.func10 (by kernel_rfl) rfl #[] rfl (by (try simp only [List.map_toArray, List.map_cons, List.map_nil]); first | done | rfl | (simp only [List.length_drop, List.length_take]; rfl)) ?_; have hb0_ := below_step HB.out HW.out; (with_reducible refine (scarfjointlaw06_awake.calls k true _ A_6.out).mono ?_); rintro e w126 ⟨rfl, hb⟩; refine ⟨_, rfl, ?_⟩; have n_ := Aside0.mk (below_step HW.out hb); clear HW; have HW := n_; clear n_; clear hb hb0_; (try clear gn_); have hl0_ : w126.cell? ⟨g1, 0, none⟩ = some (.slice A0_0 l0_0.length c0_0) := (blk_cell (blk_below BKg1.out HW.out) 0).trans rfl; have hl1_ : w126.cell? ⟨g1, 1, none⟩ = some (.slice A0_1 l0_1.length c0_1) := (blk_cell (blk_below BKg1.out HW.out) 1).trans rfl; have hl2_ : w126.cell? ⟨g2, 0, none⟩ = some (.slice A1_0 l1_0.length c1_0) := (blk_cell (blk_below BKg2.out HW.out) 0).trans rfl; have hl3_ : w126.cell? ⟨g2, 1, none⟩ = some (.slice A1_1 l1_1.length c1_1) := (blk_cell (blk_below BKg2.out HW.out) 1).trans rfl; have hl4_ : w126.cell? ⟨g2, 2, none⟩ = some (.slice A1_2 l1_2.length c1_2) := (blk_cell (blk_below BKg2.out HW.out) 2).trans rfl; have hl5_ : w126.cell? ⟨g2, 3, none⟩ = some (.slice A1_3 l1_3.length c1_3) := (blk_cell (blk_below BKg2.out HW.out) 3).trans rfl) | ((with_reducible refine gate_dst (N := 18) rfl ?_); (try (refine gate_guard (by rfl) ?_; dsimp only)); refine lit_event ?hg (N := 18) ?hd (cs := #[.slice A1_0 l1_0.length c1_0, .slice A1_1 l1_1.length c1_1, .slice A1_2 l1_2.length c1_2, .slice A1_3 l1_3.length c1_3]) (t := 29) (n := 1) ?hr ?_; (case hd => rfl); (case hg => rfl); (case hr => first | (go_simp; done) | (go_simp; rfl)); intro g8 hg w127 hbox hb; have GWg8 := Aside0.mk (show w4.heap.size ≤ g8 from by rw [hg]; exact below_size HW.out); have BKg8 := Aside0.mk hbox; have n_ := Aside0.mk (below_step HW.out hb); clear HW; have HW := n_; clear n_; clear hb hbox hg) | ((with_reducible refine gate_callee (f := 11) rfl ?_); (try (refine gate_guard (by rfl) ?_; dsimp only)); refine goesL_ (some 19) rfl rfl Try.func11 (by kernel_rfl) rfl #[.agg #[.slice A0_0 l0_0.length c0_0, .slice A0_1 l0_1.length c0_1], .slice (some ⟨g8, 0, none⟩) ([(⟨(⟨l1_0, l1_1⟩ : S25), (⟨l1_2, l1_3⟩ : S27)⟩ : S29)] : List (S29)).length 1] rfl (by (try simp only [List.map_toArray, List.map_cons, List.map_nil]); first | done | rfl | (simp only [List.length_drop, List.length_take]; rfl)) ?_; have hb0_ := below_step HB.out HW.out; (with_reducible refine (scarfjointlaw06_few.calls k _ _ l0_0 _ _ l0_1 _ _ ([(⟨(⟨l1_0, l1_1⟩ : S25), (⟨l1_2, l1_3⟩ : S27)⟩ : S29)] : List (S29)) false _ ?s1 ?s2 ?s3 ?s4 ?s5 ?s6 A_10.out).mono ?_); (case s1 => exact (Kd.C_below HR0_0.out hb0_)); (case s2 => exact HC0_0.out); (case s3 => exact (Kd.C_below HR0_1.out hb0_)); (case s4 => exact HC0_1.out); (case s5 => exact (lit_C BKg8.out (Reps.c4 (k29_mk _ (⟨(⟨l1_0, l1_1⟩ : S25), (⟨l1_2, l1_3⟩ : S27)⟩ : S29) HC1_0.out (Kd.C_below HR1_0.out hb0_) HC1_1.out (Kd.C_below HR1_1.out hb0_) HC1_2.out (Kd.C_below HR1_2.out hb0_) HC1_3.out (Kd.C_below HR1_3.out hb0_)) (Reps.none _ _)))); (case s6 => exact (Nat.le_refl _)); rintro e w128 ⟨rfl, hb⟩; refine ⟨_, rfl, ?_⟩; replace BKg8 := kb_ BKg8.out hb; have n_ := Aside0.mk (below_step HW.out hb); clear HW; have HW := n_; clear n_; clear hb hb0_; (try clear gn_)))
    replace BKg1 := kb_ BKg1.out HW.out
    replace BKg2 := kb_ BKg2.out HW.out
    replace GWg8 := Aside0.mk (Nat.le_trans (below_size HB.out) GWg8.out)
    replace HB := Aside0.mk (below_step HB.out HW.out)
    clear HW
    (try clear hl0_)
    (try clear hl1_)
    (try clear hl2_)
    (try clear hl3_)
    (try clear hl4_)
    (try clear hl5_)
    have H := HH.out
    clear HH
    replace H := Option.bind_eq_some_iff.mp H
    obtain ⟨t129, A_1300, H⟩ := H
    (try dsimp only at H)
    have A_130 := Aside0.mk A_1300
    clear A_1300
    have HH := Aside0.mk H
    clear H
    have HW := Aside0.mk (Below.refl w128.heap.size w128)
    go_wp2_with (first | ((with_reducible refine gate_callee (f := 10) rfl ?_); refine goesL_ (some 22) rfl rfl Try.func10 (by kernel_rfl) rfl #[] rfl (by (try simp only [List.map_toArray, List.map_cons, List.map_nil]); first | done | rfl | (simp only [List.length_drop, List.length_take]; rfl)) ?_; have hb0_ := below_step HB.out HW.out; (with_reducible refine (scarfjointlaw06_awake.calls k t129 _ A_130.out).mono ?_); rintro e w131 ⟨rfl, hb⟩; refine ⟨_, rfl, ?_⟩; have n_ := Aside0.mk (below_step HW.out hb); clear HW; have HW := n_; clear n_; clear hb hb0_; (try clear gn_)))
    replace BKg1 := kb_ BKg1.out HW.out
    replace BKg2 := kb_ BKg2.out HW.out
    replace BKg8 := kb_ BKg8.out HW.out
    replace HB := Aside0.mk (below_step HB.out HW.out)
    clear HW
    have H := HH.out
    clear HH
    obtain rfl := Option.some.inj H
    go_ret
    exact ⟨by first | rfl | (simp; done) | (simp [*]; done), HB.out⟩

end Go.Proofs.Ytklacpdobpkbbaa.P
