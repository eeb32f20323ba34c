-- Written by wip/drive.py of this session's repo over the kit's print.py (with contracts of the session's own): not the print's own text
import Derived.Test.YtklacpdobpkbbaaPx0
import Derived.Test.YtklacpdobpkbbaaPx2
import Derived.Test.YtklacpdobpkbbaaPx3
import Derived.Test.YtklacpdobpkbbaaPx4
import Derived.Test.YtklacpdobpkbbaaPx7
import Derived.Test.YtklacpdobpkbbaaPx8
import Derived.Test.YtklacpdobpkbbaaPx10
import Derived.Test.YtklacpdobpkbbaaPx11
namespace Go.Proofs.Ytklacpdobpkbbaa.P
open Go.RowKit Go.Proofs.YtklacpdobpkbbaaW.PrintWords Go.Proofs.YtklacpdobpkbbaaW.PrintLast Go.Proofs.YtklacpdobpkbbaaW.PrintMore
attribute [local go_sem] max2_int min2_int max_two min_two max_three min_three max_four min_four   -- for this text's walks alone
set_option linter.unusedVariables false
set_option linter.unusedSimpArgs false

/-! ### scarfjointlaw06_MorphismValid: function 3 -/
def scarfjointlaw06_MorphismValid.j0 : Nat → Bool → List Int → List (S65) → List Int → List (S65) → List Int → List Int → Option (Bool)
 | 0, _, _, _, _, _, _, _ => none
 | k + 1, x15, x231000, x231001, x232000, x232001, x232002, x232003 => if x15 = true then ((scarfjointlaw06_awake.f k).bind fun t237 => (some t237)) else ((scarfjointlaw06_copied.f x232002 x232003).bind fun bt240 => ((morphism_Valid.f k x231000 x231001 x232000 x232001 bt240.1 bt240.2).bind fun t246 => ((scarfjointref06_Valid.f k x231000 x231001 x232000 x232001 x232002 x232003).bind fun t247 => (if t246 = t247 then ((scarfjointlaw06_copied.f x232002 x232003).bind fun bt248 => ((morphism_Injective.f k x231000 x231001 x232000 x232001 bt248.1 bt248.2).bind fun t254 => ((scarfjointref06_Injective.f k x231000 x231001 x232000 x232001 x232002 x232003).bind fun t255 => (if (t254 == t255) = true then ((scarfjointlaw06_copied.f x232002 x232003).bind fun bt256 => ((morphism_Surjective.f k x231000 x231001 x232000 x232001 bt256.1 bt256.2).bind fun t262 => ((scarfjointref06_Surjective.f k x231000 x231001 x232000 x232001 x232002 x232003).bind fun t263 => (some (t262 == t263))))) else (some false))))) else (some false)))))
def scarfjointlaw06_MorphismValid.f (k : Nat) (l0_0 : List Int) (l0_1 : List (S65)) (l1_0 : List Int) (l1_1 : List (S65)) (l1_2 : List Int) (l1_3 : List Int) : Option (Bool) := (scarfjointlaw06_awake.f k).bind fun t232 => (if t232 = true then ((scarfjointlaw06_few.f k l0_0 l0_1 (([(⟨(⟨l1_0, l1_1⟩ : S25), (⟨l1_2, l1_3⟩ : S27)⟩ : S29)] : List (S29)))).bind fun t236 => (scarfjointlaw06_MorphismValid.j0 k (!t236) l0_0 l0_1 l1_0 l1_1 l1_2 l1_3)) else (scarfjointlaw06_MorphismValid.j0 k true l0_0 l0_1 l1_0 l1_1 l1_2 l1_3))
theorem scarfjointlaw06_MorphismValid.mono_l : ∀ k, (∀ y0 y1 y2 y3 y4 y5 y6, LeO (scarfjointlaw06_MorphismValid.j0 k y0 y1 y2 y3 y4 y5 y6) (scarfjointlaw06_MorphismValid.j0 (k + 1) y0 y1 y2 y3 y4 y5 y6))
 | 0 => fun _ _ _ _ _ _ _ r h => by simp [scarfjointlaw06_MorphismValid.j0] at h
 | k + 1 => by
  have ih0 := scarfjointlaw06_MorphismValid.mono_l k
  ·intro y0 y1 y2 y3 y4 y5 y6
   unfold scarfjointlaw06_MorphismValid.j0
   repeat' first
   | (with_reducible exact ih0 _ _ _ _ _ _ _)
   | (with_reducible exact morphism_Injective.mono _ _ _ _ _ _ _)
   | (with_reducible exact morphism_Surjective.mono _ _ _ _ _ _ _)
   | (with_reducible exact morphism_Valid.mono _ _ _ _ _ _ _)
   | (with_reducible exact scarfjointlaw06_awake.mono _)
   | (with_reducible exact scarfjointlaw06_few.mono _ _ _ _)
   | (with_reducible exact scarfjointref06_Injective.mono _ _ _ _ _ _ _)
   | (with_reducible exact scarfjointref06_Surjective.mono _ _ _ _ _ _ _)
   | (with_reducible exact scarfjointref06_Valid.mono _ _ _ _ _ _ _)
   | (with_reducible exact LeO.refl _)
   | (with_reducible exact LeO.none _)
   | (with_reducible refine LeO.ite ?_ ?_)
   | (with_reducible refine LeO.bind ?_ (fun _ => ?_))
   | exact ih0 _ _ _ _ _ _ _
   | exact morphism_Injective.mono _ _ _ _ _ _ _
   | exact morphism_Surjective.mono _ _ _ _ _ _ _
   | exact morphism_Valid.mono _ _ _ _ _ _ _
   | exact scarfjointlaw06_awake.mono _
   | exact scarfjointlaw06_few.mono _ _ _ _
   | exact scarfjointref06_Injective.mono _ _ _ _ _ _ _
   | exact scarfjointref06_Surjective.mono _ _ _ _ _ _ _
   | exact scarfjointref06_Valid.mono _ _ _ _ _ _ _
   | exact LeO.none _
   | refine LeO.ite ?_ ?_
   | refine LeO.bind ?_ (fun _ => ?_)
theorem scarfjointlaw06_MorphismValid.mono : ∀ a0 a1 a2 a3 a4 a5 k, LeO (scarfjointlaw06_MorphismValid.f k a0 a1 a2 a3 a4 a5) (scarfjointlaw06_MorphismValid.f (k + 1) a0 a1 a2 a3 a4 a5) := by
 intro a0 a1 a2 a3 a4 a5 k
 have ih0 := scarfjointlaw06_MorphismValid.mono_l k
 unfold scarfjointlaw06_MorphismValid.f
 repeat' first
   | (with_reducible exact ih0 _ _ _ _ _ _ _)
   | (with_reducible exact morphism_Injective.mono _ _ _ _ _ _ _)
   | (with_reducible exact morphism_Surjective.mono _ _ _ _ _ _ _)
   | (with_reducible exact morphism_Valid.mono _ _ _ _ _ _ _)
   | (with_reducible exact scarfjointlaw06_awake.mono _)
   | (with_reducible exact scarfjointlaw06_few.mono _ _ _ _)
   | (with_reducible exact scarfjointref06_Injective.mono _ _ _ _ _ _ _)
   | (with_reducible exact scarfjointref06_Surjective.mono _ _ _ _ _ _ _)
   | (with_reducible exact scarfjointref06_Valid.mono _ _ _ _ _ _ _)
   | (with_reducible exact LeO.refl _)
   | (with_reducible exact LeO.none _)
   | (with_reducible refine LeO.ite ?_ ?_)
   | (with_reducible refine LeO.bind ?_ (fun _ => ?_))
   | exact ih0 _ _ _ _ _ _ _
   | exact morphism_Injective.mono _ _ _ _ _ _ _
   | exact morphism_Surjective.mono _ _ _ _ _ _ _
   | exact morphism_Valid.mono _ _ _ _ _ _ _
   | exact scarfjointlaw06_awake.mono _
   | exact scarfjointlaw06_few.mono _ _ _ _
   | exact scarfjointref06_Injective.mono _ _ _ _ _ _ _
   | exact scarfjointref06_Surjective.mono _ _ _ _ _ _ _
   | exact scarfjointref06_Valid.mono _ _ _ _ _ _ _
   | exact LeO.none _
   | refine LeO.ite ?_ ?_
   | refine LeO.bind ?_ (fun _ => ?_)
def scarfjointlaw06_MorphismValid.T3 : Bool × List (List Nat × List Nat) := (true, [([], []), ([0], [0]), ([], []), ([2], [2]), ([], []), ([], []), ([4, 1, 0, 1, 4, 5], [1, 4]), ([5, 3, 6, 0, 1, 2, 3, 4, 5, 6], [3, 5])])
def scarfjointlaw06_MorphismValid.B3 : List Nat := [0, 1, 0, 4, 0, 0, 51, 127]
theorem scarfjointlaw06_MorphismValid.tab3 : rtab .any (opsOf Try.f3 3) = scarfjointlaw06_MorphismValid.T3 := by kernel_rfl
theorem scarfjointlaw06_MorphismValid.bits3 : waitsOk scarfjointlaw06_MorphismValid.T3.2 scarfjointlaw06_MorphismValid.B3 = true := by kernel_rfl
def scarfjointlaw06_MorphismValid.T4 : Bool × List (List Nat × List Nat) := (true, [([], []), ([], []), ([], []), ([2], [2]), ([0, 1, 3, 3], [0, 1, 3]), ([], []), ([], []), ([], []), ([5, 6, 7, 4], [5, 6, 7]), ([4, 8], [4, 8]), ([9, 8], [9]), ([10], [10]), ([10], [10]), ([10], [10]), ([13, 10, 10], [10, 13]), ([11, 12, 14, 14, 10], [10, 11, 12, 14]), ([10], [10]), ([10], [10]), ([10], [10]), ([16, 17, 18, 15, 10], [10, 16, 17, 18]), ([15, 19, 10], [10, 15, 19]), ([10, 20], [10, 20]), ([21, 19], [21]), ([22], [22]), ([22], [22]), ([22], [22]), ([25, 22, 22], [22, 25]), ([23, 24, 26, 26, 22], [22, 23, 24, 26]), ([22], [22]), ([22], [22]), ([22], [22]), ([28, 29, 30, 27, 22], [22, 28, 29, 30]), ([27, 31, 22], [22, 27, 31]), ([22, 32], [22, 32]), ([33, 31, 0, 1, 2, 3, 4, 5, 6, 7, 8, 9, 10, 11, 12, 13, 14, 15, 16, 17, 18, 19, 20, 21, 22, 23, 24, 25, 26, 27, 28, 29, 30, 31, 32, 33], [33])])
def scarfjointlaw06_MorphismValid.B4 : List Nat := [0, 0, 0, 4, 15, 0, 0, 0, 255, 511, 1023, 2047, 2047, 2047, 10239, 32767, 2047, 2047, 2047, 524287, 1048575, 2097151, 4194303, 8388607, 8388607, 8388607, 41943039, 134217727, 8388607, 8388607, 8388607, 2147483647, 4294967295, 8589934591, 17179869183]
theorem scarfjointlaw06_MorphismValid.tab4 : rtab .any (opsOf Try.f3 4) = scarfjointlaw06_MorphismValid.T4 := by kernel_rfl
theorem scarfjointlaw06_MorphismValid.bits4 : waitsOk scarfjointlaw06_MorphismValid.T4.2 scarfjointlaw06_MorphismValid.B4 = true := by kernel_rfl
set_option maxHeartbeats 8000000 in
set_option maxRecDepth 100000 in
theorem scarfjointlaw06_MorphismValid.calls (k : Nat) (A0_0 : Option Addr) (c0_0 : Nat) (l0_0 : List Int) (A0_1 : Option Addr) (c0_1 : Nat) (l0_1 : List (S65)) (P1_0_ : Nat → Prop) (A1_0 : Option Addr) (c1_0 : Nat) (l1_0 : List Int) (P1_1_ : Nat → Prop) (A1_1 : Option Addr) (c1_1 : Nat) (l1_1 : List (S65)) (P1_2_ : Nat → Prop) (A1_2 : Option Addr) (c1_2 : Nat) (l1_2 : List Int) (P1_3_ : Nat → Prop) (A1_3 : Option Addr) (c1_3 : Nat) (l1_3 : List Int) (r : Bool) (w : World) (hr0_0 : Kd.C (Kd.int .i64) w A0_0 l0_0.length l0_0) (hc0_0 : l0_0.length ≤ c0_0) (hr0_1 : Kd.C k65 w A0_1 l0_1.length l0_1) (hc0_1 : l0_1.length ≤ c0_1) (hs1_0 : Kd.V (Kd.int .i64) 3 w w.heap.size (fun k_ => P1_0_ k_) (.slice A1_0 l1_0.length c1_0) l1_0) (hs1_1 : Kd.V k65 65 w w.heap.size (fun k_ => P1_1_ k_) (.slice A1_1 l1_1.length c1_1) l1_1) (hs1_2 : Kd.V (Kd.int .i64) 3 w w.heap.size (fun k_ => P1_2_ k_) (.slice A1_2 l1_2.length c1_2) l1_2) (hs1_3 : Kd.V (Kd.int .i64) 3 w w.heap.size (fun k_ => P1_3_ k_) (.slice A1_3 l1_3.length c1_3) l1_3) (h : scarfjointlaw06_MorphismValid.f k l0_0 l0_1 l1_0 l1_1 l1_2 l1_3 = some r) :
  Calls Try.prog 3 #[.agg #[.slice A0_0 l0_0.length c0_0, .slice A0_1 l0_1.length c0_1], .agg #[.slice A1_0 l1_0.length c1_0, .slice A1_1 l1_1.length c1_1, .slice A1_2 l1_2.length c1_2, .slice A1_3 l1_3.length c1_3]] w fun e w' => e = .returned (.bool r) ∧ Below w.heap.size w w' := by
 have hu25 := Try.underlying25
 have hu29 := Try.underlying29
 have hu27 := Try.underlying27
 have HR0_0 := Aside0.mk hr0_0
 have HC0_0 := Aside0.mk hc0_0
 clear hr0_0 hc0_0
 have HR0_1 := Aside0.mk hr0_1
 have HC0_1 := Aside0.mk hc0_1
 clear hr0_1 hc0_1
 have HO1_0 := Aside0.mk (show Kd.V (Kd.int .i64) 3 w w.heap.size (fun k_ => ((P1_0_ k_ ∨ P1_1_ k_ ∨ P1_2_ k_ ∨ P1_3_ k_) ∨ w.heap.size ≤ k_)) (.slice A1_0 l1_0.length c1_0) l1_0 from Kd.V_mono hs1_0 (fun k_ hk => .inl (.inl hk)))
 have HO1_1 := Aside0.mk (show Kd.V k65 65 w w.heap.size (fun k_ => ((P1_0_ k_ ∨ P1_1_ k_ ∨ P1_2_ k_ ∨ P1_3_ k_) ∨ w.heap.size ≤ k_)) (.slice A1_1 l1_1.length c1_1) l1_1 from Kd.V_mono hs1_1 (fun k_ hk => .inl (.inr (.inl hk))))
 have HO1_2 := Aside0.mk (show Kd.V (Kd.int .i64) 3 w w.heap.size (fun k_ => ((P1_0_ k_ ∨ P1_1_ k_ ∨ P1_2_ k_ ∨ P1_3_ k_) ∨ w.heap.size ≤ k_)) (.slice A1_2 l1_2.length c1_2) l1_2 from Kd.V_mono hs1_2 (fun k_ hk => .inl (.inr (.inr (.inl hk)))))
 have HO1_3 := Aside0.mk (show Kd.V (Kd.int .i64) 3 w w.heap.size (fun k_ => ((P1_0_ k_ ∨ P1_1_ k_ ∨ P1_2_ k_ ∨ P1_3_ k_) ∨ w.heap.size ≤ k_)) (.slice A1_3 l1_3.length c1_3) l1_3 from Kd.V_mono hs1_3 (fun k_ hk => .inl (.inr (.inr (.inr hk)))))
 have HB := Aside0.mk (Below.refl w.heap.size w)
 have H : ((scarfjointlaw06_awake.f k).bind fun t232 => (if t232 = true then ((scarfjointlaw06_few.f k l0_0 l0_1 (([(⟨(⟨l1_0, l1_1⟩ : S25), (⟨l1_2, l1_3⟩ : S27)⟩ : S29)] : List (S29)))).bind fun t236 => (scarfjointlaw06_MorphismValid.j0 k (!t236) l0_0 l0_1 l1_0 l1_1 l1_2 l1_3)) else (scarfjointlaw06_MorphismValid.j0 k true l0_0 l0_1 l1_0 l1_1 l1_2 l1_3))) = some r := h
 clear h
 have HC3 := Aside0.mk H
 clear H
 go_enter Try.func3, Try.ntmps3
 go_upto_region 1 with (first | ((with_reducible refine gate_dst (N := 2) rfl ?_); (try (refine gate_guard (by rfl) ?_; dsimp only)); refine box_event ?hg (N := 2) ?hd (cs := #[.slice A0_0 l0_0.length c0_0, .slice A0_1 l0_1.length c0_1]) (t := 25) ?hr ?_; (case hd => rfl); (case hg => rfl); (case hr => first | (go_simp; done) | (go_simp; rfl)); intro gb230 hg w4 hbox hb; replace HO1_0 := Aside0.mk (Kd.V_below (Kd.V_elderB (mv_ HO1_0.out) gb230 (Nat.le_of_eq hg.symm)) hb); replace HO1_1 := Aside0.mk (Kd.V_below (Kd.V_elderB (mv_ HO1_1.out) gb230 (Nat.le_of_eq hg.symm)) hb); replace HO1_2 := Aside0.mk (Kd.V_below (Kd.V_elderB (mv_ HO1_2.out) gb230 (Nat.le_of_eq hg.symm)) hb); replace HO1_3 := Aside0.mk (Kd.V_below (Kd.V_elderB (mv_ HO1_3.out) gb230 (Nat.le_of_eq hg.symm)) hb); have BK230 := Aside0.mk (hbox); have GW230 := Aside0.mk (gw_ hg (mb_ HB.out)); have GE230 := Aside0.mk (gw_ hg (mb_ HB.out)); replace HB := Aside0.mk (below_step (mb_ HB.out) hb); clear hb hbox hg) | ((with_reducible refine gate_dst (N := 3) rfl ?_); (try (refine gate_guard (by rfl) ?_; dsimp only)); refine box_event ?hg (N := 3) ?hd (cs := #[.slice A1_0 l1_0.length c1_0, .slice A1_1 l1_1.length c1_1, .slice A1_2 l1_2.length c1_2, .slice A1_3 l1_3.length c1_3]) (t := 29) ?hr ?_; (case hd => rfl); (case hg => rfl); (case hr => first | (go_simp; done) | (go_simp; rfl)); intro gb231 hg w5 hbox hb; replace HO1_0 := Aside0.mk (Kd.V_below (Kd.V_elderB (mv_ HO1_0.out) gb231 (Nat.le_of_eq hg.symm)) hb); replace HO1_1 := Aside0.mk (Kd.V_below (Kd.V_elderB (mv_ HO1_1.out) gb231 (Nat.le_of_eq hg.symm)) hb); replace HO1_2 := Aside0.mk (Kd.V_below (Kd.V_elderB (mv_ HO1_2.out) gb231 (Nat.le_of_eq hg.symm)) hb); replace HO1_3 := Aside0.mk (Kd.V_below (Kd.V_elderB (mv_ HO1_3.out) gb231 (Nat.le_of_eq hg.symm)) hb); have BK231 := Aside0.mk (hbox); have GW231 := Aside0.mk (gw_ hg (mbs_ HB.out)); have GE231 := Aside0.mk (gw_ hg (mbs_ HB.out)); replace HB := Aside0.mk (below_step (mbs_ HB.out) hb); have NB230_231 := Aside0.mk (nb_ hg (bk_ BK230.out)); have NB231_230 := Aside0.mk (nc_ hg (bk_ BK230.out)); replace BK230 := Aside0.mk (blk_below (bk_ BK230.out) hb); clear hb hbox hg))
 (try simp only [Act.put, List.setIfInBounds_toArray, List.set_cons_zero, List.set_cons_succ])
 go_cut [15] (fun v15 wc => ∃ (kq : Nat) (x15_2 : Bool), v15 = .bool x15_2 ∧ Aside0 (scarfjointlaw06_MorphismValid.j0 kq x15_2 l0_0 l0_1 l1_0 l1_1 l1_2 l1_3 = some r) ∧ Aside0 (kq ≤ k) ∧ Aside0 (Kd.V (Kd.int .i64) 3 wc w.heap.size (fun k_ => ((P1_0_ k_ ∨ P1_1_ k_ ∨ P1_2_ k_ ∨ P1_3_ k_) ∨ w.heap.size ≤ k_) ∧ k_ ≠ gb230 ∧ k_ ≠ gb231) (.slice A1_0 l1_0.length c1_0) l1_0) ∧ Aside0 (Kd.V k65 65 wc w.heap.size (fun k_ => ((P1_0_ k_ ∨ P1_1_ k_ ∨ P1_2_ k_ ∨ P1_3_ k_) ∨ w.heap.size ≤ k_) ∧ k_ ≠ gb230 ∧ k_ ≠ gb231) (.slice A1_1 l1_1.length c1_1) l1_1) ∧ Aside0 (Kd.V (Kd.int .i64) 3 wc w.heap.size (fun k_ => ((P1_0_ k_ ∨ P1_1_ k_ ∨ P1_2_ k_ ∨ P1_3_ k_) ∨ w.heap.size ≤ k_) ∧ k_ ≠ gb230 ∧ k_ ≠ gb231) (.slice A1_2 l1_2.length c1_2) l1_2) ∧ Aside0 (Kd.V (Kd.int .i64) 3 wc w.heap.size (fun k_ => ((P1_0_ k_ ∨ P1_1_ k_ ∨ P1_2_ k_ ∨ P1_3_ k_) ∨ w.heap.size ≤ k_) ∧ k_ ≠ gb230 ∧ k_ ≠ gb231) (.slice A1_3 l1_3.length c1_3) l1_3) ∧ Aside0 (wc.heap[gb230]? = some (.cells #[(.slice A0_0 l0_0.length c0_0), (.slice A0_1 l0_1.length c0_1)] 25 (0, 0))) ∧ Aside0 (wc.heap[gb231]? = some (.cells #[(.slice A1_0 l1_0.length c1_0), (.slice A1_1 l1_1.length c1_1), (.slice A1_2 l1_2.length c1_2), (.slice A1_3 l1_3.length c1_3)] 29 (0, 0))) ∧ Aside0 (Below w.heap.size w wc))
 case first =>
  as_aux_lemma =>
  have H := HC3.out
  clear HC3
  replace H := Option.bind_eq_some_iff.mp H
  obtain ⟨t232, A60, H⟩ := H
  replace H : (if t232 = true then ((scarfjointlaw06_few.f k l0_0 l0_1 (([(⟨(⟨l1_0, l1_1⟩ : S25), (⟨l1_2, l1_3⟩ : S27)⟩ : S29)] : List (S29)))).bind fun t236 => (scarfjointlaw06_MorphismValid.j0 k (!t236) l0_0 l0_1 l1_0 l1_1 l1_2 l1_3)) else (scarfjointlaw06_MorphismValid.j0 k true l0_0 l0_1 l1_0 l1_1 l1_2 l1_3)) = some r := H
  have A6 := Aside0.mk A60
  clear A60
  by_cases c7 : t232 = true
  ·subst c7
   have H1 : ((scarfjointlaw06_few.f k l0_0 l0_1 (([(⟨(⟨l1_0, l1_1⟩ : S25), (⟨l1_2, l1_3⟩ : S27)⟩ : S29)] : List (S29)))).bind fun t236 => (scarfjointlaw06_MorphismValid.j0 k (!t236) l0_0 l0_1 l1_0 l1_1 l1_2 l1_3)) = some r := by rw [if_pos rfl] at H; exact H
   clear H
   have H := H1
   clear H1
   obtain ⟨y233, hy233⟩ : ∃ y_ : List (S29), y_ = (([(⟨(⟨l1_0, l1_1⟩ : S25), (⟨l1_2, l1_3⟩ : S27)⟩ : S29)] : List (S29))) := ⟨_, rfl⟩
   replace H : ((scarfjointlaw06_few.f k l0_0 l0_1 y233).bind fun t236 => (scarfjointlaw06_MorphismValid.j0 k (!t236) l0_0 l0_1 l1_0 l1_1 l1_2 l1_3)) = some r := by first | (rw [hy233]; with_reducible exact H) | (have H2_ := (Option.bind_some _ _).symm.trans H; rw [hy233]; with_reducible exact H2_) | (have H2_ := (Option.bind_some _ _).symm.trans H; with_reducible exact H2_) | with_reducible exact H | (rw [hy233]; exact H) | exact H
   have Ny233 := Aside0.mk hy233
   clear hy233
   replace H := Option.bind_eq_some_iff.mp H
   obtain ⟨t236, A80, H⟩ := H
   replace H : (scarfjointlaw06_MorphismValid.j0 k (!t236) l0_0 l0_1 l1_0 l1_1 l1_2 l1_3) = some r := H
   have A8 := Aside0.mk A80
   clear A80
   have H' := Aside0.mk H
   clear H
   go_wp2_with (first | ((with_reducible refine gate_callee (f := 10) rfl ?_); refine goesL_ (some 7) rfl rfl Try.func10 (by kernel_rfl) rfl #[] rfl (by (try simp only [List.map_toArray, List.map_cons, List.map_nil]); first | done | rfl | (simp only [List.length_drop, List.length_take]; rfl)) ?_; (with_reducible refine (scarfjointlaw06_awake.calls k  true _ A6.out).mono ?_); rintro e w9 ⟨rfl, hb⟩; refine ⟨_, rfl, ?_⟩; replace HO1_0 := Aside0.mk (Kd.V_below (mv_ HO1_0.out) hb); replace HO1_1 := Aside0.mk (Kd.V_below (mv_ HO1_1.out) hb); replace HO1_2 := Aside0.mk (Kd.V_below (mv_ HO1_2.out) hb); replace HO1_3 := Aside0.mk (Kd.V_below (mv_ HO1_3.out) hb); replace BK230 := Aside0.mk (blk_below (bk_ BK230.out) hb); replace BK231 := Aside0.mk (blk_below (bk_ BK231.out) hb); replace HB := Aside0.mk (below_step (mbs_ HB.out) hb); (try clear hb); (try clear hb2); (try clear hk); (try clear hi); have hnb10 := NB230_231.out; have hnc10 := NB231_230.out; have hcz11_0 := bc0_ BK230.out; have hcz11_1 := bc1_ BK230.out; have hfz11_0 := blk_frozen BK230.out 0; have hfz11_1 := blk_frozen BK230.out 1; have hcz12_0 := bc0_ BK231.out; have hcz12_1 := bc1_ BK231.out; have hcz12_2 := bc2_ BK231.out; have hcz12_3 := bc3_ BK231.out; have hfz12_0 := blk_frozen BK231.out 0; have hfz12_1 := blk_frozen BK231.out 1; have hfz12_2 := blk_frozen BK231.out 2; have hfz12_3 := blk_frozen BK231.out 3) | ((with_reducible refine gate_dst (N := 12) rfl ?_); (try (refine gate_guard (by rfl) ?_; dsimp only)); refine Kd.N_lit k29 _ 29 ?hg (N' := 12) ?hd (xs := ([(⟨(⟨l1_0, l1_1⟩ : S25), (⟨l1_2, l1_3⟩ : S27)⟩ : S29)] : List (S29))) (inner := [.slice A1_0 l1_0.length c1_0, .slice A1_1 l1_1.length c1_1, .slice A1_2 l1_2.length c1_2, .slice A1_3 l1_3.length c1_3]) (ok := (fun k_ => ((P1_0_ k_ ∨ P1_1_ k_ ∨ P1_2_ k_ ∨ P1_3_ k_) ∨ w.heap.size ≤ k_) ∧ k_ ≠ gb230 ∧ k_ ≠ gb231)) (okp := (fun k_ => ((P1_0_ k_ ∨ P1_1_ k_ ∨ P1_2_ k_ ∨ P1_3_ k_) ∨ w.heap.size ≤ k_) ∧ k_ ≠ gb230 ∧ k_ ≠ gb231)) ?hr ?hp (fun _ hk => hk) ((show ∀ k_, w9.heap.size ≤ k_ → (fun k_ => ((P1_0_ k_ ∨ P1_1_ k_ ∨ P1_2_ k_ ∨ P1_3_ k_) ∨ w.heap.size ≤ k_) ∧ k_ ≠ gb230 ∧ k_ ≠ gb231) k_ from fun k_ hk => ⟨(.inr (Nat.le_trans (below_size (mbs_ HB.out)) hk)), Kd.freshB (g := gb230) (o := .cells #[.slice A0_0 l0_0.length c0_0, .slice A0_1 l0_1.length c0_1] 25 (0, 0)) (bk_ BK230.out) k_ hk, Kd.freshB (g := gb231) (o := .cells #[.slice A1_0 l1_0.length c1_0, .slice A1_1 l1_1.length c1_1, .slice A1_2 l1_2.length c1_2, .slice A1_3 l1_3.length c1_3] 29 (0, 0)) (bk_ BK231.out) k_ hk⟩) _ (Nat.le_refl _)) (Below.refl _ _) (Nat.le_refl _) (by simp) ?_; (case hd => rfl); (case hg => rfl); (case hr => first | (go_simp; done) | (go_simp; rfl)); (case hp => exact (Reps.c4 (show Kd.FK k29 _ _ (⟨(⟨l1_0, l1_1⟩ : S25), (⟨l1_2, l1_3⟩ : S27)⟩ : S29) [.slice A1_0 l1_0.length c1_0, .slice A1_1 l1_1.length c1_1, .slice A1_2 l1_2.length c1_2, .slice A1_3 l1_3.length c1_3] from (k29_mkF _ _ (⟨(⟨l1_0, l1_1⟩ : S25), (⟨l1_2, l1_3⟩ : S27)⟩ : S29) (Kd.V_reads' (Kd.V_mono (ok' := (fun k_ => ((P1_0_ k_ ∨ P1_1_ k_ ∨ P1_2_ k_ ∨ P1_3_ k_) ∨ w.heap.size ≤ k_) ∧ k_ ≠ gb230 ∧ k_ ≠ gb231)) (HO1_0.out) (fun k_ hk => ⟨hk.1.1, ⟨hk.1.2, hk.2⟩⟩))).2.1 (Kd.V_F (Kd.V_mono (ok' := (fun k_ => ((P1_0_ k_ ∨ P1_1_ k_ ∨ P1_2_ k_ ∨ P1_3_ k_) ∨ w.heap.size ≤ k_) ∧ k_ ≠ gb230 ∧ k_ ≠ gb231)) (HO1_0.out) (fun k_ hk => ⟨hk.1.1, ⟨hk.1.2, hk.2⟩⟩))) (Kd.V_reads' (Kd.V_mono (ok' := (fun k_ => ((P1_0_ k_ ∨ P1_1_ k_ ∨ P1_2_ k_ ∨ P1_3_ k_) ∨ w.heap.size ≤ k_) ∧ k_ ≠ gb230 ∧ k_ ≠ gb231)) (HO1_1.out) (fun k_ hk => ⟨hk.1.1, ⟨hk.1.2, hk.2⟩⟩))).2.1 (Kd.V_F (Kd.V_mono (ok' := (fun k_ => ((P1_0_ k_ ∨ P1_1_ k_ ∨ P1_2_ k_ ∨ P1_3_ k_) ∨ w.heap.size ≤ k_) ∧ k_ ≠ gb230 ∧ k_ ≠ gb231)) (HO1_1.out) (fun k_ hk => ⟨hk.1.1, ⟨hk.1.2, hk.2⟩⟩))) (Kd.V_reads' (Kd.V_mono (ok' := (fun k_ => ((P1_0_ k_ ∨ P1_1_ k_ ∨ P1_2_ k_ ∨ P1_3_ k_) ∨ w.heap.size ≤ k_) ∧ k_ ≠ gb230 ∧ k_ ≠ gb231)) (HO1_2.out) (fun k_ hk => ⟨hk.1.1, ⟨hk.1.2, hk.2⟩⟩))).2.1 (Kd.V_F (Kd.V_mono (ok' := (fun k_ => ((P1_0_ k_ ∨ P1_1_ k_ ∨ P1_2_ k_ ∨ P1_3_ k_) ∨ w.heap.size ≤ k_) ∧ k_ ≠ gb230 ∧ k_ ≠ gb231)) (HO1_2.out) (fun k_ hk => ⟨hk.1.1, ⟨hk.1.2, hk.2⟩⟩))) (Kd.V_reads' (Kd.V_mono (ok' := (fun k_ => ((P1_0_ k_ ∨ P1_1_ k_ ∨ P1_2_ k_ ∨ P1_3_ k_) ∨ w.heap.size ≤ k_) ∧ k_ ≠ gb230 ∧ k_ ≠ gb231)) (HO1_3.out) (fun k_ hk => ⟨hk.1.1, ⟨hk.1.2, hk.2⟩⟩))).2.1 (Kd.V_F (Kd.V_mono (ok' := (fun k_ => ((P1_0_ k_ ∨ P1_1_ k_ ∨ P1_2_ k_ ∨ P1_3_ k_) ∨ w.heap.size ≤ k_) ∧ k_ ≠ gb230 ∧ k_ ≠ gb231)) (HO1_3.out) (fun k_ hk => ⟨hk.1.1, ⟨hk.1.2, hk.2⟩⟩))))) (Reps.none _ _))); intro v234 w13 ho14 hb hg_ hnew_; clear hg_ hnew_; (first | rw [← Ny233.out] at ho14 | (simp only [Int.reduceToNat] at ho14; rw [← Ny233.out] at ho14)); replace HO1_0 := Aside0.mk (Kd.V_elder' (mv_ HO1_0.out) (Kd.N_base ho14) hb); replace HO1_1 := Aside0.mk (Kd.V_elder' (mv_ HO1_1.out) (Kd.N_base ho14) hb); replace HO1_2 := Aside0.mk (Kd.V_elder' (mv_ HO1_2.out) (Kd.N_base ho14) hb); replace HO1_3 := Aside0.mk (Kd.V_elder' (mv_ HO1_3.out) (Kd.N_base ho14) hb); have HO235 := Aside0.mk (Kd.N_lower ho14 (below_size (mbs_ HB.out))); replace BK230 := Aside0.mk (blk_below (bk_ BK230.out) hb); replace BK231 := Aside0.mk (blk_below (bk_ BK231.out) hb); replace HB := Aside0.mk (below_step (mbs_ HB.out) hb); clear hb ho14; obtain ⟨Ao15, co15, eo15⟩ := Kd.N_slice HO235.out; subst eo15) | (go_at_call 11; (with_reducible refine (scarfjointlaw06_few.calls k _ _ l0_0 _ _ l0_1 _ _ y233 t236 _ ?side1 ?side2 ?side3 ?side4 ?side5 ?side6 A8.out).mono ?_); (case side1 => exact mc_ (Kd.C_below HR0_0.out HB.out)); (case side2 => exact HC0_0.out); (case side3 => exact mc_ (Kd.C_below HR0_1.out HB.out)); (case side4 => exact HC0_1.out); (case side5 => exact mc_ (Kd.N_reads' HO235.out).2.2); (case side6 => exact (Kd.N_reads' HO235.out).2.1); rintro e w16 ⟨rfl, hb⟩; replace HO1_0 := Aside0.mk (Kd.V_below (mv_ HO1_0.out) hb); replace HO1_1 := Aside0.mk (Kd.V_below (mv_ HO1_1.out) hb); replace HO1_2 := Aside0.mk (Kd.V_below (mv_ HO1_2.out) hb); replace HO1_3 := Aside0.mk (Kd.V_below (mv_ HO1_3.out) hb); replace HO235 := Aside0.mk (Kd.N_below (mn_ HO235.out) hb); replace BK230 := Aside0.mk (blk_below (bk_ BK230.out) hb); replace BK231 := Aside0.mk (blk_below (bk_ BK231.out) hb); replace HB := Aside0.mk (below_step (mbs_ HB.out) hb); (try clear hb); (try clear hb2); (try clear hk); (try clear hi)))
   go_meet
   case rel => exact ⟨_, (!t236), (by first | rfl | (simp; done) | (simp [*]; done)), H', ⟨by first | omega | exact Nat.le_refl _⟩, ⟨by (with_reducible repeat (first | apply Kd.V_alloc | apply Kd.V_drewN | apply Kd.V_drew)); exact Kd.V_mono HO1_0.out (fun _ hk => ⟨hk.1.1.1, ⟨hk.1.1.2, hk.1.2⟩⟩)⟩, ⟨by (with_reducible repeat (first | apply Kd.V_alloc | apply Kd.V_drewN | apply Kd.V_drew)); exact Kd.V_mono HO1_1.out (fun _ hk => ⟨hk.1.1.1, ⟨hk.1.1.2, hk.1.2⟩⟩)⟩, ⟨by (with_reducible repeat (first | apply Kd.V_alloc | apply Kd.V_drewN | apply Kd.V_drew)); exact Kd.V_mono HO1_2.out (fun _ hk => ⟨hk.1.1.1, ⟨hk.1.1.2, hk.1.2⟩⟩)⟩, ⟨by (with_reducible repeat (first | apply Kd.V_alloc | apply Kd.V_drewN | apply Kd.V_drew)); exact Kd.V_mono HO1_3.out (fun _ hk => ⟨hk.1.1.1, ⟨hk.1.1.2, hk.1.2⟩⟩)⟩, ⟨bk_ BK230.out⟩, ⟨bk_ BK231.out⟩, ⟨mbs_ HB.out⟩⟩
  ·replace c7 := Bool.eq_false_iff.mpr c7
   subst c7
   have H1 : (scarfjointlaw06_MorphismValid.j0 k true l0_0 l0_1 l1_0 l1_1 l1_2 l1_3) = some r := by rw [if_neg (show ¬ (false = true) by decide)] at H; exact H
   clear H
   have H := H1
   clear H1
   have H' := Aside0.mk H
   clear H
   go_wp2_with (first | ((with_reducible refine gate_callee (f := 10) rfl ?_); refine goesL_ (some 7) rfl rfl Try.func10 (by kernel_rfl) rfl #[] rfl (by (try simp only [List.map_toArray, List.map_cons, List.map_nil]); first | done | rfl | (simp only [List.length_drop, List.length_take]; rfl)) ?_; (with_reducible refine (scarfjointlaw06_awake.calls k  false _ A6.out).mono ?_); rintro e w17 ⟨rfl, hb⟩; refine ⟨_, rfl, ?_⟩; replace HO1_0 := Aside0.mk (Kd.V_below (mv_ HO1_0.out) hb); replace HO1_1 := Aside0.mk (Kd.V_below (mv_ HO1_1.out) hb); replace HO1_2 := Aside0.mk (Kd.V_below (mv_ HO1_2.out) hb); replace HO1_3 := Aside0.mk (Kd.V_below (mv_ HO1_3.out) hb); replace BK230 := Aside0.mk (blk_below (bk_ BK230.out) hb); replace BK231 := Aside0.mk (blk_below (bk_ BK231.out) hb); replace HB := Aside0.mk (below_step (mbs_ HB.out) hb); (try clear hb); (try clear hb2); (try clear hk); (try clear hi)))
   go_meet
   case rel => exact ⟨_, (true), (by first | rfl | (simp; done) | (simp [*]; done)), H', ⟨by first | omega | exact Nat.le_refl _⟩, ⟨by (with_reducible repeat (first | apply Kd.V_alloc | apply Kd.V_drewN | apply Kd.V_drew)); exact Kd.V_mono HO1_0.out (fun _ hk => ⟨hk.1.1, ⟨hk.1.2, hk.2⟩⟩)⟩, ⟨by (with_reducible repeat (first | apply Kd.V_alloc | apply Kd.V_drewN | apply Kd.V_drew)); exact Kd.V_mono HO1_1.out (fun _ hk => ⟨hk.1.1, ⟨hk.1.2, hk.2⟩⟩)⟩, ⟨by (with_reducible repeat (first | apply Kd.V_alloc | apply Kd.V_drewN | apply Kd.V_drew)); exact Kd.V_mono HO1_2.out (fun _ hk => ⟨hk.1.1, ⟨hk.1.2, hk.2⟩⟩)⟩, ⟨by (with_reducible repeat (first | apply Kd.V_alloc | apply Kd.V_drewN | apply Kd.V_drew)); exact Kd.V_mono HO1_3.out (fun _ hk => ⟨hk.1.1, ⟨hk.1.2, hk.2⟩⟩)⟩, ⟨bk_ BK230.out⟩, ⟨bk_ BK231.out⟩, ⟨mbs_ HB.out⟩⟩
 case rest =>
  as_aux_lemma =>
  clear HC3
  try clear c1
  try clear p2
  try clear c3
  try clear c4
  try clear c7
  try clear c10
  try clear hcz11_0
  try clear hcz11_1
  try clear hcz12_0
  try clear hcz12_1
  try clear hcz12_2
  try clear hcz12_3
  try clear hfz11_0
  try clear hfz11_1
  try clear hfz12_0
  try clear hfz12_1
  try clear hfz12_2
  try clear hfz12_3
  obtain ⟨kq, x15_2, rfl, HA, HJ2, HO_232000, HO_232001, HO_232002, HO_232003, BK230, BK231, HB⟩ := hcut
  cases kq with
  | zero => exact absurd HA.out (by simp [scarfjointlaw06_MorphismValid.j0])
  | succ kj2 =>
   have H := HA.out
   clear HA
   simp only [scarfjointlaw06_MorphismValid.j0] at H
   by_cases c18 : x15_2 = true
   ·subst c18
    have H1 : ((scarfjointlaw06_awake.f kj2).bind fun t237 => (some t237)) = some r := by rw [if_pos rfl] at H; exact H
    clear H
    have H := H1
    clear H1
    replace H := Option.bind_eq_some_iff.mp H
    obtain ⟨t237, A190, H⟩ := H
    replace H : (some t237) = some r := H
    have A19 := Aside0.mk A190
    clear A190
    obtain rfl := Option.some.inj H
    go_wp2_with (first | ((with_reducible refine gate_callee (f := 10) rfl ?_); refine goesL_ (some 16) rfl rfl Try.func10 (by kernel_rfl) rfl #[] rfl (by (try simp only [List.map_toArray, List.map_cons, List.map_nil]); first | done | rfl | (simp only [List.length_drop, List.length_take]; rfl)) ?_; (with_reducible refine (scarfjointlaw06_awake.calls kj2  t237 _ A19.out).mono ?_); rintro e w20 ⟨rfl, hb⟩; refine ⟨_, rfl, ?_⟩; replace HO_232000 := Aside0.mk (Kd.V_below (mv_ HO_232000.out) hb); replace HO_232001 := Aside0.mk (Kd.V_below (mv_ HO_232001.out) hb); replace HO_232002 := Aside0.mk (Kd.V_below (mv_ HO_232002.out) hb); replace HO_232003 := Aside0.mk (Kd.V_below (mv_ HO_232003.out) hb); replace BK230 := Aside0.mk (blk_below (bk_ BK230.out) hb); replace BK231 := Aside0.mk (blk_below (bk_ BK231.out) hb); replace HB := Aside0.mk (below_step (mbs_ HB.out) hb); (try clear hb); (try clear hb2); (try clear hk); (try clear hi)))
    go_ret
    exact ⟨by first | rfl | (simp [errW_none, errW_some] <;> rfl) | (simp [*, errW_none, errW_some] <;> rfl), mbs_ HB.out⟩
   ·replace c18 := Bool.eq_false_iff.mpr c18
    subst c18
    have H1 : ((scarfjointlaw06_copied.f l1_2 l1_3).bind fun bt240 => ((morphism_Valid.f kj2 l0_0 l0_1 l1_0 l1_1 bt240.1 bt240.2).bind fun t246 => ((scarfjointref06_Valid.f kj2 l0_0 l0_1 l1_0 l1_1 l1_2 l1_3).bind fun t247 => (if t246 = t247 then ((scarfjointlaw06_copied.f l1_2 l1_3).bind fun bt248 => ((morphism_Injective.f kj2 l0_0 l0_1 l1_0 l1_1 bt248.1 bt248.2).bind fun t254 => ((scarfjointref06_Injective.f kj2 l0_0 l0_1 l1_0 l1_1 l1_2 l1_3).bind fun t255 => (if (t254 == t255) = true then ((scarfjointlaw06_copied.f l1_2 l1_3).bind fun bt256 => ((morphism_Surjective.f kj2 l0_0 l0_1 l1_0 l1_1 bt256.1 bt256.2).bind fun t262 => ((scarfjointref06_Surjective.f kj2 l0_0 l0_1 l1_0 l1_1 l1_2 l1_3).bind fun t263 => (some (t262 == t263))))) else (some false))))) else (some false))))) = some r := by rw [if_neg (show ¬ (false = true) by decide)] at H; exact H
    clear H
    have H := H1
    clear H1
    replace H := Option.bind_eq_some_iff.mp H
    obtain ⟨⟨t240, t243⟩, A210, H⟩ := H
    replace H : ((morphism_Valid.f kj2 l0_0 l0_1 l1_0 l1_1 t240 t243).bind fun t246 => ((scarfjointref06_Valid.f kj2 l0_0 l0_1 l1_0 l1_1 l1_2 l1_3).bind fun t247 => (if t246 = t247 then ((scarfjointlaw06_copied.f l1_2 l1_3).bind fun bt248 => ((morphism_Injective.f kj2 l0_0 l0_1 l1_0 l1_1 bt248.1 bt248.2).bind fun t254 => ((scarfjointref06_Injective.f kj2 l0_0 l0_1 l1_0 l1_1 l1_2 l1_3).bind fun t255 => (if (t254 == t255) = true then ((scarfjointlaw06_copied.f l1_2 l1_3).bind fun bt256 => ((morphism_Surjective.f kj2 l0_0 l0_1 l1_0 l1_1 bt256.1 bt256.2).bind fun t262 => ((scarfjointref06_Surjective.f kj2 l0_0 l0_1 l1_0 l1_1 l1_2 l1_3).bind fun t263 => (some (t262 == t263))))) else (some false))))) else (some false)))) = some r := H
    have A21 := Aside0.mk A210
    clear A210
    replace H := Option.bind_eq_some_iff.mp H
    obtain ⟨t246, A220, H⟩ := H
    replace H : ((scarfjointref06_Valid.f kj2 l0_0 l0_1 l1_0 l1_1 l1_2 l1_3).bind fun t247 => (if t246 = t247 then ((scarfjointlaw06_copied.f l1_2 l1_3).bind fun bt248 => ((morphism_Injective.f kj2 l0_0 l0_1 l1_0 l1_1 bt248.1 bt248.2).bind fun t254 => ((scarfjointref06_Injective.f kj2 l0_0 l0_1 l1_0 l1_1 l1_2 l1_3).bind fun t255 => (if (t254 == t255) = true then ((scarfjointlaw06_copied.f l1_2 l1_3).bind fun bt256 => ((morphism_Surjective.f kj2 l0_0 l0_1 l1_0 l1_1 bt256.1 bt256.2).bind fun t262 => ((scarfjointref06_Surjective.f kj2 l0_0 l0_1 l1_0 l1_1 l1_2 l1_3).bind fun t263 => (some (t262 == t263))))) else (some false))))) else (some false))) = some r := H
    have A22 := Aside0.mk A220
    clear A220
    replace H := Option.bind_eq_some_iff.mp H
    obtain ⟨t247, A230, H⟩ := H
    replace H : (if t246 = t247 then ((scarfjointlaw06_copied.f l1_2 l1_3).bind fun bt248 => ((morphism_Injective.f kj2 l0_0 l0_1 l1_0 l1_1 bt248.1 bt248.2).bind fun t254 => ((scarfjointref06_Injective.f kj2 l0_0 l0_1 l1_0 l1_1 l1_2 l1_3).bind fun t255 => (if (t254 == t255) = true then ((scarfjointlaw06_copied.f l1_2 l1_3).bind fun bt256 => ((morphism_Surjective.f kj2 l0_0 l0_1 l1_0 l1_1 bt256.1 bt256.2).bind fun t262 => ((scarfjointref06_Surjective.f kj2 l0_0 l0_1 l1_0 l1_1 l1_2 l1_3).bind fun t263 => (some (t262 == t263))))) else (some false))))) else (some false)) = some r := H
    have A23 := Aside0.mk A230
    clear A230
    by_cases c24 : t246 = t247
    ·rw [if_pos c24] at H
     have c24b0 : (t246 == t247) = true := beq_iff_eq.mpr c24
     have c24b1 : (t246 != t247) = false := bne_eq_false_iff_eq.mpr c24
     clear c24
     replace H := Option.bind_eq_some_iff.mp H
     obtain ⟨⟨t248, t251⟩, A250, H⟩ := H
     replace H : ((morphism_Injective.f kj2 l0_0 l0_1 l1_0 l1_1 t248 t251).bind fun t254 => ((scarfjointref06_Injective.f kj2 l0_0 l0_1 l1_0 l1_1 l1_2 l1_3).bind fun t255 => (if (t254 == t255) = true then ((scarfjointlaw06_copied.f l1_2 l1_3).bind fun bt256 => ((morphism_Surjective.f kj2 l0_0 l0_1 l1_0 l1_1 bt256.1 bt256.2).bind fun t262 => ((scarfjointref06_Surjective.f kj2 l0_0 l0_1 l1_0 l1_1 l1_2 l1_3).bind fun t263 => (some (t262 == t263))))) else (some false)))) = some r := H
     have A25 := Aside0.mk A250
     clear A250
     replace H := Option.bind_eq_some_iff.mp H
     obtain ⟨t254, A260, H⟩ := H
     replace H : ((scarfjointref06_Injective.f kj2 l0_0 l0_1 l1_0 l1_1 l1_2 l1_3).bind fun t255 => (if (t254 == t255) = true then ((scarfjointlaw06_copied.f l1_2 l1_3).bind fun bt256 => ((morphism_Surjective.f kj2 l0_0 l0_1 l1_0 l1_1 bt256.1 bt256.2).bind fun t262 => ((scarfjointref06_Surjective.f kj2 l0_0 l0_1 l1_0 l1_1 l1_2 l1_3).bind fun t263 => (some (t262 == t263))))) else (some false))) = some r := H
     have A26 := Aside0.mk A260
     clear A260
     replace H := Option.bind_eq_some_iff.mp H
     obtain ⟨t255, A270, H⟩ := H
     replace H : (if (t254 == t255) = true then ((scarfjointlaw06_copied.f l1_2 l1_3).bind fun bt256 => ((morphism_Surjective.f kj2 l0_0 l0_1 l1_0 l1_1 bt256.1 bt256.2).bind fun t262 => ((scarfjointref06_Surjective.f kj2 l0_0 l0_1 l1_0 l1_1 l1_2 l1_3).bind fun t263 => (some (t262 == t263))))) else (some false)) = some r := H
     have A27 := Aside0.mk A270
     clear A270
     by_cases c28 : (t254 == t255) = true
     ·rw [if_pos c28] at H
      have c28b0 : (t254 == t255) = true := c28
      (try (have c28b1 : decide (t254 = t255) = true := by simpa using c28))
      (try (have c28b2 : (t254 == t255) = true := by simpa using c28))
      clear c28
      replace H := Option.bind_eq_some_iff.mp H
      obtain ⟨⟨t256, t259⟩, A290, H⟩ := H
      replace H : ((morphism_Surjective.f kj2 l0_0 l0_1 l1_0 l1_1 t256 t259).bind fun t262 => ((scarfjointref06_Surjective.f kj2 l0_0 l0_1 l1_0 l1_1 l1_2 l1_3).bind fun t263 => (some (t262 == t263)))) = some r := H
      have A29 := Aside0.mk A290
      clear A290
      replace H := Option.bind_eq_some_iff.mp H
      obtain ⟨t262, A300, H⟩ := H
      replace H : ((scarfjointref06_Surjective.f kj2 l0_0 l0_1 l1_0 l1_1 l1_2 l1_3).bind fun t263 => (some (t262 == t263))) = some r := H
      have A30 := Aside0.mk A300
      clear A300
      replace H := Option.bind_eq_some_iff.mp H
      obtain ⟨t263, A310, H⟩ := H
      replace H : (some (t262 == t263)) = some r := H
      have A31 := Aside0.mk A310
      clear A310
      obtain rfl := Option.some.inj H
      try go_wp2
      replace HO_232000 := Aside0.mk (Kd.V_drew HO_232000.out)
      replace HO_232001 := Aside0.mk (Kd.V_drew HO_232001.out)
      replace HO_232002 := Aside0.mk (Kd.V_drew HO_232002.out)
      replace HO_232003 := Aside0.mk (Kd.V_drew HO_232003.out)
      replace BK230 := Aside0.mk (blk_drew BK230.out)
      replace BK231 := Aside0.mk (blk_drew BK231.out)
      replace HB := Aside0.mk (below_drew1 HB.out)
      refine start_ (n := 8) (S := fun w' => w'.cell? ⟨gb231, 0, none⟩ = some (.slice A1_0 l1_0.length c1_0) ∧ w'.cell? ⟨gb231, 1, none⟩ = some (.slice A1_1 l1_1.length c1_1) ∧ w'.cell? ⟨gb231, 2, none⟩ = some (.slice A1_2 l1_2.length c1_2) ∧ w'.cell? ⟨gb231, 3, none⟩ = some (.slice A1_3 l1_3.length c1_3)) (ds := []) #[false, false, false, false, false, false, false, false] (by kernel_rfl) rfl rfl ⟨(blk_cell BK231.out 0).trans rfl, (blk_cell BK231.out 1).trans rfl, (blk_cell BK231.out 2).trans rfl, (blk_cell BK231.out 3).trans rfl⟩ (fun hHeld => ?_); refine with_tabW scarfjointlaw06_MorphismValid.tab3 scarfjointlaw06_MorphismValid.bits3 (fun HT_ HW_ => ?_)
      generalize wc.drew = w32 at HO_232000 HO_232001 HO_232002 HO_232003 BK230 BK231 HB hHeld ⊢
      refine pure_ (i := 0) (N := some 17) (v := ?_) (a' := ?_) #[true, false, false, false, false, false, false, false] rfl rfl (any_of HT_.out (by kernel_rfl)) (fun _ _ _ h => h) (Or.inl ⟨by rfl, ?_⟩) ?_ ?_
      rotate_left
      ·intro w'
       go_simp
       with_reducible rfl
      rotate_left
      ·simp only [Act.put, List.setIfInBounds_toArray, List.set_cons_zero, List.set_cons_succ, i64_w, i32_w]
       rfl
      refine pure_ (i := 2) (N := some 19) (v := ?_) (a' := ?_) #[true, false, true, false, false, false, false, false] rfl rfl (any_of HT_.out (by kernel_rfl)) (fun _ _ _ h => h) (Or.inl ⟨by rfl, ?_⟩) ?_ ?_
      rotate_left
      ·intro w'
       go_simp
       with_reducible rfl
      rotate_left
      ·simp only [Act.put, List.setIfInBounds_toArray, List.set_cons_zero, List.set_cons_succ, i64_w, i32_w]
       rfl
      refine take_ (i := 1) (N := some 18) (v := ?_) (a' := ?_) #[true, true, true, false, false, false, false, false] rfl rfl (take_ofW HT_.out HW_.out (by kernel_rfl)) (fun _ _ _ h => h) (Or.inl ⟨by rfl, ?_⟩) hHeld ?_ ?_
      rotate_left
      ·rintro w' ⟨s0, s1, s2, s3⟩
       go_simp
       with_reducible rfl
      rotate_left
      ·simp only [Act.put, List.setIfInBounds_toArray, List.set_cons_zero, List.set_cons_succ, i64_w, i32_w]
       rfl
      refine take_ (i := 3) (N := some 20) (v := ?_) (a' := ?_) #[true, true, true, true, false, false, false, false] rfl rfl (take_ofW HT_.out HW_.out (by kernel_rfl)) (fun _ _ _ h => h) (Or.inl ⟨by rfl, ?_⟩) hHeld ?_ ?_
      rotate_left
      ·rintro w' ⟨s0, s1, s2, s3⟩
       go_simp
       with_reducible rfl
      rotate_left
      ·simp only [Act.put, List.setIfInBounds_toArray, List.set_cons_zero, List.set_cons_succ, i64_w, i32_w]
       rfl
      refine join_ (σ := Nat × Nat) 2 #[true, true, true, true, true, true, false, false] (fun s_ => [(5, .pointer (some ⟨s_.1, 0, none⟩)), (6, .pointer (some ⟨s_.2, 0, none⟩))]) (fun s_ w' => (w'.cell? ⟨gb231, 0, none⟩ = some (.slice A1_0 l1_0.length c1_0) ∧ w'.cell? ⟨gb231, 1, none⟩ = some (.slice A1_1 l1_1.length c1_1) ∧ w'.cell? ⟨gb231, 2, none⟩ = some (.slice A1_2 l1_2.length c1_2) ∧ w'.cell? ⟨gb231, 3, none⟩ = some (.slice A1_3 l1_3.length c1_3)) ∧ (Kd.V (Kd.int .i64) 3 w' w.heap.size (fun k_ => ((P1_0_ k_ ∨ P1_1_ k_ ∨ P1_2_ k_ ∨ P1_3_ k_) ∨ w.heap.size ≤ k_) ∧ k_ ≠ gb230 ∧ k_ ≠ gb231 ∧ k_ ≠ s_.1 ∧ k_ ≠ s_.2) (.slice A1_0 l1_0.length c1_0) l1_0) ∧ (Kd.V k65 65 w' w.heap.size (fun k_ => ((P1_0_ k_ ∨ P1_1_ k_ ∨ P1_2_ k_ ∨ P1_3_ k_) ∨ w.heap.size ≤ k_) ∧ k_ ≠ gb230 ∧ k_ ≠ gb231 ∧ k_ ≠ s_.1 ∧ k_ ≠ s_.2) (.slice A1_1 l1_1.length c1_1) l1_1) ∧ (Kd.V (Kd.int .i64) 3 w' w.heap.size (fun k_ => ((P1_0_ k_ ∨ P1_1_ k_ ∨ P1_2_ k_ ∨ P1_3_ k_) ∨ w.heap.size ≤ k_) ∧ k_ ≠ gb230 ∧ k_ ≠ gb231 ∧ k_ ≠ s_.1 ∧ k_ ≠ s_.2) (.slice A1_2 l1_2.length c1_2) l1_2) ∧ (Kd.V (Kd.int .i64) 3 w' w.heap.size (fun k_ => ((P1_0_ k_ ∨ P1_1_ k_ ∨ P1_2_ k_ ∨ P1_3_ k_) ∨ w.heap.size ≤ k_) ∧ k_ ≠ gb230 ∧ k_ ≠ gb231 ∧ k_ ≠ s_.1 ∧ k_ ≠ s_.2) (.slice A1_3 l1_3.length c1_3) l1_3) ∧ (w'.heap[gb230]? = some (.cells #[.slice A0_0 l0_0.length c0_0, .slice A0_1 l0_1.length c0_1] 25 (0, 0))) ∧ (w'.heap[gb231]? = some (.cells #[.slice A1_0 l1_0.length c1_0, .slice A1_1 l1_1.length c1_1, .slice A1_2 l1_2.length c1_2, .slice A1_3 l1_3.length c1_3] 29 (0, 0))) ∧ (w'.heap[s_.1]? = some (.cells #[.slice none 0 0, .slice none 0 0] 25 (0, 0))) ∧ (w'.heap[s_.2]? = some (.cells #[.slice none 0 0, .slice none 0 0] 27 (0, 0))) ∧ (w.heap.size ≤ s_.1) ∧ (w.heap.size ≤ s_.1) ∧ (gb230 ≠ s_.1) ∧ (s_.1 ≠ gb230) ∧ (gb231 ≠ s_.1) ∧ (s_.1 ≠ gb231) ∧ (s_.2 ≠ s_.1) ∧ (s_.1 ≠ s_.2) ∧ (w.heap.size ≤ s_.2) ∧ (w.heap.size ≤ s_.2) ∧ (gb230 ≠ s_.2) ∧ (s_.2 ≠ gb230) ∧ (gb231 ≠ s_.2) ∧ (s_.2 ≠ gb231) ∧ (Below w.heap.size w w')) ?_ ?_
      rotate_left
      ·intro hCont
       refine two_ (i := 4) (j := 5) (Ni := some 5) (Nj := some 6) #[true, true, true, true, true, false, false, false] #[true, true, true, true, false, true, false, false] rfl rfl rfl rfl (two_of HT_.out (by kernel_rfl)) (by decide) (by decide) (fun K hK => ?_) (fun K hK => ?_)
       ·skip
        refine box_step ?hg (N := 5) ?hd (cs := #[.slice none 0 0, .slice none 0 0]) (t := 25) ?hr ?_; (case hd => rfl); (case hg => rfl); (case hr => first | (go_simp; done) | (go_simp; rfl))
        intro gb238 hg w33 hbox hb
        replace HO_232000 := Aside0.mk (Kd.V_below (Kd.V_elderB (mv_ HO_232000.out) gb238 (Nat.le_of_eq hg.symm)) hb)
        replace HO_232001 := Aside0.mk (Kd.V_below (Kd.V_elderB (mv_ HO_232001.out) gb238 (Nat.le_of_eq hg.symm)) hb)
        replace HO_232002 := Aside0.mk (Kd.V_below (Kd.V_elderB (mv_ HO_232002.out) gb238 (Nat.le_of_eq hg.symm)) hb)
        replace HO_232003 := Aside0.mk (Kd.V_below (Kd.V_elderB (mv_ HO_232003.out) gb238 (Nat.le_of_eq hg.symm)) hb)
        have BK238 := Aside0.mk (hbox)
        have GW238 := Aside0.mk (gw_ hg (mbs_ HB.out))
        have GE238 := Aside0.mk (gw_ hg (mbs_ HB.out))
        replace HB := Aside0.mk (below_step (mbs_ HB.out) hb)
        have NB230_238 := Aside0.mk (nb_ hg (bk_ BK230.out))
        have NB238_230 := Aside0.mk (nc_ hg (bk_ BK230.out))
        replace BK230 := Aside0.mk (blk_below (bk_ BK230.out) hb)
        have NB231_238 := Aside0.mk (nb_ hg (bk_ BK231.out))
        have NB238_231 := Aside0.mk (nc_ hg (bk_ BK231.out))
        replace BK231 := Aside0.mk (blk_below (bk_ BK231.out) hb)
        clear hb hbox hg
        refine hK.out _ _ ⟨(blk_cell BK231.out 0).trans rfl, (blk_cell BK231.out 1).trans rfl, (blk_cell BK231.out 2).trans rfl, (blk_cell BK231.out 3).trans rfl⟩ (fun hHeld => ?_)
        clear hK K
        refine norm_ (a' := ?_) ?_ ?_
        rotate_left
        ·show Act.put _ (some 5) _ = _
         simp only [Act.put, List.setIfInBounds_toArray, List.set_cons_zero, List.set_cons_succ, i64_w, i32_w]
         rfl
        refine one_ (i := 5) (N := some 6) #[true, true, true, true, true, true, false, false] rfl rfl (one_of HT_.out (by kernel_rfl)) (by decide) (fun K hK => ?_)
        refine box_step ?hg (N := 6) ?hd (cs := #[.slice none 0 0, .slice none 0 0]) (t := 27) ?hr ?_; (case hd => rfl); (case hg => rfl); (case hr => first | (go_simp; done) | (go_simp; rfl))
        intro gb239 hg w34 hbox hb
        replace HO_232000 := Aside0.mk (Kd.V_below (Kd.V_elderB (mv_ HO_232000.out) gb239 (Nat.le_of_eq hg.symm)) hb)
        replace HO_232001 := Aside0.mk (Kd.V_below (Kd.V_elderB (mv_ HO_232001.out) gb239 (Nat.le_of_eq hg.symm)) hb)
        replace HO_232002 := Aside0.mk (Kd.V_below (Kd.V_elderB (mv_ HO_232002.out) gb239 (Nat.le_of_eq hg.symm)) hb)
        replace HO_232003 := Aside0.mk (Kd.V_below (Kd.V_elderB (mv_ HO_232003.out) gb239 (Nat.le_of_eq hg.symm)) hb)
        have BK239 := Aside0.mk (hbox)
        have GW239 := Aside0.mk (gw_ hg (mbs_ HB.out))
        have GE239 := Aside0.mk (gw_ hg (mbs_ HB.out))
        replace HB := Aside0.mk (below_step (mbs_ HB.out) hb)
        have NB230_239 := Aside0.mk (nb_ hg (bk_ BK230.out))
        have NB239_230 := Aside0.mk (nc_ hg (bk_ BK230.out))
        replace BK230 := Aside0.mk (blk_below (bk_ BK230.out) hb)
        have NB231_239 := Aside0.mk (nb_ hg (bk_ BK231.out))
        have NB239_231 := Aside0.mk (nc_ hg (bk_ BK231.out))
        replace BK231 := Aside0.mk (blk_below (bk_ BK231.out) hb)
        have NB238_239 := Aside0.mk (nb_ hg (bk_ BK238.out))
        have NB239_238 := Aside0.mk (nc_ hg (bk_ BK238.out))
        replace BK238 := Aside0.mk (blk_below (bk_ BK238.out) hb)
        clear hb hbox hg
        refine hK.out _ _ ⟨(blk_cell BK231.out 0).trans rfl, (blk_cell BK231.out 1).trans rfl, (blk_cell BK231.out 2).trans rfl, (blk_cell BK231.out 3).trans rfl⟩ (fun hHeld => ?_)
        clear hK K
        refine norm_ (a' := ?_) ?_ ?_
        rotate_left
        ·show Act.put _ (some 6) _ = _
         simp only [Act.put, List.setIfInBounds_toArray, List.set_cons_zero, List.set_cons_succ, i64_w, i32_w]
         rfl
        exact norm_ (by simp only [putAll, Act.put, List.setIfInBounds_toArray, List.set_cons_zero, List.set_cons_succ]) (hCont (gb238, gb239) _ ⟨hHeld, (by (with_reducible repeat (first | apply Kd.V_alloc | apply Kd.V_drewN | apply Kd.V_drew)); exact Kd.V_mono HO_232000.out (fun _ hk => ⟨hk.1.1.1, ⟨hk.1.1.2.1, ⟨hk.1.1.2.2, ⟨hk.1.2, hk.2⟩⟩⟩⟩)), (by (with_reducible repeat (first | apply Kd.V_alloc | apply Kd.V_drewN | apply Kd.V_drew)); exact Kd.V_mono HO_232001.out (fun _ hk => ⟨hk.1.1.1, ⟨hk.1.1.2.1, ⟨hk.1.1.2.2, ⟨hk.1.2, hk.2⟩⟩⟩⟩)), (by (with_reducible repeat (first | apply Kd.V_alloc | apply Kd.V_drewN | apply Kd.V_drew)); exact Kd.V_mono HO_232002.out (fun _ hk => ⟨hk.1.1.1, ⟨hk.1.1.2.1, ⟨hk.1.1.2.2, ⟨hk.1.2, hk.2⟩⟩⟩⟩)), (by (with_reducible repeat (first | apply Kd.V_alloc | apply Kd.V_drewN | apply Kd.V_drew)); exact Kd.V_mono HO_232003.out (fun _ hk => ⟨hk.1.1.1, ⟨hk.1.1.2.1, ⟨hk.1.1.2.2, ⟨hk.1.2, hk.2⟩⟩⟩⟩)), (bk_ BK230.out), (bk_ BK231.out), (bk_ BK238.out), (bk_ BK239.out), GW238.out, GE238.out, NB230_238.out, NB238_230.out, NB231_238.out, NB238_231.out, NB239_238.out, NB238_239.out, GW239.out, GE239.out, NB230_239.out, NB239_230.out, NB231_239.out, NB239_231.out, (mbs_ HB.out)⟩)
       ·skip
        refine box_step ?hg (N := 6) ?hd (cs := #[.slice none 0 0, .slice none 0 0]) (t := 27) ?hr ?_; (case hd => rfl); (case hg => rfl); (case hr => first | (go_simp; done) | (go_simp; rfl))
        intro gb239 hg w33 hbox hb
        replace HO_232000 := Aside0.mk (Kd.V_below (Kd.V_elderB (mv_ HO_232000.out) gb239 (Nat.le_of_eq hg.symm)) hb)
        replace HO_232001 := Aside0.mk (Kd.V_below (Kd.V_elderB (mv_ HO_232001.out) gb239 (Nat.le_of_eq hg.symm)) hb)
        replace HO_232002 := Aside0.mk (Kd.V_below (Kd.V_elderB (mv_ HO_232002.out) gb239 (Nat.le_of_eq hg.symm)) hb)
        replace HO_232003 := Aside0.mk (Kd.V_below (Kd.V_elderB (mv_ HO_232003.out) gb239 (Nat.le_of_eq hg.symm)) hb)
        have BK239 := Aside0.mk (hbox)
        have GW239 := Aside0.mk (gw_ hg (mbs_ HB.out))
        have GE239 := Aside0.mk (gw_ hg (mbs_ HB.out))
        replace HB := Aside0.mk (below_step (mbs_ HB.out) hb)
        have NB230_239 := Aside0.mk (nb_ hg (bk_ BK230.out))
        have NB239_230 := Aside0.mk (nc_ hg (bk_ BK230.out))
        replace BK230 := Aside0.mk (blk_below (bk_ BK230.out) hb)
        have NB231_239 := Aside0.mk (nb_ hg (bk_ BK231.out))
        have NB239_231 := Aside0.mk (nc_ hg (bk_ BK231.out))
        replace BK231 := Aside0.mk (blk_below (bk_ BK231.out) hb)
        clear hb hbox hg
        refine hK.out _ _ ⟨(blk_cell BK231.out 0).trans rfl, (blk_cell BK231.out 1).trans rfl, (blk_cell BK231.out 2).trans rfl, (blk_cell BK231.out 3).trans rfl⟩ (fun hHeld => ?_)
        clear hK K
        refine norm_ (a' := ?_) ?_ ?_
        rotate_left
        ·show Act.put _ (some 6) _ = _
         simp only [Act.put, List.setIfInBounds_toArray, List.set_cons_zero, List.set_cons_succ, i64_w, i32_w]
         rfl
        refine one_ (i := 4) (N := some 5) #[true, true, true, true, true, true, false, false] rfl rfl (one_of HT_.out (by kernel_rfl)) (by decide) (fun K hK => ?_)
        refine box_step ?hg (N := 5) ?hd (cs := #[.slice none 0 0, .slice none 0 0]) (t := 25) ?hr ?_; (case hd => rfl); (case hg => rfl); (case hr => first | (go_simp; done) | (go_simp; rfl))
        intro gb238 hg w34 hbox hb
        replace HO_232000 := Aside0.mk (Kd.V_below (Kd.V_elderB (mv_ HO_232000.out) gb238 (Nat.le_of_eq hg.symm)) hb)
        replace HO_232001 := Aside0.mk (Kd.V_below (Kd.V_elderB (mv_ HO_232001.out) gb238 (Nat.le_of_eq hg.symm)) hb)
        replace HO_232002 := Aside0.mk (Kd.V_below (Kd.V_elderB (mv_ HO_232002.out) gb238 (Nat.le_of_eq hg.symm)) hb)
        replace HO_232003 := Aside0.mk (Kd.V_below (Kd.V_elderB (mv_ HO_232003.out) gb238 (Nat.le_of_eq hg.symm)) hb)
        have BK238 := Aside0.mk (hbox)
        have GW238 := Aside0.mk (gw_ hg (mbs_ HB.out))
        have GE238 := Aside0.mk (gw_ hg (mbs_ HB.out))
        replace HB := Aside0.mk (below_step (mbs_ HB.out) hb)
        have NB230_238 := Aside0.mk (nb_ hg (bk_ BK230.out))
        have NB238_230 := Aside0.mk (nc_ hg (bk_ BK230.out))
        replace BK230 := Aside0.mk (blk_below (bk_ BK230.out) hb)
        have NB231_238 := Aside0.mk (nb_ hg (bk_ BK231.out))
        have NB238_231 := Aside0.mk (nc_ hg (bk_ BK231.out))
        replace BK231 := Aside0.mk (blk_below (bk_ BK231.out) hb)
        have NB239_238 := Aside0.mk (nb_ hg (bk_ BK239.out))
        have NB238_239 := Aside0.mk (nc_ hg (bk_ BK239.out))
        replace BK239 := Aside0.mk (blk_below (bk_ BK239.out) hb)
        clear hb hbox hg
        refine hK.out _ _ ⟨(blk_cell BK231.out 0).trans rfl, (blk_cell BK231.out 1).trans rfl, (blk_cell BK231.out 2).trans rfl, (blk_cell BK231.out 3).trans rfl⟩ (fun hHeld => ?_)
        clear hK K
        refine norm_ (a' := ?_) ?_ ?_
        rotate_left
        ·show Act.put _ (some 5) _ = _
         simp only [Act.put, List.setIfInBounds_toArray, List.set_cons_zero, List.set_cons_succ, i64_w, i32_w]
         rfl
        exact norm_ (by simp only [putAll, Act.put, List.setIfInBounds_toArray, List.set_cons_zero, List.set_cons_succ]) (hCont (gb238, gb239) _ ⟨hHeld, (by (with_reducible repeat (first | apply Kd.V_alloc | apply Kd.V_drewN | apply Kd.V_drew)); exact Kd.V_mono HO_232000.out (fun _ hk => ⟨hk.1.1.1, ⟨hk.1.1.2.1, ⟨hk.1.1.2.2, ⟨hk.2, hk.1.2⟩⟩⟩⟩)), (by (with_reducible repeat (first | apply Kd.V_alloc | apply Kd.V_drewN | apply Kd.V_drew)); exact Kd.V_mono HO_232001.out (fun _ hk => ⟨hk.1.1.1, ⟨hk.1.1.2.1, ⟨hk.1.1.2.2, ⟨hk.2, hk.1.2⟩⟩⟩⟩)), (by (with_reducible repeat (first | apply Kd.V_alloc | apply Kd.V_drewN | apply Kd.V_drew)); exact Kd.V_mono HO_232002.out (fun _ hk => ⟨hk.1.1.1, ⟨hk.1.1.2.1, ⟨hk.1.1.2.2, ⟨hk.2, hk.1.2⟩⟩⟩⟩)), (by (with_reducible repeat (first | apply Kd.V_alloc | apply Kd.V_drewN | apply Kd.V_drew)); exact Kd.V_mono HO_232003.out (fun _ hk => ⟨hk.1.1.1, ⟨hk.1.1.2.1, ⟨hk.1.1.2.2, ⟨hk.2, hk.1.2⟩⟩⟩⟩)), (bk_ BK230.out), (bk_ BK231.out), (bk_ BK238.out), (bk_ BK239.out), GW238.out, GE238.out, NB230_238.out, NB238_230.out, NB231_238.out, NB238_231.out, NB239_238.out, NB238_239.out, GW239.out, GE239.out, NB230_239.out, NB239_230.out, NB231_239.out, NB239_231.out, (mbs_ HB.out)⟩)
      rintro ⟨gb238, gb239⟩ w35 ⟨hS_, h0_, h1_, h2_, h3_, h4_, h5_, h6_, h7_, h8_, h9_, h10_, h11_, h12_, h13_, h14_, h15_, h16_, h17_, h18_, h19_, h20_, h21_, h22_⟩
      replace HO_232000 : Aside0 (Kd.V (Kd.int .i64) 3 w35 w.heap.size (fun k_ => ((P1_0_ k_ ∨ P1_1_ k_ ∨ P1_2_ k_ ∨ P1_3_ k_) ∨ w.heap.size ≤ k_) ∧ k_ ≠ gb230 ∧ k_ ≠ gb231 ∧ k_ ≠ gb238 ∧ k_ ≠ gb239) (.slice A1_0 l1_0.length c1_0) l1_0) := ⟨h0_⟩
      replace HO_232001 : Aside0 (Kd.V k65 65 w35 w.heap.size (fun k_ => ((P1_0_ k_ ∨ P1_1_ k_ ∨ P1_2_ k_ ∨ P1_3_ k_) ∨ w.heap.size ≤ k_) ∧ k_ ≠ gb230 ∧ k_ ≠ gb231 ∧ k_ ≠ gb238 ∧ k_ ≠ gb239) (.slice A1_1 l1_1.length c1_1) l1_1) := ⟨h1_⟩
      replace HO_232002 : Aside0 (Kd.V (Kd.int .i64) 3 w35 w.heap.size (fun k_ => ((P1_0_ k_ ∨ P1_1_ k_ ∨ P1_2_ k_ ∨ P1_3_ k_) ∨ w.heap.size ≤ k_) ∧ k_ ≠ gb230 ∧ k_ ≠ gb231 ∧ k_ ≠ gb238 ∧ k_ ≠ gb239) (.slice A1_2 l1_2.length c1_2) l1_2) := ⟨h2_⟩
      replace HO_232003 : Aside0 (Kd.V (Kd.int .i64) 3 w35 w.heap.size (fun k_ => ((P1_0_ k_ ∨ P1_1_ k_ ∨ P1_2_ k_ ∨ P1_3_ k_) ∨ w.heap.size ≤ k_) ∧ k_ ≠ gb230 ∧ k_ ≠ gb231 ∧ k_ ≠ gb238 ∧ k_ ≠ gb239) (.slice A1_3 l1_3.length c1_3) l1_3) := ⟨h3_⟩
      replace BK230 : Aside0 (w35.heap[gb230]? = some (.cells #[.slice A0_0 l0_0.length c0_0, .slice A0_1 l0_1.length c0_1] 25 (0, 0))) := ⟨h4_⟩
      replace BK231 : Aside0 (w35.heap[gb231]? = some (.cells #[.slice A1_0 l1_0.length c1_0, .slice A1_1 l1_1.length c1_1, .slice A1_2 l1_2.length c1_2, .slice A1_3 l1_3.length c1_3] 29 (0, 0))) := ⟨h5_⟩
      have BK238 : Aside0 (w35.heap[gb238]? = some (.cells #[.slice none 0 0, .slice none 0 0] 25 (0, 0))) := ⟨h6_⟩
      have BK239 : Aside0 (w35.heap[gb239]? = some (.cells #[.slice none 0 0, .slice none 0 0] 27 (0, 0))) := ⟨h7_⟩
      have GW238 : Aside0 (w.heap.size ≤ gb238) := ⟨h8_⟩
      have GE238 : Aside0 (w.heap.size ≤ gb238) := ⟨h9_⟩
      have NB230_238 : Aside0 (gb230 ≠ gb238) := ⟨h10_⟩
      have NB238_230 : Aside0 (gb238 ≠ gb230) := ⟨h11_⟩
      have NB231_238 : Aside0 (gb231 ≠ gb238) := ⟨h12_⟩
      have NB238_231 : Aside0 (gb238 ≠ gb231) := ⟨h13_⟩
      have NB239_238 : Aside0 (gb239 ≠ gb238) := ⟨h14_⟩
      have NB238_239 : Aside0 (gb238 ≠ gb239) := ⟨h15_⟩
      have GW239 : Aside0 (w.heap.size ≤ gb239) := ⟨h16_⟩
      have GE239 : Aside0 (w.heap.size ≤ gb239) := ⟨h17_⟩
      have NB230_239 : Aside0 (gb230 ≠ gb239) := ⟨h18_⟩
      have NB239_230 : Aside0 (gb239 ≠ gb230) := ⟨h19_⟩
      have NB231_239 : Aside0 (gb231 ≠ gb239) := ⟨h20_⟩
      have NB239_231 : Aside0 (gb239 ≠ gb231) := ⟨h21_⟩
      replace HB : Aside0 (Below w.heap.size w w35) := ⟨h22_⟩
      clear h0_ h1_ h2_ h3_ h4_ h5_ h6_ h7_ h8_ h9_ h10_ h11_ h12_ h13_ h14_ h15_ h16_ h17_ h18_ h19_ h20_ h21_ h22_
      have hHeld : w35.cell? ⟨gb231, 0, none⟩ = some (.slice A1_0 l1_0.length c1_0) ∧ w35.cell? ⟨gb231, 1, none⟩ = some (.slice A1_1 l1_1.length c1_1) ∧ w35.cell? ⟨gb231, 2, none⟩ = some (.slice A1_2 l1_2.length c1_2) ∧ w35.cell? ⟨gb231, 3, none⟩ = some (.slice A1_3 l1_3.length c1_3) := hS_
      refine norm_ (a' := ?_) ?_ ?_
      rotate_left
      ·simp only [putAll, Act.put, List.setIfInBounds_toArray, List.set_cons_zero, List.set_cons_succ]
       rfl
      refine one_ (i := 6) (N := none) #[true, true, true, true, true, true, true, false] rfl rfl (one_of HT_.out (by kernel_rfl)) (by decide) (fun K hK => ?_)
      have hs36 : w35.cell? ⟨gb238, 0, none⟩ = some (.slice none 0 0) := (blk_cell BK238.out 0).trans rfl
      have hfs36 := blk_frozen BK238.out 0
      have hns36_0 := NB230_238.out
      have hns36_1 := NB231_238.out
      have hns36_3 := NB239_238.out
      have hms36_0 := NB238_230.out
      have hms36_1 := NB238_231.out
      have hms36_3 := NB238_239.out
      have hs37 : w35.cell? ⟨gb238, 1, none⟩ = some (.slice none 0 0) := (blk_cell BK238.out 1).trans rfl
      have hfs37 := blk_frozen BK238.out 1
      have hns37_0 := NB230_238.out
      have hns37_1 := NB231_238.out
      have hns37_3 := NB239_238.out
      have hms37_0 := NB238_230.out
      have hms37_1 := NB238_231.out
      have hms37_3 := NB238_239.out
      refine skip_ (w1 := ?_) (by rfl) rfl ?_ ?_
      rotate_left
      ·go_simp
       rfl
      refine hK.out _ _ ⟨((cell_far (p := ⟨gb238, _, none⟩) NB231_238.out _).trans (((cell_far (p := ⟨gb238, _, none⟩) NB231_238.out _).trans (hHeld.1)))), ((cell_far (p := ⟨gb238, _, none⟩) NB231_238.out _).trans (((cell_far (p := ⟨gb238, _, none⟩) NB231_238.out _).trans (hHeld.2.1)))), ((cell_far (p := ⟨gb238, _, none⟩) NB231_238.out _).trans (((cell_far (p := ⟨gb238, _, none⟩) NB231_238.out _).trans (hHeld.2.2.1)))), ((cell_far (p := ⟨gb238, _, none⟩) NB231_238.out _).trans (((cell_far (p := ⟨gb238, _, none⟩) NB231_238.out _).trans (hHeld.2.2.2))))⟩ (fun hHeld => ?_)
      clear hK K
      refine one_ (i := 7) (N := none) #[true, true, true, true, true, true, true, true] rfl rfl (one_of HT_.out (by kernel_rfl)) (by decide) (fun K hK => ?_)
      have hs38 : w35.cell? ⟨gb239, 0, none⟩ = some (.slice none 0 0) := (blk_cell BK239.out 0).trans rfl
      have hfs38 := blk_frozen BK239.out 0
      have hns38_0 := NB230_239.out
      have hns38_1 := NB231_239.out
      have hns38_2 := NB238_239.out
      have hms38_0 := NB239_230.out
      have hms38_1 := NB239_231.out
      have hms38_2 := NB239_238.out
      have hs39 : w35.cell? ⟨gb239, 1, none⟩ = some (.slice none 0 0) := (blk_cell BK239.out 1).trans rfl
      have hfs39 := blk_frozen BK239.out 1
      have hns39_0 := NB230_239.out
      have hns39_1 := NB231_239.out
      have hns39_2 := NB238_239.out
      have hms39_0 := NB239_230.out
      have hms39_1 := NB239_231.out
      have hms39_2 := NB239_238.out
      refine skip_ (w1 := ?_) (by rfl) rfl ?_ ?_
      rotate_left
      ·go_simp
       rfl
      refine hK.out _ _ ⟨((cell_far (p := ⟨gb239, _, none⟩) NB231_239.out _).trans (((cell_far (p := ⟨gb239, _, none⟩) NB231_239.out _).trans (hHeld.1)))), ((cell_far (p := ⟨gb239, _, none⟩) NB231_239.out _).trans (((cell_far (p := ⟨gb239, _, none⟩) NB231_239.out _).trans (hHeld.2.1)))), ((cell_far (p := ⟨gb239, _, none⟩) NB231_239.out _).trans (((cell_far (p := ⟨gb239, _, none⟩) NB231_239.out _).trans (hHeld.2.2.1)))), ((cell_far (p := ⟨gb239, _, none⟩) NB231_239.out _).trans (((cell_far (p := ⟨gb239, _, none⟩) NB231_239.out _).trans (hHeld.2.2.2))))⟩ (fun hHeld => ?_)
      clear hK K
      refine done_ (done_of HT_.out (by kernel_rfl)) ?_
      as_aux_lemma =>
      try go_wp2
      have n0_ : Aside0 (Kd.V (Kd.int .i64) 3 ((((w35.setCell ⟨gb238, 0, none⟩ (.slice A1_0 l1_0.length c1_0)).setCell ⟨gb238, 1, none⟩ (.slice A1_1 l1_1.length c1_1)).setCell ⟨gb239, 0, none⟩ (.slice A1_2 l1_2.length c1_2)).setCell ⟨gb239, 1, none⟩ (.slice A1_3 l1_3.length c1_3)) w.heap.size (fun k_ => ((P1_0_ k_ ∨ P1_1_ k_ ∨ P1_2_ k_ ∨ P1_3_ k_) ∨ w.heap.size ≤ k_) ∧ k_ ≠ gb230 ∧ k_ ≠ gb231 ∧ k_ ≠ gb238 ∧ k_ ≠ gb239) (.slice A1_0 l1_0.length c1_0) l1_0) := ⟨by (with_reducible repeat (first | apply Kd.V_alloc | apply Kd.V_drewN | apply Kd.V_drew)); exact Kd.V_mono (Kd.V_far (p := ⟨gb239, 1, none⟩) (Kd.V_far (p := ⟨gb239, 0, none⟩) (Kd.V_far (p := ⟨gb238, 1, none⟩) (Kd.V_far (p := ⟨gb238, 0, none⟩) (Kd.V_mono (Kd.V_mono HO_232000.out (fun k_ hk => (⟨hk, hk.2.2.2.1⟩ : _ ∧ k_ ≠ gb238))) (fun k_ hk => (⟨hk, hk.1.2.2.2.2⟩ : _ ∧ k_ ≠ gb239))) (fun _ hk => hk.1.2) (.slice A1_0 l1_0.length c1_0)) (fun _ hk => hk.1.2) (.slice A1_1 l1_1.length c1_1)) (fun _ hk => hk.2) (.slice A1_2 l1_2.length c1_2)) (fun _ hk => hk.2) (.slice A1_3 l1_3.length c1_3)) (fun _ hk => ⟨hk.1.1.1, ⟨hk.1.1.2.1, ⟨hk.1.1.2.2.1, ⟨hk.1.1.2.2.2.1, hk.1.1.2.2.2.2⟩⟩⟩⟩)⟩
      have n1_ : Aside0 (Kd.V k65 65 ((((w35.setCell ⟨gb238, 0, none⟩ (.slice A1_0 l1_0.length c1_0)).setCell ⟨gb238, 1, none⟩ (.slice A1_1 l1_1.length c1_1)).setCell ⟨gb239, 0, none⟩ (.slice A1_2 l1_2.length c1_2)).setCell ⟨gb239, 1, none⟩ (.slice A1_3 l1_3.length c1_3)) w.heap.size (fun k_ => ((P1_0_ k_ ∨ P1_1_ k_ ∨ P1_2_ k_ ∨ P1_3_ k_) ∨ w.heap.size ≤ k_) ∧ k_ ≠ gb230 ∧ k_ ≠ gb231 ∧ k_ ≠ gb238 ∧ k_ ≠ gb239) (.slice A1_1 l1_1.length c1_1) l1_1) := ⟨by (with_reducible repeat (first | apply Kd.V_alloc | apply Kd.V_drewN | apply Kd.V_drew)); exact Kd.V_mono (Kd.V_far (p := ⟨gb239, 1, none⟩) (Kd.V_far (p := ⟨gb239, 0, none⟩) (Kd.V_far (p := ⟨gb238, 1, none⟩) (Kd.V_far (p := ⟨gb238, 0, none⟩) (Kd.V_mono (Kd.V_mono HO_232001.out (fun k_ hk => (⟨hk, hk.2.2.2.1⟩ : _ ∧ k_ ≠ gb238))) (fun k_ hk => (⟨hk, hk.1.2.2.2.2⟩ : _ ∧ k_ ≠ gb239))) (fun _ hk => hk.1.2) (.slice A1_0 l1_0.length c1_0)) (fun _ hk => hk.1.2) (.slice A1_1 l1_1.length c1_1)) (fun _ hk => hk.2) (.slice A1_2 l1_2.length c1_2)) (fun _ hk => hk.2) (.slice A1_3 l1_3.length c1_3)) (fun _ hk => ⟨hk.1.1.1, ⟨hk.1.1.2.1, ⟨hk.1.1.2.2.1, ⟨hk.1.1.2.2.2.1, hk.1.1.2.2.2.2⟩⟩⟩⟩)⟩
      have n2_ : Aside0 (Kd.V (Kd.int .i64) 3 ((((w35.setCell ⟨gb238, 0, none⟩ (.slice A1_0 l1_0.length c1_0)).setCell ⟨gb238, 1, none⟩ (.slice A1_1 l1_1.length c1_1)).setCell ⟨gb239, 0, none⟩ (.slice A1_2 l1_2.length c1_2)).setCell ⟨gb239, 1, none⟩ (.slice A1_3 l1_3.length c1_3)) w.heap.size (fun k_ => ((P1_0_ k_ ∨ P1_1_ k_ ∨ P1_2_ k_ ∨ P1_3_ k_) ∨ w.heap.size ≤ k_) ∧ k_ ≠ gb230 ∧ k_ ≠ gb231 ∧ k_ ≠ gb238 ∧ k_ ≠ gb239) (.slice A1_2 l1_2.length c1_2) l1_2) := ⟨by (with_reducible repeat (first | apply Kd.V_alloc | apply Kd.V_drewN | apply Kd.V_drew)); exact Kd.V_mono (Kd.V_far (p := ⟨gb239, 1, none⟩) (Kd.V_far (p := ⟨gb239, 0, none⟩) (Kd.V_far (p := ⟨gb238, 1, none⟩) (Kd.V_far (p := ⟨gb238, 0, none⟩) (Kd.V_mono (Kd.V_mono HO_232002.out (fun k_ hk => (⟨hk, hk.2.2.2.1⟩ : _ ∧ k_ ≠ gb238))) (fun k_ hk => (⟨hk, hk.1.2.2.2.2⟩ : _ ∧ k_ ≠ gb239))) (fun _ hk => hk.1.2) (.slice A1_0 l1_0.length c1_0)) (fun _ hk => hk.1.2) (.slice A1_1 l1_1.length c1_1)) (fun _ hk => hk.2) (.slice A1_2 l1_2.length c1_2)) (fun _ hk => hk.2) (.slice A1_3 l1_3.length c1_3)) (fun _ hk => ⟨hk.1.1.1, ⟨hk.1.1.2.1, ⟨hk.1.1.2.2.1, ⟨hk.1.1.2.2.2.1, hk.1.1.2.2.2.2⟩⟩⟩⟩)⟩
      have n3_ : Aside0 (Kd.V (Kd.int .i64) 3 ((((w35.setCell ⟨gb238, 0, none⟩ (.slice A1_0 l1_0.length c1_0)).setCell ⟨gb238, 1, none⟩ (.slice A1_1 l1_1.length c1_1)).setCell ⟨gb239, 0, none⟩ (.slice A1_2 l1_2.length c1_2)).setCell ⟨gb239, 1, none⟩ (.slice A1_3 l1_3.length c1_3)) w.heap.size (fun k_ => ((P1_0_ k_ ∨ P1_1_ k_ ∨ P1_2_ k_ ∨ P1_3_ k_) ∨ w.heap.size ≤ k_) ∧ k_ ≠ gb230 ∧ k_ ≠ gb231 ∧ k_ ≠ gb238 ∧ k_ ≠ gb239) (.slice A1_3 l1_3.length c1_3) l1_3) := ⟨by (with_reducible repeat (first | apply Kd.V_alloc | apply Kd.V_drewN | apply Kd.V_drew)); exact Kd.V_mono (Kd.V_far (p := ⟨gb239, 1, none⟩) (Kd.V_far (p := ⟨gb239, 0, none⟩) (Kd.V_far (p := ⟨gb238, 1, none⟩) (Kd.V_far (p := ⟨gb238, 0, none⟩) (Kd.V_mono (Kd.V_mono HO_232003.out (fun k_ hk => (⟨hk, hk.2.2.2.1⟩ : _ ∧ k_ ≠ gb238))) (fun k_ hk => (⟨hk, hk.1.2.2.2.2⟩ : _ ∧ k_ ≠ gb239))) (fun _ hk => hk.1.2) (.slice A1_0 l1_0.length c1_0)) (fun _ hk => hk.1.2) (.slice A1_1 l1_1.length c1_1)) (fun _ hk => hk.2) (.slice A1_2 l1_2.length c1_2)) (fun _ hk => hk.2) (.slice A1_3 l1_3.length c1_3)) (fun _ hk => ⟨hk.1.1.1, ⟨hk.1.1.2.1, ⟨hk.1.1.2.2.1, ⟨hk.1.1.2.2.2.1, hk.1.1.2.2.2.2⟩⟩⟩⟩)⟩
      have n4_ : Aside0 (((((w35.setCell ⟨gb238, 0, none⟩ (.slice A1_0 l1_0.length c1_0)).setCell ⟨gb238, 1, none⟩ (.slice A1_1 l1_1.length c1_1)).setCell ⟨gb239, 0, none⟩ (.slice A1_2 l1_2.length c1_2)).setCell ⟨gb239, 1, none⟩ (.slice A1_3 l1_3.length c1_3)).heap[gb230]? = some (.cells #[.slice A0_0 l0_0.length c0_0, .slice A0_1 l0_1.length c0_1] 25 (0, 0))) := ⟨by (with_reducible repeat (first | refine blk_drewN ?_ _ | refine blk_drew ?_ | refine blk_alloc ?_ _)); refine blk_far ?_ NB230_239.out _; (with_reducible repeat (first | refine blk_drewN ?_ _ | refine blk_drew ?_ | refine blk_alloc ?_ _)); refine blk_far ?_ NB230_239.out _; (with_reducible repeat (first | refine blk_drewN ?_ _ | refine blk_drew ?_ | refine blk_alloc ?_ _)); refine blk_far ?_ NB230_238.out _; (with_reducible repeat (first | refine blk_drewN ?_ _ | refine blk_drew ?_ | refine blk_alloc ?_ _)); refine blk_far ?_ NB230_238.out _; (with_reducible repeat (first | refine blk_drewN ?_ _ | refine blk_drew ?_ | refine blk_alloc ?_ _)); exact BK230.out⟩
      have n5_ : Aside0 (((((w35.setCell ⟨gb238, 0, none⟩ (.slice A1_0 l1_0.length c1_0)).setCell ⟨gb238, 1, none⟩ (.slice A1_1 l1_1.length c1_1)).setCell ⟨gb239, 0, none⟩ (.slice A1_2 l1_2.length c1_2)).setCell ⟨gb239, 1, none⟩ (.slice A1_3 l1_3.length c1_3)).heap[gb231]? = some (.cells #[.slice A1_0 l1_0.length c1_0, .slice A1_1 l1_1.length c1_1, .slice A1_2 l1_2.length c1_2, .slice A1_3 l1_3.length c1_3] 29 (0, 0))) := ⟨by (with_reducible repeat (first | refine blk_drewN ?_ _ | refine blk_drew ?_ | refine blk_alloc ?_ _)); refine blk_far ?_ NB231_239.out _; (with_reducible repeat (first | refine blk_drewN ?_ _ | refine blk_drew ?_ | refine blk_alloc ?_ _)); refine blk_far ?_ NB231_239.out _; (with_reducible repeat (first | refine blk_drewN ?_ _ | refine blk_drew ?_ | refine blk_alloc ?_ _)); refine blk_far ?_ NB231_238.out _; (with_reducible repeat (first | refine blk_drewN ?_ _ | refine blk_drew ?_ | refine blk_alloc ?_ _)); refine blk_far ?_ NB231_238.out _; (with_reducible repeat (first | refine blk_drewN ?_ _ | refine blk_drew ?_ | refine blk_alloc ?_ _)); exact BK231.out⟩
      have n6_ : Aside0 (((((w35.setCell ⟨gb238, 0, none⟩ (.slice A1_0 l1_0.length c1_0)).setCell ⟨gb238, 1, none⟩ (.slice A1_1 l1_1.length c1_1)).setCell ⟨gb239, 0, none⟩ (.slice A1_2 l1_2.length c1_2)).setCell ⟨gb239, 1, none⟩ (.slice A1_3 l1_3.length c1_3)).heap[gb238]? = some (.cells #[.slice A1_0 l1_0.length c1_0, .slice A1_1 l1_1.length c1_1] 25 (0, 0))) := ⟨by (with_reducible repeat (first | refine blk_drewN ?_ _ | refine blk_drew ?_ | refine blk_alloc ?_ _)); refine blk_far ?_ NB238_239.out _; (with_reducible repeat (first | refine blk_drewN ?_ _ | refine blk_drew ?_ | refine blk_alloc ?_ _)); refine blk_far ?_ NB238_239.out _; (with_reducible repeat (first | refine blk_drewN ?_ _ | refine blk_drew ?_ | refine blk_alloc ?_ _)); refine blk_put (cs := #[.slice A1_0 l1_0.length c1_0, .slice none 0 0]) ?_ 1 _ rfl; (with_reducible repeat (first | refine blk_drewN ?_ _ | refine blk_drew ?_ | refine blk_alloc ?_ _)); refine blk_put (cs := #[.slice none 0 0, .slice none 0 0]) ?_ 0 _ rfl; (with_reducible repeat (first | refine blk_drewN ?_ _ | refine blk_drew ?_ | refine blk_alloc ?_ _)); exact BK238.out⟩
      have n7_ : Aside0 (((((w35.setCell ⟨gb238, 0, none⟩ (.slice A1_0 l1_0.length c1_0)).setCell ⟨gb238, 1, none⟩ (.slice A1_1 l1_1.length c1_1)).setCell ⟨gb239, 0, none⟩ (.slice A1_2 l1_2.length c1_2)).setCell ⟨gb239, 1, none⟩ (.slice A1_3 l1_3.length c1_3)).heap[gb239]? = some (.cells #[.slice A1_2 l1_2.length c1_2, .slice A1_3 l1_3.length c1_3] 27 (0, 0))) := ⟨by (with_reducible repeat (first | refine blk_drewN ?_ _ | refine blk_drew ?_ | refine blk_alloc ?_ _)); refine blk_put (cs := #[.slice A1_2 l1_2.length c1_2, .slice none 0 0]) ?_ 1 _ rfl; (with_reducible repeat (first | refine blk_drewN ?_ _ | refine blk_drew ?_ | refine blk_alloc ?_ _)); refine blk_put (cs := #[.slice none 0 0, .slice none 0 0]) ?_ 0 _ rfl; (with_reducible repeat (first | refine blk_drewN ?_ _ | refine blk_drew ?_ | refine blk_alloc ?_ _)); refine blk_far ?_ NB239_238.out _; (with_reducible repeat (first | refine blk_drewN ?_ _ | refine blk_drew ?_ | refine blk_alloc ?_ _)); refine blk_far ?_ NB239_238.out _; (with_reducible repeat (first | refine blk_drewN ?_ _ | refine blk_drew ?_ | refine blk_alloc ?_ _)); exact BK239.out⟩
      have n8_ : Aside0 (Below w.heap.size w ((((w35.setCell ⟨gb238, 0, none⟩ (.slice A1_0 l1_0.length c1_0)).setCell ⟨gb238, 1, none⟩ (.slice A1_1 l1_1.length c1_1)).setCell ⟨gb239, 0, none⟩ (.slice A1_2 l1_2.length c1_2)).setCell ⟨gb239, 1, none⟩ (.slice A1_3 l1_3.length c1_3))) := ⟨mbs_ HB.out⟩
      (try clear HO_232000)
      (try clear HO_232001)
      (try clear HO_232002)
      (try clear HO_232003)
      (try clear BK230)
      (try clear BK231)
      (try clear BK238)
      (try clear BK239)
      (try clear HB)
      generalize ((((w35.setCell ⟨gb238, 0, none⟩ (.slice A1_0 l1_0.length c1_0)).setCell ⟨gb238, 1, none⟩ (.slice A1_1 l1_1.length c1_1)).setCell ⟨gb239, 0, none⟩ (.slice A1_2 l1_2.length c1_2)).setCell ⟨gb239, 1, none⟩ (.slice A1_3 l1_3.length c1_3)) = w40 at n0_ n1_ n2_ n3_ n4_ n5_ n6_ n7_ n8_ ⊢
      have HO_232000 := n0_
      have HO_232001 := n1_
      have HO_232002 := n2_
      have HO_232003 := n3_
      have BK230 := n4_
      have BK231 := n5_
      have BK238 := n6_
      have BK239 := n7_
      have HB := n8_
      clear n0_ n1_ n2_ n3_ n4_ n5_ n6_ n7_ n8_
      replace HO_232000 := Aside0.mk (Kd.V_drew HO_232000.out)
      replace HO_232001 := Aside0.mk (Kd.V_drew HO_232001.out)
      replace HO_232002 := Aside0.mk (Kd.V_drew HO_232002.out)
      replace HO_232003 := Aside0.mk (Kd.V_drew HO_232003.out)
      replace BK230 := Aside0.mk (blk_drew BK230.out)
      replace BK231 := Aside0.mk (blk_drew BK231.out)
      replace BK238 := Aside0.mk (blk_drew BK238.out)
      replace BK239 := Aside0.mk (blk_drew BK239.out)
      replace HB := Aside0.mk (below_drew1 HB.out)
      refine start_ (n := 35) (S := fun w' => w'.cell? ⟨gb230, 0, none⟩ = some (.slice A0_0 l0_0.length c0_0) ∧ w'.cell? ⟨gb230, 1, none⟩ = some (.slice A0_1 l0_1.length c0_1) ∧ w'.cell? ⟨gb238, 0, none⟩ = some (.slice A1_0 l1_0.length c1_0) ∧ w'.cell? ⟨gb238, 1, none⟩ = some (.slice A1_1 l1_1.length c1_1) ∧ w'.cell? ⟨gb239, 0, none⟩ = some (.slice A1_2 l1_2.length c1_2) ∧ w'.cell? ⟨gb239, 1, none⟩ = some (.slice A1_3 l1_3.length c1_3)) (ds := []) #[false, false, false, false, false, false, false, false, false, false, false, false, false, false, false, false, false, false, false, false, false, false, false, false, false, false, false, false, false, false, false, false, false, false, false] (by kernel_rfl) rfl rfl ⟨(blk_cell BK230.out 0).trans rfl, (blk_cell BK230.out 1).trans rfl, (blk_cell BK238.out 0).trans rfl, (blk_cell BK238.out 1).trans rfl, (blk_cell BK239.out 0).trans rfl, (blk_cell BK239.out 1).trans rfl⟩ (fun hHeld => ?_); refine with_tabW scarfjointlaw06_MorphismValid.tab4 scarfjointlaw06_MorphismValid.bits4 (fun HT_ HW_ => ?_)
      generalize w40.drew = w41 at HO_232000 HO_232001 HO_232002 HO_232003 BK230 BK231 BK238 BK239 HB hHeld ⊢
      refine take_ (i := 0) (N := some 21) (v := ?_) (a' := ?_) #[true, false, false, false, false, false, false, false, false, false, false, false, false, false, false, false, false, false, false, false, false, false, false, false, false, false, false, false, false, false, false, false, false, false, false] rfl rfl (take_ofW HT_.out HW_.out (by kernel_rfl)) (fun _ _ _ h => h) (Or.inl ⟨by rfl, ?_⟩) hHeld ?_ ?_
      rotate_left
      ·rintro w' ⟨s0, s1, s2, s3, s4, s5⟩
       go_simp
       with_reducible rfl
      rotate_left
      ·simp only [Act.put, List.setIfInBounds_toArray, List.set_cons_zero, List.set_cons_succ, i64_w, i32_w]
       rfl
      refine take_ (i := 1) (N := some 22) (v := ?_) (a' := ?_) #[true, true, false, false, false, false, false, false, false, false, false, false, false, false, false, false, false, false, false, false, false, false, false, false, false, false, false, false, false, false, false, false, false, false, false] rfl rfl (take_ofW HT_.out HW_.out (by kernel_rfl)) (fun _ _ _ h => h) (Or.inl ⟨by rfl, ?_⟩) hHeld ?_ ?_
      rotate_left
      ·rintro w' ⟨s0, s1, s2, s3, s4, s5⟩
       go_simp
       with_reducible rfl
      rotate_left
      ·simp only [Act.put, List.setIfInBounds_toArray, List.set_cons_zero, List.set_cons_succ, i64_w, i32_w]
       rfl
      refine take_ (i := 2) (N := some 23) (v := ?_) (a' := ?_) #[true, true, true, false, false, false, false, false, false, false, false, false, false, false, false, false, false, false, false, false, false, false, false, false, false, false, false, false, false, false, false, false, false, false, false] rfl rfl (take_ofW HT_.out HW_.out (by kernel_rfl)) (fun _ _ _ h => h) (Or.inl ⟨by rfl, ?_⟩) hHeld ?_ ?_
      rotate_left
      ·rintro w' ⟨s0, s1, s2, s3, s4, s5⟩
       go_simp
       with_reducible rfl
      rotate_left
      ·simp only [Act.put, List.setIfInBounds_toArray, List.set_cons_zero, List.set_cons_succ, i64_w, i32_w]
       rfl
      refine take_ (i := 5) (N := some 26) (v := ?_) (a' := ?_) #[true, true, true, false, false, true, false, false, false, false, false, false, false, false, false, false, false, false, false, false, false, false, false, false, false, false, false, false, false, false, false, false, false, false, false] rfl rfl (take_ofW HT_.out HW_.out (by kernel_rfl)) (fun _ _ _ h => h) (Or.inl ⟨by rfl, ?_⟩) hHeld ?_ ?_
      rotate_left
      ·rintro w' ⟨s0, s1, s2, s3, s4, s5⟩
       go_simp
       with_reducible rfl
      rotate_left
      ·simp only [Act.put, List.setIfInBounds_toArray, List.set_cons_zero, List.set_cons_succ, i64_w, i32_w]
       rfl
      refine take_ (i := 6) (N := some 27) (v := ?_) (a' := ?_) #[true, true, true, false, false, true, true, false, false, false, false, false, false, false, false, false, false, false, false, false, false, false, false, false, false, false, false, false, false, false, false, false, false, false, false] rfl rfl (take_ofW HT_.out HW_.out (by kernel_rfl)) (fun _ _ _ h => h) (Or.inl ⟨by rfl, ?_⟩) hHeld ?_ ?_
      rotate_left
      ·rintro w' ⟨s0, s1, s2, s3, s4, s5⟩
       go_simp
       with_reducible rfl
      rotate_left
      ·simp only [Act.put, List.setIfInBounds_toArray, List.set_cons_zero, List.set_cons_succ, i64_w, i32_w]
       rfl
      refine take_ (i := 7) (N := some 28) (v := ?_) (a' := ?_) #[true, true, true, false, false, true, true, true, false, false, false, false, false, false, false, false, false, false, false, false, false, false, false, false, false, false, false, false, false, false, false, false, false, false, false] rfl rfl (take_ofW HT_.out HW_.out (by kernel_rfl)) (fun _ _ _ h => h) (Or.inl ⟨by rfl, ?_⟩) hHeld ?_ ?_
      rotate_left
      ·rintro w' ⟨s0, s1, s2, s3, s4, s5⟩
       go_simp
       with_reducible rfl
      rotate_left
      ·simp only [Act.put, List.setIfInBounds_toArray, List.set_cons_zero, List.set_cons_succ, i64_w, i32_w]
       rfl
      refine one_ (i := 3) (N := some 24) #[true, true, true, true, false, true, true, true, false, false, false, false, false, false, false, false, false, false, false, false, false, false, false, false, false, false, false, false, false, false, false, false, false, false, false] rfl rfl (one_of HT_.out (by kernel_rfl)) (by decide) (fun K hK => ?_)
      refine goes_ Try.func13 (by kernel_rfl) rfl #[.agg #[.slice A1_2 l1_2.length c1_2, .slice A1_3 l1_3.length c1_3]] (by rfl) rfl rfl (by (try simp only [List.map_toArray, List.map_cons, List.map_nil]); first | done | rfl | (simp only [List.length_drop, List.length_take]; rfl)) ?_
      with_reducible refine (scarfjointlaw06_copied.calls _ _ l1_2 _ _ l1_3 t240 t243 _ ?side1 ?side2 ?side3 ?side4 A21.out).mono ?_
      (case side1 => exact mc_ (Kd.V_reads' HO_232002.out).2.2)
      (case side2 => exact (Kd.V_reads' HO_232002.out).2.1)
      (case side3 => exact mc_ (Kd.V_reads' HO_232003.out).2.2)
      (case side4 => exact (Kd.V_reads' HO_232003.out).2.1)
      rintro e w42 ⟨v241, v244, rfl, ho0, ho1, hb⟩
      refine ⟨_, rfl, ?_⟩
      replace HO_232000 := Aside0.mk (Kd.V_mono (Kd.V_told (Kd.V_told (Kd.V_old (mv_ HO_232000.out) hb) (Kd.R_base ho0)) (Kd.R_base ho1)) (fun _ h_ => h_.1))
      replace HO_232001 := Aside0.mk (Kd.V_mono (Kd.V_told (Kd.V_told (Kd.V_old (mv_ HO_232001.out) hb) (Kd.R_base ho0)) (Kd.R_base ho1)) (fun _ h_ => h_.1))
      replace HO_232002 := Aside0.mk (Kd.V_mono (Kd.V_told (Kd.V_told (Kd.V_old (mv_ HO_232002.out) hb) (Kd.R_base ho0)) (Kd.R_base ho1)) (fun _ h_ => h_.1))
      replace HO_232003 := Aside0.mk (Kd.V_mono (Kd.V_told (Kd.V_told (Kd.V_old (mv_ HO_232003.out) hb) (Kd.R_base ho0)) (Kd.R_base ho1)) (fun _ h_ => h_.1))
      have HO242 := Aside0.mk (Kd.R_lower (Kd.R_newM (M := fun k_ => (w.heap.size ≤ k_)) ho0 (below_size (mbs_ HB.out)) (fun k_ h_ => h_)) (below_size (mbs_ HB.out)))
      have HO245 := Aside0.mk (Kd.R_lower (Kd.R_newM (M := fun k_ => (w.heap.size ≤ k_)) ho1 (below_size (mbs_ HB.out)) (fun k_ h_ => h_)) (below_size (mbs_ HB.out)))
      replace BK230 := Aside0.mk (blk_below (bk_ BK230.out) hb)
      replace BK231 := Aside0.mk (blk_below (bk_ BK231.out) hb)
      replace BK238 := Aside0.mk (blk_below (bk_ BK238.out) hb)
      replace BK239 := Aside0.mk (blk_below (bk_ BK239.out) hb)
      replace HB := Aside0.mk (below_step (mbs_ HB.out) hb)
      (try clear hb)
      (try clear hb2)
      (try clear hk)
      (try clear hi)
      (try clear ho0)
      (try clear ho1)
      obtain ⟨Ao43, co43, eo43⟩ := Kd.R_slice HO242.out
      (first | subst eo43 | (injection eo43 with f1_ f2_ f3_; have f4_ := f1_.symm; have f5_ := f3_.symm; clear f1_ f2_ f3_; subst f4_; subst f5_))
      obtain ⟨Ao44, co44, eo44⟩ := Kd.R_slice HO245.out
      (first | subst eo44 | (injection eo44 with f1_ f2_ f3_; have f4_ := f1_.symm; have f5_ := f3_.symm; clear f1_ f2_ f3_; subst f4_; subst f5_))
      refine hK.out _ _ ⟨(blk_cell BK230.out 0).trans rfl, (blk_cell BK230.out 1).trans rfl, (blk_cell BK238.out 0).trans rfl, (blk_cell BK238.out 1).trans rfl, (blk_cell BK239.out 0).trans rfl, (blk_cell BK239.out 1).trans rfl⟩ (fun hHeld => ?_)
      clear hK K
      refine norm_ (a' := ?_) ?_ ?_
      rotate_left
      ·show Act.put _ (some 24) _ = _
       simp only [Act.put, List.setIfInBounds_toArray, List.set_cons_zero, List.set_cons_succ, i64_w, i32_w]
       rfl
      refine one_ (i := 4) (N := some 25) #[true, true, true, true, true, true, true, true, false, false, false, false, false, false, false, false, false, false, false, false, false, false, false, false, false, false, false, false, false, false, false, false, false, false, false] rfl rfl (one_of HT_.out (by kernel_rfl)) (by decide) (fun K hK => ?_)
      refine goes_ Try.func12 (by kernel_rfl) rfl #[.agg #[.slice A0_0 l0_0.length c0_0, .slice A0_1 l0_1.length c0_1], .agg #[.slice A1_0 l1_0.length c1_0, .slice A1_1 l1_1.length c1_1], .agg #[.slice Ao43 t240.length co43, .slice Ao44 t243.length co44]] (by rfl) rfl rfl (by (try simp only [List.map_toArray, List.map_cons, List.map_nil]); first | done | rfl | (simp only [List.length_drop, List.length_take]; rfl)) ?_
      with_reducible refine (morphism_Valid.calls kj2 _ _ l0_0 _ _ l0_1 _ _ l1_0 _ _ l1_1 _ _ t240 _ _ t243 t246 _ ?side1 ?side2 ?side3 ?side4 ?side5 ?side6 ?side7 ?side8 ?side9 ?side10 ?side11 ?side12 A22.out).mono ?_
      (case side1 => exact mc_ (Kd.C_below HR0_0.out HB.out))
      (case side2 => exact HC0_0.out)
      (case side3 => exact mc_ (Kd.C_below HR0_1.out HB.out))
      (case side4 => exact HC0_1.out)
      (case side5 => exact mc_ (Kd.V_reads' HO_232000.out).2.2)
      (case side6 => exact (Kd.V_reads' HO_232000.out).2.1)
      (case side7 => exact mc_ (Kd.V_reads' HO_232001.out).2.2)
      (case side8 => exact (Kd.V_reads' HO_232001.out).2.1)
      (case side9 => exact mc_ (Kd.R_reads' HO242.out).2.2)
      (case side10 => exact (Kd.R_reads' HO242.out).2.1)
      (case side11 => exact mc_ (Kd.R_reads' HO245.out).2.2)
      (case side12 => exact (Kd.R_reads' HO245.out).2.1)
      rintro e w45 ⟨rfl, hb⟩
      refine ⟨_, rfl, ?_⟩
      replace HO_232000 := Aside0.mk (Kd.V_below (mv_ HO_232000.out) hb)
      replace HO_232001 := Aside0.mk (Kd.V_below (mv_ HO_232001.out) hb)
      replace HO_232002 := Aside0.mk (Kd.V_below (mv_ HO_232002.out) hb)
      replace HO_232003 := Aside0.mk (Kd.V_below (mv_ HO_232003.out) hb)
      replace HO242 := Aside0.mk (Kd.R_below (mr_ HO242.out) hb)
      replace HO245 := Aside0.mk (Kd.R_below (mr_ HO245.out) hb)
      replace BK230 := Aside0.mk (blk_below (bk_ BK230.out) hb)
      replace BK231 := Aside0.mk (blk_below (bk_ BK231.out) hb)
      replace BK238 := Aside0.mk (blk_below (bk_ BK238.out) hb)
      replace BK239 := Aside0.mk (blk_below (bk_ BK239.out) hb)
      replace HB := Aside0.mk (below_step (mbs_ HB.out) hb)
      (try clear hb)
      (try clear hb2)
      (try clear hk)
      (try clear hi)
      refine hK.out _ _ ⟨(blk_cell BK230.out 0).trans rfl, (blk_cell BK230.out 1).trans rfl, (blk_cell BK238.out 0).trans rfl, (blk_cell BK238.out 1).trans rfl, (blk_cell BK239.out 0).trans rfl, (blk_cell BK239.out 1).trans rfl⟩ (fun hHeld => ?_)
      clear hK K
      refine norm_ (a' := ?_) ?_ ?_
      rotate_left
      ·show Act.put _ (some 25) _ = _
       simp only [Act.put, List.setIfInBounds_toArray, List.set_cons_zero, List.set_cons_succ, i64_w, i32_w]
       rfl
      refine one_ (i := 8) (N := some 29) #[true, true, true, true, true, true, true, true, true, false, false, false, false, false, false, false, false, false, false, false, false, false, false, false, false, false, false, false, false, false, false, false, false, false, false] rfl rfl (one_of HT_.out (by kernel_rfl)) (by decide) (fun K hK => ?_)
      refine goes_ Try.func14 (by kernel_rfl) rfl #[.agg #[.slice A0_0 l0_0.length c0_0, .slice A0_1 l0_1.length c0_1], .agg #[.slice A1_0 l1_0.length c1_0, .slice A1_1 l1_1.length c1_1], .agg #[.slice A1_2 l1_2.length c1_2, .slice A1_3 l1_3.length c1_3]] (by rfl) rfl rfl (by (try simp only [List.map_toArray, List.map_cons, List.map_nil]); first | done | rfl | (simp only [List.length_drop, List.length_take]; rfl)) ?_
      with_reducible refine (scarfjointref06_Valid.calls kj2 _ _ l0_0 _ _ l0_1 _ _ l1_0 _ _ l1_1 _ _ l1_2 _ _ l1_3 t247 _ ?side1 ?side2 ?side3 ?side4 ?side5 ?side6 ?side7 ?side8 ?side9 ?side10 ?side11 ?side12 A23.out).mono ?_
      (case side1 => exact mc_ (Kd.C_below HR0_0.out HB.out))
      (case side2 => exact HC0_0.out)
      (case side3 => exact mc_ (Kd.C_below HR0_1.out HB.out))
      (case side4 => exact HC0_1.out)
      (case side5 => exact mc_ (Kd.V_reads' HO_232000.out).2.2)
      (case side6 => exact (Kd.V_reads' HO_232000.out).2.1)
      (case side7 => exact mc_ (Kd.V_reads' HO_232001.out).2.2)
      (case side8 => exact (Kd.V_reads' HO_232001.out).2.1)
      (case side9 => exact mc_ (Kd.V_reads' HO_232002.out).2.2)
      (case side10 => exact (Kd.V_reads' HO_232002.out).2.1)
      (case side11 => exact mc_ (Kd.V_reads' HO_232003.out).2.2)
      (case side12 => exact (Kd.V_reads' HO_232003.out).2.1)
      rintro e w46 ⟨rfl, hb⟩
      refine ⟨_, rfl, ?_⟩
      replace HO_232000 := Aside0.mk (Kd.V_below (mv_ HO_232000.out) hb)
      replace HO_232001 := Aside0.mk (Kd.V_below (mv_ HO_232001.out) hb)
      replace HO_232002 := Aside0.mk (Kd.V_below (mv_ HO_232002.out) hb)
      replace HO_232003 := Aside0.mk (Kd.V_below (mv_ HO_232003.out) hb)
      replace HO242 := Aside0.mk (Kd.R_below (mr_ HO242.out) hb)
      replace HO245 := Aside0.mk (Kd.R_below (mr_ HO245.out) hb)
      replace BK230 := Aside0.mk (blk_below (bk_ BK230.out) hb)
      replace BK231 := Aside0.mk (blk_below (bk_ BK231.out) hb)
      replace BK238 := Aside0.mk (blk_below (bk_ BK238.out) hb)
      replace BK239 := Aside0.mk (blk_below (bk_ BK239.out) hb)
      replace HB := Aside0.mk (below_step (mbs_ HB.out) hb)
      (try clear hb)
      (try clear hb2)
      (try clear hk)
      (try clear hi)
      refine hK.out _ _ ⟨(blk_cell BK230.out 0).trans rfl, (blk_cell BK230.out 1).trans rfl, (blk_cell BK238.out 0).trans rfl, (blk_cell BK238.out 1).trans rfl, (blk_cell BK239.out 0).trans rfl, (blk_cell BK239.out 1).trans rfl⟩ (fun hHeld => ?_)
      clear hK K
      refine norm_ (a' := ?_) ?_ ?_
      rotate_left
      ·show Act.put _ (some 29) _ = _
       simp only [Act.put, List.setIfInBounds_toArray, List.set_cons_zero, List.set_cons_succ, i64_w, i32_w]
       rfl
      refine pure_ (i := 9) (N := some 30) (v := ?_) (a' := ?_) #[true, true, true, true, true, true, true, true, true, true, false, false, false, false, false, false, false, false, false, false, false, false, false, false, false, false, false, false, false, false, false, false, false, false, false] rfl rfl (any_of HT_.out (by kernel_rfl)) (fun _ _ _ h => h) (Or.inl ⟨by rfl, ?_⟩) ?_ ?_
      rotate_left
      ·intro w'
       go_simp
       with_reducible rfl
      rotate_left
      ·simp only [Act.put, List.setIfInBounds_toArray, List.set_cons_zero, List.set_cons_succ, i64_w, i32_w]
       rfl
      refine pure_ (i := 10) (N := some 31) (v := ?_) (a' := ?_) #[true, true, true, true, true, true, true, true, true, true, true, false, false, false, false, false, false, false, false, false, false, false, false, false, false, false, false, false, false, false, false, false, false, false, false] rfl rfl (any_of HT_.out (by kernel_rfl)) (fun _ _ _ h => h) (Or.inl ⟨by rfl, ?_⟩) ?_ ?_
      rotate_left
      ·intro w'
       go_simp
       with_reducible rfl
      rotate_left
      ·simp only [Act.put, List.setIfInBounds_toArray, List.set_cons_zero, List.set_cons_succ, i64_w, i32_w]
       rfl
      refine take_ (i := 11) (N := some 32) (v := ?_) (a' := ?_) #[true, true, true, true, true, true, true, true, true, true, true, true, false, false, false, false, false, false, false, false, false, false, false, false, false, false, false, false, false, false, false, false, false, false, false] rfl rfl (take_ofW HT_.out HW_.out (by kernel_rfl)) (fun _ _ _ h => h) (Or.inl ⟨by rfl, ?_⟩) hHeld ?_ ?_
      rotate_left
      ·rintro w' ⟨s0, s1, s2, s3, s4, s5⟩
       go_simp
       with_reducible rfl
      rotate_left
      ·simp only [Act.put, List.setIfInBounds_toArray, List.set_cons_zero, List.set_cons_succ, i64_w, i32_w]
       rfl
      refine take_ (i := 12) (N := some 33) (v := ?_) (a' := ?_) #[true, true, true, true, true, true, true, true, true, true, true, true, true, false, false, false, false, false, false, false, false, false, false, false, false, false, false, false, false, false, false, false, false, false, false] rfl rfl (take_ofW HT_.out HW_.out (by kernel_rfl)) (fun _ _ _ h => h) (Or.inl ⟨by rfl, ?_⟩) hHeld ?_ ?_
      rotate_left
      ·rintro w' ⟨s0, s1, s2, s3, s4, s5⟩
       go_simp
       with_reducible rfl
      rotate_left
      ·simp only [Act.put, List.setIfInBounds_toArray, List.set_cons_zero, List.set_cons_succ, i64_w, i32_w]
       rfl
      refine take_ (i := 13) (N := some 34) (v := ?_) (a' := ?_) #[true, true, true, true, true, true, true, true, true, true, true, true, true, true, false, false, false, false, false, false, false, false, false, false, false, false, false, false, false, false, false, false, false, false, false] rfl rfl (take_ofW HT_.out HW_.out (by kernel_rfl)) (fun _ _ _ h => h) (Or.inl ⟨by rfl, ?_⟩) hHeld ?_ ?_
      rotate_left
      ·rintro w' ⟨s0, s1, s2, s3, s4, s5⟩
       go_simp
       with_reducible rfl
      rotate_left
      ·simp only [Act.put, List.setIfInBounds_toArray, List.set_cons_zero, List.set_cons_succ, i64_w, i32_w]
       rfl
      refine take_ (i := 16) (N := some 37) (v := ?_) (a' := ?_) #[true, true, true, true, true, true, true, true, true, true, true, true, true, true, false, false, true, false, false, false, false, false, false, false, false, false, false, false, false, false, false, false, false, false, false] rfl rfl (take_ofW HT_.out HW_.out (by kernel_rfl)) (fun _ _ _ h => h) (Or.inl ⟨by rfl, ?_⟩) hHeld ?_ ?_
      rotate_left
      ·rintro w' ⟨s0, s1, s2, s3, s4, s5⟩
       go_simp
       with_reducible rfl
      rotate_left
      ·simp only [Act.put, List.setIfInBounds_toArray, List.set_cons_zero, List.set_cons_succ, i64_w, i32_w]
       rfl
      refine take_ (i := 17) (N := some 38) (v := ?_) (a' := ?_) #[true, true, true, true, true, true, true, true, true, true, true, true, true, true, false, false, true, true, false, false, false, false, false, false, false, false, false, false, false, false, false, false, false, false, false] rfl rfl (take_ofW HT_.out HW_.out (by kernel_rfl)) (fun _ _ _ h => h) (Or.inl ⟨by rfl, ?_⟩) hHeld ?_ ?_
      rotate_left
      ·rintro w' ⟨s0, s1, s2, s3, s4, s5⟩
       go_simp
       with_reducible rfl
      rotate_left
      ·simp only [Act.put, List.setIfInBounds_toArray, List.set_cons_zero, List.set_cons_succ, i64_w, i32_w]
       rfl
      refine take_ (i := 18) (N := some 39) (v := ?_) (a' := ?_) #[true, true, true, true, true, true, true, true, true, true, true, true, true, true, false, false, true, true, true, false, false, false, false, false, false, false, false, false, false, false, false, false, false, false, false] rfl rfl (take_ofW HT_.out HW_.out (by kernel_rfl)) (fun _ _ _ h => h) (Or.inl ⟨by rfl, ?_⟩) hHeld ?_ ?_
      rotate_left
      ·rintro w' ⟨s0, s1, s2, s3, s4, s5⟩
       go_simp
       with_reducible rfl
      rotate_left
      ·simp only [Act.put, List.setIfInBounds_toArray, List.set_cons_zero, List.set_cons_succ, i64_w, i32_w]
       rfl
      refine one_ (i := 14) (N := some 35) #[true, true, true, true, true, true, true, true, true, true, true, true, true, true, true, false, true, true, true, false, false, false, false, false, false, false, false, false, false, false, false, false, false, false, false] rfl rfl (one_of HT_.out (by kernel_rfl)) (by decide) (fun K hK => ?_)
      refine goes_ Try.func13 (by kernel_rfl) rfl #[.agg #[.slice A1_2 l1_2.length c1_2, .slice A1_3 l1_3.length c1_3]] (by rfl) rfl rfl (by (try simp only [List.map_toArray, List.map_cons, List.map_nil]); first | done | rfl | (simp only [List.length_drop, List.length_take]; rfl)) ?_
      with_reducible refine (scarfjointlaw06_copied.calls _ _ l1_2 _ _ l1_3 t248 t251 _ ?side1 ?side2 ?side3 ?side4 A25.out).mono ?_
      (case side1 => exact mc_ (Kd.V_reads' HO_232002.out).2.2)
      (case side2 => exact (Kd.V_reads' HO_232002.out).2.1)
      (case side3 => exact mc_ (Kd.V_reads' HO_232003.out).2.2)
      (case side4 => exact (Kd.V_reads' HO_232003.out).2.1)
      rintro e w47 ⟨v249, v252, rfl, ho0, ho1, hb⟩
      refine ⟨_, rfl, ?_⟩
      replace HO_232000 := Aside0.mk (Kd.V_mono (Kd.V_told (Kd.V_told (Kd.V_old (mv_ HO_232000.out) hb) (Kd.R_base ho0)) (Kd.R_base ho1)) (fun _ h_ => h_.1))
      replace HO_232001 := Aside0.mk (Kd.V_mono (Kd.V_told (Kd.V_told (Kd.V_old (mv_ HO_232001.out) hb) (Kd.R_base ho0)) (Kd.R_base ho1)) (fun _ h_ => h_.1))
      replace HO_232002 := Aside0.mk (Kd.V_mono (Kd.V_told (Kd.V_told (Kd.V_old (mv_ HO_232002.out) hb) (Kd.R_base ho0)) (Kd.R_base ho1)) (fun _ h_ => h_.1))
      replace HO_232003 := Aside0.mk (Kd.V_mono (Kd.V_told (Kd.V_told (Kd.V_old (mv_ HO_232003.out) hb) (Kd.R_base ho0)) (Kd.R_base ho1)) (fun _ h_ => h_.1))
      have HO250 := Aside0.mk (Kd.R_lower (Kd.R_new' (Kd.R_new' (Kd.R_newM (M := fun k_ => (w.heap.size ≤ k_)) ho0 (below_size (mbs_ HB.out)) (fun k_ h_ => h_)) (Kd.R_lt (mr_ HO242.out))) (Kd.R_lt (mr_ HO245.out))) (below_size (mbs_ HB.out)))
      have HO253 := Aside0.mk (Kd.R_lower (Kd.R_new' (Kd.R_new' (Kd.R_newM (M := fun k_ => (w.heap.size ≤ k_)) ho1 (below_size (mbs_ HB.out)) (fun k_ h_ => h_)) (Kd.R_lt (mr_ HO242.out))) (Kd.R_lt (mr_ HO245.out))) (below_size (mbs_ HB.out)))
      replace HO242 := Aside0.mk (Kd.R_mono (Kd.R_told (Kd.R_told (Kd.R_old (mr_ HO242.out) hb) (Kd.R_base ho0)) (Kd.R_base ho1)) (fun _ h_ => h_.1))
      replace HO245 := Aside0.mk (Kd.R_mono (Kd.R_told (Kd.R_told (Kd.R_old (mr_ HO245.out) hb) (Kd.R_base ho0)) (Kd.R_base ho1)) (fun _ h_ => h_.1))
      replace BK230 := Aside0.mk (blk_below (bk_ BK230.out) hb)
      replace BK231 := Aside0.mk (blk_below (bk_ BK231.out) hb)
      replace BK238 := Aside0.mk (blk_below (bk_ BK238.out) hb)
      replace BK239 := Aside0.mk (blk_below (bk_ BK239.out) hb)
      replace HB := Aside0.mk (below_step (mbs_ HB.out) hb)
      (try clear hb)
      (try clear hb2)
      (try clear hk)
      (try clear hi)
      (try clear ho0)
      (try clear ho1)
      obtain ⟨Ao48, co48, eo48⟩ := Kd.R_slice HO250.out
      (first | subst eo48 | (injection eo48 with f1_ f2_ f3_; have f4_ := f1_.symm; have f5_ := f3_.symm; clear f1_ f2_ f3_; subst f4_; subst f5_))
      obtain ⟨Ao49, co49, eo49⟩ := Kd.R_slice HO253.out
      (first | subst eo49 | (injection eo49 with f1_ f2_ f3_; have f4_ := f1_.symm; have f5_ := f3_.symm; clear f1_ f2_ f3_; subst f4_; subst f5_))
      refine hK.out _ _ ⟨(blk_cell BK230.out 0).trans rfl, (blk_cell BK230.out 1).trans rfl, (blk_cell BK238.out 0).trans rfl, (blk_cell BK238.out 1).trans rfl, (blk_cell BK239.out 0).trans rfl, (blk_cell BK239.out 1).trans rfl⟩ (fun hHeld => ?_)
      clear hK K
      refine norm_ (a' := ?_) ?_ ?_
      rotate_left
      ·show Act.put _ (some 35) _ = _
       simp only [Act.put, List.setIfInBounds_toArray, List.set_cons_zero, List.set_cons_succ, i64_w, i32_w]
       rfl
      refine one_ (i := 15) (N := some 36) #[true, true, true, true, true, true, true, true, true, true, true, true, true, true, true, true, true, true, true, false, false, false, false, false, false, false, false, false, false, false, false, false, false, false, false] rfl rfl (one_of HT_.out (by kernel_rfl)) (by decide) (fun K hK => ?_)
      refine goes_ Try.func15 (by kernel_rfl) rfl #[.agg #[.slice A0_0 l0_0.length c0_0, .slice A0_1 l0_1.length c0_1], .agg #[.slice A1_0 l1_0.length c1_0, .slice A1_1 l1_1.length c1_1], .agg #[.slice Ao48 t248.length co48, .slice Ao49 t251.length co49]] (by rfl) rfl rfl (by (try simp only [List.map_toArray, List.map_cons, List.map_nil]); first | done | rfl | (simp only [List.length_drop, List.length_take]; rfl)) ?_
      with_reducible refine (morphism_Injective.calls kj2 _ _ l0_0 _ _ l0_1 _ _ l1_0 _ _ l1_1 _ _ t248 _ _ t251 t254 _ ?side1 ?side2 ?side3 ?side4 ?side5 ?side6 ?side7 ?side8 ?side9 ?side10 ?side11 ?side12 A26.out).mono ?_
      (case side1 => exact mc_ (Kd.C_below HR0_0.out HB.out))
      (case side2 => exact HC0_0.out)
      (case side3 => exact mc_ (Kd.C_below HR0_1.out HB.out))
      (case side4 => exact HC0_1.out)
      (case side5 => exact mc_ (Kd.V_reads' HO_232000.out).2.2)
      (case side6 => exact (Kd.V_reads' HO_232000.out).2.1)
      (case side7 => exact mc_ (Kd.V_reads' HO_232001.out).2.2)
      (case side8 => exact (Kd.V_reads' HO_232001.out).2.1)
      (case side9 => exact mc_ (Kd.R_reads' HO250.out).2.2)
      (case side10 => exact (Kd.R_reads' HO250.out).2.1)
      (case side11 => exact mc_ (Kd.R_reads' HO253.out).2.2)
      (case side12 => exact (Kd.R_reads' HO253.out).2.1)
      rintro e w50 ⟨rfl, hb⟩
      refine ⟨_, rfl, ?_⟩
      replace HO_232000 := Aside0.mk (Kd.V_below (mv_ HO_232000.out) hb)
      replace HO_232001 := Aside0.mk (Kd.V_below (mv_ HO_232001.out) hb)
      replace HO_232002 := Aside0.mk (Kd.V_below (mv_ HO_232002.out) hb)
      replace HO_232003 := Aside0.mk (Kd.V_below (mv_ HO_232003.out) hb)
      replace HO242 := Aside0.mk (Kd.R_below (mr_ HO242.out) hb)
      replace HO245 := Aside0.mk (Kd.R_below (mr_ HO245.out) hb)
      replace HO250 := Aside0.mk (Kd.R_below (mr_ HO250.out) hb)
      replace HO253 := Aside0.mk (Kd.R_below (mr_ HO253.out) hb)
      replace BK230 := Aside0.mk (blk_below (bk_ BK230.out) hb)
      replace BK231 := Aside0.mk (blk_below (bk_ BK231.out) hb)
      replace BK238 := Aside0.mk (blk_below (bk_ BK238.out) hb)
      replace BK239 := Aside0.mk (blk_below (bk_ BK239.out) hb)
      replace HB := Aside0.mk (below_step (mbs_ HB.out) hb)
      (try clear hb)
      (try clear hb2)
      (try clear hk)
      (try clear hi)
      refine hK.out _ _ ⟨(blk_cell BK230.out 0).trans rfl, (blk_cell BK230.out 1).trans rfl, (blk_cell BK238.out 0).trans rfl, (blk_cell BK238.out 1).trans rfl, (blk_cell BK239.out 0).trans rfl, (blk_cell BK239.out 1).trans rfl⟩ (fun hHeld => ?_)
      clear hK K
      refine norm_ (a' := ?_) ?_ ?_
      rotate_left
      ·show Act.put _ (some 36) _ = _
       simp only [Act.put, List.setIfInBounds_toArray, List.set_cons_zero, List.set_cons_succ, i64_w, i32_w]
       rfl
      refine one_ (i := 19) (N := some 40) #[true, true, true, true, true, true, true, true, true, true, true, true, true, true, true, true, true, true, true, true, false, false, false, false, false, false, false, false, false, false, false, false, false, false, false] rfl rfl (one_of HT_.out (by kernel_rfl)) (by decide) (fun K hK => ?_)
      refine goes_ Try.func16 (by kernel_rfl) rfl #[.agg #[.slice A0_0 l0_0.length c0_0, .slice A0_1 l0_1.length c0_1], .agg #[.slice A1_0 l1_0.length c1_0, .slice A1_1 l1_1.length c1_1], .agg #[.slice A1_2 l1_2.length c1_2, .slice A1_3 l1_3.length c1_3]] (by rfl) rfl rfl (by (try simp only [List.map_toArray, List.map_cons, List.map_nil]); first | done | rfl | (simp only [List.length_drop, List.length_take]; rfl)) ?_
      with_reducible refine (scarfjointref06_Injective.calls kj2 _ _ l0_0 _ _ l0_1 _ _ l1_0 _ _ l1_1 _ _ l1_2 _ _ l1_3 t255 _ ?side1 ?side2 ?side3 ?side4 ?side5 ?side6 ?side7 ?side8 ?side9 ?side10 ?side11 ?side12 A27.out).mono ?_
      (case side1 => exact mc_ (Kd.C_below HR0_0.out HB.out))
      (case side2 => exact HC0_0.out)
      (case side3 => exact mc_ (Kd.C_below HR0_1.out HB.out))
      (case side4 => exact HC0_1.out)
      (case side5 => exact mc_ (Kd.V_reads' HO_232000.out).2.2)
      (case side6 => exact (Kd.V_reads' HO_232000.out).2.1)
      (case side7 => exact mc_ (Kd.V_reads' HO_232001.out).2.2)
      (case side8 => exact (Kd.V_reads' HO_232001.out).2.1)
      (case side9 => exact mc_ (Kd.V_reads' HO_232002.out).2.2)
      (case side10 => exact (Kd.V_reads' HO_232002.out).2.1)
      (case side11 => exact mc_ (Kd.V_reads' HO_232003.out).2.2)
      (case side12 => exact (Kd.V_reads' HO_232003.out).2.1)
      rintro e w51 ⟨rfl, hb⟩
      refine ⟨_, rfl, ?_⟩
      replace HO_232000 := Aside0.mk (Kd.V_below (mv_ HO_232000.out) hb)
      replace HO_232001 := Aside0.mk (Kd.V_below (mv_ HO_232001.out) hb)
      replace HO_232002 := Aside0.mk (Kd.V_below (mv_ HO_232002.out) hb)
      replace HO_232003 := Aside0.mk (Kd.V_below (mv_ HO_232003.out) hb)
      replace HO242 := Aside0.mk (Kd.R_below (mr_ HO242.out) hb)
      replace HO245 := Aside0.mk (Kd.R_below (mr_ HO245.out) hb)
      replace HO250 := Aside0.mk (Kd.R_below (mr_ HO250.out) hb)
      replace HO253 := Aside0.mk (Kd.R_below (mr_ HO253.out) hb)
      replace BK230 := Aside0.mk (blk_below (bk_ BK230.out) hb)
      replace BK231 := Aside0.mk (blk_below (bk_ BK231.out) hb)
      replace BK238 := Aside0.mk (blk_below (bk_ BK238.out) hb)
      replace BK239 := Aside0.mk (blk_below (bk_ BK239.out) hb)
      replace HB := Aside0.mk (below_step (mbs_ HB.out) hb)
      (try clear hb)
      (try clear hb2)
      (try clear hk)
      (try clear hi)
      refine hK.out _ _ ⟨(blk_cell BK230.out 0).trans rfl, (blk_cell BK230.out 1).trans rfl, (blk_cell BK238.out 0).trans rfl, (blk_cell BK238.out 1).trans rfl, (blk_cell BK239.out 0).trans rfl, (blk_cell BK239.out 1).trans rfl⟩ (fun hHeld => ?_)
      clear hK K
      refine norm_ (a' := ?_) ?_ ?_
      rotate_left
      ·show Act.put _ (some 40) _ = _
       simp only [Act.put, List.setIfInBounds_toArray, List.set_cons_zero, List.set_cons_succ, i64_w, i32_w]
       rfl
      refine pure_ (i := 20) (N := some 41) (v := ?_) (a' := ?_) #[true, true, true, true, true, true, true, true, true, true, true, true, true, true, true, true, true, true, true, true, true, false, false, false, false, false, false, false, false, false, false, false, false, false, false] rfl rfl (any_of HT_.out (by kernel_rfl)) (fun _ _ _ h => h) (Or.inl ⟨by rfl, ?_⟩) ?_ ?_
      rotate_left
      ·intro w'
       go_simp
       with_reducible rfl
      rotate_left
      ·simp only [Act.put, List.setIfInBounds_toArray, List.set_cons_zero, List.set_cons_succ, i64_w, i32_w]
       rfl
      refine pure_ (i := 21) (N := some 42) (v := ?_) (a' := ?_) #[true, true, true, true, true, true, true, true, true, true, true, true, true, true, true, true, true, true, true, true, true, true, false, false, false, false, false, false, false, false, false, false, false, false, false] rfl rfl (any_of HT_.out (by kernel_rfl)) (fun _ _ _ h => h) (Or.inl ⟨by rfl, ?_⟩) ?_ ?_
      rotate_left
      ·intro w'
       go_simp
       with_reducible rfl
      rotate_left
      ·simp only [Act.put, List.setIfInBounds_toArray, List.set_cons_zero, List.set_cons_succ, i64_w, i32_w]
       rfl
      refine pure_ (i := 22) (N := some 43) (v := ?_) (a' := ?_) #[true, true, true, true, true, true, true, true, true, true, true, true, true, true, true, true, true, true, true, true, true, true, true, false, false, false, false, false, false, false, false, false, false, false, false] rfl rfl (any_of HT_.out (by kernel_rfl)) (fun _ _ _ h => h) (Or.inl ⟨by rfl, ?_⟩) ?_ ?_
      rotate_left
      ·intro w'
       go_simp
       with_reducible rfl
      rotate_left
      ·simp only [Act.put, List.setIfInBounds_toArray, List.set_cons_zero, List.set_cons_succ, i64_w, i32_w]
       rfl
      refine take_ (i := 23) (N := some 44) (v := ?_) (a' := ?_) #[true, true, true, true, true, true, true, true, true, true, true, true, true, true, true, true, true, true, true, true, true, true, true, true, false, false, false, false, false, false, false, false, false, false, false] rfl rfl (take_ofW HT_.out HW_.out (by kernel_rfl)) (fun _ _ _ h => h) (Or.inl ⟨by rfl, ?_⟩) hHeld ?_ ?_
      rotate_left
      ·rintro w' ⟨s0, s1, s2, s3, s4, s5⟩
       go_simp
       with_reducible rfl
      rotate_left
      ·simp only [Act.put, List.setIfInBounds_toArray, List.set_cons_zero, List.set_cons_succ, i64_w, i32_w]
       rfl
      refine take_ (i := 24) (N := some 45) (v := ?_) (a' := ?_) #[true, true, true, true, true, true, true, true, true, true, true, true, true, true, true, true, true, true, true, true, true, true, true, true, true, false, false, false, false, false, false, false, false, false, false] rfl rfl (take_ofW HT_.out HW_.out (by kernel_rfl)) (fun _ _ _ h => h) (Or.inl ⟨by rfl, ?_⟩) hHeld ?_ ?_
      rotate_left
      ·rintro w' ⟨s0, s1, s2, s3, s4, s5⟩
       go_simp
       with_reducible rfl
      rotate_left
      ·simp only [Act.put, List.setIfInBounds_toArray, List.set_cons_zero, List.set_cons_succ, i64_w, i32_w]
       rfl
      refine take_ (i := 25) (N := some 46) (v := ?_) (a' := ?_) #[true, true, true, true, true, true, true, true, true, true, true, true, true, true, true, true, true, true, true, true, true, true, true, true, true, true, false, false, false, false, false, false, false, false, false] rfl rfl (take_ofW HT_.out HW_.out (by kernel_rfl)) (fun _ _ _ h => h) (Or.inl ⟨by rfl, ?_⟩) hHeld ?_ ?_
      rotate_left
      ·rintro w' ⟨s0, s1, s2, s3, s4, s5⟩
       go_simp
       with_reducible rfl
      rotate_left
      ·simp only [Act.put, List.setIfInBounds_toArray, List.set_cons_zero, List.set_cons_succ, i64_w, i32_w]
       rfl
      refine take_ (i := 28) (N := some 49) (v := ?_) (a' := ?_) #[true, true, true, true, true, true, true, true, true, true, true, true, true, true, true, true, true, true, true, true, true, true, true, true, true, true, false, false, true, false, false, false, false, false, false] rfl rfl (take_ofW HT_.out HW_.out (by kernel_rfl)) (fun _ _ _ h => h) (Or.inl ⟨by rfl, ?_⟩) hHeld ?_ ?_
      rotate_left
      ·rintro w' ⟨s0, s1, s2, s3, s4, s5⟩
       go_simp
       with_reducible rfl
      rotate_left
      ·simp only [Act.put, List.setIfInBounds_toArray, List.set_cons_zero, List.set_cons_succ, i64_w, i32_w]
       rfl
      refine take_ (i := 29) (N := some 50) (v := ?_) (a' := ?_) #[true, true, true, true, true, true, true, true, true, true, true, true, true, true, true, true, true, true, true, true, true, true, true, true, true, true, false, false, true, true, false, false, false, false, false] rfl rfl (take_ofW HT_.out HW_.out (by kernel_rfl)) (fun _ _ _ h => h) (Or.inl ⟨by rfl, ?_⟩) hHeld ?_ ?_
      rotate_left
      ·rintro w' ⟨s0, s1, s2, s3, s4, s5⟩
       go_simp
       with_reducible rfl
      rotate_left
      ·simp only [Act.put, List.setIfInBounds_toArray, List.set_cons_zero, List.set_cons_succ, i64_w, i32_w]
       rfl
      refine take_ (i := 30) (N := some 51) (v := ?_) (a' := ?_) #[true, true, true, true, true, true, true, true, true, true, true, true, true, true, true, true, true, true, true, true, true, true, true, true, true, true, false, false, true, true, true, false, false, false, false] rfl rfl (take_ofW HT_.out HW_.out (by kernel_rfl)) (fun _ _ _ h => h) (Or.inl ⟨by rfl, ?_⟩) hHeld ?_ ?_
      rotate_left
      ·rintro w' ⟨s0, s1, s2, s3, s4, s5⟩
       go_simp
       with_reducible rfl
      rotate_left
      ·simp only [Act.put, List.setIfInBounds_toArray, List.set_cons_zero, List.set_cons_succ, i64_w, i32_w]
       rfl
      refine one_ (i := 26) (N := some 47) #[true, true, true, true, true, true, true, true, true, true, true, true, true, true, true, true, true, true, true, true, true, true, true, true, true, true, true, false, true, true, true, false, false, false, false] rfl rfl (one_of HT_.out (by kernel_rfl)) (by decide) (fun K hK => ?_)
      refine goes_ Try.func13 (by kernel_rfl) rfl #[.agg #[.slice A1_2 l1_2.length c1_2, .slice A1_3 l1_3.length c1_3]] (by rfl) rfl rfl (by (try simp only [List.map_toArray, List.map_cons, List.map_nil]); first | done | rfl | (simp only [List.length_drop, List.length_take]; rfl)) ?_
      with_reducible refine (scarfjointlaw06_copied.calls _ _ l1_2 _ _ l1_3 t256 t259 _ ?side1 ?side2 ?side3 ?side4 A29.out).mono ?_
      (case side1 => exact mc_ (Kd.V_reads' HO_232002.out).2.2)
      (case side2 => exact (Kd.V_reads' HO_232002.out).2.1)
      (case side3 => exact mc_ (Kd.V_reads' HO_232003.out).2.2)
      (case side4 => exact (Kd.V_reads' HO_232003.out).2.1)
      rintro e w52 ⟨v257, v260, rfl, ho0, ho1, hb⟩
      refine ⟨_, rfl, ?_⟩
      replace HO_232000 := Aside0.mk (Kd.V_mono (Kd.V_told (Kd.V_told (Kd.V_old (mv_ HO_232000.out) hb) (Kd.R_base ho0)) (Kd.R_base ho1)) (fun _ h_ => h_.1))
      replace HO_232001 := Aside0.mk (Kd.V_mono (Kd.V_told (Kd.V_told (Kd.V_old (mv_ HO_232001.out) hb) (Kd.R_base ho0)) (Kd.R_base ho1)) (fun _ h_ => h_.1))
      replace HO_232002 := Aside0.mk (Kd.V_mono (Kd.V_told (Kd.V_told (Kd.V_old (mv_ HO_232002.out) hb) (Kd.R_base ho0)) (Kd.R_base ho1)) (fun _ h_ => h_.1))
      replace HO_232003 := Aside0.mk (Kd.V_mono (Kd.V_told (Kd.V_told (Kd.V_old (mv_ HO_232003.out) hb) (Kd.R_base ho0)) (Kd.R_base ho1)) (fun _ h_ => h_.1))
      have HO258 := Aside0.mk (Kd.R_lower (Kd.R_new' (Kd.R_new' (Kd.R_new' (Kd.R_new' (Kd.R_newM (M := fun k_ => (w.heap.size ≤ k_)) ho0 (below_size (mbs_ HB.out)) (fun k_ h_ => h_)) (Kd.R_lt (mr_ HO242.out))) (Kd.R_lt (mr_ HO245.out))) (Kd.R_lt (mr_ HO250.out))) (Kd.R_lt (mr_ HO253.out))) (below_size (mbs_ HB.out)))
      have HO261 := Aside0.mk (Kd.R_lower (Kd.R_new' (Kd.R_new' (Kd.R_new' (Kd.R_new' (Kd.R_newM (M := fun k_ => (w.heap.size ≤ k_)) ho1 (below_size (mbs_ HB.out)) (fun k_ h_ => h_)) (Kd.R_lt (mr_ HO242.out))) (Kd.R_lt (mr_ HO245.out))) (Kd.R_lt (mr_ HO250.out))) (Kd.R_lt (mr_ HO253.out))) (below_size (mbs_ HB.out)))
      replace HO242 := Aside0.mk (Kd.R_mono (Kd.R_told (Kd.R_told (Kd.R_old (mr_ HO242.out) hb) (Kd.R_base ho0)) (Kd.R_base ho1)) (fun _ h_ => h_.1))
      replace HO245 := Aside0.mk (Kd.R_mono (Kd.R_told (Kd.R_told (Kd.R_old (mr_ HO245.out) hb) (Kd.R_base ho0)) (Kd.R_base ho1)) (fun _ h_ => h_.1))
      replace HO250 := Aside0.mk (Kd.R_mono (Kd.R_told (Kd.R_told (Kd.R_old (mr_ HO250.out) hb) (Kd.R_base ho0)) (Kd.R_base ho1)) (fun _ h_ => h_.1))
      replace HO253 := Aside0.mk (Kd.R_mono (Kd.R_told (Kd.R_told (Kd.R_old (mr_ HO253.out) hb) (Kd.R_base ho0)) (Kd.R_base ho1)) (fun _ h_ => h_.1))
      replace BK230 := Aside0.mk (blk_below (bk_ BK230.out) hb)
      replace BK231 := Aside0.mk (blk_below (bk_ BK231.out) hb)
      replace BK238 := Aside0.mk (blk_below (bk_ BK238.out) hb)
      replace BK239 := Aside0.mk (blk_below (bk_ BK239.out) hb)
      replace HB := Aside0.mk (below_step (mbs_ HB.out) hb)
      (try clear hb)
      (try clear hb2)
      (try clear hk)
      (try clear hi)
      (try clear ho0)
      (try clear ho1)
      obtain ⟨Ao53, co53, eo53⟩ := Kd.R_slice HO258.out
      (first | subst eo53 | (injection eo53 with f1_ f2_ f3_; have f4_ := f1_.symm; have f5_ := f3_.symm; clear f1_ f2_ f3_; subst f4_; subst f5_))
      obtain ⟨Ao54, co54, eo54⟩ := Kd.R_slice HO261.out
      (first | subst eo54 | (injection eo54 with f1_ f2_ f3_; have f4_ := f1_.symm; have f5_ := f3_.symm; clear f1_ f2_ f3_; subst f4_; subst f5_))
      refine hK.out _ _ ⟨(blk_cell BK230.out 0).trans rfl, (blk_cell BK230.out 1).trans rfl, (blk_cell BK238.out 0).trans rfl, (blk_cell BK238.out 1).trans rfl, (blk_cell BK239.out 0).trans rfl, (blk_cell BK239.out 1).trans rfl⟩ (fun hHeld => ?_)
      clear hK K
      refine norm_ (a' := ?_) ?_ ?_
      rotate_left
      ·show Act.put _ (some 47) _ = _
       simp only [Act.put, List.setIfInBounds_toArray, List.set_cons_zero, List.set_cons_succ, i64_w, i32_w]
       rfl
      refine one_ (i := 27) (N := some 48) #[true, true, true, true, true, true, true, true, true, true, true, true, true, true, true, true, true, true, true, true, true, true, true, true, true, true, true, true, true, true, true, false, false, false, false] rfl rfl (one_of HT_.out (by kernel_rfl)) (by decide) (fun K hK => ?_)
      refine goes_ Try.func17 (by kernel_rfl) rfl #[.agg #[.slice A0_0 l0_0.length c0_0, .slice A0_1 l0_1.length c0_1], .agg #[.slice A1_0 l1_0.length c1_0, .slice A1_1 l1_1.length c1_1], .agg #[.slice Ao53 t256.length co53, .slice Ao54 t259.length co54]] (by rfl) rfl rfl (by (try simp only [List.map_toArray, List.map_cons, List.map_nil]); first | done | rfl | (simp only [List.length_drop, List.length_take]; rfl)) ?_
      with_reducible refine (morphism_Surjective.calls kj2 _ _ l0_0 _ _ l0_1 _ _ l1_0 _ _ l1_1 _ _ t256 _ _ t259 t262 _ ?side1 ?side2 ?side3 ?side4 ?side5 ?side6 ?side7 ?side8 ?side9 ?side10 ?side11 ?side12 A30.out).mono ?_
      (case side1 => exact mc_ (Kd.C_below HR0_0.out HB.out))
      (case side2 => exact HC0_0.out)
      (case side3 => exact mc_ (Kd.C_below HR0_1.out HB.out))
      (case side4 => exact HC0_1.out)
      (case side5 => exact mc_ (Kd.V_reads' HO_232000.out).2.2)
      (case side6 => exact (Kd.V_reads' HO_232000.out).2.1)
      (case side7 => exact mc_ (Kd.V_reads' HO_232001.out).2.2)
      (case side8 => exact (Kd.V_reads' HO_232001.out).2.1)
      (case side9 => exact mc_ (Kd.R_reads' HO258.out).2.2)
      (case side10 => exact (Kd.R_reads' HO258.out).2.1)
      (case side11 => exact mc_ (Kd.R_reads' HO261.out).2.2)
      (case side12 => exact (Kd.R_reads' HO261.out).2.1)
      rintro e w55 ⟨rfl, hb⟩
      refine ⟨_, rfl, ?_⟩
      replace HO_232000 := Aside0.mk (Kd.V_below (mv_ HO_232000.out) hb)
      replace HO_232001 := Aside0.mk (Kd.V_below (mv_ HO_232001.out) hb)
      replace HO_232002 := Aside0.mk (Kd.V_below (mv_ HO_232002.out) hb)
      replace HO_232003 := Aside0.mk (Kd.V_below (mv_ HO_232003.out) hb)
      replace HO242 := Aside0.mk (Kd.R_below (mr_ HO242.out) hb)
      replace HO245 := Aside0.mk (Kd.R_below (mr_ HO245.out) hb)
      replace HO250 := Aside0.mk (Kd.R_below (mr_ HO250.out) hb)
      replace HO253 := Aside0.mk (Kd.R_below (mr_ HO253.out) hb)
      replace HO258 := Aside0.mk (Kd.R_below (mr_ HO258.out) hb)
      replace HO261 := Aside0.mk (Kd.R_below (mr_ HO261.out) hb)
      replace BK230 := Aside0.mk (blk_below (bk_ BK230.out) hb)
      replace BK231 := Aside0.mk (blk_below (bk_ BK231.out) hb)
      replace BK238 := Aside0.mk (blk_below (bk_ BK238.out) hb)
      replace BK239 := Aside0.mk (blk_below (bk_ BK239.out) hb)
      replace HB := Aside0.mk (below_step (mbs_ HB.out) hb)
      (try clear hb)
      (try clear hb2)
      (try clear hk)
      (try clear hi)
      refine hK.out _ _ ⟨(blk_cell BK230.out 0).trans rfl, (blk_cell BK230.out 1).trans rfl, (blk_cell BK238.out 0).trans rfl, (blk_cell BK238.out 1).trans rfl, (blk_cell BK239.out 0).trans rfl, (blk_cell BK239.out 1).trans rfl⟩ (fun hHeld => ?_)
      clear hK K
      refine norm_ (a' := ?_) ?_ ?_
      rotate_left
      ·show Act.put _ (some 48) _ = _
       simp only [Act.put, List.setIfInBounds_toArray, List.set_cons_zero, List.set_cons_succ, i64_w, i32_w]
       rfl
      refine one_ (i := 31) (N := some 52) #[true, true, true, true, true, true, true, true, true, true, true, true, true, true, true, true, true, true, true, true, true, true, true, true, true, true, true, true, true, true, true, true, false, false, false] rfl rfl (one_of HT_.out (by kernel_rfl)) (by decide) (fun K hK => ?_)
      refine goes_ Try.func18 (by kernel_rfl) rfl #[.agg #[.slice A0_0 l0_0.length c0_0, .slice A0_1 l0_1.length c0_1], .agg #[.slice A1_0 l1_0.length c1_0, .slice A1_1 l1_1.length c1_1], .agg #[.slice A1_2 l1_2.length c1_2, .slice A1_3 l1_3.length c1_3]] (by rfl) rfl rfl (by (try simp only [List.map_toArray, List.map_cons, List.map_nil]); first | done | rfl | (simp only [List.length_drop, List.length_take]; rfl)) ?_
      with_reducible refine (scarfjointref06_Surjective.calls kj2 _ _ l0_0 _ _ l0_1 _ _ l1_0 _ _ l1_1 _ _ l1_2 _ _ l1_3 t263 _ ?side1 ?side2 ?side3 ?side4 ?side5 ?side6 ?side7 ?side8 ?side9 ?side10 ?side11 ?side12 A31.out).mono ?_
      (case side1 => exact mc_ (Kd.C_below HR0_0.out HB.out))
      (case side2 => exact HC0_0.out)
      (case side3 => exact mc_ (Kd.C_below HR0_1.out HB.out))
      (case side4 => exact HC0_1.out)
      (case side5 => exact mc_ (Kd.V_reads' HO_232000.out).2.2)
      (case side6 => exact (Kd.V_reads' HO_232000.out).2.1)
      (case side7 => exact mc_ (Kd.V_reads' HO_232001.out).2.2)
      (case side8 => exact (Kd.V_reads' HO_232001.out).2.1)
      (case side9 => exact mc_ (Kd.V_reads' HO_232002.out).2.2)
      (case side10 => exact (Kd.V_reads' HO_232002.out).2.1)
      (case side11 => exact mc_ (Kd.V_reads' HO_232003.out).2.2)
      (case side12 => exact (Kd.V_reads' HO_232003.out).2.1)
      rintro e w56 ⟨rfl, hb⟩
      refine ⟨_, rfl, ?_⟩
      replace HO_232000 := Aside0.mk (Kd.V_below (mv_ HO_232000.out) hb)
      replace HO_232001 := Aside0.mk (Kd.V_below (mv_ HO_232001.out) hb)
      replace HO_232002 := Aside0.mk (Kd.V_below (mv_ HO_232002.out) hb)
      replace HO_232003 := Aside0.mk (Kd.V_below (mv_ HO_232003.out) hb)
      replace HO242 := Aside0.mk (Kd.R_below (mr_ HO242.out) hb)
      replace HO245 := Aside0.mk (Kd.R_below (mr_ HO245.out) hb)
      replace HO250 := Aside0.mk (Kd.R_below (mr_ HO250.out) hb)
      replace HO253 := Aside0.mk (Kd.R_below (mr_ HO253.out) hb)
      replace HO258 := Aside0.mk (Kd.R_below (mr_ HO258.out) hb)
      replace HO261 := Aside0.mk (Kd.R_below (mr_ HO261.out) hb)
      replace BK230 := Aside0.mk (blk_below (bk_ BK230.out) hb)
      replace BK231 := Aside0.mk (blk_below (bk_ BK231.out) hb)
      replace BK238 := Aside0.mk (blk_below (bk_ BK238.out) hb)
      replace BK239 := Aside0.mk (blk_below (bk_ BK239.out) hb)
      replace HB := Aside0.mk (below_step (mbs_ HB.out) hb)
      (try clear hb)
      (try clear hb2)
      (try clear hk)
      (try clear hi)
      refine hK.out _ _ ⟨(blk_cell BK230.out 0).trans rfl, (blk_cell BK230.out 1).trans rfl, (blk_cell BK238.out 0).trans rfl, (blk_cell BK238.out 1).trans rfl, (blk_cell BK239.out 0).trans rfl, (blk_cell BK239.out 1).trans rfl⟩ (fun hHeld => ?_)
      clear hK K
      refine norm_ (a' := ?_) ?_ ?_
      rotate_left
      ·show Act.put _ (some 52) _ = _
       simp only [Act.put, List.setIfInBounds_toArray, List.set_cons_zero, List.set_cons_succ, i64_w, i32_w]
       rfl
      refine pure_ (i := 32) (N := some 53) (v := ?_) (a' := ?_) #[true, true, true, true, true, true, true, true, true, true, true, true, true, true, true, true, true, true, true, true, true, true, true, true, true, true, true, true, true, true, true, true, true, false, false] rfl rfl (any_of HT_.out (by kernel_rfl)) (fun _ _ _ h => h) (Or.inl ⟨by rfl, ?_⟩) ?_ ?_
      rotate_left
      ·intro w'
       go_simp
       with_reducible rfl
      rotate_left
      ·simp only [Act.put, List.setIfInBounds_toArray, List.set_cons_zero, List.set_cons_succ, i64_w, i32_w]
       rfl
      refine pure_ (i := 33) (N := some 54) (v := ?_) (a' := ?_) #[true, true, true, true, true, true, true, true, true, true, true, true, true, true, true, true, true, true, true, true, true, true, true, true, true, true, true, true, true, true, true, true, true, true, false] rfl rfl (any_of HT_.out (by kernel_rfl)) (fun _ _ _ h => h) (Or.inl ⟨by rfl, ?_⟩) ?_ ?_
      rotate_left
      ·intro w'
       go_simp
       with_reducible rfl
      rotate_left
      ·simp only [Act.put, List.setIfInBounds_toArray, List.set_cons_zero, List.set_cons_succ, i64_w, i32_w]
       rfl
      refine pure_ (i := 34) (N := some 4) (v := ?_) (a' := ?_) #[true, true, true, true, true, true, true, true, true, true, true, true, true, true, true, true, true, true, true, true, true, true, true, true, true, true, true, true, true, true, true, true, true, true, true] rfl rfl (any_of HT_.out (by kernel_rfl)) (fun _ _ _ h => h) (Or.inl ⟨by rfl, ?_⟩) ?_ ?_
      rotate_left
      ·intro w'
       go_simp
       with_reducible rfl
      rotate_left
      ·simp only [Act.put, List.setIfInBounds_toArray, List.set_cons_zero, List.set_cons_succ, i64_w, i32_w]
       rfl
      refine done_ (done_of HT_.out (by kernel_rfl)) ?_
      as_aux_lemma =>
      try go_wp2
      go_ret
      exact ⟨by first | rfl | (simp [errW_none, errW_some] <;> rfl) | (simp [*, errW_none, errW_some] <;> rfl), mbs_ HB.out⟩
     ·rw [if_neg c28] at H
      have c28b0 : (t254 == t255) = false := by simpa using c28
      (try (have c28b1 : decide (t254 = t255) = false := by simpa using c28))
      (try (have c28b2 : (t254 == t255) = false := by simpa using c28))
      (try (have c28b3 : ¬ (t254 = t255) := by simpa using c28))
      clear c28
      obtain rfl := Option.some.inj H
      try go_wp2
      replace HO_232000 := Aside0.mk (Kd.V_drew HO_232000.out)
      replace HO_232001 := Aside0.mk (Kd.V_drew HO_232001.out)
      replace HO_232002 := Aside0.mk (Kd.V_drew HO_232002.out)
      replace HO_232003 := Aside0.mk (Kd.V_drew HO_232003.out)
      replace BK230 := Aside0.mk (blk_drew BK230.out)
      replace BK231 := Aside0.mk (blk_drew BK231.out)
      replace HB := Aside0.mk (below_drew1 HB.out)
      refine start_ (n := 8) (S := fun w' => w'.cell? ⟨gb231, 0, none⟩ = some (.slice A1_0 l1_0.length c1_0) ∧ w'.cell? ⟨gb231, 1, none⟩ = some (.slice A1_1 l1_1.length c1_1) ∧ w'.cell? ⟨gb231, 2, none⟩ = some (.slice A1_2 l1_2.length c1_2) ∧ w'.cell? ⟨gb231, 3, none⟩ = some (.slice A1_3 l1_3.length c1_3)) (ds := []) #[false, false, false, false, false, false, false, false] (by kernel_rfl) rfl rfl ⟨(blk_cell BK231.out 0).trans rfl, (blk_cell BK231.out 1).trans rfl, (blk_cell BK231.out 2).trans rfl, (blk_cell BK231.out 3).trans rfl⟩ (fun hHeld => ?_); refine with_tabW scarfjointlaw06_MorphismValid.tab3 scarfjointlaw06_MorphismValid.bits3 (fun HT_ HW_ => ?_)
      generalize wc.drew = w57 at HO_232000 HO_232001 HO_232002 HO_232003 BK230 BK231 HB hHeld ⊢
      refine pure_ (i := 0) (N := some 17) (v := ?_) (a' := ?_) #[true, false, false, false, false, false, false, false] rfl rfl (any_of HT_.out (by kernel_rfl)) (fun _ _ _ h => h) (Or.inl ⟨by rfl, ?_⟩) ?_ ?_
      rotate_left
      ·intro w'
       go_simp
       with_reducible rfl
      rotate_left
      ·simp only [Act.put, List.setIfInBounds_toArray, List.set_cons_zero, List.set_cons_succ, i64_w, i32_w]
       rfl
      refine pure_ (i := 2) (N := some 19) (v := ?_) (a' := ?_) #[true, false, true, false, false, false, false, false] rfl rfl (any_of HT_.out (by kernel_rfl)) (fun _ _ _ h => h) (Or.inl ⟨by rfl, ?_⟩) ?_ ?_
      rotate_left
      ·intro w'
       go_simp
       with_reducible rfl
      rotate_left
      ·simp only [Act.put, List.setIfInBounds_toArray, List.set_cons_zero, List.set_cons_succ, i64_w, i32_w]
       rfl
      refine take_ (i := 1) (N := some 18) (v := ?_) (a' := ?_) #[true, true, true, false, false, false, false, false] rfl rfl (take_ofW HT_.out HW_.out (by kernel_rfl)) (fun _ _ _ h => h) (Or.inl ⟨by rfl, ?_⟩) hHeld ?_ ?_
      rotate_left
      ·rintro w' ⟨s0, s1, s2, s3⟩
       go_simp
       with_reducible rfl
      rotate_left
      ·simp only [Act.put, List.setIfInBounds_toArray, List.set_cons_zero, List.set_cons_succ, i64_w, i32_w]
       rfl
      refine take_ (i := 3) (N := some 20) (v := ?_) (a' := ?_) #[true, true, true, true, false, false, false, false] rfl rfl (take_ofW HT_.out HW_.out (by kernel_rfl)) (fun _ _ _ h => h) (Or.inl ⟨by rfl, ?_⟩) hHeld ?_ ?_
      rotate_left
      ·rintro w' ⟨s0, s1, s2, s3⟩
       go_simp
       with_reducible rfl
      rotate_left
      ·simp only [Act.put, List.setIfInBounds_toArray, List.set_cons_zero, List.set_cons_succ, i64_w, i32_w]
       rfl
      refine join_ (σ := Nat × Nat) 2 #[true, true, true, true, true, true, false, false] (fun s_ => [(5, .pointer (some ⟨s_.1, 0, none⟩)), (6, .pointer (some ⟨s_.2, 0, none⟩))]) (fun s_ w' => (w'.cell? ⟨gb231, 0, none⟩ = some (.slice A1_0 l1_0.length c1_0) ∧ w'.cell? ⟨gb231, 1, none⟩ = some (.slice A1_1 l1_1.length c1_1) ∧ w'.cell? ⟨gb231, 2, none⟩ = some (.slice A1_2 l1_2.length c1_2) ∧ w'.cell? ⟨gb231, 3, none⟩ = some (.slice A1_3 l1_3.length c1_3)) ∧ (Kd.V (Kd.int .i64) 3 w' w.heap.size (fun k_ => ((P1_0_ k_ ∨ P1_1_ k_ ∨ P1_2_ k_ ∨ P1_3_ k_) ∨ w.heap.size ≤ k_) ∧ k_ ≠ gb230 ∧ k_ ≠ gb231 ∧ k_ ≠ s_.1 ∧ k_ ≠ s_.2) (.slice A1_0 l1_0.length c1_0) l1_0) ∧ (Kd.V k65 65 w' w.heap.size (fun k_ => ((P1_0_ k_ ∨ P1_1_ k_ ∨ P1_2_ k_ ∨ P1_3_ k_) ∨ w.heap.size ≤ k_) ∧ k_ ≠ gb230 ∧ k_ ≠ gb231 ∧ k_ ≠ s_.1 ∧ k_ ≠ s_.2) (.slice A1_1 l1_1.length c1_1) l1_1) ∧ (Kd.V (Kd.int .i64) 3 w' w.heap.size (fun k_ => ((P1_0_ k_ ∨ P1_1_ k_ ∨ P1_2_ k_ ∨ P1_3_ k_) ∨ w.heap.size ≤ k_) ∧ k_ ≠ gb230 ∧ k_ ≠ gb231 ∧ k_ ≠ s_.1 ∧ k_ ≠ s_.2) (.slice A1_2 l1_2.length c1_2) l1_2) ∧ (Kd.V (Kd.int .i64) 3 w' w.heap.size (fun k_ => ((P1_0_ k_ ∨ P1_1_ k_ ∨ P1_2_ k_ ∨ P1_3_ k_) ∨ w.heap.size ≤ k_) ∧ k_ ≠ gb230 ∧ k_ ≠ gb231 ∧ k_ ≠ s_.1 ∧ k_ ≠ s_.2) (.slice A1_3 l1_3.length c1_3) l1_3) ∧ (w'.heap[gb230]? = some (.cells #[.slice A0_0 l0_0.length c0_0, .slice A0_1 l0_1.length c0_1] 25 (0, 0))) ∧ (w'.heap[gb231]? = some (.cells #[.slice A1_0 l1_0.length c1_0, .slice A1_1 l1_1.length c1_1, .slice A1_2 l1_2.length c1_2, .slice A1_3 l1_3.length c1_3] 29 (0, 0))) ∧ (w'.heap[s_.1]? = some (.cells #[.slice none 0 0, .slice none 0 0] 25 (0, 0))) ∧ (w'.heap[s_.2]? = some (.cells #[.slice none 0 0, .slice none 0 0] 27 (0, 0))) ∧ (w.heap.size ≤ s_.1) ∧ (w.heap.size ≤ s_.1) ∧ (gb230 ≠ s_.1) ∧ (s_.1 ≠ gb230) ∧ (gb231 ≠ s_.1) ∧ (s_.1 ≠ gb231) ∧ (s_.2 ≠ s_.1) ∧ (s_.1 ≠ s_.2) ∧ (w.heap.size ≤ s_.2) ∧ (w.heap.size ≤ s_.2) ∧ (gb230 ≠ s_.2) ∧ (s_.2 ≠ gb230) ∧ (gb231 ≠ s_.2) ∧ (s_.2 ≠ gb231) ∧ (Below w.heap.size w w')) ?_ ?_
      rotate_left
      ·intro hCont
       refine two_ (i := 4) (j := 5) (Ni := some 5) (Nj := some 6) #[true, true, true, true, true, false, false, false] #[true, true, true, true, false, true, false, false] rfl rfl rfl rfl (two_of HT_.out (by kernel_rfl)) (by decide) (by decide) (fun K hK => ?_) (fun K hK => ?_)
       ·skip
        refine box_step ?hg (N := 5) ?hd (cs := #[.slice none 0 0, .slice none 0 0]) (t := 25) ?hr ?_; (case hd => rfl); (case hg => rfl); (case hr => first | (go_simp; done) | (go_simp; rfl))
        intro gb238 hg w58 hbox hb
        replace HO_232000 := Aside0.mk (Kd.V_below (Kd.V_elderB (mv_ HO_232000.out) gb238 (Nat.le_of_eq hg.symm)) hb)
        replace HO_232001 := Aside0.mk (Kd.V_below (Kd.V_elderB (mv_ HO_232001.out) gb238 (Nat.le_of_eq hg.symm)) hb)
        replace HO_232002 := Aside0.mk (Kd.V_below (Kd.V_elderB (mv_ HO_232002.out) gb238 (Nat.le_of_eq hg.symm)) hb)
        replace HO_232003 := Aside0.mk (Kd.V_below (Kd.V_elderB (mv_ HO_232003.out) gb238 (Nat.le_of_eq hg.symm)) hb)
        have BK238 := Aside0.mk (hbox)
        have GW238 := Aside0.mk (gw_ hg (mbs_ HB.out))
        have GE238 := Aside0.mk (gw_ hg (mbs_ HB.out))
        replace HB := Aside0.mk (below_step (mbs_ HB.out) hb)
        have NB230_238 := Aside0.mk (nb_ hg (bk_ BK230.out))
        have NB238_230 := Aside0.mk (nc_ hg (bk_ BK230.out))
        replace BK230 := Aside0.mk (blk_below (bk_ BK230.out) hb)
        have NB231_238 := Aside0.mk (nb_ hg (bk_ BK231.out))
        have NB238_231 := Aside0.mk (nc_ hg (bk_ BK231.out))
        replace BK231 := Aside0.mk (blk_below (bk_ BK231.out) hb)
        clear hb hbox hg
        refine hK.out _ _ ⟨(blk_cell BK231.out 0).trans rfl, (blk_cell BK231.out 1).trans rfl, (blk_cell BK231.out 2).trans rfl, (blk_cell BK231.out 3).trans rfl⟩ (fun hHeld => ?_)
        clear hK K
        refine norm_ (a' := ?_) ?_ ?_
        rotate_left
        ·show Act.put _ (some 5) _ = _
         simp only [Act.put, List.setIfInBounds_toArray, List.set_cons_zero, List.set_cons_succ, i64_w, i32_w]
         rfl
        refine one_ (i := 5) (N := some 6) #[true, true, true, true, true, true, false, false] rfl rfl (one_of HT_.out (by kernel_rfl)) (by decide) (fun K hK => ?_)
        refine box_step ?hg (N := 6) ?hd (cs := #[.slice none 0 0, .slice none 0 0]) (t := 27) ?hr ?_; (case hd => rfl); (case hg => rfl); (case hr => first | (go_simp; done) | (go_simp; rfl))
        intro gb239 hg w59 hbox hb
        replace HO_232000 := Aside0.mk (Kd.V_below (Kd.V_elderB (mv_ HO_232000.out) gb239 (Nat.le_of_eq hg.symm)) hb)
        replace HO_232001 := Aside0.mk (Kd.V_below (Kd.V_elderB (mv_ HO_232001.out) gb239 (Nat.le_of_eq hg.symm)) hb)
        replace HO_232002 := Aside0.mk (Kd.V_below (Kd.V_elderB (mv_ HO_232002.out) gb239 (Nat.le_of_eq hg.symm)) hb)
        replace HO_232003 := Aside0.mk (Kd.V_below (Kd.V_elderB (mv_ HO_232003.out) gb239 (Nat.le_of_eq hg.symm)) hb)
        have BK239 := Aside0.mk (hbox)
        have GW239 := Aside0.mk (gw_ hg (mbs_ HB.out))
        have GE239 := Aside0.mk (gw_ hg (mbs_ HB.out))
        replace HB := Aside0.mk (below_step (mbs_ HB.out) hb)
        have NB230_239 := Aside0.mk (nb_ hg (bk_ BK230.out))
        have NB239_230 := Aside0.mk (nc_ hg (bk_ BK230.out))
        replace BK230 := Aside0.mk (blk_below (bk_ BK230.out) hb)
        have NB231_239 := Aside0.mk (nb_ hg (bk_ BK231.out))
        have NB239_231 := Aside0.mk (nc_ hg (bk_ BK231.out))
        replace BK231 := Aside0.mk (blk_below (bk_ BK231.out) hb)
        have NB238_239 := Aside0.mk (nb_ hg (bk_ BK238.out))
        have NB239_238 := Aside0.mk (nc_ hg (bk_ BK238.out))
        replace BK238 := Aside0.mk (blk_below (bk_ BK238.out) hb)
        clear hb hbox hg
        refine hK.out _ _ ⟨(blk_cell BK231.out 0).trans rfl, (blk_cell BK231.out 1).trans rfl, (blk_cell BK231.out 2).trans rfl, (blk_cell BK231.out 3).trans rfl⟩ (fun hHeld => ?_)
        clear hK K
        refine norm_ (a' := ?_) ?_ ?_
        rotate_left
        ·show Act.put _ (some 6) _ = _
         simp only [Act.put, List.setIfInBounds_toArray, List.set_cons_zero, List.set_cons_succ, i64_w, i32_w]
         rfl
        exact norm_ (by simp only [putAll, Act.put, List.setIfInBounds_toArray, List.set_cons_zero, List.set_cons_succ]) (hCont (gb238, gb239) _ ⟨hHeld, (by (with_reducible repeat (first | apply Kd.V_alloc | apply Kd.V_drewN | apply Kd.V_drew)); exact Kd.V_mono HO_232000.out (fun _ hk => ⟨hk.1.1.1, ⟨hk.1.1.2.1, ⟨hk.1.1.2.2, ⟨hk.1.2, hk.2⟩⟩⟩⟩)), (by (with_reducible repeat (first | apply Kd.V_alloc | apply Kd.V_drewN | apply Kd.V_drew)); exact Kd.V_mono HO_232001.out (fun _ hk => ⟨hk.1.1.1, ⟨hk.1.1.2.1, ⟨hk.1.1.2.2, ⟨hk.1.2, hk.2⟩⟩⟩⟩)), (by (with_reducible repeat (first | apply Kd.V_alloc | apply Kd.V_drewN | apply Kd.V_drew)); exact Kd.V_mono HO_232002.out (fun _ hk => ⟨hk.1.1.1, ⟨hk.1.1.2.1, ⟨hk.1.1.2.2, ⟨hk.1.2, hk.2⟩⟩⟩⟩)), (by (with_reducible repeat (first | apply Kd.V_alloc | apply Kd.V_drewN | apply Kd.V_drew)); exact Kd.V_mono HO_232003.out (fun _ hk => ⟨hk.1.1.1, ⟨hk.1.1.2.1, ⟨hk.1.1.2.2, ⟨hk.1.2, hk.2⟩⟩⟩⟩)), (bk_ BK230.out), (bk_ BK231.out), (bk_ BK238.out), (bk_ BK239.out), GW238.out, GE238.out, NB230_238.out, NB238_230.out, NB231_238.out, NB238_231.out, NB239_238.out, NB238_239.out, GW239.out, GE239.out, NB230_239.out, NB239_230.out, NB231_239.out, NB239_231.out, (mbs_ HB.out)⟩)
       ·skip
        refine box_step ?hg (N := 6) ?hd (cs := #[.slice none 0 0, .slice none 0 0]) (t := 27) ?hr ?_; (case hd => rfl); (case hg => rfl); (case hr => first | (go_simp; done) | (go_simp; rfl))
        intro gb239 hg w58 hbox hb
        replace HO_232000 := Aside0.mk (Kd.V_below (Kd.V_elderB (mv_ HO_232000.out) gb239 (Nat.le_of_eq hg.symm)) hb)
        replace HO_232001 := Aside0.mk (Kd.V_below (Kd.V_elderB (mv_ HO_232001.out) gb239 (Nat.le_of_eq hg.symm)) hb)
        replace HO_232002 := Aside0.mk (Kd.V_below (Kd.V_elderB (mv_ HO_232002.out) gb239 (Nat.le_of_eq hg.symm)) hb)
        replace HO_232003 := Aside0.mk (Kd.V_below (Kd.V_elderB (mv_ HO_232003.out) gb239 (Nat.le_of_eq hg.symm)) hb)
        have BK239 := Aside0.mk (hbox)
        have GW239 := Aside0.mk (gw_ hg (mbs_ HB.out))
        have GE239 := Aside0.mk (gw_ hg (mbs_ HB.out))
        replace HB := Aside0.mk (below_step (mbs_ HB.out) hb)
        have NB230_239 := Aside0.mk (nb_ hg (bk_ BK230.out))
        have NB239_230 := Aside0.mk (nc_ hg (bk_ BK230.out))
        replace BK230 := Aside0.mk (blk_below (bk_ BK230.out) hb)
        have NB231_239 := Aside0.mk (nb_ hg (bk_ BK231.out))
        have NB239_231 := Aside0.mk (nc_ hg (bk_ BK231.out))
        replace BK231 := Aside0.mk (blk_below (bk_ BK231.out) hb)
        clear hb hbox hg
        refine hK.out _ _ ⟨(blk_cell BK231.out 0).trans rfl, (blk_cell BK231.out 1).trans rfl, (blk_cell BK231.out 2).trans rfl, (blk_cell BK231.out 3).trans rfl⟩ (fun hHeld => ?_)
        clear hK K
        refine norm_ (a' := ?_) ?_ ?_
        rotate_left
        ·show Act.put _ (some 6) _ = _
         simp only [Act.put, List.setIfInBounds_toArray, List.set_cons_zero, List.set_cons_succ, i64_w, i32_w]
         rfl
        refine one_ (i := 4) (N := some 5) #[true, true, true, true, true, true, false, false] rfl rfl (one_of HT_.out (by kernel_rfl)) (by decide) (fun K hK => ?_)
        refine box_step ?hg (N := 5) ?hd (cs := #[.slice none 0 0, .slice none 0 0]) (t := 25) ?hr ?_; (case hd => rfl); (case hg => rfl); (case hr => first | (go_simp; done) | (go_simp; rfl))
        intro gb238 hg w59 hbox hb
        replace HO_232000 := Aside0.mk (Kd.V_below (Kd.V_elderB (mv_ HO_232000.out) gb238 (Nat.le_of_eq hg.symm)) hb)
        replace HO_232001 := Aside0.mk (Kd.V_below (Kd.V_elderB (mv_ HO_232001.out) gb238 (Nat.le_of_eq hg.symm)) hb)
        replace HO_232002 := Aside0.mk (Kd.V_below (Kd.V_elderB (mv_ HO_232002.out) gb238 (Nat.le_of_eq hg.symm)) hb)
        replace HO_232003 := Aside0.mk (Kd.V_below (Kd.V_elderB (mv_ HO_232003.out) gb238 (Nat.le_of_eq hg.symm)) hb)
        have BK238 := Aside0.mk (hbox)
        have GW238 := Aside0.mk (gw_ hg (mbs_ HB.out))
        have GE238 := Aside0.mk (gw_ hg (mbs_ HB.out))
        replace HB := Aside0.mk (below_step (mbs_ HB.out) hb)
        have NB230_238 := Aside0.mk (nb_ hg (bk_ BK230.out))
        have NB238_230 := Aside0.mk (nc_ hg (bk_ BK230.out))
        replace BK230 := Aside0.mk (blk_below (bk_ BK230.out) hb)
        have NB231_238 := Aside0.mk (nb_ hg (bk_ BK231.out))
        have NB238_231 := Aside0.mk (nc_ hg (bk_ BK231.out))
        replace BK231 := Aside0.mk (blk_below (bk_ BK231.out) hb)
        have NB239_238 := Aside0.mk (nb_ hg (bk_ BK239.out))
        have NB238_239 := Aside0.mk (nc_ hg (bk_ BK239.out))
        replace BK239 := Aside0.mk (blk_below (bk_ BK239.out) hb)
        clear hb hbox hg
        refine hK.out _ _ ⟨(blk_cell BK231.out 0).trans rfl, (blk_cell BK231.out 1).trans rfl, (blk_cell BK231.out 2).trans rfl, (blk_cell BK231.out 3).trans rfl⟩ (fun hHeld => ?_)
        clear hK K
        refine norm_ (a' := ?_) ?_ ?_
        rotate_left
        ·show Act.put _ (some 5) _ = _
         simp only [Act.put, List.setIfInBounds_toArray, List.set_cons_zero, List.set_cons_succ, i64_w, i32_w]
         rfl
        exact norm_ (by simp only [putAll, Act.put, List.setIfInBounds_toArray, List.set_cons_zero, List.set_cons_succ]) (hCont (gb238, gb239) _ ⟨hHeld, (by (with_reducible repeat (first | apply Kd.V_alloc | apply Kd.V_drewN | apply Kd.V_drew)); exact Kd.V_mono HO_232000.out (fun _ hk => ⟨hk.1.1.1, ⟨hk.1.1.2.1, ⟨hk.1.1.2.2, ⟨hk.2, hk.1.2⟩⟩⟩⟩)), (by (with_reducible repeat (first | apply Kd.V_alloc | apply Kd.V_drewN | apply Kd.V_drew)); exact Kd.V_mono HO_232001.out (fun _ hk => ⟨hk.1.1.1, ⟨hk.1.1.2.1, ⟨hk.1.1.2.2, ⟨hk.2, hk.1.2⟩⟩⟩⟩)), (by (with_reducible repeat (first | apply Kd.V_alloc | apply Kd.V_drewN | apply Kd.V_drew)); exact Kd.V_mono HO_232002.out (fun _ hk => ⟨hk.1.1.1, ⟨hk.1.1.2.1, ⟨hk.1.1.2.2, ⟨hk.2, hk.1.2⟩⟩⟩⟩)), (by (with_reducible repeat (first | apply Kd.V_alloc | apply Kd.V_drewN | apply Kd.V_drew)); exact Kd.V_mono HO_232003.out (fun _ hk => ⟨hk.1.1.1, ⟨hk.1.1.2.1, ⟨hk.1.1.2.2, ⟨hk.2, hk.1.2⟩⟩⟩⟩)), (bk_ BK230.out), (bk_ BK231.out), (bk_ BK238.out), (bk_ BK239.out), GW238.out, GE238.out, NB230_238.out, NB238_230.out, NB231_238.out, NB238_231.out, NB239_238.out, NB238_239.out, GW239.out, GE239.out, NB230_239.out, NB239_230.out, NB231_239.out, NB239_231.out, (mbs_ HB.out)⟩)
      rintro ⟨gb238, gb239⟩ w60 ⟨hS_, h0_, h1_, h2_, h3_, h4_, h5_, h6_, h7_, h8_, h9_, h10_, h11_, h12_, h13_, h14_, h15_, h16_, h17_, h18_, h19_, h20_, h21_, h22_⟩
      replace HO_232000 : Aside0 (Kd.V (Kd.int .i64) 3 w60 w.heap.size (fun k_ => ((P1_0_ k_ ∨ P1_1_ k_ ∨ P1_2_ k_ ∨ P1_3_ k_) ∨ w.heap.size ≤ k_) ∧ k_ ≠ gb230 ∧ k_ ≠ gb231 ∧ k_ ≠ gb238 ∧ k_ ≠ gb239) (.slice A1_0 l1_0.length c1_0) l1_0) := ⟨h0_⟩
      replace HO_232001 : Aside0 (Kd.V k65 65 w60 w.heap.size (fun k_ => ((P1_0_ k_ ∨ P1_1_ k_ ∨ P1_2_ k_ ∨ P1_3_ k_) ∨ w.heap.size ≤ k_) ∧ k_ ≠ gb230 ∧ k_ ≠ gb231 ∧ k_ ≠ gb238 ∧ k_ ≠ gb239) (.slice A1_1 l1_1.length c1_1) l1_1) := ⟨h1_⟩
      replace HO_232002 : Aside0 (Kd.V (Kd.int .i64) 3 w60 w.heap.size (fun k_ => ((P1_0_ k_ ∨ P1_1_ k_ ∨ P1_2_ k_ ∨ P1_3_ k_) ∨ w.heap.size ≤ k_) ∧ k_ ≠ gb230 ∧ k_ ≠ gb231 ∧ k_ ≠ gb238 ∧ k_ ≠ gb239) (.slice A1_2 l1_2.length c1_2) l1_2) := ⟨h2_⟩
      replace HO_232003 : Aside0 (Kd.V (Kd.int .i64) 3 w60 w.heap.size (fun k_ => ((P1_0_ k_ ∨ P1_1_ k_ ∨ P1_2_ k_ ∨ P1_3_ k_) ∨ w.heap.size ≤ k_) ∧ k_ ≠ gb230 ∧ k_ ≠ gb231 ∧ k_ ≠ gb238 ∧ k_ ≠ gb239) (.slice A1_3 l1_3.length c1_3) l1_3) := ⟨h3_⟩
      replace BK230 : Aside0 (w60.heap[gb230]? = some (.cells #[.slice A0_0 l0_0.length c0_0, .slice A0_1 l0_1.length c0_1] 25 (0, 0))) := ⟨h4_⟩
      replace BK231 : Aside0 (w60.heap[gb231]? = some (.cells #[.slice A1_0 l1_0.length c1_0, .slice A1_1 l1_1.length c1_1, .slice A1_2 l1_2.length c1_2, .slice A1_3 l1_3.length c1_3] 29 (0, 0))) := ⟨h5_⟩
      have BK238 : Aside0 (w60.heap[gb238]? = some (.cells #[.slice none 0 0, .slice none 0 0] 25 (0, 0))) := ⟨h6_⟩
      have BK239 : Aside0 (w60.heap[gb239]? = some (.cells #[.slice none 0 0, .slice none 0 0] 27 (0, 0))) := ⟨h7_⟩
      have GW238 : Aside0 (w.heap.size ≤ gb238) := ⟨h8_⟩
      have GE238 : Aside0 (w.heap.size ≤ gb238) := ⟨h9_⟩
      have NB230_238 : Aside0 (gb230 ≠ gb238) := ⟨h10_⟩
      have NB238_230 : Aside0 (gb238 ≠ gb230) := ⟨h11_⟩
      have NB231_238 : Aside0 (gb231 ≠ gb238) := ⟨h12_⟩
      have NB238_231 : Aside0 (gb238 ≠ gb231) := ⟨h13_⟩
      have NB239_238 : Aside0 (gb239 ≠ gb238) := ⟨h14_⟩
      have NB238_239 : Aside0 (gb238 ≠ gb239) := ⟨h15_⟩
      have GW239 : Aside0 (w.heap.size ≤ gb239) := ⟨h16_⟩
      have GE239 : Aside0 (w.heap.size ≤ gb239) := ⟨h17_⟩
      have NB230_239 : Aside0 (gb230 ≠ gb239) := ⟨h18_⟩
      have NB239_230 : Aside0 (gb239 ≠ gb230) := ⟨h19_⟩
      have NB231_239 : Aside0 (gb231 ≠ gb239) := ⟨h20_⟩
      have NB239_231 : Aside0 (gb239 ≠ gb231) := ⟨h21_⟩
      replace HB : Aside0 (Below w.heap.size w w60) := ⟨h22_⟩
      clear h0_ h1_ h2_ h3_ h4_ h5_ h6_ h7_ h8_ h9_ h10_ h11_ h12_ h13_ h14_ h15_ h16_ h17_ h18_ h19_ h20_ h21_ h22_
      have hHeld : w60.cell? ⟨gb231, 0, none⟩ = some (.slice A1_0 l1_0.length c1_0) ∧ w60.cell? ⟨gb231, 1, none⟩ = some (.slice A1_1 l1_1.length c1_1) ∧ w60.cell? ⟨gb231, 2, none⟩ = some (.slice A1_2 l1_2.length c1_2) ∧ w60.cell? ⟨gb231, 3, none⟩ = some (.slice A1_3 l1_3.length c1_3) := hS_
      refine norm_ (a' := ?_) ?_ ?_
      rotate_left
      ·simp only [putAll, Act.put, List.setIfInBounds_toArray, List.set_cons_zero, List.set_cons_succ]
       rfl
      refine one_ (i := 6) (N := none) #[true, true, true, true, true, true, true, false] rfl rfl (one_of HT_.out (by kernel_rfl)) (by decide) (fun K hK => ?_)
      have hs61 : w60.cell? ⟨gb238, 0, none⟩ = some (.slice none 0 0) := (blk_cell BK238.out 0).trans rfl
      have hfs61 := blk_frozen BK238.out 0
      have hns61_0 := NB230_238.out
      have hns61_1 := NB231_238.out
      have hns61_3 := NB239_238.out
      have hms61_0 := NB238_230.out
      have hms61_1 := NB238_231.out
      have hms61_3 := NB238_239.out
      have hs62 : w60.cell? ⟨gb238, 1, none⟩ = some (.slice none 0 0) := (blk_cell BK238.out 1).trans rfl
      have hfs62 := blk_frozen BK238.out 1
      have hns62_0 := NB230_238.out
      have hns62_1 := NB231_238.out
      have hns62_3 := NB239_238.out
      have hms62_0 := NB238_230.out
      have hms62_1 := NB238_231.out
      have hms62_3 := NB238_239.out
      refine skip_ (w1 := ?_) (by rfl) rfl ?_ ?_
      rotate_left
      ·go_simp
       rfl
      refine hK.out _ _ ⟨((cell_far (p := ⟨gb238, _, none⟩) NB231_238.out _).trans (((cell_far (p := ⟨gb238, _, none⟩) NB231_238.out _).trans (hHeld.1)))), ((cell_far (p := ⟨gb238, _, none⟩) NB231_238.out _).trans (((cell_far (p := ⟨gb238, _, none⟩) NB231_238.out _).trans (hHeld.2.1)))), ((cell_far (p := ⟨gb238, _, none⟩) NB231_238.out _).trans (((cell_far (p := ⟨gb238, _, none⟩) NB231_238.out _).trans (hHeld.2.2.1)))), ((cell_far (p := ⟨gb238, _, none⟩) NB231_238.out _).trans (((cell_far (p := ⟨gb238, _, none⟩) NB231_238.out _).trans (hHeld.2.2.2))))⟩ (fun hHeld => ?_)
      clear hK K
      refine one_ (i := 7) (N := none) #[true, true, true, true, true, true, true, true] rfl rfl (one_of HT_.out (by kernel_rfl)) (by decide) (fun K hK => ?_)
      have hs63 : w60.cell? ⟨gb239, 0, none⟩ = some (.slice none 0 0) := (blk_cell BK239.out 0).trans rfl
      have hfs63 := blk_frozen BK239.out 0
      have hns63_0 := NB230_239.out
      have hns63_1 := NB231_239.out
      have hns63_2 := NB238_239.out
      have hms63_0 := NB239_230.out
      have hms63_1 := NB239_231.out
      have hms63_2 := NB239_238.out
      have hs64 : w60.cell? ⟨gb239, 1, none⟩ = some (.slice none 0 0) := (blk_cell BK239.out 1).trans rfl
      have hfs64 := blk_frozen BK239.out 1
      have hns64_0 := NB230_239.out
      have hns64_1 := NB231_239.out
      have hns64_2 := NB238_239.out
      have hms64_0 := NB239_230.out
      have hms64_1 := NB239_231.out
      have hms64_2 := NB239_238.out
      refine skip_ (w1 := ?_) (by rfl) rfl ?_ ?_
      rotate_left
      ·go_simp
       rfl
      refine hK.out _ _ ⟨((cell_far (p := ⟨gb239, _, none⟩) NB231_239.out _).trans (((cell_far (p := ⟨gb239, _, none⟩) NB231_239.out _).trans (hHeld.1)))), ((cell_far (p := ⟨gb239, _, none⟩) NB231_239.out _).trans (((cell_far (p := ⟨gb239, _, none⟩) NB231_239.out _).trans (hHeld.2.1)))), ((cell_far (p := ⟨gb239, _, none⟩) NB231_239.out _).trans (((cell_far (p := ⟨gb239, _, none⟩) NB231_239.out _).trans (hHeld.2.2.1)))), ((cell_far (p := ⟨gb239, _, none⟩) NB231_239.out _).trans (((cell_far (p := ⟨gb239, _, none⟩) NB231_239.out _).trans (hHeld.2.2.2))))⟩ (fun hHeld => ?_)
      clear hK K
      refine done_ (done_of HT_.out (by kernel_rfl)) ?_
      as_aux_lemma =>
      try go_wp2
      have n0_ : Aside0 (Kd.V (Kd.int .i64) 3 ((((w60.setCell ⟨gb238, 0, none⟩ (.slice A1_0 l1_0.length c1_0)).setCell ⟨gb238, 1, none⟩ (.slice A1_1 l1_1.length c1_1)).setCell ⟨gb239, 0, none⟩ (.slice A1_2 l1_2.length c1_2)).setCell ⟨gb239, 1, none⟩ (.slice A1_3 l1_3.length c1_3)) w.heap.size (fun k_ => ((P1_0_ k_ ∨ P1_1_ k_ ∨ P1_2_ k_ ∨ P1_3_ k_) ∨ w.heap.size ≤ k_) ∧ k_ ≠ gb230 ∧ k_ ≠ gb231 ∧ k_ ≠ gb238 ∧ k_ ≠ gb239) (.slice A1_0 l1_0.length c1_0) l1_0) := ⟨by (with_reducible repeat (first | apply Kd.V_alloc | apply Kd.V_drewN | apply Kd.V_drew)); exact Kd.V_mono (Kd.V_far (p := ⟨gb239, 1, none⟩) (Kd.V_far (p := ⟨gb239, 0, none⟩) (Kd.V_far (p := ⟨gb238, 1, none⟩) (Kd.V_far (p := ⟨gb238, 0, none⟩) (Kd.V_mono (Kd.V_mono HO_232000.out (fun k_ hk => (⟨hk, hk.2.2.2.1⟩ : _ ∧ k_ ≠ gb238))) (fun k_ hk => (⟨hk, hk.1.2.2.2.2⟩ : _ ∧ k_ ≠ gb239))) (fun _ hk => hk.1.2) (.slice A1_0 l1_0.length c1_0)) (fun _ hk => hk.1.2) (.slice A1_1 l1_1.length c1_1)) (fun _ hk => hk.2) (.slice A1_2 l1_2.length c1_2)) (fun _ hk => hk.2) (.slice A1_3 l1_3.length c1_3)) (fun _ hk => ⟨hk.1.1.1, ⟨hk.1.1.2.1, ⟨hk.1.1.2.2.1, ⟨hk.1.1.2.2.2.1, hk.1.1.2.2.2.2⟩⟩⟩⟩)⟩
      have n1_ : Aside0 (Kd.V k65 65 ((((w60.setCell ⟨gb238, 0, none⟩ (.slice A1_0 l1_0.length c1_0)).setCell ⟨gb238, 1, none⟩ (.slice A1_1 l1_1.length c1_1)).setCell ⟨gb239, 0, none⟩ (.slice A1_2 l1_2.length c1_2)).setCell ⟨gb239, 1, none⟩ (.slice A1_3 l1_3.length c1_3)) w.heap.size (fun k_ => ((P1_0_ k_ ∨ P1_1_ k_ ∨ P1_2_ k_ ∨ P1_3_ k_) ∨ w.heap.size ≤ k_) ∧ k_ ≠ gb230 ∧ k_ ≠ gb231 ∧ k_ ≠ gb238 ∧ k_ ≠ gb239) (.slice A1_1 l1_1.length c1_1) l1_1) := ⟨by (with_reducible repeat (first | apply Kd.V_alloc | apply Kd.V_drewN | apply Kd.V_drew)); exact Kd.V_mono (Kd.V_far (p := ⟨gb239, 1, none⟩) (Kd.V_far (p := ⟨gb239, 0, none⟩) (Kd.V_far (p := ⟨gb238, 1, none⟩) (Kd.V_far (p := ⟨gb238, 0, none⟩) (Kd.V_mono (Kd.V_mono HO_232001.out (fun k_ hk => (⟨hk, hk.2.2.2.1⟩ : _ ∧ k_ ≠ gb238))) (fun k_ hk => (⟨hk, hk.1.2.2.2.2⟩ : _ ∧ k_ ≠ gb239))) (fun _ hk => hk.1.2) (.slice A1_0 l1_0.length c1_0)) (fun _ hk => hk.1.2) (.slice A1_1 l1_1.length c1_1)) (fun _ hk => hk.2) (.slice A1_2 l1_2.length c1_2)) (fun _ hk => hk.2) (.slice A1_3 l1_3.length c1_3)) (fun _ hk => ⟨hk.1.1.1, ⟨hk.1.1.2.1, ⟨hk.1.1.2.2.1, ⟨hk.1.1.2.2.2.1, hk.1.1.2.2.2.2⟩⟩⟩⟩)⟩
      have n2_ : Aside0 (Kd.V (Kd.int .i64) 3 ((((w60.setCell ⟨gb238, 0, none⟩ (.slice A1_0 l1_0.length c1_0)).setCell ⟨gb238, 1, none⟩ (.slice A1_1 l1_1.length c1_1)).setCell ⟨gb239, 0, none⟩ (.slice A1_2 l1_2.length c1_2)).setCell ⟨gb239, 1, none⟩ (.slice A1_3 l1_3.length c1_3)) w.heap.size (fun k_ => ((P1_0_ k_ ∨ P1_1_ k_ ∨ P1_2_ k_ ∨ P1_3_ k_) ∨ w.heap.size ≤ k_) ∧ k_ ≠ gb230 ∧ k_ ≠ gb231 ∧ k_ ≠ gb238 ∧ k_ ≠ gb239) (.slice A1_2 l1_2.length c1_2) l1_2) := ⟨by (with_reducible repeat (first | apply Kd.V_alloc | apply Kd.V_drewN | apply Kd.V_drew)); exact Kd.V_mono (Kd.V_far (p := ⟨gb239, 1, none⟩) (Kd.V_far (p := ⟨gb239, 0, none⟩) (Kd.V_far (p := ⟨gb238, 1, none⟩) (Kd.V_far (p := ⟨gb238, 0, none⟩) (Kd.V_mono (Kd.V_mono HO_232002.out (fun k_ hk => (⟨hk, hk.2.2.2.1⟩ : _ ∧ k_ ≠ gb238))) (fun k_ hk => (⟨hk, hk.1.2.2.2.2⟩ : _ ∧ k_ ≠ gb239))) (fun _ hk => hk.1.2) (.slice A1_0 l1_0.length c1_0)) (fun _ hk => hk.1.2) (.slice A1_1 l1_1.length c1_1)) (fun _ hk => hk.2) (.slice A1_2 l1_2.length c1_2)) (fun _ hk => hk.2) (.slice A1_3 l1_3.length c1_3)) (fun _ hk => ⟨hk.1.1.1, ⟨hk.1.1.2.1, ⟨hk.1.1.2.2.1, ⟨hk.1.1.2.2.2.1, hk.1.1.2.2.2.2⟩⟩⟩⟩)⟩
      have n3_ : Aside0 (Kd.V (Kd.int .i64) 3 ((((w60.setCell ⟨gb238, 0, none⟩ (.slice A1_0 l1_0.length c1_0)).setCell ⟨gb238, 1, none⟩ (.slice A1_1 l1_1.length c1_1)).setCell ⟨gb239, 0, none⟩ (.slice A1_2 l1_2.length c1_2)).setCell ⟨gb239, 1, none⟩ (.slice A1_3 l1_3.length c1_3)) w.heap.size (fun k_ => ((P1_0_ k_ ∨ P1_1_ k_ ∨ P1_2_ k_ ∨ P1_3_ k_) ∨ w.heap.size ≤ k_) ∧ k_ ≠ gb230 ∧ k_ ≠ gb231 ∧ k_ ≠ gb238 ∧ k_ ≠ gb239) (.slice A1_3 l1_3.length c1_3) l1_3) := ⟨by (with_reducible repeat (first | apply Kd.V_alloc | apply Kd.V_drewN | apply Kd.V_drew)); exact Kd.V_mono (Kd.V_far (p := ⟨gb239, 1, none⟩) (Kd.V_far (p := ⟨gb239, 0, none⟩) (Kd.V_far (p := ⟨gb238, 1, none⟩) (Kd.V_far (p := ⟨gb238, 0, none⟩) (Kd.V_mono (Kd.V_mono HO_232003.out (fun k_ hk => (⟨hk, hk.2.2.2.1⟩ : _ ∧ k_ ≠ gb238))) (fun k_ hk => (⟨hk, hk.1.2.2.2.2⟩ : _ ∧ k_ ≠ gb239))) (fun _ hk => hk.1.2) (.slice A1_0 l1_0.length c1_0)) (fun _ hk => hk.1.2) (.slice A1_1 l1_1.length c1_1)) (fun _ hk => hk.2) (.slice A1_2 l1_2.length c1_2)) (fun _ hk => hk.2) (.slice A1_3 l1_3.length c1_3)) (fun _ hk => ⟨hk.1.1.1, ⟨hk.1.1.2.1, ⟨hk.1.1.2.2.1, ⟨hk.1.1.2.2.2.1, hk.1.1.2.2.2.2⟩⟩⟩⟩)⟩
      have n4_ : Aside0 (((((w60.setCell ⟨gb238, 0, none⟩ (.slice A1_0 l1_0.length c1_0)).setCell ⟨gb238, 1, none⟩ (.slice A1_1 l1_1.length c1_1)).setCell ⟨gb239, 0, none⟩ (.slice A1_2 l1_2.length c1_2)).setCell ⟨gb239, 1, none⟩ (.slice A1_3 l1_3.length c1_3)).heap[gb230]? = some (.cells #[.slice A0_0 l0_0.length c0_0, .slice A0_1 l0_1.length c0_1] 25 (0, 0))) := ⟨by (with_reducible repeat (first | refine blk_drewN ?_ _ | refine blk_drew ?_ | refine blk_alloc ?_ _)); refine blk_far ?_ NB230_239.out _; (with_reducible repeat (first | refine blk_drewN ?_ _ | refine blk_drew ?_ | refine blk_alloc ?_ _)); refine blk_far ?_ NB230_239.out _; (with_reducible repeat (first | refine blk_drewN ?_ _ | refine blk_drew ?_ | refine blk_alloc ?_ _)); refine blk_far ?_ NB230_238.out _; (with_reducible repeat (first | refine blk_drewN ?_ _ | refine blk_drew ?_ | refine blk_alloc ?_ _)); refine blk_far ?_ NB230_238.out _; (with_reducible repeat (first | refine blk_drewN ?_ _ | refine blk_drew ?_ | refine blk_alloc ?_ _)); exact BK230.out⟩
      have n5_ : Aside0 (((((w60.setCell ⟨gb238, 0, none⟩ (.slice A1_0 l1_0.length c1_0)).setCell ⟨gb238, 1, none⟩ (.slice A1_1 l1_1.length c1_1)).setCell ⟨gb239, 0, none⟩ (.slice A1_2 l1_2.length c1_2)).setCell ⟨gb239, 1, none⟩ (.slice A1_3 l1_3.length c1_3)).heap[gb231]? = some (.cells #[.slice A1_0 l1_0.length c1_0, .slice A1_1 l1_1.length c1_1, .slice A1_2 l1_2.length c1_2, .slice A1_3 l1_3.length c1_3] 29 (0, 0))) := ⟨by (with_reducible repeat (first | refine blk_drewN ?_ _ | refine blk_drew ?_ | refine blk_alloc ?_ _)); refine blk_far ?_ NB231_239.out _; (with_reducible repeat (first | refine blk_drewN ?_ _ | refine blk_drew ?_ | refine blk_alloc ?_ _)); refine blk_far ?_ NB231_239.out _; (with_reducible repeat (first | refine blk_drewN ?_ _ | refine blk_drew ?_ | refine blk_alloc ?_ _)); refine blk_far ?_ NB231_238.out _; (with_reducible repeat (first | refine blk_drewN ?_ _ | refine blk_drew ?_ | refine blk_alloc ?_ _)); refine blk_far ?_ NB231_238.out _; (with_reducible repeat (first | refine blk_drewN ?_ _ | refine blk_drew ?_ | refine blk_alloc ?_ _)); exact BK231.out⟩
      have n6_ : Aside0 (((((w60.setCell ⟨gb238, 0, none⟩ (.slice A1_0 l1_0.length c1_0)).setCell ⟨gb238, 1, none⟩ (.slice A1_1 l1_1.length c1_1)).setCell ⟨gb239, 0, none⟩ (.slice A1_2 l1_2.length c1_2)).setCell ⟨gb239, 1, none⟩ (.slice A1_3 l1_3.length c1_3)).heap[gb238]? = some (.cells #[.slice A1_0 l1_0.length c1_0, .slice A1_1 l1_1.length c1_1] 25 (0, 0))) := ⟨by (with_reducible repeat (first | refine blk_drewN ?_ _ | refine blk_drew ?_ | refine blk_alloc ?_ _)); refine blk_far ?_ NB238_239.out _; (with_reducible repeat (first | refine blk_drewN ?_ _ | refine blk_drew ?_ | refine blk_alloc ?_ _)); refine blk_far ?_ NB238_239.out _; (with_reducible repeat (first | refine blk_drewN ?_ _ | refine blk_drew ?_ | refine blk_alloc ?_ _)); refine blk_put (cs := #[.slice A1_0 l1_0.length c1_0, .slice none 0 0]) ?_ 1 _ rfl; (with_reducible repeat (first | refine blk_drewN ?_ _ | refine blk_drew ?_ | refine blk_alloc ?_ _)); refine blk_put (cs := #[.slice none 0 0, .slice none 0 0]) ?_ 0 _ rfl; (with_reducible repeat (first | refine blk_drewN ?_ _ | refine blk_drew ?_ | refine blk_alloc ?_ _)); exact BK238.out⟩
      have n7_ : Aside0 (((((w60.setCell ⟨gb238, 0, none⟩ (.slice A1_0 l1_0.length c1_0)).setCell ⟨gb238, 1, none⟩ (.slice A1_1 l1_1.length c1_1)).setCell ⟨gb239, 0, none⟩ (.slice A1_2 l1_2.length c1_2)).setCell ⟨gb239, 1, none⟩ (.slice A1_3 l1_3.length c1_3)).heap[gb239]? = some (.cells #[.slice A1_2 l1_2.length c1_2, .slice A1_3 l1_3.length c1_3] 27 (0, 0))) := ⟨by (with_reducible repeat (first | refine blk_drewN ?_ _ | refine blk_drew ?_ | refine blk_alloc ?_ _)); refine blk_put (cs := #[.slice A1_2 l1_2.length c1_2, .slice none 0 0]) ?_ 1 _ rfl; (with_reducible repeat (first | refine blk_drewN ?_ _ | refine blk_drew ?_ | refine blk_alloc ?_ _)); refine blk_put (cs := #[.slice none 0 0, .slice none 0 0]) ?_ 0 _ rfl; (with_reducible repeat (first | refine blk_drewN ?_ _ | refine blk_drew ?_ | refine blk_alloc ?_ _)); refine blk_far ?_ NB239_238.out _; (with_reducible repeat (first | refine blk_drewN ?_ _ | refine blk_drew ?_ | refine blk_alloc ?_ _)); refine blk_far ?_ NB239_238.out _; (with_reducible repeat (first | refine blk_drewN ?_ _ | refine blk_drew ?_ | refine blk_alloc ?_ _)); exact BK239.out⟩
      have n8_ : Aside0 (Below w.heap.size w ((((w60.setCell ⟨gb238, 0, none⟩ (.slice A1_0 l1_0.length c1_0)).setCell ⟨gb238, 1, none⟩ (.slice A1_1 l1_1.length c1_1)).setCell ⟨gb239, 0, none⟩ (.slice A1_2 l1_2.length c1_2)).setCell ⟨gb239, 1, none⟩ (.slice A1_3 l1_3.length c1_3))) := ⟨mbs_ HB.out⟩
      (try clear HO_232000)
      (try clear HO_232001)
      (try clear HO_232002)
      (try clear HO_232003)
      (try clear BK230)
      (try clear BK231)
      (try clear BK238)
      (try clear BK239)
      (try clear HB)
      generalize ((((w60.setCell ⟨gb238, 0, none⟩ (.slice A1_0 l1_0.length c1_0)).setCell ⟨gb238, 1, none⟩ (.slice A1_1 l1_1.length c1_1)).setCell ⟨gb239, 0, none⟩ (.slice A1_2 l1_2.length c1_2)).setCell ⟨gb239, 1, none⟩ (.slice A1_3 l1_3.length c1_3)) = w65 at n0_ n1_ n2_ n3_ n4_ n5_ n6_ n7_ n8_ ⊢
      have HO_232000 := n0_
      have HO_232001 := n1_
      have HO_232002 := n2_
      have HO_232003 := n3_
      have BK230 := n4_
      have BK231 := n5_
      have BK238 := n6_
      have BK239 := n7_
      have HB := n8_
      clear n0_ n1_ n2_ n3_ n4_ n5_ n6_ n7_ n8_
      replace HO_232000 := Aside0.mk (Kd.V_drew HO_232000.out)
      replace HO_232001 := Aside0.mk (Kd.V_drew HO_232001.out)
      replace HO_232002 := Aside0.mk (Kd.V_drew HO_232002.out)
      replace HO_232003 := Aside0.mk (Kd.V_drew HO_232003.out)
      replace BK230 := Aside0.mk (blk_drew BK230.out)
      replace BK231 := Aside0.mk (blk_drew BK231.out)
      replace BK238 := Aside0.mk (blk_drew BK238.out)
      replace BK239 := Aside0.mk (blk_drew BK239.out)
      replace HB := Aside0.mk (below_drew1 HB.out)
      refine start_ (n := 35) (S := fun w' => w'.cell? ⟨gb230, 0, none⟩ = some (.slice A0_0 l0_0.length c0_0) ∧ w'.cell? ⟨gb230, 1, none⟩ = some (.slice A0_1 l0_1.length c0_1) ∧ w'.cell? ⟨gb238, 0, none⟩ = some (.slice A1_0 l1_0.length c1_0) ∧ w'.cell? ⟨gb238, 1, none⟩ = some (.slice A1_1 l1_1.length c1_1) ∧ w'.cell? ⟨gb239, 0, none⟩ = some (.slice A1_2 l1_2.length c1_2) ∧ w'.cell? ⟨gb239, 1, none⟩ = some (.slice A1_3 l1_3.length c1_3)) (ds := []) #[false, false, false, false, false, false, false, false, false, false, false, false, false, false, false, false, false, false, false, false, false, false, false, false, false, false, false, false, false, false, false, false, false, false, false] (by kernel_rfl) rfl rfl ⟨(blk_cell BK230.out 0).trans rfl, (blk_cell BK230.out 1).trans rfl, (blk_cell BK238.out 0).trans rfl, (blk_cell BK238.out 1).trans rfl, (blk_cell BK239.out 0).trans rfl, (blk_cell BK239.out 1).trans rfl⟩ (fun hHeld => ?_); refine with_tabW scarfjointlaw06_MorphismValid.tab4 scarfjointlaw06_MorphismValid.bits4 (fun HT_ HW_ => ?_)
      generalize w65.drew = w66 at HO_232000 HO_232001 HO_232002 HO_232003 BK230 BK231 BK238 BK239 HB hHeld ⊢
      refine take_ (i := 0) (N := some 21) (v := ?_) (a' := ?_) #[true, false, false, false, false, false, false, false, false, false, false, false, false, false, false, false, false, false, false, false, false, false, false, false, false, false, false, false, false, false, false, false, false, false, false] rfl rfl (take_ofW HT_.out HW_.out (by kernel_rfl)) (fun _ _ _ h => h) (Or.inl ⟨by rfl, ?_⟩) hHeld ?_ ?_
      rotate_left
      ·rintro w' ⟨s0, s1, s2, s3, s4, s5⟩
       go_simp
       with_reducible rfl
      rotate_left
      ·simp only [Act.put, List.setIfInBounds_toArray, List.set_cons_zero, List.set_cons_succ, i64_w, i32_w]
       rfl
      refine take_ (i := 1) (N := some 22) (v := ?_) (a' := ?_) #[true, true, false, false, false, false, false, false, false, false, false, false, false, false, false, false, false, false, false, false, false, false, false, false, false, false, false, false, false, false, false, false, false, false, false] rfl rfl (take_ofW HT_.out HW_.out (by kernel_rfl)) (fun _ _ _ h => h) (Or.inl ⟨by rfl, ?_⟩) hHeld ?_ ?_
      rotate_left
      ·rintro w' ⟨s0, s1, s2, s3, s4, s5⟩
       go_simp
       with_reducible rfl
      rotate_left
      ·simp only [Act.put, List.setIfInBounds_toArray, List.set_cons_zero, List.set_cons_succ, i64_w, i32_w]
       rfl
      refine take_ (i := 2) (N := some 23) (v := ?_) (a' := ?_) #[true, true, true, false, false, false, false, false, false, false, false, false, false, false, false, false, false, false, false, false, false, false, false, false, false, false, false, false, false, false, false, false, false, false, false] rfl rfl (take_ofW HT_.out HW_.out (by kernel_rfl)) (fun _ _ _ h => h) (Or.inl ⟨by rfl, ?_⟩) hHeld ?_ ?_
      rotate_left
      ·rintro w' ⟨s0, s1, s2, s3, s4, s5⟩
       go_simp
       with_reducible rfl
      rotate_left
      ·simp only [Act.put, List.setIfInBounds_toArray, List.set_cons_zero, List.set_cons_succ, i64_w, i32_w]
       rfl
      refine take_ (i := 5) (N := some 26) (v := ?_) (a' := ?_) #[true, true, true, false, false, true, false, false, false, false, false, false, false, false, false, false, false, false, false, false, false, false, false, false, false, false, false, false, false, false, false, false, false, false, false] rfl rfl (take_ofW HT_.out HW_.out (by kernel_rfl)) (fun _ _ _ h => h) (Or.inl ⟨by rfl, ?_⟩) hHeld ?_ ?_
      rotate_left
      ·rintro w' ⟨s0, s1, s2, s3, s4, s5⟩
       go_simp
       with_reducible rfl
      rotate_left
      ·simp only [Act.put, List.setIfInBounds_toArray, List.set_cons_zero, List.set_cons_succ, i64_w, i32_w]
       rfl
      refine take_ (i := 6) (N := some 27) (v := ?_) (a' := ?_) #[true, true, true, false, false, true, true, false, false, false, false, false, false, false, false, false, false, false, false, false, false, false, false, false, false, false, false, false, false, false, false, false, false, false, false] rfl rfl (take_ofW HT_.out HW_.out (by kernel_rfl)) (fun _ _ _ h => h) (Or.inl ⟨by rfl, ?_⟩) hHeld ?_ ?_
      rotate_left
      ·rintro w' ⟨s0, s1, s2, s3, s4, s5⟩
       go_simp
       with_reducible rfl
      rotate_left
      ·simp only [Act.put, List.setIfInBounds_toArray, List.set_cons_zero, List.set_cons_succ, i64_w, i32_w]
       rfl
      refine take_ (i := 7) (N := some 28) (v := ?_) (a' := ?_) #[true, true, true, false, false, true, true, true, false, false, false, false, false, false, false, false, false, false, false, false, false, false, false, false, false, false, false, false, false, false, false, false, false, false, false] rfl rfl (take_ofW HT_.out HW_.out (by kernel_rfl)) (fun _ _ _ h => h) (Or.inl ⟨by rfl, ?_⟩) hHeld ?_ ?_
      rotate_left
      ·rintro w' ⟨s0, s1, s2, s3, s4, s5⟩
       go_simp
       with_reducible rfl
      rotate_left
      ·simp only [Act.put, List.setIfInBounds_toArray, List.set_cons_zero, List.set_cons_succ, i64_w, i32_w]
       rfl
      refine one_ (i := 3) (N := some 24) #[true, true, true, true, false, true, true, true, false, false, false, false, false, false, false, false, false, false, false, false, false, false, false, false, false, false, false, false, false, false, false, false, false, false, false] rfl rfl (one_of HT_.out (by kernel_rfl)) (by decide) (fun K hK => ?_)
      refine goes_ Try.func13 (by kernel_rfl) rfl #[.agg #[.slice A1_2 l1_2.length c1_2, .slice A1_3 l1_3.length c1_3]] (by rfl) rfl rfl (by (try simp only [List.map_toArray, List.map_cons, List.map_nil]); first | done | rfl | (simp only [List.length_drop, List.length_take]; rfl)) ?_
      with_reducible refine (scarfjointlaw06_copied.calls _ _ l1_2 _ _ l1_3 t240 t243 _ ?side1 ?side2 ?side3 ?side4 A21.out).mono ?_
      (case side1 => exact mc_ (Kd.V_reads' HO_232002.out).2.2)
      (case side2 => exact (Kd.V_reads' HO_232002.out).2.1)
      (case side3 => exact mc_ (Kd.V_reads' HO_232003.out).2.2)
      (case side4 => exact (Kd.V_reads' HO_232003.out).2.1)
      rintro e w67 ⟨v241, v244, rfl, ho0, ho1, hb⟩
      refine ⟨_, rfl, ?_⟩
      replace HO_232000 := Aside0.mk (Kd.V_mono (Kd.V_told (Kd.V_told (Kd.V_old (mv_ HO_232000.out) hb) (Kd.R_base ho0)) (Kd.R_base ho1)) (fun _ h_ => h_.1))
      replace HO_232001 := Aside0.mk (Kd.V_mono (Kd.V_told (Kd.V_told (Kd.V_old (mv_ HO_232001.out) hb) (Kd.R_base ho0)) (Kd.R_base ho1)) (fun _ h_ => h_.1))
      replace HO_232002 := Aside0.mk (Kd.V_mono (Kd.V_told (Kd.V_told (Kd.V_old (mv_ HO_232002.out) hb) (Kd.R_base ho0)) (Kd.R_base ho1)) (fun _ h_ => h_.1))
      replace HO_232003 := Aside0.mk (Kd.V_mono (Kd.V_told (Kd.V_told (Kd.V_old (mv_ HO_232003.out) hb) (Kd.R_base ho0)) (Kd.R_base ho1)) (fun _ h_ => h_.1))
      have HO242 := Aside0.mk (Kd.R_lower (Kd.R_newM (M := fun k_ => (w.heap.size ≤ k_)) ho0 (below_size (mbs_ HB.out)) (fun k_ h_ => h_)) (below_size (mbs_ HB.out)))
      have HO245 := Aside0.mk (Kd.R_lower (Kd.R_newM (M := fun k_ => (w.heap.size ≤ k_)) ho1 (below_size (mbs_ HB.out)) (fun k_ h_ => h_)) (below_size (mbs_ HB.out)))
      replace BK230 := Aside0.mk (blk_below (bk_ BK230.out) hb)
      replace BK231 := Aside0.mk (blk_below (bk_ BK231.out) hb)
      replace BK238 := Aside0.mk (blk_below (bk_ BK238.out) hb)
      replace BK239 := Aside0.mk (blk_below (bk_ BK239.out) hb)
      replace HB := Aside0.mk (below_step (mbs_ HB.out) hb)
      (try clear hb)
      (try clear hb2)
      (try clear hk)
      (try clear hi)
      (try clear ho0)
      (try clear ho1)
      obtain ⟨Ao68, co68, eo68⟩ := Kd.R_slice HO242.out
      (first | subst eo68 | (injection eo68 with f1_ f2_ f3_; have f4_ := f1_.symm; have f5_ := f3_.symm; clear f1_ f2_ f3_; subst f4_; subst f5_))
      obtain ⟨Ao69, co69, eo69⟩ := Kd.R_slice HO245.out
      (first | subst eo69 | (injection eo69 with f1_ f2_ f3_; have f4_ := f1_.symm; have f5_ := f3_.symm; clear f1_ f2_ f3_; subst f4_; subst f5_))
      refine hK.out _ _ ⟨(blk_cell BK230.out 0).trans rfl, (blk_cell BK230.out 1).trans rfl, (blk_cell BK238.out 0).trans rfl, (blk_cell BK238.out 1).trans rfl, (blk_cell BK239.out 0).trans rfl, (blk_cell BK239.out 1).trans rfl⟩ (fun hHeld => ?_)
      clear hK K
      refine norm_ (a' := ?_) ?_ ?_
      rotate_left
      ·show Act.put _ (some 24) _ = _
       simp only [Act.put, List.setIfInBounds_toArray, List.set_cons_zero, List.set_cons_succ, i64_w, i32_w]
       rfl
      refine one_ (i := 4) (N := some 25) #[true, true, true, true, true, true, true, true, false, false, false, false, false, false, false, false, false, false, false, false, false, false, false, false, false, false, false, false, false, false, false, false, false, false, false] rfl rfl (one_of HT_.out (by kernel_rfl)) (by decide) (fun K hK => ?_)
      refine goes_ Try.func12 (by kernel_rfl) rfl #[.agg #[.slice A0_0 l0_0.length c0_0, .slice A0_1 l0_1.length c0_1], .agg #[.slice A1_0 l1_0.length c1_0, .slice A1_1 l1_1.length c1_1], .agg #[.slice Ao68 t240.length co68, .slice Ao69 t243.length co69]] (by rfl) rfl rfl (by (try simp only [List.map_toArray, List.map_cons, List.map_nil]); first | done | rfl | (simp only [List.length_drop, List.length_take]; rfl)) ?_
      with_reducible refine (morphism_Valid.calls kj2 _ _ l0_0 _ _ l0_1 _ _ l1_0 _ _ l1_1 _ _ t240 _ _ t243 t246 _ ?side1 ?side2 ?side3 ?side4 ?side5 ?side6 ?side7 ?side8 ?side9 ?side10 ?side11 ?side12 A22.out).mono ?_
      (case side1 => exact mc_ (Kd.C_below HR0_0.out HB.out))
      (case side2 => exact HC0_0.out)
      (case side3 => exact mc_ (Kd.C_below HR0_1.out HB.out))
      (case side4 => exact HC0_1.out)
      (case side5 => exact mc_ (Kd.V_reads' HO_232000.out).2.2)
      (case side6 => exact (Kd.V_reads' HO_232000.out).2.1)
      (case side7 => exact mc_ (Kd.V_reads' HO_232001.out).2.2)
      (case side8 => exact (Kd.V_reads' HO_232001.out).2.1)
      (case side9 => exact mc_ (Kd.R_reads' HO242.out).2.2)
      (case side10 => exact (Kd.R_reads' HO242.out).2.1)
      (case side11 => exact mc_ (Kd.R_reads' HO245.out).2.2)
      (case side12 => exact (Kd.R_reads' HO245.out).2.1)
      rintro e w70 ⟨rfl, hb⟩
      refine ⟨_, rfl, ?_⟩
      replace HO_232000 := Aside0.mk (Kd.V_below (mv_ HO_232000.out) hb)
      replace HO_232001 := Aside0.mk (Kd.V_below (mv_ HO_232001.out) hb)
      replace HO_232002 := Aside0.mk (Kd.V_below (mv_ HO_232002.out) hb)
      replace HO_232003 := Aside0.mk (Kd.V_below (mv_ HO_232003.out) hb)
      replace HO242 := Aside0.mk (Kd.R_below (mr_ HO242.out) hb)
      replace HO245 := Aside0.mk (Kd.R_below (mr_ HO245.out) hb)
      replace BK230 := Aside0.mk (blk_below (bk_ BK230.out) hb)
      replace BK231 := Aside0.mk (blk_below (bk_ BK231.out) hb)
      replace BK238 := Aside0.mk (blk_below (bk_ BK238.out) hb)
      replace BK239 := Aside0.mk (blk_below (bk_ BK239.out) hb)
      replace HB := Aside0.mk (below_step (mbs_ HB.out) hb)
      (try clear hb)
      (try clear hb2)
      (try clear hk)
      (try clear hi)
      refine hK.out _ _ ⟨(blk_cell BK230.out 0).trans rfl, (blk_cell BK230.out 1).trans rfl, (blk_cell BK238.out 0).trans rfl, (blk_cell BK238.out 1).trans rfl, (blk_cell BK239.out 0).trans rfl, (blk_cell BK239.out 1).trans rfl⟩ (fun hHeld => ?_)
      clear hK K
      refine norm_ (a' := ?_) ?_ ?_
      rotate_left
      ·show Act.put _ (some 25) _ = _
       simp only [Act.put, List.setIfInBounds_toArray, List.set_cons_zero, List.set_cons_succ, i64_w, i32_w]
       rfl
      refine one_ (i := 8) (N := some 29) #[true, true, true, true, true, true, true, true, true, false, false, false, false, false, false, false, false, false, false, false, false, false, false, false, false, false, false, false, false, false, false, false, false, false, false] rfl rfl (one_of HT_.out (by kernel_rfl)) (by decide) (fun K hK => ?_)
      refine goes_ Try.func14 (by kernel_rfl) rfl #[.agg #[.slice A0_0 l0_0.length c0_0, .slice A0_1 l0_1.length c0_1], .agg #[.slice A1_0 l1_0.length c1_0, .slice A1_1 l1_1.length c1_1], .agg #[.slice A1_2 l1_2.length c1_2, .slice A1_3 l1_3.length c1_3]] (by rfl) rfl rfl (by (try simp only [List.map_toArray, List.map_cons, List.map_nil]); first | done | rfl | (simp only [List.length_drop, List.length_take]; rfl)) ?_
      with_reducible refine (scarfjointref06_Valid.calls kj2 _ _ l0_0 _ _ l0_1 _ _ l1_0 _ _ l1_1 _ _ l1_2 _ _ l1_3 t247 _ ?side1 ?side2 ?side3 ?side4 ?side5 ?side6 ?side7 ?side8 ?side9 ?side10 ?side11 ?side12 A23.out).mono ?_
      (case side1 => exact mc_ (Kd.C_below HR0_0.out HB.out))
      (case side2 => exact HC0_0.out)
      (case side3 => exact mc_ (Kd.C_below HR0_1.out HB.out))
      (case side4 => exact HC0_1.out)
      (case side5 => exact mc_ (Kd.V_reads' HO_232000.out).2.2)
      (case side6 => exact (Kd.V_reads' HO_232000.out).2.1)
      (case side7 => exact mc_ (Kd.V_reads' HO_232001.out).2.2)
      (case side8 => exact (Kd.V_reads' HO_232001.out).2.1)
      (case side9 => exact mc_ (Kd.V_reads' HO_232002.out).2.2)
      (case side10 => exact (Kd.V_reads' HO_232002.out).2.1)
      (case side11 => exact mc_ (Kd.V_reads' HO_232003.out).2.2)
      (case side12 => exact (Kd.V_reads' HO_232003.out).2.1)
      rintro e w71 ⟨rfl, hb⟩
      refine ⟨_, rfl, ?_⟩
      replace HO_232000 := Aside0.mk (Kd.V_below (mv_ HO_232000.out) hb)
      replace HO_232001 := Aside0.mk (Kd.V_below (mv_ HO_232001.out) hb)
      replace HO_232002 := Aside0.mk (Kd.V_below (mv_ HO_232002.out) hb)
      replace HO_232003 := Aside0.mk (Kd.V_below (mv_ HO_232003.out) hb)
      replace HO242 := Aside0.mk (Kd.R_below (mr_ HO242.out) hb)
      replace HO245 := Aside0.mk (Kd.R_below (mr_ HO245.out) hb)
      replace BK230 := Aside0.mk (blk_below (bk_ BK230.out) hb)
      replace BK231 := Aside0.mk (blk_below (bk_ BK231.out) hb)
      replace BK238 := Aside0.mk (blk_below (bk_ BK238.out) hb)
      replace BK239 := Aside0.mk (blk_below (bk_ BK239.out) hb)
      replace HB := Aside0.mk (below_step (mbs_ HB.out) hb)
      (try clear hb)
      (try clear hb2)
      (try clear hk)
      (try clear hi)
      refine hK.out _ _ ⟨(blk_cell BK230.out 0).trans rfl, (blk_cell BK230.out 1).trans rfl, (blk_cell BK238.out 0).trans rfl, (blk_cell BK238.out 1).trans rfl, (blk_cell BK239.out 0).trans rfl, (blk_cell BK239.out 1).trans rfl⟩ (fun hHeld => ?_)
      clear hK K
      refine norm_ (a' := ?_) ?_ ?_
      rotate_left
      ·show Act.put _ (some 29) _ = _
       simp only [Act.put, List.setIfInBounds_toArray, List.set_cons_zero, List.set_cons_succ, i64_w, i32_w]
       rfl
      refine pure_ (i := 9) (N := some 30) (v := ?_) (a' := ?_) #[true, true, true, true, true, true, true, true, true, true, false, false, false, false, false, false, false, false, false, false, false, false, false, false, false, false, false, false, false, false, false, false, false, false, false] rfl rfl (any_of HT_.out (by kernel_rfl)) (fun _ _ _ h => h) (Or.inl ⟨by rfl, ?_⟩) ?_ ?_
      rotate_left
      ·intro w'
       go_simp
       with_reducible rfl
      rotate_left
      ·simp only [Act.put, List.setIfInBounds_toArray, List.set_cons_zero, List.set_cons_succ, i64_w, i32_w]
       rfl
      refine pure_ (i := 10) (N := some 31) (v := ?_) (a' := ?_) #[true, true, true, true, true, true, true, true, true, true, true, false, false, false, false, false, false, false, false, false, false, false, false, false, false, false, false, false, false, false, false, false, false, false, false] rfl rfl (any_of HT_.out (by kernel_rfl)) (fun _ _ _ h => h) (Or.inl ⟨by rfl, ?_⟩) ?_ ?_
      rotate_left
      ·intro w'
       go_simp
       with_reducible rfl
      rotate_left
      ·simp only [Act.put, List.setIfInBounds_toArray, List.set_cons_zero, List.set_cons_succ, i64_w, i32_w]
       rfl
      refine take_ (i := 11) (N := some 32) (v := ?_) (a' := ?_) #[true, true, true, true, true, true, true, true, true, true, true, true, false, false, false, false, false, false, false, false, false, false, false, false, false, false, false, false, false, false, false, false, false, false, false] rfl rfl (take_ofW HT_.out HW_.out (by kernel_rfl)) (fun _ _ _ h => h) (Or.inl ⟨by rfl, ?_⟩) hHeld ?_ ?_
      rotate_left
      ·rintro w' ⟨s0, s1, s2, s3, s4, s5⟩
       go_simp
       with_reducible rfl
      rotate_left
      ·simp only [Act.put, List.setIfInBounds_toArray, List.set_cons_zero, List.set_cons_succ, i64_w, i32_w]
       rfl
      refine take_ (i := 12) (N := some 33) (v := ?_) (a' := ?_) #[true, true, true, true, true, true, true, true, true, true, true, true, true, false, false, false, false, false, false, false, false, false, false, false, false, false, false, false, false, false, false, false, false, false, false] rfl rfl (take_ofW HT_.out HW_.out (by kernel_rfl)) (fun _ _ _ h => h) (Or.inl ⟨by rfl, ?_⟩) hHeld ?_ ?_
      rotate_left
      ·rintro w' ⟨s0, s1, s2, s3, s4, s5⟩
       go_simp
       with_reducible rfl
      rotate_left
      ·simp only [Act.put, List.setIfInBounds_toArray, List.set_cons_zero, List.set_cons_succ, i64_w, i32_w]
       rfl
      refine take_ (i := 13) (N := some 34) (v := ?_) (a' := ?_) #[true, true, true, true, true, true, true, true, true, true, true, true, true, true, false, false, false, false, false, false, false, false, false, false, false, false, false, false, false, false, false, false, false, false, false] rfl rfl (take_ofW HT_.out HW_.out (by kernel_rfl)) (fun _ _ _ h => h) (Or.inl ⟨by rfl, ?_⟩) hHeld ?_ ?_
      rotate_left
      ·rintro w' ⟨s0, s1, s2, s3, s4, s5⟩
       go_simp
       with_reducible rfl
      rotate_left
      ·simp only [Act.put, List.setIfInBounds_toArray, List.set_cons_zero, List.set_cons_succ, i64_w, i32_w]
       rfl
      refine take_ (i := 16) (N := some 37) (v := ?_) (a' := ?_) #[true, true, true, true, true, true, true, true, true, true, true, true, true, true, false, false, true, false, false, false, false, false, false, false, false, false, false, false, false, false, false, false, false, false, false] rfl rfl (take_ofW HT_.out HW_.out (by kernel_rfl)) (fun _ _ _ h => h) (Or.inl ⟨by rfl, ?_⟩) hHeld ?_ ?_
      rotate_left
      ·rintro w' ⟨s0, s1, s2, s3, s4, s5⟩
       go_simp
       with_reducible rfl
      rotate_left
      ·simp only [Act.put, List.setIfInBounds_toArray, List.set_cons_zero, List.set_cons_succ, i64_w, i32_w]
       rfl
      refine take_ (i := 17) (N := some 38) (v := ?_) (a' := ?_) #[true, true, true, true, true, true, true, true, true, true, true, true, true, true, false, false, true, true, false, false, false, false, false, false, false, false, false, false, false, false, false, false, false, false, false] rfl rfl (take_ofW HT_.out HW_.out (by kernel_rfl)) (fun _ _ _ h => h) (Or.inl ⟨by rfl, ?_⟩) hHeld ?_ ?_
      rotate_left
      ·rintro w' ⟨s0, s1, s2, s3, s4, s5⟩
       go_simp
       with_reducible rfl
      rotate_left
      ·simp only [Act.put, List.setIfInBounds_toArray, List.set_cons_zero, List.set_cons_succ, i64_w, i32_w]
       rfl
      refine take_ (i := 18) (N := some 39) (v := ?_) (a' := ?_) #[true, true, true, true, true, true, true, true, true, true, true, true, true, true, false, false, true, true, true, false, false, false, false, false, false, false, false, false, false, false, false, false, false, false, false] rfl rfl (take_ofW HT_.out HW_.out (by kernel_rfl)) (fun _ _ _ h => h) (Or.inl ⟨by rfl, ?_⟩) hHeld ?_ ?_
      rotate_left
      ·rintro w' ⟨s0, s1, s2, s3, s4, s5⟩
       go_simp
       with_reducible rfl
      rotate_left
      ·simp only [Act.put, List.setIfInBounds_toArray, List.set_cons_zero, List.set_cons_succ, i64_w, i32_w]
       rfl
      refine one_ (i := 14) (N := some 35) #[true, true, true, true, true, true, true, true, true, true, true, true, true, true, true, false, true, true, true, false, false, false, false, false, false, false, false, false, false, false, false, false, false, false, false] rfl rfl (one_of HT_.out (by kernel_rfl)) (by decide) (fun K hK => ?_)
      refine goes_ Try.func13 (by kernel_rfl) rfl #[.agg #[.slice A1_2 l1_2.length c1_2, .slice A1_3 l1_3.length c1_3]] (by rfl) rfl rfl (by (try simp only [List.map_toArray, List.map_cons, List.map_nil]); first | done | rfl | (simp only [List.length_drop, List.length_take]; rfl)) ?_
      with_reducible refine (scarfjointlaw06_copied.calls _ _ l1_2 _ _ l1_3 t248 t251 _ ?side1 ?side2 ?side3 ?side4 A25.out).mono ?_
      (case side1 => exact mc_ (Kd.V_reads' HO_232002.out).2.2)
      (case side2 => exact (Kd.V_reads' HO_232002.out).2.1)
      (case side3 => exact mc_ (Kd.V_reads' HO_232003.out).2.2)
      (case side4 => exact (Kd.V_reads' HO_232003.out).2.1)
      rintro e w72 ⟨v249, v252, rfl, ho0, ho1, hb⟩
      refine ⟨_, rfl, ?_⟩
      replace HO_232000 := Aside0.mk (Kd.V_mono (Kd.V_told (Kd.V_told (Kd.V_old (mv_ HO_232000.out) hb) (Kd.R_base ho0)) (Kd.R_base ho1)) (fun _ h_ => h_.1))
      replace HO_232001 := Aside0.mk (Kd.V_mono (Kd.V_told (Kd.V_told (Kd.V_old (mv_ HO_232001.out) hb) (Kd.R_base ho0)) (Kd.R_base ho1)) (fun _ h_ => h_.1))
      replace HO_232002 := Aside0.mk (Kd.V_mono (Kd.V_told (Kd.V_told (Kd.V_old (mv_ HO_232002.out) hb) (Kd.R_base ho0)) (Kd.R_base ho1)) (fun _ h_ => h_.1))
      replace HO_232003 := Aside0.mk (Kd.V_mono (Kd.V_told (Kd.V_told (Kd.V_old (mv_ HO_232003.out) hb) (Kd.R_base ho0)) (Kd.R_base ho1)) (fun _ h_ => h_.1))
      have HO250 := Aside0.mk (Kd.R_lower (Kd.R_new' (Kd.R_new' (Kd.R_newM (M := fun k_ => (w.heap.size ≤ k_)) ho0 (below_size (mbs_ HB.out)) (fun k_ h_ => h_)) (Kd.R_lt (mr_ HO242.out))) (Kd.R_lt (mr_ HO245.out))) (below_size (mbs_ HB.out)))
      have HO253 := Aside0.mk (Kd.R_lower (Kd.R_new' (Kd.R_new' (Kd.R_newM (M := fun k_ => (w.heap.size ≤ k_)) ho1 (below_size (mbs_ HB.out)) (fun k_ h_ => h_)) (Kd.R_lt (mr_ HO242.out))) (Kd.R_lt (mr_ HO245.out))) (below_size (mbs_ HB.out)))
      replace HO242 := Aside0.mk (Kd.R_mono (Kd.R_told (Kd.R_told (Kd.R_old (mr_ HO242.out) hb) (Kd.R_base ho0)) (Kd.R_base ho1)) (fun _ h_ => h_.1))
      replace HO245 := Aside0.mk (Kd.R_mono (Kd.R_told (Kd.R_told (Kd.R_old (mr_ HO245.out) hb) (Kd.R_base ho0)) (Kd.R_base ho1)) (fun _ h_ => h_.1))
      replace BK230 := Aside0.mk (blk_below (bk_ BK230.out) hb)
      replace BK231 := Aside0.mk (blk_below (bk_ BK231.out) hb)
      replace BK238 := Aside0.mk (blk_below (bk_ BK238.out) hb)
      replace BK239 := Aside0.mk (blk_below (bk_ BK239.out) hb)
      replace HB := Aside0.mk (below_step (mbs_ HB.out) hb)
      (try clear hb)
      (try clear hb2)
      (try clear hk)
      (try clear hi)
      (try clear ho0)
      (try clear ho1)
      obtain ⟨Ao73, co73, eo73⟩ := Kd.R_slice HO250.out
      (first | subst eo73 | (injection eo73 with f1_ f2_ f3_; have f4_ := f1_.symm; have f5_ := f3_.symm; clear f1_ f2_ f3_; subst f4_; subst f5_))
      obtain ⟨Ao74, co74, eo74⟩ := Kd.R_slice HO253.out
      (first | subst eo74 | (injection eo74 with f1_ f2_ f3_; have f4_ := f1_.symm; have f5_ := f3_.symm; clear f1_ f2_ f3_; subst f4_; subst f5_))
      refine hK.out _ _ ⟨(blk_cell BK230.out 0).trans rfl, (blk_cell BK230.out 1).trans rfl, (blk_cell BK238.out 0).trans rfl, (blk_cell BK238.out 1).trans rfl, (blk_cell BK239.out 0).trans rfl, (blk_cell BK239.out 1).trans rfl⟩ (fun hHeld => ?_)
      clear hK K
      refine norm_ (a' := ?_) ?_ ?_
      rotate_left
      ·show Act.put _ (some 35) _ = _
       simp only [Act.put, List.setIfInBounds_toArray, List.set_cons_zero, List.set_cons_succ, i64_w, i32_w]
       rfl
      refine one_ (i := 15) (N := some 36) #[true, true, true, true, true, true, true, true, true, true, true, true, true, true, true, true, true, true, true, false, false, false, false, false, false, false, false, false, false, false, false, false, false, false, false] rfl rfl (one_of HT_.out (by kernel_rfl)) (by decide) (fun K hK => ?_)
      refine goes_ Try.func15 (by kernel_rfl) rfl #[.agg #[.slice A0_0 l0_0.length c0_0, .slice A0_1 l0_1.length c0_1], .agg #[.slice A1_0 l1_0.length c1_0, .slice A1_1 l1_1.length c1_1], .agg #[.slice Ao73 t248.length co73, .slice Ao74 t251.length co74]] (by rfl) rfl rfl (by (try simp only [List.map_toArray, List.map_cons, List.map_nil]); first | done | rfl | (simp only [List.length_drop, List.length_take]; rfl)) ?_
      with_reducible refine (morphism_Injective.calls kj2 _ _ l0_0 _ _ l0_1 _ _ l1_0 _ _ l1_1 _ _ t248 _ _ t251 t254 _ ?side1 ?side2 ?side3 ?side4 ?side5 ?side6 ?side7 ?side8 ?side9 ?side10 ?side11 ?side12 A26.out).mono ?_
      (case side1 => exact mc_ (Kd.C_below HR0_0.out HB.out))
      (case side2 => exact HC0_0.out)
      (case side3 => exact mc_ (Kd.C_below HR0_1.out HB.out))
      (case side4 => exact HC0_1.out)
      (case side5 => exact mc_ (Kd.V_reads' HO_232000.out).2.2)
      (case side6 => exact (Kd.V_reads' HO_232000.out).2.1)
      (case side7 => exact mc_ (Kd.V_reads' HO_232001.out).2.2)
      (case side8 => exact (Kd.V_reads' HO_232001.out).2.1)
      (case side9 => exact mc_ (Kd.R_reads' HO250.out).2.2)
      (case side10 => exact (Kd.R_reads' HO250.out).2.1)
      (case side11 => exact mc_ (Kd.R_reads' HO253.out).2.2)
      (case side12 => exact (Kd.R_reads' HO253.out).2.1)
      rintro e w75 ⟨rfl, hb⟩
      refine ⟨_, rfl, ?_⟩
      replace HO_232000 := Aside0.mk (Kd.V_below (mv_ HO_232000.out) hb)
      replace HO_232001 := Aside0.mk (Kd.V_below (mv_ HO_232001.out) hb)
      replace HO_232002 := Aside0.mk (Kd.V_below (mv_ HO_232002.out) hb)
      replace HO_232003 := Aside0.mk (Kd.V_below (mv_ HO_232003.out) hb)
      replace HO242 := Aside0.mk (Kd.R_below (mr_ HO242.out) hb)
      replace HO245 := Aside0.mk (Kd.R_below (mr_ HO245.out) hb)
      replace HO250 := Aside0.mk (Kd.R_below (mr_ HO250.out) hb)
      replace HO253 := Aside0.mk (Kd.R_below (mr_ HO253.out) hb)
      replace BK230 := Aside0.mk (blk_below (bk_ BK230.out) hb)
      replace BK231 := Aside0.mk (blk_below (bk_ BK231.out) hb)
      replace BK238 := Aside0.mk (blk_below (bk_ BK238.out) hb)
      replace BK239 := Aside0.mk (blk_below (bk_ BK239.out) hb)
      replace HB := Aside0.mk (below_step (mbs_ HB.out) hb)
      (try clear hb)
      (try clear hb2)
      (try clear hk)
      (try clear hi)
      refine hK.out _ _ ⟨(blk_cell BK230.out 0).trans rfl, (blk_cell BK230.out 1).trans rfl, (blk_cell BK238.out 0).trans rfl, (blk_cell BK238.out 1).trans rfl, (blk_cell BK239.out 0).trans rfl, (blk_cell BK239.out 1).trans rfl⟩ (fun hHeld => ?_)
      clear hK K
      refine norm_ (a' := ?_) ?_ ?_
      rotate_left
      ·show Act.put _ (some 36) _ = _
       simp only [Act.put, List.setIfInBounds_toArray, List.set_cons_zero, List.set_cons_succ, i64_w, i32_w]
       rfl
      refine one_ (i := 19) (N := some 40) #[true, true, true, true, true, true, true, true, true, true, true, true, true, true, true, true, true, true, true, true, false, false, false, false, false, false, false, false, false, false, false, false, false, false, false] rfl rfl (one_of HT_.out (by kernel_rfl)) (by decide) (fun K hK => ?_)
      refine goes_ Try.func16 (by kernel_rfl) rfl #[.agg #[.slice A0_0 l0_0.length c0_0, .slice A0_1 l0_1.length c0_1], .agg #[.slice A1_0 l1_0.length c1_0, .slice A1_1 l1_1.length c1_1], .agg #[.slice A1_2 l1_2.length c1_2, .slice A1_3 l1_3.length c1_3]] (by rfl) rfl rfl (by (try simp only [List.map_toArray, List.map_cons, List.map_nil]); first | done | rfl | (simp only [List.length_drop, List.length_take]; rfl)) ?_
      with_reducible refine (scarfjointref06_Injective.calls kj2 _ _ l0_0 _ _ l0_1 _ _ l1_0 _ _ l1_1 _ _ l1_2 _ _ l1_3 t255 _ ?side1 ?side2 ?side3 ?side4 ?side5 ?side6 ?side7 ?side8 ?side9 ?side10 ?side11 ?side12 A27.out).mono ?_
      (case side1 => exact mc_ (Kd.C_below HR0_0.out HB.out))
      (case side2 => exact HC0_0.out)
      (case side3 => exact mc_ (Kd.C_below HR0_1.out HB.out))
      (case side4 => exact HC0_1.out)
      (case side5 => exact mc_ (Kd.V_reads' HO_232000.out).2.2)
      (case side6 => exact (Kd.V_reads' HO_232000.out).2.1)
      (case side7 => exact mc_ (Kd.V_reads' HO_232001.out).2.2)
      (case side8 => exact (Kd.V_reads' HO_232001.out).2.1)
      (case side9 => exact mc_ (Kd.V_reads' HO_232002.out).2.2)
      (case side10 => exact (Kd.V_reads' HO_232002.out).2.1)
      (case side11 => exact mc_ (Kd.V_reads' HO_232003.out).2.2)
      (case side12 => exact (Kd.V_reads' HO_232003.out).2.1)
      rintro e w76 ⟨rfl, hb⟩
      refine ⟨_, rfl, ?_⟩
      replace HO_232000 := Aside0.mk (Kd.V_below (mv_ HO_232000.out) hb)
      replace HO_232001 := Aside0.mk (Kd.V_below (mv_ HO_232001.out) hb)
      replace HO_232002 := Aside0.mk (Kd.V_below (mv_ HO_232002.out) hb)
      replace HO_232003 := Aside0.mk (Kd.V_below (mv_ HO_232003.out) hb)
      replace HO242 := Aside0.mk (Kd.R_below (mr_ HO242.out) hb)
      replace HO245 := Aside0.mk (Kd.R_below (mr_ HO245.out) hb)
      replace HO250 := Aside0.mk (Kd.R_below (mr_ HO250.out) hb)
      replace HO253 := Aside0.mk (Kd.R_below (mr_ HO253.out) hb)
      replace BK230 := Aside0.mk (blk_below (bk_ BK230.out) hb)
      replace BK231 := Aside0.mk (blk_below (bk_ BK231.out) hb)
      replace BK238 := Aside0.mk (blk_below (bk_ BK238.out) hb)
      replace BK239 := Aside0.mk (blk_below (bk_ BK239.out) hb)
      replace HB := Aside0.mk (below_step (mbs_ HB.out) hb)
      (try clear hb)
      (try clear hb2)
      (try clear hk)
      (try clear hi)
      refine hK.out _ _ ⟨(blk_cell BK230.out 0).trans rfl, (blk_cell BK230.out 1).trans rfl, (blk_cell BK238.out 0).trans rfl, (blk_cell BK238.out 1).trans rfl, (blk_cell BK239.out 0).trans rfl, (blk_cell BK239.out 1).trans rfl⟩ (fun hHeld => ?_)
      clear hK K
      refine norm_ (a' := ?_) ?_ ?_
      rotate_left
      ·show Act.put _ (some 40) _ = _
       simp only [Act.put, List.setIfInBounds_toArray, List.set_cons_zero, List.set_cons_succ, i64_w, i32_w]
       rfl
      refine pure_ (i := 20) (N := some 41) (v := ?_) (a' := ?_) #[true, true, true, true, true, true, true, true, true, true, true, true, true, true, true, true, true, true, true, true, true, false, false, false, false, false, false, false, false, false, false, false, false, false, false] rfl rfl (any_of HT_.out (by kernel_rfl)) (fun _ _ _ h => h) (Or.inl ⟨by rfl, ?_⟩) ?_ ?_
      rotate_left
      ·intro w'
       go_simp
       with_reducible rfl
      rotate_left
      ·simp only [Act.put, List.setIfInBounds_toArray, List.set_cons_zero, List.set_cons_succ, i64_w, i32_w]
       rfl
      refine pure_ (i := 21) (N := some 42) (v := ?_) (a' := ?_) #[true, true, true, true, true, true, true, true, true, true, true, true, true, true, true, true, true, true, true, true, true, true, false, false, false, false, false, false, false, false, false, false, false, false, false] rfl rfl (any_of HT_.out (by kernel_rfl)) (fun _ _ _ h => h) (Or.inl ⟨by rfl, ?_⟩) ?_ ?_
      rotate_left
      ·intro w'
       go_simp
       with_reducible rfl
      rotate_left
      ·simp only [Act.put, List.setIfInBounds_toArray, List.set_cons_zero, List.set_cons_succ, i64_w, i32_w]
       rfl
      refine pure_ (i := 22) (N := some 43) (v := ?_) (a' := ?_) #[true, true, true, true, true, true, true, true, true, true, true, true, true, true, true, true, true, true, true, true, true, true, true, false, false, false, false, false, false, false, false, false, false, false, false] rfl rfl (any_of HT_.out (by kernel_rfl)) (fun _ _ _ h => h) (Or.inl ⟨by rfl, ?_⟩) ?_ ?_
      rotate_left
      ·intro w'
       go_simp
       with_reducible rfl
      rotate_left
      ·simp only [Act.put, List.setIfInBounds_toArray, List.set_cons_zero, List.set_cons_succ, i64_w, i32_w]
       rfl
      refine pure_ (i := 23) (N := some 44) (v := undef) (a' := ?_) #[true, true, true, true, true, true, true, true, true, true, true, true, true, true, true, true, true, true, true, true, true, true, true, true, false, false, false, false, false, false, false, false, false, false, false] rfl rfl (any_of HT_.out (by kernel_rfl)) (fun _ _ _ h => h) (Or.inr ⟨by rfl, rfl⟩) ?_ ?_
      rotate_left
      ·simp only [Act.put, List.setIfInBounds_toArray, List.set_cons_zero, List.set_cons_succ, i64_w, i32_w]
       rfl
      refine pure_ (i := 24) (N := some 45) (v := undef) (a' := ?_) #[true, true, true, true, true, true, true, true, true, true, true, true, true, true, true, true, true, true, true, true, true, true, true, true, true, false, false, false, false, false, false, false, false, false, false] rfl rfl (any_of HT_.out (by kernel_rfl)) (fun _ _ _ h => h) (Or.inr ⟨by rfl, rfl⟩) ?_ ?_
      rotate_left
      ·simp only [Act.put, List.setIfInBounds_toArray, List.set_cons_zero, List.set_cons_succ, i64_w, i32_w]
       rfl
      refine pure_ (i := 25) (N := some 46) (v := undef) (a' := ?_) #[true, true, true, true, true, true, true, true, true, true, true, true, true, true, true, true, true, true, true, true, true, true, true, true, true, true, false, false, false, false, false, false, false, false, false] rfl rfl (any_of HT_.out (by kernel_rfl)) (fun _ _ _ h => h) (Or.inr ⟨by rfl, rfl⟩) ?_ ?_
      rotate_left
      ·simp only [Act.put, List.setIfInBounds_toArray, List.set_cons_zero, List.set_cons_succ, i64_w, i32_w]
       rfl
      refine pure_ (i := 26) (N := some 47) (v := undef) (a' := ?_) #[true, true, true, true, true, true, true, true, true, true, true, true, true, true, true, true, true, true, true, true, true, true, true, true, true, true, true, false, false, false, false, false, false, false, false] rfl rfl (any_of HT_.out (by kernel_rfl)) (fun _ _ _ h => h) (Or.inr ⟨by rfl, rfl⟩) ?_ ?_
      rotate_left
      ·simp only [Act.put, List.setIfInBounds_toArray, List.set_cons_zero, List.set_cons_succ, i64_w, i32_w]
       rfl
      refine pure_ (i := 27) (N := some 48) (v := undef) (a' := ?_) #[true, true, true, true, true, true, true, true, true, true, true, true, true, true, true, true, true, true, true, true, true, true, true, true, true, true, true, true, false, false, false, false, false, false, false] rfl rfl (any_of HT_.out (by kernel_rfl)) (fun _ _ _ h => h) (Or.inr ⟨by rfl, rfl⟩) ?_ ?_
      rotate_left
      ·simp only [Act.put, List.setIfInBounds_toArray, List.set_cons_zero, List.set_cons_succ, i64_w, i32_w]
       rfl
      refine pure_ (i := 28) (N := some 49) (v := undef) (a' := ?_) #[true, true, true, true, true, true, true, true, true, true, true, true, true, true, true, true, true, true, true, true, true, true, true, true, true, true, true, true, true, false, false, false, false, false, false] rfl rfl (any_of HT_.out (by kernel_rfl)) (fun _ _ _ h => h) (Or.inr ⟨by rfl, rfl⟩) ?_ ?_
      rotate_left
      ·simp only [Act.put, List.setIfInBounds_toArray, List.set_cons_zero, List.set_cons_succ, i64_w, i32_w]
       rfl
      refine pure_ (i := 29) (N := some 50) (v := undef) (a' := ?_) #[true, true, true, true, true, true, true, true, true, true, true, true, true, true, true, true, true, true, true, true, true, true, true, true, true, true, true, true, true, true, false, false, false, false, false] rfl rfl (any_of HT_.out (by kernel_rfl)) (fun _ _ _ h => h) (Or.inr ⟨by rfl, rfl⟩) ?_ ?_
      rotate_left
      ·simp only [Act.put, List.setIfInBounds_toArray, List.set_cons_zero, List.set_cons_succ, i64_w, i32_w]
       rfl
      refine pure_ (i := 30) (N := some 51) (v := undef) (a' := ?_) #[true, true, true, true, true, true, true, true, true, true, true, true, true, true, true, true, true, true, true, true, true, true, true, true, true, true, true, true, true, true, true, false, false, false, false] rfl rfl (any_of HT_.out (by kernel_rfl)) (fun _ _ _ h => h) (Or.inr ⟨by rfl, rfl⟩) ?_ ?_
      rotate_left
      ·simp only [Act.put, List.setIfInBounds_toArray, List.set_cons_zero, List.set_cons_succ, i64_w, i32_w]
       rfl
      refine pure_ (i := 31) (N := some 52) (v := undef) (a' := ?_) #[true, true, true, true, true, true, true, true, true, true, true, true, true, true, true, true, true, true, true, true, true, true, true, true, true, true, true, true, true, true, true, true, false, false, false] rfl rfl (any_of HT_.out (by kernel_rfl)) (fun _ _ _ h => h) (Or.inr ⟨by rfl, rfl⟩) ?_ ?_
      rotate_left
      ·simp only [Act.put, List.setIfInBounds_toArray, List.set_cons_zero, List.set_cons_succ, i64_w, i32_w]
       rfl
      refine pure_ (i := 32) (N := some 53) (v := undef) (a' := ?_) #[true, true, true, true, true, true, true, true, true, true, true, true, true, true, true, true, true, true, true, true, true, true, true, true, true, true, true, true, true, true, true, true, true, false, false] rfl rfl (any_of HT_.out (by kernel_rfl)) (fun _ _ _ h => h) (Or.inr ⟨by rfl, rfl⟩) ?_ ?_
      rotate_left
      ·simp only [Act.put, List.setIfInBounds_toArray, List.set_cons_zero, List.set_cons_succ, i64_w, i32_w]
       rfl
      refine pure_ (i := 33) (N := some 54) (v := ?_) (a' := ?_) #[true, true, true, true, true, true, true, true, true, true, true, true, true, true, true, true, true, true, true, true, true, true, true, true, true, true, true, true, true, true, true, true, true, true, false] rfl rfl (any_of HT_.out (by kernel_rfl)) (fun _ _ _ h => h) (Or.inl ⟨by rfl, ?_⟩) ?_ ?_
      rotate_left
      ·intro w'
       go_simp
       with_reducible rfl
      rotate_left
      ·simp only [Act.put, List.setIfInBounds_toArray, List.set_cons_zero, List.set_cons_succ, i64_w, i32_w]
       rfl
      refine pure_ (i := 34) (N := some 4) (v := ?_) (a' := ?_) #[true, true, true, true, true, true, true, true, true, true, true, true, true, true, true, true, true, true, true, true, true, true, true, true, true, true, true, true, true, true, true, true, true, true, true] rfl rfl (any_of HT_.out (by kernel_rfl)) (fun _ _ _ h => h) (Or.inl ⟨by rfl, ?_⟩) ?_ ?_
      rotate_left
      ·intro w'
       go_simp
       with_reducible rfl
      rotate_left
      ·simp only [Act.put, List.setIfInBounds_toArray, List.set_cons_zero, List.set_cons_succ, i64_w, i32_w]
       rfl
      refine done_ (done_of HT_.out (by kernel_rfl)) ?_
      as_aux_lemma =>
      try go_wp2
      go_ret
      exact ⟨by first | rfl | (simp [errW_none, errW_some] <;> rfl) | (simp [*, errW_none, errW_some] <;> rfl), mbs_ HB.out⟩
    ·rw [if_neg c24] at H
     have c24b0 : (t246 == t247) = false := beq_eq_false_iff_ne.mpr c24
     have c24b1 : (t246 != t247) = true := bne_iff_ne.mpr c24
     obtain rfl := Option.some.inj H
     try go_wp2
     replace HO_232000 := Aside0.mk (Kd.V_drew HO_232000.out)
     replace HO_232001 := Aside0.mk (Kd.V_drew HO_232001.out)
     replace HO_232002 := Aside0.mk (Kd.V_drew HO_232002.out)
     replace HO_232003 := Aside0.mk (Kd.V_drew HO_232003.out)
     replace BK230 := Aside0.mk (blk_drew BK230.out)
     replace BK231 := Aside0.mk (blk_drew BK231.out)
     replace HB := Aside0.mk (below_drew1 HB.out)
     refine start_ (n := 8) (S := fun w' => w'.cell? ⟨gb231, 0, none⟩ = some (.slice A1_0 l1_0.length c1_0) ∧ w'.cell? ⟨gb231, 1, none⟩ = some (.slice A1_1 l1_1.length c1_1) ∧ w'.cell? ⟨gb231, 2, none⟩ = some (.slice A1_2 l1_2.length c1_2) ∧ w'.cell? ⟨gb231, 3, none⟩ = some (.slice A1_3 l1_3.length c1_3)) (ds := []) #[false, false, false, false, false, false, false, false] (by kernel_rfl) rfl rfl ⟨(blk_cell BK231.out 0).trans rfl, (blk_cell BK231.out 1).trans rfl, (blk_cell BK231.out 2).trans rfl, (blk_cell BK231.out 3).trans rfl⟩ (fun hHeld => ?_); refine with_tabW scarfjointlaw06_MorphismValid.tab3 scarfjointlaw06_MorphismValid.bits3 (fun HT_ HW_ => ?_)
     generalize wc.drew = w77 at HO_232000 HO_232001 HO_232002 HO_232003 BK230 BK231 HB hHeld ⊢
     refine pure_ (i := 0) (N := some 17) (v := ?_) (a' := ?_) #[true, false, false, false, false, false, false, false] rfl rfl (any_of HT_.out (by kernel_rfl)) (fun _ _ _ h => h) (Or.inl ⟨by rfl, ?_⟩) ?_ ?_
     rotate_left
     ·intro w'
      go_simp
      with_reducible rfl
     rotate_left
     ·simp only [Act.put, List.setIfInBounds_toArray, List.set_cons_zero, List.set_cons_succ, i64_w, i32_w]
      rfl
     refine pure_ (i := 2) (N := some 19) (v := ?_) (a' := ?_) #[true, false, true, false, false, false, false, false] rfl rfl (any_of HT_.out (by kernel_rfl)) (fun _ _ _ h => h) (Or.inl ⟨by rfl, ?_⟩) ?_ ?_
     rotate_left
     ·intro w'
      go_simp
      with_reducible rfl
     rotate_left
     ·simp only [Act.put, List.setIfInBounds_toArray, List.set_cons_zero, List.set_cons_succ, i64_w, i32_w]
      rfl
     refine take_ (i := 1) (N := some 18) (v := ?_) (a' := ?_) #[true, true, true, false, false, false, false, false] rfl rfl (take_ofW HT_.out HW_.out (by kernel_rfl)) (fun _ _ _ h => h) (Or.inl ⟨by rfl, ?_⟩) hHeld ?_ ?_
     rotate_left
     ·rintro w' ⟨s0, s1, s2, s3⟩
      go_simp
      with_reducible rfl
     rotate_left
     ·simp only [Act.put, List.setIfInBounds_toArray, List.set_cons_zero, List.set_cons_succ, i64_w, i32_w]
      rfl
     refine take_ (i := 3) (N := some 20) (v := ?_) (a' := ?_) #[true, true, true, true, false, false, false, false] rfl rfl (take_ofW HT_.out HW_.out (by kernel_rfl)) (fun _ _ _ h => h) (Or.inl ⟨by rfl, ?_⟩) hHeld ?_ ?_
     rotate_left
     ·rintro w' ⟨s0, s1, s2, s3⟩
      go_simp
      with_reducible rfl
     rotate_left
     ·simp only [Act.put, List.setIfInBounds_toArray, List.set_cons_zero, List.set_cons_succ, i64_w, i32_w]
      rfl
     refine join_ (σ := Nat × Nat) 2 #[true, true, true, true, true, true, false, false] (fun s_ => [(5, .pointer (some ⟨s_.1, 0, none⟩)), (6, .pointer (some ⟨s_.2, 0, none⟩))]) (fun s_ w' => (w'.cell? ⟨gb231, 0, none⟩ = some (.slice A1_0 l1_0.length c1_0) ∧ w'.cell? ⟨gb231, 1, none⟩ = some (.slice A1_1 l1_1.length c1_1) ∧ w'.cell? ⟨gb231, 2, none⟩ = some (.slice A1_2 l1_2.length c1_2) ∧ w'.cell? ⟨gb231, 3, none⟩ = some (.slice A1_3 l1_3.length c1_3)) ∧ (Kd.V (Kd.int .i64) 3 w' w.heap.size (fun k_ => ((P1_0_ k_ ∨ P1_1_ k_ ∨ P1_2_ k_ ∨ P1_3_ k_) ∨ w.heap.size ≤ k_) ∧ k_ ≠ gb230 ∧ k_ ≠ gb231 ∧ k_ ≠ s_.1 ∧ k_ ≠ s_.2) (.slice A1_0 l1_0.length c1_0) l1_0) ∧ (Kd.V k65 65 w' w.heap.size (fun k_ => ((P1_0_ k_ ∨ P1_1_ k_ ∨ P1_2_ k_ ∨ P1_3_ k_) ∨ w.heap.size ≤ k_) ∧ k_ ≠ gb230 ∧ k_ ≠ gb231 ∧ k_ ≠ s_.1 ∧ k_ ≠ s_.2) (.slice A1_1 l1_1.length c1_1) l1_1) ∧ (Kd.V (Kd.int .i64) 3 w' w.heap.size (fun k_ => ((P1_0_ k_ ∨ P1_1_ k_ ∨ P1_2_ k_ ∨ P1_3_ k_) ∨ w.heap.size ≤ k_) ∧ k_ ≠ gb230 ∧ k_ ≠ gb231 ∧ k_ ≠ s_.1 ∧ k_ ≠ s_.2) (.slice A1_2 l1_2.length c1_2) l1_2) ∧ (Kd.V (Kd.int .i64) 3 w' w.heap.size (fun k_ => ((P1_0_ k_ ∨ P1_1_ k_ ∨ P1_2_ k_ ∨ P1_3_ k_) ∨ w.heap.size ≤ k_) ∧ k_ ≠ gb230 ∧ k_ ≠ gb231 ∧ k_ ≠ s_.1 ∧ k_ ≠ s_.2) (.slice A1_3 l1_3.length c1_3) l1_3) ∧ (w'.heap[gb230]? = some (.cells #[.slice A0_0 l0_0.length c0_0, .slice A0_1 l0_1.length c0_1] 25 (0, 0))) ∧ (w'.heap[gb231]? = some (.cells #[.slice A1_0 l1_0.length c1_0, .slice A1_1 l1_1.length c1_1, .slice A1_2 l1_2.length c1_2, .slice A1_3 l1_3.length c1_3] 29 (0, 0))) ∧ (w'.heap[s_.1]? = some (.cells #[.slice none 0 0, .slice none 0 0] 25 (0, 0))) ∧ (w'.heap[s_.2]? = some (.cells #[.slice none 0 0, .slice none 0 0] 27 (0, 0))) ∧ (w.heap.size ≤ s_.1) ∧ (w.heap.size ≤ s_.1) ∧ (gb230 ≠ s_.1) ∧ (s_.1 ≠ gb230) ∧ (gb231 ≠ s_.1) ∧ (s_.1 ≠ gb231) ∧ (s_.2 ≠ s_.1) ∧ (s_.1 ≠ s_.2) ∧ (w.heap.size ≤ s_.2) ∧ (w.heap.size ≤ s_.2) ∧ (gb230 ≠ s_.2) ∧ (s_.2 ≠ gb230) ∧ (gb231 ≠ s_.2) ∧ (s_.2 ≠ gb231) ∧ (Below w.heap.size w w')) ?_ ?_
     rotate_left
     ·intro hCont
      refine two_ (i := 4) (j := 5) (Ni := some 5) (Nj := some 6) #[true, true, true, true, true, false, false, false] #[true, true, true, true, false, true, false, false] rfl rfl rfl rfl (two_of HT_.out (by kernel_rfl)) (by decide) (by decide) (fun K hK => ?_) (fun K hK => ?_)
      ·skip
       refine box_step ?hg (N := 5) ?hd (cs := #[.slice none 0 0, .slice none 0 0]) (t := 25) ?hr ?_; (case hd => rfl); (case hg => rfl); (case hr => first | (go_simp; done) | (go_simp; rfl))
       intro gb238 hg w78 hbox hb
       replace HO_232000 := Aside0.mk (Kd.V_below (Kd.V_elderB (mv_ HO_232000.out) gb238 (Nat.le_of_eq hg.symm)) hb)
       replace HO_232001 := Aside0.mk (Kd.V_below (Kd.V_elderB (mv_ HO_232001.out) gb238 (Nat.le_of_eq hg.symm)) hb)
       replace HO_232002 := Aside0.mk (Kd.V_below (Kd.V_elderB (mv_ HO_232002.out) gb238 (Nat.le_of_eq hg.symm)) hb)
       replace HO_232003 := Aside0.mk (Kd.V_below (Kd.V_elderB (mv_ HO_232003.out) gb238 (Nat.le_of_eq hg.symm)) hb)
       have BK238 := Aside0.mk (hbox)
       have GW238 := Aside0.mk (gw_ hg (mbs_ HB.out))
       have GE238 := Aside0.mk (gw_ hg (mbs_ HB.out))
       replace HB := Aside0.mk (below_step (mbs_ HB.out) hb)
       have NB230_238 := Aside0.mk (nb_ hg (bk_ BK230.out))
       have NB238_230 := Aside0.mk (nc_ hg (bk_ BK230.out))
       replace BK230 := Aside0.mk (blk_below (bk_ BK230.out) hb)
       have NB231_238 := Aside0.mk (nb_ hg (bk_ BK231.out))
       have NB238_231 := Aside0.mk (nc_ hg (bk_ BK231.out))
       replace BK231 := Aside0.mk (blk_below (bk_ BK231.out) hb)
       clear hb hbox hg
       refine hK.out _ _ ⟨(blk_cell BK231.out 0).trans rfl, (blk_cell BK231.out 1).trans rfl, (blk_cell BK231.out 2).trans rfl, (blk_cell BK231.out 3).trans rfl⟩ (fun hHeld => ?_)
       clear hK K
       refine norm_ (a' := ?_) ?_ ?_
       rotate_left
       ·show Act.put _ (some 5) _ = _
        simp only [Act.put, List.setIfInBounds_toArray, List.set_cons_zero, List.set_cons_succ, i64_w, i32_w]
        rfl
       refine one_ (i := 5) (N := some 6) #[true, true, true, true, true, true, false, false] rfl rfl (one_of HT_.out (by kernel_rfl)) (by decide) (fun K hK => ?_)
       refine box_step ?hg (N := 6) ?hd (cs := #[.slice none 0 0, .slice none 0 0]) (t := 27) ?hr ?_; (case hd => rfl); (case hg => rfl); (case hr => first | (go_simp; done) | (go_simp; rfl))
       intro gb239 hg w79 hbox hb
       replace HO_232000 := Aside0.mk (Kd.V_below (Kd.V_elderB (mv_ HO_232000.out) gb239 (Nat.le_of_eq hg.symm)) hb)
       replace HO_232001 := Aside0.mk (Kd.V_below (Kd.V_elderB (mv_ HO_232001.out) gb239 (Nat.le_of_eq hg.symm)) hb)
       replace HO_232002 := Aside0.mk (Kd.V_below (Kd.V_elderB (mv_ HO_232002.out) gb239 (Nat.le_of_eq hg.symm)) hb)
       replace HO_232003 := Aside0.mk (Kd.V_below (Kd.V_elderB (mv_ HO_232003.out) gb239 (Nat.le_of_eq hg.symm)) hb)
       have BK239 := Aside0.mk (hbox)
       have GW239 := Aside0.mk (gw_ hg (mbs_ HB.out))
       have GE239 := Aside0.mk (gw_ hg (mbs_ HB.out))
       replace HB := Aside0.mk (below_step (mbs_ HB.out) hb)
       have NB230_239 := Aside0.mk (nb_ hg (bk_ BK230.out))
       have NB239_230 := Aside0.mk (nc_ hg (bk_ BK230.out))
       replace BK230 := Aside0.mk (blk_below (bk_ BK230.out) hb)
       have NB231_239 := Aside0.mk (nb_ hg (bk_ BK231.out))
       have NB239_231 := Aside0.mk (nc_ hg (bk_ BK231.out))
       replace BK231 := Aside0.mk (blk_below (bk_ BK231.out) hb)
       have NB238_239 := Aside0.mk (nb_ hg (bk_ BK238.out))
       have NB239_238 := Aside0.mk (nc_ hg (bk_ BK238.out))
       replace BK238 := Aside0.mk (blk_below (bk_ BK238.out) hb)
       clear hb hbox hg
       refine hK.out _ _ ⟨(blk_cell BK231.out 0).trans rfl, (blk_cell BK231.out 1).trans rfl, (blk_cell BK231.out 2).trans rfl, (blk_cell BK231.out 3).trans rfl⟩ (fun hHeld => ?_)
       clear hK K
       refine norm_ (a' := ?_) ?_ ?_
       rotate_left
       ·show Act.put _ (some 6) _ = _
        simp only [Act.put, List.setIfInBounds_toArray, List.set_cons_zero, List.set_cons_succ, i64_w, i32_w]
        rfl
       exact norm_ (by simp only [putAll, Act.put, List.setIfInBounds_toArray, List.set_cons_zero, List.set_cons_succ]) (hCont (gb238, gb239) _ ⟨hHeld, (by (with_reducible repeat (first | apply Kd.V_alloc | apply Kd.V_drewN | apply Kd.V_drew)); exact Kd.V_mono HO_232000.out (fun _ hk => ⟨hk.1.1.1, ⟨hk.1.1.2.1, ⟨hk.1.1.2.2, ⟨hk.1.2, hk.2⟩⟩⟩⟩)), (by (with_reducible repeat (first | apply Kd.V_alloc | apply Kd.V_drewN | apply Kd.V_drew)); exact Kd.V_mono HO_232001.out (fun _ hk => ⟨hk.1.1.1, ⟨hk.1.1.2.1, ⟨hk.1.1.2.2, ⟨hk.1.2, hk.2⟩⟩⟩⟩)), (by (with_reducible repeat (first | apply Kd.V_alloc | apply Kd.V_drewN | apply Kd.V_drew)); exact Kd.V_mono HO_232002.out (fun _ hk => ⟨hk.1.1.1, ⟨hk.1.1.2.1, ⟨hk.1.1.2.2, ⟨hk.1.2, hk.2⟩⟩⟩⟩)), (by (with_reducible repeat (first | apply Kd.V_alloc | apply Kd.V_drewN | apply Kd.V_drew)); exact Kd.V_mono HO_232003.out (fun _ hk => ⟨hk.1.1.1, ⟨hk.1.1.2.1, ⟨hk.1.1.2.2, ⟨hk.1.2, hk.2⟩⟩⟩⟩)), (bk_ BK230.out), (bk_ BK231.out), (bk_ BK238.out), (bk_ BK239.out), GW238.out, GE238.out, NB230_238.out, NB238_230.out, NB231_238.out, NB238_231.out, NB239_238.out, NB238_239.out, GW239.out, GE239.out, NB230_239.out, NB239_230.out, NB231_239.out, NB239_231.out, (mbs_ HB.out)⟩)
      ·skip
       refine box_step ?hg (N := 6) ?hd (cs := #[.slice none 0 0, .slice none 0 0]) (t := 27) ?hr ?_; (case hd => rfl); (case hg => rfl); (case hr => first | (go_simp; done) | (go_simp; rfl))
       intro gb239 hg w78 hbox hb
       replace HO_232000 := Aside0.mk (Kd.V_below (Kd.V_elderB (mv_ HO_232000.out) gb239 (Nat.le_of_eq hg.symm)) hb)
       replace HO_232001 := Aside0.mk (Kd.V_below (Kd.V_elderB (mv_ HO_232001.out) gb239 (Nat.le_of_eq hg.symm)) hb)
       replace HO_232002 := Aside0.mk (Kd.V_below (Kd.V_elderB (mv_ HO_232002.out) gb239 (Nat.le_of_eq hg.symm)) hb)
       replace HO_232003 := Aside0.mk (Kd.V_below (Kd.V_elderB (mv_ HO_232003.out) gb239 (Nat.le_of_eq hg.symm)) hb)
       have BK239 := Aside0.mk (hbox)
       have GW239 := Aside0.mk (gw_ hg (mbs_ HB.out))
       have GE239 := Aside0.mk (gw_ hg (mbs_ HB.out))
       replace HB := Aside0.mk (below_step (mbs_ HB.out) hb)
       have NB230_239 := Aside0.mk (nb_ hg (bk_ BK230.out))
       have NB239_230 := Aside0.mk (nc_ hg (bk_ BK230.out))
       replace BK230 := Aside0.mk (blk_below (bk_ BK230.out) hb)
       have NB231_239 := Aside0.mk (nb_ hg (bk_ BK231.out))
       have NB239_231 := Aside0.mk (nc_ hg (bk_ BK231.out))
       replace BK231 := Aside0.mk (blk_below (bk_ BK231.out) hb)
       clear hb hbox hg
       refine hK.out _ _ ⟨(blk_cell BK231.out 0).trans rfl, (blk_cell BK231.out 1).trans rfl, (blk_cell BK231.out 2).trans rfl, (blk_cell BK231.out 3).trans rfl⟩ (fun hHeld => ?_)
       clear hK K
       refine norm_ (a' := ?_) ?_ ?_
       rotate_left
       ·show Act.put _ (some 6) _ = _
        simp only [Act.put, List.setIfInBounds_toArray, List.set_cons_zero, List.set_cons_succ, i64_w, i32_w]
        rfl
       refine one_ (i := 4) (N := some 5) #[true, true, true, true, true, true, false, false] rfl rfl (one_of HT_.out (by kernel_rfl)) (by decide) (fun K hK => ?_)
       refine box_step ?hg (N := 5) ?hd (cs := #[.slice none 0 0, .slice none 0 0]) (t := 25) ?hr ?_; (case hd => rfl); (case hg => rfl); (case hr => first | (go_simp; done) | (go_simp; rfl))
       intro gb238 hg w79 hbox hb
       replace HO_232000 := Aside0.mk (Kd.V_below (Kd.V_elderB (mv_ HO_232000.out) gb238 (Nat.le_of_eq hg.symm)) hb)
       replace HO_232001 := Aside0.mk (Kd.V_below (Kd.V_elderB (mv_ HO_232001.out) gb238 (Nat.le_of_eq hg.symm)) hb)
       replace HO_232002 := Aside0.mk (Kd.V_below (Kd.V_elderB (mv_ HO_232002.out) gb238 (Nat.le_of_eq hg.symm)) hb)
       replace HO_232003 := Aside0.mk (Kd.V_below (Kd.V_elderB (mv_ HO_232003.out) gb238 (Nat.le_of_eq hg.symm)) hb)
       have BK238 := Aside0.mk (hbox)
       have GW238 := Aside0.mk (gw_ hg (mbs_ HB.out))
       have GE238 := Aside0.mk (gw_ hg (mbs_ HB.out))
       replace HB := Aside0.mk (below_step (mbs_ HB.out) hb)
       have NB230_238 := Aside0.mk (nb_ hg (bk_ BK230.out))
       have NB238_230 := Aside0.mk (nc_ hg (bk_ BK230.out))
       replace BK230 := Aside0.mk (blk_below (bk_ BK230.out) hb)
       have NB231_238 := Aside0.mk (nb_ hg (bk_ BK231.out))
       have NB238_231 := Aside0.mk (nc_ hg (bk_ BK231.out))
       replace BK231 := Aside0.mk (blk_below (bk_ BK231.out) hb)
       have NB239_238 := Aside0.mk (nb_ hg (bk_ BK239.out))
       have NB238_239 := Aside0.mk (nc_ hg (bk_ BK239.out))
       replace BK239 := Aside0.mk (blk_below (bk_ BK239.out) hb)
       clear hb hbox hg
       refine hK.out _ _ ⟨(blk_cell BK231.out 0).trans rfl, (blk_cell BK231.out 1).trans rfl, (blk_cell BK231.out 2).trans rfl, (blk_cell BK231.out 3).trans rfl⟩ (fun hHeld => ?_)
       clear hK K
       refine norm_ (a' := ?_) ?_ ?_
       rotate_left
       ·show Act.put _ (some 5) _ = _
        simp only [Act.put, List.setIfInBounds_toArray, List.set_cons_zero, List.set_cons_succ, i64_w, i32_w]
        rfl
       exact norm_ (by simp only [putAll, Act.put, List.setIfInBounds_toArray, List.set_cons_zero, List.set_cons_succ]) (hCont (gb238, gb239) _ ⟨hHeld, (by (with_reducible repeat (first | apply Kd.V_alloc | apply Kd.V_drewN | apply Kd.V_drew)); exact Kd.V_mono HO_232000.out (fun _ hk => ⟨hk.1.1.1, ⟨hk.1.1.2.1, ⟨hk.1.1.2.2, ⟨hk.2, hk.1.2⟩⟩⟩⟩)), (by (with_reducible repeat (first | apply Kd.V_alloc | apply Kd.V_drewN | apply Kd.V_drew)); exact Kd.V_mono HO_232001.out (fun _ hk => ⟨hk.1.1.1, ⟨hk.1.1.2.1, ⟨hk.1.1.2.2, ⟨hk.2, hk.1.2⟩⟩⟩⟩)), (by (with_reducible repeat (first | apply Kd.V_alloc | apply Kd.V_drewN | apply Kd.V_drew)); exact Kd.V_mono HO_232002.out (fun _ hk => ⟨hk.1.1.1, ⟨hk.1.1.2.1, ⟨hk.1.1.2.2, ⟨hk.2, hk.1.2⟩⟩⟩⟩)), (by (with_reducible repeat (first | apply Kd.V_alloc | apply Kd.V_drewN | apply Kd.V_drew)); exact Kd.V_mono HO_232003.out (fun _ hk => ⟨hk.1.1.1, ⟨hk.1.1.2.1, ⟨hk.1.1.2.2, ⟨hk.2, hk.1.2⟩⟩⟩⟩)), (bk_ BK230.out), (bk_ BK231.out), (bk_ BK238.out), (bk_ BK239.out), GW238.out, GE238.out, NB230_238.out, NB238_230.out, NB231_238.out, NB238_231.out, NB239_238.out, NB238_239.out, GW239.out, GE239.out, NB230_239.out, NB239_230.out, NB231_239.out, NB239_231.out, (mbs_ HB.out)⟩)
     rintro ⟨gb238, gb239⟩ w80 ⟨hS_, h0_, h1_, h2_, h3_, h4_, h5_, h6_, h7_, h8_, h9_, h10_, h11_, h12_, h13_, h14_, h15_, h16_, h17_, h18_, h19_, h20_, h21_, h22_⟩
     replace HO_232000 : Aside0 (Kd.V (Kd.int .i64) 3 w80 w.heap.size (fun k_ => ((P1_0_ k_ ∨ P1_1_ k_ ∨ P1_2_ k_ ∨ P1_3_ k_) ∨ w.heap.size ≤ k_) ∧ k_ ≠ gb230 ∧ k_ ≠ gb231 ∧ k_ ≠ gb238 ∧ k_ ≠ gb239) (.slice A1_0 l1_0.length c1_0) l1_0) := ⟨h0_⟩
     replace HO_232001 : Aside0 (Kd.V k65 65 w80 w.heap.size (fun k_ => ((P1_0_ k_ ∨ P1_1_ k_ ∨ P1_2_ k_ ∨ P1_3_ k_) ∨ w.heap.size ≤ k_) ∧ k_ ≠ gb230 ∧ k_ ≠ gb231 ∧ k_ ≠ gb238 ∧ k_ ≠ gb239) (.slice A1_1 l1_1.length c1_1) l1_1) := ⟨h1_⟩
     replace HO_232002 : Aside0 (Kd.V (Kd.int .i64) 3 w80 w.heap.size (fun k_ => ((P1_0_ k_ ∨ P1_1_ k_ ∨ P1_2_ k_ ∨ P1_3_ k_) ∨ w.heap.size ≤ k_) ∧ k_ ≠ gb230 ∧ k_ ≠ gb231 ∧ k_ ≠ gb238 ∧ k_ ≠ gb239) (.slice A1_2 l1_2.length c1_2) l1_2) := ⟨h2_⟩
     replace HO_232003 : Aside0 (Kd.V (Kd.int .i64) 3 w80 w.heap.size (fun k_ => ((P1_0_ k_ ∨ P1_1_ k_ ∨ P1_2_ k_ ∨ P1_3_ k_) ∨ w.heap.size ≤ k_) ∧ k_ ≠ gb230 ∧ k_ ≠ gb231 ∧ k_ ≠ gb238 ∧ k_ ≠ gb239) (.slice A1_3 l1_3.length c1_3) l1_3) := ⟨h3_⟩
     replace BK230 : Aside0 (w80.heap[gb230]? = some (.cells #[.slice A0_0 l0_0.length c0_0, .slice A0_1 l0_1.length c0_1] 25 (0, 0))) := ⟨h4_⟩
     replace BK231 : Aside0 (w80.heap[gb231]? = some (.cells #[.slice A1_0 l1_0.length c1_0, .slice A1_1 l1_1.length c1_1, .slice A1_2 l1_2.length c1_2, .slice A1_3 l1_3.length c1_3] 29 (0, 0))) := ⟨h5_⟩
     have BK238 : Aside0 (w80.heap[gb238]? = some (.cells #[.slice none 0 0, .slice none 0 0] 25 (0, 0))) := ⟨h6_⟩
     have BK239 : Aside0 (w80.heap[gb239]? = some (.cells #[.slice none 0 0, .slice none 0 0] 27 (0, 0))) := ⟨h7_⟩
     have GW238 : Aside0 (w.heap.size ≤ gb238) := ⟨h8_⟩
     have GE238 : Aside0 (w.heap.size ≤ gb238) := ⟨h9_⟩
     have NB230_238 : Aside0 (gb230 ≠ gb238) := ⟨h10_⟩
     have NB238_230 : Aside0 (gb238 ≠ gb230) := ⟨h11_⟩
     have NB231_238 : Aside0 (gb231 ≠ gb238) := ⟨h12_⟩
     have NB238_231 : Aside0 (gb238 ≠ gb231) := ⟨h13_⟩
     have NB239_238 : Aside0 (gb239 ≠ gb238) := ⟨h14_⟩
     have NB238_239 : Aside0 (gb238 ≠ gb239) := ⟨h15_⟩
     have GW239 : Aside0 (w.heap.size ≤ gb239) := ⟨h16_⟩
     have GE239 : Aside0 (w.heap.size ≤ gb239) := ⟨h17_⟩
     have NB230_239 : Aside0 (gb230 ≠ gb239) := ⟨h18_⟩
     have NB239_230 : Aside0 (gb239 ≠ gb230) := ⟨h19_⟩
     have NB231_239 : Aside0 (gb231 ≠ gb239) := ⟨h20_⟩
     have NB239_231 : Aside0 (gb239 ≠ gb231) := ⟨h21_⟩
     replace HB : Aside0 (Below w.heap.size w w80) := ⟨h22_⟩
     clear h0_ h1_ h2_ h3_ h4_ h5_ h6_ h7_ h8_ h9_ h10_ h11_ h12_ h13_ h14_ h15_ h16_ h17_ h18_ h19_ h20_ h21_ h22_
     have hHeld : w80.cell? ⟨gb231, 0, none⟩ = some (.slice A1_0 l1_0.length c1_0) ∧ w80.cell? ⟨gb231, 1, none⟩ = some (.slice A1_1 l1_1.length c1_1) ∧ w80.cell? ⟨gb231, 2, none⟩ = some (.slice A1_2 l1_2.length c1_2) ∧ w80.cell? ⟨gb231, 3, none⟩ = some (.slice A1_3 l1_3.length c1_3) := hS_
     refine norm_ (a' := ?_) ?_ ?_
     rotate_left
     ·simp only [putAll, Act.put, List.setIfInBounds_toArray, List.set_cons_zero, List.set_cons_succ]
      rfl
     refine one_ (i := 6) (N := none) #[true, true, true, true, true, true, true, false] rfl rfl (one_of HT_.out (by kernel_rfl)) (by decide) (fun K hK => ?_)
     have hs81 : w80.cell? ⟨gb238, 0, none⟩ = some (.slice none 0 0) := (blk_cell BK238.out 0).trans rfl
     have hfs81 := blk_frozen BK238.out 0
     have hns81_0 := NB230_238.out
     have hns81_1 := NB231_238.out
     have hns81_3 := NB239_238.out
     have hms81_0 := NB238_230.out
     have hms81_1 := NB238_231.out
     have hms81_3 := NB238_239.out
     have hs82 : w80.cell? ⟨gb238, 1, none⟩ = some (.slice none 0 0) := (blk_cell BK238.out 1).trans rfl
     have hfs82 := blk_frozen BK238.out 1
     have hns82_0 := NB230_238.out
     have hns82_1 := NB231_238.out
     have hns82_3 := NB239_238.out
     have hms82_0 := NB238_230.out
     have hms82_1 := NB238_231.out
     have hms82_3 := NB238_239.out
     refine skip_ (w1 := ?_) (by rfl) rfl ?_ ?_
     rotate_left
     ·go_simp
      rfl
     refine hK.out _ _ ⟨((cell_far (p := ⟨gb238, _, none⟩) NB231_238.out _).trans (((cell_far (p := ⟨gb238, _, none⟩) NB231_238.out _).trans (hHeld.1)))), ((cell_far (p := ⟨gb238, _, none⟩) NB231_238.out _).trans (((cell_far (p := ⟨gb238, _, none⟩) NB231_238.out _).trans (hHeld.2.1)))), ((cell_far (p := ⟨gb238, _, none⟩) NB231_238.out _).trans (((cell_far (p := ⟨gb238, _, none⟩) NB231_238.out _).trans (hHeld.2.2.1)))), ((cell_far (p := ⟨gb238, _, none⟩) NB231_238.out _).trans (((cell_far (p := ⟨gb238, _, none⟩) NB231_238.out _).trans (hHeld.2.2.2))))⟩ (fun hHeld => ?_)
     clear hK K
     refine one_ (i := 7) (N := none) #[true, true, true, true, true, true, true, true] rfl rfl (one_of HT_.out (by kernel_rfl)) (by decide) (fun K hK => ?_)
     have hs83 : w80.cell? ⟨gb239, 0, none⟩ = some (.slice none 0 0) := (blk_cell BK239.out 0).trans rfl
     have hfs83 := blk_frozen BK239.out 0
     have hns83_0 := NB230_239.out
     have hns83_1 := NB231_239.out
     have hns83_2 := NB238_239.out
     have hms83_0 := NB239_230.out
     have hms83_1 := NB239_231.out
     have hms83_2 := NB239_238.out
     have hs84 : w80.cell? ⟨gb239, 1, none⟩ = some (.slice none 0 0) := (blk_cell BK239.out 1).trans rfl
     have hfs84 := blk_frozen BK239.out 1
     have hns84_0 := NB230_239.out
     have hns84_1 := NB231_239.out
     have hns84_2 := NB238_239.out
     have hms84_0 := NB239_230.out
     have hms84_1 := NB239_231.out
     have hms84_2 := NB239_238.out
     refine skip_ (w1 := ?_) (by rfl) rfl ?_ ?_
     rotate_left
     ·go_simp
      rfl
     refine hK.out _ _ ⟨((cell_far (p := ⟨gb239, _, none⟩) NB231_239.out _).trans (((cell_far (p := ⟨gb239, _, none⟩) NB231_239.out _).trans (hHeld.1)))), ((cell_far (p := ⟨gb239, _, none⟩) NB231_239.out _).trans (((cell_far (p := ⟨gb239, _, none⟩) NB231_239.out _).trans (hHeld.2.1)))), ((cell_far (p := ⟨gb239, _, none⟩) NB231_239.out _).trans (((cell_far (p := ⟨gb239, _, none⟩) NB231_239.out _).trans (hHeld.2.2.1)))), ((cell_far (p := ⟨gb239, _, none⟩) NB231_239.out _).trans (((cell_far (p := ⟨gb239, _, none⟩) NB231_239.out _).trans (hHeld.2.2.2))))⟩ (fun hHeld => ?_)
     clear hK K
     refine done_ (done_of HT_.out (by kernel_rfl)) ?_
     as_aux_lemma =>
     try go_wp2
     have n0_ : Aside0 (Kd.V (Kd.int .i64) 3 ((((w80.setCell ⟨gb238, 0, none⟩ (.slice A1_0 l1_0.length c1_0)).setCell ⟨gb238, 1, none⟩ (.slice A1_1 l1_1.length c1_1)).setCell ⟨gb239, 0, none⟩ (.slice A1_2 l1_2.length c1_2)).setCell ⟨gb239, 1, none⟩ (.slice A1_3 l1_3.length c1_3)) w.heap.size (fun k_ => ((P1_0_ k_ ∨ P1_1_ k_ ∨ P1_2_ k_ ∨ P1_3_ k_) ∨ w.heap.size ≤ k_) ∧ k_ ≠ gb230 ∧ k_ ≠ gb231 ∧ k_ ≠ gb238 ∧ k_ ≠ gb239) (.slice A1_0 l1_0.length c1_0) l1_0) := ⟨by (with_reducible repeat (first | apply Kd.V_alloc | apply Kd.V_drewN | apply Kd.V_drew)); exact Kd.V_mono (Kd.V_far (p := ⟨gb239, 1, none⟩) (Kd.V_far (p := ⟨gb239, 0, none⟩) (Kd.V_far (p := ⟨gb238, 1, none⟩) (Kd.V_far (p := ⟨gb238, 0, none⟩) (Kd.V_mono (Kd.V_mono HO_232000.out (fun k_ hk => (⟨hk, hk.2.2.2.1⟩ : _ ∧ k_ ≠ gb238))) (fun k_ hk => (⟨hk, hk.1.2.2.2.2⟩ : _ ∧ k_ ≠ gb239))) (fun _ hk => hk.1.2) (.slice A1_0 l1_0.length c1_0)) (fun _ hk => hk.1.2) (.slice A1_1 l1_1.length c1_1)) (fun _ hk => hk.2) (.slice A1_2 l1_2.length c1_2)) (fun _ hk => hk.2) (.slice A1_3 l1_3.length c1_3)) (fun _ hk => ⟨hk.1.1.1, ⟨hk.1.1.2.1, ⟨hk.1.1.2.2.1, ⟨hk.1.1.2.2.2.1, hk.1.1.2.2.2.2⟩⟩⟩⟩)⟩
     have n1_ : Aside0 (Kd.V k65 65 ((((w80.setCell ⟨gb238, 0, none⟩ (.slice A1_0 l1_0.length c1_0)).setCell ⟨gb238, 1, none⟩ (.slice A1_1 l1_1.length c1_1)).setCell ⟨gb239, 0, none⟩ (.slice A1_2 l1_2.length c1_2)).setCell ⟨gb239, 1, none⟩ (.slice A1_3 l1_3.length c1_3)) w.heap.size (fun k_ => ((P1_0_ k_ ∨ P1_1_ k_ ∨ P1_2_ k_ ∨ P1_3_ k_) ∨ w.heap.size ≤ k_) ∧ k_ ≠ gb230 ∧ k_ ≠ gb231 ∧ k_ ≠ gb238 ∧ k_ ≠ gb239) (.slice A1_1 l1_1.length c1_1) l1_1) := ⟨by (with_reducible repeat (first | apply Kd.V_alloc | apply Kd.V_drewN | apply Kd.V_drew)); exact Kd.V_mono (Kd.V_far (p := ⟨gb239, 1, none⟩) (Kd.V_far (p := ⟨gb239, 0, none⟩) (Kd.V_far (p := ⟨gb238, 1, none⟩) (Kd.V_far (p := ⟨gb238, 0, none⟩) (Kd.V_mono (Kd.V_mono HO_232001.out (fun k_ hk => (⟨hk, hk.2.2.2.1⟩ : _ ∧ k_ ≠ gb238))) (fun k_ hk => (⟨hk, hk.1.2.2.2.2⟩ : _ ∧ k_ ≠ gb239))) (fun _ hk => hk.1.2) (.slice A1_0 l1_0.length c1_0)) (fun _ hk => hk.1.2) (.slice A1_1 l1_1.length c1_1)) (fun _ hk => hk.2) (.slice A1_2 l1_2.length c1_2)) (fun _ hk => hk.2) (.slice A1_3 l1_3.length c1_3)) (fun _ hk => ⟨hk.1.1.1, ⟨hk.1.1.2.1, ⟨hk.1.1.2.2.1, ⟨hk.1.1.2.2.2.1, hk.1.1.2.2.2.2⟩⟩⟩⟩)⟩
     have n2_ : Aside0 (Kd.V (Kd.int .i64) 3 ((((w80.setCell ⟨gb238, 0, none⟩ (.slice A1_0 l1_0.length c1_0)).setCell ⟨gb238, 1, none⟩ (.slice A1_1 l1_1.length c1_1)).setCell ⟨gb239, 0, none⟩ (.slice A1_2 l1_2.length c1_2)).setCell ⟨gb239, 1, none⟩ (.slice A1_3 l1_3.length c1_3)) w.heap.size (fun k_ => ((P1_0_ k_ ∨ P1_1_ k_ ∨ P1_2_ k_ ∨ P1_3_ k_) ∨ w.heap.size ≤ k_) ∧ k_ ≠ gb230 ∧ k_ ≠ gb231 ∧ k_ ≠ gb238 ∧ k_ ≠ gb239) (.slice A1_2 l1_2.length c1_2) l1_2) := ⟨by (with_reducible repeat (first | apply Kd.V_alloc | apply Kd.V_drewN | apply Kd.V_drew)); exact Kd.V_mono (Kd.V_far (p := ⟨gb239, 1, none⟩) (Kd.V_far (p := ⟨gb239, 0, none⟩) (Kd.V_far (p := ⟨gb238, 1, none⟩) (Kd.V_far (p := ⟨gb238, 0, none⟩) (Kd.V_mono (Kd.V_mono HO_232002.out (fun k_ hk => (⟨hk, hk.2.2.2.1⟩ : _ ∧ k_ ≠ gb238))) (fun k_ hk => (⟨hk, hk.1.2.2.2.2⟩ : _ ∧ k_ ≠ gb239))) (fun _ hk => hk.1.2) (.slice A1_0 l1_0.length c1_0)) (fun _ hk => hk.1.2) (.slice A1_1 l1_1.length c1_1)) (fun _ hk => hk.2) (.slice A1_2 l1_2.length c1_2)) (fun _ hk => hk.2) (.slice A1_3 l1_3.length c1_3)) (fun _ hk => ⟨hk.1.1.1, ⟨hk.1.1.2.1, ⟨hk.1.1.2.2.1, ⟨hk.1.1.2.2.2.1, hk.1.1.2.2.2.2⟩⟩⟩⟩)⟩
     have n3_ : Aside0 (Kd.V (Kd.int .i64) 3 ((((w80.setCell ⟨gb238, 0, none⟩ (.slice A1_0 l1_0.length c1_0)).setCell ⟨gb238, 1, none⟩ (.slice A1_1 l1_1.length c1_1)).setCell ⟨gb239, 0, none⟩ (.slice A1_2 l1_2.length c1_2)).setCell ⟨gb239, 1, none⟩ (.slice A1_3 l1_3.length c1_3)) w.heap.size (fun k_ => ((P1_0_ k_ ∨ P1_1_ k_ ∨ P1_2_ k_ ∨ P1_3_ k_) ∨ w.heap.size ≤ k_) ∧ k_ ≠ gb230 ∧ k_ ≠ gb231 ∧ k_ ≠ gb238 ∧ k_ ≠ gb239) (.slice A1_3 l1_3.length c1_3) l1_3) := ⟨by (with_reducible repeat (first | apply Kd.V_alloc | apply Kd.V_drewN | apply Kd.V_drew)); exact Kd.V_mono (Kd.V_far (p := ⟨gb239, 1, none⟩) (Kd.V_far (p := ⟨gb239, 0, none⟩) (Kd.V_far (p := ⟨gb238, 1, none⟩) (Kd.V_far (p := ⟨gb238, 0, none⟩) (Kd.V_mono (Kd.V_mono HO_232003.out (fun k_ hk => (⟨hk, hk.2.2.2.1⟩ : _ ∧ k_ ≠ gb238))) (fun k_ hk => (⟨hk, hk.1.2.2.2.2⟩ : _ ∧ k_ ≠ gb239))) (fun _ hk => hk.1.2) (.slice A1_0 l1_0.length c1_0)) (fun _ hk => hk.1.2) (.slice A1_1 l1_1.length c1_1)) (fun _ hk => hk.2) (.slice A1_2 l1_2.length c1_2)) (fun _ hk => hk.2) (.slice A1_3 l1_3.length c1_3)) (fun _ hk => ⟨hk.1.1.1, ⟨hk.1.1.2.1, ⟨hk.1.1.2.2.1, ⟨hk.1.1.2.2.2.1, hk.1.1.2.2.2.2⟩⟩⟩⟩)⟩
     have n4_ : Aside0 (((((w80.setCell ⟨gb238, 0, none⟩ (.slice A1_0 l1_0.length c1_0)).setCell ⟨gb238, 1, none⟩ (.slice A1_1 l1_1.length c1_1)).setCell ⟨gb239, 0, none⟩ (.slice A1_2 l1_2.length c1_2)).setCell ⟨gb239, 1, none⟩ (.slice A1_3 l1_3.length c1_3)).heap[gb230]? = some (.cells #[.slice A0_0 l0_0.length c0_0, .slice A0_1 l0_1.length c0_1] 25 (0, 0))) := ⟨by (with_reducible repeat (first | refine blk_drewN ?_ _ | refine blk_drew ?_ | refine blk_alloc ?_ _)); refine blk_far ?_ NB230_239.out _; (with_reducible repeat (first | refine blk_drewN ?_ _ | refine blk_drew ?_ | refine blk_alloc ?_ _)); refine blk_far ?_ NB230_239.out _; (with_reducible repeat (first | refine blk_drewN ?_ _ | refine blk_drew ?_ | refine blk_alloc ?_ _)); refine blk_far ?_ NB230_238.out _; (with_reducible repeat (first | refine blk_drewN ?_ _ | refine blk_drew ?_ | refine blk_alloc ?_ _)); refine blk_far ?_ NB230_238.out _; (with_reducible repeat (first | refine blk_drewN ?_ _ | refine blk_drew ?_ | refine blk_alloc ?_ _)); exact BK230.out⟩
     have n5_ : Aside0 (((((w80.setCell ⟨gb238, 0, none⟩ (.slice A1_0 l1_0.length c1_0)).setCell ⟨gb238, 1, none⟩ (.slice A1_1 l1_1.length c1_1)).setCell ⟨gb239, 0, none⟩ (.slice A1_2 l1_2.length c1_2)).setCell ⟨gb239, 1, none⟩ (.slice A1_3 l1_3.length c1_3)).heap[gb231]? = some (.cells #[.slice A1_0 l1_0.length c1_0, .slice A1_1 l1_1.length c1_1, .slice A1_2 l1_2.length c1_2, .slice A1_3 l1_3.length c1_3] 29 (0, 0))) := ⟨by (with_reducible repeat (first | refine blk_drewN ?_ _ | refine blk_drew ?_ | refine blk_alloc ?_ _)); refine blk_far ?_ NB231_239.out _; (with_reducible repeat (first | refine blk_drewN ?_ _ | refine blk_drew ?_ | refine blk_alloc ?_ _)); refine blk_far ?_ NB231_239.out _; (with_reducible repeat (first | refine blk_drewN ?_ _ | refine blk_drew ?_ | refine blk_alloc ?_ _)); refine blk_far ?_ NB231_238.out _; (with_reducible repeat (first | refine blk_drewN ?_ _ | refine blk_drew ?_ | refine blk_alloc ?_ _)); refine blk_far ?_ NB231_238.out _; (with_reducible repeat (first | refine blk_drewN ?_ _ | refine blk_drew ?_ | refine blk_alloc ?_ _)); exact BK231.out⟩
     have n6_ : Aside0 (((((w80.setCell ⟨gb238, 0, none⟩ (.slice A1_0 l1_0.length c1_0)).setCell ⟨gb238, 1, none⟩ (.slice A1_1 l1_1.length c1_1)).setCell ⟨gb239, 0, none⟩ (.slice A1_2 l1_2.length c1_2)).setCell ⟨gb239, 1, none⟩ (.slice A1_3 l1_3.length c1_3)).heap[gb238]? = some (.cells #[.slice A1_0 l1_0.length c1_0, .slice A1_1 l1_1.length c1_1] 25 (0, 0))) := ⟨by (with_reducible repeat (first | refine blk_drewN ?_ _ | refine blk_drew ?_ | refine blk_alloc ?_ _)); refine blk_far ?_ NB238_239.out _; (with_reducible repeat (first | refine blk_drewN ?_ _ | refine blk_drew ?_ | refine blk_alloc ?_ _)); refine blk_far ?_ NB238_239.out _; (with_reducible repeat (first | refine blk_drewN ?_ _ | refine blk_drew ?_ | refine blk_alloc ?_ _)); refine blk_put (cs := #[.slice A1_0 l1_0.length c1_0, .slice none 0 0]) ?_ 1 _ rfl; (with_reducible repeat (first | refine blk_drewN ?_ _ | refine blk_drew ?_ | refine blk_alloc ?_ _)); refine blk_put (cs := #[.slice none 0 0, .slice none 0 0]) ?_ 0 _ rfl; (with_reducible repeat (first | refine blk_drewN ?_ _ | refine blk_drew ?_ | refine blk_alloc ?_ _)); exact BK238.out⟩
     have n7_ : Aside0 (((((w80.setCell ⟨gb238, 0, none⟩ (.slice A1_0 l1_0.length c1_0)).setCell ⟨gb238, 1, none⟩ (.slice A1_1 l1_1.length c1_1)).setCell ⟨gb239, 0, none⟩ (.slice A1_2 l1_2.length c1_2)).setCell ⟨gb239, 1, none⟩ (.slice A1_3 l1_3.length c1_3)).heap[gb239]? = some (.cells #[.slice A1_2 l1_2.length c1_2, .slice A1_3 l1_3.length c1_3] 27 (0, 0))) := ⟨by (with_reducible repeat (first | refine blk_drewN ?_ _ | refine blk_drew ?_ | refine blk_alloc ?_ _)); refine blk_put (cs := #[.slice A1_2 l1_2.length c1_2, .slice none 0 0]) ?_ 1 _ rfl; (with_reducible repeat (first | refine blk_drewN ?_ _ | refine blk_drew ?_ | refine blk_alloc ?_ _)); refine blk_put (cs := #[.slice none 0 0, .slice none 0 0]) ?_ 0 _ rfl; (with_reducible repeat (first | refine blk_drewN ?_ _ | refine blk_drew ?_ | refine blk_alloc ?_ _)); refine blk_far ?_ NB239_238.out _; (with_reducible repeat (first | refine blk_drewN ?_ _ | refine blk_drew ?_ | refine blk_alloc ?_ _)); refine blk_far ?_ NB239_238.out _; (with_reducible repeat (first | refine blk_drewN ?_ _ | refine blk_drew ?_ | refine blk_alloc ?_ _)); exact BK239.out⟩
     have n8_ : Aside0 (Below w.heap.size w ((((w80.setCell ⟨gb238, 0, none⟩ (.slice A1_0 l1_0.length c1_0)).setCell ⟨gb238, 1, none⟩ (.slice A1_1 l1_1.length c1_1)).setCell ⟨gb239, 0, none⟩ (.slice A1_2 l1_2.length c1_2)).setCell ⟨gb239, 1, none⟩ (.slice A1_3 l1_3.length c1_3))) := ⟨mbs_ HB.out⟩
     (try clear HO_232000)
     (try clear HO_232001)
     (try clear HO_232002)
     (try clear HO_232003)
     (try clear BK230)
     (try clear BK231)
     (try clear BK238)
     (try clear BK239)
     (try clear HB)
     generalize ((((w80.setCell ⟨gb238, 0, none⟩ (.slice A1_0 l1_0.length c1_0)).setCell ⟨gb238, 1, none⟩ (.slice A1_1 l1_1.length c1_1)).setCell ⟨gb239, 0, none⟩ (.slice A1_2 l1_2.length c1_2)).setCell ⟨gb239, 1, none⟩ (.slice A1_3 l1_3.length c1_3)) = w85 at n0_ n1_ n2_ n3_ n4_ n5_ n6_ n7_ n8_ ⊢
     have HO_232000 := n0_
     have HO_232001 := n1_
     have HO_232002 := n2_
     have HO_232003 := n3_
     have BK230 := n4_
     have BK231 := n5_
     have BK238 := n6_
     have BK239 := n7_
     have HB := n8_
     clear n0_ n1_ n2_ n3_ n4_ n5_ n6_ n7_ n8_
     replace HO_232000 := Aside0.mk (Kd.V_drew HO_232000.out)
     replace HO_232001 := Aside0.mk (Kd.V_drew HO_232001.out)
     replace HO_232002 := Aside0.mk (Kd.V_drew HO_232002.out)
     replace HO_232003 := Aside0.mk (Kd.V_drew HO_232003.out)
     replace BK230 := Aside0.mk (blk_drew BK230.out)
     replace BK231 := Aside0.mk (blk_drew BK231.out)
     replace BK238 := Aside0.mk (blk_drew BK238.out)
     replace BK239 := Aside0.mk (blk_drew BK239.out)
     replace HB := Aside0.mk (below_drew1 HB.out)
     refine start_ (n := 35) (S := fun w' => w'.cell? ⟨gb230, 0, none⟩ = some (.slice A0_0 l0_0.length c0_0) ∧ w'.cell? ⟨gb230, 1, none⟩ = some (.slice A0_1 l0_1.length c0_1) ∧ w'.cell? ⟨gb238, 0, none⟩ = some (.slice A1_0 l1_0.length c1_0) ∧ w'.cell? ⟨gb238, 1, none⟩ = some (.slice A1_1 l1_1.length c1_1) ∧ w'.cell? ⟨gb239, 0, none⟩ = some (.slice A1_2 l1_2.length c1_2) ∧ w'.cell? ⟨gb239, 1, none⟩ = some (.slice A1_3 l1_3.length c1_3)) (ds := []) #[false, false, false, false, false, false, false, false, false, false, false, false, false, false, false, false, false, false, false, false, false, false, false, false, false, false, false, false, false, false, false, false, false, false, false] (by kernel_rfl) rfl rfl ⟨(blk_cell BK230.out 0).trans rfl, (blk_cell BK230.out 1).trans rfl, (blk_cell BK238.out 0).trans rfl, (blk_cell BK238.out 1).trans rfl, (blk_cell BK239.out 0).trans rfl, (blk_cell BK239.out 1).trans rfl⟩ (fun hHeld => ?_); refine with_tabW scarfjointlaw06_MorphismValid.tab4 scarfjointlaw06_MorphismValid.bits4 (fun HT_ HW_ => ?_)
     generalize w85.drew = w86 at HO_232000 HO_232001 HO_232002 HO_232003 BK230 BK231 BK238 BK239 HB hHeld ⊢
     refine take_ (i := 0) (N := some 21) (v := ?_) (a' := ?_) #[true, false, false, false, false, false, false, false, false, false, false, false, false, false, false, false, false, false, false, false, false, false, false, false, false, false, false, false, false, false, false, false, false, false, false] rfl rfl (take_ofW HT_.out HW_.out (by kernel_rfl)) (fun _ _ _ h => h) (Or.inl ⟨by rfl, ?_⟩) hHeld ?_ ?_
     rotate_left
     ·rintro w' ⟨s0, s1, s2, s3, s4, s5⟩
      go_simp
      with_reducible rfl
     rotate_left
     ·simp only [Act.put, List.setIfInBounds_toArray, List.set_cons_zero, List.set_cons_succ, i64_w, i32_w]
      rfl
     refine take_ (i := 1) (N := some 22) (v := ?_) (a' := ?_) #[true, true, false, false, false, false, false, false, false, false, false, false, false, false, false, false, false, false, false, false, false, false, false, false, false, false, false, false, false, false, false, false, false, false, false] rfl rfl (take_ofW HT_.out HW_.out (by kernel_rfl)) (fun _ _ _ h => h) (Or.inl ⟨by rfl, ?_⟩) hHeld ?_ ?_
     rotate_left
     ·rintro w' ⟨s0, s1, s2, s3, s4, s5⟩
      go_simp
      with_reducible rfl
     rotate_left
     ·simp only [Act.put, List.setIfInBounds_toArray, List.set_cons_zero, List.set_cons_succ, i64_w, i32_w]
      rfl
     refine take_ (i := 2) (N := some 23) (v := ?_) (a' := ?_) #[true, true, true, false, false, false, false, false, false, false, false, false, false, false, false, false, false, false, false, false, false, false, false, false, false, false, false, false, false, false, false, false, false, false, false] rfl rfl (take_ofW HT_.out HW_.out (by kernel_rfl)) (fun _ _ _ h => h) (Or.inl ⟨by rfl, ?_⟩) hHeld ?_ ?_
     rotate_left
     ·rintro w' ⟨s0, s1, s2, s3, s4, s5⟩
      go_simp
      with_reducible rfl
     rotate_left
     ·simp only [Act.put, List.setIfInBounds_toArray, List.set_cons_zero, List.set_cons_succ, i64_w, i32_w]
      rfl
     refine take_ (i := 5) (N := some 26) (v := ?_) (a' := ?_) #[true, true, true, false, false, true, false, false, false, false, false, false, false, false, false, false, false, false, false, false, false, false, false, false, false, false, false, false, false, false, false, false, false, false, false] rfl rfl (take_ofW HT_.out HW_.out (by kernel_rfl)) (fun _ _ _ h => h) (Or.inl ⟨by rfl, ?_⟩) hHeld ?_ ?_
     rotate_left
     ·rintro w' ⟨s0, s1, s2, s3, s4, s5⟩
      go_simp
      with_reducible rfl
     rotate_left
     ·simp only [Act.put, List.setIfInBounds_toArray, List.set_cons_zero, List.set_cons_succ, i64_w, i32_w]
      rfl
     refine take_ (i := 6) (N := some 27) (v := ?_) (a' := ?_) #[true, true, true, false, false, true, true, false, false, false, false, false, false, false, false, false, false, false, false, false, false, false, false, false, false, false, false, false, false, false, false, false, false, false, false] rfl rfl (take_ofW HT_.out HW_.out (by kernel_rfl)) (fun _ _ _ h => h) (Or.inl ⟨by rfl, ?_⟩) hHeld ?_ ?_
     rotate_left
     ·rintro w' ⟨s0, s1, s2, s3, s4, s5⟩
      go_simp
      with_reducible rfl
     rotate_left
     ·simp only [Act.put, List.setIfInBounds_toArray, List.set_cons_zero, List.set_cons_succ, i64_w, i32_w]
      rfl
     refine take_ (i := 7) (N := some 28) (v := ?_) (a' := ?_) #[true, true, true, false, false, true, true, true, false, false, false, false, false, false, false, false, false, false, false, false, false, false, false, false, false, false, false, false, false, false, false, false, false, false, false] rfl rfl (take_ofW HT_.out HW_.out (by kernel_rfl)) (fun _ _ _ h => h) (Or.inl ⟨by rfl, ?_⟩) hHeld ?_ ?_
     rotate_left
     ·rintro w' ⟨s0, s1, s2, s3, s4, s5⟩
      go_simp
      with_reducible rfl
     rotate_left
     ·simp only [Act.put, List.setIfInBounds_toArray, List.set_cons_zero, List.set_cons_succ, i64_w, i32_w]
      rfl
     refine one_ (i := 3) (N := some 24) #[true, true, true, true, false, true, true, true, false, false, false, false, false, false, false, false, false, false, false, false, false, false, false, false, false, false, false, false, false, false, false, false, false, false, false] rfl rfl (one_of HT_.out (by kernel_rfl)) (by decide) (fun K hK => ?_)
     refine goes_ Try.func13 (by kernel_rfl) rfl #[.agg #[.slice A1_2 l1_2.length c1_2, .slice A1_3 l1_3.length c1_3]] (by rfl) rfl rfl (by (try simp only [List.map_toArray, List.map_cons, List.map_nil]); first | done | rfl | (simp only [List.length_drop, List.length_take]; rfl)) ?_
     with_reducible refine (scarfjointlaw06_copied.calls _ _ l1_2 _ _ l1_3 t240 t243 _ ?side1 ?side2 ?side3 ?side4 A21.out).mono ?_
     (case side1 => exact mc_ (Kd.V_reads' HO_232002.out).2.2)
     (case side2 => exact (Kd.V_reads' HO_232002.out).2.1)
     (case side3 => exact mc_ (Kd.V_reads' HO_232003.out).2.2)
     (case side4 => exact (Kd.V_reads' HO_232003.out).2.1)
     rintro e w87 ⟨v241, v244, rfl, ho0, ho1, hb⟩
     refine ⟨_, rfl, ?_⟩
     replace HO_232000 := Aside0.mk (Kd.V_mono (Kd.V_told (Kd.V_told (Kd.V_old (mv_ HO_232000.out) hb) (Kd.R_base ho0)) (Kd.R_base ho1)) (fun _ h_ => h_.1))
     replace HO_232001 := Aside0.mk (Kd.V_mono (Kd.V_told (Kd.V_told (Kd.V_old (mv_ HO_232001.out) hb) (Kd.R_base ho0)) (Kd.R_base ho1)) (fun _ h_ => h_.1))
     replace HO_232002 := Aside0.mk (Kd.V_mono (Kd.V_told (Kd.V_told (Kd.V_old (mv_ HO_232002.out) hb) (Kd.R_base ho0)) (Kd.R_base ho1)) (fun _ h_ => h_.1))
     replace HO_232003 := Aside0.mk (Kd.V_mono (Kd.V_told (Kd.V_told (Kd.V_old (mv_ HO_232003.out) hb) (Kd.R_base ho0)) (Kd.R_base ho1)) (fun _ h_ => h_.1))
     have HO242 := Aside0.mk (Kd.R_lower (Kd.R_newM (M := fun k_ => (w.heap.size ≤ k_)) ho0 (below_size (mbs_ HB.out)) (fun k_ h_ => h_)) (below_size (mbs_ HB.out)))
     have HO245 := Aside0.mk (Kd.R_lower (Kd.R_newM (M := fun k_ => (w.heap.size ≤ k_)) ho1 (below_size (mbs_ HB.out)) (fun k_ h_ => h_)) (below_size (mbs_ HB.out)))
     replace BK230 := Aside0.mk (blk_below (bk_ BK230.out) hb)
     replace BK231 := Aside0.mk (blk_below (bk_ BK231.out) hb)
     replace BK238 := Aside0.mk (blk_below (bk_ BK238.out) hb)
     replace BK239 := Aside0.mk (blk_below (bk_ BK239.out) hb)
     replace HB := Aside0.mk (below_step (mbs_ HB.out) hb)
     (try clear hb)
     (try clear hb2)
     (try clear hk)
     (try clear hi)
     (try clear ho0)
     (try clear ho1)
     obtain ⟨Ao88, co88, eo88⟩ := Kd.R_slice HO242.out
     (first | subst eo88 | (injection eo88 with f1_ f2_ f3_; have f4_ := f1_.symm; have f5_ := f3_.symm; clear f1_ f2_ f3_; subst f4_; subst f5_))
     obtain ⟨Ao89, co89, eo89⟩ := Kd.R_slice HO245.out
     (first | subst eo89 | (injection eo89 with f1_ f2_ f3_; have f4_ := f1_.symm; have f5_ := f3_.symm; clear f1_ f2_ f3_; subst f4_; subst f5_))
     refine hK.out _ _ ⟨(blk_cell BK230.out 0).trans rfl, (blk_cell BK230.out 1).trans rfl, (blk_cell BK238.out 0).trans rfl, (blk_cell BK238.out 1).trans rfl, (blk_cell BK239.out 0).trans rfl, (blk_cell BK239.out 1).trans rfl⟩ (fun hHeld => ?_)
     clear hK K
     refine norm_ (a' := ?_) ?_ ?_
     rotate_left
     ·show Act.put _ (some 24) _ = _
      simp only [Act.put, List.setIfInBounds_toArray, List.set_cons_zero, List.set_cons_succ, i64_w, i32_w]
      rfl
     refine one_ (i := 4) (N := some 25) #[true, true, true, true, true, true, true, true, false, false, false, false, false, false, false, false, false, false, false, false, false, false, false, false, false, false, false, false, false, false, false, false, false, false, false] rfl rfl (one_of HT_.out (by kernel_rfl)) (by decide) (fun K hK => ?_)
     refine goes_ Try.func12 (by kernel_rfl) rfl #[.agg #[.slice A0_0 l0_0.length c0_0, .slice A0_1 l0_1.length c0_1], .agg #[.slice A1_0 l1_0.length c1_0, .slice A1_1 l1_1.length c1_1], .agg #[.slice Ao88 t240.length co88, .slice Ao89 t243.length co89]] (by rfl) rfl rfl (by (try simp only [List.map_toArray, List.map_cons, List.map_nil]); first | done | rfl | (simp only [List.length_drop, List.length_take]; rfl)) ?_
     with_reducible refine (morphism_Valid.calls kj2 _ _ l0_0 _ _ l0_1 _ _ l1_0 _ _ l1_1 _ _ t240 _ _ t243 t246 _ ?side1 ?side2 ?side3 ?side4 ?side5 ?side6 ?side7 ?side8 ?side9 ?side10 ?side11 ?side12 A22.out).mono ?_
     (case side1 => exact mc_ (Kd.C_below HR0_0.out HB.out))
     (case side2 => exact HC0_0.out)
     (case side3 => exact mc_ (Kd.C_below HR0_1.out HB.out))
     (case side4 => exact HC0_1.out)
     (case side5 => exact mc_ (Kd.V_reads' HO_232000.out).2.2)
     (case side6 => exact (Kd.V_reads' HO_232000.out).2.1)
     (case side7 => exact mc_ (Kd.V_reads' HO_232001.out).2.2)
     (case side8 => exact (Kd.V_reads' HO_232001.out).2.1)
     (case side9 => exact mc_ (Kd.R_reads' HO242.out).2.2)
     (case side10 => exact (Kd.R_reads' HO242.out).2.1)
     (case side11 => exact mc_ (Kd.R_reads' HO245.out).2.2)
     (case side12 => exact (Kd.R_reads' HO245.out).2.1)
     rintro e w90 ⟨rfl, hb⟩
     refine ⟨_, rfl, ?_⟩
     replace HO_232000 := Aside0.mk (Kd.V_below (mv_ HO_232000.out) hb)
     replace HO_232001 := Aside0.mk (Kd.V_below (mv_ HO_232001.out) hb)
     replace HO_232002 := Aside0.mk (Kd.V_below (mv_ HO_232002.out) hb)
     replace HO_232003 := Aside0.mk (Kd.V_below (mv_ HO_232003.out) hb)
     replace HO242 := Aside0.mk (Kd.R_below (mr_ HO242.out) hb)
     replace HO245 := Aside0.mk (Kd.R_below (mr_ HO245.out) hb)
     replace BK230 := Aside0.mk (blk_below (bk_ BK230.out) hb)
     replace BK231 := Aside0.mk (blk_below (bk_ BK231.out) hb)
     replace BK238 := Aside0.mk (blk_below (bk_ BK238.out) hb)
     replace BK239 := Aside0.mk (blk_below (bk_ BK239.out) hb)
     replace HB := Aside0.mk (below_step (mbs_ HB.out) hb)
     (try clear hb)
     (try clear hb2)
     (try clear hk)
     (try clear hi)
     refine hK.out _ _ ⟨(blk_cell BK230.out 0).trans rfl, (blk_cell BK230.out 1).trans rfl, (blk_cell BK238.out 0).trans rfl, (blk_cell BK238.out 1).trans rfl, (blk_cell BK239.out 0).trans rfl, (blk_cell BK239.out 1).trans rfl⟩ (fun hHeld => ?_)
     clear hK K
     refine norm_ (a' := ?_) ?_ ?_
     rotate_left
     ·show Act.put _ (some 25) _ = _
      simp only [Act.put, List.setIfInBounds_toArray, List.set_cons_zero, List.set_cons_succ, i64_w, i32_w]
      rfl
     refine one_ (i := 8) (N := some 29) #[true, true, true, true, true, true, true, true, true, false, false, false, false, false, false, false, false, false, false, false, false, false, false, false, false, false, false, false, false, false, false, false, false, false, false] rfl rfl (one_of HT_.out (by kernel_rfl)) (by decide) (fun K hK => ?_)
     refine goes_ Try.func14 (by kernel_rfl) rfl #[.agg #[.slice A0_0 l0_0.length c0_0, .slice A0_1 l0_1.length c0_1], .agg #[.slice A1_0 l1_0.length c1_0, .slice A1_1 l1_1.length c1_1], .agg #[.slice A1_2 l1_2.length c1_2, .slice A1_3 l1_3.length c1_3]] (by rfl) rfl rfl (by (try simp only [List.map_toArray, List.map_cons, List.map_nil]); first | done | rfl | (simp only [List.length_drop, List.length_take]; rfl)) ?_
     with_reducible refine (scarfjointref06_Valid.calls kj2 _ _ l0_0 _ _ l0_1 _ _ l1_0 _ _ l1_1 _ _ l1_2 _ _ l1_3 t247 _ ?side1 ?side2 ?side3 ?side4 ?side5 ?side6 ?side7 ?side8 ?side9 ?side10 ?side11 ?side12 A23.out).mono ?_
     (case side1 => exact mc_ (Kd.C_below HR0_0.out HB.out))
     (case side2 => exact HC0_0.out)
     (case side3 => exact mc_ (Kd.C_below HR0_1.out HB.out))
     (case side4 => exact HC0_1.out)
     (case side5 => exact mc_ (Kd.V_reads' HO_232000.out).2.2)
     (case side6 => exact (Kd.V_reads' HO_232000.out).2.1)
     (case side7 => exact mc_ (Kd.V_reads' HO_232001.out).2.2)
     (case side8 => exact (Kd.V_reads' HO_232001.out).2.1)
     (case side9 => exact mc_ (Kd.V_reads' HO_232002.out).2.2)
     (case side10 => exact (Kd.V_reads' HO_232002.out).2.1)
     (case side11 => exact mc_ (Kd.V_reads' HO_232003.out).2.2)
     (case side12 => exact (Kd.V_reads' HO_232003.out).2.1)
     rintro e w91 ⟨rfl, hb⟩
     refine ⟨_, rfl, ?_⟩
     replace HO_232000 := Aside0.mk (Kd.V_below (mv_ HO_232000.out) hb)
     replace HO_232001 := Aside0.mk (Kd.V_below (mv_ HO_232001.out) hb)
     replace HO_232002 := Aside0.mk (Kd.V_below (mv_ HO_232002.out) hb)
     replace HO_232003 := Aside0.mk (Kd.V_below (mv_ HO_232003.out) hb)
     replace HO242 := Aside0.mk (Kd.R_below (mr_ HO242.out) hb)
     replace HO245 := Aside0.mk (Kd.R_below (mr_ HO245.out) hb)
     replace BK230 := Aside0.mk (blk_below (bk_ BK230.out) hb)
     replace BK231 := Aside0.mk (blk_below (bk_ BK231.out) hb)
     replace BK238 := Aside0.mk (blk_below (bk_ BK238.out) hb)
     replace BK239 := Aside0.mk (blk_below (bk_ BK239.out) hb)
     replace HB := Aside0.mk (below_step (mbs_ HB.out) hb)
     (try clear hb)
     (try clear hb2)
     (try clear hk)
     (try clear hi)
     refine hK.out _ _ ⟨(blk_cell BK230.out 0).trans rfl, (blk_cell BK230.out 1).trans rfl, (blk_cell BK238.out 0).trans rfl, (blk_cell BK238.out 1).trans rfl, (blk_cell BK239.out 0).trans rfl, (blk_cell BK239.out 1).trans rfl⟩ (fun hHeld => ?_)
     clear hK K
     refine norm_ (a' := ?_) ?_ ?_
     rotate_left
     ·show Act.put _ (some 29) _ = _
      simp only [Act.put, List.setIfInBounds_toArray, List.set_cons_zero, List.set_cons_succ, i64_w, i32_w]
      rfl
     refine pure_ (i := 9) (N := some 30) (v := ?_) (a' := ?_) #[true, true, true, true, true, true, true, true, true, true, false, false, false, false, false, false, false, false, false, false, false, false, false, false, false, false, false, false, false, false, false, false, false, false, false] rfl rfl (any_of HT_.out (by kernel_rfl)) (fun _ _ _ h => h) (Or.inl ⟨by rfl, ?_⟩) ?_ ?_
     rotate_left
     ·intro w'
      go_simp
      with_reducible rfl
     rotate_left
     ·simp only [Act.put, List.setIfInBounds_toArray, List.set_cons_zero, List.set_cons_succ, i64_w, i32_w]
      rfl
     refine pure_ (i := 10) (N := some 31) (v := ?_) (a' := ?_) #[true, true, true, true, true, true, true, true, true, true, true, false, false, false, false, false, false, false, false, false, false, false, false, false, false, false, false, false, false, false, false, false, false, false, false] rfl rfl (any_of HT_.out (by kernel_rfl)) (fun _ _ _ h => h) (Or.inl ⟨by rfl, ?_⟩) ?_ ?_
     rotate_left
     ·intro w'
      go_simp
      with_reducible rfl
     rotate_left
     ·simp only [Act.put, List.setIfInBounds_toArray, List.set_cons_zero, List.set_cons_succ, i64_w, i32_w]
      rfl
     refine pure_ (i := 11) (N := some 32) (v := undef) (a' := ?_) #[true, true, true, true, true, true, true, true, true, true, true, true, false, false, false, false, false, false, false, false, false, false, false, false, false, false, false, false, false, false, false, false, false, false, false] rfl rfl (any_of HT_.out (by kernel_rfl)) (fun _ _ _ h => h) (Or.inr ⟨by rfl, rfl⟩) ?_ ?_
     rotate_left
     ·simp only [Act.put, List.setIfInBounds_toArray, List.set_cons_zero, List.set_cons_succ, i64_w, i32_w]
      rfl
     refine pure_ (i := 12) (N := some 33) (v := undef) (a' := ?_) #[true, true, true, true, true, true, true, true, true, true, true, true, true, false, false, false, false, false, false, false, false, false, false, false, false, false, false, false, false, false, false, false, false, false, false] rfl rfl (any_of HT_.out (by kernel_rfl)) (fun _ _ _ h => h) (Or.inr ⟨by rfl, rfl⟩) ?_ ?_
     rotate_left
     ·simp only [Act.put, List.setIfInBounds_toArray, List.set_cons_zero, List.set_cons_succ, i64_w, i32_w]
      rfl
     refine pure_ (i := 13) (N := some 34) (v := undef) (a' := ?_) #[true, true, true, true, true, true, true, true, true, true, true, true, true, true, false, false, false, false, false, false, false, false, false, false, false, false, false, false, false, false, false, false, false, false, false] rfl rfl (any_of HT_.out (by kernel_rfl)) (fun _ _ _ h => h) (Or.inr ⟨by rfl, rfl⟩) ?_ ?_
     rotate_left
     ·simp only [Act.put, List.setIfInBounds_toArray, List.set_cons_zero, List.set_cons_succ, i64_w, i32_w]
      rfl
     refine pure_ (i := 14) (N := some 35) (v := undef) (a' := ?_) #[true, true, true, true, true, true, true, true, true, true, true, true, true, true, true, false, false, false, false, false, false, false, false, false, false, false, false, false, false, false, false, false, false, false, false] rfl rfl (any_of HT_.out (by kernel_rfl)) (fun _ _ _ h => h) (Or.inr ⟨by rfl, rfl⟩) ?_ ?_
     rotate_left
     ·simp only [Act.put, List.setIfInBounds_toArray, List.set_cons_zero, List.set_cons_succ, i64_w, i32_w]
      rfl
     refine pure_ (i := 15) (N := some 36) (v := undef) (a' := ?_) #[true, true, true, true, true, true, true, true, true, true, true, true, true, true, true, true, false, false, false, false, false, false, false, false, false, false, false, false, false, false, false, false, false, false, false] rfl rfl (any_of HT_.out (by kernel_rfl)) (fun _ _ _ h => h) (Or.inr ⟨by rfl, rfl⟩) ?_ ?_
     rotate_left
     ·simp only [Act.put, List.setIfInBounds_toArray, List.set_cons_zero, List.set_cons_succ, i64_w, i32_w]
      rfl
     refine pure_ (i := 16) (N := some 37) (v := undef) (a' := ?_) #[true, true, true, true, true, true, true, true, true, true, true, true, true, true, true, true, true, false, false, false, false, false, false, false, false, false, false, false, false, false, false, false, false, false, false] rfl rfl (any_of HT_.out (by kernel_rfl)) (fun _ _ _ h => h) (Or.inr ⟨by rfl, rfl⟩) ?_ ?_
     rotate_left
     ·simp only [Act.put, List.setIfInBounds_toArray, List.set_cons_zero, List.set_cons_succ, i64_w, i32_w]
      rfl
     refine pure_ (i := 17) (N := some 38) (v := undef) (a' := ?_) #[true, true, true, true, true, true, true, true, true, true, true, true, true, true, true, true, true, true, false, false, false, false, false, false, false, false, false, false, false, false, false, false, false, false, false] rfl rfl (any_of HT_.out (by kernel_rfl)) (fun _ _ _ h => h) (Or.inr ⟨by rfl, rfl⟩) ?_ ?_
     rotate_left
     ·simp only [Act.put, List.setIfInBounds_toArray, List.set_cons_zero, List.set_cons_succ, i64_w, i32_w]
      rfl
     refine pure_ (i := 18) (N := some 39) (v := undef) (a' := ?_) #[true, true, true, true, true, true, true, true, true, true, true, true, true, true, true, true, true, true, true, false, false, false, false, false, false, false, false, false, false, false, false, false, false, false, false] rfl rfl (any_of HT_.out (by kernel_rfl)) (fun _ _ _ h => h) (Or.inr ⟨by rfl, rfl⟩) ?_ ?_
     rotate_left
     ·simp only [Act.put, List.setIfInBounds_toArray, List.set_cons_zero, List.set_cons_succ, i64_w, i32_w]
      rfl
     refine pure_ (i := 19) (N := some 40) (v := undef) (a' := ?_) #[true, true, true, true, true, true, true, true, true, true, true, true, true, true, true, true, true, true, true, true, false, false, false, false, false, false, false, false, false, false, false, false, false, false, false] rfl rfl (any_of HT_.out (by kernel_rfl)) (fun _ _ _ h => h) (Or.inr ⟨by rfl, rfl⟩) ?_ ?_
     rotate_left
     ·simp only [Act.put, List.setIfInBounds_toArray, List.set_cons_zero, List.set_cons_succ, i64_w, i32_w]
      rfl
     refine pure_ (i := 20) (N := some 41) (v := undef) (a' := ?_) #[true, true, true, true, true, true, true, true, true, true, true, true, true, true, true, true, true, true, true, true, true, false, false, false, false, false, false, false, false, false, false, false, false, false, false] rfl rfl (any_of HT_.out (by kernel_rfl)) (fun _ _ _ h => h) (Or.inr ⟨by rfl, rfl⟩) ?_ ?_
     rotate_left
     ·simp only [Act.put, List.setIfInBounds_toArray, List.set_cons_zero, List.set_cons_succ, i64_w, i32_w]
      rfl
     refine pure_ (i := 21) (N := some 42) (v := ?_) (a' := ?_) #[true, true, true, true, true, true, true, true, true, true, true, true, true, true, true, true, true, true, true, true, true, true, false, false, false, false, false, false, false, false, false, false, false, false, false] rfl rfl (any_of HT_.out (by kernel_rfl)) (fun _ _ _ h => h) (Or.inl ⟨by rfl, ?_⟩) ?_ ?_
     rotate_left
     ·intro w'
      go_simp
      with_reducible rfl
     rotate_left
     ·simp only [Act.put, List.setIfInBounds_toArray, List.set_cons_zero, List.set_cons_succ, i64_w, i32_w]
      rfl
     refine pure_ (i := 22) (N := some 43) (v := ?_) (a' := ?_) #[true, true, true, true, true, true, true, true, true, true, true, true, true, true, true, true, true, true, true, true, true, true, true, false, false, false, false, false, false, false, false, false, false, false, false] rfl rfl (any_of HT_.out (by kernel_rfl)) (fun _ _ _ h => h) (Or.inl ⟨by rfl, ?_⟩) ?_ ?_
     rotate_left
     ·intro w'
      go_simp
      with_reducible rfl
     rotate_left
     ·simp only [Act.put, List.setIfInBounds_toArray, List.set_cons_zero, List.set_cons_succ, i64_w, i32_w]
      rfl
     refine pure_ (i := 23) (N := some 44) (v := undef) (a' := ?_) #[true, true, true, true, true, true, true, true, true, true, true, true, true, true, true, true, true, true, true, true, true, true, true, true, false, false, false, false, false, false, false, false, false, false, false] rfl rfl (any_of HT_.out (by kernel_rfl)) (fun _ _ _ h => h) (Or.inr ⟨by rfl, rfl⟩) ?_ ?_
     rotate_left
     ·simp only [Act.put, List.setIfInBounds_toArray, List.set_cons_zero, List.set_cons_succ, i64_w, i32_w]
      rfl
     refine pure_ (i := 24) (N := some 45) (v := undef) (a' := ?_) #[true, true, true, true, true, true, true, true, true, true, true, true, true, true, true, true, true, true, true, true, true, true, true, true, true, false, false, false, false, false, false, false, false, false, false] rfl rfl (any_of HT_.out (by kernel_rfl)) (fun _ _ _ h => h) (Or.inr ⟨by rfl, rfl⟩) ?_ ?_
     rotate_left
     ·simp only [Act.put, List.setIfInBounds_toArray, List.set_cons_zero, List.set_cons_succ, i64_w, i32_w]
      rfl
     refine pure_ (i := 25) (N := some 46) (v := undef) (a' := ?_) #[true, true, true, true, true, true, true, true, true, true, true, true, true, true, true, true, true, true, true, true, true, true, true, true, true, true, false, false, false, false, false, false, false, false, false] rfl rfl (any_of HT_.out (by kernel_rfl)) (fun _ _ _ h => h) (Or.inr ⟨by rfl, rfl⟩) ?_ ?_
     rotate_left
     ·simp only [Act.put, List.setIfInBounds_toArray, List.set_cons_zero, List.set_cons_succ, i64_w, i32_w]
      rfl
     refine pure_ (i := 26) (N := some 47) (v := undef) (a' := ?_) #[true, true, true, true, true, true, true, true, true, true, true, true, true, true, true, true, true, true, true, true, true, true, true, true, true, true, true, false, false, false, false, false, false, false, false] rfl rfl (any_of HT_.out (by kernel_rfl)) (fun _ _ _ h => h) (Or.inr ⟨by rfl, rfl⟩) ?_ ?_
     rotate_left
     ·simp only [Act.put, List.setIfInBounds_toArray, List.set_cons_zero, List.set_cons_succ, i64_w, i32_w]
      rfl
     refine pure_ (i := 27) (N := some 48) (v := undef) (a' := ?_) #[true, true, true, true, true, true, true, true, true, true, true, true, true, true, true, true, true, true, true, true, true, true, true, true, true, true, true, true, false, false, false, false, false, false, false] rfl rfl (any_of HT_.out (by kernel_rfl)) (fun _ _ _ h => h) (Or.inr ⟨by rfl, rfl⟩) ?_ ?_
     rotate_left
     ·simp only [Act.put, List.setIfInBounds_toArray, List.set_cons_zero, List.set_cons_succ, i64_w, i32_w]
      rfl
     refine pure_ (i := 28) (N := some 49) (v := undef) (a' := ?_) #[true, true, true, true, true, true, true, true, true, true, true, true, true, true, true, true, true, true, true, true, true, true, true, true, true, true, true, true, true, false, false, false, false, false, false] rfl rfl (any_of HT_.out (by kernel_rfl)) (fun _ _ _ h => h) (Or.inr ⟨by rfl, rfl⟩) ?_ ?_
     rotate_left
     ·simp only [Act.put, List.setIfInBounds_toArray, List.set_cons_zero, List.set_cons_succ, i64_w, i32_w]
      rfl
     refine pure_ (i := 29) (N := some 50) (v := undef) (a' := ?_) #[true, true, true, true, true, true, true, true, true, true, true, true, true, true, true, true, true, true, true, true, true, true, true, true, true, true, true, true, true, true, false, false, false, false, false] rfl rfl (any_of HT_.out (by kernel_rfl)) (fun _ _ _ h => h) (Or.inr ⟨by rfl, rfl⟩) ?_ ?_
     rotate_left
     ·simp only [Act.put, List.setIfInBounds_toArray, List.set_cons_zero, List.set_cons_succ, i64_w, i32_w]
      rfl
     refine pure_ (i := 30) (N := some 51) (v := undef) (a' := ?_) #[true, true, true, true, true, true, true, true, true, true, true, true, true, true, true, true, true, true, true, true, true, true, true, true, true, true, true, true, true, true, true, false, false, false, false] rfl rfl (any_of HT_.out (by kernel_rfl)) (fun _ _ _ h => h) (Or.inr ⟨by rfl, rfl⟩) ?_ ?_
     rotate_left
     ·simp only [Act.put, List.setIfInBounds_toArray, List.set_cons_zero, List.set_cons_succ, i64_w, i32_w]
      rfl
     refine pure_ (i := 31) (N := some 52) (v := undef) (a' := ?_) #[true, true, true, true, true, true, true, true, true, true, true, true, true, true, true, true, true, true, true, true, true, true, true, true, true, true, true, true, true, true, true, true, false, false, false] rfl rfl (any_of HT_.out (by kernel_rfl)) (fun _ _ _ h => h) (Or.inr ⟨by rfl, rfl⟩) ?_ ?_
     rotate_left
     ·simp only [Act.put, List.setIfInBounds_toArray, List.set_cons_zero, List.set_cons_succ, i64_w, i32_w]
      rfl
     refine pure_ (i := 32) (N := some 53) (v := undef) (a' := ?_) #[true, true, true, true, true, true, true, true, true, true, true, true, true, true, true, true, true, true, true, true, true, true, true, true, true, true, true, true, true, true, true, true, true, false, false] rfl rfl (any_of HT_.out (by kernel_rfl)) (fun _ _ _ h => h) (Or.inr ⟨by rfl, rfl⟩) ?_ ?_
     rotate_left
     ·simp only [Act.put, List.setIfInBounds_toArray, List.set_cons_zero, List.set_cons_succ, i64_w, i32_w]
      rfl
     refine pure_ (i := 33) (N := some 54) (v := ?_) (a' := ?_) #[true, true, true, true, true, true, true, true, true, true, true, true, true, true, true, true, true, true, true, true, true, true, true, true, true, true, true, true, true, true, true, true, true, true, false] rfl rfl (any_of HT_.out (by kernel_rfl)) (fun _ _ _ h => h) (Or.inl ⟨by rfl, ?_⟩) ?_ ?_
     rotate_left
     ·intro w'
      go_simp
      with_reducible rfl
     rotate_left
     ·simp only [Act.put, List.setIfInBounds_toArray, List.set_cons_zero, List.set_cons_succ, i64_w, i32_w]
      rfl
     refine pure_ (i := 34) (N := some 4) (v := ?_) (a' := ?_) #[true, true, true, true, true, true, true, true, true, true, true, true, true, true, true, true, true, true, true, true, true, true, true, true, true, true, true, true, true, true, true, true, true, true, true] rfl rfl (any_of HT_.out (by kernel_rfl)) (fun _ _ _ h => h) (Or.inl ⟨by rfl, ?_⟩) ?_ ?_
     rotate_left
     ·intro w'
      go_simp
      with_reducible rfl
     rotate_left
     ·simp only [Act.put, List.setIfInBounds_toArray, List.set_cons_zero, List.set_cons_succ, i64_w, i32_w]
      rfl
     refine done_ (done_of HT_.out (by kernel_rfl)) ?_
     as_aux_lemma =>
     try go_wp2
     go_ret
     exact ⟨by first | rfl | (simp [errW_none, errW_some] <;> rfl) | (simp [*, errW_none, errW_some] <;> rfl), mbs_ HB.out⟩

end Go.Proofs.Ytklacpdobpkbbaa.P
