-- Written by wip/drive.py of this session's repo over the kit's print.py (with contracts of the session's own): not the print's own text
import Derived.Test.YtklacpdobpkbbaaPx0
import Derived.Test.YtklacpdobpkbbaaPx9
import Derived.Test.YtklacpdobpkbbaaPx10
import Derived.Test.YtklacpdobpkbbaaPx11
namespace Go.Proofs.Ytklacpdobpkbbaa.P
open Go.RowKit Go.Proofs.YtklacpdobpkbbaaW.PrintWords Go.Proofs.YtklacpdobpkbbaaW.PrintLast Go.Proofs.YtklacpdobpkbbaaW.PrintMore
attribute [local go_sem] max2_int min2_int max_two min_two max_three min_three max_four min_four   -- for this text's walks alone
set_option linter.unusedVariables false
set_option linter.unusedSimpArgs false

/-! ### scarfjointlaw06_awake: function 10 -/
def scarfjointlaw06_awake.j0 : Nat → List (S27) → Bool → List Int → List (S65) → List Int → List (S65) → Option (Bool)
 | 0, _, _, _, _, _, _ => none
 | k + 1, x3, x59, x161000, x161001, x168000, x168001 => if x59 = true then (some false) else (if 0 < (x3.length : Int) then ((morphism_Same.f k ((rd_T27 x3 0).f0) ((rd_T27 x3 0).f1) (([0, 0] : List Int)) (([0] : List Int))).bind fun t187 => (if t187 = true then ((morphism_Surjective.f k x161000 x161001 x168000 x168001 ((rd_T27 x3 0).f0) ((rd_T27 x3 0).f1)).bind fun t189 => (if t189 = true then ((morphism_Injective.f k x161000 x161001 x168000 x168001 ((rd_T27 x3 0).f0) ((rd_T27 x3 0).f1)).bind fun t191 => (some (!t191))) else (some false))) else (some false))) else (none))
def scarfjointlaw06_awake.f (k : Nat)  : Option (Bool) := (some (([0, 0] : List Int) : List Int)).bind fun y154 => ((some (([(⟨0, 0, 1⟩ : S65)] : List (S65)) : List (S65))).bind fun y157 => ((some (([0] : List Int) : List Int)).bind fun y161 => ((some (([(⟨0, 0, 0⟩ : S65)] : List (S65)) : List (S65))).bind fun y164 => ((morphism_All.f k y154 y157 y161 y164).bind fun bt168 => ((morphism_All.f k y161 y164 y154 y157).bind fun bt172 => ((morphism_All.f k y154 y157 y154 y157).bind fun bt176 => (if bt168.2 = 0 then (if bt172.2 = 0 then (if bt176.2 = 0 then (if (bt168.1.length : Int) = 1 then (if (bt172.1.length : Int) = 0 then (scarfjointlaw06_awake.j0 k bt168.1 ((bt176.1.length : Int) != 1) y154 y157 y161 y164) else (scarfjointlaw06_awake.j0 k bt168.1 true y154 y157 y161 y164)) else (scarfjointlaw06_awake.j0 k bt168.1 true y154 y157 y161 y164)) else (scarfjointlaw06_awake.j0 k bt168.1 true y154 y157 y161 y164)) else (scarfjointlaw06_awake.j0 k bt168.1 true y154 y157 y161 y164)) else (scarfjointlaw06_awake.j0 k bt168.1 true y154 y157 y161 y164))))))))
theorem scarfjointlaw06_awake.mono_l : ∀ k, (∀ y0 y1 y2 y3 y4 y5, LeO (scarfjointlaw06_awake.j0 k y0 y1 y2 y3 y4 y5) (scarfjointlaw06_awake.j0 (k + 1) y0 y1 y2 y3 y4 y5))
 | 0 => fun _ _ _ _ _ _ r h => by simp [scarfjointlaw06_awake.j0] at h
 | k + 1 => by
  have ih0 := scarfjointlaw06_awake.mono_l k
  ·intro y0 y1 y2 y3 y4 y5
   unfold scarfjointlaw06_awake.j0
   repeat' first
   | (with_reducible exact ih0 _ _ _ _ _ _)
   | (with_reducible exact morphism_All.mono _ _ _ _ _)
   | (with_reducible exact morphism_Injective.mono _ _ _ _ _ _ _)
   | (with_reducible exact morphism_Same.mono _ _ _ _ _)
   | (with_reducible exact morphism_Surjective.mono _ _ _ _ _ _ _)
   | (with_reducible exact LeO.refl _)
   | (with_reducible exact LeO.none _)
   | (with_reducible refine LeO.ite ?_ ?_)
   | (with_reducible refine LeO.bind ?_ (fun _ => ?_))
   | exact ih0 _ _ _ _ _ _
   | exact morphism_All.mono _ _ _ _ _
   | exact morphism_Injective.mono _ _ _ _ _ _ _
   | exact morphism_Same.mono _ _ _ _ _
   | exact morphism_Surjective.mono _ _ _ _ _ _ _
   | exact LeO.none _
   | refine LeO.ite ?_ ?_
   | refine LeO.bind ?_ (fun _ => ?_)
theorem scarfjointlaw06_awake.mono : ∀ k, LeO (scarfjointlaw06_awake.f k ) (scarfjointlaw06_awake.f (k + 1) ) := by
 intro  k
 have ih0 := scarfjointlaw06_awake.mono_l k
 unfold scarfjointlaw06_awake.f
 repeat' first
   | (with_reducible exact ih0 _ _ _ _ _ _)
   | (with_reducible exact morphism_All.mono _ _ _ _ _)
   | (with_reducible exact morphism_Injective.mono _ _ _ _ _ _ _)
   | (with_reducible exact morphism_Same.mono _ _ _ _ _)
   | (with_reducible exact morphism_Surjective.mono _ _ _ _ _ _ _)
   | (with_reducible exact LeO.refl _)
   | (with_reducible exact LeO.none _)
   | (with_reducible refine LeO.ite ?_ ?_)
   | (with_reducible refine LeO.bind ?_ (fun _ => ?_))
   | exact ih0 _ _ _ _ _ _
   | exact morphism_All.mono _ _ _ _ _
   | exact morphism_Injective.mono _ _ _ _ _ _ _
   | exact morphism_Same.mono _ _ _ _ _
   | exact morphism_Surjective.mono _ _ _ _ _ _ _
   | exact LeO.none _
   | refine LeO.ite ?_ ?_
   | refine LeO.bind ?_ (fun _ => ?_)
def scarfjointlaw06_awake.T8 : Bool × List (List Nat × List Nat) := (true, [([], []), ([0], [0]), ([1], [1]), ([], []), ([], []), ([3, 4], [3, 4]), ([2, 5], [2, 5]), ([6, 6], [6]), ([7], [7]), ([7], [7]), ([7], [7]), ([10, 7], [7, 10]), ([11, 7], [7, 11]), ([8, 9, 12, 7, 7], [7, 8, 9, 12]), ([7, 13], [7, 13]), ([14, 13], [14]), ([15], [15]), ([15], [15]), ([15], [15]), ([18, 15], [15, 18]), ([19, 15], [15, 19]), ([16, 17, 20, 15, 15], [15, 16, 17, 20]), ([21, 15], [15, 21]), ([15, 22], [15, 22]), ([23, 21, 0, 1, 2, 3, 4, 5, 6, 7, 8, 9, 10, 11, 12, 13, 14, 15, 16, 17, 18, 19, 20, 21, 22, 23], [23])])
def scarfjointlaw06_awake.B8 : List Nat := [0, 1, 3, 0, 0, 24, 63, 127, 255, 255, 255, 1279, 3327, 8191, 16383, 32767, 65535, 65535, 65535, 327679, 851967, 2097151, 4194303, 8388607, 16777215]
theorem scarfjointlaw06_awake.tab8 : rtab .any (opsOf Try.f10 8) = scarfjointlaw06_awake.T8 := by kernel_rfl
theorem scarfjointlaw06_awake.bits8 : waitsOk scarfjointlaw06_awake.T8.2 scarfjointlaw06_awake.B8 = true := by kernel_rfl
theorem scarfjointlaw06_awake.run {α : Type} {f : Nat → Option α} (hm : ∀ k, LeO (f k) (f (k + 1))) {x y : α} (n : Nat) (hx : f n = some x) {k : Nat} (hy : f k = some y) : y = x := by
 have h1 := at_rounds hm (Nat.le_max_left n k) hx
 have h2 := at_rounds hm (Nat.le_max_right n k) hy
 rw [h1] at h2
 exact (Option.some.inj h2).symm
theorem scarfjointlaw06_awake.all {k : Nat} {x : List S27 × Int} (h : morphism_All.f k [0, 0] [(⟨0, 0, 1⟩ : S65)] [0] [(⟨0, 0, 0⟩ : S65)] = some x) : x = ([⟨[0, 0], [0]⟩], 0) := scarfjointlaw06_awake.run (f := fun k => morphism_All.f k [0, 0] [(⟨0, 0, 1⟩ : S65)] [0] [(⟨0, 0, 0⟩ : S65)]) (fun k => morphism_All.mono _ _ _ _ k) 12 (by kernel_rfl) h
theorem scarfjointlaw06_awake.same {k : Nat} {x : Bool} (h : morphism_Same.f k [0, 0] [0] [0, 0] [0] = some x) : x = true := scarfjointlaw06_awake.run (f := fun k => morphism_Same.f k [0, 0] [0] [0, 0] [0]) (fun k => morphism_Same.mono _ _ _ _ k) 12 (by kernel_rfl) h
theorem scarfjointlaw06_awake.sur {k : Nat} {x : Bool} (h : morphism_Surjective.f k [0, 0] [(⟨0, 0, 1⟩ : S65)] [0] [(⟨0, 0, 0⟩ : S65)] [0, 0] [0] = some x) : x = true := scarfjointlaw06_awake.run (f := fun k => morphism_Surjective.f k [0, 0] [(⟨0, 0, 1⟩ : S65)] [0] [(⟨0, 0, 0⟩ : S65)] [0, 0] [0]) (fun k => morphism_Surjective.mono _ _ _ _ _ _ k) 12 (by kernel_rfl) h
set_option maxHeartbeats 8000000 in
set_option maxRecDepth 100000 in
theorem scarfjointlaw06_awake.calls (k : Nat)  (r : Bool) (w : World) (h : scarfjointlaw06_awake.f k  = some r) :
  Calls Try.prog 10 #[] w fun e w' => e = .returned (.bool r) ∧ Below w.heap.size w w' := by
 have hu65 := Try.underlying65
 have hu25 := Try.underlying25
 have hu27 := Try.underlying27
 have HB := Aside0.mk (Below.refl w.heap.size w)
 have H : ((some (([0, 0] : List Int) : List Int)).bind fun y154 => ((some (([(⟨0, 0, 1⟩ : S65)] : List (S65)) : List (S65))).bind fun y157 => ((some (([0] : List Int) : List Int)).bind fun y161 => ((some (([(⟨0, 0, 0⟩ : S65)] : List (S65)) : List (S65))).bind fun y164 => ((morphism_All.f k y154 y157 y161 y164).bind fun bt168 => ((morphism_All.f k y161 y164 y154 y157).bind fun bt172 => ((morphism_All.f k y154 y157 y154 y157).bind fun bt176 => (if bt168.2 = 0 then (if bt172.2 = 0 then (if bt176.2 = 0 then (if (bt168.1.length : Int) = 1 then (if (bt172.1.length : Int) = 0 then (scarfjointlaw06_awake.j0 k bt168.1 ((bt176.1.length : Int) != 1) y154 y157 y161 y164) else (scarfjointlaw06_awake.j0 k bt168.1 true y154 y157 y161 y164)) else (scarfjointlaw06_awake.j0 k bt168.1 true y154 y157 y161 y164)) else (scarfjointlaw06_awake.j0 k bt168.1 true y154 y157 y161 y164)) else (scarfjointlaw06_awake.j0 k bt168.1 true y154 y157 y161 y164)) else (scarfjointlaw06_awake.j0 k bt168.1 true y154 y157 y161 y164))))))))) = some r := h
 clear h
 obtain ⟨y154, hy154⟩ : ∃ y_ : List Int, y_ = (([0, 0] : List Int)) := ⟨_, rfl⟩
 replace H : ((some (([(⟨0, 0, 1⟩ : S65)] : List (S65)) : List (S65))).bind fun y157 => ((some (([0] : List Int) : List Int)).bind fun y161 => ((some (([(⟨0, 0, 0⟩ : S65)] : List (S65)) : List (S65))).bind fun y164 => ((morphism_All.f k y154 y157 y161 y164).bind fun bt168 => ((morphism_All.f k y161 y164 y154 y157).bind fun bt172 => ((morphism_All.f k y154 y157 y154 y157).bind fun bt176 => (if bt168.2 = 0 then (if bt172.2 = 0 then (if bt176.2 = 0 then (if (bt168.1.length : Int) = 1 then (if (bt172.1.length : Int) = 0 then (scarfjointlaw06_awake.j0 k bt168.1 ((bt176.1.length : Int) != 1) y154 y157 y161 y164) else (scarfjointlaw06_awake.j0 k bt168.1 true y154 y157 y161 y164)) else (scarfjointlaw06_awake.j0 k bt168.1 true y154 y157 y161 y164)) else (scarfjointlaw06_awake.j0 k bt168.1 true y154 y157 y161 y164)) else (scarfjointlaw06_awake.j0 k bt168.1 true y154 y157 y161 y164)) else (scarfjointlaw06_awake.j0 k bt168.1 true y154 y157 y161 y164)))))))) = some r := by first | (rw [hy154]; with_reducible exact H) | (have H2_ := (Option.bind_some _ _).symm.trans H; rw [hy154]; with_reducible exact H2_) | (have H2_ := (Option.bind_some _ _).symm.trans H; with_reducible exact H2_) | with_reducible exact H | (rw [hy154]; exact H) | exact H
 have Ny154 := Aside0.mk hy154
 clear hy154
 obtain ⟨y157, hy157⟩ : ∃ y_ : List (S65), y_ = (([(⟨0, 0, 1⟩ : S65)] : List (S65))) := ⟨_, rfl⟩
 replace H : ((some (([0] : List Int) : List Int)).bind fun y161 => ((some (([(⟨0, 0, 0⟩ : S65)] : List (S65)) : List (S65))).bind fun y164 => ((morphism_All.f k y154 y157 y161 y164).bind fun bt168 => ((morphism_All.f k y161 y164 y154 y157).bind fun bt172 => ((morphism_All.f k y154 y157 y154 y157).bind fun bt176 => (if bt168.2 = 0 then (if bt172.2 = 0 then (if bt176.2 = 0 then (if (bt168.1.length : Int) = 1 then (if (bt172.1.length : Int) = 0 then (scarfjointlaw06_awake.j0 k bt168.1 ((bt176.1.length : Int) != 1) y154 y157 y161 y164) else (scarfjointlaw06_awake.j0 k bt168.1 true y154 y157 y161 y164)) else (scarfjointlaw06_awake.j0 k bt168.1 true y154 y157 y161 y164)) else (scarfjointlaw06_awake.j0 k bt168.1 true y154 y157 y161 y164)) else (scarfjointlaw06_awake.j0 k bt168.1 true y154 y157 y161 y164)) else (scarfjointlaw06_awake.j0 k bt168.1 true y154 y157 y161 y164))))))) = some r := by first | (rw [hy157]; with_reducible exact H) | (have H2_ := (Option.bind_some _ _).symm.trans H; rw [hy157]; with_reducible exact H2_) | (have H2_ := (Option.bind_some _ _).symm.trans H; with_reducible exact H2_) | with_reducible exact H | (rw [hy157]; exact H) | exact H
 have Ny157 := Aside0.mk hy157
 clear hy157
 obtain ⟨y161, hy161⟩ : ∃ y_ : List Int, y_ = (([0] : List Int)) := ⟨_, rfl⟩
 replace H : ((some (([(⟨0, 0, 0⟩ : S65)] : List (S65)) : List (S65))).bind fun y164 => ((morphism_All.f k y154 y157 y161 y164).bind fun bt168 => ((morphism_All.f k y161 y164 y154 y157).bind fun bt172 => ((morphism_All.f k y154 y157 y154 y157).bind fun bt176 => (if bt168.2 = 0 then (if bt172.2 = 0 then (if bt176.2 = 0 then (if (bt168.1.length : Int) = 1 then (if (bt172.1.length : Int) = 0 then (scarfjointlaw06_awake.j0 k bt168.1 ((bt176.1.length : Int) != 1) y154 y157 y161 y164) else (scarfjointlaw06_awake.j0 k bt168.1 true y154 y157 y161 y164)) else (scarfjointlaw06_awake.j0 k bt168.1 true y154 y157 y161 y164)) else (scarfjointlaw06_awake.j0 k bt168.1 true y154 y157 y161 y164)) else (scarfjointlaw06_awake.j0 k bt168.1 true y154 y157 y161 y164)) else (scarfjointlaw06_awake.j0 k bt168.1 true y154 y157 y161 y164)))))) = some r := by first | (rw [hy161]; with_reducible exact H) | (have H2_ := (Option.bind_some _ _).symm.trans H; rw [hy161]; with_reducible exact H2_) | (have H2_ := (Option.bind_some _ _).symm.trans H; with_reducible exact H2_) | with_reducible exact H | (rw [hy161]; exact H) | exact H
 have Ny161 := Aside0.mk hy161
 clear hy161
 obtain ⟨y164, hy164⟩ : ∃ y_ : List (S65), y_ = (([(⟨0, 0, 0⟩ : S65)] : List (S65))) := ⟨_, rfl⟩
 replace H : ((morphism_All.f k y154 y157 y161 y164).bind fun bt168 => ((morphism_All.f k y161 y164 y154 y157).bind fun bt172 => ((morphism_All.f k y154 y157 y154 y157).bind fun bt176 => (if bt168.2 = 0 then (if bt172.2 = 0 then (if bt176.2 = 0 then (if (bt168.1.length : Int) = 1 then (if (bt172.1.length : Int) = 0 then (scarfjointlaw06_awake.j0 k bt168.1 ((bt176.1.length : Int) != 1) y154 y157 y161 y164) else (scarfjointlaw06_awake.j0 k bt168.1 true y154 y157 y161 y164)) else (scarfjointlaw06_awake.j0 k bt168.1 true y154 y157 y161 y164)) else (scarfjointlaw06_awake.j0 k bt168.1 true y154 y157 y161 y164)) else (scarfjointlaw06_awake.j0 k bt168.1 true y154 y157 y161 y164)) else (scarfjointlaw06_awake.j0 k bt168.1 true y154 y157 y161 y164))))) = some r := by first | (rw [hy164]; with_reducible exact H) | (have H2_ := (Option.bind_some _ _).symm.trans H; rw [hy164]; with_reducible exact H2_) | (have H2_ := (Option.bind_some _ _).symm.trans H; with_reducible exact H2_) | with_reducible exact H | (rw [hy164]; exact H) | exact H
 have Ny164 := Aside0.mk hy164
 clear hy164
 replace H := Option.bind_eq_some_iff.mp H
 obtain ⟨⟨t168, t171⟩, A10, H⟩ := H
 replace H : ((morphism_All.f k y161 y164 y154 y157).bind fun bt172 => ((morphism_All.f k y154 y157 y154 y157).bind fun bt176 => (if t171 = 0 then (if bt172.2 = 0 then (if bt176.2 = 0 then (if (t168.length : Int) = 1 then (if (bt172.1.length : Int) = 0 then (scarfjointlaw06_awake.j0 k t168 ((bt176.1.length : Int) != 1) y154 y157 y161 y164) else (scarfjointlaw06_awake.j0 k t168 true y154 y157 y161 y164)) else (scarfjointlaw06_awake.j0 k t168 true y154 y157 y161 y164)) else (scarfjointlaw06_awake.j0 k t168 true y154 y157 y161 y164)) else (scarfjointlaw06_awake.j0 k t168 true y154 y157 y161 y164)) else (scarfjointlaw06_awake.j0 k t168 true y154 y157 y161 y164)))) = some r := H
 have A1 := Aside0.mk A10
 have HT_ : Aside0 (t168 = [⟨[0, 0], [0]⟩]) := ⟨(Prod.mk.inj (scarfjointlaw06_awake.all (by have h_ := A1.out; rw [Ny154.out, Ny157.out, Ny161.out, Ny164.out] at h_; exact h_))).1⟩
 clear A10
 replace H := Option.bind_eq_some_iff.mp H
 obtain ⟨⟨t172, t175⟩, A20, H⟩ := H
 replace H : ((morphism_All.f k y154 y157 y154 y157).bind fun bt176 => (if t171 = 0 then (if t175 = 0 then (if bt176.2 = 0 then (if (t168.length : Int) = 1 then (if (t172.length : Int) = 0 then (scarfjointlaw06_awake.j0 k t168 ((bt176.1.length : Int) != 1) y154 y157 y161 y164) else (scarfjointlaw06_awake.j0 k t168 true y154 y157 y161 y164)) else (scarfjointlaw06_awake.j0 k t168 true y154 y157 y161 y164)) else (scarfjointlaw06_awake.j0 k t168 true y154 y157 y161 y164)) else (scarfjointlaw06_awake.j0 k t168 true y154 y157 y161 y164)) else (scarfjointlaw06_awake.j0 k t168 true y154 y157 y161 y164))) = some r := H
 have A2 := Aside0.mk A20
 clear A20
 replace H := Option.bind_eq_some_iff.mp H
 obtain ⟨⟨t176, t179⟩, A30, H⟩ := H
 replace H : (if t171 = 0 then (if t175 = 0 then (if t179 = 0 then (if (t168.length : Int) = 1 then (if (t172.length : Int) = 0 then (scarfjointlaw06_awake.j0 k t168 ((t176.length : Int) != 1) y154 y157 y161 y164) else (scarfjointlaw06_awake.j0 k t168 true y154 y157 y161 y164)) else (scarfjointlaw06_awake.j0 k t168 true y154 y157 y161 y164)) else (scarfjointlaw06_awake.j0 k t168 true y154 y157 y161 y164)) else (scarfjointlaw06_awake.j0 k t168 true y154 y157 y161 y164)) else (scarfjointlaw06_awake.j0 k t168 true y154 y157 y161 y164)) = some r := H
 have A3 := Aside0.mk A30
 clear A30
 have HC4 := Aside0.mk H
 clear H
 go_enter Try.func10, Try.ntmps10
 go_upto_region 6 with (first | ((with_reducible refine gate_dst (N := 9) rfl ?_); (try (refine gate_guard (by rfl) ?_; dsimp only)); refine Kd.R_lit (Kd.int .i64) _ 3 ?hg (N := 9) ?hd (xs := ([0, 0] : List Int)) (inner := [.int .i64 0, .int .i64 0]) (ok := fun _ => True) (okp := fun _ => True) ?hr ?hp (fun _ hk => hk) trivial (Below.refl _ _) (Nat.le_refl _) (by simp) ?_; (case hd => rfl); (case hg => rfl); (case hr => first | (go_simp; done) | (go_simp; rfl)); (case hp => exact (Reps.one (show Kd.M (Kd.int .i64) _ _ _ 0 [.int .i64 0] from rfl) (Reps.one (show Kd.M (Kd.int .i64) _ _ _ 0 [.int .i64 0] from rfl) (Reps.none _ _)))); intro v155 w5 ho6 hb hg_ hnew_; clear hg_ hnew_; (first | rw [← Ny154.out] at ho6 | (simp only [Int.reduceToNat] at ho6; rw [← Ny154.out] at ho6)); have HO156 := Aside0.mk (Kd.R_lower ho6 (below_size (mb_ HB.out))); replace HB := Aside0.mk (below_step (mb_ HB.out) hb); clear hb ho6) | ((with_reducible refine gate_dst (N := 11) rfl ?_); (try (refine gate_guard (by rfl) ?_; dsimp only)); refine Kd.R_lit k65 _ 65 ?hg (N := 11) ?hd (xs := ([(⟨0, 0, 1⟩ : S65)] : List (S65))) (inner := [.int .i64 0, .int .i64 0, .int .i64 1]) (ok := fun _ => True) (okp := fun _ => True) ?hr ?hp (fun _ hk => hk) trivial (Below.refl _ _) (Nat.le_refl _) (by simp) ?_; (case hd => rfl); (case hg => rfl); (case hr => first | (go_simp; done) | (go_simp; rfl)); (case hp => exact (Reps.c3 (show Kd.M k65 _ _ _ (⟨0, 0, 1⟩ : S65) [.int .i64 0, .int .i64 0, .int .i64 1] from (k65_mkM _ _ _ (⟨0, 0, 1⟩ : S65) )) (Reps.none _ _))); intro v158 w7 ho8 hb hg_ hnew_; clear hg_ hnew_; (first | rw [← Ny157.out] at ho8 | (simp only [Int.reduceToNat] at ho8; rw [← Ny157.out] at ho8)); replace HO156 := rb_ (mr_ HO156.out) hb; have HO159 := Aside0.mk (Kd.R_lower ho8 (below_size (mb_ HB.out))); replace HB := Aside0.mk (below_step (mb_ HB.out) hb); clear hb ho8; obtain ⟨Ao9, co9, eo9⟩ := Kd.R_slice HO159.out; subst eo9; obtain ⟨Ao10, co10, eo10⟩ := Kd.R_slice HO156.out; subst eo10) | ((with_reducible refine gate_dst (N := 1) rfl ?_); (try (refine gate_guard (by rfl) ?_; dsimp only)); refine box_event ?hg (N := 1) ?hd (cs := #[.slice none 0 0, .slice none 0 0]) (t := 25) ?hr ?_; (case hd => rfl); (case hg => rfl); (case hr => first | (go_simp; done) | (go_simp; rfl)); intro gb160 hg w11 hbox hb; replace HO156 := rb_ (mr_ HO156.out) hb; replace HO159 := rb_ (mr_ HO159.out) hb; have BK160 := Aside0.mk (hbox); have GW160 := Aside0.mk (gw_ hg (mb_ HB.out)); have GE160 := Aside0.mk (gw_ hg (mb_ HB.out)); replace HB := Aside0.mk (below_step (mb_ HB.out) hb); clear hb hbox hg; have hcz12_0 := bc0_ BK160.out; have hcz12_1 := bc1_ BK160.out; have hfz12_0 := blk_frozen BK160.out 0; have hfz12_1 := blk_frozen BK160.out 1) | ((with_reducible refine gate_dst (N := 13) rfl ?_); (try (refine gate_guard (by rfl) ?_; dsimp only)); refine Kd.R_lit (Kd.int .i64) _ 3 ?hg (N := 13) ?hd (xs := ([0] : List Int)) (inner := [.int .i64 0]) (ok := fun _ => True) (okp := fun _ => True) ?hr ?hp (fun _ hk => hk) trivial (Below.refl _ _) (Nat.le_refl _) (by simp) ?_; (case hd => rfl); (case hg => rfl); (case hr => first | (go_simp; done) | (go_simp; rfl)); (case hp => exact (Reps.one (show Kd.M (Kd.int .i64) _ _ _ 0 [.int .i64 0] from rfl) (Reps.none _ _))); intro v162 w13 ho14 hb hg_ hnew_; clear hg_ hnew_; (first | rw [← Ny161.out] at ho14 | (simp only [Int.reduceToNat] at ho14; rw [← Ny161.out] at ho14)); replace HO159 := rb_ (mr_ (rf2_ HO159.out BK160.out (.slice Ao10 y154.length co10) (.slice Ao9 y157.length co9))) hb; have HO163 := Aside0.mk (Kd.R_lower (Kd.R_new' ho14 (Kd.R_lt (mr_ (rf2_ HO156.out BK160.out (.slice Ao10 y154.length co10) (.slice Ao9 y157.length co9))))) (below_size (mbs_ HB.out))); replace HO156 := Aside0.mk (Kd.R_elder' (mr_ (rf2_ HO156.out BK160.out (.slice Ao10 y154.length co10) (.slice Ao9 y157.length co9))) (Kd.R_base ho14) hb); replace BK160 := kb_ (bp2_ (.slice Ao10 y154.length co10) (.slice Ao9 y157.length co9) BK160.out) hb; replace HB := Aside0.mk (below_step (mbs_ HB.out) hb); clear hb ho14) | ((with_reducible refine gate_dst (N := 15) rfl ?_); (try (refine gate_guard (by rfl) ?_; dsimp only)); refine Kd.R_lit k65 _ 65 ?hg (N := 15) ?hd (xs := ([(⟨0, 0, 0⟩ : S65)] : List (S65))) (inner := [.int .i64 0, .int .i64 0, .int .i64 0]) (ok := fun _ => True) (okp := fun _ => True) ?hr ?hp (fun _ hk => hk) trivial (Below.refl _ _) (Nat.le_refl _) (by simp) ?_; (case hd => rfl); (case hg => rfl); (case hr => first | (go_simp; done) | (go_simp; rfl)); (case hp => exact (Reps.c3 (show Kd.M k65 _ _ _ (⟨0, 0, 0⟩ : S65) [.int .i64 0, .int .i64 0, .int .i64 0] from (k65_mkM _ _ _ (⟨0, 0, 0⟩ : S65) )) (Reps.none _ _))); intro v165 w15 ho16 hb hg_ hnew_; clear hg_ hnew_; (first | rw [← Ny164.out] at ho16 | (simp only [Int.reduceToNat] at ho16; rw [← Ny164.out] at ho16)); replace HO156 := rb_ (mr_ HO156.out) hb; replace HO163 := rb_ (mr_ HO163.out) hb; have HO166 := Aside0.mk (Kd.R_lower (Kd.R_new' ho16 (Kd.R_lt (mr_ HO159.out))) (below_size (mbs_ HB.out))); replace HO159 := Aside0.mk (Kd.R_elder' (mr_ HO159.out) (Kd.R_base ho16) hb); replace BK160 := kb_ (bk_ BK160.out) hb; replace HB := Aside0.mk (below_step (mbs_ HB.out) hb); clear hb ho16; obtain ⟨Ao17, co17, eo17⟩ := Kd.R_slice HO166.out; subst eo17; obtain ⟨Ao18, co18, eo18⟩ := Kd.R_slice HO163.out; subst eo18) | ((with_reducible refine gate_dst (N := 2) rfl ?_); (try (refine gate_guard (by rfl) ?_; dsimp only)); refine box_event ?hg (N := 2) ?hd (cs := #[.slice none 0 0, .slice none 0 0]) (t := 25) ?hr ?_; (case hd => rfl); (case hg => rfl); (case hr => first | (go_simp; done) | (go_simp; rfl)); intro gb167 hg w19 hbox hb; replace HO156 := rb_ (mr_ HO156.out) hb; replace HO159 := rb_ (mr_ HO159.out) hb; replace HO163 := rb_ (mr_ HO163.out) hb; replace HO166 := rb_ (mr_ HO166.out) hb; have BK167 := Aside0.mk (hbox); have GW167 := Aside0.mk (gw_ hg (mbs_ HB.out)); have GE167 := Aside0.mk (gw_ hg (mbs_ HB.out)); replace HB := Aside0.mk (below_step (mbs_ HB.out) hb); have NB160_167 := Aside0.mk (nb_ hg (bk_ BK160.out)); have NB167_160 := Aside0.mk (nc_ hg (bk_ BK160.out)); replace BK160 := kb_ (bk_ BK160.out) hb; clear hb hbox hg; have hnb20 := NB167_160.out; have hnc20 := NB160_167.out; have hcz21_0 := bc0_ BK167.out; have hcz21_1 := bc1_ BK167.out; have hfz21_0 := blk_frozen BK167.out 0; have hfz21_1 := blk_frozen BK167.out 1; have hcz22_0 := bc0_ BK160.out; have hcz22_1 := bc1_ BK160.out; have hfz22_0 := blk_frozen BK160.out 0; have hfz22_1 := blk_frozen BK160.out 1) | ((with_reducible refine gate_callee (f := 20) rfl ?_); refine goesL_ (some 20) rfl rfl Try.func20 (by kernel_rfl) rfl #[.agg #[.slice Ao10 y154.length co10, .slice Ao9 y157.length co9], .agg #[.slice Ao18 y161.length co18, .slice Ao17 y164.length co17]] rfl (by (try simp only [List.map_toArray, List.map_cons, List.map_nil]); first | done | rfl | (simp only [List.length_drop, List.length_take]; rfl)) ?_; (with_reducible refine (morphism_All.calls k _ _ y154 _ _ y157 _ _ y161 _ _ y164 t168 t171 _ ?side1 ?side2 ?side3 ?side4 ?side5 ?side6 ?side7 ?side8 A1.out).mono ?_); (case side1 => exact rc_ (rf2_ HO156.out BK167.out (.slice Ao18 y161.length co18) (.slice Ao17 y164.length co17))); (case side2 => exact rl_ HO156.out); (case side3 => exact rc_ (rf2_ HO159.out BK167.out (.slice Ao18 y161.length co18) (.slice Ao17 y164.length co17))); (case side4 => exact rl_ HO159.out); (case side5 => exact rc_ (rf2_ HO163.out BK167.out (.slice Ao18 y161.length co18) (.slice Ao17 y164.length co17))); (case side6 => exact rl_ HO163.out); (case side7 => exact rc_ (rf2_ HO166.out BK167.out (.slice Ao18 y161.length co18) (.slice Ao17 y164.length co17))); (case side8 => exact rl_ HO166.out); rintro e w23 ⟨v169, rfl, ho0, hb⟩; refine ⟨_, rfl, ?_⟩; replace HO159 := rb_ (mr_ (rf2_ HO159.out BK167.out (.slice Ao18 y161.length co18) (.slice Ao17 y164.length co17))) hb; replace HO166 := rb_ (mr_ (rf2_ HO166.out BK167.out (.slice Ao18 y161.length co18) (.slice Ao17 y164.length co17))) hb; have HO170 := Aside0.mk (Kd.S_lower (Kd.S_new' (Kd.S_new' ho0 (Kd.R_lt (mr_ (rf2_ HO156.out BK167.out (.slice Ao18 y161.length co18) (.slice Ao17 y164.length co17))))) (Kd.R_lt (mr_ (rf2_ HO163.out BK167.out (.slice Ao18 y161.length co18) (.slice Ao17 y164.length co17))))) (below_size (mbs_ HB.out))); replace HO156 := rb_ (mr_ (rf2_ HO156.out BK167.out (.slice Ao18 y161.length co18) (.slice Ao17 y164.length co17))) hb; replace HO163 := rb_ (mr_ (rf2_ HO163.out BK167.out (.slice Ao18 y161.length co18) (.slice Ao17 y164.length co17))) hb; replace BK160 := Aside0.mk (blk_below (g := gb160) (o := .cells #[.slice Ao10 y154.length co10, .slice Ao9 y157.length co9] 25 (0, 0)) (by (with_reducible repeat (first | refine blk_drewN ?_ _ | refine blk_drew ?_ | refine blk_alloc ?_ _)); refine blk_far ?_ NB160_167.out _; (with_reducible repeat (first | refine blk_drewN ?_ _ | refine blk_drew ?_ | refine blk_alloc ?_ _)); refine blk_far ?_ NB160_167.out _; (with_reducible repeat (first | refine blk_drewN ?_ _ | refine blk_drew ?_ | refine blk_alloc ?_ _)); exact BK160.out) hb); replace BK167 := kb_ (bp2_ (.slice Ao18 y161.length co18) (.slice Ao17 y164.length co17) BK167.out) hb; replace HB := Aside0.mk (below_step (mbs_ HB.out) hb); (try clear hb); (try clear hb2); (try clear hk); (try clear hi); (try clear ho0); have hcz24_0 := bc0_ BK167.out; have hcz24_1 := bc1_ BK167.out; have hfz24_0 := blk_frozen BK167.out 0; have hfz24_1 := blk_frozen BK167.out 1; have hcz25_0 := bc0_ BK160.out; have hcz25_1 := bc1_ BK160.out; have hfz25_0 := blk_frozen BK160.out 0; have hfz25_1 := blk_frozen BK160.out 1) | ((with_reducible refine gate_callee (f := 20) rfl ?_); refine goesL_ (some 26) rfl rfl Try.func20 (by kernel_rfl) rfl #[.agg #[.slice Ao18 y161.length co18, .slice Ao17 y164.length co17], .agg #[.slice Ao10 y154.length co10, .slice Ao9 y157.length co9]] rfl (by (try simp only [List.map_toArray, List.map_cons, List.map_nil]); first | done | rfl | (simp only [List.length_drop, List.length_take]; rfl)) ?_; (with_reducible refine (morphism_All.calls k _ _ y161 _ _ y164 _ _ y154 _ _ y157 t172 t175 _ ?side1 ?side2 ?side3 ?side4 ?side5 ?side6 ?side7 ?side8 A2.out).mono ?_); (case side1 => exact rc_ HO163.out); (case side2 => exact rl_ HO163.out); (case side3 => exact rc_ HO166.out); (case side4 => exact rl_ HO166.out); (case side5 => exact rc_ HO156.out); (case side6 => exact rl_ HO156.out); (case side7 => exact rc_ HO159.out); (case side8 => exact rl_ HO159.out); rintro e w26 ⟨v173, rfl, ho0, hb⟩; refine ⟨_, rfl, ?_⟩; replace HO159 := rb_ (mr_ HO159.out) hb; replace HO166 := rb_ (mr_ HO166.out) hb; have HO174 := Aside0.mk (Kd.S_lower (Kd.S_new' (Kd.S_new' (Kd.S_new' ho0 (Kd.R_lt (mr_ HO156.out))) (Kd.R_lt (mr_ HO163.out))) (Kd.S_lt (ms_ HO170.out))) (below_size (mbs_ HB.out))); replace HO156 := rb_ (mr_ HO156.out) hb; replace HO163 := rb_ (mr_ HO163.out) hb; replace HO170 := Aside0.mk (Kd.S_elder' (ms_ HO170.out) (Kd.S_base ho0) hb); replace BK160 := kb_ (bk_ BK160.out) hb; replace BK167 := kb_ (bk_ BK167.out) hb; replace HB := Aside0.mk (below_step (mbs_ HB.out) hb); (try clear hb); (try clear hb2); (try clear hk); (try clear hi); (try clear ho0); have hcz27_0 := bc0_ BK160.out; have hcz27_1 := bc1_ BK160.out; have hfz27_0 := blk_frozen BK160.out 0; have hfz27_1 := blk_frozen BK160.out 1) | ((with_reducible refine gate_callee (f := 20) rfl ?_); refine goesL_ (some 32) rfl rfl Try.func20 (by kernel_rfl) rfl #[.agg #[.slice Ao10 y154.length co10, .slice Ao9 y157.length co9], .agg #[.slice Ao10 y154.length co10, .slice Ao9 y157.length co9]] rfl (by (try simp only [List.map_toArray, List.map_cons, List.map_nil]); first | done | rfl | (simp only [List.length_drop, List.length_take]; rfl)) ?_; (with_reducible refine (morphism_All.calls k _ _ y154 _ _ y157 _ _ y154 _ _ y157 t176 t179 _ ?side1 ?side2 ?side3 ?side4 ?side5 ?side6 ?side7 ?side8 A3.out).mono ?_); (case side1 => exact rc_ HO156.out); (case side2 => exact rl_ HO156.out); (case side3 => exact rc_ HO159.out); (case side4 => exact rl_ HO159.out); (case side5 => exact rc_ HO156.out); (case side6 => exact rl_ HO156.out); (case side7 => exact rc_ HO159.out); (case side8 => exact rl_ HO159.out); rintro e w28 ⟨v177, rfl, ho0, hb⟩; refine ⟨_, rfl, ?_⟩; replace HO159 := rb_ (mr_ HO159.out) hb; replace HO166 := rb_ (mr_ HO166.out) hb; have HO178 := Aside0.mk (Kd.S_lower (Kd.S_new' (Kd.S_new' (Kd.S_new' (Kd.S_new' ho0 (Kd.R_lt (mr_ HO156.out))) (Kd.R_lt (mr_ HO163.out))) (Kd.S_lt (ms_ HO170.out))) (Kd.S_lt (ms_ HO174.out))) (below_size (mbs_ HB.out))); replace HO156 := rb_ (mr_ HO156.out) hb; replace HO163 := rb_ (mr_ HO163.out) hb; replace HO170 := Aside0.mk (Kd.S_elder' (ms_ HO170.out) (Kd.S_base ho0) hb); replace HO174 := Aside0.mk (Kd.S_elder' (ms_ HO174.out) (Kd.S_base ho0) hb); replace BK160 := kb_ (bk_ BK160.out) hb; replace BK167 := kb_ (bk_ BK167.out) hb; replace HB := Aside0.mk (below_step (mbs_ HB.out) hb); (try clear hb); (try clear hb2); (try clear hk); (try clear hi); (try clear ho0)))
 (try simp only [Act.put, List.setIfInBounds_toArray, List.set_cons_zero, List.set_cons_succ])
 go_cut [59] (fun v59 wc => ∃ (kq : Nat) (x59_3 : Bool), v59 = .bool x59_3 ∧ Aside0 (scarfjointlaw06_awake.j0 kq t168 x59_3 y154 y157 y161 y164 = some r) ∧ Aside0 (kq ≤ k) ∧ Aside0 (Kd.S k27 27 wc w.heap.size (fun k_ => some k_ ≠ ((.slice Ao10 y154.length co10) : Value).ownBlock ∧ some k_ ≠ ((.slice Ao18 y161.length co18) : Value).ownBlock) v169 t168) ∧ Aside0 (Kd.R (Kd.int .i64) 3 wc w.heap.size (fun k_ => some k_ ≠ ((.slice Ao18 y161.length co18) : Value).ownBlock) (.slice Ao10 y154.length co10) y154) ∧ Aside0 (Kd.R k65 65 wc w.heap.size (fun k_ => some k_ ≠ ((.slice Ao17 y164.length co17) : Value).ownBlock) (.slice Ao9 y157.length co9) y157) ∧ Aside0 (Kd.R (Kd.int .i64) 3 wc w.heap.size (fun k_ => some k_ ≠ ((.slice Ao10 y154.length co10) : Value).ownBlock) (.slice Ao18 y161.length co18) y161) ∧ Aside0 (Kd.R k65 65 wc w.heap.size (fun k_ => some k_ ≠ ((.slice Ao9 y157.length co9) : Value).ownBlock) (.slice Ao17 y164.length co17) y164) ∧ Aside0 (wc.heap[gb160]? = some (.cells #[(.slice Ao10 y154.length co10), (.slice Ao9 y157.length co9)] 25 (0, 0))) ∧ Aside0 (wc.heap[gb167]? = some (.cells #[(.slice Ao18 y161.length co18), (.slice Ao17 y164.length co17)] 25 (0, 0))) ∧ Aside0 (Below w.heap.size w wc))
 case first =>
  as_aux_lemma =>
  have H := HC4.out
  clear HC4
  by_cases c29 : t171 = 0
  ·rw [if_pos c29] at H
   have c29b0 : (t171 == 0) = true := beq_iff_eq.mpr c29
   have c29b1 : (t171 != 0) = false := bne_eq_false_iff_eq.mpr c29
   clear c29
   (first | rw [c29b0] | (simp only [i64_w, i32_w]; rw [c29b0]) | skip)
   by_cases c30 : t175 = 0
   ·rw [if_pos c30] at H
    have c30b0 : (t175 == 0) = true := beq_iff_eq.mpr c30
    have c30b1 : (t175 != 0) = false := bne_eq_false_iff_eq.mpr c30
    clear c30
    by_cases c31 : t179 = 0
    ·rw [if_pos c31] at H
     have c31b0 : (t179 == 0) = true := beq_iff_eq.mpr c31
     have c31b1 : (t179 != 0) = false := bne_eq_false_iff_eq.mpr c31
     clear c31
     by_cases c32 : (t168.length : Int) = 1
     ·rw [if_pos c32] at H
      have c32b0 : ((t168.length : Int) == 1) = true := beq_iff_eq.mpr c32
      have c32b1 : ((t168.length : Int) != 1) = false := bne_eq_false_iff_eq.mpr c32
      clear c32
      by_cases c33 : (t172.length : Int) = 0
      ·rw [if_pos c33] at H
       have c33b0 : ((t172.length : Int) == 0) = true := beq_iff_eq.mpr c33
       have c33b1 : ((t172.length : Int) != 0) = false := bne_eq_false_iff_eq.mpr c33
       clear c33
       have H' := Aside0.mk H
       clear H
       obtain ⟨Ao34, co34, eo34⟩ := Kd.S_slice HO170.out
       subst eo34
       obtain ⟨Ao35, co35, eo35⟩ := Kd.S_slice HO174.out
       subst eo35
       obtain ⟨Ao36, co36, eo36⟩ := Kd.S_slice HO178.out
       subst eo36
       go_wp2
       go_meet
       case rel => exact ⟨_, (((t176.length : Int) != 1)), (by first | rfl | (simp; done) | (simp [*]; done)), H', ⟨by first | omega | exact Nat.le_refl _⟩, ⟨by (with_reducible repeat (first | apply Kd.S_alloc | apply Kd.S_drewN | apply Kd.S_drew)); exact Kd.S_mono HO170.out (fun _ hk => ⟨hk.1.1.1.2, hk.1.1.2⟩)⟩, ⟨by (with_reducible repeat (first | apply Kd.R_alloc | apply Kd.R_drewN | apply Kd.R_drew)); exact Kd.R_mono HO156.out (fun _ hk => hk.2)⟩, ⟨by (with_reducible repeat (first | apply Kd.R_alloc | apply Kd.R_drewN | apply Kd.R_drew)); exact Kd.R_mono HO159.out (fun _ hk => hk.2)⟩, ⟨by (with_reducible repeat (first | apply Kd.R_alloc | apply Kd.R_drewN | apply Kd.R_drew)); exact Kd.R_mono HO163.out (fun _ hk => hk.2)⟩, ⟨by (with_reducible repeat (first | apply Kd.R_alloc | apply Kd.R_drewN | apply Kd.R_drew)); exact Kd.R_mono HO166.out (fun _ hk => hk.2)⟩, ⟨bk_ BK160.out⟩, ⟨bk_ BK167.out⟩, ⟨mbs_ HB.out⟩⟩
      rw [if_neg c33] at H
      have c33b0 : ((t172.length : Int) == 0) = false := beq_eq_false_iff_ne.mpr c33
      have c33b1 : ((t172.length : Int) != 0) = true := bne_iff_ne.mpr c33
      have c33b2 : ¬ (t172 = []) := fun h_ => c33 (by rw [h_]; rfl)
      have H' := Aside0.mk H
      clear H
      obtain ⟨Ao37, co37, eo37⟩ := Kd.S_slice HO170.out
      subst eo37
      obtain ⟨Ao38, co38, eo38⟩ := Kd.S_slice HO174.out
      subst eo38
      go_wp2
      go_meet
      case rel => exact ⟨_, (true), (by first | rfl | (simp; done) | (simp [*]; done)), H', ⟨by first | omega | exact Nat.le_refl _⟩, ⟨by (with_reducible repeat (first | apply Kd.S_alloc | apply Kd.S_drewN | apply Kd.S_drew)); exact Kd.S_mono HO170.out (fun _ hk => ⟨hk.1.1.1.2, hk.1.1.2⟩)⟩, ⟨by (with_reducible repeat (first | apply Kd.R_alloc | apply Kd.R_drewN | apply Kd.R_drew)); exact Kd.R_mono HO156.out (fun _ hk => hk.2)⟩, ⟨by (with_reducible repeat (first | apply Kd.R_alloc | apply Kd.R_drewN | apply Kd.R_drew)); exact Kd.R_mono HO159.out (fun _ hk => hk.2)⟩, ⟨by (with_reducible repeat (first | apply Kd.R_alloc | apply Kd.R_drewN | apply Kd.R_drew)); exact Kd.R_mono HO163.out (fun _ hk => hk.2)⟩, ⟨by (with_reducible repeat (first | apply Kd.R_alloc | apply Kd.R_drewN | apply Kd.R_drew)); exact Kd.R_mono HO166.out (fun _ hk => hk.2)⟩, ⟨bk_ BK160.out⟩, ⟨bk_ BK167.out⟩, ⟨mbs_ HB.out⟩⟩
     rw [if_neg c32] at H
     have c32b0 : ((t168.length : Int) == 1) = false := beq_eq_false_iff_ne.mpr c32
     have c32b1 : ((t168.length : Int) != 1) = true := bne_iff_ne.mpr c32
     have H' := Aside0.mk H
     clear H
     obtain ⟨Ao39, co39, eo39⟩ := Kd.S_slice HO170.out
     subst eo39
     go_wp2
     go_meet
     case rel => exact ⟨_, (true), (by first | rfl | (simp; done) | (simp [*]; done)), H', ⟨by first | omega | exact Nat.le_refl _⟩, ⟨by (with_reducible repeat (first | apply Kd.S_alloc | apply Kd.S_drewN | apply Kd.S_drew)); exact Kd.S_mono HO170.out (fun _ hk => ⟨hk.1.1.1.2, hk.1.1.2⟩)⟩, ⟨by (with_reducible repeat (first | apply Kd.R_alloc | apply Kd.R_drewN | apply Kd.R_drew)); exact Kd.R_mono HO156.out (fun _ hk => hk.2)⟩, ⟨by (with_reducible repeat (first | apply Kd.R_alloc | apply Kd.R_drewN | apply Kd.R_drew)); exact Kd.R_mono HO159.out (fun _ hk => hk.2)⟩, ⟨by (with_reducible repeat (first | apply Kd.R_alloc | apply Kd.R_drewN | apply Kd.R_drew)); exact Kd.R_mono HO163.out (fun _ hk => hk.2)⟩, ⟨by (with_reducible repeat (first | apply Kd.R_alloc | apply Kd.R_drewN | apply Kd.R_drew)); exact Kd.R_mono HO166.out (fun _ hk => hk.2)⟩, ⟨bk_ BK160.out⟩, ⟨bk_ BK167.out⟩, ⟨mbs_ HB.out⟩⟩
    rw [if_neg c31] at H
    have c31b0 : (t179 == 0) = false := beq_eq_false_iff_ne.mpr c31
    have c31b1 : (t179 != 0) = true := bne_iff_ne.mpr c31
    have H' := Aside0.mk H
    clear H
    go_wp2
    go_meet
    case rel => exact ⟨_, (true), (by first | rfl | (simp; done) | (simp [*]; done)), H', ⟨by first | omega | exact Nat.le_refl _⟩, ⟨by (with_reducible repeat (first | apply Kd.S_alloc | apply Kd.S_drewN | apply Kd.S_drew)); exact Kd.S_mono HO170.out (fun _ hk => ⟨hk.1.1.1.2, hk.1.1.2⟩)⟩, ⟨by (with_reducible repeat (first | apply Kd.R_alloc | apply Kd.R_drewN | apply Kd.R_drew)); exact Kd.R_mono HO156.out (fun _ hk => hk.2)⟩, ⟨by (with_reducible repeat (first | apply Kd.R_alloc | apply Kd.R_drewN | apply Kd.R_drew)); exact Kd.R_mono HO159.out (fun _ hk => hk.2)⟩, ⟨by (with_reducible repeat (first | apply Kd.R_alloc | apply Kd.R_drewN | apply Kd.R_drew)); exact Kd.R_mono HO163.out (fun _ hk => hk.2)⟩, ⟨by (with_reducible repeat (first | apply Kd.R_alloc | apply Kd.R_drewN | apply Kd.R_drew)); exact Kd.R_mono HO166.out (fun _ hk => hk.2)⟩, ⟨bk_ BK160.out⟩, ⟨bk_ BK167.out⟩, ⟨mbs_ HB.out⟩⟩
   rw [if_neg c30] at H
   have c30b0 : (t175 == 0) = false := beq_eq_false_iff_ne.mpr c30
   have c30b1 : (t175 != 0) = true := bne_iff_ne.mpr c30
   have H' := Aside0.mk H
   clear H
   go_wp2
   go_meet
   case rel => exact ⟨_, (true), (by first | rfl | (simp; done) | (simp [*]; done)), H', ⟨by first | omega | exact Nat.le_refl _⟩, ⟨by (with_reducible repeat (first | apply Kd.S_alloc | apply Kd.S_drewN | apply Kd.S_drew)); exact Kd.S_mono HO170.out (fun _ hk => ⟨hk.1.1.1.2, hk.1.1.2⟩)⟩, ⟨by (with_reducible repeat (first | apply Kd.R_alloc | apply Kd.R_drewN | apply Kd.R_drew)); exact Kd.R_mono HO156.out (fun _ hk => hk.2)⟩, ⟨by (with_reducible repeat (first | apply Kd.R_alloc | apply Kd.R_drewN | apply Kd.R_drew)); exact Kd.R_mono HO159.out (fun _ hk => hk.2)⟩, ⟨by (with_reducible repeat (first | apply Kd.R_alloc | apply Kd.R_drewN | apply Kd.R_drew)); exact Kd.R_mono HO163.out (fun _ hk => hk.2)⟩, ⟨by (with_reducible repeat (first | apply Kd.R_alloc | apply Kd.R_drewN | apply Kd.R_drew)); exact Kd.R_mono HO166.out (fun _ hk => hk.2)⟩, ⟨bk_ BK160.out⟩, ⟨bk_ BK167.out⟩, ⟨mbs_ HB.out⟩⟩
  rw [if_neg c29] at H
  have c29b0 : (t171 == 0) = false := beq_eq_false_iff_ne.mpr c29
  have c29b1 : (t171 != 0) = true := bne_iff_ne.mpr c29
  (first | rw [c29b0] | (simp only [i64_w, i32_w]; rw [c29b0]) | skip)
  have H' := Aside0.mk H
  clear H
  go_wp2
  go_meet
  case rel => exact ⟨_, (true), (by first | rfl | (simp; done) | (simp [*]; done)), H', ⟨by first | omega | exact Nat.le_refl _⟩, ⟨by (with_reducible repeat (first | apply Kd.S_alloc | apply Kd.S_drewN | apply Kd.S_drew)); exact Kd.S_mono HO170.out (fun _ hk => ⟨hk.1.1.1.2, hk.1.1.2⟩)⟩, ⟨by (with_reducible repeat (first | apply Kd.R_alloc | apply Kd.R_drewN | apply Kd.R_drew)); exact Kd.R_mono HO156.out (fun _ hk => hk.2)⟩, ⟨by (with_reducible repeat (first | apply Kd.R_alloc | apply Kd.R_drewN | apply Kd.R_drew)); exact Kd.R_mono HO159.out (fun _ hk => hk.2)⟩, ⟨by (with_reducible repeat (first | apply Kd.R_alloc | apply Kd.R_drewN | apply Kd.R_drew)); exact Kd.R_mono HO163.out (fun _ hk => hk.2)⟩, ⟨by (with_reducible repeat (first | apply Kd.R_alloc | apply Kd.R_drewN | apply Kd.R_drew)); exact Kd.R_mono HO166.out (fun _ hk => hk.2)⟩, ⟨bk_ BK160.out⟩, ⟨bk_ BK167.out⟩, ⟨mbs_ HB.out⟩⟩
 case rest =>
  as_aux_lemma =>
  clear HC4
  try clear c1
  try clear c2
  try clear p2
  try clear c3
  try clear c10
  try clear c20
  try clear c29
  try clear c29b0
  try clear c29b1
  try clear c30
  try clear c30b0
  try clear c30b1
  try clear c31
  try clear c31b0
  try clear c31b1
  try clear c32
  try clear c32b0
  try clear c32b1
  try clear c33
  try clear c33b0
  try clear c33b1
  try clear c33b2
  try clear hcz12_0
  try clear hcz12_1
  try clear hcz21_0
  try clear hcz21_1
  try clear hcz22_0
  try clear hcz22_1
  try clear hcz24_0
  try clear hcz24_1
  try clear hcz25_0
  try clear hcz25_1
  try clear hcz27_0
  try clear hcz27_1
  try clear hfz12_0
  try clear hfz12_1
  try clear hfz21_0
  try clear hfz21_1
  try clear hfz22_0
  try clear hfz22_1
  try clear hfz24_0
  try clear hfz24_1
  try clear hfz25_0
  try clear hfz25_1
  try clear hfz27_0
  try clear hfz27_1
  obtain ⟨kq, x59_3, rfl, HA, HJ3, HO_3, HO_161000, HO_161001, HO_168000, HO_168001, BK160, BK167, HB⟩ := hcut
  cases kq with
  | zero => exact absurd HA.out (by simp [scarfjointlaw06_awake.j0])
  | succ kj3 =>
   have H := HA.out
   clear HA
   simp only [scarfjointlaw06_awake.j0] at H
   by_cases c40 : x59_3 = true
   ·subst c40
    have H1 : (some false) = some r := by rw [if_pos rfl] at H; exact H
    clear H
    have H := H1
    clear H1
    obtain rfl := Option.some.inj H
    go_wp2
    go_ret
    exact ⟨by first | rfl | (simp [errW_none, errW_some] <;> rfl) | (simp [*, errW_none, errW_some] <;> rfl), mbs_ HB.out⟩
   replace c40 := Bool.eq_false_iff.mpr c40
   subst c40
   have H1 : (if 0 < (t168.length : Int) then ((morphism_Same.f kj3 ((rd_T27 t168 0).f0) ((rd_T27 t168 0).f1) (([0, 0] : List Int)) (([0] : List Int))).bind fun t187 => (if t187 = true then ((morphism_Surjective.f kj3 y154 y157 y161 y164 ((rd_T27 t168 0).f0) ((rd_T27 t168 0).f1)).bind fun t189 => (if t189 = true then ((morphism_Injective.f kj3 y154 y157 y161 y164 ((rd_T27 t168 0).f0) ((rd_T27 t168 0).f1)).bind fun t191 => (some (!t191))) else (some false))) else (some false))) else (none)) = some r := by rw [if_neg (show ¬ (false = true) by decide)] at H; exact H
   clear H
   have H := H1
   clear H1
   by_cases c41 : 0 < (t168.length : Int)
   ·rw [if_pos c41] at H
    have c41b0 : decide (0 < (t168.length : Int)) = true := decide_eq_true c41
    have c41b1 : decide (0 < t168.length) = true := decide_eq_true (by omega)
    clear c41
    obtain ⟨y181, hy181⟩ : ∃ y_ : List Int, y_ = (([0, 0] : List Int)) := ⟨_, rfl⟩
    replace H : ((morphism_Same.f kj3 ((rd_T27 t168 0).f0) ((rd_T27 t168 0).f1) y181 (([0] : List Int))).bind fun t187 => (if t187 = true then ((morphism_Surjective.f kj3 y154 y157 y161 y164 ((rd_T27 t168 0).f0) ((rd_T27 t168 0).f1)).bind fun t189 => (if t189 = true then ((morphism_Injective.f kj3 y154 y157 y161 y164 ((rd_T27 t168 0).f0) ((rd_T27 t168 0).f1)).bind fun t191 => (some (!t191))) else (some false))) else (some false))) = some r := by first | (rw [hy181]; with_reducible exact H) | (have H2_ := (Option.bind_some _ _).symm.trans H; rw [hy181]; with_reducible exact H2_) | (have H2_ := (Option.bind_some _ _).symm.trans H; with_reducible exact H2_) | with_reducible exact H | (rw [hy181]; exact H) | exact H
    have Ny181 := Aside0.mk hy181
    clear hy181
    obtain ⟨y184, hy184⟩ : ∃ y_ : List Int, y_ = (([0] : List Int)) := ⟨_, rfl⟩
    replace H : ((morphism_Same.f kj3 ((rd_T27 t168 0).f0) ((rd_T27 t168 0).f1) y181 y184).bind fun t187 => (if t187 = true then ((morphism_Surjective.f kj3 y154 y157 y161 y164 ((rd_T27 t168 0).f0) ((rd_T27 t168 0).f1)).bind fun t189 => (if t189 = true then ((morphism_Injective.f kj3 y154 y157 y161 y164 ((rd_T27 t168 0).f0) ((rd_T27 t168 0).f1)).bind fun t191 => (some (!t191))) else (some false))) else (some false))) = some r := by first | (rw [hy184]; with_reducible exact H) | (have H2_ := (Option.bind_some _ _).symm.trans H; rw [hy184]; with_reducible exact H2_) | (have H2_ := (Option.bind_some _ _).symm.trans H; with_reducible exact H2_) | with_reducible exact H | (rw [hy184]; exact H) | exact H
    have Ny184 := Aside0.mk hy184
    clear hy184
    replace H := Option.bind_eq_some_iff.mp H
    obtain ⟨t187, A420, H⟩ := H
    replace H : (if t187 = true then ((morphism_Surjective.f kj3 y154 y157 y161 y164 ((rd_T27 t168 0).f0) ((rd_T27 t168 0).f1)).bind fun t189 => (if t189 = true then ((morphism_Injective.f kj3 y154 y157 y161 y164 ((rd_T27 t168 0).f0) ((rd_T27 t168 0).f1)).bind fun t191 => (some (!t191))) else (some false))) else (some false)) = some r := H
    have A42 := Aside0.mk A420
    clear A420
    by_cases c43 : t187 = true
    ·subst c43
     have H1 : ((morphism_Surjective.f kj3 y154 y157 y161 y164 ((rd_T27 t168 0).f0) ((rd_T27 t168 0).f1)).bind fun t189 => (if t189 = true then ((morphism_Injective.f kj3 y154 y157 y161 y164 ((rd_T27 t168 0).f0) ((rd_T27 t168 0).f1)).bind fun t191 => (some (!t191))) else (some false))) = some r := by rw [if_pos rfl] at H; exact H
     clear H
     have H := H1
     clear H1
     replace H := Option.bind_eq_some_iff.mp H
     obtain ⟨t189, A440, H⟩ := H
     replace H : (if t189 = true then ((morphism_Injective.f kj3 y154 y157 y161 y164 ((rd_T27 t168 0).f0) ((rd_T27 t168 0).f1)).bind fun t191 => (some (!t191))) else (some false)) = some r := H
     have A44 := Aside0.mk A440
     clear A440
     by_cases c45 : t189 = true
     ·subst c45
      have H1 : ((morphism_Injective.f kj3 y154 y157 y161 y164 ((rd_T27 t168 0).f0) ((rd_T27 t168 0).f1)).bind fun t191 => (some (!t191))) = some r := by rw [if_pos rfl] at H; exact H
      clear H
      have H := H1
      clear H1
      replace H := Option.bind_eq_some_iff.mp H
      obtain ⟨t191, A460, H⟩ := H
      replace H : (some (!t191)) = some r := H
      have A46 := Aside0.mk A460
      clear A460
      obtain rfl := Option.some.inj H
      try go_wp2
      replace HO_3 := Aside0.mk (Kd.S_drew HO_3.out)
      replace HO_161000 := Aside0.mk (Kd.R_drew HO_161000.out)
      replace HO_161001 := Aside0.mk (Kd.R_drew HO_161001.out)
      replace HO_168000 := Aside0.mk (Kd.R_drew HO_168000.out)
      replace HO_168001 := Aside0.mk (Kd.R_drew HO_168001.out)
      replace BK160 := Aside0.mk (blk_drew BK160.out)
      replace BK167 := Aside0.mk (blk_drew BK167.out)
      replace HB := Aside0.mk (below_drew1 HB.out)
      obtain ⟨Ao48, co48, eo48⟩ := Kd.S_slice HO_3.out
      (first | subst eo48 | (injection eo48 with f1_ f2_ f3_; have f4_ := f1_.symm; have f5_ := f3_.symm; clear f1_ f2_ f3_; subst f4_; subst f5_))
      have p180 : 0 ≤ (0 : Int) := (by omega)
      have q180 : 0 < (t168.length : Int) := of_decide_eq_true (by first | (with_reducible assumption) | assumption)
      obtain ⟨ad180, A180_0, c180_0, A180_1, c180_1, e180, hx180_0, hx180_1, hl180_0, hi180_0, hl180_1, hi180_1⟩ := at_T27 (Kd.S_reads' HO_3.out).2.2 0 p180 q180
      cases e180
      obtain ⟨ce180, hce180, hMe180, hcc180⟩ := Kd.S_get HO_3.out z27 0 p180 (by first | exact q180 | exact of_decide_eq_true (by first | (with_reducible assumption) | assumption) | (have e_ := (Kd.S_reads' HO_3.out).1; omega))
      obtain ⟨ve180_0, ve180_1, rfl, ge180_0, ge180_1⟩ := k27_openM hMe180
      have hv180_0 := hcc180 0 _ rfl
      rw [Nat.add_zero] at hv180_0
      replace hv180_0 := Option.some.inj (hv180_0.symm.trans hx180_0)
      rw [hv180_0] at ge180_0
      have HL180_0 := Aside0.mk (show Kd.R (Kd.int .i64) 3 _ _ _ _ ((rd_T27 t168 0).f0) from ge180_0)
      clear hv180_0 ge180_0
      have hv180_1 := hcc180 1 _ rfl
      rw [add_field _ _ 1 (by omega)] at hv180_1
      replace hv180_1 := Option.some.inj (hv180_1.symm.trans hx180_1)
      rw [hv180_1] at ge180_1
      have HL180_1 := Aside0.mk (show Kd.R (Kd.int .i64) 3 _ _ _ _ ((rd_T27 t168 0).f1) from ge180_1)
      clear hv180_1 ge180_1
      clear hcc180 hce180
      have qi180 : (0 < t168.length) = True := eq_true (by omega)
      (try rw [show ((0 : Int)).toNat = 0 from rfl] at hx180_0)
      (try rw [show 0 * 2 = 0 from rfl] at hx180_0)
      (try rw [Addr.add_zero'] at hx180_0)
      (try rw [show ((0 : Int)).toNat = 0 from rfl] at hx180_1)
      (try rw [show 0 * 2 = 0 from rfl] at hx180_1)
      (try rw [Addr.add_zero'] at hx180_1)
      have HR180_0 := Aside0.mk hi180_0
      have HC180_0 := Aside0.mk hl180_0
      clear hi180_0 hl180_0
      have HR180_1 := Aside0.mk hi180_1
      have HC180_1 := Aside0.mk hl180_1
      clear hi180_1 hl180_1
      replace p180 := eq_true p180
      replace q180 := eq_true q180
      have p188 : 0 ≤ (0 : Int) := (by omega)
      have q188 : 0 < (t168.length : Int) := of_decide_eq_true (by first | (with_reducible assumption) | assumption)
      obtain ⟨ad188, A188_0, c188_0, A188_1, c188_1, e188, hx188_0, hx188_1, hl188_0, hi188_0, hl188_1, hi188_1⟩ := at_T27 (Kd.S_reads' HO_3.out).2.2 0 p188 q188
      obtain rfl : ad180 = ad188 := (by injection e188)
      obtain ⟨ce188, hce188, hMe188, hcc188⟩ := Kd.S_get HO_3.out z27 0 p188 (by first | exact q188 | exact of_decide_eq_true (by first | (with_reducible assumption) | assumption) | (have e_ := (Kd.S_reads' HO_3.out).1; omega))
      obtain ⟨ve188_0, ve188_1, rfl, ge188_0, ge188_1⟩ := k27_openM hMe188
      have hv188_0 := hcc188 0 _ rfl
      rw [Nat.add_zero] at hv188_0
      replace hv188_0 := Option.some.inj (hv188_0.symm.trans hx188_0)
      rw [hv188_0] at ge188_0
      have HL188_0 := Aside0.mk (show Kd.R (Kd.int .i64) 3 _ _ _ _ ((rd_T27 t168 0).f0) from ge188_0)
      clear hv188_0 ge188_0
      have hv188_1 := hcc188 1 _ rfl
      rw [add_field _ _ 1 (by omega)] at hv188_1
      replace hv188_1 := Option.some.inj (hv188_1.symm.trans hx188_1)
      rw [hv188_1] at ge188_1
      have HL188_1 := Aside0.mk (show Kd.R (Kd.int .i64) 3 _ _ _ _ ((rd_T27 t168 0).f1) from ge188_1)
      clear hv188_1 ge188_1
      clear hcc188 hce188
      have qi188 : (0 < t168.length) = True := eq_true (by omega)
      (try rw [show ((0 : Int)).toNat = 0 from rfl] at hx188_0)
      (try rw [show 0 * 2 = 0 from rfl] at hx188_0)
      (try rw [Addr.add_zero'] at hx188_0)
      (try rw [show ((0 : Int)).toNat = 0 from rfl] at hx188_1)
      (try rw [show 0 * 2 = 0 from rfl] at hx188_1)
      (try rw [Addr.add_zero'] at hx188_1)
      have HR188_0 := Aside0.mk hi188_0
      have HC188_0 := Aside0.mk hl188_0
      clear hi188_0 hl188_0
      have HR188_1 := Aside0.mk hi188_1
      have HC188_1 := Aside0.mk hl188_1
      clear hi188_1 hl188_1
      replace p188 := eq_true p188
      replace q188 := eq_true q188
      have p190 : 0 ≤ (0 : Int) := (by omega)
      have q190 : 0 < (t168.length : Int) := of_decide_eq_true (by first | (with_reducible assumption) | assumption)
      obtain ⟨ad190, A190_0, c190_0, A190_1, c190_1, e190, hx190_0, hx190_1, hl190_0, hi190_0, hl190_1, hi190_1⟩ := at_T27 (Kd.S_reads' HO_3.out).2.2 0 p190 q190
      obtain rfl : ad180 = ad190 := (by injection e190)
      obtain ⟨ce190, hce190, hMe190, hcc190⟩ := Kd.S_get HO_3.out z27 0 p190 (by first | exact q190 | exact of_decide_eq_true (by first | (with_reducible assumption) | assumption) | (have e_ := (Kd.S_reads' HO_3.out).1; omega))
      obtain ⟨ve190_0, ve190_1, rfl, ge190_0, ge190_1⟩ := k27_openM hMe190
      have hv190_0 := hcc190 0 _ rfl
      rw [Nat.add_zero] at hv190_0
      replace hv190_0 := Option.some.inj (hv190_0.symm.trans hx190_0)
      rw [hv190_0] at ge190_0
      have HL190_0 := Aside0.mk (show Kd.R (Kd.int .i64) 3 _ _ _ _ ((rd_T27 t168 0).f0) from ge190_0)
      clear hv190_0 ge190_0
      have hv190_1 := hcc190 1 _ rfl
      rw [add_field _ _ 1 (by omega)] at hv190_1
      replace hv190_1 := Option.some.inj (hv190_1.symm.trans hx190_1)
      rw [hv190_1] at ge190_1
      have HL190_1 := Aside0.mk (show Kd.R (Kd.int .i64) 3 _ _ _ _ ((rd_T27 t168 0).f1) from ge190_1)
      clear hv190_1 ge190_1
      clear hcc190 hce190
      have qi190 : (0 < t168.length) = True := eq_true (by omega)
      (try rw [show ((0 : Int)).toNat = 0 from rfl] at hx190_0)
      (try rw [show 0 * 2 = 0 from rfl] at hx190_0)
      (try rw [Addr.add_zero'] at hx190_0)
      (try rw [show ((0 : Int)).toNat = 0 from rfl] at hx190_1)
      (try rw [show 0 * 2 = 0 from rfl] at hx190_1)
      (try rw [Addr.add_zero'] at hx190_1)
      have HR190_0 := Aside0.mk hi190_0
      have HC190_0 := Aside0.mk hl190_0
      clear hi190_0 hl190_0
      have HR190_1 := Aside0.mk hi190_1
      have HC190_1 := Aside0.mk hl190_1
      clear hi190_1 hl190_1
      replace p190 := eq_true p190
      replace q190 := eq_true q190
      have ea_ := Option.some.inj (hx180_0.symm.trans hx188_0)
      injection ea_ with eb_ ec_ ed_
      subst eb_
      subst ed_
      clear ec_
      have ea_ := Option.some.inj (hx180_1.symm.trans hx188_1)
      injection ea_ with eb_ ec_ ed_
      subst eb_
      subst ed_
      clear ec_
      have ea_ := Option.some.inj (hx180_0.symm.trans hx190_0)
      injection ea_ with eb_ ec_ ed_
      subst eb_
      subst ed_
      clear ec_
      have ea_ := Option.some.inj (hx180_1.symm.trans hx190_1)
      injection ea_ with eb_ ec_ ed_
      subst eb_
      subst ed_
      clear ec_
      clear hx188_0 HL188_0 HR188_0 HC188_0
      clear hx188_1 HL188_1 HR188_1 HC188_1
      clear hx190_0 HL190_0 HR190_0 HC190_0
      clear hx190_1 HL190_1 HR190_1 HC190_1
      refine start_ (n := 25) (S := fun w' => w'.cell? ⟨gb160, 0, none⟩ = some (.slice Ao10 y154.length co10) ∧ w'.cell? ⟨gb160, 1, none⟩ = some (.slice Ao9 y157.length co9) ∧ w'.cell? ⟨gb167, 0, none⟩ = some (.slice Ao18 y161.length co18) ∧ w'.cell? ⟨gb167, 1, none⟩ = some (.slice Ao17 y164.length co17) ∧ w'.cell? ad180 = some (.slice A180_0 ((rd_T27 t168 0).f0).length c180_0) ∧ w'.cell? ⟨ad180.block, ad180.off + 1, none⟩ = some (.slice A180_1 ((rd_T27 t168 0).f1).length c180_1) ∧ w'.cell? ad180 = some (.slice A180_0 ((rd_T27 t168 0).f0).length c180_0) ∧ w'.cell? ⟨ad180.block, ad180.off + 1, none⟩ = some (.slice A180_1 ((rd_T27 t168 0).f1).length c180_1) ∧ w'.cell? ad180 = some (.slice A180_0 ((rd_T27 t168 0).f0).length c180_0) ∧ w'.cell? ⟨ad180.block, ad180.off + 1, none⟩ = some (.slice A180_1 ((rd_T27 t168 0).f1).length c180_1)) (ds := []) #[false, false, false, false, false, false, false, false, false, false, false, false, false, false, false, false, false, false, false, false, false, false, false, false, false] (by kernel_rfl) rfl rfl ⟨(blk_cell BK160.out 0).trans rfl, (blk_cell BK160.out 1).trans rfl, (blk_cell BK167.out 0).trans rfl, (blk_cell BK167.out 1).trans rfl, hx180_0, hx180_1, hx180_0, hx180_1, hx180_0, hx180_1⟩ (fun hHeld => ?_); refine with_tabW scarfjointlaw06_awake.tab8 scarfjointlaw06_awake.bits8 (fun HT_ HW_ => ?_)
      generalize wc.drew = w47 at HO_3 HO_161000 HO_161001 HO_168000 HO_168001 BK160 BK167 HB HL180_0 HL180_1 HR180_0 HR180_1 hx180_0 hx180_1 hHeld ⊢
      refine pw_ (i := 0) (N := some 60) (bm_ 25 1) rfl HT_.out ?_
      refine pw_ (i := 1) (N := some 61) (bm_ 25 3) rfl HT_.out ?_
      refine tw_ (i := 2) (N := some 62) (bm_ 25 7) rfl HT_.out HW_.out hHeld ?_
      refine join_ (σ := Value × Value) 20 (bm_ 25 31) (fun s_ => [(63, s_.1), (64, s_.2)]) (fun s_ w' => (w'.cell? ⟨gb160, 0, none⟩ = some (.slice Ao10 y154.length co10) ∧ w'.cell? ⟨gb160, 1, none⟩ = some (.slice Ao9 y157.length co9) ∧ w'.cell? ⟨gb167, 0, none⟩ = some (.slice Ao18 y161.length co18) ∧ w'.cell? ⟨gb167, 1, none⟩ = some (.slice Ao17 y164.length co17) ∧ w'.cell? ad180 = some (.slice A180_0 ((rd_T27 t168 0).f0).length c180_0) ∧ w'.cell? ⟨ad180.block, ad180.off + 1, none⟩ = some (.slice A180_1 ((rd_T27 t168 0).f1).length c180_1) ∧ w'.cell? ad180 = some (.slice A180_0 ((rd_T27 t168 0).f0).length c180_0) ∧ w'.cell? ⟨ad180.block, ad180.off + 1, none⟩ = some (.slice A180_1 ((rd_T27 t168 0).f1).length c180_1) ∧ w'.cell? ad180 = some (.slice A180_0 ((rd_T27 t168 0).f0).length c180_0) ∧ w'.cell? ⟨ad180.block, ad180.off + 1, none⟩ = some (.slice A180_1 ((rd_T27 t168 0).f1).length c180_1)) ∧ (Kd.R (Kd.int .i64) 3 w' w.heap.size (fun k_ => some k_ ≠ (s_.1 : Value).ownBlock ∧ some k_ ≠ (s_.2 : Value).ownBlock ∧ nw_ k_ Ao10 y154.length co10 ∧ nw_ k_ Ao18 y161.length co18 ∧ some k_ ≠ (.slice (some ad180) t168.length co48 : Value).ownBlock) (.slice A180_0 ((rd_T27 t168 0).f0).length c180_0) ((rd_T27 t168 0).f0)) ∧ (Kd.R (Kd.int .i64) 3 w' w.heap.size (fun k_ => some k_ ≠ (s_.1 : Value).ownBlock ∧ some k_ ≠ (s_.2 : Value).ownBlock ∧ nw_ k_ Ao10 y154.length co10 ∧ nw_ k_ Ao18 y161.length co18 ∧ some k_ ≠ (.slice (some ad180) t168.length co48 : Value).ownBlock) (.slice A180_1 ((rd_T27 t168 0).f1).length c180_1) ((rd_T27 t168 0).f1)) ∧ (Kd.R (Kd.int .i64) 3 w' w.heap.size (fun k_ => some k_ ≠ (.slice A180_0 ((rd_T27 t168 0).f0).length c180_0 : Value).ownBlock ∧ some k_ ≠ (.slice A180_1 ((rd_T27 t168 0).f1).length c180_1 : Value).ownBlock ∧ some k_ ≠ (s_.2 : Value).ownBlock ∧ nw_ k_ Ao10 y154.length co10 ∧ nw_ k_ Ao18 y161.length co18) s_.1 y181) ∧ (Kd.R (Kd.int .i64) 3 w' w.heap.size (fun k_ => some k_ ≠ (.slice A180_0 ((rd_T27 t168 0).f0).length c180_0 : Value).ownBlock ∧ some k_ ≠ (.slice A180_1 ((rd_T27 t168 0).f1).length c180_1 : Value).ownBlock ∧ some k_ ≠ (s_.1 : Value).ownBlock ∧ nw_ k_ Ao10 y154.length co10 ∧ nw_ k_ Ao18 y161.length co18) s_.2 y184) ∧ (Kd.R (Kd.int .i64) 3 w' w.heap.size (fun k_ => some k_ ≠ (s_.1 : Value).ownBlock ∧ some k_ ≠ (s_.2 : Value).ownBlock ∧ nw_ k_ Ao18 y161.length co18) (.slice Ao10 y154.length co10) y154) ∧ (Kd.R k65 65 w' w.heap.size (fun k_ => nw_ k_ Ao17 y164.length co17) (.slice Ao9 y157.length co9) y157) ∧ (Kd.R (Kd.int .i64) 3 w' w.heap.size (fun k_ => some k_ ≠ (s_.1 : Value).ownBlock ∧ some k_ ≠ (s_.2 : Value).ownBlock ∧ nw_ k_ Ao10 y154.length co10) (.slice Ao18 y161.length co18) y161) ∧ (Kd.R k65 65 w' w.heap.size (fun k_ => nw_ k_ Ao9 y157.length co9) (.slice Ao17 y164.length co17) y164) ∧ (Kd.S k27 27 w' w.heap.size (fun k_ => some k_ ≠ (s_.1 : Value).ownBlock ∧ some k_ ≠ (s_.2 : Value).ownBlock ∧ nw_ k_ Ao10 y154.length co10 ∧ nw_ k_ Ao18 y161.length co18) (.slice (some ad180) t168.length co48) t168) ∧ (w'.heap[gb160]? = some (.cells #[.slice Ao10 y154.length co10, .slice Ao9 y157.length co9] 25 (0, 0))) ∧ (w'.heap[gb167]? = some (.cells #[.slice Ao18 y161.length co18, .slice Ao17 y164.length co17] 25 (0, 0))) ∧ (Below w.heap.size w w')) ?_ ?_
      rotate_left
      ·intro hCont
       refine two_ (i := 3) (j := 4) (Ni := some 63) (Nj := some 64) (bm_ 25 15) (bm_ 25 23) rfl rfl rfl rfl (two_of HT_.out (by kernel_rfl)) (by decide) (by decide) (fun K hK => ?_) (fun K hK => ?_)
       ·skip
        refine Kd.R_lit_step (Kd.int .i64) _ 3 ?hg (N := 63) ?hd (xs := ([0, 0] : List Int)) (inner := [.int .i64 0, .int .i64 0]) (ok := fun _ => True) (okp := fun _ => True) ?hr ?hp (fun _ hk => hk) trivial (Below.refl _ _) (Nat.le_refl _) (by simp) ?_; (case hd => rfl); (case hg => rfl); (case hr => first | (go_simp; done) | (go_simp; rfl)); (case hp => exact (Reps.one (show Kd.M (Kd.int .i64) _ _ _ 0 [.int .i64 0] from rfl) (Reps.one (show Kd.M (Kd.int .i64) _ _ _ 0 [.int .i64 0] from rfl) (Reps.none _ _))))
        intro v182 w49 ho50 hb hg_ hnew_
        have HS4_ := (hb.cell (World.block_lt_of_cell? _ _ (hHeld.2.2.2.2.1))).trans (hHeld.2.2.2.2.1)
        have HS5_ := (hb.cell (World.block_lt_of_cell? _ _ (hHeld.2.2.2.2.2.1))).trans (hHeld.2.2.2.2.2.1)
        have HS6_ := (hb.cell (World.block_lt_of_cell? _ _ (hHeld.2.2.2.2.2.2.1))).trans (hHeld.2.2.2.2.2.2.1)
        have HS7_ := (hb.cell (World.block_lt_of_cell? _ _ (hHeld.2.2.2.2.2.2.2.1))).trans (hHeld.2.2.2.2.2.2.2.1)
        have HS8_ := (hb.cell (World.block_lt_of_cell? _ _ (hHeld.2.2.2.2.2.2.2.2.1))).trans (hHeld.2.2.2.2.2.2.2.2.1)
        have HS9_ := (hb.cell (World.block_lt_of_cell? _ _ (hHeld.2.2.2.2.2.2.2.2.2))).trans (hHeld.2.2.2.2.2.2.2.2.2)
        clear hg_ hnew_
        (first | rw [← Ny181.out] at ho50 | (simp only [Int.reduceToNat] at ho50; rw [← Ny181.out] at ho50))
        replace HO_3 := Aside0.mk (Kd.S_elder' (ms_ HO_3.out) (Kd.R_base ho50) hb)
        replace HO_161001 := rb_ (mr_ HO_161001.out) hb
        replace HO_168001 := rb_ (mr_ HO_168001.out) hb
        have HO183 := rz_ (rn_ (rn_ (rn_ (Kd.R_new' ho50 (Kd.R_lt (mr_ HO_161000.out))) (mr_ HO_168000.out)) (mr_ HL180_0.out)) (mr_ HL180_1.out)) (mbs_ HB.out)
        replace HO_161000 := Aside0.mk (Kd.R_elder' (mr_ HO_161000.out) (Kd.R_base ho50) hb)
        replace HO_168000 := Aside0.mk (Kd.R_elder' (mr_ HO_168000.out) (Kd.R_base ho50) hb)
        replace HL180_0 := Aside0.mk (Kd.R_elder' (mr_ HL180_0.out) (Kd.R_base ho50) hb)
        replace HL180_1 := Aside0.mk (Kd.R_elder' (mr_ HL180_1.out) (Kd.R_base ho50) hb)
        replace BK160 := kb_ (bk_ BK160.out) hb
        replace BK167 := kb_ (bk_ BK167.out) hb
        replace HR180_0 := Aside0.mk (Kd.C_below (by repeat (first | (with_reducible exact HR180_0.out) | (with_reducible refine Kd.C_alloc ?_ _) | (with_reducible refine Kd.C_drewN ?_ _) | (with_reducible refine Kd.C_drew ?_) | exact HR180_0.out)) hb)
        replace HR180_1 := Aside0.mk (Kd.C_below (by repeat (first | (with_reducible exact HR180_1.out) | (with_reducible refine Kd.C_alloc ?_ _) | (with_reducible refine Kd.C_drewN ?_ _) | (with_reducible refine Kd.C_drew ?_) | exact HR180_1.out)) hb)
        replace HB := Aside0.mk (below_step (mbs_ HB.out) hb)
        clear hb ho50
        refine hK.out _ _ ⟨(blk_cell BK160.out 0).trans rfl, (blk_cell BK160.out 1).trans rfl, (blk_cell BK167.out 0).trans rfl, (blk_cell BK167.out 1).trans rfl, HS4_, HS5_, HS6_, HS7_, HS8_, HS9_⟩ (fun hHeld => ?_)
        clear hK K
        refine norm_ (a' := ?_) ?_ ?_
        rotate_left
        ·show Act.put _ (some 63) _ = _
         simp only [Act.put, List.setIfInBounds_toArray, List.set_cons_zero, List.set_cons_succ, i64_w, i32_w]
         rfl
        refine one_ (i := 4) (N := some 64) (bm_ 25 31) rfl rfl (one_of HT_.out (by kernel_rfl)) (by decide) (fun K hK => ?_)
        refine Kd.R_lit_step (Kd.int .i64) _ 3 ?hg (N := 64) ?hd (xs := ([0] : List Int)) (inner := [.int .i64 0]) (ok := fun _ => True) (okp := fun _ => True) ?hr ?hp (fun _ hk => hk) trivial (Below.refl _ _) (Nat.le_refl _) (by simp) ?_; (case hd => rfl); (case hg => rfl); (case hr => first | (go_simp; done) | (go_simp; rfl)); (case hp => exact (Reps.one (show Kd.M (Kd.int .i64) _ _ _ 0 [.int .i64 0] from rfl) (Reps.none _ _)))
        intro v185 w51 ho52 hb hg_ hnew_
        have HS4_ := (hb.cell (World.block_lt_of_cell? _ _ (hHeld.2.2.2.2.1))).trans (hHeld.2.2.2.2.1)
        have HS5_ := (hb.cell (World.block_lt_of_cell? _ _ (hHeld.2.2.2.2.2.1))).trans (hHeld.2.2.2.2.2.1)
        have HS6_ := (hb.cell (World.block_lt_of_cell? _ _ (hHeld.2.2.2.2.2.2.1))).trans (hHeld.2.2.2.2.2.2.1)
        have HS7_ := (hb.cell (World.block_lt_of_cell? _ _ (hHeld.2.2.2.2.2.2.2.1))).trans (hHeld.2.2.2.2.2.2.2.1)
        have HS8_ := (hb.cell (World.block_lt_of_cell? _ _ (hHeld.2.2.2.2.2.2.2.2.1))).trans (hHeld.2.2.2.2.2.2.2.2.1)
        have HS9_ := (hb.cell (World.block_lt_of_cell? _ _ (hHeld.2.2.2.2.2.2.2.2.2))).trans (hHeld.2.2.2.2.2.2.2.2.2)
        clear hg_ hnew_
        (first | rw [← Ny184.out] at ho52 | (simp only [Int.reduceToNat] at ho52; rw [← Ny184.out] at ho52))
        replace HO_3 := Aside0.mk (Kd.S_elder' (ms_ HO_3.out) (Kd.R_base ho52) hb)
        replace HO_161001 := rb_ (mr_ HO_161001.out) hb
        replace HO_168001 := rb_ (mr_ HO_168001.out) hb
        have HO186 := rz_ (rn_ (rn_ (rn_ (rn_ (Kd.R_new' ho52 (Kd.R_lt (mr_ HO_161000.out))) (mr_ HO_168000.out)) (mr_ HL180_0.out)) (mr_ HL180_1.out)) (mr_ HO183.out)) (mbs_ HB.out)
        replace HO_161000 := Aside0.mk (Kd.R_elder' (mr_ HO_161000.out) (Kd.R_base ho52) hb)
        replace HO_168000 := Aside0.mk (Kd.R_elder' (mr_ HO_168000.out) (Kd.R_base ho52) hb)
        replace HL180_0 := Aside0.mk (Kd.R_elder' (mr_ HL180_0.out) (Kd.R_base ho52) hb)
        replace HL180_1 := Aside0.mk (Kd.R_elder' (mr_ HL180_1.out) (Kd.R_base ho52) hb)
        replace HO183 := Aside0.mk (Kd.R_elder' (mr_ HO183.out) (Kd.R_base ho52) hb)
        replace BK160 := kb_ (bk_ BK160.out) hb
        replace BK167 := kb_ (bk_ BK167.out) hb
        replace HR180_0 := Aside0.mk (Kd.C_below (by repeat (first | (with_reducible exact HR180_0.out) | (with_reducible refine Kd.C_alloc ?_ _) | (with_reducible refine Kd.C_drewN ?_ _) | (with_reducible refine Kd.C_drew ?_) | exact HR180_0.out)) hb)
        replace HR180_1 := Aside0.mk (Kd.C_below (by repeat (first | (with_reducible exact HR180_1.out) | (with_reducible refine Kd.C_alloc ?_ _) | (with_reducible refine Kd.C_drewN ?_ _) | (with_reducible refine Kd.C_drew ?_) | exact HR180_1.out)) hb)
        replace HB := Aside0.mk (below_step (mbs_ HB.out) hb)
        clear hb ho52
        obtain ⟨Ao53, co53, eo53⟩ := Kd.R_slice HO186.out
        (first | subst eo53 | (injection eo53 with f1_ f2_ f3_; have f4_ := f1_.symm; have f5_ := f3_.symm; clear f1_ f2_ f3_; subst f4_; subst f5_))
        obtain ⟨Ao54, co54, eo54⟩ := Kd.R_slice HO183.out
        (first | subst eo54 | (injection eo54 with f1_ f2_ f3_; have f4_ := f1_.symm; have f5_ := f3_.symm; clear f1_ f2_ f3_; subst f4_; subst f5_))
        refine hK.out _ _ ⟨(blk_cell BK160.out 0).trans rfl, (blk_cell BK160.out 1).trans rfl, (blk_cell BK167.out 0).trans rfl, (blk_cell BK167.out 1).trans rfl, HS4_, HS5_, HS6_, HS7_, HS8_, HS9_⟩ (fun hHeld => ?_)
        clear hK K
        refine norm_ (a' := ?_) ?_ ?_
        rotate_left
        ·show Act.put _ (some 64) _ = _
         simp only [Act.put, List.setIfInBounds_toArray, List.set_cons_zero, List.set_cons_succ, i64_w, i32_w]
         rfl
        exact norm_ (by simp only [putAll, Act.put, List.setIfInBounds_toArray, List.set_cons_zero, List.set_cons_succ]) (hCont (.slice Ao54 y181.length co54, .slice Ao53 y184.length co53) _ ⟨hHeld, (mrm_ HL180_0.out (fun _ hk => ⟨hk.1.2, ⟨hk.2, ⟨hk.1.1.1.1, ⟨hk.1.1.1.2, hk.1.1.2⟩⟩⟩⟩)), (mrm_ HL180_1.out (fun _ hk => ⟨hk.1.2, ⟨hk.2, ⟨hk.1.1.1.1, ⟨hk.1.1.1.2, hk.1.1.2⟩⟩⟩⟩)), (mrm_ HO183.out (fun _ hk => ⟨hk.1.1.2, ⟨hk.1.2, ⟨hk.2, ⟨hk.1.1.1.1.2, hk.1.1.1.2⟩⟩⟩⟩)), (mrm_ HO186.out (fun _ hk => ⟨hk.1.1.2, ⟨hk.1.2, ⟨hk.2, ⟨hk.1.1.1.1.2, hk.1.1.1.2⟩⟩⟩⟩)), (mrm_ HO_161000.out (fun _ hk => ⟨hk.1.2, ⟨hk.2, hk.1.1⟩⟩)), (mr_ HO_161001.out), (mrm_ HO_168000.out (fun _ hk => ⟨hk.1.2, ⟨hk.2, hk.1.1⟩⟩)), (mr_ HO_168001.out), (by (with_reducible repeat (first | apply Kd.S_alloc | apply Kd.S_drewN | apply Kd.S_drew)); exact Kd.S_mono HO_3.out (fun _ hk => ⟨hk.1.2, ⟨hk.2, ⟨hk.1.1.1, hk.1.1.2⟩⟩⟩)), (bk_ BK160.out), (bk_ BK167.out), (mbs_ HB.out)⟩)
       skip
       refine Kd.R_lit_step (Kd.int .i64) _ 3 ?hg (N := 64) ?hd (xs := ([0] : List Int)) (inner := [.int .i64 0]) (ok := fun _ => True) (okp := fun _ => True) ?hr ?hp (fun _ hk => hk) trivial (Below.refl _ _) (Nat.le_refl _) (by simp) ?_; (case hd => rfl); (case hg => rfl); (case hr => first | (go_simp; done) | (go_simp; rfl)); (case hp => exact (Reps.one (show Kd.M (Kd.int .i64) _ _ _ 0 [.int .i64 0] from rfl) (Reps.none _ _)))
       intro v185 w49 ho50 hb hg_ hnew_
       have HS4_ := (hb.cell (World.block_lt_of_cell? _ _ (hHeld.2.2.2.2.1))).trans (hHeld.2.2.2.2.1)
       have HS5_ := (hb.cell (World.block_lt_of_cell? _ _ (hHeld.2.2.2.2.2.1))).trans (hHeld.2.2.2.2.2.1)
       have HS6_ := (hb.cell (World.block_lt_of_cell? _ _ (hHeld.2.2.2.2.2.2.1))).trans (hHeld.2.2.2.2.2.2.1)
       have HS7_ := (hb.cell (World.block_lt_of_cell? _ _ (hHeld.2.2.2.2.2.2.2.1))).trans (hHeld.2.2.2.2.2.2.2.1)
       have HS8_ := (hb.cell (World.block_lt_of_cell? _ _ (hHeld.2.2.2.2.2.2.2.2.1))).trans (hHeld.2.2.2.2.2.2.2.2.1)
       have HS9_ := (hb.cell (World.block_lt_of_cell? _ _ (hHeld.2.2.2.2.2.2.2.2.2))).trans (hHeld.2.2.2.2.2.2.2.2.2)
       clear hg_ hnew_
       (first | rw [← Ny184.out] at ho50 | (simp only [Int.reduceToNat] at ho50; rw [← Ny184.out] at ho50))
       replace HO_3 := Aside0.mk (Kd.S_elder' (ms_ HO_3.out) (Kd.R_base ho50) hb)
       replace HO_161001 := rb_ (mr_ HO_161001.out) hb
       replace HO_168001 := rb_ (mr_ HO_168001.out) hb
       have HO186 := rz_ (rn_ (rn_ (rn_ (Kd.R_new' ho50 (Kd.R_lt (mr_ HO_161000.out))) (mr_ HO_168000.out)) (mr_ HL180_0.out)) (mr_ HL180_1.out)) (mbs_ HB.out)
       replace HO_161000 := Aside0.mk (Kd.R_elder' (mr_ HO_161000.out) (Kd.R_base ho50) hb)
       replace HO_168000 := Aside0.mk (Kd.R_elder' (mr_ HO_168000.out) (Kd.R_base ho50) hb)
       replace HL180_0 := Aside0.mk (Kd.R_elder' (mr_ HL180_0.out) (Kd.R_base ho50) hb)
       replace HL180_1 := Aside0.mk (Kd.R_elder' (mr_ HL180_1.out) (Kd.R_base ho50) hb)
       replace BK160 := kb_ (bk_ BK160.out) hb
       replace BK167 := kb_ (bk_ BK167.out) hb
       replace HR180_0 := Aside0.mk (Kd.C_below (by repeat (first | (with_reducible exact HR180_0.out) | (with_reducible refine Kd.C_alloc ?_ _) | (with_reducible refine Kd.C_drewN ?_ _) | (with_reducible refine Kd.C_drew ?_) | exact HR180_0.out)) hb)
       replace HR180_1 := Aside0.mk (Kd.C_below (by repeat (first | (with_reducible exact HR180_1.out) | (with_reducible refine Kd.C_alloc ?_ _) | (with_reducible refine Kd.C_drewN ?_ _) | (with_reducible refine Kd.C_drew ?_) | exact HR180_1.out)) hb)
       replace HB := Aside0.mk (below_step (mbs_ HB.out) hb)
       clear hb ho50
       refine hK.out _ _ ⟨(blk_cell BK160.out 0).trans rfl, (blk_cell BK160.out 1).trans rfl, (blk_cell BK167.out 0).trans rfl, (blk_cell BK167.out 1).trans rfl, HS4_, HS5_, HS6_, HS7_, HS8_, HS9_⟩ (fun hHeld => ?_)
       clear hK K
       refine norm_ (a' := ?_) ?_ ?_
       rotate_left
       ·show Act.put _ (some 64) _ = _
        simp only [Act.put, List.setIfInBounds_toArray, List.set_cons_zero, List.set_cons_succ, i64_w, i32_w]
        rfl
       refine one_ (i := 3) (N := some 63) (bm_ 25 31) rfl rfl (one_of HT_.out (by kernel_rfl)) (by decide) (fun K hK => ?_)
       refine Kd.R_lit_step (Kd.int .i64) _ 3 ?hg (N := 63) ?hd (xs := ([0, 0] : List Int)) (inner := [.int .i64 0, .int .i64 0]) (ok := fun _ => True) (okp := fun _ => True) ?hr ?hp (fun _ hk => hk) trivial (Below.refl _ _) (Nat.le_refl _) (by simp) ?_; (case hd => rfl); (case hg => rfl); (case hr => first | (go_simp; done) | (go_simp; rfl)); (case hp => exact (Reps.one (show Kd.M (Kd.int .i64) _ _ _ 0 [.int .i64 0] from rfl) (Reps.one (show Kd.M (Kd.int .i64) _ _ _ 0 [.int .i64 0] from rfl) (Reps.none _ _))))
       intro v182 w51 ho52 hb hg_ hnew_
       have HS4_ := (hb.cell (World.block_lt_of_cell? _ _ (hHeld.2.2.2.2.1))).trans (hHeld.2.2.2.2.1)
       have HS5_ := (hb.cell (World.block_lt_of_cell? _ _ (hHeld.2.2.2.2.2.1))).trans (hHeld.2.2.2.2.2.1)
       have HS6_ := (hb.cell (World.block_lt_of_cell? _ _ (hHeld.2.2.2.2.2.2.1))).trans (hHeld.2.2.2.2.2.2.1)
       have HS7_ := (hb.cell (World.block_lt_of_cell? _ _ (hHeld.2.2.2.2.2.2.2.1))).trans (hHeld.2.2.2.2.2.2.2.1)
       have HS8_ := (hb.cell (World.block_lt_of_cell? _ _ (hHeld.2.2.2.2.2.2.2.2.1))).trans (hHeld.2.2.2.2.2.2.2.2.1)
       have HS9_ := (hb.cell (World.block_lt_of_cell? _ _ (hHeld.2.2.2.2.2.2.2.2.2))).trans (hHeld.2.2.2.2.2.2.2.2.2)
       clear hg_ hnew_
       (first | rw [← Ny181.out] at ho52 | (simp only [Int.reduceToNat] at ho52; rw [← Ny181.out] at ho52))
       replace HO_3 := Aside0.mk (Kd.S_elder' (ms_ HO_3.out) (Kd.R_base ho52) hb)
       replace HO_161001 := rb_ (mr_ HO_161001.out) hb
       replace HO_168001 := rb_ (mr_ HO_168001.out) hb
       have HO183 := rz_ (rn_ (rn_ (rn_ (rn_ (Kd.R_new' ho52 (Kd.R_lt (mr_ HO_161000.out))) (mr_ HO_168000.out)) (mr_ HL180_0.out)) (mr_ HL180_1.out)) (mr_ HO186.out)) (mbs_ HB.out)
       replace HO_161000 := Aside0.mk (Kd.R_elder' (mr_ HO_161000.out) (Kd.R_base ho52) hb)
       replace HO_168000 := Aside0.mk (Kd.R_elder' (mr_ HO_168000.out) (Kd.R_base ho52) hb)
       replace HL180_0 := Aside0.mk (Kd.R_elder' (mr_ HL180_0.out) (Kd.R_base ho52) hb)
       replace HL180_1 := Aside0.mk (Kd.R_elder' (mr_ HL180_1.out) (Kd.R_base ho52) hb)
       replace HO186 := Aside0.mk (Kd.R_elder' (mr_ HO186.out) (Kd.R_base ho52) hb)
       replace BK160 := kb_ (bk_ BK160.out) hb
       replace BK167 := kb_ (bk_ BK167.out) hb
       replace HR180_0 := Aside0.mk (Kd.C_below (by repeat (first | (with_reducible exact HR180_0.out) | (with_reducible refine Kd.C_alloc ?_ _) | (with_reducible refine Kd.C_drewN ?_ _) | (with_reducible refine Kd.C_drew ?_) | exact HR180_0.out)) hb)
       replace HR180_1 := Aside0.mk (Kd.C_below (by repeat (first | (with_reducible exact HR180_1.out) | (with_reducible refine Kd.C_alloc ?_ _) | (with_reducible refine Kd.C_drewN ?_ _) | (with_reducible refine Kd.C_drew ?_) | exact HR180_1.out)) hb)
       replace HB := Aside0.mk (below_step (mbs_ HB.out) hb)
       clear hb ho52
       obtain ⟨Ao53, co53, eo53⟩ := Kd.R_slice HO186.out
       (first | subst eo53 | (injection eo53 with f1_ f2_ f3_; have f4_ := f1_.symm; have f5_ := f3_.symm; clear f1_ f2_ f3_; subst f4_; subst f5_))
       obtain ⟨Ao54, co54, eo54⟩ := Kd.R_slice HO183.out
       (first | subst eo54 | (injection eo54 with f1_ f2_ f3_; have f4_ := f1_.symm; have f5_ := f3_.symm; clear f1_ f2_ f3_; subst f4_; subst f5_))
       refine hK.out _ _ ⟨(blk_cell BK160.out 0).trans rfl, (blk_cell BK160.out 1).trans rfl, (blk_cell BK167.out 0).trans rfl, (blk_cell BK167.out 1).trans rfl, HS4_, HS5_, HS6_, HS7_, HS8_, HS9_⟩ (fun hHeld => ?_)
       clear hK K
       refine norm_ (a' := ?_) ?_ ?_
       rotate_left
       ·show Act.put _ (some 63) _ = _
        simp only [Act.put, List.setIfInBounds_toArray, List.set_cons_zero, List.set_cons_succ, i64_w, i32_w]
        rfl
       exact norm_ (by simp only [putAll, Act.put, List.setIfInBounds_toArray, List.set_cons_zero, List.set_cons_succ]) (hCont (.slice Ao54 y181.length co54, .slice Ao53 y184.length co53) _ ⟨hHeld, (mrm_ HL180_0.out (fun _ hk => ⟨hk.2, ⟨hk.1.2, ⟨hk.1.1.1.1, ⟨hk.1.1.1.2, hk.1.1.2⟩⟩⟩⟩)), (mrm_ HL180_1.out (fun _ hk => ⟨hk.2, ⟨hk.1.2, ⟨hk.1.1.1.1, ⟨hk.1.1.1.2, hk.1.1.2⟩⟩⟩⟩)), (mrm_ HO183.out (fun _ hk => ⟨hk.1.1.2, ⟨hk.1.2, ⟨hk.2, ⟨hk.1.1.1.1.2, hk.1.1.1.2⟩⟩⟩⟩)), (mrm_ HO186.out (fun _ hk => ⟨hk.1.1.2, ⟨hk.1.2, ⟨hk.2, ⟨hk.1.1.1.1.2, hk.1.1.1.2⟩⟩⟩⟩)), (mrm_ HO_161000.out (fun _ hk => ⟨hk.2, ⟨hk.1.2, hk.1.1⟩⟩)), (mr_ HO_161001.out), (mrm_ HO_168000.out (fun _ hk => ⟨hk.2, ⟨hk.1.2, hk.1.1⟩⟩)), (mr_ HO_168001.out), (by (with_reducible repeat (first | apply Kd.S_alloc | apply Kd.S_drewN | apply Kd.S_drew)); exact Kd.S_mono HO_3.out (fun _ hk => ⟨hk.2, ⟨hk.1.2, ⟨hk.1.1.1, hk.1.1.2⟩⟩⟩)), (bk_ BK160.out), (bk_ BK167.out), (mbs_ HB.out)⟩)
      rintro ⟨v182, v185⟩ w55 ⟨hS_, h0_, h1_, h2_, h3_, h4_, h5_, h6_, h7_, h8_, h9_, h10_, h11_⟩
      have HL180_0 : Aside0 (Kd.R (Kd.int .i64) 3 w55 w.heap.size (fun k_ => some k_ ≠ (v182 : Value).ownBlock ∧ some k_ ≠ (v185 : Value).ownBlock ∧ nw_ k_ Ao10 y154.length co10 ∧ nw_ k_ Ao18 y161.length co18 ∧ some k_ ≠ (.slice (some ad180) t168.length co48 : Value).ownBlock) (.slice A180_0 ((rd_T27 t168 0).f0).length c180_0) ((rd_T27 t168 0).f0)) := ⟨h0_⟩
      have HL180_1 : Aside0 (Kd.R (Kd.int .i64) 3 w55 w.heap.size (fun k_ => some k_ ≠ (v182 : Value).ownBlock ∧ some k_ ≠ (v185 : Value).ownBlock ∧ nw_ k_ Ao10 y154.length co10 ∧ nw_ k_ Ao18 y161.length co18 ∧ some k_ ≠ (.slice (some ad180) t168.length co48 : Value).ownBlock) (.slice A180_1 ((rd_T27 t168 0).f1).length c180_1) ((rd_T27 t168 0).f1)) := ⟨h1_⟩
      have HO183 : Aside0 (Kd.R (Kd.int .i64) 3 w55 w.heap.size (fun k_ => some k_ ≠ (.slice A180_0 ((rd_T27 t168 0).f0).length c180_0 : Value).ownBlock ∧ some k_ ≠ (.slice A180_1 ((rd_T27 t168 0).f1).length c180_1 : Value).ownBlock ∧ some k_ ≠ (v185 : Value).ownBlock ∧ nw_ k_ Ao10 y154.length co10 ∧ nw_ k_ Ao18 y161.length co18) v182 y181) := ⟨h2_⟩
      have HO186 : Aside0 (Kd.R (Kd.int .i64) 3 w55 w.heap.size (fun k_ => some k_ ≠ (.slice A180_0 ((rd_T27 t168 0).f0).length c180_0 : Value).ownBlock ∧ some k_ ≠ (.slice A180_1 ((rd_T27 t168 0).f1).length c180_1 : Value).ownBlock ∧ some k_ ≠ (v182 : Value).ownBlock ∧ nw_ k_ Ao10 y154.length co10 ∧ nw_ k_ Ao18 y161.length co18) v185 y184) := ⟨h3_⟩
      replace HO_161000 : Aside0 (Kd.R (Kd.int .i64) 3 w55 w.heap.size (fun k_ => some k_ ≠ (v182 : Value).ownBlock ∧ some k_ ≠ (v185 : Value).ownBlock ∧ nw_ k_ Ao18 y161.length co18) (.slice Ao10 y154.length co10) y154) := ⟨h4_⟩
      replace HO_161001 : Aside0 (Kd.R k65 65 w55 w.heap.size (fun k_ => nw_ k_ Ao17 y164.length co17) (.slice Ao9 y157.length co9) y157) := ⟨h5_⟩
      replace HO_168000 : Aside0 (Kd.R (Kd.int .i64) 3 w55 w.heap.size (fun k_ => some k_ ≠ (v182 : Value).ownBlock ∧ some k_ ≠ (v185 : Value).ownBlock ∧ nw_ k_ Ao10 y154.length co10) (.slice Ao18 y161.length co18) y161) := ⟨h6_⟩
      replace HO_168001 : Aside0 (Kd.R k65 65 w55 w.heap.size (fun k_ => nw_ k_ Ao9 y157.length co9) (.slice Ao17 y164.length co17) y164) := ⟨h7_⟩
      replace HO_3 : Aside0 (Kd.S k27 27 w55 w.heap.size (fun k_ => some k_ ≠ (v182 : Value).ownBlock ∧ some k_ ≠ (v185 : Value).ownBlock ∧ nw_ k_ Ao10 y154.length co10 ∧ nw_ k_ Ao18 y161.length co18) (.slice (some ad180) t168.length co48) t168) := ⟨h8_⟩
      replace BK160 : Aside0 (w55.heap[gb160]? = some (.cells #[.slice Ao10 y154.length co10, .slice Ao9 y157.length co9] 25 (0, 0))) := ⟨h9_⟩
      replace BK167 : Aside0 (w55.heap[gb167]? = some (.cells #[.slice Ao18 y161.length co18, .slice Ao17 y164.length co17] 25 (0, 0))) := ⟨h10_⟩
      replace HB : Aside0 (Below w.heap.size w w55) := ⟨h11_⟩
      clear h0_ h1_ h2_ h3_ h4_ h5_ h6_ h7_ h8_ h9_ h10_ h11_
      have hHeld : w55.cell? ⟨gb160, 0, none⟩ = some (.slice Ao10 y154.length co10) ∧ w55.cell? ⟨gb160, 1, none⟩ = some (.slice Ao9 y157.length co9) ∧ w55.cell? ⟨gb167, 0, none⟩ = some (.slice Ao18 y161.length co18) ∧ w55.cell? ⟨gb167, 1, none⟩ = some (.slice Ao17 y164.length co17) ∧ w55.cell? ad180 = some (.slice A180_0 ((rd_T27 t168 0).f0).length c180_0) ∧ w55.cell? ⟨ad180.block, ad180.off + 1, none⟩ = some (.slice A180_1 ((rd_T27 t168 0).f1).length c180_1) ∧ w55.cell? ad180 = some (.slice A180_0 ((rd_T27 t168 0).f0).length c180_0) ∧ w55.cell? ⟨ad180.block, ad180.off + 1, none⟩ = some (.slice A180_1 ((rd_T27 t168 0).f1).length c180_1) ∧ w55.cell? ad180 = some (.slice A180_0 ((rd_T27 t168 0).f0).length c180_0) ∧ w55.cell? ⟨ad180.block, ad180.off + 1, none⟩ = some (.slice A180_1 ((rd_T27 t168 0).f1).length c180_1) := hS_
      obtain ⟨Ao56, co56, eo56⟩ := Kd.R_slice HO186.out
      (first | subst eo56 | (injection eo56 with f1_ f2_ f3_; have f4_ := f1_.symm; have f5_ := f3_.symm; clear f1_ f2_ f3_; subst f4_; subst f5_))
      obtain ⟨Ao57, co57, eo57⟩ := Kd.R_slice HO183.out
      (first | subst eo57 | (injection eo57 with f1_ f2_ f3_; have f4_ := f1_.symm; have f5_ := f3_.symm; clear f1_ f2_ f3_; subst f4_; subst f5_))
      refine norm_ (a' := ?_) ?_ ?_
      rotate_left
      ·simp only [putAll, Act.put, List.setIfInBounds_toArray, List.set_cons_zero, List.set_cons_succ]
       rfl
      refine pw_ (i := 5) (N := some 65) (bm_ 25 63) rfl HT_.out ?_
      refine one_ (i := 6) (N := some 66) (bm_ 25 127) rfl rfl (one_of HT_.out (by kernel_rfl)) (by decide) (fun K hK => ?_)
      refine goes_ Try.func28 (by kernel_rfl) rfl #[.agg #[.slice A180_0 ((rd_T27 t168 0).f0).length c180_0, .slice A180_1 ((rd_T27 t168 0).f1).length c180_1], .agg #[.slice Ao57 y181.length co57, .slice Ao56 y184.length co56]] (by rfl) rfl rfl (by (try simp only [List.map_toArray, List.map_cons, List.map_nil]); first | done | rfl | (simp only [List.length_drop, List.length_take]; rfl)) ?_
      with_reducible refine (morphism_Same.calls kj3 _ _ ((rd_T27 t168 0).f0) _ _ ((rd_T27 t168 0).f1) _ _ y181 _ _ y184 true _ ?side1 ?side2 ?side3 ?side4 ?side5 ?side6 ?side7 ?side8 A42.out).mono ?_
      (case side1 => repeat (first | exact ((Kd.R_reads' (mr_ HL180_0.out)).2.2) | (with_reducible refine Kd.C_alloc ?_ _) | (with_reducible refine Kd.C_drewN ?_ _) | (with_reducible refine Kd.C_drew ?_)))
      (case side2 => exact HC180_0.out)
      (case side3 => repeat (first | exact ((Kd.R_reads' (mr_ HL180_1.out)).2.2) | (with_reducible refine Kd.C_alloc ?_ _) | (with_reducible refine Kd.C_drewN ?_ _) | (with_reducible refine Kd.C_drew ?_)))
      (case side4 => exact HC180_1.out)
      (case side5 => exact rc_ HO183.out)
      (case side6 => exact rl_ HO183.out)
      (case side7 => exact rc_ HO186.out)
      (case side8 => exact rl_ HO186.out)
      rintro e w58 ⟨rfl, hb⟩
      have HS4_ := (hb.cell (World.block_lt_of_cell? _ _ (hHeld.2.2.2.2.1))).trans (hHeld.2.2.2.2.1)
      have HS5_ := (hb.cell (World.block_lt_of_cell? _ _ (hHeld.2.2.2.2.2.1))).trans (hHeld.2.2.2.2.2.1)
      have HS6_ := (hb.cell (World.block_lt_of_cell? _ _ (hHeld.2.2.2.2.2.2.1))).trans (hHeld.2.2.2.2.2.2.1)
      have HS7_ := (hb.cell (World.block_lt_of_cell? _ _ (hHeld.2.2.2.2.2.2.2.1))).trans (hHeld.2.2.2.2.2.2.2.1)
      have HS8_ := (hb.cell (World.block_lt_of_cell? _ _ (hHeld.2.2.2.2.2.2.2.2.1))).trans (hHeld.2.2.2.2.2.2.2.2.1)
      have HS9_ := (hb.cell (World.block_lt_of_cell? _ _ (hHeld.2.2.2.2.2.2.2.2.2))).trans (hHeld.2.2.2.2.2.2.2.2.2)
      refine ⟨_, rfl, ?_⟩
      replace HO_3 := Aside0.mk (Kd.S_below (ms_ HO_3.out) hb)
      replace HO_161000 := rb_ (mr_ HO_161000.out) hb
      replace HO_161001 := rb_ (mr_ HO_161001.out) hb
      replace HO_168000 := rb_ (mr_ HO_168000.out) hb
      replace HO_168001 := rb_ (mr_ HO_168001.out) hb
      replace HL180_0 := rb_ (mr_ HL180_0.out) hb
      replace HL180_1 := rb_ (mr_ HL180_1.out) hb
      replace HO183 := rb_ (mr_ HO183.out) hb
      replace HO186 := rb_ (mr_ HO186.out) hb
      replace BK160 := kb_ (bk_ BK160.out) hb
      replace BK167 := kb_ (bk_ BK167.out) hb
      replace HB := Aside0.mk (below_step (mbs_ HB.out) hb)
      (try clear hb)
      (try clear hb2)
      (try clear hk)
      (try clear hi)
      refine hK.out _ _ ⟨(blk_cell BK160.out 0).trans rfl, (blk_cell BK160.out 1).trans rfl, (blk_cell BK167.out 0).trans rfl, (blk_cell BK167.out 1).trans rfl, HS4_, HS5_, HS6_, HS7_, HS8_, HS9_⟩ (fun hHeld => ?_)
      clear hK K
      refine norm_ (a' := ?_) ?_ ?_
      rotate_left
      ·show Act.put _ (some 66) _ = _
       simp only [Act.put, List.setIfInBounds_toArray, List.set_cons_zero, List.set_cons_succ, i64_w, i32_w]
       rfl
      refine pw_ (i := 7) (N := some 67) (bm_ 25 255) rfl HT_.out ?_
      refine pw_ (i := 10) (N := some 70) (bm_ 25 1279) rfl HT_.out ?_
      refine pw_ (i := 11) (N := some 71) (bm_ 25 3327) rfl HT_.out ?_
      refine tw_ (i := 8) (N := some 68) (bm_ 25 3583) rfl HT_.out HW_.out hHeld ?_
      refine tw_ (i := 9) (N := some 69) (bm_ 25 4095) rfl HT_.out HW_.out hHeld ?_
      refine tw_ (i := 12) (N := some 72) (bm_ 25 8191) rfl HT_.out HW_.out hHeld ?_
      replace HR180_0 := Aside0.mk (Kd.R_reads' HL180_0.out).2.2
      replace HR180_1 := Aside0.mk (Kd.R_reads' HL180_1.out).2.2
      refine one_ (i := 13) (N := some 73) (bm_ 25 16383) rfl rfl (one_of HT_.out (by kernel_rfl)) (by decide) (fun K hK => ?_)
      refine goes_ Try.func17 (by kernel_rfl) rfl #[.agg #[.slice Ao10 y154.length co10, .slice Ao9 y157.length co9], .agg #[.slice Ao18 y161.length co18, .slice Ao17 y164.length co17], .agg #[.slice A180_0 ((rd_T27 t168 0).f0).length c180_0, .slice A180_1 ((rd_T27 t168 0).f1).length c180_1]] (by rfl) rfl rfl (by (try simp only [List.map_toArray, List.map_cons, List.map_nil]); first | done | rfl | (simp only [List.length_drop, List.length_take]; rfl)) ?_
      with_reducible refine (morphism_Surjective.calls kj3 _ _ y154 _ _ y157 _ _ y161 _ _ y164 _ _ ((rd_T27 t168 0).f0) _ _ ((rd_T27 t168 0).f1) true _ ?side1 ?side2 ?side3 ?side4 ?side5 ?side6 ?side7 ?side8 ?side9 ?side10 ?side11 ?side12 A44.out).mono ?_
      (case side1 => exact rc_ HO_161000.out)
      (case side2 => exact rl_ HO_161000.out)
      (case side3 => exact rc_ HO_161001.out)
      (case side4 => exact rl_ HO_161001.out)
      (case side5 => exact rc_ HO_168000.out)
      (case side6 => exact rl_ HO_168000.out)
      (case side7 => exact rc_ HO_168001.out)
      (case side8 => exact rl_ HO_168001.out)
      (case side9 => repeat (first | exact (by repeat (first | (with_reducible exact HR180_0.out) | (with_reducible refine Kd.C_alloc ?_ _) | (with_reducible refine Kd.C_drewN ?_ _) | (with_reducible refine Kd.C_drew ?_) | exact HR180_0.out)) | (with_reducible refine Kd.C_alloc ?_ _) | (with_reducible refine Kd.C_drewN ?_ _) | (with_reducible refine Kd.C_drew ?_)))
      (case side10 => exact HC180_0.out)
      (case side11 => repeat (first | exact (by repeat (first | (with_reducible exact HR180_1.out) | (with_reducible refine Kd.C_alloc ?_ _) | (with_reducible refine Kd.C_drewN ?_ _) | (with_reducible refine Kd.C_drew ?_) | exact HR180_1.out)) | (with_reducible refine Kd.C_alloc ?_ _) | (with_reducible refine Kd.C_drewN ?_ _) | (with_reducible refine Kd.C_drew ?_)))
      (case side12 => exact HC180_1.out)
      rintro e w59 ⟨rfl, hb⟩
      have HS4_ := (hb.cell (World.block_lt_of_cell? _ _ (hHeld.2.2.2.2.1))).trans (hHeld.2.2.2.2.1)
      have HS5_ := (hb.cell (World.block_lt_of_cell? _ _ (hHeld.2.2.2.2.2.1))).trans (hHeld.2.2.2.2.2.1)
      have HS6_ := (hb.cell (World.block_lt_of_cell? _ _ (hHeld.2.2.2.2.2.2.1))).trans (hHeld.2.2.2.2.2.2.1)
      have HS7_ := (hb.cell (World.block_lt_of_cell? _ _ (hHeld.2.2.2.2.2.2.2.1))).trans (hHeld.2.2.2.2.2.2.2.1)
      have HS8_ := (hb.cell (World.block_lt_of_cell? _ _ (hHeld.2.2.2.2.2.2.2.2.1))).trans (hHeld.2.2.2.2.2.2.2.2.1)
      have HS9_ := (hb.cell (World.block_lt_of_cell? _ _ (hHeld.2.2.2.2.2.2.2.2.2))).trans (hHeld.2.2.2.2.2.2.2.2.2)
      refine ⟨_, rfl, ?_⟩
      replace HO_3 := Aside0.mk (Kd.S_below (ms_ HO_3.out) hb)
      replace HO_161000 := rb_ (mr_ HO_161000.out) hb
      replace HO_161001 := rb_ (mr_ HO_161001.out) hb
      replace HO_168000 := rb_ (mr_ HO_168000.out) hb
      replace HO_168001 := rb_ (mr_ HO_168001.out) hb
      replace HL180_0 := rb_ (mr_ HL180_0.out) hb
      replace HL180_1 := rb_ (mr_ HL180_1.out) hb
      replace HO183 := rb_ (mr_ HO183.out) hb
      replace HO186 := rb_ (mr_ HO186.out) hb
      replace BK160 := kb_ (bk_ BK160.out) hb
      replace BK167 := kb_ (bk_ BK167.out) hb
      replace HR180_0 := Aside0.mk (Kd.C_below (by repeat (first | (with_reducible exact HR180_0.out) | (with_reducible refine Kd.C_alloc ?_ _) | (with_reducible refine Kd.C_drewN ?_ _) | (with_reducible refine Kd.C_drew ?_) | exact HR180_0.out)) hb)
      replace HR180_1 := Aside0.mk (Kd.C_below (by repeat (first | (with_reducible exact HR180_1.out) | (with_reducible refine Kd.C_alloc ?_ _) | (with_reducible refine Kd.C_drewN ?_ _) | (with_reducible refine Kd.C_drew ?_) | exact HR180_1.out)) hb)
      replace HB := Aside0.mk (below_step (mbs_ HB.out) hb)
      (try clear hb)
      (try clear hb2)
      (try clear hk)
      (try clear hi)
      refine hK.out _ _ ⟨(blk_cell BK160.out 0).trans rfl, (blk_cell BK160.out 1).trans rfl, (blk_cell BK167.out 0).trans rfl, (blk_cell BK167.out 1).trans rfl, HS4_, HS5_, HS6_, HS7_, HS8_, HS9_⟩ (fun hHeld => ?_)
      clear hK K
      refine norm_ (a' := ?_) ?_ ?_
      rotate_left
      ·show Act.put _ (some 73) _ = _
       simp only [Act.put, List.setIfInBounds_toArray, List.set_cons_zero, List.set_cons_succ, i64_w, i32_w]
       rfl
      refine pw_ (i := 14) (N := some 74) (bm_ 25 32767) rfl HT_.out ?_
      refine pw_ (i := 15) (N := some 75) (bm_ 25 65535) rfl HT_.out ?_
      refine pw_ (i := 18) (N := some 78) (bm_ 25 327679) rfl HT_.out ?_
      refine pw_ (i := 19) (N := some 79) (bm_ 25 851967) rfl HT_.out ?_
      refine tw_ (i := 16) (N := some 76) (bm_ 25 917503) rfl HT_.out HW_.out hHeld ?_
      refine tw_ (i := 17) (N := some 77) (bm_ 25 1048575) rfl HT_.out HW_.out hHeld ?_
      refine tw_ (i := 20) (N := some 80) (bm_ 25 2097151) rfl HT_.out HW_.out hHeld ?_
      replace HR180_0 := Aside0.mk (Kd.R_reads' HL180_0.out).2.2
      replace HR180_1 := Aside0.mk (Kd.R_reads' HL180_1.out).2.2
      refine one_ (i := 21) (N := some 81) (bm_ 25 4194303) rfl rfl (one_of HT_.out (by kernel_rfl)) (by decide) (fun K hK => ?_)
      refine goes_ Try.func15 (by kernel_rfl) rfl #[.agg #[.slice Ao10 y154.length co10, .slice Ao9 y157.length co9], .agg #[.slice Ao18 y161.length co18, .slice Ao17 y164.length co17], .agg #[.slice A180_0 ((rd_T27 t168 0).f0).length c180_0, .slice A180_1 ((rd_T27 t168 0).f1).length c180_1]] (by rfl) rfl rfl (by (try simp only [List.map_toArray, List.map_cons, List.map_nil]); first | done | rfl | (simp only [List.length_drop, List.length_take]; rfl)) ?_
      with_reducible refine (morphism_Injective.calls kj3 _ _ y154 _ _ y157 _ _ y161 _ _ y164 _ _ ((rd_T27 t168 0).f0) _ _ ((rd_T27 t168 0).f1) t191 _ ?side1 ?side2 ?side3 ?side4 ?side5 ?side6 ?side7 ?side8 ?side9 ?side10 ?side11 ?side12 A46.out).mono ?_
      (case side1 => exact rc_ HO_161000.out)
      (case side2 => exact rl_ HO_161000.out)
      (case side3 => exact rc_ HO_161001.out)
      (case side4 => exact rl_ HO_161001.out)
      (case side5 => exact rc_ HO_168000.out)
      (case side6 => exact rl_ HO_168000.out)
      (case side7 => exact rc_ HO_168001.out)
      (case side8 => exact rl_ HO_168001.out)
      (case side9 => repeat (first | exact (by repeat (first | (with_reducible exact HR180_0.out) | (with_reducible refine Kd.C_alloc ?_ _) | (with_reducible refine Kd.C_drewN ?_ _) | (with_reducible refine Kd.C_drew ?_) | exact HR180_0.out)) | (with_reducible refine Kd.C_alloc ?_ _) | (with_reducible refine Kd.C_drewN ?_ _) | (with_reducible refine Kd.C_drew ?_)))
      (case side10 => exact HC180_0.out)
      (case side11 => repeat (first | exact (by repeat (first | (with_reducible exact HR180_1.out) | (with_reducible refine Kd.C_alloc ?_ _) | (with_reducible refine Kd.C_drewN ?_ _) | (with_reducible refine Kd.C_drew ?_) | exact HR180_1.out)) | (with_reducible refine Kd.C_alloc ?_ _) | (with_reducible refine Kd.C_drewN ?_ _) | (with_reducible refine Kd.C_drew ?_)))
      (case side12 => exact HC180_1.out)
      rintro e w60 ⟨rfl, hb⟩
      have HS4_ := (hb.cell (World.block_lt_of_cell? _ _ (hHeld.2.2.2.2.1))).trans (hHeld.2.2.2.2.1)
      have HS5_ := (hb.cell (World.block_lt_of_cell? _ _ (hHeld.2.2.2.2.2.1))).trans (hHeld.2.2.2.2.2.1)
      have HS6_ := (hb.cell (World.block_lt_of_cell? _ _ (hHeld.2.2.2.2.2.2.1))).trans (hHeld.2.2.2.2.2.2.1)
      have HS7_ := (hb.cell (World.block_lt_of_cell? _ _ (hHeld.2.2.2.2.2.2.2.1))).trans (hHeld.2.2.2.2.2.2.2.1)
      have HS8_ := (hb.cell (World.block_lt_of_cell? _ _ (hHeld.2.2.2.2.2.2.2.2.1))).trans (hHeld.2.2.2.2.2.2.2.2.1)
      have HS9_ := (hb.cell (World.block_lt_of_cell? _ _ (hHeld.2.2.2.2.2.2.2.2.2))).trans (hHeld.2.2.2.2.2.2.2.2.2)
      refine ⟨_, rfl, ?_⟩
      replace HO_3 := Aside0.mk (Kd.S_below (ms_ HO_3.out) hb)
      replace HO_161000 := rb_ (mr_ HO_161000.out) hb
      replace HO_161001 := rb_ (mr_ HO_161001.out) hb
      replace HO_168000 := rb_ (mr_ HO_168000.out) hb
      replace HO_168001 := rb_ (mr_ HO_168001.out) hb
      replace HL180_0 := rb_ (mr_ HL180_0.out) hb
      replace HL180_1 := rb_ (mr_ HL180_1.out) hb
      replace HO183 := rb_ (mr_ HO183.out) hb
      replace HO186 := rb_ (mr_ HO186.out) hb
      replace BK160 := kb_ (bk_ BK160.out) hb
      replace BK167 := kb_ (bk_ BK167.out) hb
      replace HR180_0 := Aside0.mk (Kd.C_below (by repeat (first | (with_reducible exact HR180_0.out) | (with_reducible refine Kd.C_alloc ?_ _) | (with_reducible refine Kd.C_drewN ?_ _) | (with_reducible refine Kd.C_drew ?_) | exact HR180_0.out)) hb)
      replace HR180_1 := Aside0.mk (Kd.C_below (by repeat (first | (with_reducible exact HR180_1.out) | (with_reducible refine Kd.C_alloc ?_ _) | (with_reducible refine Kd.C_drewN ?_ _) | (with_reducible refine Kd.C_drew ?_) | exact HR180_1.out)) hb)
      replace HB := Aside0.mk (below_step (mbs_ HB.out) hb)
      (try clear hb)
      (try clear hb2)
      (try clear hk)
      (try clear hi)
      refine hK.out _ _ ⟨(blk_cell BK160.out 0).trans rfl, (blk_cell BK160.out 1).trans rfl, (blk_cell BK167.out 0).trans rfl, (blk_cell BK167.out 1).trans rfl, HS4_, HS5_, HS6_, HS7_, HS8_, HS9_⟩ (fun hHeld => ?_)
      clear hK K
      refine norm_ (a' := ?_) ?_ ?_
      rotate_left
      ·show Act.put _ (some 81) _ = _
       simp only [Act.put, List.setIfInBounds_toArray, List.set_cons_zero, List.set_cons_succ, i64_w, i32_w]
       rfl
      refine pw_ (i := 22) (N := some 82) (bm_ 25 8388607) rfl HT_.out ?_
      refine pw_ (i := 23) (N := some 83) (bm_ 25 16777215) rfl HT_.out ?_
      refine pw_ (i := 24) (N := some 0) (bm_ 25 33554431) rfl HT_.out ?_
      refine done_ (done_of HT_.out (by kernel_rfl)) ?_
      as_aux_lemma =>
      try go_wp2
      go_ret
      exact ⟨by first | rfl | (simp [errW_none, errW_some] <;> rfl) | (simp [*, errW_none, errW_some] <;> rfl), mbs_ HB.out⟩
     exact absurd (scarfjointlaw06_awake.sur (by have h_ := A44.out; rw [HT_.out, Ny154.out, Ny157.out, Ny161.out, Ny164.out] at h_; exact h_)) c45
    exact absurd (scarfjointlaw06_awake.same (by have h_ := A42.out; rw [HT_.out, Ny181.out, Ny184.out] at h_; exact h_)) c43
   rw [if_neg c41] at H
   exact absurd H (by simp)

end Go.Proofs.Ytklacpdobpkbbaa.P
