-- Written by wip/drive.py of this session's repo over the kit's print.py (with contracts of the session's own): not the print's own text
import Derived.Test.YtjkgjlaockihaaaPx0
import Derived.Test.YtjkgjlaockihaaaPx2
import Derived.Test.YtjkgjlaockihaaaPx3
import Derived.Test.YtjkgjlaockihaaaPx5
import Derived.Test.YtjkgjlaockihaaaPx6
namespace Go.Proofs.Ytjkgjlaockihaaa.P
open Go.RowKit Go.Proofs.YtjkgjlaockihaaaW.PrintWords Go.Proofs.YtjkgjlaockihaaaW.PrintLast Go.Proofs.YtjkgjlaockihaaaW.PrintMore
attribute [local go_sem] max2_int min2_int max_two min_two max_three min_three max_four min_four   -- for this text's walks alone
set_option linter.unusedVariables false
set_option linter.unusedSimpArgs false

/-! ### scarfjointlaw02_PartitionBounds: function 5 -/
mutual
def scarfjointlaw02_PartitionBounds.j0 : Nat → List Int → List Int → List Int → List Int → List Int → Bool → Option (Bool)
  | 0, _, _, _, _, _, _ => none
  | k + 1, x8, x9, x10, x11, x13, x77 => if x77 = true then (some false) else ((partition_Finer.f k x8 x10).bind fun t331 => (if t331 = true then ((partition_Finer.f k x9 x10).bind fun t332 => (if t332 = true then ((partition_Finer.f k x11 x10).bind fun t333 => (scarfjointlaw02_PartitionBounds.j1 k x8 x9 x10 x13 (!t333))) else (scarfjointlaw02_PartitionBounds.j1 k x8 x9 x10 x13 false))) else (scarfjointlaw02_PartitionBounds.j1 k x8 x9 x10 x13 false)))
def scarfjointlaw02_PartitionBounds.j1 : Nat → List Int → List Int → List Int → List Int → Bool → Option (Bool)
  | 0, _, _, _, _, _ => none
  | k + 1, x8, x9, x10, x13, x91 => if x91 = true then (some false) else ((partition_Finer.f k x10 x8).bind fun t334 => (if t334 = true then ((partition_Finer.f k x10 x9).bind fun t335 => (if t335 = true then ((partition_Finer.f k x10 x13).bind fun t336 => (some t336)) else (some true))) else (some true)))
end
def scarfjointlaw02_PartitionBounds.f (k : Nat) (l0 : List Int) (l1 : List Int) (l2 : List Int) : Option (Bool) := (scarfjointlaw02_awake.f k).bind fun t306 => (if t306 = true then (if 0 ≤ (mn (mn (l0.length : Int) (l1.length : Int)) (l2.length : Int)) then (if (mn (mn (l0.length : Int) (l1.length : Int)) (l2.length : Int)) ≤ (l0.length : Int) then ((scarfjointref02_Made.f k (l0.take ((mn (mn (l0.length : Int) (l1.length : Int)) (l2.length : Int)) : Int).toNat)).bind fun t308 => (if (mn (mn (l0.length : Int) (l1.length : Int)) (l2.length : Int)) ≤ (l1.length : Int) then ((scarfjointref02_Made.f k (l1.take ((mn (mn (l0.length : Int) (l1.length : Int)) (l2.length : Int)) : Int).toNat)).bind fun t312 => (if (mn (mn (l0.length : Int) (l1.length : Int)) (l2.length : Int)) ≤ (l2.length : Int) then ((scarfjointref02_Made.f k (l2.take ((mn (mn (l0.length : Int) (l1.length : Int)) (l2.length : Int)) : Int).toNat)).bind fun t316 => ((partition_Join.f k t308 t312).bind fun bt319 => ((partition_Meet.f k t308 t312).bind fun bt323 => (if bt319.2 = 0 then (if bt323.2 = 0 then ((partition_Finer.f k t308 bt319.1).bind fun t327 => (if t327 = true then ((partition_Finer.f k t312 bt319.1).bind fun t328 => (if t328 = true then ((partition_Finer.f k bt323.1 t308).bind fun t329 => (if t329 = true then ((partition_Finer.f k bt323.1 t312).bind fun t330 => (scarfjointlaw02_PartitionBounds.j0 k t308 t312 t316 bt319.1 bt323.1 (!t330))) else (scarfjointlaw02_PartitionBounds.j0 k t308 t312 t316 bt319.1 bt323.1 true))) else (scarfjointlaw02_PartitionBounds.j0 k t308 t312 t316 bt319.1 bt323.1 true))) else (scarfjointlaw02_PartitionBounds.j0 k t308 t312 t316 bt319.1 bt323.1 true))) else (scarfjointlaw02_PartitionBounds.j0 k t308 t312 t316 bt319.1 bt323.1 true)) else (scarfjointlaw02_PartitionBounds.j0 k t308 t312 t316 bt319.1 bt323.1 true))))) else (none))) else (none))) else (none)) else (none)) else (some false))
theorem scarfjointlaw02_PartitionBounds.mono_l : ∀ k, (∀ y0 y1 y2 y3 y4 y5, LeO (scarfjointlaw02_PartitionBounds.j0 k y0 y1 y2 y3 y4 y5) (scarfjointlaw02_PartitionBounds.j0 (k + 1) y0 y1 y2 y3 y4 y5)) ∧ (∀ y0 y1 y2 y3 y4, LeO (scarfjointlaw02_PartitionBounds.j1 k y0 y1 y2 y3 y4) (scarfjointlaw02_PartitionBounds.j1 (k + 1) y0 y1 y2 y3 y4))
  | 0 => ⟨fun _ _ _ _ _ _ r h => by simp [scarfjointlaw02_PartitionBounds.j0] at h, fun _ _ _ _ _ r h => by simp [scarfjointlaw02_PartitionBounds.j1] at h⟩
  | k + 1 => by
    obtain ⟨ih0, ih1⟩ := scarfjointlaw02_PartitionBounds.mono_l k
    refine ⟨?_, ?_⟩
    · intro y0 y1 y2 y3 y4 y5
      unfold scarfjointlaw02_PartitionBounds.j0
      repeat' first
      | (with_reducible exact ih0 _ _ _ _ _ _)
      | (with_reducible exact ih1 _ _ _ _ _)
      | (with_reducible exact partition_Finer.mono _ _ _)
      | (with_reducible exact partition_Join.mono _ _ _)
      | (with_reducible exact partition_Meet.mono _ _ _)
      | (with_reducible exact scarfjointlaw02_awake.mono _)
      | (with_reducible exact scarfjointref02_Made.mono _ _)
      | (with_reducible exact LeO.refl _)
      | (with_reducible exact LeO.none _)
      | (with_reducible refine LeO.ite ?_ ?_)
      | (with_reducible refine LeO.bind ?_ (fun _ => ?_))
      | exact ih0 _ _ _ _ _ _
      | exact ih1 _ _ _ _ _
      | exact partition_Finer.mono _ _ _
      | exact partition_Join.mono _ _ _
      | exact partition_Meet.mono _ _ _
      | exact scarfjointlaw02_awake.mono _
      | exact scarfjointref02_Made.mono _ _
      | exact LeO.none _
      | refine LeO.ite ?_ ?_
      | refine LeO.bind ?_ (fun _ => ?_)
    · intro y0 y1 y2 y3 y4
      unfold scarfjointlaw02_PartitionBounds.j1
      repeat' first
      | (with_reducible exact ih0 _ _ _ _ _ _)
      | (with_reducible exact ih1 _ _ _ _ _)
      | (with_reducible exact partition_Finer.mono _ _ _)
      | (with_reducible exact partition_Join.mono _ _ _)
      | (with_reducible exact partition_Meet.mono _ _ _)
      | (with_reducible exact scarfjointlaw02_awake.mono _)
      | (with_reducible exact scarfjointref02_Made.mono _ _)
      | (with_reducible exact LeO.refl _)
      | (with_reducible exact LeO.none _)
      | (with_reducible refine LeO.ite ?_ ?_)
      | (with_reducible refine LeO.bind ?_ (fun _ => ?_))
      | exact ih0 _ _ _ _ _ _
      | exact ih1 _ _ _ _ _
      | exact partition_Finer.mono _ _ _
      | exact partition_Join.mono _ _ _
      | exact partition_Meet.mono _ _ _
      | exact scarfjointlaw02_awake.mono _
      | exact scarfjointref02_Made.mono _ _
      | exact LeO.none _
      | refine LeO.ite ?_ ?_
      | refine LeO.bind ?_ (fun _ => ?_)
theorem scarfjointlaw02_PartitionBounds.mono : ∀ a0 a1 a2 k, LeO (scarfjointlaw02_PartitionBounds.f k a0 a1 a2) (scarfjointlaw02_PartitionBounds.f (k + 1) a0 a1 a2) := by
  intro a0 a1 a2 k
  obtain ⟨ih0, ih1⟩ := scarfjointlaw02_PartitionBounds.mono_l k
  unfold scarfjointlaw02_PartitionBounds.f
  repeat' first
      | (with_reducible exact ih0 _ _ _ _ _ _)
      | (with_reducible exact ih1 _ _ _ _ _)
      | (with_reducible exact partition_Finer.mono _ _ _)
      | (with_reducible exact partition_Join.mono _ _ _)
      | (with_reducible exact partition_Meet.mono _ _ _)
      | (with_reducible exact scarfjointlaw02_awake.mono _)
      | (with_reducible exact scarfjointref02_Made.mono _ _)
      | (with_reducible exact LeO.refl _)
      | (with_reducible exact LeO.none _)
      | (with_reducible refine LeO.ite ?_ ?_)
      | (with_reducible refine LeO.bind ?_ (fun _ => ?_))
      | exact ih0 _ _ _ _ _ _
      | exact ih1 _ _ _ _ _
      | exact partition_Finer.mono _ _ _
      | exact partition_Join.mono _ _ _
      | exact partition_Meet.mono _ _ _
      | exact scarfjointlaw02_awake.mono _
      | exact scarfjointref02_Made.mono _ _
      | exact LeO.none _
      | refine LeO.ite ?_ ?_
      | refine LeO.bind ?_ (fun _ => ?_)
def scarfjointlaw02_PartitionBounds.T4 : Bool × List (List Nat × List Nat) := (true, [([], []), ([], []), ([0, 1], [0, 1]), ([2], [2]), ([], []), ([], []), ([4, 5], [4, 5]), ([6, 3], [6]), ([], []), ([], []), ([8, 9], [8, 9]), ([10, 7], [10]), ([3, 11, 0, 1, 2, 3], [3]), ([7, 12, 0, 1, 2, 3, 4, 5, 6, 7, 12], [7]), ([11, 13, 0, 1, 2, 3, 4, 5, 6, 7, 8, 9, 10, 11, 12, 13], [11])])
def scarfjointlaw02_PartitionBounds.B4 : List Nat := [0, 0, 3, 7, 0, 0, 48, 127, 0, 0, 768, 2047, 4095, 8191, 16383]
theorem scarfjointlaw02_PartitionBounds.tab4 : rtab .any (opsOf Try.f5 4) = scarfjointlaw02_PartitionBounds.T4 := by kernel_rfl
theorem scarfjointlaw02_PartitionBounds.bits4 : waitsOk scarfjointlaw02_PartitionBounds.T4.2 scarfjointlaw02_PartitionBounds.B4 = true := by kernel_rfl
set_option maxHeartbeats 8000000 in
set_option maxRecDepth 100000 in
theorem scarfjointlaw02_PartitionBounds.calls (k : Nat) (A0 : Option Addr) (c0 : Nat) (l0 : List Int) (A1 : Option Addr) (c1 : Nat) (l1 : List Int) (A2 : Option Addr) (c2 : Nat) (l2 : List Int) (r : Bool) (w : World) (hr0 : Kd.C (Kd.int .u8) w A0 l0.length l0) (hc0 : l0.length ≤ c0) (hr1 : Kd.C (Kd.int .u8) w A1 l1.length l1) (hc1 : l1.length ≤ c1) (hr2 : Kd.C (Kd.int .u8) w A2 l2.length l2) (hc2 : l2.length ≤ c2) (h : scarfjointlaw02_PartitionBounds.f k l0 l1 l2 = some r) :
    Calls Try.prog 5 #[.slice A0 l0.length c0, .slice A1 l1.length c1, .slice A2 l2.length c2] w fun e w' => e = .returned (.bool r) ∧ Below w.heap.size w w' := by
  have HR0 := Aside0.mk hr0
  have HC0 := Aside0.mk hc0
  clear hr0 hc0
  have HR1 := Aside0.mk hr1
  have HC1 := Aside0.mk hc1
  clear hr1 hc1
  have HR2 := Aside0.mk hr2
  have HC2 := Aside0.mk hc2
  clear hr2 hc2
  have HB := Aside0.mk (Below.refl w.heap.size w)
  have H : ((scarfjointlaw02_awake.f k).bind fun t306 => (if t306 = true then (if 0 ≤ (mn (mn (l0.length : Int) (l1.length : Int)) (l2.length : Int)) then (if (mn (mn (l0.length : Int) (l1.length : Int)) (l2.length : Int)) ≤ (l0.length : Int) then ((scarfjointref02_Made.f k (l0.take ((mn (mn (l0.length : Int) (l1.length : Int)) (l2.length : Int)) : Int).toNat)).bind fun t308 => (if (mn (mn (l0.length : Int) (l1.length : Int)) (l2.length : Int)) ≤ (l1.length : Int) then ((scarfjointref02_Made.f k (l1.take ((mn (mn (l0.length : Int) (l1.length : Int)) (l2.length : Int)) : Int).toNat)).bind fun t312 => (if (mn (mn (l0.length : Int) (l1.length : Int)) (l2.length : Int)) ≤ (l2.length : Int) then ((scarfjointref02_Made.f k (l2.take ((mn (mn (l0.length : Int) (l1.length : Int)) (l2.length : Int)) : Int).toNat)).bind fun t316 => ((partition_Join.f k t308 t312).bind fun bt319 => ((partition_Meet.f k t308 t312).bind fun bt323 => (if bt319.2 = 0 then (if bt323.2 = 0 then ((partition_Finer.f k t308 bt319.1).bind fun t327 => (if t327 = true then ((partition_Finer.f k t312 bt319.1).bind fun t328 => (if t328 = true then ((partition_Finer.f k bt323.1 t308).bind fun t329 => (if t329 = true then ((partition_Finer.f k bt323.1 t312).bind fun t330 => (scarfjointlaw02_PartitionBounds.j0 k t308 t312 t316 bt319.1 bt323.1 (!t330))) else (scarfjointlaw02_PartitionBounds.j0 k t308 t312 t316 bt319.1 bt323.1 true))) else (scarfjointlaw02_PartitionBounds.j0 k t308 t312 t316 bt319.1 bt323.1 true))) else (scarfjointlaw02_PartitionBounds.j0 k t308 t312 t316 bt319.1 bt323.1 true))) else (scarfjointlaw02_PartitionBounds.j0 k t308 t312 t316 bt319.1 bt323.1 true)) else (scarfjointlaw02_PartitionBounds.j0 k t308 t312 t316 bt319.1 bt323.1 true))))) else (none))) else (none))) else (none)) else (none)) else (some false))) = some r := h
  clear h
  replace H := Option.bind_eq_some_iff.mp H
  obtain ⟨t306, A40, H⟩ := H
  replace H : (if t306 = true then (if 0 ≤ (mn (mn (l0.length : Int) (l1.length : Int)) (l2.length : Int)) then (if (mn (mn (l0.length : Int) (l1.length : Int)) (l2.length : Int)) ≤ (l0.length : Int) then ((scarfjointref02_Made.f k (l0.take ((mn (mn (l0.length : Int) (l1.length : Int)) (l2.length : Int)) : Int).toNat)).bind fun t308 => (if (mn (mn (l0.length : Int) (l1.length : Int)) (l2.length : Int)) ≤ (l1.length : Int) then ((scarfjointref02_Made.f k (l1.take ((mn (mn (l0.length : Int) (l1.length : Int)) (l2.length : Int)) : Int).toNat)).bind fun t312 => (if (mn (mn (l0.length : Int) (l1.length : Int)) (l2.length : Int)) ≤ (l2.length : Int) then ((scarfjointref02_Made.f k (l2.take ((mn (mn (l0.length : Int) (l1.length : Int)) (l2.length : Int)) : Int).toNat)).bind fun t316 => ((partition_Join.f k t308 t312).bind fun bt319 => ((partition_Meet.f k t308 t312).bind fun bt323 => (if bt319.2 = 0 then (if bt323.2 = 0 then ((partition_Finer.f k t308 bt319.1).bind fun t327 => (if t327 = true then ((partition_Finer.f k t312 bt319.1).bind fun t328 => (if t328 = true then ((partition_Finer.f k bt323.1 t308).bind fun t329 => (if t329 = true then ((partition_Finer.f k bt323.1 t312).bind fun t330 => (scarfjointlaw02_PartitionBounds.j0 k t308 t312 t316 bt319.1 bt323.1 (!t330))) else (scarfjointlaw02_PartitionBounds.j0 k t308 t312 t316 bt319.1 bt323.1 true))) else (scarfjointlaw02_PartitionBounds.j0 k t308 t312 t316 bt319.1 bt323.1 true))) else (scarfjointlaw02_PartitionBounds.j0 k t308 t312 t316 bt319.1 bt323.1 true))) else (scarfjointlaw02_PartitionBounds.j0 k t308 t312 t316 bt319.1 bt323.1 true)) else (scarfjointlaw02_PartitionBounds.j0 k t308 t312 t316 bt319.1 bt323.1 true))))) else (none))) else (none))) else (none)) else (none)) else (some false)) = some r := H
  have A4 := Aside0.mk A40
  clear A40
  by_cases c5 : t306 = true
  · subst c5
    have H1 : (if 0 ≤ (mn (mn (l0.length : Int) (l1.length : Int)) (l2.length : Int)) then (if (mn (mn (l0.length : Int) (l1.length : Int)) (l2.length : Int)) ≤ (l0.length : Int) then ((scarfjointref02_Made.f k (l0.take ((mn (mn (l0.length : Int) (l1.length : Int)) (l2.length : Int)) : Int).toNat)).bind fun t308 => (if (mn (mn (l0.length : Int) (l1.length : Int)) (l2.length : Int)) ≤ (l1.length : Int) then ((scarfjointref02_Made.f k (l1.take ((mn (mn (l0.length : Int) (l1.length : Int)) (l2.length : Int)) : Int).toNat)).bind fun t312 => (if (mn (mn (l0.length : Int) (l1.length : Int)) (l2.length : Int)) ≤ (l2.length : Int) then ((scarfjointref02_Made.f k (l2.take ((mn (mn (l0.length : Int) (l1.length : Int)) (l2.length : Int)) : Int).toNat)).bind fun t316 => ((partition_Join.f k t308 t312).bind fun bt319 => ((partition_Meet.f k t308 t312).bind fun bt323 => (if bt319.2 = 0 then (if bt323.2 = 0 then ((partition_Finer.f k t308 bt319.1).bind fun t327 => (if t327 = true then ((partition_Finer.f k t312 bt319.1).bind fun t328 => (if t328 = true then ((partition_Finer.f k bt323.1 t308).bind fun t329 => (if t329 = true then ((partition_Finer.f k bt323.1 t312).bind fun t330 => (scarfjointlaw02_PartitionBounds.j0 k t308 t312 t316 bt319.1 bt323.1 (!t330))) else (scarfjointlaw02_PartitionBounds.j0 k t308 t312 t316 bt319.1 bt323.1 true))) else (scarfjointlaw02_PartitionBounds.j0 k t308 t312 t316 bt319.1 bt323.1 true))) else (scarfjointlaw02_PartitionBounds.j0 k t308 t312 t316 bt319.1 bt323.1 true))) else (scarfjointlaw02_PartitionBounds.j0 k t308 t312 t316 bt319.1 bt323.1 true)) else (scarfjointlaw02_PartitionBounds.j0 k t308 t312 t316 bt319.1 bt323.1 true))))) else (none))) else (none))) else (none)) else (none)) = some r := by rw [if_pos rfl] at H; exact H
    clear H
    have H := H1
    clear H1
    obtain ⟨ji6, hji6⟩ : ∃ j_ : Int, (mn (l0.length : Int) (l1.length : Int)) = j_ := ⟨_, rfl⟩
    replace H : (if 0 ≤ (mn (ji6) (l2.length : Int)) then (if (mn (ji6) (l2.length : Int)) ≤ (l0.length : Int) then ((scarfjointref02_Made.f k (l0.take ((mn (ji6) (l2.length : Int)) : Int).toNat)).bind fun t308 => (if (mn (ji6) (l2.length : Int)) ≤ (l1.length : Int) then ((scarfjointref02_Made.f k (l1.take ((mn (ji6) (l2.length : Int)) : Int).toNat)).bind fun t312 => (if (mn (ji6) (l2.length : Int)) ≤ (l2.length : Int) then ((scarfjointref02_Made.f k (l2.take ((mn (ji6) (l2.length : Int)) : Int).toNat)).bind fun t316 => ((partition_Join.f k t308 t312).bind fun bt319 => ((partition_Meet.f k t308 t312).bind fun bt323 => (if bt319.2 = 0 then (if bt323.2 = 0 then ((partition_Finer.f k t308 bt319.1).bind fun t327 => (if t327 = true then ((partition_Finer.f k t312 bt319.1).bind fun t328 => (if t328 = true then ((partition_Finer.f k bt323.1 t308).bind fun t329 => (if t329 = true then ((partition_Finer.f k bt323.1 t312).bind fun t330 => (scarfjointlaw02_PartitionBounds.j0 k t308 t312 t316 bt319.1 bt323.1 (!t330))) else (scarfjointlaw02_PartitionBounds.j0 k t308 t312 t316 bt319.1 bt323.1 true))) else (scarfjointlaw02_PartitionBounds.j0 k t308 t312 t316 bt319.1 bt323.1 true))) else (scarfjointlaw02_PartitionBounds.j0 k t308 t312 t316 bt319.1 bt323.1 true))) else (scarfjointlaw02_PartitionBounds.j0 k t308 t312 t316 bt319.1 bt323.1 true)) else (scarfjointlaw02_PartitionBounds.j0 k t308 t312 t316 bt319.1 bt323.1 true))))) else (none))) else (none))) else (none)) else (none)) = some r := by first | (rw [hji6] at H; exact H) | (simp only [hji6] at H ⊢; exact H)
    (try rw [hji6] at A4)
    (try (have hji6l : 0 ≤ ji6 := by (rw [← hji6]; unfold mn; (repeat' split) <;> omega)))
    (try (have hji6m : 0 ≤ ji6 := by omega))
    have hji6_ : (if (l1.length : Int) < (l0.length : Int) then (l1.length : Int) else (l0.length : Int)) = ji6 := hji6
    have hji6n : (if l1.length < l0.length then (l1.length : Int) else (l0.length : Int)) = ji6 := by rw [← hji6_]; simp only [Int.ofNat_lt]
    obtain ⟨ji7, hji7⟩ : ∃ j_ : Int, (mn (ji6) (l2.length : Int)) = j_ := ⟨_, rfl⟩
    replace H : (if 0 ≤ (ji7) then (if (ji7) ≤ (l0.length : Int) then ((scarfjointref02_Made.f k (l0.take ((ji7) : Int).toNat)).bind fun t308 => (if (ji7) ≤ (l1.length : Int) then ((scarfjointref02_Made.f k (l1.take ((ji7) : Int).toNat)).bind fun t312 => (if (ji7) ≤ (l2.length : Int) then ((scarfjointref02_Made.f k (l2.take ((ji7) : Int).toNat)).bind fun t316 => ((partition_Join.f k t308 t312).bind fun bt319 => ((partition_Meet.f k t308 t312).bind fun bt323 => (if bt319.2 = 0 then (if bt323.2 = 0 then ((partition_Finer.f k t308 bt319.1).bind fun t327 => (if t327 = true then ((partition_Finer.f k t312 bt319.1).bind fun t328 => (if t328 = true then ((partition_Finer.f k bt323.1 t308).bind fun t329 => (if t329 = true then ((partition_Finer.f k bt323.1 t312).bind fun t330 => (scarfjointlaw02_PartitionBounds.j0 k t308 t312 t316 bt319.1 bt323.1 (!t330))) else (scarfjointlaw02_PartitionBounds.j0 k t308 t312 t316 bt319.1 bt323.1 true))) else (scarfjointlaw02_PartitionBounds.j0 k t308 t312 t316 bt319.1 bt323.1 true))) else (scarfjointlaw02_PartitionBounds.j0 k t308 t312 t316 bt319.1 bt323.1 true))) else (scarfjointlaw02_PartitionBounds.j0 k t308 t312 t316 bt319.1 bt323.1 true)) else (scarfjointlaw02_PartitionBounds.j0 k t308 t312 t316 bt319.1 bt323.1 true))))) else (none))) else (none))) else (none)) else (none)) = some r := by first | (rw [hji7] at H; exact H) | (simp only [hji7] at H ⊢; exact H)
    (try rw [hji7] at A4)
    have hji7_ : (if (l2.length : Int) < (ji6) then (l2.length : Int) else (ji6)) = ji7 := hji7
    by_cases c8 : 0 ≤ (ji7)
    · rw [if_pos c8] at H
      have c8b0 := eq_true c8
      have c8b1 : decide (0 ≤ (ji7)) = true := decide_eq_true c8
      clear c8
      by_cases c9 : (ji7) ≤ (l0.length : Int)
      · rw [if_pos c9] at H
        have c9b0 := eq_true c9
        have c9b1 : decide ((ji7) ≤ (l0.length : Int)) = true := decide_eq_true c9
        clear c9
        replace H := Option.bind_eq_some_iff.mp H
        obtain ⟨t308, A100, H⟩ := H
        replace H : (if (ji7) ≤ (l1.length : Int) then ((scarfjointref02_Made.f k (l1.take ((ji7) : Int).toNat)).bind fun t312 => (if (ji7) ≤ (l2.length : Int) then ((scarfjointref02_Made.f k (l2.take ((ji7) : Int).toNat)).bind fun t316 => ((partition_Join.f k t308 t312).bind fun bt319 => ((partition_Meet.f k t308 t312).bind fun bt323 => (if bt319.2 = 0 then (if bt323.2 = 0 then ((partition_Finer.f k t308 bt319.1).bind fun t327 => (if t327 = true then ((partition_Finer.f k t312 bt319.1).bind fun t328 => (if t328 = true then ((partition_Finer.f k bt323.1 t308).bind fun t329 => (if t329 = true then ((partition_Finer.f k bt323.1 t312).bind fun t330 => (scarfjointlaw02_PartitionBounds.j0 k t308 t312 t316 bt319.1 bt323.1 (!t330))) else (scarfjointlaw02_PartitionBounds.j0 k t308 t312 t316 bt319.1 bt323.1 true))) else (scarfjointlaw02_PartitionBounds.j0 k t308 t312 t316 bt319.1 bt323.1 true))) else (scarfjointlaw02_PartitionBounds.j0 k t308 t312 t316 bt319.1 bt323.1 true))) else (scarfjointlaw02_PartitionBounds.j0 k t308 t312 t316 bt319.1 bt323.1 true)) else (scarfjointlaw02_PartitionBounds.j0 k t308 t312 t316 bt319.1 bt323.1 true))))) else (none))) else (none)) = some r := H
        have A10 := Aside0.mk A100
        clear A100
        have c11b0 := eq_true (of_decide_eq_true (by first | (with_reducible assumption) | assumption) : 0 ≤ (ji7))
        by_cases c12 : (ji7) ≤ (l1.length : Int)
        · rw [if_pos c12] at H
          have c12b0 := eq_true c12
          have c12b1 : decide ((ji7) ≤ (l1.length : Int)) = true := decide_eq_true c12
          clear c12
          replace H := Option.bind_eq_some_iff.mp H
          obtain ⟨t312, A130, H⟩ := H
          replace H : (if (ji7) ≤ (l2.length : Int) then ((scarfjointref02_Made.f k (l2.take ((ji7) : Int).toNat)).bind fun t316 => ((partition_Join.f k t308 t312).bind fun bt319 => ((partition_Meet.f k t308 t312).bind fun bt323 => (if bt319.2 = 0 then (if bt323.2 = 0 then ((partition_Finer.f k t308 bt319.1).bind fun t327 => (if t327 = true then ((partition_Finer.f k t312 bt319.1).bind fun t328 => (if t328 = true then ((partition_Finer.f k bt323.1 t308).bind fun t329 => (if t329 = true then ((partition_Finer.f k bt323.1 t312).bind fun t330 => (scarfjointlaw02_PartitionBounds.j0 k t308 t312 t316 bt319.1 bt323.1 (!t330))) else (scarfjointlaw02_PartitionBounds.j0 k t308 t312 t316 bt319.1 bt323.1 true))) else (scarfjointlaw02_PartitionBounds.j0 k t308 t312 t316 bt319.1 bt323.1 true))) else (scarfjointlaw02_PartitionBounds.j0 k t308 t312 t316 bt319.1 bt323.1 true))) else (scarfjointlaw02_PartitionBounds.j0 k t308 t312 t316 bt319.1 bt323.1 true)) else (scarfjointlaw02_PartitionBounds.j0 k t308 t312 t316 bt319.1 bt323.1 true))))) else (none)) = some r := H
          have A13 := Aside0.mk A130
          clear A130
          have c14b0 := eq_true (of_decide_eq_true (by first | (with_reducible assumption) | assumption) : 0 ≤ (ji7))
          by_cases c15 : (ji7) ≤ (l2.length : Int)
          · rw [if_pos c15] at H
            have c15b0 := eq_true c15
            have c15b1 : decide ((ji7) ≤ (l2.length : Int)) = true := decide_eq_true c15
            clear c15
            replace H := Option.bind_eq_some_iff.mp H
            obtain ⟨t316, A160, H⟩ := H
            replace H : ((partition_Join.f k t308 t312).bind fun bt319 => ((partition_Meet.f k t308 t312).bind fun bt323 => (if bt319.2 = 0 then (if bt323.2 = 0 then ((partition_Finer.f k t308 bt319.1).bind fun t327 => (if t327 = true then ((partition_Finer.f k t312 bt319.1).bind fun t328 => (if t328 = true then ((partition_Finer.f k bt323.1 t308).bind fun t329 => (if t329 = true then ((partition_Finer.f k bt323.1 t312).bind fun t330 => (scarfjointlaw02_PartitionBounds.j0 k t308 t312 t316 bt319.1 bt323.1 (!t330))) else (scarfjointlaw02_PartitionBounds.j0 k t308 t312 t316 bt319.1 bt323.1 true))) else (scarfjointlaw02_PartitionBounds.j0 k t308 t312 t316 bt319.1 bt323.1 true))) else (scarfjointlaw02_PartitionBounds.j0 k t308 t312 t316 bt319.1 bt323.1 true))) else (scarfjointlaw02_PartitionBounds.j0 k t308 t312 t316 bt319.1 bt323.1 true)) else (scarfjointlaw02_PartitionBounds.j0 k t308 t312 t316 bt319.1 bt323.1 true)))) = some r := H
            have A16 := Aside0.mk A160
            clear A160
            replace H := Option.bind_eq_some_iff.mp H
            obtain ⟨⟨t319, t320⟩, A170, H⟩ := H
            replace H : ((partition_Meet.f k t308 t312).bind fun bt323 => (if t320 = 0 then (if bt323.2 = 0 then ((partition_Finer.f k t308 t319).bind fun t327 => (if t327 = true then ((partition_Finer.f k t312 t319).bind fun t328 => (if t328 = true then ((partition_Finer.f k bt323.1 t308).bind fun t329 => (if t329 = true then ((partition_Finer.f k bt323.1 t312).bind fun t330 => (scarfjointlaw02_PartitionBounds.j0 k t308 t312 t316 t319 bt323.1 (!t330))) else (scarfjointlaw02_PartitionBounds.j0 k t308 t312 t316 t319 bt323.1 true))) else (scarfjointlaw02_PartitionBounds.j0 k t308 t312 t316 t319 bt323.1 true))) else (scarfjointlaw02_PartitionBounds.j0 k t308 t312 t316 t319 bt323.1 true))) else (scarfjointlaw02_PartitionBounds.j0 k t308 t312 t316 t319 bt323.1 true)) else (scarfjointlaw02_PartitionBounds.j0 k t308 t312 t316 t319 bt323.1 true))) = some r := H
            have A17 := Aside0.mk A170
            clear A170
            replace H := Option.bind_eq_some_iff.mp H
            obtain ⟨⟨t323, t324⟩, A180, H⟩ := H
            replace H : (if t320 = 0 then (if t324 = 0 then ((partition_Finer.f k t308 t319).bind fun t327 => (if t327 = true then ((partition_Finer.f k t312 t319).bind fun t328 => (if t328 = true then ((partition_Finer.f k t323 t308).bind fun t329 => (if t329 = true then ((partition_Finer.f k t323 t312).bind fun t330 => (scarfjointlaw02_PartitionBounds.j0 k t308 t312 t316 t319 t323 (!t330))) else (scarfjointlaw02_PartitionBounds.j0 k t308 t312 t316 t319 t323 true))) else (scarfjointlaw02_PartitionBounds.j0 k t308 t312 t316 t319 t323 true))) else (scarfjointlaw02_PartitionBounds.j0 k t308 t312 t316 t319 t323 true))) else (scarfjointlaw02_PartitionBounds.j0 k t308 t312 t316 t319 t323 true)) else (scarfjointlaw02_PartitionBounds.j0 k t308 t312 t316 t319 t323 true)) = some r := H
            have A18 := Aside0.mk A180
            clear A180
            have HC19 := Aside0.mk H
            clear H
            go_enter Try.func5, Try.ntmps5
            try go_wp2_with (first | ((with_reducible refine gate_callee (f := 10) rfl ?_); refine goesL_ (some 15) rfl rfl Try.func10 (by kernel_rfl) rfl #[] rfl (by (try simp only [List.map_toArray, List.map_cons, List.map_nil]); first | done | rfl | (simp only [List.length_drop, List.length_take]; rfl)) ?_; (with_reducible refine (scarfjointlaw02_awake.calls k  true _ A4.out).mono ?_); rintro e w20 ⟨rfl, hb⟩; refine ⟨_, rfl, ?_⟩; have n0_ := Aside0.mk (below_step (by repeat (first | (with_reducible first | exact HB.out | apply below_alloc | apply pw_below_drewN | apply below_drew1) | exact HB.out)) hb); clear HB; have HB := n0_; clear n0_; (try clear hb); (try clear hb2); (try clear hk); (try clear hi)))
            have n0_ := Aside0.mk (below_drew1 HB.out)
            clear HB
            have HB := n0_
            clear n0_
            obtain ⟨i022, hi022, _, hsz22, _⟩ := info_parts info5
            obtain ⟨hcut22, hA22, hC22⟩ := print_take_of (P := Try.prog) (Value.int .u8) 0 37 5 .i64 Try.underlying37 hi022 hsz22 A0 c0 l0 (ji7) (of_decide_eq_true (by first | (with_reducible assumption) | assumption)) (of_decide_eq_true (by first | (with_reducible assumption) | assumption)) HC0.out
            have HR307 := Aside0.mk (Kd.C_of_reads (h1 := fun _ => rfl) (hA22 _ (Kd.reads_of_C HR0.out)))
            have HC307 := Aside0.mk hC22
            clear hA22 hC22 hi022 hsz22
            obtain ⟨i023, hi023, _, hsz23, _⟩ := info_parts info5
            obtain ⟨hcut23, hA23, hC23⟩ := print_take_of (P := Try.prog) (Value.int .u8) 0 37 5 .i64 Try.underlying37 hi023 hsz23 A1 c1 l1 (ji7) (of_decide_eq_true (by first | (with_reducible assumption) | assumption)) (of_decide_eq_true (by first | (with_reducible assumption) | assumption)) HC1.out
            have HR311 := Aside0.mk (Kd.C_of_reads (h1 := fun _ => rfl) (hA23 _ (Kd.reads_of_C HR1.out)))
            have HC311 := Aside0.mk hC23
            clear hA23 hC23 hi023 hsz23
            obtain ⟨i024, hi024, _, hsz24, _⟩ := info_parts info5
            obtain ⟨hcut24, hA24, hC24⟩ := print_take_of (P := Try.prog) (Value.int .u8) 0 37 5 .i64 Try.underlying37 hi024 hsz24 A2 c2 l2 (ji7) (of_decide_eq_true (by first | (with_reducible assumption) | assumption)) (of_decide_eq_true (by first | (with_reducible assumption) | assumption)) HC2.out
            have HR315 := Aside0.mk (Kd.C_of_reads (h1 := fun _ => rfl) (hA24 _ (Kd.reads_of_C HR2.out)))
            have HC315 := Aside0.mk hC24
            clear hA24 hC24 hi024 hsz24
            refine start_ (n := 15) (S := fun w' => True) (ds := []) #[false, false, false, false, false, false, false, false, false, false, false, false, false, false, false] (by kernel_rfl) rfl rfl trivial (fun hHeld => ?_); refine with_tabW scarfjointlaw02_PartitionBounds.tab4 scarfjointlaw02_PartitionBounds.bits4 (fun HT_ HW_ => ?_)
            generalize w20.drew = w21 at HB HR307 HR311 HR315 hHeld ⊢
            refine pure_ (i := 0) (N := some 24) (v := ?_) (a' := ?_) #[true, false, false, false, false, false, false, false, false, false, false, false, false, false, false] rfl rfl (any_of HT_.out (by kernel_rfl)) (fun _ _ _ h => h) (Or.inl ⟨by rfl, ?_⟩) ?_ ?_
            rotate_left
            · intro w'
              go_simp
              with_reducible rfl
            rotate_left
            · simp only [Act.put, List.setIfInBounds_toArray, List.set_cons_zero, List.set_cons_succ, i64_w, i32_w]
              rfl
            refine pure_ (i := 1) (N := some 25) (v := ?_) (a' := ?_) #[true, true, false, false, false, false, false, false, false, false, false, false, false, false, false] rfl rfl (any_of HT_.out (by kernel_rfl)) (fun _ _ _ h => h) (Or.inl ⟨by rfl, ?_⟩) ?_ ?_
            rotate_left
            · intro w'
              go_simp
              with_reducible rfl
            rotate_left
            · simp only [Act.put, List.setIfInBounds_toArray, List.set_cons_zero, List.set_cons_succ, i64_w, i32_w]
              rfl
            refine pure_ (i := 2) (N := some 26) (v := ?_) (a' := ?_) #[true, true, true, false, false, false, false, false, false, false, false, false, false, false, false] rfl rfl (any_of HT_.out (by kernel_rfl)) (fun _ _ _ h => h) (Or.inl ⟨by rfl, ?_⟩) ?_ ?_
            rotate_left
            · intro w'
              go_simp
              with_reducible rfl
            rotate_left
            · simp only [Act.put, List.setIfInBounds_toArray, List.set_cons_zero, List.set_cons_succ, i64_w, i32_w]
              rfl
            refine pure_ (i := 4) (N := some 28) (v := ?_) (a' := ?_) #[true, true, true, false, true, false, false, false, false, false, false, false, false, false, false] rfl rfl (any_of HT_.out (by kernel_rfl)) (fun _ _ _ h => h) (Or.inl ⟨by rfl, ?_⟩) ?_ ?_
            rotate_left
            · intro w'
              go_simp
              with_reducible rfl
            rotate_left
            · simp only [Act.put, List.setIfInBounds_toArray, List.set_cons_zero, List.set_cons_succ, i64_w, i32_w]
              rfl
            refine pure_ (i := 5) (N := some 29) (v := ?_) (a' := ?_) #[true, true, true, false, true, true, false, false, false, false, false, false, false, false, false] rfl rfl (any_of HT_.out (by kernel_rfl)) (fun _ _ _ h => h) (Or.inl ⟨by rfl, ?_⟩) ?_ ?_
            rotate_left
            · intro w'
              go_simp
              with_reducible rfl
            rotate_left
            · simp only [Act.put, List.setIfInBounds_toArray, List.set_cons_zero, List.set_cons_succ, i64_w, i32_w]
              rfl
            refine pure_ (i := 6) (N := some 30) (v := ?_) (a' := ?_) #[true, true, true, false, true, true, true, false, false, false, false, false, false, false, false] rfl rfl (any_of HT_.out (by kernel_rfl)) (fun _ _ _ h => h) (Or.inl ⟨by rfl, ?_⟩) ?_ ?_
            rotate_left
            · intro w'
              go_simp
              with_reducible rfl
            rotate_left
            · simp only [Act.put, List.setIfInBounds_toArray, List.set_cons_zero, List.set_cons_succ, i64_w, i32_w]
              rfl
            refine pure_ (i := 8) (N := some 32) (v := ?_) (a' := ?_) #[true, true, true, false, true, true, true, false, true, false, false, false, false, false, false] rfl rfl (any_of HT_.out (by kernel_rfl)) (fun _ _ _ h => h) (Or.inl ⟨by rfl, ?_⟩) ?_ ?_
            rotate_left
            · intro w'
              go_simp
              with_reducible rfl
            rotate_left
            · simp only [Act.put, List.setIfInBounds_toArray, List.set_cons_zero, List.set_cons_succ, i64_w, i32_w]
              rfl
            refine pure_ (i := 9) (N := some 33) (v := ?_) (a' := ?_) #[true, true, true, false, true, true, true, false, true, true, false, false, false, false, false] rfl rfl (any_of HT_.out (by kernel_rfl)) (fun _ _ _ h => h) (Or.inl ⟨by rfl, ?_⟩) ?_ ?_
            rotate_left
            · intro w'
              go_simp
              with_reducible rfl
            rotate_left
            · simp only [Act.put, List.setIfInBounds_toArray, List.set_cons_zero, List.set_cons_succ, i64_w, i32_w]
              rfl
            refine pure_ (i := 10) (N := some 34) (v := ?_) (a' := ?_) #[true, true, true, false, true, true, true, false, true, true, true, false, false, false, false] rfl rfl (any_of HT_.out (by kernel_rfl)) (fun _ _ _ h => h) (Or.inl ⟨by rfl, ?_⟩) ?_ ?_
            rotate_left
            · intro w'
              go_simp
              with_reducible rfl
            rotate_left
            · simp only [Act.put, List.setIfInBounds_toArray, List.set_cons_zero, List.set_cons_succ, i64_w, i32_w]
              rfl
            refine one_ (i := 3) (N := some 27) #[true, true, true, true, true, true, true, false, true, true, true, false, false, false, false] rfl rfl (one_of HT_.out (by kernel_rfl)) (by decide) (fun K hK => ?_)
            refine goes_ Try.func21 (by kernel_rfl) rfl #[.slice A0 (l0.take ((ji7) : Int).toNat).length c0] (by rfl) rfl rfl (by (try simp only [List.map_toArray, List.map_cons, List.map_nil]); first | done | (rw [show (l0.take ((ji7) : Int).toNat).length = (ji7).toNat from (by rw [List.length_take]; have h_ : ((ji7) : Int) ≤ (l0.length : Int) := of_decide_eq_true (by first | (with_reducible assumption) | assumption); omega)] <;> rfl) | (simp only [hji7]; rfl) | rfl | (simp only [List.length_drop, List.length_take]; rfl)) ?_
            with_reducible refine (scarfjointref02_Made.calls k _ _ (l0.take ((ji7) : Int).toNat) t308 _ ?side1 ?side2 A10.out).mono ?_
            (case side1 => repeat (first | exact (Kd.C_below HR307.out HB.out) | (with_reducible refine Kd.C_alloc ?_ _) | (with_reducible refine Kd.C_drewN ?_ _) | (with_reducible refine Kd.C_drew ?_)))
            (case side2 => exact HC307.out)
            rintro e w25 ⟨v309, rfl, ho0, hb⟩
            refine ⟨_, rfl, ?_⟩
            have n0_ := Aside0.mk (Kd.R_lower ho0 (below_size (by repeat (first | (with_reducible first | exact HB.out | apply below_alloc | apply pw_below_drewN | apply below_drew1) | exact HB.out))))
            have n1_ := Aside0.mk (below_step (by repeat (first | (with_reducible first | exact HB.out | apply below_alloc | apply pw_below_drewN | apply below_drew1) | exact HB.out)) hb)
            clear HB
            have HO310 := n0_
            have HB := n1_
            clear n0_ n1_
            (try clear hb)
            (try clear hb2)
            (try clear hk)
            (try clear hi)
            (try clear ho0)
            refine hK.out _ _ trivial (fun hHeld => ?_)
            clear hK K
            refine norm_ (a' := ?_) ?_ ?_
            rotate_left
            · show Act.put _ (some 27) _ = _
              simp only [Act.put, List.setIfInBounds_toArray, List.set_cons_zero, List.set_cons_succ, i64_w, i32_w]
              rfl
            refine one_ (i := 7) (N := some 31) #[true, true, true, true, true, true, true, true, true, true, true, false, false, false, false] rfl rfl (one_of HT_.out (by kernel_rfl)) (by decide) (fun K hK => ?_)
            refine goes_ Try.func21 (by kernel_rfl) rfl #[.slice A1 (l1.take ((ji7) : Int).toNat).length c1] (by rfl) rfl rfl (by (try simp only [List.map_toArray, List.map_cons, List.map_nil]); first | done | (rw [show (l1.take ((ji7) : Int).toNat).length = (ji7).toNat from (by rw [List.length_take]; have h_ : ((ji7) : Int) ≤ (l1.length : Int) := of_decide_eq_true (by first | (with_reducible assumption) | assumption); omega)] <;> rfl) | (simp only [hji7]; rfl) | rfl | (simp only [List.length_drop, List.length_take]; rfl)) ?_
            with_reducible refine (scarfjointref02_Made.calls k _ _ (l1.take ((ji7) : Int).toNat) t312 _ ?side1 ?side2 A13.out).mono ?_
            (case side1 => repeat (first | exact (Kd.C_below HR311.out HB.out) | (with_reducible refine Kd.C_alloc ?_ _) | (with_reducible refine Kd.C_drewN ?_ _) | (with_reducible refine Kd.C_drew ?_)))
            (case side2 => exact HC311.out)
            rintro e w26 ⟨v313, rfl, ho0, hb⟩
            refine ⟨_, rfl, ?_⟩
            have n0_ := Aside0.mk (Kd.R_elder' (by (with_reducible repeat (first | apply Kd.R_alloc | apply Kd.R_drewN | apply Kd.R_drew)); exact HO310.out) (Kd.R_base ho0) hb)
            have n1_ := Aside0.mk (Kd.R_lower (Kd.R_new' ho0 (Kd.R_lt (by (with_reducible repeat (first | apply Kd.R_alloc | apply Kd.R_drewN | apply Kd.R_drew)); exact HO310.out))) (below_size (by repeat (first | (with_reducible first | exact HB.out | apply below_alloc | apply pw_below_drewN | apply below_drew1) | exact HB.out))))
            have n2_ := Aside0.mk (below_step (by repeat (first | (with_reducible first | exact HB.out | apply below_alloc | apply pw_below_drewN | apply below_drew1) | exact HB.out)) hb)
            clear HO310
            clear HB
            have HO310 := n0_
            have HO314 := n1_
            have HB := n2_
            clear n0_ n1_ n2_
            (try clear hb)
            (try clear hb2)
            (try clear hk)
            (try clear hi)
            (try clear ho0)
            refine hK.out _ _ trivial (fun hHeld => ?_)
            clear hK K
            refine norm_ (a' := ?_) ?_ ?_
            rotate_left
            · show Act.put _ (some 31) _ = _
              simp only [Act.put, List.setIfInBounds_toArray, List.set_cons_zero, List.set_cons_succ, i64_w, i32_w]
              rfl
            refine one_ (i := 11) (N := some 35) #[true, true, true, true, true, true, true, true, true, true, true, true, false, false, false] rfl rfl (one_of HT_.out (by kernel_rfl)) (by decide) (fun K hK => ?_)
            refine goes_ Try.func21 (by kernel_rfl) rfl #[.slice A2 (l2.take ((ji7) : Int).toNat).length c2] (by rfl) rfl rfl (by (try simp only [List.map_toArray, List.map_cons, List.map_nil]); first | done | (rw [show (l2.take ((ji7) : Int).toNat).length = (ji7).toNat from (by rw [List.length_take]; have h_ : ((ji7) : Int) ≤ (l2.length : Int) := of_decide_eq_true (by first | (with_reducible assumption) | assumption); omega)] <;> rfl) | (simp only [hji7]; rfl) | rfl | (simp only [List.length_drop, List.length_take]; rfl)) ?_
            with_reducible refine (scarfjointref02_Made.calls k _ _ (l2.take ((ji7) : Int).toNat) t316 _ ?side1 ?side2 A16.out).mono ?_
            (case side1 => repeat (first | exact (Kd.C_below HR315.out HB.out) | (with_reducible refine Kd.C_alloc ?_ _) | (with_reducible refine Kd.C_drewN ?_ _) | (with_reducible refine Kd.C_drew ?_)))
            (case side2 => exact HC315.out)
            rintro e w27 ⟨v317, rfl, ho0, hb⟩
            refine ⟨_, rfl, ?_⟩
            have n0_ := Aside0.mk (Kd.R_elder' (by (with_reducible repeat (first | apply Kd.R_alloc | apply Kd.R_drewN | apply Kd.R_drew)); exact HO310.out) (Kd.R_base ho0) hb)
            have n1_ := Aside0.mk (Kd.R_elder' (by (with_reducible repeat (first | apply Kd.R_alloc | apply Kd.R_drewN | apply Kd.R_drew)); exact HO314.out) (Kd.R_base ho0) hb)
            have n2_ := Aside0.mk (Kd.R_lower (Kd.R_new' (Kd.R_new' ho0 (Kd.R_lt (by (with_reducible repeat (first | apply Kd.R_alloc | apply Kd.R_drewN | apply Kd.R_drew)); exact HO310.out))) (Kd.R_lt (by (with_reducible repeat (first | apply Kd.R_alloc | apply Kd.R_drewN | apply Kd.R_drew)); exact HO314.out))) (below_size (by repeat (first | (with_reducible first | exact HB.out | apply below_alloc | apply pw_below_drewN | apply below_drew1) | exact HB.out))))
            have n3_ := Aside0.mk (below_step (by repeat (first | (with_reducible first | exact HB.out | apply below_alloc | apply pw_below_drewN | apply below_drew1) | exact HB.out)) hb)
            clear HO310
            clear HO314
            clear HB
            have HO310 := n0_
            have HO314 := n1_
            have HO318 := n2_
            have HB := n3_
            clear n0_ n1_ n2_ n3_
            (try clear hb)
            (try clear hb2)
            (try clear hk)
            (try clear hi)
            (try clear ho0)
            refine hK.out _ _ trivial (fun hHeld => ?_)
            clear hK K
            refine norm_ (a' := ?_) ?_ ?_
            rotate_left
            · show Act.put _ (some 35) _ = _
              simp only [Act.put, List.setIfInBounds_toArray, List.set_cons_zero, List.set_cons_succ, i64_w, i32_w]
              rfl
            refine pure_ (i := 12) (N := some 8) (v := ?_) (a' := ?_) #[true, true, true, true, true, true, true, true, true, true, true, true, true, false, false] rfl rfl (any_of HT_.out (by kernel_rfl)) (fun _ _ _ h => h) (Or.inl ⟨by rfl, ?_⟩) ?_ ?_
            rotate_left
            · intro w'
              go_simp
              with_reducible rfl
            rotate_left
            · simp only [Act.put, List.setIfInBounds_toArray, List.set_cons_zero, List.set_cons_succ, i64_w, i32_w]
              rfl
            refine pure_ (i := 13) (N := some 9) (v := ?_) (a' := ?_) #[true, true, true, true, true, true, true, true, true, true, true, true, true, true, false] rfl rfl (any_of HT_.out (by kernel_rfl)) (fun _ _ _ h => h) (Or.inl ⟨by rfl, ?_⟩) ?_ ?_
            rotate_left
            · intro w'
              go_simp
              with_reducible rfl
            rotate_left
            · simp only [Act.put, List.setIfInBounds_toArray, List.set_cons_zero, List.set_cons_succ, i64_w, i32_w]
              rfl
            refine pure_ (i := 14) (N := some 10) (v := ?_) (a' := ?_) #[true, true, true, true, true, true, true, true, true, true, true, true, true, true, true] rfl rfl (any_of HT_.out (by kernel_rfl)) (fun _ _ _ h => h) (Or.inl ⟨by rfl, ?_⟩) ?_ ?_
            rotate_left
            · intro w'
              go_simp
              with_reducible rfl
            rotate_left
            · simp only [Act.put, List.setIfInBounds_toArray, List.set_cons_zero, List.set_cons_succ, i64_w, i32_w]
              rfl
            refine done_ (done_of HT_.out (by kernel_rfl)) ?_
            obtain ⟨Ao28, co28, eo28⟩ := Kd.R_slice HO310.out
            subst eo28
            obtain ⟨Ao29, co29, eo29⟩ := Kd.R_slice HO314.out
            subst eo29
            go_upto_region 7 with (first | ((with_reducible refine gate_callee (f := 12) rfl ?_); refine goesL_ (some 39) rfl rfl Try.func12 (by kernel_rfl) rfl #[.slice Ao28 t308.length co28, .slice Ao29 t312.length co29] rfl (by (try simp only [List.map_toArray, List.map_cons, List.map_nil]); first | done | rfl | (simp only [List.length_drop, List.length_take]; rfl)) ?_; (with_reducible refine (partition_Join.calls k _ _ t308 _ _ t312 t319 t320 _ ?side1 ?side2 ?side3 ?side4 A17.out).mono ?_); (case side1 => repeat (first | exact (Kd.R_reads' HO310.out).2.2 | (with_reducible refine Kd.C_alloc ?_ _) | (with_reducible refine Kd.C_drewN ?_ _) | (with_reducible refine Kd.C_drew ?_))); (case side2 => exact (Kd.R_reads' HO310.out).2.1); (case side3 => repeat (first | exact (Kd.R_reads' HO314.out).2.2 | (with_reducible refine Kd.C_alloc ?_ _) | (with_reducible refine Kd.C_drewN ?_ _) | (with_reducible refine Kd.C_drew ?_))); (case side4 => exact (Kd.R_reads' HO314.out).2.1); rintro e w30 ⟨v321, rfl, ho0, hb⟩; refine ⟨_, rfl, ?_⟩; have n0_ := Aside0.mk (Kd.R_elder' (by (with_reducible repeat (first | apply Kd.R_alloc | apply Kd.R_drewN | apply Kd.R_drew)); exact HO310.out) (Kd.R_base ho0) hb); have n1_ := Aside0.mk (Kd.R_elder' (by (with_reducible repeat (first | apply Kd.R_alloc | apply Kd.R_drewN | apply Kd.R_drew)); exact HO314.out) (Kd.R_base ho0) hb); have n2_ := Aside0.mk (Kd.R_elder' (by (with_reducible repeat (first | apply Kd.R_alloc | apply Kd.R_drewN | apply Kd.R_drew)); exact HO318.out) (Kd.R_base ho0) hb); have n3_ := Aside0.mk (Kd.R_lower (Kd.R_new' (Kd.R_new' (Kd.R_new' ho0 (Kd.R_lt (by (with_reducible repeat (first | apply Kd.R_alloc | apply Kd.R_drewN | apply Kd.R_drew)); exact HO310.out))) (Kd.R_lt (by (with_reducible repeat (first | apply Kd.R_alloc | apply Kd.R_drewN | apply Kd.R_drew)); exact HO314.out))) (Kd.R_lt (by (with_reducible repeat (first | apply Kd.R_alloc | apply Kd.R_drewN | apply Kd.R_drew)); exact HO318.out))) (below_size (by repeat (first | (with_reducible first | exact HB.out | apply below_alloc | apply pw_below_drewN | apply below_drew1) | exact HB.out)))); have n4_ := Aside0.mk (below_step (by repeat (first | (with_reducible first | exact HB.out | apply below_alloc | apply pw_below_drewN | apply below_drew1) | exact HB.out)) hb); clear HO310; clear HO314; clear HO318; clear HB; have HO310 := n0_; have HO314 := n1_; have HO318 := n2_; have HO322 := n3_; have HB := n4_; clear n0_ n1_ n2_ n3_ n4_; (try clear hb); (try clear hb2); (try clear hk); (try clear hi); (try clear ho0)) | ((with_reducible refine gate_callee (f := 17) rfl ?_); refine goesL_ (some 45) rfl rfl Try.func17 (by kernel_rfl) rfl #[.slice Ao28 t308.length co28, .slice Ao29 t312.length co29] rfl (by (try simp only [List.map_toArray, List.map_cons, List.map_nil]); first | done | rfl | (simp only [List.length_drop, List.length_take]; rfl)) ?_; (with_reducible refine (partition_Meet.calls k _ _ t308 _ _ t312 t323 t324 _ ?side1 ?side2 ?side3 ?side4 A18.out).mono ?_); (case side1 => repeat (first | exact (Kd.R_reads' HO310.out).2.2 | (with_reducible refine Kd.C_alloc ?_ _) | (with_reducible refine Kd.C_drewN ?_ _) | (with_reducible refine Kd.C_drew ?_))); (case side2 => exact (Kd.R_reads' HO310.out).2.1); (case side3 => repeat (first | exact (Kd.R_reads' HO314.out).2.2 | (with_reducible refine Kd.C_alloc ?_ _) | (with_reducible refine Kd.C_drewN ?_ _) | (with_reducible refine Kd.C_drew ?_))); (case side4 => exact (Kd.R_reads' HO314.out).2.1); rintro e w31 ⟨v325, rfl, ho0, hb⟩; refine ⟨_, rfl, ?_⟩; have n0_ := Aside0.mk (Kd.R_elder' (by (with_reducible repeat (first | apply Kd.R_alloc | apply Kd.R_drewN | apply Kd.R_drew)); exact HO310.out) (Kd.R_base ho0) hb); have n1_ := Aside0.mk (Kd.R_elder' (by (with_reducible repeat (first | apply Kd.R_alloc | apply Kd.R_drewN | apply Kd.R_drew)); exact HO314.out) (Kd.R_base ho0) hb); have n2_ := Aside0.mk (Kd.R_elder' (by (with_reducible repeat (first | apply Kd.R_alloc | apply Kd.R_drewN | apply Kd.R_drew)); exact HO318.out) (Kd.R_base ho0) hb); have n3_ := Aside0.mk (Kd.R_elder' (by (with_reducible repeat (first | apply Kd.R_alloc | apply Kd.R_drewN | apply Kd.R_drew)); exact HO322.out) (Kd.R_base ho0) hb); have n4_ := Aside0.mk (Kd.R_lower (Kd.R_new' (Kd.R_new' (Kd.R_new' (Kd.R_new' ho0 (Kd.R_lt (by (with_reducible repeat (first | apply Kd.R_alloc | apply Kd.R_drewN | apply Kd.R_drew)); exact HO310.out))) (Kd.R_lt (by (with_reducible repeat (first | apply Kd.R_alloc | apply Kd.R_drewN | apply Kd.R_drew)); exact HO314.out))) (Kd.R_lt (by (with_reducible repeat (first | apply Kd.R_alloc | apply Kd.R_drewN | apply Kd.R_drew)); exact HO318.out))) (Kd.R_lt (by (with_reducible repeat (first | apply Kd.R_alloc | apply Kd.R_drewN | apply Kd.R_drew)); exact HO322.out))) (below_size (by repeat (first | (with_reducible first | exact HB.out | apply below_alloc | apply pw_below_drewN | apply below_drew1) | exact HB.out)))); have n5_ := Aside0.mk (below_step (by repeat (first | (with_reducible first | exact HB.out | apply below_alloc | apply pw_below_drewN | apply below_drew1) | exact HB.out)) hb); clear HO310; clear HO314; clear HO318; clear HO322; clear HB; have HO310 := n0_; have HO314 := n1_; have HO318 := n2_; have HO322 := n3_; have HO326 := n4_; have HB := n5_; clear n0_ n1_ n2_ n3_ n4_ n5_; (try clear hb); (try clear hb2); (try clear hk); (try clear hi); (try clear ho0)))
            (try simp only [Act.put, List.setIfInBounds_toArray, List.set_cons_zero, List.set_cons_succ])
            go_cut [77] (fun v77 wc => ∃ (kq : Nat) (x77_18 : Bool), v77 = .bool x77_18 ∧ Aside0 (scarfjointlaw02_PartitionBounds.j0 kq t308 t312 t316 t319 t323 x77_18 = some r) ∧ Aside0 (kq ≤ k) ∧ Aside0 (Kd.R (Kd.int .i64) 3 wc w.heap.size (fun k_ => some k_ ≠ ((.slice Ao29 t312.length co29) : Value).ownBlock ∧ some k_ ≠ (v317 : Value).ownBlock ∧ some k_ ≠ (v321 : Value).ownBlock ∧ some k_ ≠ (v325 : Value).ownBlock) (.slice Ao28 t308.length co28) t308) ∧ Aside0 (Kd.R (Kd.int .i64) 3 wc w.heap.size (fun k_ => some k_ ≠ ((.slice Ao28 t308.length co28) : Value).ownBlock ∧ some k_ ≠ (v317 : Value).ownBlock ∧ some k_ ≠ (v321 : Value).ownBlock ∧ some k_ ≠ (v325 : Value).ownBlock) (.slice Ao29 t312.length co29) t312) ∧ Aside0 (Kd.R (Kd.int .i64) 3 wc w.heap.size (fun k_ => some k_ ≠ ((.slice Ao28 t308.length co28) : Value).ownBlock ∧ some k_ ≠ ((.slice Ao29 t312.length co29) : Value).ownBlock ∧ some k_ ≠ (v321 : Value).ownBlock ∧ some k_ ≠ (v325 : Value).ownBlock) v317 t316) ∧ Aside0 (Kd.R (Kd.int .i64) 3 wc w.heap.size (fun k_ => some k_ ≠ ((.slice Ao28 t308.length co28) : Value).ownBlock ∧ some k_ ≠ ((.slice Ao29 t312.length co29) : Value).ownBlock ∧ some k_ ≠ (v317 : Value).ownBlock ∧ some k_ ≠ (v325 : Value).ownBlock) v321 t319) ∧ Aside0 (Kd.R (Kd.int .i64) 3 wc w.heap.size (fun k_ => some k_ ≠ ((.slice Ao28 t308.length co28) : Value).ownBlock ∧ some k_ ≠ ((.slice Ao29 t312.length co29) : Value).ownBlock ∧ some k_ ≠ (v317 : Value).ownBlock ∧ some k_ ≠ (v321 : Value).ownBlock) v325 t323) ∧ Aside0 (Below w.heap.size w wc))
            case first =>
              have H := HC19.out
              clear HC19
              by_cases c32 : t320 = 0
              · rw [if_pos c32] at H
                have c32b0 : (t320 == 0) = true := beq_iff_eq.mpr c32
                have c32b1 : (t320 != 0) = false := bne_eq_false_iff_eq.mpr c32
                clear c32
                (first | rw [c32b0] | (simp only [i64_w, i32_w]; rw [c32b0]) | skip)
                by_cases c33 : t324 = 0
                · rw [if_pos c33] at H
                  have c33b0 : (t324 == 0) = true := beq_iff_eq.mpr c33
                  have c33b1 : (t324 != 0) = false := bne_eq_false_iff_eq.mpr c33
                  clear c33
                  replace H := Option.bind_eq_some_iff.mp H
                  obtain ⟨t327, A340, H⟩ := H
                  replace H : (if t327 = true then ((partition_Finer.f k t312 t319).bind fun t328 => (if t328 = true then ((partition_Finer.f k t323 t308).bind fun t329 => (if t329 = true then ((partition_Finer.f k t323 t312).bind fun t330 => (scarfjointlaw02_PartitionBounds.j0 k t308 t312 t316 t319 t323 (!t330))) else (scarfjointlaw02_PartitionBounds.j0 k t308 t312 t316 t319 t323 true))) else (scarfjointlaw02_PartitionBounds.j0 k t308 t312 t316 t319 t323 true))) else (scarfjointlaw02_PartitionBounds.j0 k t308 t312 t316 t319 t323 true)) = some r := H
                  have A34 := Aside0.mk A340
                  clear A340
                  by_cases c35 : t327 = true
                  · subst c35
                    have H1 : ((partition_Finer.f k t312 t319).bind fun t328 => (if t328 = true then ((partition_Finer.f k t323 t308).bind fun t329 => (if t329 = true then ((partition_Finer.f k t323 t312).bind fun t330 => (scarfjointlaw02_PartitionBounds.j0 k t308 t312 t316 t319 t323 (!t330))) else (scarfjointlaw02_PartitionBounds.j0 k t308 t312 t316 t319 t323 true))) else (scarfjointlaw02_PartitionBounds.j0 k t308 t312 t316 t319 t323 true))) = some r := by rw [if_pos rfl] at H; exact H
                    clear H
                    have H := H1
                    clear H1
                    replace H := Option.bind_eq_some_iff.mp H
                    obtain ⟨t328, A360, H⟩ := H
                    replace H : (if t328 = true then ((partition_Finer.f k t323 t308).bind fun t329 => (if t329 = true then ((partition_Finer.f k t323 t312).bind fun t330 => (scarfjointlaw02_PartitionBounds.j0 k t308 t312 t316 t319 t323 (!t330))) else (scarfjointlaw02_PartitionBounds.j0 k t308 t312 t316 t319 t323 true))) else (scarfjointlaw02_PartitionBounds.j0 k t308 t312 t316 t319 t323 true)) = some r := H
                    have A36 := Aside0.mk A360
                    clear A360
                    by_cases c37 : t328 = true
                    · subst c37
                      have H1 : ((partition_Finer.f k t323 t308).bind fun t329 => (if t329 = true then ((partition_Finer.f k t323 t312).bind fun t330 => (scarfjointlaw02_PartitionBounds.j0 k t308 t312 t316 t319 t323 (!t330))) else (scarfjointlaw02_PartitionBounds.j0 k t308 t312 t316 t319 t323 true))) = some r := by rw [if_pos rfl] at H; exact H
                      clear H
                      have H := H1
                      clear H1
                      replace H := Option.bind_eq_some_iff.mp H
                      obtain ⟨t329, A380, H⟩ := H
                      replace H : (if t329 = true then ((partition_Finer.f k t323 t312).bind fun t330 => (scarfjointlaw02_PartitionBounds.j0 k t308 t312 t316 t319 t323 (!t330))) else (scarfjointlaw02_PartitionBounds.j0 k t308 t312 t316 t319 t323 true)) = some r := H
                      have A38 := Aside0.mk A380
                      clear A380
                      by_cases c39 : t329 = true
                      · subst c39
                        have H1 : ((partition_Finer.f k t323 t312).bind fun t330 => (scarfjointlaw02_PartitionBounds.j0 k t308 t312 t316 t319 t323 (!t330))) = some r := by rw [if_pos rfl] at H; exact H
                        clear H
                        have H := H1
                        clear H1
                        replace H := Option.bind_eq_some_iff.mp H
                        obtain ⟨t330, A400, H⟩ := H
                        replace H : (scarfjointlaw02_PartitionBounds.j0 k t308 t312 t316 t319 t323 (!t330)) = some r := H
                        have A40 := Aside0.mk A400
                        clear A400
                        have H' := Aside0.mk H
                        clear H
                        obtain ⟨Ao41, co41, eo41⟩ := Kd.R_slice HO322.out
                        subst eo41
                        go_wp2_with (first | (go_at_call 19; (with_reducible refine (partition_Finer.calls k _ _ t308 _ _ t319 true _ ?side1 ?side2 ?side3 ?side4 A34.out).mono ?_); (case side1 => repeat (first | exact (Kd.R_reads' HO310.out).2.2 | (with_reducible refine Kd.C_alloc ?_ _) | (with_reducible refine Kd.C_drewN ?_ _) | (with_reducible refine Kd.C_drew ?_))); (case side2 => exact (Kd.R_reads' HO310.out).2.1); (case side3 => repeat (first | exact (Kd.R_reads' HO322.out).2.2 | (with_reducible refine Kd.C_alloc ?_ _) | (with_reducible refine Kd.C_drewN ?_ _) | (with_reducible refine Kd.C_drew ?_))); (case side4 => exact (Kd.R_reads' HO322.out).2.1); rintro e w' ⟨rfl, ⟨nd, rfl⟩⟩) | (go_at_call 19; (with_reducible refine (partition_Finer.calls k _ _ t312 _ _ t319 true _ ?side1 ?side2 ?side3 ?side4 A36.out).mono ?_); (case side1 => repeat (first | exact (Kd.R_reads' HO314.out).2.2 | (with_reducible refine Kd.C_alloc ?_ _) | (with_reducible refine Kd.C_drewN ?_ _) | (with_reducible refine Kd.C_drew ?_))); (case side2 => exact (Kd.R_reads' HO314.out).2.1); (case side3 => repeat (first | exact (Kd.R_reads' HO322.out).2.2 | (with_reducible refine Kd.C_alloc ?_ _) | (with_reducible refine Kd.C_drewN ?_ _) | (with_reducible refine Kd.C_drew ?_))); (case side4 => exact (Kd.R_reads' HO322.out).2.1); rintro e w' ⟨rfl, ⟨nd, rfl⟩⟩; obtain ⟨Ao42, co42, eo42⟩ := Kd.R_slice HO326.out; subst eo42) | (go_at_call 19; (with_reducible refine (partition_Finer.calls k _ _ t323 _ _ t308 true _ ?side1 ?side2 ?side3 ?side4 A38.out).mono ?_); (case side1 => repeat (first | exact (Kd.R_reads' HO326.out).2.2 | (with_reducible refine Kd.C_alloc ?_ _) | (with_reducible refine Kd.C_drewN ?_ _) | (with_reducible refine Kd.C_drew ?_))); (case side2 => exact (Kd.R_reads' HO326.out).2.1); (case side3 => repeat (first | exact (Kd.R_reads' HO310.out).2.2 | (with_reducible refine Kd.C_alloc ?_ _) | (with_reducible refine Kd.C_drewN ?_ _) | (with_reducible refine Kd.C_drew ?_))); (case side4 => exact (Kd.R_reads' HO310.out).2.1); rintro e w' ⟨rfl, ⟨nd, rfl⟩⟩) | (go_at_call 19; (with_reducible refine (partition_Finer.calls k _ _ t323 _ _ t312 t330 _ ?side1 ?side2 ?side3 ?side4 A40.out).mono ?_); (case side1 => repeat (first | exact (Kd.R_reads' HO326.out).2.2 | (with_reducible refine Kd.C_alloc ?_ _) | (with_reducible refine Kd.C_drewN ?_ _) | (with_reducible refine Kd.C_drew ?_))); (case side2 => exact (Kd.R_reads' HO326.out).2.1); (case side3 => repeat (first | exact (Kd.R_reads' HO314.out).2.2 | (with_reducible refine Kd.C_alloc ?_ _) | (with_reducible refine Kd.C_drewN ?_ _) | (with_reducible refine Kd.C_drew ?_))); (case side4 => exact (Kd.R_reads' HO314.out).2.1); rintro e w' ⟨rfl, ⟨nd, rfl⟩⟩))
                        go_meet
                        case rel => exact ⟨_, (!t330), (by first | rfl | (simp; done) | (simp [*]; done)), H', ⟨by first | omega | exact Nat.le_refl _⟩, ⟨by (with_reducible repeat (first | apply Kd.R_alloc | apply Kd.R_drewN | apply Kd.R_drew)); exact Kd.R_mono HO310.out (fun _ hk => ⟨hk.1.1.1.2, ⟨hk.1.1.2, ⟨hk.1.2, hk.2⟩⟩⟩)⟩, ⟨by (with_reducible repeat (first | apply Kd.R_alloc | apply Kd.R_drewN | apply Kd.R_drew)); exact Kd.R_mono HO314.out (fun _ hk => ⟨hk.1.1.1.2, ⟨hk.1.1.2, ⟨hk.1.2, hk.2⟩⟩⟩)⟩, ⟨by (with_reducible repeat (first | apply Kd.R_alloc | apply Kd.R_drewN | apply Kd.R_drew)); exact Kd.R_mono HO318.out (fun _ hk => ⟨hk.1.1.1.2, ⟨hk.1.1.2, ⟨hk.1.2, hk.2⟩⟩⟩)⟩, ⟨by (with_reducible repeat (first | apply Kd.R_alloc | apply Kd.R_drewN | apply Kd.R_drew)); exact Kd.R_mono HO322.out (fun _ hk => ⟨hk.1.1.1.2, ⟨hk.1.1.2, ⟨hk.1.2, hk.2⟩⟩⟩)⟩, ⟨by (with_reducible repeat (first | apply Kd.R_alloc | apply Kd.R_drewN | apply Kd.R_drew)); exact Kd.R_mono HO326.out (fun _ hk => ⟨hk.1.1.1.2, ⟨hk.1.1.2, ⟨hk.1.2, hk.2⟩⟩⟩)⟩, ⟨by repeat (first | (with_reducible first | exact HB.out | apply below_alloc | apply pw_below_drewN | apply below_drew1) | exact HB.out)⟩⟩
                      · replace c39 := Bool.eq_false_iff.mpr c39
                        subst c39
                        have H1 : (scarfjointlaw02_PartitionBounds.j0 k t308 t312 t316 t319 t323 true) = some r := by rw [if_neg (show ¬ (false = true) by decide)] at H; exact H
                        clear H
                        have H := H1
                        clear H1
                        have H' := Aside0.mk H
                        clear H
                        obtain ⟨Ao43, co43, eo43⟩ := Kd.R_slice HO322.out
                        subst eo43
                        go_wp2_with (first | (go_at_call 19; (with_reducible refine (partition_Finer.calls k _ _ t308 _ _ t319 true _ ?side1 ?side2 ?side3 ?side4 A34.out).mono ?_); (case side1 => repeat (first | exact (Kd.R_reads' HO310.out).2.2 | (with_reducible refine Kd.C_alloc ?_ _) | (with_reducible refine Kd.C_drewN ?_ _) | (with_reducible refine Kd.C_drew ?_))); (case side2 => exact (Kd.R_reads' HO310.out).2.1); (case side3 => repeat (first | exact (Kd.R_reads' HO322.out).2.2 | (with_reducible refine Kd.C_alloc ?_ _) | (with_reducible refine Kd.C_drewN ?_ _) | (with_reducible refine Kd.C_drew ?_))); (case side4 => exact (Kd.R_reads' HO322.out).2.1); rintro e w' ⟨rfl, ⟨nd, rfl⟩⟩) | (go_at_call 19; (with_reducible refine (partition_Finer.calls k _ _ t312 _ _ t319 true _ ?side1 ?side2 ?side3 ?side4 A36.out).mono ?_); (case side1 => repeat (first | exact (Kd.R_reads' HO314.out).2.2 | (with_reducible refine Kd.C_alloc ?_ _) | (with_reducible refine Kd.C_drewN ?_ _) | (with_reducible refine Kd.C_drew ?_))); (case side2 => exact (Kd.R_reads' HO314.out).2.1); (case side3 => repeat (first | exact (Kd.R_reads' HO322.out).2.2 | (with_reducible refine Kd.C_alloc ?_ _) | (with_reducible refine Kd.C_drewN ?_ _) | (with_reducible refine Kd.C_drew ?_))); (case side4 => exact (Kd.R_reads' HO322.out).2.1); rintro e w' ⟨rfl, ⟨nd, rfl⟩⟩; obtain ⟨Ao44, co44, eo44⟩ := Kd.R_slice HO326.out; subst eo44) | (go_at_call 19; (with_reducible refine (partition_Finer.calls k _ _ t323 _ _ t308 false _ ?side1 ?side2 ?side3 ?side4 A38.out).mono ?_); (case side1 => repeat (first | exact (Kd.R_reads' HO326.out).2.2 | (with_reducible refine Kd.C_alloc ?_ _) | (with_reducible refine Kd.C_drewN ?_ _) | (with_reducible refine Kd.C_drew ?_))); (case side2 => exact (Kd.R_reads' HO326.out).2.1); (case side3 => repeat (first | exact (Kd.R_reads' HO310.out).2.2 | (with_reducible refine Kd.C_alloc ?_ _) | (with_reducible refine Kd.C_drewN ?_ _) | (with_reducible refine Kd.C_drew ?_))); (case side4 => exact (Kd.R_reads' HO310.out).2.1); rintro e w' ⟨rfl, ⟨nd, rfl⟩⟩))
                        go_meet
                        case rel => exact ⟨_, (true), (by first | rfl | (simp; done) | (simp [*]; done)), H', ⟨by first | omega | exact Nat.le_refl _⟩, ⟨by (with_reducible repeat (first | apply Kd.R_alloc | apply Kd.R_drewN | apply Kd.R_drew)); exact Kd.R_mono HO310.out (fun _ hk => ⟨hk.1.1.1.2, ⟨hk.1.1.2, ⟨hk.1.2, hk.2⟩⟩⟩)⟩, ⟨by (with_reducible repeat (first | apply Kd.R_alloc | apply Kd.R_drewN | apply Kd.R_drew)); exact Kd.R_mono HO314.out (fun _ hk => ⟨hk.1.1.1.2, ⟨hk.1.1.2, ⟨hk.1.2, hk.2⟩⟩⟩)⟩, ⟨by (with_reducible repeat (first | apply Kd.R_alloc | apply Kd.R_drewN | apply Kd.R_drew)); exact Kd.R_mono HO318.out (fun _ hk => ⟨hk.1.1.1.2, ⟨hk.1.1.2, ⟨hk.1.2, hk.2⟩⟩⟩)⟩, ⟨by (with_reducible repeat (first | apply Kd.R_alloc | apply Kd.R_drewN | apply Kd.R_drew)); exact Kd.R_mono HO322.out (fun _ hk => ⟨hk.1.1.1.2, ⟨hk.1.1.2, ⟨hk.1.2, hk.2⟩⟩⟩)⟩, ⟨by (with_reducible repeat (first | apply Kd.R_alloc | apply Kd.R_drewN | apply Kd.R_drew)); exact Kd.R_mono HO326.out (fun _ hk => ⟨hk.1.1.1.2, ⟨hk.1.1.2, ⟨hk.1.2, hk.2⟩⟩⟩)⟩, ⟨by repeat (first | (with_reducible first | exact HB.out | apply below_alloc | apply pw_below_drewN | apply below_drew1) | exact HB.out)⟩⟩
                    · replace c37 := Bool.eq_false_iff.mpr c37
                      subst c37
                      have H1 : (scarfjointlaw02_PartitionBounds.j0 k t308 t312 t316 t319 t323 true) = some r := by rw [if_neg (show ¬ (false = true) by decide)] at H; exact H
                      clear H
                      have H := H1
                      clear H1
                      have H' := Aside0.mk H
                      clear H
                      obtain ⟨Ao45, co45, eo45⟩ := Kd.R_slice HO322.out
                      subst eo45
                      go_wp2_with (first | (go_at_call 19; (with_reducible refine (partition_Finer.calls k _ _ t308 _ _ t319 true _ ?side1 ?side2 ?side3 ?side4 A34.out).mono ?_); (case side1 => repeat (first | exact (Kd.R_reads' HO310.out).2.2 | (with_reducible refine Kd.C_alloc ?_ _) | (with_reducible refine Kd.C_drewN ?_ _) | (with_reducible refine Kd.C_drew ?_))); (case side2 => exact (Kd.R_reads' HO310.out).2.1); (case side3 => repeat (first | exact (Kd.R_reads' HO322.out).2.2 | (with_reducible refine Kd.C_alloc ?_ _) | (with_reducible refine Kd.C_drewN ?_ _) | (with_reducible refine Kd.C_drew ?_))); (case side4 => exact (Kd.R_reads' HO322.out).2.1); rintro e w' ⟨rfl, ⟨nd, rfl⟩⟩) | (go_at_call 19; (with_reducible refine (partition_Finer.calls k _ _ t312 _ _ t319 false _ ?side1 ?side2 ?side3 ?side4 A36.out).mono ?_); (case side1 => repeat (first | exact (Kd.R_reads' HO314.out).2.2 | (with_reducible refine Kd.C_alloc ?_ _) | (with_reducible refine Kd.C_drewN ?_ _) | (with_reducible refine Kd.C_drew ?_))); (case side2 => exact (Kd.R_reads' HO314.out).2.1); (case side3 => repeat (first | exact (Kd.R_reads' HO322.out).2.2 | (with_reducible refine Kd.C_alloc ?_ _) | (with_reducible refine Kd.C_drewN ?_ _) | (with_reducible refine Kd.C_drew ?_))); (case side4 => exact (Kd.R_reads' HO322.out).2.1); rintro e w' ⟨rfl, ⟨nd, rfl⟩⟩))
                      go_meet
                      case rel => exact ⟨_, (true), (by first | rfl | (simp; done) | (simp [*]; done)), H', ⟨by first | omega | exact Nat.le_refl _⟩, ⟨by (with_reducible repeat (first | apply Kd.R_alloc | apply Kd.R_drewN | apply Kd.R_drew)); exact Kd.R_mono HO310.out (fun _ hk => ⟨hk.1.1.1.2, ⟨hk.1.1.2, ⟨hk.1.2, hk.2⟩⟩⟩)⟩, ⟨by (with_reducible repeat (first | apply Kd.R_alloc | apply Kd.R_drewN | apply Kd.R_drew)); exact Kd.R_mono HO314.out (fun _ hk => ⟨hk.1.1.1.2, ⟨hk.1.1.2, ⟨hk.1.2, hk.2⟩⟩⟩)⟩, ⟨by (with_reducible repeat (first | apply Kd.R_alloc | apply Kd.R_drewN | apply Kd.R_drew)); exact Kd.R_mono HO318.out (fun _ hk => ⟨hk.1.1.1.2, ⟨hk.1.1.2, ⟨hk.1.2, hk.2⟩⟩⟩)⟩, ⟨by (with_reducible repeat (first | apply Kd.R_alloc | apply Kd.R_drewN | apply Kd.R_drew)); exact Kd.R_mono HO322.out (fun _ hk => ⟨hk.1.1.1.2, ⟨hk.1.1.2, ⟨hk.1.2, hk.2⟩⟩⟩)⟩, ⟨by (with_reducible repeat (first | apply Kd.R_alloc | apply Kd.R_drewN | apply Kd.R_drew)); exact Kd.R_mono HO326.out (fun _ hk => ⟨hk.1.1.1.2, ⟨hk.1.1.2, ⟨hk.1.2, hk.2⟩⟩⟩)⟩, ⟨by repeat (first | (with_reducible first | exact HB.out | apply below_alloc | apply pw_below_drewN | apply below_drew1) | exact HB.out)⟩⟩
                  · replace c35 := Bool.eq_false_iff.mpr c35
                    subst c35
                    have H1 : (scarfjointlaw02_PartitionBounds.j0 k t308 t312 t316 t319 t323 true) = some r := by rw [if_neg (show ¬ (false = true) by decide)] at H; exact H
                    clear H
                    have H := H1
                    clear H1
                    have H' := Aside0.mk H
                    clear H
                    obtain ⟨Ao46, co46, eo46⟩ := Kd.R_slice HO322.out
                    subst eo46
                    go_wp2_with (first | (go_at_call 19; (with_reducible refine (partition_Finer.calls k _ _ t308 _ _ t319 false _ ?side1 ?side2 ?side3 ?side4 A34.out).mono ?_); (case side1 => repeat (first | exact (Kd.R_reads' HO310.out).2.2 | (with_reducible refine Kd.C_alloc ?_ _) | (with_reducible refine Kd.C_drewN ?_ _) | (with_reducible refine Kd.C_drew ?_))); (case side2 => exact (Kd.R_reads' HO310.out).2.1); (case side3 => repeat (first | exact (Kd.R_reads' HO322.out).2.2 | (with_reducible refine Kd.C_alloc ?_ _) | (with_reducible refine Kd.C_drewN ?_ _) | (with_reducible refine Kd.C_drew ?_))); (case side4 => exact (Kd.R_reads' HO322.out).2.1); rintro e w' ⟨rfl, ⟨nd, rfl⟩⟩))
                    go_meet
                    case rel => exact ⟨_, (true), (by first | rfl | (simp; done) | (simp [*]; done)), H', ⟨by first | omega | exact Nat.le_refl _⟩, ⟨by (with_reducible repeat (first | apply Kd.R_alloc | apply Kd.R_drewN | apply Kd.R_drew)); exact Kd.R_mono HO310.out (fun _ hk => ⟨hk.1.1.1.2, ⟨hk.1.1.2, ⟨hk.1.2, hk.2⟩⟩⟩)⟩, ⟨by (with_reducible repeat (first | apply Kd.R_alloc | apply Kd.R_drewN | apply Kd.R_drew)); exact Kd.R_mono HO314.out (fun _ hk => ⟨hk.1.1.1.2, ⟨hk.1.1.2, ⟨hk.1.2, hk.2⟩⟩⟩)⟩, ⟨by (with_reducible repeat (first | apply Kd.R_alloc | apply Kd.R_drewN | apply Kd.R_drew)); exact Kd.R_mono HO318.out (fun _ hk => ⟨hk.1.1.1.2, ⟨hk.1.1.2, ⟨hk.1.2, hk.2⟩⟩⟩)⟩, ⟨by (with_reducible repeat (first | apply Kd.R_alloc | apply Kd.R_drewN | apply Kd.R_drew)); exact Kd.R_mono HO322.out (fun _ hk => ⟨hk.1.1.1.2, ⟨hk.1.1.2, ⟨hk.1.2, hk.2⟩⟩⟩)⟩, ⟨by (with_reducible repeat (first | apply Kd.R_alloc | apply Kd.R_drewN | apply Kd.R_drew)); exact Kd.R_mono HO326.out (fun _ hk => ⟨hk.1.1.1.2, ⟨hk.1.1.2, ⟨hk.1.2, hk.2⟩⟩⟩)⟩, ⟨by repeat (first | (with_reducible first | exact HB.out | apply below_alloc | apply pw_below_drewN | apply below_drew1) | exact HB.out)⟩⟩
                · rw [if_neg c33] at H
                  have c33b0 : (t324 == 0) = false := beq_eq_false_iff_ne.mpr c33
                  have c33b1 : (t324 != 0) = true := bne_iff_ne.mpr c33
                  have H' := Aside0.mk H
                  clear H
                  go_wp2
                  go_meet
                  case rel => exact ⟨_, (true), (by first | rfl | (simp; done) | (simp [*]; done)), H', ⟨by first | omega | exact Nat.le_refl _⟩, ⟨by (with_reducible repeat (first | apply Kd.R_alloc | apply Kd.R_drewN | apply Kd.R_drew)); exact Kd.R_mono HO310.out (fun _ hk => ⟨hk.1.1.1.2, ⟨hk.1.1.2, ⟨hk.1.2, hk.2⟩⟩⟩)⟩, ⟨by (with_reducible repeat (first | apply Kd.R_alloc | apply Kd.R_drewN | apply Kd.R_drew)); exact Kd.R_mono HO314.out (fun _ hk => ⟨hk.1.1.1.2, ⟨hk.1.1.2, ⟨hk.1.2, hk.2⟩⟩⟩)⟩, ⟨by (with_reducible repeat (first | apply Kd.R_alloc | apply Kd.R_drewN | apply Kd.R_drew)); exact Kd.R_mono HO318.out (fun _ hk => ⟨hk.1.1.1.2, ⟨hk.1.1.2, ⟨hk.1.2, hk.2⟩⟩⟩)⟩, ⟨by (with_reducible repeat (first | apply Kd.R_alloc | apply Kd.R_drewN | apply Kd.R_drew)); exact Kd.R_mono HO322.out (fun _ hk => ⟨hk.1.1.1.2, ⟨hk.1.1.2, ⟨hk.1.2, hk.2⟩⟩⟩)⟩, ⟨by (with_reducible repeat (first | apply Kd.R_alloc | apply Kd.R_drewN | apply Kd.R_drew)); exact Kd.R_mono HO326.out (fun _ hk => ⟨hk.1.1.1.2, ⟨hk.1.1.2, ⟨hk.1.2, hk.2⟩⟩⟩)⟩, ⟨by repeat (first | (with_reducible first | exact HB.out | apply below_alloc | apply pw_below_drewN | apply below_drew1) | exact HB.out)⟩⟩
              · rw [if_neg c32] at H
                have c32b0 : (t320 == 0) = false := beq_eq_false_iff_ne.mpr c32
                have c32b1 : (t320 != 0) = true := bne_iff_ne.mpr c32
                (first | rw [c32b0] | (simp only [i64_w, i32_w]; rw [c32b0]) | skip)
                have H' := Aside0.mk H
                clear H
                go_wp2
                go_meet
                case rel => exact ⟨_, (true), (by first | rfl | (simp; done) | (simp [*]; done)), H', ⟨by first | omega | exact Nat.le_refl _⟩, ⟨by (with_reducible repeat (first | apply Kd.R_alloc | apply Kd.R_drewN | apply Kd.R_drew)); exact Kd.R_mono HO310.out (fun _ hk => ⟨hk.1.1.1.2, ⟨hk.1.1.2, ⟨hk.1.2, hk.2⟩⟩⟩)⟩, ⟨by (with_reducible repeat (first | apply Kd.R_alloc | apply Kd.R_drewN | apply Kd.R_drew)); exact Kd.R_mono HO314.out (fun _ hk => ⟨hk.1.1.1.2, ⟨hk.1.1.2, ⟨hk.1.2, hk.2⟩⟩⟩)⟩, ⟨by (with_reducible repeat (first | apply Kd.R_alloc | apply Kd.R_drewN | apply Kd.R_drew)); exact Kd.R_mono HO318.out (fun _ hk => ⟨hk.1.1.1.2, ⟨hk.1.1.2, ⟨hk.1.2, hk.2⟩⟩⟩)⟩, ⟨by (with_reducible repeat (first | apply Kd.R_alloc | apply Kd.R_drewN | apply Kd.R_drew)); exact Kd.R_mono HO322.out (fun _ hk => ⟨hk.1.1.1.2, ⟨hk.1.1.2, ⟨hk.1.2, hk.2⟩⟩⟩)⟩, ⟨by (with_reducible repeat (first | apply Kd.R_alloc | apply Kd.R_drewN | apply Kd.R_drew)); exact Kd.R_mono HO326.out (fun _ hk => ⟨hk.1.1.1.2, ⟨hk.1.1.2, ⟨hk.1.2, hk.2⟩⟩⟩)⟩, ⟨by repeat (first | (with_reducible first | exact HB.out | apply below_alloc | apply pw_below_drewN | apply below_drew1) | exact HB.out)⟩⟩
            case rest =>
              clear HC19
              try clear c1
              try clear c2
              try clear p2
              try clear c3
              try clear c5
              try clear c8
              try clear c8b0
              try clear c8b1
              try clear c9
              try clear c9b0
              try clear c9b1
              try clear c10
              try clear c11
              try clear c11b0
              try clear c12
              try clear c12b0
              try clear c12b1
              try clear c14
              try clear c14b0
              try clear c15
              try clear c15b0
              try clear c15b1
              try clear c17
              try clear c21
              try clear c32
              try clear c32b0
              try clear c32b1
              try clear c33
              try clear c33b0
              try clear c33b1
              try clear c35
              try clear c37
              try clear c39
              obtain ⟨kq, x77_18, rfl, HA, HJ18, HO_8, HO_9, HO_10, HO_11, HO_13, HB⟩ := hcut
              cases kq with
              | zero => exact absurd HA.out (by simp [scarfjointlaw02_PartitionBounds.j0])
              | succ kj18 =>
                have H := HA.out
                clear HA
                simp only [scarfjointlaw02_PartitionBounds.j0] at H
                by_cases c47 : x77_18 = true
                · subst c47
                  have H1 : (some false) = some r := by rw [if_pos rfl] at H; exact H
                  clear H
                  have H := H1
                  clear H1
                  obtain rfl := Option.some.inj H
                  go_wp2
                  go_ret
                  exact ⟨by first | rfl | (simp [errW_none, errW_some] <;> rfl) | (simp only [← hji6, ← hji7]; first | rfl | (simp [errW_none, errW_some] <;> rfl)) | (simp [*, errW_none, errW_some] <;> rfl), by repeat (first | (with_reducible first | exact HB.out | apply below_alloc | apply pw_below_drewN | apply below_drew1) | exact HB.out)⟩
                · replace c47 := Bool.eq_false_iff.mpr c47
                  subst c47
                  have H1 : ((partition_Finer.f kj18 t308 t316).bind fun t331 => (if t331 = true then ((partition_Finer.f kj18 t312 t316).bind fun t332 => (if t332 = true then ((partition_Finer.f kj18 t319 t316).bind fun t333 => (scarfjointlaw02_PartitionBounds.j1 kj18 t308 t312 t316 t323 (!t333))) else (scarfjointlaw02_PartitionBounds.j1 kj18 t308 t312 t316 t323 false))) else (scarfjointlaw02_PartitionBounds.j1 kj18 t308 t312 t316 t323 false))) = some r := by rw [if_neg (show ¬ (false = true) by decide)] at H; exact H
                  clear H
                  have H := H1
                  clear H1
                  have HC48 := Aside0.mk H
                  clear H
                  go_upto_region 9 with (fail)
                  go_cut [91] (fun v91 wc => ∃ (kq : Nat) (x91_47 : Bool), v91 = .bool x91_47 ∧ Aside0 (scarfjointlaw02_PartitionBounds.j1 kq t308 t312 t316 t323 x91_47 = some r) ∧ Aside0 (kq ≤ kj18) ∧ Aside0 (Kd.R (Kd.int .i64) 3 wc w.heap.size (fun k_ => some k_ ≠ ((.slice Ao29 t312.length co29) : Value).ownBlock ∧ some k_ ≠ (v317 : Value).ownBlock ∧ some k_ ≠ (v325 : Value).ownBlock) (.slice Ao28 t308.length co28) t308) ∧ Aside0 (Kd.R (Kd.int .i64) 3 wc w.heap.size (fun k_ => some k_ ≠ ((.slice Ao28 t308.length co28) : Value).ownBlock ∧ some k_ ≠ (v317 : Value).ownBlock ∧ some k_ ≠ (v325 : Value).ownBlock) (.slice Ao29 t312.length co29) t312) ∧ Aside0 (Kd.R (Kd.int .i64) 3 wc w.heap.size (fun k_ => some k_ ≠ ((.slice Ao28 t308.length co28) : Value).ownBlock ∧ some k_ ≠ ((.slice Ao29 t312.length co29) : Value).ownBlock ∧ some k_ ≠ (v325 : Value).ownBlock) v317 t316) ∧ Aside0 (Kd.R (Kd.int .i64) 3 wc w.heap.size (fun k_ => some k_ ≠ ((.slice Ao28 t308.length co28) : Value).ownBlock ∧ some k_ ≠ ((.slice Ao29 t312.length co29) : Value).ownBlock ∧ some k_ ≠ (v317 : Value).ownBlock) v325 t323) ∧ Aside0 (Below w.heap.size w wc))
                  case first =>
                    have H := HC48.out
                    clear HC48
                    replace H := Option.bind_eq_some_iff.mp H
                    obtain ⟨t331, A490, H⟩ := H
                    replace H : (if t331 = true then ((partition_Finer.f kj18 t312 t316).bind fun t332 => (if t332 = true then ((partition_Finer.f kj18 t319 t316).bind fun t333 => (scarfjointlaw02_PartitionBounds.j1 kj18 t308 t312 t316 t323 (!t333))) else (scarfjointlaw02_PartitionBounds.j1 kj18 t308 t312 t316 t323 false))) else (scarfjointlaw02_PartitionBounds.j1 kj18 t308 t312 t316 t323 false)) = some r := H
                    have A49 := Aside0.mk A490
                    clear A490
                    by_cases c50 : t331 = true
                    · subst c50
                      have H1 : ((partition_Finer.f kj18 t312 t316).bind fun t332 => (if t332 = true then ((partition_Finer.f kj18 t319 t316).bind fun t333 => (scarfjointlaw02_PartitionBounds.j1 kj18 t308 t312 t316 t323 (!t333))) else (scarfjointlaw02_PartitionBounds.j1 kj18 t308 t312 t316 t323 false))) = some r := by rw [if_pos rfl] at H; exact H
                      clear H
                      have H := H1
                      clear H1
                      replace H := Option.bind_eq_some_iff.mp H
                      obtain ⟨t332, A510, H⟩ := H
                      replace H : (if t332 = true then ((partition_Finer.f kj18 t319 t316).bind fun t333 => (scarfjointlaw02_PartitionBounds.j1 kj18 t308 t312 t316 t323 (!t333))) else (scarfjointlaw02_PartitionBounds.j1 kj18 t308 t312 t316 t323 false)) = some r := H
                      have A51 := Aside0.mk A510
                      clear A510
                      by_cases c52 : t332 = true
                      · subst c52
                        have H1 : ((partition_Finer.f kj18 t319 t316).bind fun t333 => (scarfjointlaw02_PartitionBounds.j1 kj18 t308 t312 t316 t323 (!t333))) = some r := by rw [if_pos rfl] at H; exact H
                        clear H
                        have H := H1
                        clear H1
                        replace H := Option.bind_eq_some_iff.mp H
                        obtain ⟨t333, A530, H⟩ := H
                        replace H : (scarfjointlaw02_PartitionBounds.j1 kj18 t308 t312 t316 t323 (!t333)) = some r := H
                        have A53 := Aside0.mk A530
                        clear A530
                        have H' := Aside0.mk H
                        clear H
                        obtain ⟨Ao54, co54, eo54⟩ := Kd.R_slice HO_10.out
                        subst eo54
                        go_wp2_with (first | ((with_reducible refine gate_callee (f := 19) rfl ?_); refine goesL_ (some 80) rfl rfl Try.func19 (by kernel_rfl) rfl #[.slice Ao28 t308.length co28, .slice Ao54 t316.length co54] rfl (by (try simp only [List.map_toArray, List.map_cons, List.map_nil]); first | done | rfl | (simp only [List.length_drop, List.length_take]; rfl)) ?_; (with_reducible refine (partition_Finer.calls kj18 _ _ t308 _ _ t316 true _ ?side1 ?side2 ?side3 ?side4 A49.out).mono ?_); (case side1 => repeat (first | exact (Kd.R_reads' HO_8.out).2.2 | (with_reducible refine Kd.C_alloc ?_ _) | (with_reducible refine Kd.C_drewN ?_ _) | (with_reducible refine Kd.C_drew ?_))); (case side2 => exact (Kd.R_reads' HO_8.out).2.1); (case side3 => repeat (first | exact (Kd.R_reads' HO_10.out).2.2 | (with_reducible refine Kd.C_alloc ?_ _) | (with_reducible refine Kd.C_drewN ?_ _) | (with_reducible refine Kd.C_drew ?_))); (case side4 => exact (Kd.R_reads' HO_10.out).2.1); rintro e w' ⟨rfl, ⟨nd, rfl⟩⟩; refine ⟨_, rfl, ?_⟩) | (go_at_call 19; (with_reducible refine (partition_Finer.calls kj18 _ _ t312 _ _ t316 true _ ?side1 ?side2 ?side3 ?side4 A51.out).mono ?_); (case side1 => repeat (first | exact (Kd.R_reads' HO_9.out).2.2 | (with_reducible refine Kd.C_alloc ?_ _) | (with_reducible refine Kd.C_drewN ?_ _) | (with_reducible refine Kd.C_drew ?_))); (case side2 => exact (Kd.R_reads' HO_9.out).2.1); (case side3 => repeat (first | exact (Kd.R_reads' HO_10.out).2.2 | (with_reducible refine Kd.C_alloc ?_ _) | (with_reducible refine Kd.C_drewN ?_ _) | (with_reducible refine Kd.C_drew ?_))); (case side4 => exact (Kd.R_reads' HO_10.out).2.1); rintro e w' ⟨rfl, ⟨nd, rfl⟩⟩; obtain ⟨Ao55, co55, eo55⟩ := Kd.R_slice HO_11.out; subst eo55) | (go_at_call 19; (with_reducible refine (partition_Finer.calls kj18 _ _ t319 _ _ t316 t333 _ ?side1 ?side2 ?side3 ?side4 A53.out).mono ?_); (case side1 => repeat (first | exact (Kd.R_reads' HO_11.out).2.2 | (with_reducible refine Kd.C_alloc ?_ _) | (with_reducible refine Kd.C_drewN ?_ _) | (with_reducible refine Kd.C_drew ?_))); (case side2 => exact (Kd.R_reads' HO_11.out).2.1); (case side3 => repeat (first | exact (Kd.R_reads' HO_10.out).2.2 | (with_reducible refine Kd.C_alloc ?_ _) | (with_reducible refine Kd.C_drewN ?_ _) | (with_reducible refine Kd.C_drew ?_))); (case side4 => exact (Kd.R_reads' HO_10.out).2.1); rintro e w' ⟨rfl, ⟨nd, rfl⟩⟩))
                        go_meet
                        case rel => exact ⟨_, (!t333), (by first | rfl | (simp; done) | (simp [*]; done)), H', ⟨by have := HJ18.out; first | omega | exact Nat.le_refl _⟩, ⟨by (with_reducible repeat (first | apply Kd.R_alloc | apply Kd.R_drewN | apply Kd.R_drew)); exact Kd.R_mono HO_8.out (fun _ hk => ⟨hk.1, ⟨hk.2.1, hk.2.2.2⟩⟩)⟩, ⟨by (with_reducible repeat (first | apply Kd.R_alloc | apply Kd.R_drewN | apply Kd.R_drew)); exact Kd.R_mono HO_9.out (fun _ hk => ⟨hk.1, ⟨hk.2.1, hk.2.2.2⟩⟩)⟩, ⟨by (with_reducible repeat (first | apply Kd.R_alloc | apply Kd.R_drewN | apply Kd.R_drew)); exact Kd.R_mono HO_10.out (fun _ hk => ⟨hk.1, ⟨hk.2.1, hk.2.2.2⟩⟩)⟩, ⟨by (with_reducible repeat (first | apply Kd.R_alloc | apply Kd.R_drewN | apply Kd.R_drew)); exact Kd.R_mono HO_13.out (fun _ hk => ⟨hk.1, ⟨hk.2.1, hk.2.2.1⟩⟩)⟩, ⟨by repeat (first | (with_reducible first | exact HB.out | apply below_alloc | apply pw_below_drewN | apply below_drew1) | exact HB.out)⟩⟩
                      · replace c52 := Bool.eq_false_iff.mpr c52
                        subst c52
                        have H1 : (scarfjointlaw02_PartitionBounds.j1 kj18 t308 t312 t316 t323 false) = some r := by rw [if_neg (show ¬ (false = true) by decide)] at H; exact H
                        clear H
                        have H := H1
                        clear H1
                        have H' := Aside0.mk H
                        clear H
                        obtain ⟨Ao56, co56, eo56⟩ := Kd.R_slice HO_10.out
                        subst eo56
                        go_wp2_with (first | ((with_reducible refine gate_callee (f := 19) rfl ?_); refine goesL_ (some 80) rfl rfl Try.func19 (by kernel_rfl) rfl #[.slice Ao28 t308.length co28, .slice Ao56 t316.length co56] rfl (by (try simp only [List.map_toArray, List.map_cons, List.map_nil]); first | done | rfl | (simp only [List.length_drop, List.length_take]; rfl)) ?_; (with_reducible refine (partition_Finer.calls kj18 _ _ t308 _ _ t316 true _ ?side1 ?side2 ?side3 ?side4 A49.out).mono ?_); (case side1 => repeat (first | exact (Kd.R_reads' HO_8.out).2.2 | (with_reducible refine Kd.C_alloc ?_ _) | (with_reducible refine Kd.C_drewN ?_ _) | (with_reducible refine Kd.C_drew ?_))); (case side2 => exact (Kd.R_reads' HO_8.out).2.1); (case side3 => repeat (first | exact (Kd.R_reads' HO_10.out).2.2 | (with_reducible refine Kd.C_alloc ?_ _) | (with_reducible refine Kd.C_drewN ?_ _) | (with_reducible refine Kd.C_drew ?_))); (case side4 => exact (Kd.R_reads' HO_10.out).2.1); rintro e w' ⟨rfl, ⟨nd, rfl⟩⟩; refine ⟨_, rfl, ?_⟩) | (go_at_call 19; (with_reducible refine (partition_Finer.calls kj18 _ _ t312 _ _ t316 false _ ?side1 ?side2 ?side3 ?side4 A51.out).mono ?_); (case side1 => repeat (first | exact (Kd.R_reads' HO_9.out).2.2 | (with_reducible refine Kd.C_alloc ?_ _) | (with_reducible refine Kd.C_drewN ?_ _) | (with_reducible refine Kd.C_drew ?_))); (case side2 => exact (Kd.R_reads' HO_9.out).2.1); (case side3 => repeat (first | exact (Kd.R_reads' HO_10.out).2.2 | (with_reducible refine Kd.C_alloc ?_ _) | (with_reducible refine Kd.C_drewN ?_ _) | (with_reducible refine Kd.C_drew ?_))); (case side4 => exact (Kd.R_reads' HO_10.out).2.1); rintro e w' ⟨rfl, ⟨nd, rfl⟩⟩))
                        go_meet
                        case rel => exact ⟨_, (false), (by first | rfl | (simp; done) | (simp [*]; done)), H', ⟨by have := HJ18.out; first | omega | exact Nat.le_refl _⟩, ⟨by (with_reducible repeat (first | apply Kd.R_alloc | apply Kd.R_drewN | apply Kd.R_drew)); exact Kd.R_mono HO_8.out (fun _ hk => ⟨hk.1, ⟨hk.2.1, hk.2.2.2⟩⟩)⟩, ⟨by (with_reducible repeat (first | apply Kd.R_alloc | apply Kd.R_drewN | apply Kd.R_drew)); exact Kd.R_mono HO_9.out (fun _ hk => ⟨hk.1, ⟨hk.2.1, hk.2.2.2⟩⟩)⟩, ⟨by (with_reducible repeat (first | apply Kd.R_alloc | apply Kd.R_drewN | apply Kd.R_drew)); exact Kd.R_mono HO_10.out (fun _ hk => ⟨hk.1, ⟨hk.2.1, hk.2.2.2⟩⟩)⟩, ⟨by (with_reducible repeat (first | apply Kd.R_alloc | apply Kd.R_drewN | apply Kd.R_drew)); exact Kd.R_mono HO_13.out (fun _ hk => ⟨hk.1, ⟨hk.2.1, hk.2.2.1⟩⟩)⟩, ⟨by repeat (first | (with_reducible first | exact HB.out | apply below_alloc | apply pw_below_drewN | apply below_drew1) | exact HB.out)⟩⟩
                    · replace c50 := Bool.eq_false_iff.mpr c50
                      subst c50
                      have H1 : (scarfjointlaw02_PartitionBounds.j1 kj18 t308 t312 t316 t323 false) = some r := by rw [if_neg (show ¬ (false = true) by decide)] at H; exact H
                      clear H
                      have H := H1
                      clear H1
                      have H' := Aside0.mk H
                      clear H
                      obtain ⟨Ao57, co57, eo57⟩ := Kd.R_slice HO_10.out
                      subst eo57
                      go_wp2_with (first | ((with_reducible refine gate_callee (f := 19) rfl ?_); refine goesL_ (some 80) rfl rfl Try.func19 (by kernel_rfl) rfl #[.slice Ao28 t308.length co28, .slice Ao57 t316.length co57] rfl (by (try simp only [List.map_toArray, List.map_cons, List.map_nil]); first | done | rfl | (simp only [List.length_drop, List.length_take]; rfl)) ?_; (with_reducible refine (partition_Finer.calls kj18 _ _ t308 _ _ t316 false _ ?side1 ?side2 ?side3 ?side4 A49.out).mono ?_); (case side1 => repeat (first | exact (Kd.R_reads' HO_8.out).2.2 | (with_reducible refine Kd.C_alloc ?_ _) | (with_reducible refine Kd.C_drewN ?_ _) | (with_reducible refine Kd.C_drew ?_))); (case side2 => exact (Kd.R_reads' HO_8.out).2.1); (case side3 => repeat (first | exact (Kd.R_reads' HO_10.out).2.2 | (with_reducible refine Kd.C_alloc ?_ _) | (with_reducible refine Kd.C_drewN ?_ _) | (with_reducible refine Kd.C_drew ?_))); (case side4 => exact (Kd.R_reads' HO_10.out).2.1); rintro e w' ⟨rfl, ⟨nd, rfl⟩⟩; refine ⟨_, rfl, ?_⟩))
                      go_meet
                      case rel => exact ⟨_, (false), (by first | rfl | (simp; done) | (simp [*]; done)), H', ⟨by have := HJ18.out; first | omega | exact Nat.le_refl _⟩, ⟨by (with_reducible repeat (first | apply Kd.R_alloc | apply Kd.R_drewN | apply Kd.R_drew)); exact Kd.R_mono HO_8.out (fun _ hk => ⟨hk.1, ⟨hk.2.1, hk.2.2.2⟩⟩)⟩, ⟨by (with_reducible repeat (first | apply Kd.R_alloc | apply Kd.R_drewN | apply Kd.R_drew)); exact Kd.R_mono HO_9.out (fun _ hk => ⟨hk.1, ⟨hk.2.1, hk.2.2.2⟩⟩)⟩, ⟨by (with_reducible repeat (first | apply Kd.R_alloc | apply Kd.R_drewN | apply Kd.R_drew)); exact Kd.R_mono HO_10.out (fun _ hk => ⟨hk.1, ⟨hk.2.1, hk.2.2.2⟩⟩)⟩, ⟨by (with_reducible repeat (first | apply Kd.R_alloc | apply Kd.R_drewN | apply Kd.R_drew)); exact Kd.R_mono HO_13.out (fun _ hk => ⟨hk.1, ⟨hk.2.1, hk.2.2.1⟩⟩)⟩, ⟨by repeat (first | (with_reducible first | exact HB.out | apply below_alloc | apply pw_below_drewN | apply below_drew1) | exact HB.out)⟩⟩
                  case rest =>
                    clear HC48
                    try clear c1
                    try clear c2
                    try clear p2
                    try clear c3
                    try clear c4
                    try clear c5
                    try clear c8
                    try clear c8b0
                    try clear c8b1
                    try clear c9
                    try clear c9b0
                    try clear c9b1
                    try clear c10
                    try clear c11
                    try clear c11b0
                    try clear c12
                    try clear c12b0
                    try clear c12b1
                    try clear c14
                    try clear c14b0
                    try clear c15
                    try clear c15b0
                    try clear c15b1
                    try clear c17
                    try clear c19
                    try clear c21
                    try clear c32
                    try clear c32b0
                    try clear c32b1
                    try clear c33
                    try clear c33b0
                    try clear c33b1
                    try clear c35
                    try clear c37
                    try clear c39
                    try clear c47
                    try clear c50
                    try clear c52
                    try clear p2
                    obtain ⟨kq, x91_47, rfl, HA, HJ47, HO_8, HO_9, HO_10, HO_13, HB⟩ := hcut
                    cases kq with
                    | zero => exact absurd HA.out (by simp [scarfjointlaw02_PartitionBounds.j1])
                    | succ kj47 =>
                      have H := HA.out
                      clear HA
                      simp only [scarfjointlaw02_PartitionBounds.j1] at H
                      by_cases c58 : x91_47 = true
                      · subst c58
                        have H1 : (some false) = some r := by rw [if_pos rfl] at H; exact H
                        clear H
                        have H := H1
                        clear H1
                        obtain rfl := Option.some.inj H
                        go_wp2
                        go_ret
                        exact ⟨by first | rfl | (simp [errW_none, errW_some] <;> rfl) | (simp only [← hji6, ← hji7]; first | rfl | (simp [errW_none, errW_some] <;> rfl)) | (simp [*, errW_none, errW_some] <;> rfl), by repeat (first | (with_reducible first | exact HB.out | apply below_alloc | apply pw_below_drewN | apply below_drew1) | exact HB.out)⟩
                      · replace c58 := Bool.eq_false_iff.mpr c58
                        subst c58
                        have H1 : ((partition_Finer.f kj47 t316 t308).bind fun t334 => (if t334 = true then ((partition_Finer.f kj47 t316 t312).bind fun t335 => (if t335 = true then ((partition_Finer.f kj47 t316 t323).bind fun t336 => (some t336)) else (some true))) else (some true))) = some r := by rw [if_neg (show ¬ (false = true) by decide)] at H; exact H
                        clear H
                        have H := H1
                        clear H1
                        replace H := Option.bind_eq_some_iff.mp H
                        obtain ⟨t334, A590, H⟩ := H
                        replace H : (if t334 = true then ((partition_Finer.f kj47 t316 t312).bind fun t335 => (if t335 = true then ((partition_Finer.f kj47 t316 t323).bind fun t336 => (some t336)) else (some true))) else (some true)) = some r := H
                        have A59 := Aside0.mk A590
                        clear A590
                        by_cases c60 : t334 = true
                        · subst c60
                          have H1 : ((partition_Finer.f kj47 t316 t312).bind fun t335 => (if t335 = true then ((partition_Finer.f kj47 t316 t323).bind fun t336 => (some t336)) else (some true))) = some r := by rw [if_pos rfl] at H; exact H
                          clear H
                          have H := H1
                          clear H1
                          replace H := Option.bind_eq_some_iff.mp H
                          obtain ⟨t335, A610, H⟩ := H
                          replace H : (if t335 = true then ((partition_Finer.f kj47 t316 t323).bind fun t336 => (some t336)) else (some true)) = some r := H
                          have A61 := Aside0.mk A610
                          clear A610
                          by_cases c62 : t335 = true
                          · subst c62
                            have H1 : ((partition_Finer.f kj47 t316 t323).bind fun t336 => (some t336)) = some r := by rw [if_pos rfl] at H; exact H
                            clear H
                            have H := H1
                            clear H1
                            replace H := Option.bind_eq_some_iff.mp H
                            obtain ⟨t336, A630, H⟩ := H
                            replace H : (some t336) = some r := H
                            have A63 := Aside0.mk A630
                            clear A630
                            obtain rfl := Option.some.inj H
                            obtain ⟨Ao64, co64, eo64⟩ := Kd.R_slice HO_10.out
                            subst eo64
                            go_wp2_with (first | ((with_reducible refine gate_callee (f := 19) rfl ?_); refine goesL_ (some 94) rfl rfl Try.func19 (by kernel_rfl) rfl #[.slice Ao64 t316.length co64, .slice Ao28 t308.length co28] rfl (by (try simp only [List.map_toArray, List.map_cons, List.map_nil]); first | done | rfl | (simp only [List.length_drop, List.length_take]; rfl)) ?_; (with_reducible refine (partition_Finer.calls kj47 _ _ t316 _ _ t308 true _ ?side1 ?side2 ?side3 ?side4 A59.out).mono ?_); (case side1 => repeat (first | exact (Kd.R_reads' HO_10.out).2.2 | (with_reducible refine Kd.C_alloc ?_ _) | (with_reducible refine Kd.C_drewN ?_ _) | (with_reducible refine Kd.C_drew ?_))); (case side2 => exact (Kd.R_reads' HO_10.out).2.1); (case side3 => repeat (first | exact (Kd.R_reads' HO_8.out).2.2 | (with_reducible refine Kd.C_alloc ?_ _) | (with_reducible refine Kd.C_drewN ?_ _) | (with_reducible refine Kd.C_drew ?_))); (case side4 => exact (Kd.R_reads' HO_8.out).2.1); rintro e w' ⟨rfl, ⟨nd, rfl⟩⟩; refine ⟨_, rfl, ?_⟩) | (go_at_call 19; (with_reducible refine (partition_Finer.calls kj47 _ _ t316 _ _ t312 true _ ?side1 ?side2 ?side3 ?side4 A61.out).mono ?_); (case side1 => repeat (first | exact (Kd.R_reads' HO_10.out).2.2 | (with_reducible refine Kd.C_alloc ?_ _) | (with_reducible refine Kd.C_drewN ?_ _) | (with_reducible refine Kd.C_drew ?_))); (case side2 => exact (Kd.R_reads' HO_10.out).2.1); (case side3 => repeat (first | exact (Kd.R_reads' HO_9.out).2.2 | (with_reducible refine Kd.C_alloc ?_ _) | (with_reducible refine Kd.C_drewN ?_ _) | (with_reducible refine Kd.C_drew ?_))); (case side4 => exact (Kd.R_reads' HO_9.out).2.1); rintro e w' ⟨rfl, ⟨nd, rfl⟩⟩; obtain ⟨Ao65, co65, eo65⟩ := Kd.R_slice HO_13.out; subst eo65) | (go_at_call 19; (with_reducible refine (partition_Finer.calls kj47 _ _ t316 _ _ t323 t336 _ ?side1 ?side2 ?side3 ?side4 A63.out).mono ?_); (case side1 => repeat (first | exact (Kd.R_reads' HO_10.out).2.2 | (with_reducible refine Kd.C_alloc ?_ _) | (with_reducible refine Kd.C_drewN ?_ _) | (with_reducible refine Kd.C_drew ?_))); (case side2 => exact (Kd.R_reads' HO_10.out).2.1); (case side3 => repeat (first | exact (Kd.R_reads' HO_13.out).2.2 | (with_reducible refine Kd.C_alloc ?_ _) | (with_reducible refine Kd.C_drewN ?_ _) | (with_reducible refine Kd.C_drew ?_))); (case side4 => exact (Kd.R_reads' HO_13.out).2.1); rintro e w' ⟨rfl, ⟨nd, rfl⟩⟩))
                            go_ret
                            exact ⟨by first | rfl | (simp [errW_none, errW_some] <;> rfl) | (simp only [← hji6, ← hji7]; first | rfl | (simp [errW_none, errW_some] <;> rfl)) | (simp [*, errW_none, errW_some] <;> rfl), by repeat (first | (with_reducible first | exact HB.out | apply below_alloc | apply pw_below_drewN | apply below_drew1) | exact HB.out)⟩
                          · replace c62 := Bool.eq_false_iff.mpr c62
                            subst c62
                            have H1 : (some true) = some r := by rw [if_neg (show ¬ (false = true) by decide)] at H; exact H
                            clear H
                            have H := H1
                            clear H1
                            obtain rfl := Option.some.inj H
                            obtain ⟨Ao66, co66, eo66⟩ := Kd.R_slice HO_10.out
                            subst eo66
                            go_wp2_with (first | ((with_reducible refine gate_callee (f := 19) rfl ?_); refine goesL_ (some 94) rfl rfl Try.func19 (by kernel_rfl) rfl #[.slice Ao66 t316.length co66, .slice Ao28 t308.length co28] rfl (by (try simp only [List.map_toArray, List.map_cons, List.map_nil]); first | done | rfl | (simp only [List.length_drop, List.length_take]; rfl)) ?_; (with_reducible refine (partition_Finer.calls kj47 _ _ t316 _ _ t308 true _ ?side1 ?side2 ?side3 ?side4 A59.out).mono ?_); (case side1 => repeat (first | exact (Kd.R_reads' HO_10.out).2.2 | (with_reducible refine Kd.C_alloc ?_ _) | (with_reducible refine Kd.C_drewN ?_ _) | (with_reducible refine Kd.C_drew ?_))); (case side2 => exact (Kd.R_reads' HO_10.out).2.1); (case side3 => repeat (first | exact (Kd.R_reads' HO_8.out).2.2 | (with_reducible refine Kd.C_alloc ?_ _) | (with_reducible refine Kd.C_drewN ?_ _) | (with_reducible refine Kd.C_drew ?_))); (case side4 => exact (Kd.R_reads' HO_8.out).2.1); rintro e w' ⟨rfl, ⟨nd, rfl⟩⟩; refine ⟨_, rfl, ?_⟩) | (go_at_call 19; (with_reducible refine (partition_Finer.calls kj47 _ _ t316 _ _ t312 false _ ?side1 ?side2 ?side3 ?side4 A61.out).mono ?_); (case side1 => repeat (first | exact (Kd.R_reads' HO_10.out).2.2 | (with_reducible refine Kd.C_alloc ?_ _) | (with_reducible refine Kd.C_drewN ?_ _) | (with_reducible refine Kd.C_drew ?_))); (case side2 => exact (Kd.R_reads' HO_10.out).2.1); (case side3 => repeat (first | exact (Kd.R_reads' HO_9.out).2.2 | (with_reducible refine Kd.C_alloc ?_ _) | (with_reducible refine Kd.C_drewN ?_ _) | (with_reducible refine Kd.C_drew ?_))); (case side4 => exact (Kd.R_reads' HO_9.out).2.1); rintro e w' ⟨rfl, ⟨nd, rfl⟩⟩))
                            go_ret
                            exact ⟨by first | rfl | (simp [errW_none, errW_some] <;> rfl) | (simp only [← hji6, ← hji7]; first | rfl | (simp [errW_none, errW_some] <;> rfl)) | (simp [*, errW_none, errW_some] <;> rfl), by repeat (first | (with_reducible first | exact HB.out | apply below_alloc | apply pw_below_drewN | apply below_drew1) | exact HB.out)⟩
                        · replace c60 := Bool.eq_false_iff.mpr c60
                          subst c60
                          have H1 : (some true) = some r := by rw [if_neg (show ¬ (false = true) by decide)] at H; exact H
                          clear H
                          have H := H1
                          clear H1
                          obtain rfl := Option.some.inj H
                          obtain ⟨Ao67, co67, eo67⟩ := Kd.R_slice HO_10.out
                          subst eo67
                          go_wp2_with (first | ((with_reducible refine gate_callee (f := 19) rfl ?_); refine goesL_ (some 94) rfl rfl Try.func19 (by kernel_rfl) rfl #[.slice Ao67 t316.length co67, .slice Ao28 t308.length co28] rfl (by (try simp only [List.map_toArray, List.map_cons, List.map_nil]); first | done | rfl | (simp only [List.length_drop, List.length_take]; rfl)) ?_; (with_reducible refine (partition_Finer.calls kj47 _ _ t316 _ _ t308 false _ ?side1 ?side2 ?side3 ?side4 A59.out).mono ?_); (case side1 => repeat (first | exact (Kd.R_reads' HO_10.out).2.2 | (with_reducible refine Kd.C_alloc ?_ _) | (with_reducible refine Kd.C_drewN ?_ _) | (with_reducible refine Kd.C_drew ?_))); (case side2 => exact (Kd.R_reads' HO_10.out).2.1); (case side3 => repeat (first | exact (Kd.R_reads' HO_8.out).2.2 | (with_reducible refine Kd.C_alloc ?_ _) | (with_reducible refine Kd.C_drewN ?_ _) | (with_reducible refine Kd.C_drew ?_))); (case side4 => exact (Kd.R_reads' HO_8.out).2.1); rintro e w' ⟨rfl, ⟨nd, rfl⟩⟩; refine ⟨_, rfl, ?_⟩))
                          go_ret
                          exact ⟨by first | rfl | (simp [errW_none, errW_some] <;> rfl) | (simp only [← hji6, ← hji7]; first | rfl | (simp [errW_none, errW_some] <;> rfl)) | (simp [*, errW_none, errW_some] <;> rfl), by repeat (first | (with_reducible first | exact HB.out | apply below_alloc | apply pw_below_drewN | apply below_drew1) | exact HB.out)⟩
          · rw [if_neg c15] at H
            exact absurd H (by simp)
        · rw [if_neg c12] at H
          exact absurd H (by simp)
      · rw [if_neg c9] at H
        exact absurd H (by simp)
    · rw [if_neg c8] at H
      exact absurd H (by simp)
  · replace c5 := Bool.eq_false_iff.mpr c5
    subst c5
    have H1 : (some false) = some r := by rw [if_neg (show ¬ (false = true) by decide)] at H; exact H
    clear H
    have H := H1
    clear H1
    obtain rfl := Option.some.inj H
    go_enter Try.func5, Try.ntmps5
    go_wp2_with (first | ((with_reducible refine gate_callee (f := 10) rfl ?_); refine goesL_ (some 15) rfl rfl Try.func10 (by kernel_rfl) rfl #[] rfl (by (try simp only [List.map_toArray, List.map_cons, List.map_nil]); first | done | rfl | (simp only [List.length_drop, List.length_take]; rfl)) ?_; (with_reducible refine (scarfjointlaw02_awake.calls k  false _ A4.out).mono ?_); rintro e w68 ⟨rfl, hb⟩; refine ⟨_, rfl, ?_⟩; have n0_ := Aside0.mk (below_step (by repeat (first | (with_reducible first | exact HB.out | apply below_alloc | apply pw_below_drewN | apply below_drew1) | exact HB.out)) hb); clear HB; have HB := n0_; clear n0_; (try clear hb); (try clear hb2); (try clear hk); (try clear hi)))
    go_ret
    exact ⟨by first | rfl | (simp [errW_none, errW_some] <;> rfl) | (simp [*, errW_none, errW_some] <;> rfl), by repeat (first | (with_reducible first | exact HB.out | apply below_alloc | apply pw_below_drewN | apply below_drew1) | exact HB.out)⟩

/-- THE ONE PURE STATEMENT of scarfjointlaw02_PartitionBounds: yours. -/
def scarfjointlaw02_PartitionBounds.Pure : Prop := ∀ (l0 : List Int) (l1 : List Int) (l2 : List Int), l0.length ≤ maxLen → l0.length * 1 ≤ 140737488351232 → (∀ x ∈ l0, (Lit.int .u8 x).wf = true) → l1.length ≤ maxLen → l1.length * 1 ≤ 140737488351232 → (∀ x ∈ l1, (Lit.int .u8 x).wf = true) → l2.length ≤ maxLen → l2.length * 1 ≤ 140737488351232 → (∀ x ∈ l2, (Lit.int .u8 x).wf = true) → ∃ k, scarfjointlaw02_PartitionBounds.f k l0 l1 l2 = some true
theorem scarfjointlaw02_PartitionBounds.walk (P : scarfjointlaw02_PartitionBounds.Pure) (a0 : Option Addr) (len0 cap0 : Nat) (z0 : List Int) (a1 : Option Addr) (len1 cap1 : Nat) (z1 : List Int) (a2 : Option Addr) (len2 cap2 : Nat) (z2 : List Int) (w : World) (w0 : (a0 = none ∧ len0 = 0 ∧ cap0 = 0 ∧ z0 = []) ∨ ∃ x, a0 = some x ∧ len0 ≤ cap0 ∧ cap0 ≤ maxLen ∧ z0.length = cap0 ∧ (∀ i, i < z0.length → w.cell? (x.add i) = some (.int .u8 (z0.getD i 0))) ∧ ∀ n ∈ z0, (Lit.int .u8 n).wf = true) (y0 : len0 * 1 ≤ 140737488351232) (w1 : (a1 = none ∧ len1 = 0 ∧ cap1 = 0 ∧ z1 = []) ∨ ∃ x, a1 = some x ∧ len1 ≤ cap1 ∧ cap1 ≤ maxLen ∧ z1.length = cap1 ∧ (∀ i, i < z1.length → w.cell? (x.add i) = some (.int .u8 (z1.getD i 0))) ∧ ∀ n ∈ z1, (Lit.int .u8 n).wf = true) (y1 : len1 * 1 ≤ 140737488351232) (w2 : (a2 = none ∧ len2 = 0 ∧ cap2 = 0 ∧ z2 = []) ∨ ∃ x, a2 = some x ∧ len2 ≤ cap2 ∧ cap2 ≤ maxLen ∧ z2.length = cap2 ∧ (∀ i, i < z2.length → w.cell? (x.add i) = some (.int .u8 (z2.getD i 0))) ∧ ∀ n ∈ z2, (Lit.int .u8 n).wf = true) (y2 : len2 * 1 ≤ 140737488351232) :
    Calls Try.prog 5 #[.slice a0 len0 cap0, .slice a1 len1 cap1, .slice a2 len2 cap2] w fun e w' => e = .returned (.bool true) ∧ Below w.heap.size w w' := by
  obtain ⟨l0, rfl, hr0, hm0, hw0, hc0⟩ := ReadsInt.ofRowC w0
  obtain ⟨l1, rfl, hr1, hm1, hw1, hc1⟩ := ReadsInt.ofRowC w1
  obtain ⟨l2, rfl, hr2, hm2, hw2, hc2⟩ := ReadsInt.ofRowC w2
  obtain ⟨k, h⟩ := P l0 l1 l2 hm0 y0 hw0 hm1 y1 hw1 hm2 y2 hw2
  refine (scarfjointlaw02_PartitionBounds.calls k _ _ l0 _ _ l1 _ _ l2 true w (Kd.C_of_reads (d := (0 : Int)) (h1 := fun _ => rfl) hr0) hc0 (Kd.C_of_reads (d := (0 : Int)) (h1 := fun _ => rfl) hr1) hc1 (Kd.C_of_reads (d := (0 : Int)) (h1 := fun _ => rfl) hr2) hc2 h).mono ?_
  rintro e w' ⟨rfl, hd⟩
  exact ⟨rfl, hd⟩

end Go.Proofs.Ytjkgjlaockihaaa.P
