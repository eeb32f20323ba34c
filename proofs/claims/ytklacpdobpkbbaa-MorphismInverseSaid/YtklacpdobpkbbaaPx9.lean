-- Written by wip/drive.py of this session's repo over the kit's print.py (with contracts of the session's own): not the print's own text
import Derived.Test.YtklacpdobpkbbaaPx0
import Derived.Test.YtklacpdobpkbbaaPx8
namespace Go.Proofs.Ytklacpdobpkbbaa.P
open Go.RowKit Go.Proofs.YtklacpdobpkbbaaW.PrintWords Go.Proofs.YtklacpdobpkbbaaW.PrintLast Go.Proofs.YtklacpdobpkbbaaW.PrintMore
attribute [local go_sem] max2_int min2_int max_two min_two max_three min_three max_four min_four   -- for this text's walks alone
set_option linter.unusedVariables false
set_option linter.unusedSimpArgs false

/-! ### morphism_images: function 40 -/
/-- How many different numbers a list has. -/
def dcnt : List Int → Nat
  | [] => 0
  | x :: l => (if l.contains x then 0 else 1) + dcnt l
theorem dcnt_erase {x : Int} : ∀ {l : List Int}, l.Nodup → x ∈ l → (l.erase x).length + 1 = l.length := by
  intro l _ hx
  have := List.length_erase_of_mem hx
  have := List.length_pos_of_mem hx
  omega
theorem dcnt_nodup : ∀ {l u : List Int}, u.Nodup → (∀ x, x ∈ u ↔ x ∈ l) → u.length = dcnt l := by
  intro l
  induction l with
  | nil =>
    intro u _ h
    cases u with
    | nil => rfl
    | cons a u => exact absurd ((h a).1 (List.mem_cons_self ..)) (by simp)
  | cons x l ih =>
    intro u hu h
    unfold dcnt
    by_cases hx : x ∈ l
    · rw [if_pos (by simpa using hx), Nat.zero_add]
      exact ih hu (fun y => (h y).trans ⟨fun hy => by
        rcases List.mem_cons.1 hy with rfl | hy
        · exact hx
        · exact hy, fun hy => List.mem_cons_of_mem _ hy⟩)
    · rw [if_neg (by simpa using hx)]
      have hxu : x ∈ u := (h x).2 (List.mem_cons_self ..)
      have h1 := ih (u := u.erase x) (hu.erase x) (fun y => by
        rw [hu.mem_erase_iff, h y, List.mem_cons]
        constructor
        · rintro ⟨h2, h3 | h3⟩
          · exact absurd h3 h2
          · exact h3
        · intro hy
          exact ⟨fun e => hx (e ▸ hy), .inr hy⟩)
      have h2 := dcnt_erase hu hxu
      omega
theorem compact_mem {zs : List Int} (hs : zs.Pairwise (· ≤ ·)) : (Lib.compact zs).Nodup ∧ ∀ x, x ∈ Lib.compact zs ↔ x ∈ zs := by
  have get : ∀ j, j < zs.length → zs.toArray[j]! = zs.getD j 0 := fun j hj => by simp [getElem!_pos, hj, List.getD_eq_getElem?_getD]
  have le : ∀ i j, i < j → j < zs.length → zs.getD i 0 ≤ zs.getD j 0 := fun i j hij hj => by
    have := (List.pairwise_iff_getElem.1 hs) i j (by omega) hj hij
    rw [List.getD_eq_getElem?_getD, List.getD_eq_getElem?_getD, List.getElem?_eq_getElem hj, List.getElem?_eq_getElem (show i < zs.length by omega)]
    exact this
  have up : ∀ m, m ≤ zs.length → (Lib.compactUpTo zs.toArray m).Nodup ∧ (∀ x, x ∈ Lib.compactUpTo zs.toArray m ↔ ∃ j, j < m ∧ x = zs.getD j 0) := by
    intro m
    induction m with
    | zero => exact fun _ => ⟨List.nodup_nil, fun x => ⟨fun h => by simp [Lib.compactUpTo] at h, fun ⟨j, hj, _⟩ => absurd hj (Nat.not_lt_zero j)⟩⟩
    | succ m ih =>
      intro hm
      obtain ⟨h1, h2⟩ := ih (by omega)
      rw [Lib.compactUpTo_succ]
      by_cases hk : Lib.keeps zs.toArray m = true
      · rw [if_pos hk]
        have hnew : ∀ j, j < m → zs.getD j 0 ≠ zs.getD m 0 := fun j hj e => by
          simp only [Lib.keeps, decide_eq_true_eq] at hk
          rcases hk with hk | hk
          · omega
          · rw [get m (by omega), get (m - 1) (by omega)] at hk
            have a1 : zs.getD j 0 ≤ zs.getD (m - 1) 0 := by
              by_cases ej : j = m - 1
              · rw [ej]
                exact Int.le_refl _
              · exact le j (m - 1) (by omega) (by omega)
            have a2 := le (m - 1) m (by omega) (by omega)
            omega
        refine ⟨List.nodup_append.2 ⟨h1, by simp, fun a ha b hb e => ?_⟩, fun x => ?_⟩
        · obtain ⟨j, hj, rfl⟩ := (h2 a).1 ha
          rw [List.mem_singleton.1 hb, get m (by omega)] at e
          exact hnew j hj e
        · rw [List.mem_append, h2 x, List.mem_singleton, get m (by omega)]
          constructor
          · rintro (⟨j, hj, e⟩ | e)
            · exact ⟨j, by omega, e⟩
            · exact ⟨m, by omega, e⟩
          · rintro ⟨j, hj, e⟩
            by_cases ej : j = m
            · exact .inr (ej ▸ e)
            · exact .inl ⟨j, by omega, e⟩
      · rw [if_neg hk, List.append_nil]
        refine ⟨h1, fun x => (h2 x).trans ⟨fun ⟨j, hj, e⟩ => ⟨j, by omega, e⟩, fun ⟨j, hj, e⟩ => ?_⟩⟩
        by_cases ej : j = m
        · subst ej
          simp only [Lib.keeps, decide_eq_true_eq, not_or, ne_eq, Decidable.not_not] at hk
          rw [get j (by omega), get (j - 1) (by omega)] at hk
          exact ⟨j - 1, by omega, e.trans hk.2⟩
        · exact ⟨j, by omega, e⟩
  obtain ⟨h1, h2⟩ := up zs.length (Nat.le_refl _)
  refine ⟨h1, fun x => (h2 x).trans ⟨fun ⟨j, hj, e⟩ => ?_, fun hx => ?_⟩⟩
  · rw [e, List.getD_eq_getElem?_getD, List.getElem?_eq_getElem hj]
    exact List.getElem_mem hj
  · obtain ⟨j, hj, e⟩ := List.getElem_of_mem hx
    exact ⟨j, hj, by rw [List.getD_eq_getElem?_getD, List.getElem?_eq_getElem hj]; exact e.symm⟩
theorem dcnt_sorted (l : List Int) : (Lib.compact (l.mergeSort fun x y => decide (x ≤ y))).length = dcnt l := by
  have hs : (l.mergeSort fun x y => decide (x ≤ y)).Pairwise (· ≤ ·) := by
    have := List.pairwise_mergeSort (le := fun x y : Int => decide (x ≤ y)) (fun a b c h1 h2 => by simp at *; omega) (fun a b => by simp; omega) l
    exact this.imp (fun h => by simpa using h)
  obtain ⟨h1, h2⟩ := compact_mem hs
  exact dcnt_nodup h1 (fun x => (h2 x).trans (List.mergeSort_perm l _).mem_iff)
/-- slices.Sort of a row of the call's own. -/
theorem sort_own {w0 w : World} {base : Nat} {v : Value} {zs : List Int} (h : w.ownsRow base 3 1 v zs.length (zs.map (Value.int .i64))) (hn : zs.length < 1000000) (hb : Below base w0 w) (hbw : base ≤ w.heap.size) :
    Calls Try.prog 65 #[v] w fun e w' => e = .returned (.tuple #[]) ∧ w'.ownsRow base 3 1 v zs.length ((zs.mergeSort fun x y => decide (x ≤ y)).map (Value.int .i64)) ∧ Below base w0 w' := by
  by_cases hv : v = .slice none 0 0
  · subst hv
    have hz : zs = [] := by
      rcases h.2 with ⟨_, h0⟩ | ⟨g, cap, cur, e, _⟩
      · have := h.1
        simp at this
        exact List.eq_nil_of_length_eq_zero (by first | exact h0 | omega)
      · cases e
    subst hz
    refine (Shelf.Try.slices_Sort_int_none none 0 w).mono ?_
    rintro e w' ⟨rfl, rfl⟩
    exact ⟨rfl, by simpa using h, hb⟩
  · obtain ⟨g, cap, rfl, hbg, hlt, hnc, hcm, hl, hH⟩ := Lib.holds_of_ownsRow (zs := zs) h hv
    refine (Shelf.Try.slices_Sort_int g 0 cap zs w hH hlt (by omega)).mono ?_
    rintro e w' ⟨rfl, n, os, rfl⟩
    rcases h.2 with ⟨e0, _⟩ | ⟨g', cap', cur, e0, hb1, hb2, h1, h2, h3, h4⟩
    · cases e0
    cases e0
    exact ⟨rfl, ownsRow_sorted_i (ss := zs) (List.length_mergeSort zs) hbg hb2 h1 h2 h3, hb.grown (grownBy_sorted_i _) hbw (fun j hj => by cases hj; exact hbg)⟩
/-- The length behind slices.Compact of a row of the call's own. -/
theorem compact_own {w0 w : World} {base : Nat} {v : Value} {zs : List Int} (h : w.ownsRow base 3 1 v zs.length (zs.map (Value.int .i64))) (hn : zs.length < 1000000) (hb : Below base w0 w) :
    Calls Try.prog 66 #[v] w fun e w' => ∃ A c, e = .returned (.slice A (Lib.compact zs).length c) ∧ Below base w0 w' := by
  by_cases hv : v = .slice none 0 0
  · subst hv
    have hz : zs = [] := by
      rcases h.2 with ⟨_, h0⟩ | ⟨g, cap, cur, e, _⟩
      · have := h.1
        simp at this
        exact List.eq_nil_of_length_eq_zero (by first | exact h0 | omega)
      · cases e
    subst hz
    refine (Shelf.Try.slices_Compact_int_empty none 0 w).mono ?_
    rintro e w' ⟨rfl, rfl⟩
    exact ⟨none, 0, rfl, hb⟩
  · obtain ⟨g, cap, rfl, hbg, hlt, hnc, hcm, hl, hH⟩ := Lib.holds_of_ownsRow (zs := zs) h hv
    refine (Shelf.Try.slices_Compact_int g 0 cap zs w hH (by omega) hnc).mono ?_
    rintro e w' ⟨rfl, q, rfl⟩
    exact ⟨_, _, rfl, Lib.below_putRow hb hbg⟩
def morphism_images.f (l0 : List Int) : Option Int := if l0.length < 1000000 then some (dcnt l0 : Int) else none
set_option maxHeartbeats 4000000 in
theorem morphism_images.calls (A0 : Option Addr) (c0 : Nat) (l0 : List Int) (r : Int) (w : World) (hr0 : Kd.C (Kd.int .i64) w A0 l0.length l0) (hc0 : l0.length ≤ c0) (h : morphism_images.f l0 = some r) :
    Calls Try.prog 40 #[.slice A0 l0.length c0] w fun e w' => e = .returned (.int .i64 r) ∧ Below w.heap.size w w' := by
  unfold morphism_images.f at h
  by_cases hl : l0.length < 1000000
  case neg =>
    rw [if_neg hl] at h
    cases h
  rw [if_pos hl] at h
  obtain rfl := Option.some.inj h
  have HL := Aside0.mk hl
  have HR := Aside0.mk hr0
  have HC := Aside0.mk hc0
  have HE : Aside0 (slices_Clone_int_int.f l0 = some l0) := ⟨by unfold slices_Clone_int_int.f; rw [if_pos (by omega)]⟩
  have HS : Aside0 ((l0.mergeSort fun x y => decide (x ≤ y)).length = l0.length) := ⟨List.length_mergeSort l0⟩
  have HD := Aside0.mk (dcnt_sorted l0)
  clear h hl hr0 hc0
  go_enter Try.func40, Try.ntmps40
  go_wp2_with (first | (go_at_call 39; (with_reducible refine (slices_Clone_int_int.calls _ _ l0 l0 _ HR.out HC.out HE.out).mono ?_); rintro e w1 ⟨v1, rfl, ho, hb⟩; have HO := Aside0.mk (Kd.own_of_R ho); have HB := Aside0.mk hb; clear ho hb) | (go_at_call 65; refine (sort_own HO.out HL.out HB.out HB.out.size).mono ?_; rintro e w2 ⟨rfl, ho, hb⟩; clear HO HB; have HO := Aside0.mk ho; have HB := Aside0.mk hb; clear ho hb) | (go_at_call 66; refine (compact_own (zs := l0.mergeSort fun x y => decide (x ≤ y)) (by rw [HS.out]; exact HO.out) (by rw [HS.out]; exact HL.out) HB.out).mono ?_; rintro e w3 ⟨A3, c3, rfl, hb⟩; clear HB; have HB := Aside0.mk hb; clear hb))
  go_ret
  exact ⟨by first | rfl | (rw [HD.out]; rfl), HB.out⟩

/-! ### morphism_Injective: function 15 -/
def morphism_Injective.f (k : Nat) (l0_0 : List Int) (l0_1 : List (S65)) (l1_0 : List Int) (l1_1 : List (S65)) (l2_0 : List Int) (l2_1 : List Int) : Option (Bool) := (morphism_Valid.f k l0_0 l0_1 l1_0 l1_1 l2_0 l2_1).bind fun t122 => (if t122 = 0 then ((morphism_images.f l2_0).bind fun t123 => (if t123 = (l2_0.length : Int) then ((morphism_images.f l2_1).bind fun t124 => (some (t124 == (l2_1.length : Int)))) else (some false))) else (some false))
theorem morphism_Injective.mono : ∀ a0 a1 a2 a3 a4 a5 k, LeO (morphism_Injective.f k a0 a1 a2 a3 a4 a5) (morphism_Injective.f (k + 1) a0 a1 a2 a3 a4 a5) := by
 intro a0 a1 a2 a3 a4 a5 k
 unfold morphism_Injective.f
 repeat' first
   | (with_reducible exact morphism_Valid.mono _ _ _ _ _ _ _)
   | (with_reducible exact LeO.refl _)
   | (with_reducible exact LeO.none _)
   | (with_reducible refine LeO.ite ?_ ?_)
   | (with_reducible refine LeO.bind ?_ (fun _ => ?_))
   | exact morphism_Valid.mono _ _ _ _ _ _ _
   | exact LeO.none _
   | refine LeO.ite ?_ ?_
   | refine LeO.bind ?_ (fun _ => ?_)
def morphism_Injective.T1 : Bool × List (List Nat × List Nat) := (true, [([], []), ([], []), ([], []), ([0, 1, 2], [0, 1, 2]), ([3], [3]), ([4, 3], [4]), ([5], [5]), ([6, 5], [5, 6]), ([7, 5, 5], [5, 7]), ([5], [5]), ([9, 5], [5, 9]), ([10, 5], [5, 10]), ([8, 11, 5], [5, 8, 11]), ([5, 12], [5, 12]), ([13, 8], [13]), ([14], [14]), ([15, 14], [14, 15]), ([16, 14, 14], [14, 16]), ([14], [14]), ([18, 14], [14, 18]), ([19, 14], [14, 19]), ([17, 20, 14], [14, 17, 20]), ([14, 21], [14, 21]), ([22, 17, 0, 1, 2, 3, 4, 5, 6, 7, 8, 9, 10, 11, 12, 13, 14, 15, 16, 17, 18, 19, 20, 21, 22], [22])])
def morphism_Injective.B1 : List Nat := [0, 0, 0, 7, 15, 31, 63, 127, 255, 63, 575, 1599, 4095, 8191, 16383, 32767, 65535, 131071, 32767, 294911, 819199, 2097151, 4194303, 8388607]
theorem morphism_Injective.tab1 : rtab .any (opsOf Try.f15 1) = morphism_Injective.T1 := by kernel_rfl
theorem morphism_Injective.bits1 : waitsOk morphism_Injective.T1.2 morphism_Injective.B1 = true := by kernel_rfl
set_option maxHeartbeats 8000000 in
set_option maxRecDepth 100000 in
theorem morphism_Injective.calls (k : Nat) (A0_0 : Option Addr) (c0_0 : Nat) (l0_0 : List Int) (A0_1 : Option Addr) (c0_1 : Nat) (l0_1 : List (S65)) (A1_0 : Option Addr) (c1_0 : Nat) (l1_0 : List Int) (A1_1 : Option Addr) (c1_1 : Nat) (l1_1 : List (S65)) (A2_0 : Option Addr) (c2_0 : Nat) (l2_0 : List Int) (A2_1 : Option Addr) (c2_1 : Nat) (l2_1 : List Int) (r : Bool) (w : World) (hr0_0 : Kd.C (Kd.int .i64) w A0_0 l0_0.length l0_0) (hc0_0 : l0_0.length ≤ c0_0) (hr0_1 : Kd.C k65 w A0_1 l0_1.length l0_1) (hc0_1 : l0_1.length ≤ c0_1) (hr1_0 : Kd.C (Kd.int .i64) w A1_0 l1_0.length l1_0) (hc1_0 : l1_0.length ≤ c1_0) (hr1_1 : Kd.C k65 w A1_1 l1_1.length l1_1) (hc1_1 : l1_1.length ≤ c1_1) (hr2_0 : Kd.C (Kd.int .i64) w A2_0 l2_0.length l2_0) (hc2_0 : l2_0.length ≤ c2_0) (hr2_1 : Kd.C (Kd.int .i64) w A2_1 l2_1.length l2_1) (hc2_1 : l2_1.length ≤ c2_1) (h : morphism_Injective.f k l0_0 l0_1 l1_0 l1_1 l2_0 l2_1 = some r) :
  Calls Try.prog 15 #[.agg #[.slice A0_0 l0_0.length c0_0, .slice A0_1 l0_1.length c0_1], .agg #[.slice A1_0 l1_0.length c1_0, .slice A1_1 l1_1.length c1_1], .agg #[.slice A2_0 l2_0.length c2_0, .slice A2_1 l2_1.length c2_1]] w fun e w' => e = .returned (.bool r) ∧ Below w.heap.size w w' := by
 have hu25 := Try.underlying25
 have hu27 := Try.underlying27
 have HR0_0 := Aside0.mk hr0_0
 have HC0_0 := Aside0.mk hc0_0
 clear hr0_0 hc0_0
 have HR0_1 := Aside0.mk hr0_1
 have HC0_1 := Aside0.mk hc0_1
 clear hr0_1 hc0_1
 have HR1_0 := Aside0.mk hr1_0
 have HC1_0 := Aside0.mk hc1_0
 clear hr1_0 hc1_0
 have HR1_1 := Aside0.mk hr1_1
 have HC1_1 := Aside0.mk hc1_1
 clear hr1_1 hc1_1
 have HR2_0 := Aside0.mk hr2_0
 have HC2_0 := Aside0.mk hc2_0
 clear hr2_0 hc2_0
 have HR2_1 := Aside0.mk hr2_1
 have HC2_1 := Aside0.mk hc2_1
 clear hr2_1 hc2_1
 have HB := Aside0.mk (Below.refl w.heap.size w)
 have H : ((morphism_Valid.f k l0_0 l0_1 l1_0 l1_1 l2_0 l2_1).bind fun t122 => (if t122 = 0 then ((morphism_images.f l2_0).bind fun t123 => (if t123 = (l2_0.length : Int) then ((morphism_images.f l2_1).bind fun t124 => (some (t124 == (l2_1.length : Int)))) else (some false))) else (some false))) = some r := h
 clear h
 replace H := Option.bind_eq_some_iff.mp H
 obtain ⟨t122, A40, H⟩ := H
 replace H : (if t122 = 0 then ((morphism_images.f l2_0).bind fun t123 => (if t123 = (l2_0.length : Int) then ((morphism_images.f l2_1).bind fun t124 => (some (t124 == (l2_1.length : Int)))) else (some false))) else (some false)) = some r := H
 have A4 := Aside0.mk A40
 clear A40
 by_cases c5 : t122 = 0
 ·rw [if_pos c5] at H
  have c5b0 : (t122 == 0) = true := beq_iff_eq.mpr c5
  have c5b1 : (t122 != 0) = false := bne_eq_false_iff_eq.mpr c5
  clear c5
  replace H := Option.bind_eq_some_iff.mp H
  obtain ⟨t123, A60, H⟩ := H
  replace H : (if t123 = (l2_0.length : Int) then ((morphism_images.f l2_1).bind fun t124 => (some (t124 == (l2_1.length : Int)))) else (some false)) = some r := H
  have A6 := Aside0.mk A60
  clear A60
  by_cases c7 : t123 = (l2_0.length : Int)
  ·rw [if_pos c7] at H
   have c7b0 : (t123 == (l2_0.length : Int)) = true := beq_iff_eq.mpr c7
   have c7b1 : (t123 != (l2_0.length : Int)) = false := bne_eq_false_iff_eq.mpr c7
   clear c7
   replace H := Option.bind_eq_some_iff.mp H
   obtain ⟨t124, A80, H⟩ := H
   replace H : (some (t124 == (l2_1.length : Int))) = some r := H
   have A8 := Aside0.mk A80
   clear A80
   obtain rfl := Option.some.inj H
   go_enter Try.func15, Try.ntmps15
   try go_wp2_with (first | ((with_reducible refine gate_dst (N := 3) rfl ?_); (try (refine gate_guard (by rfl) ?_; dsimp only)); refine box_event ?hg (N := 3) ?hd (cs := #[.slice A0_0 l0_0.length c0_0, .slice A0_1 l0_1.length c0_1]) (t := 25) ?hr ?_; (case hd => rfl); (case hg => rfl); (case hr => first | (go_simp; done) | (go_simp; rfl)); intro gb119 hg w9 hbox hb; have BK119 := Aside0.mk (hbox); have GW119 := Aside0.mk (gw_ hg (mb_ HB.out)); have GE119 := Aside0.mk (gw_ hg (mb_ HB.out)); replace HB := Aside0.mk (below_step (mb_ HB.out) hb); clear hb hbox hg) | ((with_reducible refine gate_dst (N := 4) rfl ?_); (try (refine gate_guard (by rfl) ?_; dsimp only)); refine box_event ?hg (N := 4) ?hd (cs := #[.slice A1_0 l1_0.length c1_0, .slice A1_1 l1_1.length c1_1]) (t := 25) ?hr ?_; (case hd => rfl); (case hg => rfl); (case hr => first | (go_simp; done) | (go_simp; rfl)); intro gb120 hg w10 hbox hb; have BK120 := Aside0.mk (hbox); have GW120 := Aside0.mk (gw_ hg (mbs_ HB.out)); have GE120 := Aside0.mk (gw_ hg (mbs_ HB.out)); replace HB := Aside0.mk (below_step (mbs_ HB.out) hb); have NB119_120 := Aside0.mk (nb_ hg (bk_ BK119.out)); have NB120_119 := Aside0.mk (nc_ hg (bk_ BK119.out)); replace BK119 := kb_ (bk_ BK119.out) hb; clear hb hbox hg) | ((with_reducible refine gate_dst (N := 5) rfl ?_); (try (refine gate_guard (by rfl) ?_; dsimp only)); refine box_event ?hg (N := 5) ?hd (cs := #[.slice A2_0 l2_0.length c2_0, .slice A2_1 l2_1.length c2_1]) (t := 27) ?hr ?_; (case hd => rfl); (case hg => rfl); (case hr => first | (go_simp; done) | (go_simp; rfl)); intro gb121 hg w11 hbox hb; have BK121 := Aside0.mk (hbox); have GW121 := Aside0.mk (gw_ hg (mbs_ HB.out)); have GE121 := Aside0.mk (gw_ hg (mbs_ HB.out)); replace HB := Aside0.mk (below_step (mbs_ HB.out) hb); have NB119_121 := Aside0.mk (nb_ hg (bk_ BK119.out)); have NB121_119 := Aside0.mk (nc_ hg (bk_ BK119.out)); replace BK119 := kb_ (bk_ BK119.out) hb; have NB120_121 := Aside0.mk (nb_ hg (bk_ BK120.out)); have NB121_120 := Aside0.mk (nc_ hg (bk_ BK120.out)); replace BK120 := kb_ (bk_ BK120.out) hb; clear hb hbox hg))
   replace BK119 := Aside0.mk (blk_drew BK119.out)
   replace BK120 := Aside0.mk (blk_drew BK120.out)
   replace BK121 := Aside0.mk (blk_drew BK121.out)
   replace HB := Aside0.mk (below_drew1 HB.out)
   refine start_ (n := 24) (S := fun w' => w'.cell? ⟨gb119, 0, none⟩ = some (.slice A0_0 l0_0.length c0_0) ∧ w'.cell? ⟨gb119, 1, none⟩ = some (.slice A0_1 l0_1.length c0_1) ∧ w'.cell? ⟨gb120, 0, none⟩ = some (.slice A1_0 l1_0.length c1_0) ∧ w'.cell? ⟨gb120, 1, none⟩ = some (.slice A1_1 l1_1.length c1_1) ∧ w'.cell? ⟨gb121, 0, none⟩ = some (.slice A2_0 l2_0.length c2_0) ∧ w'.cell? ⟨gb121, 1, none⟩ = some (.slice A2_1 l2_1.length c2_1)) (ds := []) #[false, false, false, false, false, false, false, false, false, false, false, false, false, false, false, false, false, false, false, false, false, false, false, false] (by kernel_rfl) rfl rfl ⟨(blk_cell BK119.out 0).trans rfl, (blk_cell BK119.out 1).trans rfl, (blk_cell BK120.out 0).trans rfl, (blk_cell BK120.out 1).trans rfl, (blk_cell BK121.out 0).trans rfl, (blk_cell BK121.out 1).trans rfl⟩ (fun hHeld => ?_); refine with_tabW morphism_Injective.tab1 morphism_Injective.bits1 (fun HT_ HW_ => ?_)
   generalize w11.drew = w12 at BK119 BK120 BK121 HB hHeld ⊢
   refine tw_ (i := 0) (N := some 7) (bm_ 24 1) rfl HT_.out HW_.out hHeld ?_
   refine tw_ (i := 1) (N := some 8) (bm_ 24 3) rfl HT_.out HW_.out hHeld ?_
   refine tw_ (i := 2) (N := some 9) (bm_ 24 7) rfl HT_.out HW_.out hHeld ?_
   refine one_ (i := 3) (N := some 10) (bm_ 24 15) rfl rfl (one_of HT_.out (by kernel_rfl)) (by decide) (fun K hK => ?_)
   refine goes_ Try.func12 (by kernel_rfl) rfl #[.agg #[.slice A0_0 l0_0.length c0_0, .slice A0_1 l0_1.length c0_1], .agg #[.slice A1_0 l1_0.length c1_0, .slice A1_1 l1_1.length c1_1], .agg #[.slice A2_0 l2_0.length c2_0, .slice A2_1 l2_1.length c2_1]] (by rfl) rfl rfl (by (try simp only [List.map_toArray, List.map_cons, List.map_nil]); first | done | rfl | (simp only [List.length_drop, List.length_take]; rfl)) ?_
   with_reducible refine (morphism_Valid.calls k _ _ l0_0 _ _ l0_1 _ _ l1_0 _ _ l1_1 _ _ l2_0 _ _ l2_1 t122 _ ?side1 ?side2 ?side3 ?side4 ?side5 ?side6 ?side7 ?side8 ?side9 ?side10 ?side11 ?side12 A4.out).mono ?_
   (case side1 => exact mc_ (Kd.C_below HR0_0.out HB.out))
   (case side2 => exact HC0_0.out)
   (case side3 => exact mc_ (Kd.C_below HR0_1.out HB.out))
   (case side4 => exact HC0_1.out)
   (case side5 => exact mc_ (Kd.C_below HR1_0.out HB.out))
   (case side6 => exact HC1_0.out)
   (case side7 => exact mc_ (Kd.C_below HR1_1.out HB.out))
   (case side8 => exact HC1_1.out)
   (case side9 => exact mc_ (Kd.C_below HR2_0.out HB.out))
   (case side10 => exact HC2_0.out)
   (case side11 => exact mc_ (Kd.C_below HR2_1.out HB.out))
   (case side12 => exact HC2_1.out)
   rintro e w13 ⟨rfl, hb⟩
   refine ⟨_, rfl, ?_⟩
   replace BK119 := kb_ (bk_ BK119.out) hb
   replace BK120 := kb_ (bk_ BK120.out) hb
   replace BK121 := kb_ (bk_ BK121.out) hb
   replace HB := Aside0.mk (below_step (mbs_ HB.out) hb)
   (try clear hb)
   (try clear hb2)
   (try clear hk)
   (try clear hi)
   refine hK.out _ _ ⟨(blk_cell BK119.out 0).trans rfl, (blk_cell BK119.out 1).trans rfl, (blk_cell BK120.out 0).trans rfl, (blk_cell BK120.out 1).trans rfl, (blk_cell BK121.out 0).trans rfl, (blk_cell BK121.out 1).trans rfl⟩ (fun hHeld => ?_)
   clear hK K
   refine norm_ (a' := ?_) ?_ ?_
   rotate_left
   ·show Act.put _ (some 10) _ = _
    simp only [Act.put, List.setIfInBounds_toArray, List.set_cons_zero, List.set_cons_succ, i64_w, i32_w]
    rfl
   refine pw_ (i := 4) (N := some 11) (bm_ 24 31) rfl HT_.out ?_
   refine pw_ (i := 5) (N := some 12) (bm_ 24 63) rfl HT_.out ?_
   refine pw_ (i := 6) (N := some 13) (bm_ 24 127) rfl HT_.out ?_
   refine pw_ (i := 9) (N := some 16) (bm_ 24 639) rfl HT_.out ?_
   refine tw_ (i := 7) (N := some 14) (bm_ 24 767) rfl HT_.out HW_.out hHeld ?_
   refine tw_ (i := 10) (N := some 17) (bm_ 24 1791) rfl HT_.out HW_.out hHeld ?_
   refine pw_ (i := 11) (N := some 18) (bm_ 24 3839) rfl HT_.out ?_
   refine one_ (i := 8) (N := some 15) (bm_ 24 4095) rfl rfl (one_of HT_.out (by kernel_rfl)) (by decide) (fun K hK => ?_)
   refine goes_ Try.func40 (by kernel_rfl) rfl #[.slice A2_0 l2_0.length c2_0] (by rfl) rfl rfl (by (try simp only [List.map_toArray, List.map_cons, List.map_nil]); first | done | rfl | (simp only [List.length_drop, List.length_take]; rfl)) ?_
   with_reducible refine (morphism_images.calls _ _ l2_0 t123 _ ?side1 ?side2 A6.out).mono ?_
   (case side1 => exact mc_ (Kd.C_below HR2_0.out HB.out))
   (case side2 => exact HC2_0.out)
   rintro e w14 ⟨rfl, hb⟩
   refine ⟨_, rfl, ?_⟩
   replace BK119 := kb_ (bk_ BK119.out) hb
   replace BK120 := kb_ (bk_ BK120.out) hb
   replace BK121 := kb_ (bk_ BK121.out) hb
   replace HB := Aside0.mk (below_step (mbs_ HB.out) hb)
   (try clear hb)
   (try clear hb2)
   (try clear hk)
   (try clear hi)
   refine hK.out _ _ ⟨(blk_cell BK119.out 0).trans rfl, (blk_cell BK119.out 1).trans rfl, (blk_cell BK120.out 0).trans rfl, (blk_cell BK120.out 1).trans rfl, (blk_cell BK121.out 0).trans rfl, (blk_cell BK121.out 1).trans rfl⟩ (fun hHeld => ?_)
   clear hK K
   refine norm_ (a' := ?_) ?_ ?_
   rotate_left
   ·show Act.put _ (some 15) _ = _
    simp only [Act.put, List.setIfInBounds_toArray, List.set_cons_zero, List.set_cons_succ, i64_w, i32_w]
    rfl
   refine pw_ (i := 12) (N := some 19) (bm_ 24 8191) rfl HT_.out ?_
   refine pw_ (i := 13) (N := some 20) (bm_ 24 16383) rfl HT_.out ?_
   refine pw_ (i := 14) (N := some 21) (bm_ 24 32767) rfl HT_.out ?_
   refine pw_ (i := 15) (N := some 22) (bm_ 24 65535) rfl HT_.out ?_
   refine pw_ (i := 18) (N := some 25) (bm_ 24 327679) rfl HT_.out ?_
   refine tw_ (i := 16) (N := some 23) (bm_ 24 393215) rfl HT_.out HW_.out hHeld ?_
   refine tw_ (i := 19) (N := some 26) (bm_ 24 917503) rfl HT_.out HW_.out hHeld ?_
   refine pw_ (i := 20) (N := some 27) (bm_ 24 1966079) rfl HT_.out ?_
   refine one_ (i := 17) (N := some 24) (bm_ 24 2097151) rfl rfl (one_of HT_.out (by kernel_rfl)) (by decide) (fun K hK => ?_)
   refine goes_ Try.func40 (by kernel_rfl) rfl #[.slice A2_1 l2_1.length c2_1] (by rfl) rfl rfl (by (try simp only [List.map_toArray, List.map_cons, List.map_nil]); first | done | rfl | (simp only [List.length_drop, List.length_take]; rfl)) ?_
   with_reducible refine (morphism_images.calls _ _ l2_1 t124 _ ?side1 ?side2 A8.out).mono ?_
   (case side1 => exact mc_ (Kd.C_below HR2_1.out HB.out))
   (case side2 => exact HC2_1.out)
   rintro e w15 ⟨rfl, hb⟩
   refine ⟨_, rfl, ?_⟩
   replace BK119 := kb_ (bk_ BK119.out) hb
   replace BK120 := kb_ (bk_ BK120.out) hb
   replace BK121 := kb_ (bk_ BK121.out) hb
   replace HB := Aside0.mk (below_step (mbs_ HB.out) hb)
   (try clear hb)
   (try clear hb2)
   (try clear hk)
   (try clear hi)
   refine hK.out _ _ ⟨(blk_cell BK119.out 0).trans rfl, (blk_cell BK119.out 1).trans rfl, (blk_cell BK120.out 0).trans rfl, (blk_cell BK120.out 1).trans rfl, (blk_cell BK121.out 0).trans rfl, (blk_cell BK121.out 1).trans rfl⟩ (fun hHeld => ?_)
   clear hK K
   refine norm_ (a' := ?_) ?_ ?_
   rotate_left
   ·show Act.put _ (some 24) _ = _
    simp only [Act.put, List.setIfInBounds_toArray, List.set_cons_zero, List.set_cons_succ, i64_w, i32_w]
    rfl
   refine pw_ (i := 21) (N := some 28) (bm_ 24 4194303) rfl HT_.out ?_
   refine pw_ (i := 22) (N := some 29) (bm_ 24 8388607) rfl HT_.out ?_
   refine pw_ (i := 23) (N := some 6) (bm_ 24 16777215) rfl HT_.out ?_
   refine done_ (done_of HT_.out (by kernel_rfl)) ?_
   try go_wp2
   go_ret
   exact ⟨by first | rfl | (simp [errW_none, errW_some] <;> rfl) | (simp [*, errW_none, errW_some] <;> rfl), mbs_ HB.out⟩
  rw [if_neg c7] at H
  have c7b0 : (t123 == (l2_0.length : Int)) = false := beq_eq_false_iff_ne.mpr c7
  have c7b1 : (t123 != (l2_0.length : Int)) = true := bne_iff_ne.mpr c7
  obtain rfl := Option.some.inj H
  go_enter Try.func15, Try.ntmps15
  try go_wp2_with (first | ((with_reducible refine gate_dst (N := 3) rfl ?_); (try (refine gate_guard (by rfl) ?_; dsimp only)); refine box_event ?hg (N := 3) ?hd (cs := #[.slice A0_0 l0_0.length c0_0, .slice A0_1 l0_1.length c0_1]) (t := 25) ?hr ?_; (case hd => rfl); (case hg => rfl); (case hr => first | (go_simp; done) | (go_simp; rfl)); intro gb119 hg w16 hbox hb; have BK119 := Aside0.mk (hbox); have GW119 := Aside0.mk (gw_ hg (mb_ HB.out)); have GE119 := Aside0.mk (gw_ hg (mb_ HB.out)); replace HB := Aside0.mk (below_step (mb_ HB.out) hb); clear hb hbox hg) | ((with_reducible refine gate_dst (N := 4) rfl ?_); (try (refine gate_guard (by rfl) ?_; dsimp only)); refine box_event ?hg (N := 4) ?hd (cs := #[.slice A1_0 l1_0.length c1_0, .slice A1_1 l1_1.length c1_1]) (t := 25) ?hr ?_; (case hd => rfl); (case hg => rfl); (case hr => first | (go_simp; done) | (go_simp; rfl)); intro gb120 hg w17 hbox hb; have BK120 := Aside0.mk (hbox); have GW120 := Aside0.mk (gw_ hg (mbs_ HB.out)); have GE120 := Aside0.mk (gw_ hg (mbs_ HB.out)); replace HB := Aside0.mk (below_step (mbs_ HB.out) hb); have NB119_120 := Aside0.mk (nb_ hg (bk_ BK119.out)); have NB120_119 := Aside0.mk (nc_ hg (bk_ BK119.out)); replace BK119 := kb_ (bk_ BK119.out) hb; clear hb hbox hg) | ((with_reducible refine gate_dst (N := 5) rfl ?_); (try (refine gate_guard (by rfl) ?_; dsimp only)); refine box_event ?hg (N := 5) ?hd (cs := #[.slice A2_0 l2_0.length c2_0, .slice A2_1 l2_1.length c2_1]) (t := 27) ?hr ?_; (case hd => rfl); (case hg => rfl); (case hr => first | (go_simp; done) | (go_simp; rfl)); intro gb121 hg w18 hbox hb; have BK121 := Aside0.mk (hbox); have GW121 := Aside0.mk (gw_ hg (mbs_ HB.out)); have GE121 := Aside0.mk (gw_ hg (mbs_ HB.out)); replace HB := Aside0.mk (below_step (mbs_ HB.out) hb); have NB119_121 := Aside0.mk (nb_ hg (bk_ BK119.out)); have NB121_119 := Aside0.mk (nc_ hg (bk_ BK119.out)); replace BK119 := kb_ (bk_ BK119.out) hb; have NB120_121 := Aside0.mk (nb_ hg (bk_ BK120.out)); have NB121_120 := Aside0.mk (nc_ hg (bk_ BK120.out)); replace BK120 := kb_ (bk_ BK120.out) hb; clear hb hbox hg))
  replace BK119 := Aside0.mk (blk_drew BK119.out)
  replace BK120 := Aside0.mk (blk_drew BK120.out)
  replace BK121 := Aside0.mk (blk_drew BK121.out)
  replace HB := Aside0.mk (below_drew1 HB.out)
  refine start_ (n := 24) (S := fun w' => w'.cell? ⟨gb119, 0, none⟩ = some (.slice A0_0 l0_0.length c0_0) ∧ w'.cell? ⟨gb119, 1, none⟩ = some (.slice A0_1 l0_1.length c0_1) ∧ w'.cell? ⟨gb120, 0, none⟩ = some (.slice A1_0 l1_0.length c1_0) ∧ w'.cell? ⟨gb120, 1, none⟩ = some (.slice A1_1 l1_1.length c1_1) ∧ w'.cell? ⟨gb121, 0, none⟩ = some (.slice A2_0 l2_0.length c2_0) ∧ w'.cell? ⟨gb121, 1, none⟩ = some (.slice A2_1 l2_1.length c2_1)) (ds := []) #[false, false, false, false, false, false, false, false, false, false, false, false, false, false, false, false, false, false, false, false, false, false, false, false] (by kernel_rfl) rfl rfl ⟨(blk_cell BK119.out 0).trans rfl, (blk_cell BK119.out 1).trans rfl, (blk_cell BK120.out 0).trans rfl, (blk_cell BK120.out 1).trans rfl, (blk_cell BK121.out 0).trans rfl, (blk_cell BK121.out 1).trans rfl⟩ (fun hHeld => ?_); refine with_tabW morphism_Injective.tab1 morphism_Injective.bits1 (fun HT_ HW_ => ?_)
  generalize w18.drew = w19 at BK119 BK120 BK121 HB hHeld ⊢
  refine tw_ (i := 0) (N := some 7) (bm_ 24 1) rfl HT_.out HW_.out hHeld ?_
  refine tw_ (i := 1) (N := some 8) (bm_ 24 3) rfl HT_.out HW_.out hHeld ?_
  refine tw_ (i := 2) (N := some 9) (bm_ 24 7) rfl HT_.out HW_.out hHeld ?_
  refine one_ (i := 3) (N := some 10) (bm_ 24 15) rfl rfl (one_of HT_.out (by kernel_rfl)) (by decide) (fun K hK => ?_)
  refine goes_ Try.func12 (by kernel_rfl) rfl #[.agg #[.slice A0_0 l0_0.length c0_0, .slice A0_1 l0_1.length c0_1], .agg #[.slice A1_0 l1_0.length c1_0, .slice A1_1 l1_1.length c1_1], .agg #[.slice A2_0 l2_0.length c2_0, .slice A2_1 l2_1.length c2_1]] (by rfl) rfl rfl (by (try simp only [List.map_toArray, List.map_cons, List.map_nil]); first | done | rfl | (simp only [List.length_drop, List.length_take]; rfl)) ?_
  with_reducible refine (morphism_Valid.calls k _ _ l0_0 _ _ l0_1 _ _ l1_0 _ _ l1_1 _ _ l2_0 _ _ l2_1 t122 _ ?side1 ?side2 ?side3 ?side4 ?side5 ?side6 ?side7 ?side8 ?side9 ?side10 ?side11 ?side12 A4.out).mono ?_
  (case side1 => exact mc_ (Kd.C_below HR0_0.out HB.out))
  (case side2 => exact HC0_0.out)
  (case side3 => exact mc_ (Kd.C_below HR0_1.out HB.out))
  (case side4 => exact HC0_1.out)
  (case side5 => exact mc_ (Kd.C_below HR1_0.out HB.out))
  (case side6 => exact HC1_0.out)
  (case side7 => exact mc_ (Kd.C_below HR1_1.out HB.out))
  (case side8 => exact HC1_1.out)
  (case side9 => exact mc_ (Kd.C_below HR2_0.out HB.out))
  (case side10 => exact HC2_0.out)
  (case side11 => exact mc_ (Kd.C_below HR2_1.out HB.out))
  (case side12 => exact HC2_1.out)
  rintro e w20 ⟨rfl, hb⟩
  refine ⟨_, rfl, ?_⟩
  replace BK119 := kb_ (bk_ BK119.out) hb
  replace BK120 := kb_ (bk_ BK120.out) hb
  replace BK121 := kb_ (bk_ BK121.out) hb
  replace HB := Aside0.mk (below_step (mbs_ HB.out) hb)
  (try clear hb)
  (try clear hb2)
  (try clear hk)
  (try clear hi)
  refine hK.out _ _ ⟨(blk_cell BK119.out 0).trans rfl, (blk_cell BK119.out 1).trans rfl, (blk_cell BK120.out 0).trans rfl, (blk_cell BK120.out 1).trans rfl, (blk_cell BK121.out 0).trans rfl, (blk_cell BK121.out 1).trans rfl⟩ (fun hHeld => ?_)
  clear hK K
  refine norm_ (a' := ?_) ?_ ?_
  rotate_left
  ·show Act.put _ (some 10) _ = _
   simp only [Act.put, List.setIfInBounds_toArray, List.set_cons_zero, List.set_cons_succ, i64_w, i32_w]
   rfl
  refine pw_ (i := 4) (N := some 11) (bm_ 24 31) rfl HT_.out ?_
  refine pw_ (i := 5) (N := some 12) (bm_ 24 63) rfl HT_.out ?_
  refine pw_ (i := 6) (N := some 13) (bm_ 24 127) rfl HT_.out ?_
  refine pw_ (i := 9) (N := some 16) (bm_ 24 639) rfl HT_.out ?_
  refine tw_ (i := 7) (N := some 14) (bm_ 24 767) rfl HT_.out HW_.out hHeld ?_
  refine tw_ (i := 10) (N := some 17) (bm_ 24 1791) rfl HT_.out HW_.out hHeld ?_
  refine pw_ (i := 11) (N := some 18) (bm_ 24 3839) rfl HT_.out ?_
  refine one_ (i := 8) (N := some 15) (bm_ 24 4095) rfl rfl (one_of HT_.out (by kernel_rfl)) (by decide) (fun K hK => ?_)
  refine goes_ Try.func40 (by kernel_rfl) rfl #[.slice A2_0 l2_0.length c2_0] (by rfl) rfl rfl (by (try simp only [List.map_toArray, List.map_cons, List.map_nil]); first | done | rfl | (simp only [List.length_drop, List.length_take]; rfl)) ?_
  with_reducible refine (morphism_images.calls _ _ l2_0 t123 _ ?side1 ?side2 A6.out).mono ?_
  (case side1 => exact mc_ (Kd.C_below HR2_0.out HB.out))
  (case side2 => exact HC2_0.out)
  rintro e w21 ⟨rfl, hb⟩
  refine ⟨_, rfl, ?_⟩
  replace BK119 := kb_ (bk_ BK119.out) hb
  replace BK120 := kb_ (bk_ BK120.out) hb
  replace BK121 := kb_ (bk_ BK121.out) hb
  replace HB := Aside0.mk (below_step (mbs_ HB.out) hb)
  (try clear hb)
  (try clear hb2)
  (try clear hk)
  (try clear hi)
  refine hK.out _ _ ⟨(blk_cell BK119.out 0).trans rfl, (blk_cell BK119.out 1).trans rfl, (blk_cell BK120.out 0).trans rfl, (blk_cell BK120.out 1).trans rfl, (blk_cell BK121.out 0).trans rfl, (blk_cell BK121.out 1).trans rfl⟩ (fun hHeld => ?_)
  clear hK K
  refine norm_ (a' := ?_) ?_ ?_
  rotate_left
  ·show Act.put _ (some 15) _ = _
   simp only [Act.put, List.setIfInBounds_toArray, List.set_cons_zero, List.set_cons_succ, i64_w, i32_w]
   rfl
  refine pw_ (i := 12) (N := some 19) (bm_ 24 8191) rfl HT_.out ?_
  refine pw_ (i := 13) (N := some 20) (bm_ 24 16383) rfl HT_.out ?_
  refine pw_ (i := 14) (N := some 21) (bm_ 24 32767) rfl HT_.out ?_
  refine pz_ (i := 15) (N := some 22) (bm_ 24 65535) rfl HT_.out ?_
  refine pz_ (i := 16) (N := some 23) (bm_ 24 131071) rfl HT_.out ?_
  refine pz_ (i := 17) (N := some 24) (bm_ 24 262143) rfl HT_.out ?_
  refine pz_ (i := 18) (N := some 25) (bm_ 24 524287) rfl HT_.out ?_
  refine pz_ (i := 19) (N := some 26) (bm_ 24 1048575) rfl HT_.out ?_
  refine pz_ (i := 20) (N := some 27) (bm_ 24 2097151) rfl HT_.out ?_
  refine pz_ (i := 21) (N := some 28) (bm_ 24 4194303) rfl HT_.out ?_
  refine pw_ (i := 22) (N := some 29) (bm_ 24 8388607) rfl HT_.out ?_
  refine pw_ (i := 23) (N := some 6) (bm_ 24 16777215) rfl HT_.out ?_
  refine done_ (done_of HT_.out (by kernel_rfl)) ?_
  try go_wp2
  go_ret
  exact ⟨by first | rfl | (simp [errW_none, errW_some] <;> rfl) | (simp [*, errW_none, errW_some] <;> rfl), mbs_ HB.out⟩
 rw [if_neg c5] at H
 have c5b0 : (t122 == 0) = false := beq_eq_false_iff_ne.mpr c5
 have c5b1 : (t122 != 0) = true := bne_iff_ne.mpr c5
 obtain rfl := Option.some.inj H
 go_enter Try.func15, Try.ntmps15
 try go_wp2_with (first | ((with_reducible refine gate_dst (N := 3) rfl ?_); (try (refine gate_guard (by rfl) ?_; dsimp only)); refine box_event ?hg (N := 3) ?hd (cs := #[.slice A0_0 l0_0.length c0_0, .slice A0_1 l0_1.length c0_1]) (t := 25) ?hr ?_; (case hd => rfl); (case hg => rfl); (case hr => first | (go_simp; done) | (go_simp; rfl)); intro gb119 hg w22 hbox hb; have BK119 := Aside0.mk (hbox); have GW119 := Aside0.mk (gw_ hg (mb_ HB.out)); have GE119 := Aside0.mk (gw_ hg (mb_ HB.out)); replace HB := Aside0.mk (below_step (mb_ HB.out) hb); clear hb hbox hg) | ((with_reducible refine gate_dst (N := 4) rfl ?_); (try (refine gate_guard (by rfl) ?_; dsimp only)); refine box_event ?hg (N := 4) ?hd (cs := #[.slice A1_0 l1_0.length c1_0, .slice A1_1 l1_1.length c1_1]) (t := 25) ?hr ?_; (case hd => rfl); (case hg => rfl); (case hr => first | (go_simp; done) | (go_simp; rfl)); intro gb120 hg w23 hbox hb; have BK120 := Aside0.mk (hbox); have GW120 := Aside0.mk (gw_ hg (mbs_ HB.out)); have GE120 := Aside0.mk (gw_ hg (mbs_ HB.out)); replace HB := Aside0.mk (below_step (mbs_ HB.out) hb); have NB119_120 := Aside0.mk (nb_ hg (bk_ BK119.out)); have NB120_119 := Aside0.mk (nc_ hg (bk_ BK119.out)); replace BK119 := kb_ (bk_ BK119.out) hb; clear hb hbox hg) | ((with_reducible refine gate_dst (N := 5) rfl ?_); (try (refine gate_guard (by rfl) ?_; dsimp only)); refine box_event ?hg (N := 5) ?hd (cs := #[.slice A2_0 l2_0.length c2_0, .slice A2_1 l2_1.length c2_1]) (t := 27) ?hr ?_; (case hd => rfl); (case hg => rfl); (case hr => first | (go_simp; done) | (go_simp; rfl)); intro gb121 hg w24 hbox hb; have BK121 := Aside0.mk (hbox); have GW121 := Aside0.mk (gw_ hg (mbs_ HB.out)); have GE121 := Aside0.mk (gw_ hg (mbs_ HB.out)); replace HB := Aside0.mk (below_step (mbs_ HB.out) hb); have NB119_121 := Aside0.mk (nb_ hg (bk_ BK119.out)); have NB121_119 := Aside0.mk (nc_ hg (bk_ BK119.out)); replace BK119 := kb_ (bk_ BK119.out) hb; have NB120_121 := Aside0.mk (nb_ hg (bk_ BK120.out)); have NB121_120 := Aside0.mk (nc_ hg (bk_ BK120.out)); replace BK120 := kb_ (bk_ BK120.out) hb; clear hb hbox hg))
 replace BK119 := Aside0.mk (blk_drew BK119.out)
 replace BK120 := Aside0.mk (blk_drew BK120.out)
 replace BK121 := Aside0.mk (blk_drew BK121.out)
 replace HB := Aside0.mk (below_drew1 HB.out)
 refine start_ (n := 24) (S := fun w' => w'.cell? ⟨gb119, 0, none⟩ = some (.slice A0_0 l0_0.length c0_0) ∧ w'.cell? ⟨gb119, 1, none⟩ = some (.slice A0_1 l0_1.length c0_1) ∧ w'.cell? ⟨gb120, 0, none⟩ = some (.slice A1_0 l1_0.length c1_0) ∧ w'.cell? ⟨gb120, 1, none⟩ = some (.slice A1_1 l1_1.length c1_1) ∧ w'.cell? ⟨gb121, 0, none⟩ = some (.slice A2_0 l2_0.length c2_0) ∧ w'.cell? ⟨gb121, 1, none⟩ = some (.slice A2_1 l2_1.length c2_1)) (ds := []) #[false, false, false, false, false, false, false, false, false, false, false, false, false, false, false, false, false, false, false, false, false, false, false, false] (by kernel_rfl) rfl rfl ⟨(blk_cell BK119.out 0).trans rfl, (blk_cell BK119.out 1).trans rfl, (blk_cell BK120.out 0).trans rfl, (blk_cell BK120.out 1).trans rfl, (blk_cell BK121.out 0).trans rfl, (blk_cell BK121.out 1).trans rfl⟩ (fun hHeld => ?_); refine with_tabW morphism_Injective.tab1 morphism_Injective.bits1 (fun HT_ HW_ => ?_)
 generalize w24.drew = w25 at BK119 BK120 BK121 HB hHeld ⊢
 refine tw_ (i := 0) (N := some 7) (bm_ 24 1) rfl HT_.out HW_.out hHeld ?_
 refine tw_ (i := 1) (N := some 8) (bm_ 24 3) rfl HT_.out HW_.out hHeld ?_
 refine tw_ (i := 2) (N := some 9) (bm_ 24 7) rfl HT_.out HW_.out hHeld ?_
 refine one_ (i := 3) (N := some 10) (bm_ 24 15) rfl rfl (one_of HT_.out (by kernel_rfl)) (by decide) (fun K hK => ?_)
 refine goes_ Try.func12 (by kernel_rfl) rfl #[.agg #[.slice A0_0 l0_0.length c0_0, .slice A0_1 l0_1.length c0_1], .agg #[.slice A1_0 l1_0.length c1_0, .slice A1_1 l1_1.length c1_1], .agg #[.slice A2_0 l2_0.length c2_0, .slice A2_1 l2_1.length c2_1]] (by rfl) rfl rfl (by (try simp only [List.map_toArray, List.map_cons, List.map_nil]); first | done | rfl | (simp only [List.length_drop, List.length_take]; rfl)) ?_
 with_reducible refine (morphism_Valid.calls k _ _ l0_0 _ _ l0_1 _ _ l1_0 _ _ l1_1 _ _ l2_0 _ _ l2_1 t122 _ ?side1 ?side2 ?side3 ?side4 ?side5 ?side6 ?side7 ?side8 ?side9 ?side10 ?side11 ?side12 A4.out).mono ?_
 (case side1 => exact mc_ (Kd.C_below HR0_0.out HB.out))
 (case side2 => exact HC0_0.out)
 (case side3 => exact mc_ (Kd.C_below HR0_1.out HB.out))
 (case side4 => exact HC0_1.out)
 (case side5 => exact mc_ (Kd.C_below HR1_0.out HB.out))
 (case side6 => exact HC1_0.out)
 (case side7 => exact mc_ (Kd.C_below HR1_1.out HB.out))
 (case side8 => exact HC1_1.out)
 (case side9 => exact mc_ (Kd.C_below HR2_0.out HB.out))
 (case side10 => exact HC2_0.out)
 (case side11 => exact mc_ (Kd.C_below HR2_1.out HB.out))
 (case side12 => exact HC2_1.out)
 rintro e w26 ⟨rfl, hb⟩
 refine ⟨_, rfl, ?_⟩
 replace BK119 := kb_ (bk_ BK119.out) hb
 replace BK120 := kb_ (bk_ BK120.out) hb
 replace BK121 := kb_ (bk_ BK121.out) hb
 replace HB := Aside0.mk (below_step (mbs_ HB.out) hb)
 (try clear hb)
 (try clear hb2)
 (try clear hk)
 (try clear hi)
 refine hK.out _ _ ⟨(blk_cell BK119.out 0).trans rfl, (blk_cell BK119.out 1).trans rfl, (blk_cell BK120.out 0).trans rfl, (blk_cell BK120.out 1).trans rfl, (blk_cell BK121.out 0).trans rfl, (blk_cell BK121.out 1).trans rfl⟩ (fun hHeld => ?_)
 clear hK K
 refine norm_ (a' := ?_) ?_ ?_
 rotate_left
 ·show Act.put _ (some 10) _ = _
  simp only [Act.put, List.setIfInBounds_toArray, List.set_cons_zero, List.set_cons_succ, i64_w, i32_w]
  rfl
 refine pw_ (i := 4) (N := some 11) (bm_ 24 31) rfl HT_.out ?_
 refine pw_ (i := 5) (N := some 12) (bm_ 24 63) rfl HT_.out ?_
 refine pz_ (i := 6) (N := some 13) (bm_ 24 127) rfl HT_.out ?_
 refine pz_ (i := 7) (N := some 14) (bm_ 24 255) rfl HT_.out ?_
 refine pz_ (i := 8) (N := some 15) (bm_ 24 511) rfl HT_.out ?_
 refine pz_ (i := 9) (N := some 16) (bm_ 24 1023) rfl HT_.out ?_
 refine pz_ (i := 10) (N := some 17) (bm_ 24 2047) rfl HT_.out ?_
 refine pz_ (i := 11) (N := some 18) (bm_ 24 4095) rfl HT_.out ?_
 refine pz_ (i := 12) (N := some 19) (bm_ 24 8191) rfl HT_.out ?_
 refine pw_ (i := 13) (N := some 20) (bm_ 24 16383) rfl HT_.out ?_
 refine pw_ (i := 14) (N := some 21) (bm_ 24 32767) rfl HT_.out ?_
 refine pz_ (i := 15) (N := some 22) (bm_ 24 65535) rfl HT_.out ?_
 refine pz_ (i := 16) (N := some 23) (bm_ 24 131071) rfl HT_.out ?_
 refine pz_ (i := 17) (N := some 24) (bm_ 24 262143) rfl HT_.out ?_
 refine pz_ (i := 18) (N := some 25) (bm_ 24 524287) rfl HT_.out ?_
 refine pz_ (i := 19) (N := some 26) (bm_ 24 1048575) rfl HT_.out ?_
 refine pz_ (i := 20) (N := some 27) (bm_ 24 2097151) rfl HT_.out ?_
 refine pz_ (i := 21) (N := some 28) (bm_ 24 4194303) rfl HT_.out ?_
 refine pw_ (i := 22) (N := some 29) (bm_ 24 8388607) rfl HT_.out ?_
 refine pw_ (i := 23) (N := some 6) (bm_ 24 16777215) rfl HT_.out ?_
 refine done_ (done_of HT_.out (by kernel_rfl)) ?_
 try go_wp2
 go_ret
 exact ⟨by first | rfl | (simp [errW_none, errW_some] <;> rfl) | (simp [*, errW_none, errW_some] <;> rfl), mbs_ HB.out⟩

/-! ### morphism_Surjective: function 17 -/
def morphism_Surjective.f (k : Nat) (l0_0 : List Int) (l0_1 : List (S65)) (l1_0 : List Int) (l1_1 : List (S65)) (l2_0 : List Int) (l2_1 : List Int) : Option (Bool) := (morphism_Valid.f k l0_0 l0_1 l1_0 l1_1 l2_0 l2_1).bind fun t128 => (if t128 = 0 then ((morphism_images.f l2_0).bind fun t129 => (if t129 = (l1_0.length : Int) then ((morphism_images.f l2_1).bind fun t130 => (some (t130 == (l1_1.length : Int)))) else (some false))) else (some false))
theorem morphism_Surjective.mono : ∀ a0 a1 a2 a3 a4 a5 k, LeO (morphism_Surjective.f k a0 a1 a2 a3 a4 a5) (morphism_Surjective.f (k + 1) a0 a1 a2 a3 a4 a5) := by
 intro a0 a1 a2 a3 a4 a5 k
 unfold morphism_Surjective.f
 repeat' first
   | (with_reducible exact morphism_Valid.mono _ _ _ _ _ _ _)
   | (with_reducible exact LeO.refl _)
   | (with_reducible exact LeO.none _)
   | (with_reducible refine LeO.ite ?_ ?_)
   | (with_reducible refine LeO.bind ?_ (fun _ => ?_))
   | exact morphism_Valid.mono _ _ _ _ _ _ _
   | exact LeO.none _
   | refine LeO.ite ?_ ?_
   | refine LeO.bind ?_ (fun _ => ?_)
def morphism_Surjective.T1 : Bool × List (List Nat × List Nat) := (true, [([], []), ([], []), ([], []), ([0, 1, 2], [0, 1, 2]), ([3], [3]), ([4, 3], [4]), ([5], [5]), ([6, 5], [5, 6]), ([7, 5, 5], [5, 7]), ([5], [5]), ([9, 5], [5, 9]), ([10, 5], [5, 10]), ([8, 11, 5], [5, 8, 11]), ([5, 12], [5, 12]), ([13, 8], [13]), ([14], [14]), ([15, 14], [14, 15]), ([16, 14, 14], [14, 16]), ([14], [14]), ([18, 14], [14, 18]), ([19, 14], [14, 19]), ([17, 20, 14], [14, 17, 20]), ([14, 21], [14, 21]), ([22, 17, 0, 1, 2, 3, 4, 5, 6, 7, 8, 9, 10, 11, 12, 13, 14, 15, 16, 17, 18, 19, 20, 21, 22], [22])])
def morphism_Surjective.B1 : List Nat := [0, 0, 0, 7, 15, 31, 63, 127, 255, 63, 575, 1599, 4095, 8191, 16383, 32767, 65535, 131071, 32767, 294911, 819199, 2097151, 4194303, 8388607]
theorem morphism_Surjective.tab1 : rtab .any (opsOf Try.f17 1) = morphism_Surjective.T1 := by kernel_rfl
theorem morphism_Surjective.bits1 : waitsOk morphism_Surjective.T1.2 morphism_Surjective.B1 = true := by kernel_rfl
set_option maxHeartbeats 8000000 in
set_option maxRecDepth 100000 in
theorem morphism_Surjective.calls (k : Nat) (A0_0 : Option Addr) (c0_0 : Nat) (l0_0 : List Int) (A0_1 : Option Addr) (c0_1 : Nat) (l0_1 : List (S65)) (A1_0 : Option Addr) (c1_0 : Nat) (l1_0 : List Int) (A1_1 : Option Addr) (c1_1 : Nat) (l1_1 : List (S65)) (A2_0 : Option Addr) (c2_0 : Nat) (l2_0 : List Int) (A2_1 : Option Addr) (c2_1 : Nat) (l2_1 : List Int) (r : Bool) (w : World) (hr0_0 : Kd.C (Kd.int .i64) w A0_0 l0_0.length l0_0) (hc0_0 : l0_0.length ≤ c0_0) (hr0_1 : Kd.C k65 w A0_1 l0_1.length l0_1) (hc0_1 : l0_1.length ≤ c0_1) (hr1_0 : Kd.C (Kd.int .i64) w A1_0 l1_0.length l1_0) (hc1_0 : l1_0.length ≤ c1_0) (hr1_1 : Kd.C k65 w A1_1 l1_1.length l1_1) (hc1_1 : l1_1.length ≤ c1_1) (hr2_0 : Kd.C (Kd.int .i64) w A2_0 l2_0.length l2_0) (hc2_0 : l2_0.length ≤ c2_0) (hr2_1 : Kd.C (Kd.int .i64) w A2_1 l2_1.length l2_1) (hc2_1 : l2_1.length ≤ c2_1) (h : morphism_Surjective.f k l0_0 l0_1 l1_0 l1_1 l2_0 l2_1 = some r) :
  Calls Try.prog 17 #[.agg #[.slice A0_0 l0_0.length c0_0, .slice A0_1 l0_1.length c0_1], .agg #[.slice A1_0 l1_0.length c1_0, .slice A1_1 l1_1.length c1_1], .agg #[.slice A2_0 l2_0.length c2_0, .slice A2_1 l2_1.length c2_1]] w fun e w' => e = .returned (.bool r) ∧ Below w.heap.size w w' := by
 have hu25 := Try.underlying25
 have hu27 := Try.underlying27
 have HR0_0 := Aside0.mk hr0_0
 have HC0_0 := Aside0.mk hc0_0
 clear hr0_0 hc0_0
 have HR0_1 := Aside0.mk hr0_1
 have HC0_1 := Aside0.mk hc0_1
 clear hr0_1 hc0_1
 have HR1_0 := Aside0.mk hr1_0
 have HC1_0 := Aside0.mk hc1_0
 clear hr1_0 hc1_0
 have HR1_1 := Aside0.mk hr1_1
 have HC1_1 := Aside0.mk hc1_1
 clear hr1_1 hc1_1
 have HR2_0 := Aside0.mk hr2_0
 have HC2_0 := Aside0.mk hc2_0
 clear hr2_0 hc2_0
 have HR2_1 := Aside0.mk hr2_1
 have HC2_1 := Aside0.mk hc2_1
 clear hr2_1 hc2_1
 have HB := Aside0.mk (Below.refl w.heap.size w)
 have H : ((morphism_Valid.f k l0_0 l0_1 l1_0 l1_1 l2_0 l2_1).bind fun t128 => (if t128 = 0 then ((morphism_images.f l2_0).bind fun t129 => (if t129 = (l1_0.length : Int) then ((morphism_images.f l2_1).bind fun t130 => (some (t130 == (l1_1.length : Int)))) else (some false))) else (some false))) = some r := h
 clear h
 replace H := Option.bind_eq_some_iff.mp H
 obtain ⟨t128, A40, H⟩ := H
 replace H : (if t128 = 0 then ((morphism_images.f l2_0).bind fun t129 => (if t129 = (l1_0.length : Int) then ((morphism_images.f l2_1).bind fun t130 => (some (t130 == (l1_1.length : Int)))) else (some false))) else (some false)) = some r := H
 have A4 := Aside0.mk A40
 clear A40
 by_cases c5 : t128 = 0
 ·rw [if_pos c5] at H
  have c5b0 : (t128 == 0) = true := beq_iff_eq.mpr c5
  have c5b1 : (t128 != 0) = false := bne_eq_false_iff_eq.mpr c5
  clear c5
  replace H := Option.bind_eq_some_iff.mp H
  obtain ⟨t129, A60, H⟩ := H
  replace H : (if t129 = (l1_0.length : Int) then ((morphism_images.f l2_1).bind fun t130 => (some (t130 == (l1_1.length : Int)))) else (some false)) = some r := H
  have A6 := Aside0.mk A60
  clear A60
  by_cases c7 : t129 = (l1_0.length : Int)
  ·rw [if_pos c7] at H
   have c7b0 : (t129 == (l1_0.length : Int)) = true := beq_iff_eq.mpr c7
   have c7b1 : (t129 != (l1_0.length : Int)) = false := bne_eq_false_iff_eq.mpr c7
   clear c7
   replace H := Option.bind_eq_some_iff.mp H
   obtain ⟨t130, A80, H⟩ := H
   replace H : (some (t130 == (l1_1.length : Int))) = some r := H
   have A8 := Aside0.mk A80
   clear A80
   obtain rfl := Option.some.inj H
   go_enter Try.func17, Try.ntmps17
   try go_wp2_with (first | ((with_reducible refine gate_dst (N := 3) rfl ?_); (try (refine gate_guard (by rfl) ?_; dsimp only)); refine box_event ?hg (N := 3) ?hd (cs := #[.slice A0_0 l0_0.length c0_0, .slice A0_1 l0_1.length c0_1]) (t := 25) ?hr ?_; (case hd => rfl); (case hg => rfl); (case hr => first | (go_simp; done) | (go_simp; rfl)); intro gb125 hg w9 hbox hb; have BK125 := Aside0.mk (hbox); have GW125 := Aside0.mk (gw_ hg (mb_ HB.out)); have GE125 := Aside0.mk (gw_ hg (mb_ HB.out)); replace HB := Aside0.mk (below_step (mb_ HB.out) hb); clear hb hbox hg) | ((with_reducible refine gate_dst (N := 4) rfl ?_); (try (refine gate_guard (by rfl) ?_; dsimp only)); refine box_event ?hg (N := 4) ?hd (cs := #[.slice A1_0 l1_0.length c1_0, .slice A1_1 l1_1.length c1_1]) (t := 25) ?hr ?_; (case hd => rfl); (case hg => rfl); (case hr => first | (go_simp; done) | (go_simp; rfl)); intro gb126 hg w10 hbox hb; have BK126 := Aside0.mk (hbox); have GW126 := Aside0.mk (gw_ hg (mbs_ HB.out)); have GE126 := Aside0.mk (gw_ hg (mbs_ HB.out)); replace HB := Aside0.mk (below_step (mbs_ HB.out) hb); have NB125_126 := Aside0.mk (nb_ hg (bk_ BK125.out)); have NB126_125 := Aside0.mk (nc_ hg (bk_ BK125.out)); replace BK125 := kb_ (bk_ BK125.out) hb; clear hb hbox hg) | ((with_reducible refine gate_dst (N := 5) rfl ?_); (try (refine gate_guard (by rfl) ?_; dsimp only)); refine box_event ?hg (N := 5) ?hd (cs := #[.slice A2_0 l2_0.length c2_0, .slice A2_1 l2_1.length c2_1]) (t := 27) ?hr ?_; (case hd => rfl); (case hg => rfl); (case hr => first | (go_simp; done) | (go_simp; rfl)); intro gb127 hg w11 hbox hb; have BK127 := Aside0.mk (hbox); have GW127 := Aside0.mk (gw_ hg (mbs_ HB.out)); have GE127 := Aside0.mk (gw_ hg (mbs_ HB.out)); replace HB := Aside0.mk (below_step (mbs_ HB.out) hb); have NB125_127 := Aside0.mk (nb_ hg (bk_ BK125.out)); have NB127_125 := Aside0.mk (nc_ hg (bk_ BK125.out)); replace BK125 := kb_ (bk_ BK125.out) hb; have NB126_127 := Aside0.mk (nb_ hg (bk_ BK126.out)); have NB127_126 := Aside0.mk (nc_ hg (bk_ BK126.out)); replace BK126 := kb_ (bk_ BK126.out) hb; clear hb hbox hg))
   replace BK125 := Aside0.mk (blk_drew BK125.out)
   replace BK126 := Aside0.mk (blk_drew BK126.out)
   replace BK127 := Aside0.mk (blk_drew BK127.out)
   replace HB := Aside0.mk (below_drew1 HB.out)
   refine start_ (n := 24) (S := fun w' => w'.cell? ⟨gb125, 0, none⟩ = some (.slice A0_0 l0_0.length c0_0) ∧ w'.cell? ⟨gb125, 1, none⟩ = some (.slice A0_1 l0_1.length c0_1) ∧ w'.cell? ⟨gb126, 0, none⟩ = some (.slice A1_0 l1_0.length c1_0) ∧ w'.cell? ⟨gb126, 1, none⟩ = some (.slice A1_1 l1_1.length c1_1) ∧ w'.cell? ⟨gb127, 0, none⟩ = some (.slice A2_0 l2_0.length c2_0) ∧ w'.cell? ⟨gb127, 1, none⟩ = some (.slice A2_1 l2_1.length c2_1)) (ds := []) #[false, false, false, false, false, false, false, false, false, false, false, false, false, false, false, false, false, false, false, false, false, false, false, false] (by kernel_rfl) rfl rfl ⟨(blk_cell BK125.out 0).trans rfl, (blk_cell BK125.out 1).trans rfl, (blk_cell BK126.out 0).trans rfl, (blk_cell BK126.out 1).trans rfl, (blk_cell BK127.out 0).trans rfl, (blk_cell BK127.out 1).trans rfl⟩ (fun hHeld => ?_); refine with_tabW morphism_Surjective.tab1 morphism_Surjective.bits1 (fun HT_ HW_ => ?_)
   generalize w11.drew = w12 at BK125 BK126 BK127 HB hHeld ⊢
   refine tw_ (i := 0) (N := some 7) (bm_ 24 1) rfl HT_.out HW_.out hHeld ?_
   refine tw_ (i := 1) (N := some 8) (bm_ 24 3) rfl HT_.out HW_.out hHeld ?_
   refine tw_ (i := 2) (N := some 9) (bm_ 24 7) rfl HT_.out HW_.out hHeld ?_
   refine one_ (i := 3) (N := some 10) (bm_ 24 15) rfl rfl (one_of HT_.out (by kernel_rfl)) (by decide) (fun K hK => ?_)
   refine goes_ Try.func12 (by kernel_rfl) rfl #[.agg #[.slice A0_0 l0_0.length c0_0, .slice A0_1 l0_1.length c0_1], .agg #[.slice A1_0 l1_0.length c1_0, .slice A1_1 l1_1.length c1_1], .agg #[.slice A2_0 l2_0.length c2_0, .slice A2_1 l2_1.length c2_1]] (by rfl) rfl rfl (by (try simp only [List.map_toArray, List.map_cons, List.map_nil]); first | done | rfl | (simp only [List.length_drop, List.length_take]; rfl)) ?_
   with_reducible refine (morphism_Valid.calls k _ _ l0_0 _ _ l0_1 _ _ l1_0 _ _ l1_1 _ _ l2_0 _ _ l2_1 t128 _ ?side1 ?side2 ?side3 ?side4 ?side5 ?side6 ?side7 ?side8 ?side9 ?side10 ?side11 ?side12 A4.out).mono ?_
   (case side1 => exact mc_ (Kd.C_below HR0_0.out HB.out))
   (case side2 => exact HC0_0.out)
   (case side3 => exact mc_ (Kd.C_below HR0_1.out HB.out))
   (case side4 => exact HC0_1.out)
   (case side5 => exact mc_ (Kd.C_below HR1_0.out HB.out))
   (case side6 => exact HC1_0.out)
   (case side7 => exact mc_ (Kd.C_below HR1_1.out HB.out))
   (case side8 => exact HC1_1.out)
   (case side9 => exact mc_ (Kd.C_below HR2_0.out HB.out))
   (case side10 => exact HC2_0.out)
   (case side11 => exact mc_ (Kd.C_below HR2_1.out HB.out))
   (case side12 => exact HC2_1.out)
   rintro e w13 ⟨rfl, hb⟩
   refine ⟨_, rfl, ?_⟩
   replace BK125 := kb_ (bk_ BK125.out) hb
   replace BK126 := kb_ (bk_ BK126.out) hb
   replace BK127 := kb_ (bk_ BK127.out) hb
   replace HB := Aside0.mk (below_step (mbs_ HB.out) hb)
   (try clear hb)
   (try clear hb2)
   (try clear hk)
   (try clear hi)
   refine hK.out _ _ ⟨(blk_cell BK125.out 0).trans rfl, (blk_cell BK125.out 1).trans rfl, (blk_cell BK126.out 0).trans rfl, (blk_cell BK126.out 1).trans rfl, (blk_cell BK127.out 0).trans rfl, (blk_cell BK127.out 1).trans rfl⟩ (fun hHeld => ?_)
   clear hK K
   refine norm_ (a' := ?_) ?_ ?_
   rotate_left
   ·show Act.put _ (some 10) _ = _
    simp only [Act.put, List.setIfInBounds_toArray, List.set_cons_zero, List.set_cons_succ, i64_w, i32_w]
    rfl
   refine pw_ (i := 4) (N := some 11) (bm_ 24 31) rfl HT_.out ?_
   refine pw_ (i := 5) (N := some 12) (bm_ 24 63) rfl HT_.out ?_
   refine pw_ (i := 6) (N := some 13) (bm_ 24 127) rfl HT_.out ?_
   refine pw_ (i := 9) (N := some 16) (bm_ 24 639) rfl HT_.out ?_
   refine tw_ (i := 7) (N := some 14) (bm_ 24 767) rfl HT_.out HW_.out hHeld ?_
   refine tw_ (i := 10) (N := some 17) (bm_ 24 1791) rfl HT_.out HW_.out hHeld ?_
   refine pw_ (i := 11) (N := some 18) (bm_ 24 3839) rfl HT_.out ?_
   refine one_ (i := 8) (N := some 15) (bm_ 24 4095) rfl rfl (one_of HT_.out (by kernel_rfl)) (by decide) (fun K hK => ?_)
   refine goes_ Try.func40 (by kernel_rfl) rfl #[.slice A2_0 l2_0.length c2_0] (by rfl) rfl rfl (by (try simp only [List.map_toArray, List.map_cons, List.map_nil]); first | done | rfl | (simp only [List.length_drop, List.length_take]; rfl)) ?_
   with_reducible refine (morphism_images.calls _ _ l2_0 t129 _ ?side1 ?side2 A6.out).mono ?_
   (case side1 => exact mc_ (Kd.C_below HR2_0.out HB.out))
   (case side2 => exact HC2_0.out)
   rintro e w14 ⟨rfl, hb⟩
   refine ⟨_, rfl, ?_⟩
   replace BK125 := kb_ (bk_ BK125.out) hb
   replace BK126 := kb_ (bk_ BK126.out) hb
   replace BK127 := kb_ (bk_ BK127.out) hb
   replace HB := Aside0.mk (below_step (mbs_ HB.out) hb)
   (try clear hb)
   (try clear hb2)
   (try clear hk)
   (try clear hi)
   refine hK.out _ _ ⟨(blk_cell BK125.out 0).trans rfl, (blk_cell BK125.out 1).trans rfl, (blk_cell BK126.out 0).trans rfl, (blk_cell BK126.out 1).trans rfl, (blk_cell BK127.out 0).trans rfl, (blk_cell BK127.out 1).trans rfl⟩ (fun hHeld => ?_)
   clear hK K
   refine norm_ (a' := ?_) ?_ ?_
   rotate_left
   ·show Act.put _ (some 15) _ = _
    simp only [Act.put, List.setIfInBounds_toArray, List.set_cons_zero, List.set_cons_succ, i64_w, i32_w]
    rfl
   refine pw_ (i := 12) (N := some 19) (bm_ 24 8191) rfl HT_.out ?_
   refine pw_ (i := 13) (N := some 20) (bm_ 24 16383) rfl HT_.out ?_
   refine pw_ (i := 14) (N := some 21) (bm_ 24 32767) rfl HT_.out ?_
   refine pw_ (i := 15) (N := some 22) (bm_ 24 65535) rfl HT_.out ?_
   refine pw_ (i := 18) (N := some 25) (bm_ 24 327679) rfl HT_.out ?_
   refine tw_ (i := 16) (N := some 23) (bm_ 24 393215) rfl HT_.out HW_.out hHeld ?_
   refine tw_ (i := 19) (N := some 26) (bm_ 24 917503) rfl HT_.out HW_.out hHeld ?_
   refine pw_ (i := 20) (N := some 27) (bm_ 24 1966079) rfl HT_.out ?_
   refine one_ (i := 17) (N := some 24) (bm_ 24 2097151) rfl rfl (one_of HT_.out (by kernel_rfl)) (by decide) (fun K hK => ?_)
   refine goes_ Try.func40 (by kernel_rfl) rfl #[.slice A2_1 l2_1.length c2_1] (by rfl) rfl rfl (by (try simp only [List.map_toArray, List.map_cons, List.map_nil]); first | done | rfl | (simp only [List.length_drop, List.length_take]; rfl)) ?_
   with_reducible refine (morphism_images.calls _ _ l2_1 t130 _ ?side1 ?side2 A8.out).mono ?_
   (case side1 => exact mc_ (Kd.C_below HR2_1.out HB.out))
   (case side2 => exact HC2_1.out)
   rintro e w15 ⟨rfl, hb⟩
   refine ⟨_, rfl, ?_⟩
   replace BK125 := kb_ (bk_ BK125.out) hb
   replace BK126 := kb_ (bk_ BK126.out) hb
   replace BK127 := kb_ (bk_ BK127.out) hb
   replace HB := Aside0.mk (below_step (mbs_ HB.out) hb)
   (try clear hb)
   (try clear hb2)
   (try clear hk)
   (try clear hi)
   refine hK.out _ _ ⟨(blk_cell BK125.out 0).trans rfl, (blk_cell BK125.out 1).trans rfl, (blk_cell BK126.out 0).trans rfl, (blk_cell BK126.out 1).trans rfl, (blk_cell BK127.out 0).trans rfl, (blk_cell BK127.out 1).trans rfl⟩ (fun hHeld => ?_)
   clear hK K
   refine norm_ (a' := ?_) ?_ ?_
   rotate_left
   ·show Act.put _ (some 24) _ = _
    simp only [Act.put, List.setIfInBounds_toArray, List.set_cons_zero, List.set_cons_succ, i64_w, i32_w]
    rfl
   refine pw_ (i := 21) (N := some 28) (bm_ 24 4194303) rfl HT_.out ?_
   refine pw_ (i := 22) (N := some 29) (bm_ 24 8388607) rfl HT_.out ?_
   refine pw_ (i := 23) (N := some 6) (bm_ 24 16777215) rfl HT_.out ?_
   refine done_ (done_of HT_.out (by kernel_rfl)) ?_
   try go_wp2
   go_ret
   exact ⟨by first | rfl | (simp [errW_none, errW_some] <;> rfl) | (simp [*, errW_none, errW_some] <;> rfl), mbs_ HB.out⟩
  rw [if_neg c7] at H
  have c7b0 : (t129 == (l1_0.length : Int)) = false := beq_eq_false_iff_ne.mpr c7
  have c7b1 : (t129 != (l1_0.length : Int)) = true := bne_iff_ne.mpr c7
  obtain rfl := Option.some.inj H
  go_enter Try.func17, Try.ntmps17
  try go_wp2_with (first | ((with_reducible refine gate_dst (N := 3) rfl ?_); (try (refine gate_guard (by rfl) ?_; dsimp only)); refine box_event ?hg (N := 3) ?hd (cs := #[.slice A0_0 l0_0.length c0_0, .slice A0_1 l0_1.length c0_1]) (t := 25) ?hr ?_; (case hd => rfl); (case hg => rfl); (case hr => first | (go_simp; done) | (go_simp; rfl)); intro gb125 hg w16 hbox hb; have BK125 := Aside0.mk (hbox); have GW125 := Aside0.mk (gw_ hg (mb_ HB.out)); have GE125 := Aside0.mk (gw_ hg (mb_ HB.out)); replace HB := Aside0.mk (below_step (mb_ HB.out) hb); clear hb hbox hg) | ((with_reducible refine gate_dst (N := 4) rfl ?_); (try (refine gate_guard (by rfl) ?_; dsimp only)); refine box_event ?hg (N := 4) ?hd (cs := #[.slice A1_0 l1_0.length c1_0, .slice A1_1 l1_1.length c1_1]) (t := 25) ?hr ?_; (case hd => rfl); (case hg => rfl); (case hr => first | (go_simp; done) | (go_simp; rfl)); intro gb126 hg w17 hbox hb; have BK126 := Aside0.mk (hbox); have GW126 := Aside0.mk (gw_ hg (mbs_ HB.out)); have GE126 := Aside0.mk (gw_ hg (mbs_ HB.out)); replace HB := Aside0.mk (below_step (mbs_ HB.out) hb); have NB125_126 := Aside0.mk (nb_ hg (bk_ BK125.out)); have NB126_125 := Aside0.mk (nc_ hg (bk_ BK125.out)); replace BK125 := kb_ (bk_ BK125.out) hb; clear hb hbox hg) | ((with_reducible refine gate_dst (N := 5) rfl ?_); (try (refine gate_guard (by rfl) ?_; dsimp only)); refine box_event ?hg (N := 5) ?hd (cs := #[.slice A2_0 l2_0.length c2_0, .slice A2_1 l2_1.length c2_1]) (t := 27) ?hr ?_; (case hd => rfl); (case hg => rfl); (case hr => first | (go_simp; done) | (go_simp; rfl)); intro gb127 hg w18 hbox hb; have BK127 := Aside0.mk (hbox); have GW127 := Aside0.mk (gw_ hg (mbs_ HB.out)); have GE127 := Aside0.mk (gw_ hg (mbs_ HB.out)); replace HB := Aside0.mk (below_step (mbs_ HB.out) hb); have NB125_127 := Aside0.mk (nb_ hg (bk_ BK125.out)); have NB127_125 := Aside0.mk (nc_ hg (bk_ BK125.out)); replace BK125 := kb_ (bk_ BK125.out) hb; have NB126_127 := Aside0.mk (nb_ hg (bk_ BK126.out)); have NB127_126 := Aside0.mk (nc_ hg (bk_ BK126.out)); replace BK126 := kb_ (bk_ BK126.out) hb; clear hb hbox hg))
  replace BK125 := Aside0.mk (blk_drew BK125.out)
  replace BK126 := Aside0.mk (blk_drew BK126.out)
  replace BK127 := Aside0.mk (blk_drew BK127.out)
  replace HB := Aside0.mk (below_drew1 HB.out)
  refine start_ (n := 24) (S := fun w' => w'.cell? ⟨gb125, 0, none⟩ = some (.slice A0_0 l0_0.length c0_0) ∧ w'.cell? ⟨gb125, 1, none⟩ = some (.slice A0_1 l0_1.length c0_1) ∧ w'.cell? ⟨gb126, 0, none⟩ = some (.slice A1_0 l1_0.length c1_0) ∧ w'.cell? ⟨gb126, 1, none⟩ = some (.slice A1_1 l1_1.length c1_1) ∧ w'.cell? ⟨gb127, 0, none⟩ = some (.slice A2_0 l2_0.length c2_0) ∧ w'.cell? ⟨gb127, 1, none⟩ = some (.slice A2_1 l2_1.length c2_1)) (ds := []) #[false, false, false, false, false, false, false, false, false, false, false, false, false, false, false, false, false, false, false, false, false, false, false, false] (by kernel_rfl) rfl rfl ⟨(blk_cell BK125.out 0).trans rfl, (blk_cell BK125.out 1).trans rfl, (blk_cell BK126.out 0).trans rfl, (blk_cell BK126.out 1).trans rfl, (blk_cell BK127.out 0).trans rfl, (blk_cell BK127.out 1).trans rfl⟩ (fun hHeld => ?_); refine with_tabW morphism_Surjective.tab1 morphism_Surjective.bits1 (fun HT_ HW_ => ?_)
  generalize w18.drew = w19 at BK125 BK126 BK127 HB hHeld ⊢
  refine tw_ (i := 0) (N := some 7) (bm_ 24 1) rfl HT_.out HW_.out hHeld ?_
  refine tw_ (i := 1) (N := some 8) (bm_ 24 3) rfl HT_.out HW_.out hHeld ?_
  refine tw_ (i := 2) (N := some 9) (bm_ 24 7) rfl HT_.out HW_.out hHeld ?_
  refine one_ (i := 3) (N := some 10) (bm_ 24 15) rfl rfl (one_of HT_.out (by kernel_rfl)) (by decide) (fun K hK => ?_)
  refine goes_ Try.func12 (by kernel_rfl) rfl #[.agg #[.slice A0_0 l0_0.length c0_0, .slice A0_1 l0_1.length c0_1], .agg #[.slice A1_0 l1_0.length c1_0, .slice A1_1 l1_1.length c1_1], .agg #[.slice A2_0 l2_0.length c2_0, .slice A2_1 l2_1.length c2_1]] (by rfl) rfl rfl (by (try simp only [List.map_toArray, List.map_cons, List.map_nil]); first | done | rfl | (simp only [List.length_drop, List.length_take]; rfl)) ?_
  with_reducible refine (morphism_Valid.calls k _ _ l0_0 _ _ l0_1 _ _ l1_0 _ _ l1_1 _ _ l2_0 _ _ l2_1 t128 _ ?side1 ?side2 ?side3 ?side4 ?side5 ?side6 ?side7 ?side8 ?side9 ?side10 ?side11 ?side12 A4.out).mono ?_
  (case side1 => exact mc_ (Kd.C_below HR0_0.out HB.out))
  (case side2 => exact HC0_0.out)
  (case side3 => exact mc_ (Kd.C_below HR0_1.out HB.out))
  (case side4 => exact HC0_1.out)
  (case side5 => exact mc_ (Kd.C_below HR1_0.out HB.out))
  (case side6 => exact HC1_0.out)
  (case side7 => exact mc_ (Kd.C_below HR1_1.out HB.out))
  (case side8 => exact HC1_1.out)
  (case side9 => exact mc_ (Kd.C_below HR2_0.out HB.out))
  (case side10 => exact HC2_0.out)
  (case side11 => exact mc_ (Kd.C_below HR2_1.out HB.out))
  (case side12 => exact HC2_1.out)
  rintro e w20 ⟨rfl, hb⟩
  refine ⟨_, rfl, ?_⟩
  replace BK125 := kb_ (bk_ BK125.out) hb
  replace BK126 := kb_ (bk_ BK126.out) hb
  replace BK127 := kb_ (bk_ BK127.out) hb
  replace HB := Aside0.mk (below_step (mbs_ HB.out) hb)
  (try clear hb)
  (try clear hb2)
  (try clear hk)
  (try clear hi)
  refine hK.out _ _ ⟨(blk_cell BK125.out 0).trans rfl, (blk_cell BK125.out 1).trans rfl, (blk_cell BK126.out 0).trans rfl, (blk_cell BK126.out 1).trans rfl, (blk_cell BK127.out 0).trans rfl, (blk_cell BK127.out 1).trans rfl⟩ (fun hHeld => ?_)
  clear hK K
  refine norm_ (a' := ?_) ?_ ?_
  rotate_left
  ·show Act.put _ (some 10) _ = _
   simp only [Act.put, List.setIfInBounds_toArray, List.set_cons_zero, List.set_cons_succ, i64_w, i32_w]
   rfl
  refine pw_ (i := 4) (N := some 11) (bm_ 24 31) rfl HT_.out ?_
  refine pw_ (i := 5) (N := some 12) (bm_ 24 63) rfl HT_.out ?_
  refine pw_ (i := 6) (N := some 13) (bm_ 24 127) rfl HT_.out ?_
  refine pw_ (i := 9) (N := some 16) (bm_ 24 639) rfl HT_.out ?_
  refine tw_ (i := 7) (N := some 14) (bm_ 24 767) rfl HT_.out HW_.out hHeld ?_
  refine tw_ (i := 10) (N := some 17) (bm_ 24 1791) rfl HT_.out HW_.out hHeld ?_
  refine pw_ (i := 11) (N := some 18) (bm_ 24 3839) rfl HT_.out ?_
  refine one_ (i := 8) (N := some 15) (bm_ 24 4095) rfl rfl (one_of HT_.out (by kernel_rfl)) (by decide) (fun K hK => ?_)
  refine goes_ Try.func40 (by kernel_rfl) rfl #[.slice A2_0 l2_0.length c2_0] (by rfl) rfl rfl (by (try simp only [List.map_toArray, List.map_cons, List.map_nil]); first | done | rfl | (simp only [List.length_drop, List.length_take]; rfl)) ?_
  with_reducible refine (morphism_images.calls _ _ l2_0 t129 _ ?side1 ?side2 A6.out).mono ?_
  (case side1 => exact mc_ (Kd.C_below HR2_0.out HB.out))
  (case side2 => exact HC2_0.out)
  rintro e w21 ⟨rfl, hb⟩
  refine ⟨_, rfl, ?_⟩
  replace BK125 := kb_ (bk_ BK125.out) hb
  replace BK126 := kb_ (bk_ BK126.out) hb
  replace BK127 := kb_ (bk_ BK127.out) hb
  replace HB := Aside0.mk (below_step (mbs_ HB.out) hb)
  (try clear hb)
  (try clear hb2)
  (try clear hk)
  (try clear hi)
  refine hK.out _ _ ⟨(blk_cell BK125.out 0).trans rfl, (blk_cell BK125.out 1).trans rfl, (blk_cell BK126.out 0).trans rfl, (blk_cell BK126.out 1).trans rfl, (blk_cell BK127.out 0).trans rfl, (blk_cell BK127.out 1).trans rfl⟩ (fun hHeld => ?_)
  clear hK K
  refine norm_ (a' := ?_) ?_ ?_
  rotate_left
  ·show Act.put _ (some 15) _ = _
   simp only [Act.put, List.setIfInBounds_toArray, List.set_cons_zero, List.set_cons_succ, i64_w, i32_w]
   rfl
  refine pw_ (i := 12) (N := some 19) (bm_ 24 8191) rfl HT_.out ?_
  refine pw_ (i := 13) (N := some 20) (bm_ 24 16383) rfl HT_.out ?_
  refine pw_ (i := 14) (N := some 21) (bm_ 24 32767) rfl HT_.out ?_
  refine pz_ (i := 15) (N := some 22) (bm_ 24 65535) rfl HT_.out ?_
  refine pz_ (i := 16) (N := some 23) (bm_ 24 131071) rfl HT_.out ?_
  refine pz_ (i := 17) (N := some 24) (bm_ 24 262143) rfl HT_.out ?_
  refine pz_ (i := 18) (N := some 25) (bm_ 24 524287) rfl HT_.out ?_
  refine pz_ (i := 19) (N := some 26) (bm_ 24 1048575) rfl HT_.out ?_
  refine pz_ (i := 20) (N := some 27) (bm_ 24 2097151) rfl HT_.out ?_
  refine pz_ (i := 21) (N := some 28) (bm_ 24 4194303) rfl HT_.out ?_
  refine pw_ (i := 22) (N := some 29) (bm_ 24 8388607) rfl HT_.out ?_
  refine pw_ (i := 23) (N := some 6) (bm_ 24 16777215) rfl HT_.out ?_
  refine done_ (done_of HT_.out (by kernel_rfl)) ?_
  try go_wp2
  go_ret
  exact ⟨by first | rfl | (simp [errW_none, errW_some] <;> rfl) | (simp [*, errW_none, errW_some] <;> rfl), mbs_ HB.out⟩
 rw [if_neg c5] at H
 have c5b0 : (t128 == 0) = false := beq_eq_false_iff_ne.mpr c5
 have c5b1 : (t128 != 0) = true := bne_iff_ne.mpr c5
 obtain rfl := Option.some.inj H
 go_enter Try.func17, Try.ntmps17
 try go_wp2_with (first | ((with_reducible refine gate_dst (N := 3) rfl ?_); (try (refine gate_guard (by rfl) ?_; dsimp only)); refine box_event ?hg (N := 3) ?hd (cs := #[.slice A0_0 l0_0.length c0_0, .slice A0_1 l0_1.length c0_1]) (t := 25) ?hr ?_; (case hd => rfl); (case hg => rfl); (case hr => first | (go_simp; done) | (go_simp; rfl)); intro gb125 hg w22 hbox hb; have BK125 := Aside0.mk (hbox); have GW125 := Aside0.mk (gw_ hg (mb_ HB.out)); have GE125 := Aside0.mk (gw_ hg (mb_ HB.out)); replace HB := Aside0.mk (below_step (mb_ HB.out) hb); clear hb hbox hg) | ((with_reducible refine gate_dst (N := 4) rfl ?_); (try (refine gate_guard (by rfl) ?_; dsimp only)); refine box_event ?hg (N := 4) ?hd (cs := #[.slice A1_0 l1_0.length c1_0, .slice A1_1 l1_1.length c1_1]) (t := 25) ?hr ?_; (case hd => rfl); (case hg => rfl); (case hr => first | (go_simp; done) | (go_simp; rfl)); intro gb126 hg w23 hbox hb; have BK126 := Aside0.mk (hbox); have GW126 := Aside0.mk (gw_ hg (mbs_ HB.out)); have GE126 := Aside0.mk (gw_ hg (mbs_ HB.out)); replace HB := Aside0.mk (below_step (mbs_ HB.out) hb); have NB125_126 := Aside0.mk (nb_ hg (bk_ BK125.out)); have NB126_125 := Aside0.mk (nc_ hg (bk_ BK125.out)); replace BK125 := kb_ (bk_ BK125.out) hb; clear hb hbox hg) | ((with_reducible refine gate_dst (N := 5) rfl ?_); (try (refine gate_guard (by rfl) ?_; dsimp only)); refine box_event ?hg (N := 5) ?hd (cs := #[.slice A2_0 l2_0.length c2_0, .slice A2_1 l2_1.length c2_1]) (t := 27) ?hr ?_; (case hd => rfl); (case hg => rfl); (case hr => first | (go_simp; done) | (go_simp; rfl)); intro gb127 hg w24 hbox hb; have BK127 := Aside0.mk (hbox); have GW127 := Aside0.mk (gw_ hg (mbs_ HB.out)); have GE127 := Aside0.mk (gw_ hg (mbs_ HB.out)); replace HB := Aside0.mk (below_step (mbs_ HB.out) hb); have NB125_127 := Aside0.mk (nb_ hg (bk_ BK125.out)); have NB127_125 := Aside0.mk (nc_ hg (bk_ BK125.out)); replace BK125 := kb_ (bk_ BK125.out) hb; have NB126_127 := Aside0.mk (nb_ hg (bk_ BK126.out)); have NB127_126 := Aside0.mk (nc_ hg (bk_ BK126.out)); replace BK126 := kb_ (bk_ BK126.out) hb; clear hb hbox hg))
 replace BK125 := Aside0.mk (blk_drew BK125.out)
 replace BK126 := Aside0.mk (blk_drew BK126.out)
 replace BK127 := Aside0.mk (blk_drew BK127.out)
 replace HB := Aside0.mk (below_drew1 HB.out)
 refine start_ (n := 24) (S := fun w' => w'.cell? ⟨gb125, 0, none⟩ = some (.slice A0_0 l0_0.length c0_0) ∧ w'.cell? ⟨gb125, 1, none⟩ = some (.slice A0_1 l0_1.length c0_1) ∧ w'.cell? ⟨gb126, 0, none⟩ = some (.slice A1_0 l1_0.length c1_0) ∧ w'.cell? ⟨gb126, 1, none⟩ = some (.slice A1_1 l1_1.length c1_1) ∧ w'.cell? ⟨gb127, 0, none⟩ = some (.slice A2_0 l2_0.length c2_0) ∧ w'.cell? ⟨gb127, 1, none⟩ = some (.slice A2_1 l2_1.length c2_1)) (ds := []) #[false, false, false, false, false, false, false, false, false, false, false, false, false, false, false, false, false, false, false, false, false, false, false, false] (by kernel_rfl) rfl rfl ⟨(blk_cell BK125.out 0).trans rfl, (blk_cell BK125.out 1).trans rfl, (blk_cell BK126.out 0).trans rfl, (blk_cell BK126.out 1).trans rfl, (blk_cell BK127.out 0).trans rfl, (blk_cell BK127.out 1).trans rfl⟩ (fun hHeld => ?_); refine with_tabW morphism_Surjective.tab1 morphism_Surjective.bits1 (fun HT_ HW_ => ?_)
 generalize w24.drew = w25 at BK125 BK126 BK127 HB hHeld ⊢
 refine tw_ (i := 0) (N := some 7) (bm_ 24 1) rfl HT_.out HW_.out hHeld ?_
 refine tw_ (i := 1) (N := some 8) (bm_ 24 3) rfl HT_.out HW_.out hHeld ?_
 refine tw_ (i := 2) (N := some 9) (bm_ 24 7) rfl HT_.out HW_.out hHeld ?_
 refine one_ (i := 3) (N := some 10) (bm_ 24 15) rfl rfl (one_of HT_.out (by kernel_rfl)) (by decide) (fun K hK => ?_)
 refine goes_ Try.func12 (by kernel_rfl) rfl #[.agg #[.slice A0_0 l0_0.length c0_0, .slice A0_1 l0_1.length c0_1], .agg #[.slice A1_0 l1_0.length c1_0, .slice A1_1 l1_1.length c1_1], .agg #[.slice A2_0 l2_0.length c2_0, .slice A2_1 l2_1.length c2_1]] (by rfl) rfl rfl (by (try simp only [List.map_toArray, List.map_cons, List.map_nil]); first | done | rfl | (simp only [List.length_drop, List.length_take]; rfl)) ?_
 with_reducible refine (morphism_Valid.calls k _ _ l0_0 _ _ l0_1 _ _ l1_0 _ _ l1_1 _ _ l2_0 _ _ l2_1 t128 _ ?side1 ?side2 ?side3 ?side4 ?side5 ?side6 ?side7 ?side8 ?side9 ?side10 ?side11 ?side12 A4.out).mono ?_
 (case side1 => exact mc_ (Kd.C_below HR0_0.out HB.out))
 (case side2 => exact HC0_0.out)
 (case side3 => exact mc_ (Kd.C_below HR0_1.out HB.out))
 (case side4 => exact HC0_1.out)
 (case side5 => exact mc_ (Kd.C_below HR1_0.out HB.out))
 (case side6 => exact HC1_0.out)
 (case side7 => exact mc_ (Kd.C_below HR1_1.out HB.out))
 (case side8 => exact HC1_1.out)
 (case side9 => exact mc_ (Kd.C_below HR2_0.out HB.out))
 (case side10 => exact HC2_0.out)
 (case side11 => exact mc_ (Kd.C_below HR2_1.out HB.out))
 (case side12 => exact HC2_1.out)
 rintro e w26 ⟨rfl, hb⟩
 refine ⟨_, rfl, ?_⟩
 replace BK125 := kb_ (bk_ BK125.out) hb
 replace BK126 := kb_ (bk_ BK126.out) hb
 replace BK127 := kb_ (bk_ BK127.out) hb
 replace HB := Aside0.mk (below_step (mbs_ HB.out) hb)
 (try clear hb)
 (try clear hb2)
 (try clear hk)
 (try clear hi)
 refine hK.out _ _ ⟨(blk_cell BK125.out 0).trans rfl, (blk_cell BK125.out 1).trans rfl, (blk_cell BK126.out 0).trans rfl, (blk_cell BK126.out 1).trans rfl, (blk_cell BK127.out 0).trans rfl, (blk_cell BK127.out 1).trans rfl⟩ (fun hHeld => ?_)
 clear hK K
 refine norm_ (a' := ?_) ?_ ?_
 rotate_left
 ·show Act.put _ (some 10) _ = _
  simp only [Act.put, List.setIfInBounds_toArray, List.set_cons_zero, List.set_cons_succ, i64_w, i32_w]
  rfl
 refine pw_ (i := 4) (N := some 11) (bm_ 24 31) rfl HT_.out ?_
 refine pw_ (i := 5) (N := some 12) (bm_ 24 63) rfl HT_.out ?_
 refine pz_ (i := 6) (N := some 13) (bm_ 24 127) rfl HT_.out ?_
 refine pz_ (i := 7) (N := some 14) (bm_ 24 255) rfl HT_.out ?_
 refine pz_ (i := 8) (N := some 15) (bm_ 24 511) rfl HT_.out ?_
 refine pz_ (i := 9) (N := some 16) (bm_ 24 1023) rfl HT_.out ?_
 refine pz_ (i := 10) (N := some 17) (bm_ 24 2047) rfl HT_.out ?_
 refine pz_ (i := 11) (N := some 18) (bm_ 24 4095) rfl HT_.out ?_
 refine pz_ (i := 12) (N := some 19) (bm_ 24 8191) rfl HT_.out ?_
 refine pw_ (i := 13) (N := some 20) (bm_ 24 16383) rfl HT_.out ?_
 refine pw_ (i := 14) (N := some 21) (bm_ 24 32767) rfl HT_.out ?_
 refine pz_ (i := 15) (N := some 22) (bm_ 24 65535) rfl HT_.out ?_
 refine pz_ (i := 16) (N := some 23) (bm_ 24 131071) rfl HT_.out ?_
 refine pz_ (i := 17) (N := some 24) (bm_ 24 262143) rfl HT_.out ?_
 refine pz_ (i := 18) (N := some 25) (bm_ 24 524287) rfl HT_.out ?_
 refine pz_ (i := 19) (N := some 26) (bm_ 24 1048575) rfl HT_.out ?_
 refine pz_ (i := 20) (N := some 27) (bm_ 24 2097151) rfl HT_.out ?_
 refine pz_ (i := 21) (N := some 28) (bm_ 24 4194303) rfl HT_.out ?_
 refine pw_ (i := 22) (N := some 29) (bm_ 24 8388607) rfl HT_.out ?_
 refine pw_ (i := 23) (N := some 6) (bm_ 24 16777215) rfl HT_.out ?_
 refine done_ (done_of HT_.out (by kernel_rfl)) ?_
 try go_wp2
 go_ret
 exact ⟨by first | rfl | (simp [errW_none, errW_some] <;> rfl) | (simp [*, errW_none, errW_some] <;> rfl), mbs_ HB.out⟩

end Go.Proofs.Ytklacpdobpkbbaa.P
