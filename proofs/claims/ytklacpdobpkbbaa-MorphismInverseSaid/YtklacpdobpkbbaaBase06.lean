/- Lists, graphs and morphisms as the small functions of the chapters 6 and 10 see them: what these come to, in plain words. -/
import Derived.Test.YtklacpdobpkbbaaGr
import Derived.Test.YtklacpdobpkbbaaPx11
import Derived.Test.YtklacpdobpkbbaaPx13
import Derived.Test.YtklacpdobpkbbaaPx20
import Derived.Test.YtklacpdobpkbbaaPx8
namespace Go.Proofs.Ytklacpdobpkbbaa.P
open Go.RowKit Go.Proofs.YtklacpdobpkbbaaW.PrintWords Go.Proofs.YtklacpdobpkbbaaW.PrintLast Go.Proofs.YtklacpdobpkbbaaW.PrintMore
open Go.Proofs.Ytklacpdobpkbbaa.Part Go.Proofs.Ytklacpdobpkbbaa.EvAid Go.Proofs.Ytklacpdobpkbbaa.Gr
theorem Clone_ev {a : List Int} (ha : a.length ≤ 1000000) : Ev (fun _ => slices_Clone_int_int.f a) a := ⟨0, fun _ _ => by unfold slices_Clone_int_int.f; exact if_pos (by omega)⟩
theorem rd_ext {a b : List Int} (hl : a.length = b.length) (hs : ∀ j : Nat, j < a.length → rd a (j : Int) = rd b (j : Int)) : a = b := by
  apply List.ext_getElem hl
  intro j h1 h2
  have := hs j h1
  simpa [rd, List.getD_eq_getElem?_getD, List.getElem?_eq_getElem h1, List.getElem?_eq_getElem h2] using this
theorem Equal_ev {a b : List Int} (ha : a.length ≤ 1000000) : Ev (fun k => slices_Equal_int_int.f k a b) (decide (a = b)) := by
  unfold slices_Equal_int_int.f
  by_cases hl : a.length = b.length
  · refine pos (by omega) ?_
    have loop : ∀ d i, i + d = a.length → (∀ j : Nat, j < i → rd a (j : Int) = rd b (j : Int)) → Ev (fun k => slices_Equal_int_int.l0 k a b (a.length : Int) (i : Int)) (decide (a = b)) := by
      intro d
      induction d with
      | zero =>
        intro i hi hs
        rw [decide_eq_true (rd_ext hl (fun j hj => hs j (by omega)))]
        exact Ev.step (fun k => slices_Equal_int_int.l0.eq_2 ..) (neg (by omega) (Ev.now _))
      | succ d ih =>
        intro i hi hs
        refine Ev.step (fun k => slices_Equal_int_int.l0.eq_2 ..) (pos (by omega) (pos (by omega) (pos (by omega) (pos (by omega) ?_))))
        by_cases e : rd a (i : Int) = rd b (i : Int)
        · refine pos e ?_
          rw [wrap_nat (by omega)]
          refine ih (i + 1) (by omega) (fun j hj => ?_)
          by_cases e2 : j = i
          · subst e2; exact e
          · exact hs j (by omega)
        · rw [decide_eq_false (fun h => e (by rw [h]))]
          exact neg e (Ev.now _)
    exact loop a.length 0 (by omega) (fun j hj => absurd hj (Nat.not_lt_zero j))
  · rw [decide_eq_false (fun h => hl (by rw [h]))]
    exact neg (by omega) (Ev.now _)
theorem SameInts_ev {a b : List Int} (ha : a.length ≤ 1000000) : Ev (fun k => scarfjointref02_SameInts.f k a b) (decide (a = b)) := by
  unfold scarfjointref02_SameInts.f
  by_cases hl : a.length = b.length
  · refine pos (by omega) ?_
    have loop : ∀ d i, i + d = a.length → (∀ j : Nat, j < i → rd a (j : Int) = rd b (j : Int)) → Ev (fun k => scarfjointref02_SameInts.l0 k a b (i : Int)) (decide (a = b)) := by
      intro d
      induction d with
      | zero =>
        intro i hi hs
        rw [decide_eq_true (rd_ext hl (fun j hj => hs j (by omega)))]
        exact Ev.step (fun k => scarfjointref02_SameInts.l0.eq_2 ..) (neg (by omega) (Ev.now _))
      | succ d ih =>
        intro i hi hs
        refine Ev.step (fun k => scarfjointref02_SameInts.l0.eq_2 ..) (pos (by omega) (pos (by omega) (pos (by omega) ?_)))
        by_cases e : rd a (i : Int) = rd b (i : Int)
        · refine pos e ?_
          rw [wrap_nat (by omega)]
          refine ih (i + 1) (by omega) (fun j hj => ?_)
          by_cases e2 : j = i
          · subst e2; exact e
          · exact hs j (by omega)
        · rw [decide_eq_false (fun h => e (by rw [h]))]
          exact neg e (Ev.now _)
    exact loop a.length 0 (by omega) (fun j hj => absurd hj (Nat.not_lt_zero j))
  · rw [decide_eq_false (fun h => hl (by rw [h]))]
    exact neg (by omega) (Ev.now _)
/-- Two morphisms are the same. -/
def sm (a b c d : List Int) : Bool := if a = c then decide (b = d) else false
theorem sm_self (a b : List Int) : sm a b a b = true := by simp [sm]
theorem refSame_ev {a b c d : List Int} (ha : a.length ≤ 1000000) (hb : b.length ≤ 1000000) : Ev (fun k => scarfjointref06_Same.f k a b c d) (sm a b c d) := by
  unfold scarfjointref06_Same.f sm
  refine Ev.bind (SameInts_ev ha) ?_
  by_cases h : a = c
  · rw [if_pos h]
    exact pos (decide_eq_true h) (Ev.bind (SameInts_ev hb) (Ev.now _))
  · rw [if_neg h]
    exact neg (by simp [h]) (Ev.now _)
theorem Same_ev {a b c d : List Int} (ha : a.length ≤ 1000000) (hb : b.length ≤ 1000000) : Ev (fun k => morphism_Same.f k a b c d) (sm a b c d) := by
  unfold morphism_Same.f sm
  refine Ev.bind (Equal_ev ha) ?_
  by_cases h : a = c
  · rw [if_pos h]
    exact pos (decide_eq_true h) (Ev.bind (Equal_ev hb) (Ev.now _))
  · rw [if_neg h]
    exact neg (by simp [h]) (Ev.now _)
theorem Few_ev (l : List Int) (e : List S65) : Ev (fun _ => scarfjointref05_Few.f l e) (decide (l.length ≤ 45) && decide (e.length ≤ 90)) := by
  unfold scarfjointref05_Few.f
  by_cases h : l.length ≤ 45
  · refine pos (by omega) ?_
    rw [decide_eq_true h, Bool.true_and, show decide ((e.length : Int) ≤ 90) = decide (e.length ≤ 90) from decide_eq_decide.2 (by omega)]
    exact Ev.now _
  · rw [decide_eq_false h]
    exact neg (by omega) (Ev.now _)
theorem Few6_ev {a b : List Int} (ha : a.length < 17592186044416) (hb : b.length < 17592186044416) : Ev (fun _ => scarfjointref06_Few.f a b 140) (decide (a.length + b.length ≤ 140)) := by
  unfold scarfjointref06_Few.f
  rw [wrap_self (by omega) (by omega), show decide ((a.length : Int) + (b.length : Int) ≤ 140) = decide (a.length + b.length ≤ 140) from decide_eq_decide.2 (by omega)]
  exact Ev.now _
/-! ### the reference's Valid of a graph -/
theorem kind_e (x : Int) : scarfjointref05_kind.f x = some (wB x 99) := by
  unfold scarfjointref05_kind.f wB
  by_cases h : x ≥ 0
  · rw [if_pos h, decide_eq_true h]
    rfl
  · rw [if_neg h, decide_eq_false h]
    rfl
theorem if_some (c : Prop) [Decidable c] (b : Bool) : (if c then some b else some false) = some (decide c && b) := by
  by_cases h : c <;> simp [h]
theorem right_e (e : S65) (n : Nat) (hn : n ≤ 1000) : scarfjointref05_right.f e.f0 e.f1 e.f2 (n : Int) = some (fB e (n : Int)) := by
  unfold scarfjointref05_right.f fB
  simp only [kind_e, Option.bind_some, if_some]
  rw [wrap_self (by omega) (by omega)]
  unfold wB
  rw [show decide (e.f1 ≤ (n : Int) - 1) = decide (e.f1 < (n : Int)) from decide_eq_decide.2 (by omega), show decide (e.f2 ≤ (n : Int) - 1) = decide (e.f2 < (n : Int)) from decide_eq_decide.2 (by omega)]
  simp [Bool.and_assoc]
theorem any_rd {l : List Int} {p : Int → Bool} {i : Nat} (h : i < l.length) (hp : p (rd l (i : Int)) = true) : l.any p = true := by
  refine List.any_eq_true.2 ⟨_, List.getElem_mem h, ?_⟩
  simpa [rd, List.getD_eq_getElem?_getD, List.getElem?_eq_getElem h] using hp
theorem not_any_rd {l : List Int} {p : Int → Bool} (h : ∀ i : Nat, i < l.length → p (rd l (i : Int)) = false) : l.any p = false := by
  refine List.any_eq_false.2 (fun x hx => ?_)
  obtain ⟨i, hi, rfl⟩ := List.getElem_of_mem hx
  have := h i hi
  simpa [rd, List.getD_eq_getElem?_getD, List.getElem?_eq_getElem hi] using this
theorem any_rdE {l : List S65} {p : S65 → Bool} {i : Nat} (h : i < l.length) (hp : p (rd_T65 l (i : Int)) = true) : l.any p = true := by
  refine List.any_eq_true.2 ⟨_, List.getElem_mem h, ?_⟩
  simpa [rd_T65, List.getD_eq_getElem?_getD, List.getElem?_eq_getElem h] using hp
theorem not_any_rdE {l : List S65} {p : S65 → Bool} (h : ∀ i : Nat, i < l.length → p (rd_T65 l (i : Int)) = false) : l.any p = false := by
  refine List.any_eq_false.2 (fun x hx => ?_)
  obtain ⟨i, hi, rfl⟩ := List.getElem_of_mem hx
  have := h i hi
  simpa [rd_T65, List.getD_eq_getElem?_getD, List.getElem?_eq_getElem hi] using this
theorem refValid_ev (l : List Int) (e : List S65) : Ev (fun k => scarfjointref05_Valid.f k l e) (gE l e) := by
  unfold scarfjointref05_Valid.f gE
  by_cases h1 : l.length > 40
  · rw [if_pos h1]
    exact pos (by omega) (Ev.step (fun k => scarfjointref05_Valid.j0.eq_2 ..) (pos rfl (Ev.now _)))
  rw [if_neg h1]
  refine neg (by omega) (Ev.step (fun k => scarfjointref05_Valid.j0.eq_2 ..) ?_)
  by_cases h2 : e.length > 80
  · rw [if_pos h2]
    exact pos (decide_eq_true (by omega)) (Ev.now _)
  rw [if_neg h2]
  refine neg (by simp; omega) ?_
  have loop1 : (∀ j : Nat, j < l.length → (!wB (rd l (j : Int)) 99) = false) → ∀ d i, i + d = e.length → (∀ j : Nat, j < i → (!fB (rd_T65 e (j : Int)) (l.length : Int)) = false) → Ev (fun k => scarfjointref05_Valid.l1 k (i : Int) l e) (if (l.any fun x => !wB x 99) = true then 6 else if (e.any fun x => !fB x (l.length : Int)) = true then 6 else 0) := by
    intro hl d
    rw [if_neg (by rw [not_any_rd (p := fun x => !wB x 99) hl]; simp)]
    induction d with
    | zero =>
      intro i hi hs
      rw [if_neg (by rw [not_any_rdE (p := fun x => !fB x (l.length : Int)) (fun j hj => hs j (by omega))]; simp)]
      exact Ev.step (fun k => scarfjointref05_Valid.l1.eq_2 ..) (neg (by omega) (Ev.now _))
    | succ d ih =>
      intro i hi hs
      refine Ev.step (fun k => scarfjointref05_Valid.l1.eq_2 ..) (pos (by omega) (pos (by omega) ?_))
      rw [right_e _ _ (by omega)]
      refine bsome ?_
      by_cases hf : fB (rd_T65 e (i : Int)) (l.length : Int) = true
      · refine pos hf ?_
        rw [wrap_nat (by omega)]
        refine ih (i + 1) (by omega) (fun j hj => ?_)
        by_cases ej : j = i
        · subst ej
          rw [hf]
          rfl
        · exact hs j (by omega)
      · rw [if_pos (any_rdE (p := fun x => !fB x (l.length : Int)) (i := i) (by omega) (by simpa using hf))]
        exact neg hf (Ev.now _)
  have loop0 : ∀ d i, i + d = l.length → (∀ j : Nat, j < i → (!wB (rd l (j : Int)) 99) = false) → Ev (fun k => scarfjointref05_Valid.l0 k (i : Int) l e) (if (l.any fun x => !wB x 99) = true then 6 else if (e.any fun x => !fB x (l.length : Int)) = true then 6 else 0) := by
    intro d
    induction d with
    | zero =>
      intro i hi hs
      exact Ev.step (fun k => scarfjointref05_Valid.l0.eq_2 ..) (neg (by omega) (loop1 (fun j hj => hs j (by omega)) e.length 0 (by omega) (fun j hj => absurd hj (Nat.not_lt_zero j))))
    | succ d ih =>
      intro i hi hs
      refine Ev.step (fun k => scarfjointref05_Valid.l0.eq_2 ..) (pos (by omega) (pos (by omega) ?_))
      rw [kind_e]
      refine bsome ?_
      by_cases hf : wB (rd l (i : Int)) 99 = true
      · refine pos hf ?_
        rw [wrap_nat (by omega)]
        refine ih (i + 1) (by omega) (fun j hj => ?_)
        by_cases ej : j = i
        · subst ej
          rw [hf]
          rfl
        · exact hs j (by omega)
      · rw [if_pos (any_rd (p := fun x => !wB x 99) (i := i) (by omega) (by simpa using hf))]
        exact neg hf (Ev.now _)
  exact loop0 l.length 0 (by omega) (fun j hj => absurd hj (Nat.not_lt_zero j))
theorem gE_len {l : List Int} {e : List S65} (h : gE l e = 0) : l.length ≤ 40 ∧ e.length ≤ 80 := by
  obtain ⟨a, ha, rfl, rfl⟩ := gE_zero h
  rw [N_len, Ed_len]
  exact ⟨ha.n40, ha.m80⟩
end Go.Proofs.Ytklacpdobpkbbaa.P
