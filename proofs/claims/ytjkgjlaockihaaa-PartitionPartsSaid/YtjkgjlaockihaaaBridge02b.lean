/- What Join, Meet, Finer and Equal come to, and their references. -/
import Derived.Test.YtjkgjlaockihaaaBridge02
import Derived.Test.YtjkgjlaockihaaaPx2
import Derived.Test.YtjkgjlaockihaaaPx7
namespace Go.Proofs.Ytjkgjlaockihaaa.P
open Go.RowKit Go.Proofs.YtjkgjlaockihaaaW.PrintWords Go.Proofs.YtjkgjlaockihaaaW.PrintLast Go.Proofs.YtjkgjlaockihaaaW.PrintMore
open Go.Proofs.Ytjkgjlaockihaaa.Part Go.Proofs.Ytjkgjlaockihaaa.EvAid
theorem Join_ev {n : Nat} {f g : Nat → Nat} (hn : n ≤ 80) (hf : Vd n f) (hg : Vd n g) : Ev (fun k => partition_Join.f k (L n f) (L n g)) (L n (join n f g), 0) := by
  have loop : ∀ d i, i + d = n → ∀ h : Nat → Nat, Dn n h → Ev (fun k => partition_Join.l0 k (L n f) (L n g) (L n h) (n : Int) (i : Int)) (L n (gen (root h) (prs f g d i)), 0) := by
    intro d
    induction d with
    | zero =>
      intro i hi h hd
      exact Ev.step (fun k => partition_Join.l0.eq_2 ..) (neg (by omega) (Ev.bind (flat_ev hd (by omega)) (Ev.now _)))
    | succ d ih =>
      intro i hi h hd
      have hin : i < n := by omega
      have lf := (hf i hin).1
      have lg := (hg i hin).1
      have d1 := un_dn hd hin (show f i < n by omega)
      have d2 := un_dn d1 hin (show g i < n by omega)
      refine Ev.step (fun k => partition_Join.l0.eq_2 ..) (pos (by omega) (pos (by omega) (pos (by rw [L_len]; omega) ?_)))
      rw [rd_L hin, rd_L hin]
      refine Ev.bind (unite_ev hd hin (by omega)) (pos (by rw [L_len]; omega) (Ev.bind (unite_ev d1 hin (by omega)) ?_))
      rw [wrap_nat (by omega)]
      have h1 := ih (i + 1) (by omega) _ d2
      have hin' : In n (prs f g d (i + 1)) := fun x hx => joinPairs_in hf.dn hg.dn x (by
        obtain ⟨j, h1, h2, h3⟩ := mem_prs.1 hx
        exact mem_prs.2 ⟨j, by omega, by omega, h3⟩)
      rw [show L n (gen (root h) (prs f g (d + 1) i)) = L n (gen (root (un (un h i (f i)) i (g i))) (prs f g d (i + 1))) from L_congr (fun j hj => by
        rw [prs, gen, gen]
        refine gen_congr hin' (fun m hm => ?_) j hj
        rw [un_root d1 hin (show g i < n by omega) m hm]
        exact (mg_congr (un_root hd hin (show f i < n by omega)) hin (show g i < n by omega) m hm).symm)]
      exact h1
  unfold partition_Join.f
  have h2 := two_ev (a := L n f) (b := L n g) (by rw [L_len]; omega) (by rw [L_len]; omega)
  rw [twoE_L hn hf hg] at h2
  refine Ev.bind h2 (pos rfl ?_)
  rw [L_len]
  refine Ev.bind (finest_ev (by omega)) ?_
  rw [L_len]
  have h3 := loop n 0 (by omega) id (id_valid n).dn
  rw [show L n (join n f g) = L n (gen (root id) (prs f g n 0)) from L_congr (fun j hj => gen_congr (joinPairs_in hf.dn hg.dn) (fun i hi => (root_of_valid (id_valid n) hi).symm) j hj)]
  exact h3
theorem Join_err {a b : List Int} (ha : a.length ≤ 1000) (hb : b.length ≤ 1000) (h : twoE a b ≠ 0) : Ev (fun k => partition_Join.f k a b) ([], twoE a b) := by
  unfold partition_Join.f
  exact Ev.bind (two_ev ha hb) (neg h (Ev.now _))
theorem ref_Join_ev {n : Nat} {f g : Nat → Nat} (hn : n ≤ 80) (hf : Vd n f) (hg : Vd n g) : Ev (fun k => scarfjointref02_Join.f k (L n f) (L n g)) (L n (join n f g), 0) := by
  have loop : ∀ d i, i + d = n → ∀ h : Nat → Nat, Ev (fun k => scarfjointref02_Join.l0 k (L n f) (L n g) (L n h) (i : Int)) (L n (gen h (prs f g d i)), 0) := by
    intro d
    induction d with
    | zero =>
      intro i hi h
      exact Ev.step (fun k => scarfjointref02_Join.l0.eq_2 ..) (neg (by rw [L_len]; omega) (Ev.now _))
    | succ d ih =>
      intro i hi h
      have hin : i < n := by omega
      have lf := (hf i hin).1
      have lg := (hg i hin).1
      refine Ev.step (fun k => scarfjointref02_Join.l0.eq_2 ..) (pos (by rw [L_len]; omega) (pos (by omega) ?_))
      rw [rd_L hin, rd_L hin]
      refine Ev.bind (ref_Merge_ev hin (by omega) (by omega)) (pos (by rw [L_len]; omega) (Ev.bind (ref_Merge_ev hin (by omega) (by omega)) ?_))
      rw [wrap_nat (by omega)]
      exact ih (i + 1) (by omega) _
  unfold scarfjointref02_Join.f
  have h2 := ref_both_ev (a := L n f) (b := L n g) (by rw [L_len]; omega) (by rw [L_len]; omega)
  rw [twoE_L hn hf hg] at h2
  refine Ev.bind h2 (pos rfl ?_)
  rw [L_len]
  exact Ev.bind (ref_Finest_ev (by omega)) (loop n 0 (by omega) id)
theorem ref_Join_err {a b : List Int} (ha : a.length ≤ 1000) (hb : b.length ≤ 1000) (h : twoE a b ≠ 0) : Ev (fun k => scarfjointref02_Join.f k a b) ([], twoE a b) := by
  unfold scarfjointref02_Join.f
  exact Ev.bind (ref_both_ev ha hb) (neg h (Ev.now _))

/-! ### Meet -/
theorem wf_small {x : Int} (h0 : 0 ≤ x) (h : x ≤ 1000) : (Lit.int .i64 x).wf = true := by
  simp only [Lit.wf, Bool.and_eq_true, decide_eq_true_eq, IntKind.min, IntKind.max, IntKind.bits, IntKind.signed, if_true]
  omega
theorem Meet_ok {n : Nat} {f g : Nat → Nat} (hn : n ≤ 80) (hf : Vd n f) (hg : Vd n g) : partition_Meet.ok (L n f) (L n g) := by
  unfold partition_Meet.ok
  rw [L_len, L_len]
  refine ⟨Nat.le_refl _, by omega, List.all_eq_true.2 (fun x hx => ?_), List.all_eq_true.2 (fun x hx => ?_)⟩
  · obtain ⟨i, hi, rfl⟩ := List.mem_map.1 hx
    have := (hf i (List.mem_range.1 hi)).1
    have := List.mem_range.1 hi
    exact wf_small (by omega) (by omega)
  · obtain ⟨i, hi, rfl⟩ := List.mem_map.1 hx
    have := (hg i (List.mem_range.1 hi)).1
    have := List.mem_range.1 hi
    exact wf_small (by omega) (by omega)
theorem Meet_out {n : Nat} {f g : Nat → Nat} : partition_Meet.out (L n f) (L n g) n = L n (meet f g) := by
  unfold partition_Meet.out L
  apply List.map_congr_left
  intro i hi
  have hi := List.mem_range.1 hi
  congr 1
  unfold partition_Meet.at_ meet
  congr 1
  have key : ∀ l : List Nat, (∀ j ∈ l, j < n) → l.find? (fun j : Nat => rd ((List.range n).map fun i => (f i : Int)) (j : Int) == rd ((List.range n).map fun i => (f i : Int)) (i : Int) && rd ((List.range n).map fun i => (g i : Int)) (j : Int) == rd ((List.range n).map fun i => (g i : Int)) (i : Int)) = l.find? (fun j => f j == f i && g j == g i) := by
    intro l
    induction l with
    | nil => intro _; rfl
    | cons x l ih =>
      intro hl
      have hx := hl x (by simp)
      have e : (rd ((List.range n).map fun i => (f i : Int)) (x : Int) == rd ((List.range n).map fun i => (f i : Int)) (i : Int) && rd ((List.range n).map fun i => (g i : Int)) (x : Int) == rd ((List.range n).map fun i => (g i : Int)) (i : Int)) = (f x == f i && g x == g i) := by
        have r1 := rd_L (f := f) hx
        have r2 := rd_L (f := f) hi
        have r3 := rd_L (f := g) hx
        have r4 := rd_L (f := g) hi
        unfold L at r1 r2 r3 r4
        rw [r1, r2, r3, r4, Bool.eq_iff_iff]
        simp only [Bool.and_eq_true, beq_iff_eq]
        omega
      rw [List.find?_cons, List.find?_cons, e, ih (fun j hj => hl j (by simp [hj]))]
  exact key _ (fun j hj => by have := List.mem_range.1 hj; omega)
theorem Meet_ev {n : Nat} {f g : Nat → Nat} (hn : n ≤ 80) (hf : Vd n f) (hg : Vd n g) : Ev (fun k => partition_Meet.f k (L n f) (L n g)) (L n (meet f g), 0) := by
  unfold partition_Meet.f
  have h2 := two_ev (a := L n f) (b := L n g) (by rw [L_len]; omega) (by rw [L_len]; omega)
  rw [twoE_L hn hf hg] at h2
  refine Ev.bind h2 (pos rfl (pos (Meet_ok hn hf hg) ?_))
  rw [L_len, Meet_out]
  exact Ev.now _
theorem Meet_err {a b : List Int} (ha : a.length ≤ 1000) (hb : b.length ≤ 1000) (h : twoE a b ≠ 0) : Ev (fun k => partition_Meet.f k a b) ([], twoE a b) := by
  unfold partition_Meet.f
  exact Ev.bind (two_ev ha hb) (neg h (Ev.now _))
theorem ref_Meet_ev {n : Nat} {f g : Nat → Nat} (hn : n ≤ 80) (hf : Vd n f) (hg : Vd n g) : Ev (fun k => scarfjointref02_Meet.f k (L n f) (L n g)) (L n (meet f g), 0) := by
  have loop : ∀ d i, i + d = n → Ev (fun k => scarfjointref02_Meet.l0 k (L n f) (L n g) (L i (meet f g)) (i : Int)) (L n (meet f g), 0) := by
    intro d
    induction d with
    | zero =>
      intro i hi
      obtain rfl : i = n := by omega
      exact Ev.step (fun k => scarfjointref02_Meet.l0.eq_2 ..) (neg (by rw [L_len]; omega) (Ev.now _))
    | succ d ih =>
      intro i hi
      have hin : i < n := by omega
      have sp := meet_spec f g i
      refine Ev.step (fun k => scarfjointref02_Meet.l0.eq_2 ..) (pos (by rw [L_len]; omega) ?_)
      have inner : ∀ m j, j + m = meet f g i → Ev (fun k => scarfjointref02_Meet.l1 k (L n f) (L n g) (L i (meet f g)) (i : Int) (j : Int)) (L n (meet f g), 0) := by
        intro m
        induction m with
        | zero =>
          intro j hj
          obtain rfl : j = meet f g i := by omega
          refine Ev.step (fun k => scarfjointref02_Meet.l1.eq_2 ..) (pos (by omega) (pos (by rw [L_len]; omega) (pos (by omega) (pos (by rw [L_len]; omega) (pos ?_ (pos (by rw [L_len]; omega) (pos (by rw [L_len]; omega) (pos ?_ (pos (by rw [L_len]; omega) ?_)))))))))
          · rw [rd_L (by omega), rd_L hin, sp.2.1]
          · rw [rd_L (by omega), rd_L hin, sp.2.2.1]
          · have h := ih (i + 1) (by omega)
            rw [L_succ] at h
            rw [wrap_nat (by omega)]
            exact h
        | succ m jh =>
          intro j hj
          refine Ev.step (fun k => scarfjointref02_Meet.l1.eq_2 ..) (pos (by omega) (pos (by rw [L_len]; omega) (pos (by omega) (pos (by rw [L_len]; omega) ?_))))
          have no := sp.2.2.2 j (by omega)
          have go := jh (j + 1) (by omega)
          rw [← wrap_nat (i := j) (by omega)] at go
          rw [rd_L (by omega), rd_L hin, rd_L (by omega), rd_L hin]
          by_cases e : f j = f i
          · refine pos (by omega) (pos (by rw [L_len]; omega) (pos (by rw [L_len]; omega) (neg ?_ go)))
            intro e2
            exact no ⟨e, by omega⟩
          · exact neg (by omega) go
      exact inner (meet f g i) 0 (by omega)
  unfold scarfjointref02_Meet.f
  have h2 := ref_both_ev (a := L n f) (b := L n g) (by rw [L_len]; omega) (by rw [L_len]; omega)
  rw [twoE_L hn hf hg] at h2
  exact Ev.bind h2 (pos rfl (loop n 0 (by omega)))
theorem ref_Meet_err {a b : List Int} (ha : a.length ≤ 1000) (hb : b.length ≤ 1000) (h : twoE a b ≠ 0) : Ev (fun k => scarfjointref02_Meet.f k a b) ([], twoE a b) := by
  unfold scarfjointref02_Meet.f
  exact Ev.bind (ref_both_ev ha hb) (neg h (Ev.now _))

/-! ### Finer -/
def fiB (n : Nat) (f g : Nat → Nat) : Bool := (List.range n).all fun i => decide (g (f i) = g i)
theorem fiB_iff {n : Nat} {f g : Nat → Nat} : fiB n f g = true ↔ Fi n f g := by
  simp only [fiB, List.all_eq_true, List.mem_range, decide_eq_true_eq]
  rfl
theorem Finer_ev {n : Nat} {f g : Nat → Nat} (hn : n ≤ 80) (hf : Vd n f) (hg : Vd n g) : Ev (fun k => partition_Finer.f k (L n f) (L n g)) (fiB n f g) := by
  have loop : ∀ d i, i + d = n → (∀ j, j < i → g (f j) = g j) → Ev (fun k => partition_Finer.l0 k (L n f) (L n g) (n : Int) (i : Int)) (fiB n f g) := by
    intro d
    induction d with
    | zero =>
      intro i hi hs
      rw [fiB_iff.2 (fun j hj => hs j (by omega))]
      exact Ev.step (fun k => partition_Finer.l0.eq_2 ..) (neg (by omega) (Ev.now _))
    | succ d ih =>
      intro i hi hs
      have hin : i < n := by omega
      have lf := (hf i hin).1
      refine Ev.step (fun k => partition_Finer.l0.eq_2 ..) (pos (by omega) (pos (by omega) (pos (by rw [L_len]; omega) (pos (by rw [L_len]; omega) ?_))))
      rw [rd_L hin, rd_L hin, rd_L (by omega), wrap_nat (by omega)]
      refine pos (by omega) (pos (by rw [L_len]; omega) ?_)
      by_cases e : g (f i) = g i
      · refine pos (by omega) (ih (i + 1) (by omega) (fun j hj => ?_))
        by_cases e2 : j = i
        · subst e2; exact e
        · exact hs j (by omega)
      · have : fiB n f g = false := by
          rw [← Bool.not_eq_true, fiB_iff]
          exact fun h => e (h i hin)
        rw [this]
        exact neg (by omega) (Ev.now _)
  unfold partition_Finer.f
  have h2 := two_ev (a := L n f) (b := L n g) (by rw [L_len]; omega) (by rw [L_len]; omega)
  rw [twoE_L hn hf hg] at h2
  refine Ev.bind h2 (pos rfl ?_)
  rw [L_len]
  exact loop n 0 (by omega) (fun j hj => absurd hj (Nat.not_lt_zero j))
theorem Finer_err {a b : List Int} (ha : a.length ≤ 1000) (hb : b.length ≤ 1000) (h : twoE a b ≠ 0) : Ev (fun k => partition_Finer.f k a b) false := by
  unfold partition_Finer.f
  exact Ev.bind (two_ev ha hb) (neg h (Ev.now _))
theorem ref_Finer_ev {n : Nat} {f g : Nat → Nat} (hn : n ≤ 80) (hf : Vd n f) (hg : Vd n g) : Ev (fun k => scarfjointref02_Finer.f k (L n f) (L n g)) (fiB n f g) := by
  have loop : ∀ d i, i + d = n → (∀ j, j < i → g (f j) = g j) → Ev (fun k => scarfjointref02_Finer.l0 k (L n f) (L n g) (i : Int)) (fiB n f g) := by
    intro d
    induction d with
    | zero =>
      intro i hi hs
      rw [fiB_iff.2 (fun j hj => hs j (by omega))]
      exact Ev.step (fun k => scarfjointref02_Finer.l0.eq_2 ..) (neg (by rw [L_len]; omega) (Ev.now _))
    | succ d ih =>
      intro i hi hs
      have hin : i < n := by omega
      have lf := (hf i hin).1
      refine Ev.step (fun k => scarfjointref02_Finer.l0.eq_2 ..) (pos (by rw [L_len]; omega) (pos (by omega) (pos (by rw [L_len]; omega) ?_)))
      rw [rd_L hin, rd_L hin, rd_L (by omega), wrap_nat (by omega)]
      refine pos (by omega) (pos (by rw [L_len]; omega) ?_)
      by_cases e : g (f i) = g i
      · refine pos (by omega) (ih (i + 1) (by omega) (fun j hj => ?_))
        by_cases e2 : j = i
        · subst e2; exact e
        · exact hs j (by omega)
      · have : fiB n f g = false := by
          rw [← Bool.not_eq_true, fiB_iff]
          exact fun h => e (h i hin)
        rw [this]
        exact neg (by omega) (Ev.now _)
  unfold scarfjointref02_Finer.f
  have h2 := ref_both_ev (a := L n f) (b := L n g) (by rw [L_len]; omega) (by rw [L_len]; omega)
  rw [twoE_L hn hf hg] at h2
  exact Ev.bind h2 (pos rfl (loop n 0 (by omega) (fun j hj => absurd hj (Nat.not_lt_zero j))))
theorem ref_Finer_err {a b : List Int} (ha : a.length ≤ 1000) (hb : b.length ≤ 1000) (h : twoE a b ≠ 0) : Ev (fun k => scarfjointref02_Finer.f k a b) false := by
  unfold scarfjointref02_Finer.f
  exact Ev.bind (ref_both_ev ha hb) (neg h (Ev.now _))

/-! ### Equal, Clone -/
theorem Equal_ev {a b : List Int} (ha : a.length ≤ 1000000) : Ev (fun k => slices_Equal_int_int.f k a b) (decide (a = b)) := by
  unfold slices_Equal_int_int.f
  by_cases hl : a.length = b.length
  · refine pos (by omega) ?_
    have loop : ∀ d i, i + d = a.length → (∀ j : Nat, j < i → rd a (j : Int) = rd b (j : Int)) → Ev (fun k => slices_Equal_int_int.l0 k a b (a.length : Int) (i : Int)) (decide (a = b)) := by
      intro d
      induction d with
      | zero =>
        intro i hi hs
        have e : a = b := by
          apply List.ext_getElem hl
          intro j h1 h2
          have := hs j (by omega)
          simpa [rd, List.getD_eq_getElem?_getD, List.getElem?_eq_getElem h1, List.getElem?_eq_getElem h2] using this
        rw [decide_eq_true e]
        exact Ev.step (fun k => slices_Equal_int_int.l0.eq_2 ..) (neg (by omega) (Ev.now _))
      | succ d ih =>
        intro i hi hs
        refine Ev.step (fun k => slices_Equal_int_int.l0.eq_2 ..) (pos (by omega) (pos (by omega) (pos (by omega) (pos (by omega) ?_))))
        by_cases e : rd a (i : Int) = rd b (i : Int)
        · refine pos e ?_
          rw [wrap_nat (by omega)]
          refine ih (i + 1) (by omega) (fun j hj => ?_)
          by_cases e2 : j = i
          · subst e2; exact e
          · exact hs j (by omega)
        · rw [decide_eq_false (fun h => e (by rw [h]))]
          exact neg e (Ev.now _)
    exact loop a.length 0 (by omega) (fun j hj => absurd hj (Nat.not_lt_zero j))
  · rw [decide_eq_false (fun h => hl (by rw [h]))]
    exact neg (by omega) (Ev.now _)
theorem Clone_ev {a : List Int} (ha : a.length ≤ 1000000) : slices_Clone_int_int.f a = some a := by
  unfold slices_Clone_int_int.f
  exact if_pos (by omega)
end Go.Proofs.Ytjkgjlaockihaaa.P
