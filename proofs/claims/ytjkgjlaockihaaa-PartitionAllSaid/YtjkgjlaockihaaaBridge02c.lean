/- What Quotient, Classes and Valid come to, and their references; SameInts, SameLists. -/
import Derived.Test.YtjkgjlaockihaaaBridge02b
import Derived.Test.YtjkgjlaockihaaaQuot
import Derived.Test.YtjkgjlaockihaaaPx11
import Derived.Test.YtjkgjlaockihaaaPx13
namespace Go.Proofs.Ytjkgjlaockihaaa.P
open Go.RowKit Go.Proofs.YtjkgjlaockihaaaW.PrintWords Go.Proofs.YtjkgjlaockihaaaW.PrintLast Go.Proofs.YtjkgjlaockihaaaW.PrintMore
open Go.Proofs.Ytjkgjlaockihaaa.Part Go.Proofs.Ytjkgjlaockihaaa.EvAid
def oneE (a : List Int) : Int := if a.length > 80 then 3 else if VB a = true then 0 else 1
theorem one_ev {a : List Int} (ha : a.length ≤ 1000) : Ev (fun k => partition_one.f k a) (oneE a) := by
  unfold partition_one.f oneE
  by_cases h1 : a.length > 80
  · simp only [if_pos h1]
    exact pos (by omega) (Ev.now _)
  · simp only [if_neg h1]
    refine neg (by omega) (Ev.bind (right_ev ha) ?_)
    cases hv : VB a with
    | true => exact pos rfl (Ev.now _)
    | false => exact neg (by simp) (Ev.now _)
theorem ref_one_ev {a : List Int} (ha : a.length ≤ 1000) : Ev (fun k => scarfjointref02_one.f k a) (oneE a) := by
  unfold scarfjointref02_one.f oneE
  by_cases h1 : a.length > 80
  · simp only [if_pos h1]
    exact pos (by omega) (Ev.now _)
  · simp only [if_neg h1]
    have e := ref_Valid_ev ha
    rw [decide_eq_true (show a.length ≤ 80 by omega), Bool.true_and] at e
    refine neg (by omega) (Ev.bind e ?_)
    cases hv : VB a with
    | true => exact pos rfl (Ev.now _)
    | false => exact neg (by simp) (Ev.now _)
theorem oneE_zero {a : List Int} (h : oneE a = 0) : ∃ n f, n ≤ 80 ∧ a = L n f ∧ Vd n f := by
  unfold oneE at h
  split at h
  · cases h
  · split at h
    · rename_i h1 h2
      obtain ⟨f, ef, vf⟩ := VB_of h2
      exact ⟨a.length, f, by omega, ef, vf⟩
    · cases h
theorem oneE_L {n : Nat} {f : Nat → Nat} (hn : n ≤ 80) (hf : Vd n f) : oneE (L n f) = 0 := by
  unfold oneE
  rw [L_len, VB_L hf, if_neg (by omega), if_pos rfl]
theorem Quotient_ev {n : Nat} {f : Nat → Nat} (hn : n ≤ 80) (hf : Vd n f) : Ev (fun k => partition_Quotient.f k (L n f)) (L n (qt f), (cnt f n : Int), 0) := by
  have loop : ∀ d i, i + d = n → Ev (fun k => partition_Quotient.l0 k (L i (qt f)) (cnt f i : Int) (L n f) (n : Int) (i : Int)) (L n (qt f), (cnt f n : Int), 0) := by
    intro d
    induction d with
    | zero =>
      intro i hi
      obtain rfl : i = n := by omega
      exact Ev.step (fun k => partition_Quotient.l0.eq_2 ..) (neg (by omega) (Ev.now _))
    | succ d ih =>
      intro i hi
      have hin : i < n := by omega
      have v := hf i hin
      have cl := cnt_le f i
      have h := ih (i + 1) (by omega)
      rw [L_succ, cnt_succ] at h
      refine Ev.step (fun k => partition_Quotient.l0.eq_2 ..) (pos (by omega) (pos (by omega) (pos (by rw [L_len]; omega) ?_)))
      rw [rd_L hin]
      by_cases e : f i = i
      · rw [if_pos e] at h
        refine pos (by omega) (pos (by rw [L_len]; omega) ?_)
        rw [wrap_nat (by omega), wrap_nat (by omega)]
        have eq : qt f i = cnt f i := by unfold qt; rw [e]
        rw [eq] at h
        exact h
      · rw [if_neg e] at h
        refine neg (by omega) (pos (by omega) (pos (by rw [L_len]; omega) (pos (by rw [L_len]; omega) ?_)))
        rw [wrap_nat (by omega), rd_L (show f i < i by omega)]
        have eq : qt f (f i) = qt f i := by unfold qt; rw [v.2]
        rw [eq]
        exact h
  unfold partition_Quotient.f
  have h1 := one_ev (a := L n f) (by rw [L_len]; omega)
  rw [oneE_L hn hf] at h1
  refine Ev.bind h1 (pos rfl ?_)
  rw [L_len]
  exact loop n 0 (by omega)
theorem Quotient_err {a : List Int} (ha : a.length ≤ 1000) (h : oneE a ≠ 0) : Ev (fun k => partition_Quotient.f k a) ([], 0, oneE a) := by
  unfold partition_Quotient.f
  exact Ev.bind (one_ev ha) (neg h (Ev.now _))
theorem ref_Quotient_ev {n : Nat} {f : Nat → Nat} (hn : n ≤ 80) (hf : Vd n f) : Ev (fun k => scarfjointref02_Quotient.f k (L n f)) (L n (qt f), (cnt f n : Int), 0) := by
  have loop : ∀ d i, i + d = n → Ev (fun k => scarfjointref02_Quotient.l0 k (L n f) (L i (qt f)) (cnt f i : Int) (i : Int)) (L n (qt f), (cnt f n : Int), 0) := by
    intro d
    induction d with
    | zero =>
      intro i hi
      obtain rfl : i = n := by omega
      exact Ev.step (fun k => scarfjointref02_Quotient.l0.eq_2 ..) (neg (by rw [L_len]; omega) (Ev.now _))
    | succ d ih =>
      intro i hi
      have hin : i < n := by omega
      have v := hf i hin
      have cl := cnt_le f i
      have h := ih (i + 1) (by omega)
      rw [L_succ, cnt_succ] at h
      refine Ev.step (fun k => scarfjointref02_Quotient.l0.eq_2 ..) (pos (by rw [L_len]; omega) (pos (by omega) ?_))
      rw [rd_L hin]
      by_cases e : f i = i
      · rw [if_pos e] at h
        refine pos (by omega) (pos (by rw [L_len]; omega) ?_)
        rw [wrap_nat (by omega), wrap_nat (by omega)]
        have eq : qt f i = cnt f i := by unfold qt; rw [e]
        rw [eq] at h
        exact h
      · rw [if_neg e] at h
        refine neg (by omega) (pos (by omega) (pos (by rw [L_len]; omega) (pos (by rw [L_len]; omega) ?_)))
        rw [wrap_nat (by omega), rd_L (show f i < i by omega)]
        have eq : qt f (f i) = qt f i := by unfold qt; rw [v.2]
        rw [eq]
        exact h
  unfold scarfjointref02_Quotient.f
  have h1 := ref_one_ev (a := L n f) (by rw [L_len]; omega)
  rw [oneE_L hn hf] at h1
  exact Ev.bind h1 (pos rfl (loop n 0 (by omega)))
theorem ref_Quotient_err {a : List Int} (ha : a.length ≤ 1000) (h : oneE a ≠ 0) : Ev (fun k => scarfjointref02_Quotient.f k a) ([], 0, oneE a) := by
  unfold scarfjointref02_Quotient.f
  exact Ev.bind (ref_one_ev ha) (neg h (Ev.now _))
theorem rd_cls {f : Nat → Nat} {m i c : Nat} (h : c < m) : rd_L2 (cls f m i) (c : Int) = mem f i c := by
  unfold rd_L2
  rw [Int.toNat_natCast]
  exact cls_get h
theorem Classes_ev {n : Nat} {f : Nat → Nat} (hn : n ≤ 80) (hf : Vd n f) : Ev (fun k => partition_Classes.f k (L n f)) (cls f (cnt f n) n, 0) := by
  have loop : ∀ d i, i + d = n → Ev (fun k => partition_Classes.l0 k (cls f (cnt f n) i) (L n (qt f)) (n : Int) (i : Int)) (cls f (cnt f n) n, 0) := by
    intro d
    induction d with
    | zero =>
      intro i hi
      obtain rfl : i = n := by omega
      exact Ev.step (fun k => partition_Classes.l0.eq_2 ..) (neg (by omega) (Ev.now _))
    | succ d ih =>
      intro i hi
      have hin : i < n := by omega
      have ql := qt_lt hf hin
      refine Ev.step (fun k => partition_Classes.l0.eq_2 ..) (pos (by omega) (pos (by omega) (pos (by rw [L_len]; omega) ?_)))
      rw [rd_L hin, rd_cls ql]
      have ml := mem_len f i (qt f i)
      refine pos (by omega) (pos (by rw [cls_len]; omega) (pos (by omega) ?_))
      rw [Int.toNat_natCast, cls_set, wrap_nat (by omega)]
      exact ih (i + 1) (by omega)
  unfold partition_Classes.f
  have cl := cnt_le f n
  refine Ev.bind (Quotient_ev hn hf) (pos rfl (pos (by simp only []; omega) (pos (by simp only [Int.toNat_natCast]; omega) ?_)))
  simp only [Int.toNat_natCast, L_len]
  have h := loop n 0 (by omega)
  rw [cls_zero] at h
  exact h
theorem Classes_err {a : List Int} (ha : a.length ≤ 1000) (h : oneE a ≠ 0) : Ev (fun k => partition_Classes.f k a) ([], oneE a) := by
  unfold partition_Classes.f
  exact Ev.bind (Quotient_err ha h) (neg h (Ev.now _))
theorem ref_Classes_ev {n : Nat} {f : Nat → Nat} (hn : n ≤ 80) (hf : Vd n f) : Ev (fun k => scarfjointref02_Classes.f k (L n f)) (cls f (cnt f n) n, 0) := by
  have loop : ∀ d i, i + d = n → Ev (fun k => scarfjointref02_Classes.l0 k (L n f) (cls f (cnt f i) n) (i : Int)) (cls f (cnt f n) n, 0) := by
    intro d
    induction d with
    | zero =>
      intro i hi
      obtain rfl : i = n := by omega
      exact Ev.step (fun k => scarfjointref02_Classes.l0.eq_2 ..) (neg (by rw [L_len]; omega) (Ev.now _))
    | succ d ih =>
      intro i hi
      have hin : i < n := by omega
      have cl := cnt_le f i
      have h := ih (i + 1) (by omega)
      rw [cnt_succ] at h
      refine Ev.step (fun k => scarfjointref02_Classes.l0.eq_2 ..) (pos (by rw [L_len]; omega) (pos (by omega) ?_))
      rw [rd_L hin]
      by_cases e : f i = i
      · rw [if_pos e, cls_succ] at h
        refine pos (by omega) ?_
        have inner : ∀ m j, j + m = n → Ev (fun k => scarfjointref02_Classes.l1 k (L n f) (cls f (cnt f i) n) (i : Int) (mem f j (cnt f i)) (j : Int)) (cls f (cnt f n) n, 0) := by
          intro m
          induction m with
          | zero =>
            intro j hj
            obtain rfl : j = n := by omega
            refine Ev.step (fun k => scarfjointref02_Classes.l1.eq_2 ..) (neg (by rw [L_len]; omega) (pos (by rw [cls_len]; omega) ?_))
            rw [wrap_nat (by omega)]
            exact h
          | succ m jh =>
            intro j hj
            have hjn : j < n := by omega
            have ml := mem_len f j (cnt f i)
            have g := jh (j + 1) (by omega)
            rw [mem_succ] at g
            refine Ev.step (fun k => scarfjointref02_Classes.l1.eq_2 ..) (pos (by rw [L_len]; omega) (pos (by omega) ?_))
            rw [rd_L hjn]
            have key : qt f j = cnt f i ↔ f j = i := by
              have := qt_same hf hjn hin
              rw [e] at this
              rw [← this]
              unfold qt
              rw [e]
            by_cases e2 : f j = i
            · rw [if_pos (key.2 e2)] at g
              refine pos (by omega) (pos (by omega) ?_)
              rw [wrap_nat (by omega)]
              exact g
            · rw [if_neg (fun hh => e2 (key.1 hh))] at g
              refine neg (by omega) ?_
              rw [wrap_nat (by omega)]
              exact g
        exact inner n 0 (by omega)
      · rw [if_neg e] at h
        refine neg (by omega) ?_
        rw [wrap_nat (by omega)]
        exact h
  unfold scarfjointref02_Classes.f
  have h1 := ref_one_ev (a := L n f) (by rw [L_len]; omega)
  rw [oneE_L hn hf] at h1
  exact Ev.bind h1 (pos rfl (loop n 0 (by omega)))
theorem ref_Classes_err {a : List Int} (ha : a.length ≤ 1000) (h : oneE a ≠ 0) : Ev (fun k => scarfjointref02_Classes.f k a) ([], oneE a) := by
  unfold scarfjointref02_Classes.f
  exact Ev.bind (ref_one_ev ha) (neg h (Ev.now _))
theorem Valid_ev {a : List Int} (ha : a.length ≤ 1000) : Ev (fun k => partition_Valid.f k a) (decide (a.length ≤ 80) && VB a) := by
  unfold partition_Valid.f
  by_cases h : a.length ≤ 80
  · rw [decide_eq_true h, Bool.true_and]
    exact pos (by omega) (Ev.bind (right_ev ha) (Ev.now _))
  · rw [decide_eq_false h, Bool.false_and]
    exact neg (by omega) (Ev.now _)
theorem SameInts_self {a : List Int} (ha : a.length ≤ 1000000) : Ev (fun k => scarfjointref02_SameInts.f k a a) true := by
  unfold scarfjointref02_SameInts.f
  refine pos rfl ?_
  have loop : ∀ d i, i + d = a.length → Ev (fun k => scarfjointref02_SameInts.l0 k a a (i : Int)) true := by
    intro d
    induction d with
    | zero => intro i hi; exact Ev.step (fun k => scarfjointref02_SameInts.l0.eq_2 ..) (neg (by omega) (Ev.now _))
    | succ d ih =>
      intro i hi
      refine Ev.step (fun k => scarfjointref02_SameInts.l0.eq_2 ..) (pos (by omega) (pos (by omega) (pos (by omega) (pos rfl ?_))))
      rw [wrap_nat (by omega)]
      exact ih (i + 1) (by omega)
  exact loop a.length 0 (by omega)
theorem SameLists_self {a : List (List Int)} (ha : a.length ≤ 1000000) (hb : ∀ x ∈ a, x.length ≤ 1000000) : Ev (fun k => scarfjointref02_SameLists.f k a a) true := by
  unfold scarfjointref02_SameLists.f
  refine pos rfl ?_
  have loop : ∀ d i, i + d = a.length → Ev (fun k => scarfjointref02_SameLists.l0 k a a (i : Int)) true := by
    intro d
    induction d with
    | zero => intro i hi; exact Ev.step (fun k => scarfjointref02_SameLists.l0.eq_2 ..) (neg (by omega) (Ev.now _))
    | succ d ih =>
      intro i hi
      refine Ev.step (fun k => scarfjointref02_SameLists.l0.eq_2 ..) (pos (by omega) (pos (by omega) (pos (by omega) (Ev.bind (SameInts_self ?_) (pos rfl ?_)))))
      · unfold rd_L2
        rw [Int.toNat_natCast, List.getD_eq_getElem?_getD, List.getElem?_eq_getElem (show i < a.length by omega)]
        exact hb _ (List.getElem_mem _)
      · rw [wrap_nat (by omega)]
        exact ih (i + 1) (by omega)
  exact loop a.length 0 (by omega)
end Go.Proofs.Ytjkgjlaockihaaa.P
