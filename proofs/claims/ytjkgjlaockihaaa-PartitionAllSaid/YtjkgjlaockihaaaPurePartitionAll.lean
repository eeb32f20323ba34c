/- The statement PartitionAll over numbers and lists alone: both lists of partitions are one list that is told by recursion; what is asked of it is counted out. -/
import Derived.Test.YtjkgjlaockihaaaPure02
import Derived.Test.YtjkgjlaockihaaaBridge02c
import Derived.Test.YtjkgjlaockihaaaPx15
import Derived.Test.YtjkgjlaockihaaaPx16
import Derived.Test.YtjkgjlaockihaaaPx3
namespace Go.Proofs.Ytjkgjlaockihaaa.Pure
open Go.RowKit Go.Proofs.Ytjkgjlaockihaaa.P Go.Proofs.YtjkgjlaockihaaaW.PrintWords Go.Proofs.YtjkgjlaockihaaaW.PrintLast
open Go.Proofs.Ytjkgjlaockihaaa.Part Go.Proofs.Ytjkgjlaockihaaa.EvAid
/-- The longer lists out of one: d choices, from x on. -/
def ext (i : Nat) (p : List Int) : Nat → Nat → List (List Int)
  | 0, _ => []
  | d + 1, x => if (x : Int) = (i : Int) ∨ rd p (x : Int) = (x : Int) then (p ++ [(x : Int)]) :: ext i p d (x + 1) else ext i p d (x + 1)
def exts (i : Nat) : List (List Int) → List (List Int)
  | [] => []
  | p :: l => ext i p (i + 1) 0 ++ exts i l
def allL : Nat → List (List Int)
  | 0 => [[]]
  | i + 1 => exts i (allL i)
theorem ext_len (i : Nat) (p : List Int) : ∀ d x, (ext i p d x).length ≤ d
  | 0, _ => Nat.le_refl _
  | d + 1, x => by
    have := ext_len i p d (x + 1)
    unfold ext
    split
    · rw [List.length_cons]; omega
    · omega
theorem ext_mem (i : Nat) (p : List Int) : ∀ d x q, q ∈ ext i p d x → q.length = p.length + 1
  | 0, _, q, h => by cases h
  | d + 1, x, q, h => by
    unfold ext at h
    split at h
    · rcases List.mem_cons.1 h with rfl | h
      · simp
      · exact ext_mem i p d (x + 1) q h
    · exact ext_mem i p d (x + 1) q h
theorem exts_len (i : Nat) : ∀ l, (exts i l).length ≤ (i + 1) * l.length
  | [] => by simp [exts]
  | p :: l => by
    have h1 := ext_len i p (i + 1) 0
    have h2 := exts_len i l
    rw [exts, List.length_append, List.length_cons, Nat.mul_succ]
    omega
theorem exts_mem (i n : Nat) : ∀ l : List (List Int), (∀ p ∈ l, p.length = n) → ∀ q ∈ exts i l, q.length = n + 1
  | [], _, q, h => by cases h
  | p :: l, hl, q, h => by
    rcases List.mem_append.1 h with h | h
    · rw [ext_mem i p _ _ q h, hl p (by simp)]
    · exact exts_mem i n l (fun p hp => hl p (by simp [hp])) q h
theorem allL_mem : ∀ i, ∀ p ∈ allL i, p.length = i
  | 0, p, h => by
    rcases List.mem_singleton.1 h with rfl
    rfl
  | i + 1, p, h => exts_mem i i _ (allL_mem i) p h
theorem allL_len : ∀ i, i ≤ 7 → (allL i).length ≤ 8 ^ i
  | 0, _ => by simp [allL]
  | i + 1, h => by
    have h1 := exts_len i (allL i)
    have h2 := allL_len i (by omega)
    have h3 : (i + 1) * (allL i).length ≤ 8 * 8 ^ i := Nat.mul_le_mul (by omega) h2
    rw [allL, Nat.pow_succ]
    omega
theorem allL_small {i : Nat} (h : i ≤ 7) : (allL i).length ≤ 2097152 := by
  have h1 := allL_len i h
  have h2 : 8 ^ i ≤ 8 ^ 7 := Nat.pow_le_pow_right (by omega) h
  omega
theorem rd_L2_get {xs : List (List Int)} {j : Nat} (h : j < xs.length) : rd_L2 xs (j : Int) = xs[j] := by
  unfold rd_L2
  rw [Int.toNat_natCast, List.getD_eq_getElem?_getD, List.getElem?_eq_getElem h]
  rfl
theorem exts_drop {i : Nat} {xs : List (List Int)} {j : Nat} (h : j < xs.length) : exts i (xs.drop j) = ext i xs[j] (i + 1) 0 ++ exts i (xs.drop (j + 1)) := by
  rw [List.drop_eq_getElem_cons h]
  rfl
theorem All_ev {n : Nat} (hn : n ≤ 7) : Ev (fun k => partition_All.f k (n : Int)) (allL n, 0) := by
  have l2 : ∀ (i j : Nat) (xs : List (List Int)) (p : List Int) (R : List (List Int) × Int), i ≤ 7 → j < 10000000 → p.length = i → ∀ d x acc, x + d = i + 1 → acc.length + d ≤ 100000000 → Ev (fun k => partition_All.l1 k (i : Int) (acc ++ ext i p d x) (n : Int) (i : Int) xs (xs.length : Int) ((j + 1 : Nat) : Int)) R → Ev (fun k => partition_All.l2 k (i : Int) acc p (n : Int) (i : Int) xs (xs.length : Int) (j : Int) ((i + 1 : Nat) : Int) (x : Int)) R := by
    intro i j xs p R hi hj hp d
    induction d with
    | zero =>
      intro x acc hx ha h
      refine Ev.step (fun k => partition_All.l2.eq_2 ..) (neg (by omega) ?_)
      rw [wrap_nat (by omega)]
      simpa [ext] using h
    | succ d ih =>
      intro x acc hx ha h
      refine Ev.step (fun k => partition_All.l2.eq_2 ..) (pos (by omega) ?_)
      unfold ext at h
      by_cases e : (x : Int) = (i : Int)
      · rw [if_pos (.inl e)] at h
        refine pos e (Ev.bind (Clone_e (by omega)) (pos (by omega) (pos (by omega) ?_)))
        rw [wrap_nat (by omega)]
        refine ih (x + 1) _ (by omega) (by rw [List.length_append]; simp; omega) ?_
        rw [List.append_assoc]
        exact h
      · refine neg e (pos (by omega) (pos (by omega) ?_))
        by_cases e2 : rd p (x : Int) = (x : Int)
        · rw [if_pos (.inr e2)] at h
          refine pos e2 (Ev.bind (Clone_e (by omega)) (pos (by omega) (pos (by omega) ?_)))
          rw [wrap_nat (by omega)]
          refine ih (x + 1) _ (by omega) (by rw [List.length_append]; simp; omega) ?_
          rw [List.append_assoc]
          exact h
        · rw [if_neg (by omega)] at h
          refine neg e2 ?_
          rw [wrap_nat (by omega)]
          exact ih (x + 1) _ (by omega) (by omega) h
  have l1 : ∀ (i : Nat) (xs : List (List Int)) (R : List (List Int) × Int), i ≤ 7 → xs.length ≤ 2097152 → (∀ p ∈ xs, p.length = i) → ∀ d j acc, j + d = xs.length → acc.length + 8 * d ≤ 90000000 → Ev (fun k => partition_All.l0 k (acc ++ exts i (xs.drop j)) (n : Int) ((i + 1 : Nat) : Int)) R → Ev (fun k => partition_All.l1 k (i : Int) acc (n : Int) (i : Int) xs (xs.length : Int) (j : Int)) R := by
    intro i xs R hi hxs hp d
    induction d with
    | zero =>
      intro j acc hj ha h
      refine Ev.step (fun k => partition_All.l1.eq_2 ..) (neg (by omega) ?_)
      rw [wrap_nat (by omega)]
      rw [List.drop_eq_nil_of_le (by omega)] at h
      simpa [exts] using h
    | succ d ih =>
      intro j acc hj ha h
      have hjl : j < xs.length := by omega
      refine Ev.step (fun k => partition_All.l1.eq_2 ..) (pos (by omega) (pos (by omega) (pos (by omega) ?_)))
      rw [rd_L2_get hjl, wrap_nat (by omega)]
      have el := ext_len i xs[j] (i + 1) 0
      refine l2 i j xs xs[j] R hi (by omega) (hp _ (List.getElem_mem _)) (i + 1) 0 acc (by omega) (by omega) (ih (j + 1) _ (by omega) (by rw [List.length_append]; omega) ?_)
      rw [exts_drop hjl, ← List.append_assoc] at h
      exact h
  have l0 : ∀ d i, i + d = n → Ev (fun k => partition_All.l0 k (allL i) (n : Int) (i : Int)) (allL n, 0) := by
    intro d
    induction d with
    | zero =>
      intro i hi
      obtain rfl : i = n := by omega
      exact Ev.step (fun k => partition_All.l0.eq_2 ..) (neg (by omega) (Ev.now _))
    | succ d ih =>
      intro i hi
      have sm := allL_small (i := i) (by omega)
      refine Ev.step (fun k => partition_All.l0.eq_2 ..) (pos (by omega) (l1 i (allL i) _ (by omega) sm (allL_mem i) (allL i).length 0 [] (by omega) (by simp; omega) ?_))
      rw [List.drop_zero, List.nil_append]
      exact ih (i + 1) (by omega)
  unfold partition_All.f
  exact neg (by omega) (neg (by omega) (l0 n 0 (by omega)))
theorem ref_All_ev {n : Nat} (hn : n ≤ 7) : Ev (fun k => scarfjointref02_All.f k (n : Int)) (allL n, 0) := by
  have l2 : ∀ (i j : Nat) (xs : List (List Int)) (R : List (List Int) × Int) (hjl : j < xs.length), i ≤ 7 → xs.length < 10000000 → xs[j].length = i → ∀ d x acc, x + d = i + 1 → acc.length + d ≤ 100000000 → Ev (fun k => scarfjointref02_All.l1 k (n : Int) xs (i : Int) (acc ++ ext i xs[j] d x) ((j + 1 : Nat) : Int)) R → Ev (fun k => scarfjointref02_All.l2 k (n : Int) xs (i : Int) acc (j : Int) (x : Int)) R := by
    intro i j xs R hjl hi hj hp d
    have e0 := rd_L2_get hjl
    induction d with
    | zero =>
      intro x acc hx ha h
      refine Ev.step (fun k => scarfjointref02_All.l2.eq_2 ..) (neg (by omega) ?_)
      rw [wrap_nat (by omega)]
      simpa [ext] using h
    | succ d ih =>
      intro x acc hx ha h
      refine Ev.step (fun k => scarfjointref02_All.l2.eq_2 ..) (pos (by omega) ?_)
      rw [e0]
      unfold ext at h
      by_cases e : (x : Int) = (i : Int)
      · rw [if_pos (.inl e)] at h
        refine pos e (bsome (pos (by omega) (pos (by omega) (pos (by simp only [List.length_nil]; omega) (bsome (pos (by simp only [List.nil_append]; omega) (pos (by omega) ?_)))))))
        rw [wrap_nat (by omega), List.nil_append]
        refine ih (x + 1) _ (by omega) (by rw [List.length_append]; simp; omega) ?_
        rw [List.append_assoc]
        exact h
      · refine neg e (pos (by omega) (pos (by omega) (pos (by omega) (pos (by omega) ?_))))
        by_cases e2 : rd xs[j] (x : Int) = (x : Int)
        · rw [if_pos (.inr e2)] at h
          refine pos e2 (bsome (pos (by simp only [List.length_nil]; omega) (bsome (pos (by simp only [List.nil_append]; omega) (pos (by omega) ?_)))))
          rw [wrap_nat (by omega), List.nil_append]
          refine ih (x + 1) _ (by omega) (by rw [List.length_append]; simp; omega) ?_
          rw [List.append_assoc]
          exact h
        · rw [if_neg (by omega)] at h
          refine neg e2 ?_
          rw [wrap_nat (by omega)]
          exact ih (x + 1) _ (by omega) (by omega) h
  have l1 : ∀ (i : Nat) (xs : List (List Int)) (R : List (List Int) × Int), i ≤ 7 → xs.length ≤ 2097152 → (∀ p ∈ xs, p.length = i) → ∀ d j acc, j + d = xs.length → acc.length + 8 * d ≤ 90000000 → Ev (fun k => scarfjointref02_All.l0 k (n : Int) (acc ++ exts i (xs.drop j)) ((i + 1 : Nat) : Int)) R → Ev (fun k => scarfjointref02_All.l1 k (n : Int) xs (i : Int) acc (j : Int)) R := by
    intro i xs R hi hxs hp d
    induction d with
    | zero =>
      intro j acc hj ha h
      refine Ev.step (fun k => scarfjointref02_All.l1.eq_2 ..) (neg (by omega) ?_)
      rw [wrap_nat (by omega)]
      rw [List.drop_eq_nil_of_le (by omega)] at h
      simpa [exts] using h
    | succ d ih =>
      intro j acc hj ha h
      have hjl : j < xs.length := by omega
      refine Ev.step (fun k => scarfjointref02_All.l1.eq_2 ..) (pos (by omega) ?_)
      have el := ext_len i xs[j] (i + 1) 0
      refine l2 i j xs R hjl hi (by omega) (hp _ (List.getElem_mem _)) (i + 1) 0 acc (by omega) (by omega) (ih (j + 1) _ (by omega) (by rw [List.length_append]; omega) ?_)
      rw [exts_drop hjl, ← List.append_assoc] at h
      exact h
  have l0 : ∀ d i, i + d = n → Ev (fun k => scarfjointref02_All.l0 k (n : Int) (allL i) (i : Int)) (allL n, 0) := by
    intro d
    induction d with
    | zero =>
      intro i hi
      obtain rfl : i = n := by omega
      exact Ev.step (fun k => scarfjointref02_All.l0.eq_2 ..) (neg (by omega) (Ev.now _))
    | succ d ih =>
      intro i hi
      have sm := allL_small (i := i) (by omega)
      refine Ev.step (fun k => scarfjointref02_All.l0.eq_2 ..) (pos (by omega) (l1 i (allL i) _ (by omega) sm (allL_mem i) (allL i).length 0 [] (by omega) (by simp; omega) ?_))
      rw [List.drop_zero, List.nil_append]
      exact ih (i + 1) (by omega)
  unfold scarfjointref02_All.f
  exact neg (by omega) (neg (by omega) (l0 n 0 (by omega)))

/-! ### what is asked of the list -/
/-- How two lists of n numbers compare, from i on. -/
def cmpN (a b : List Int) : Int := match a, b with
  | [], [] => 0
  | [], _ :: _ => -1
  | _ :: _, [] => 1
  | x :: a, y :: b => if x < y then -1 else if x > y then 1 else cmpN a b
theorem Compare_ev {a b : List Int} (ha : a.length ≤ 1000) : Ev (fun k => slices_Compare_int_int.f k a b) (cmpN a b) := by
  have loop : ∀ d i, i + d = a.length → Ev (fun k => slices_Compare_int_int.l0 k a b a (a.length : Int) (i : Int)) (cmpN (a.drop i) (b.drop i)) ∨ b.length < i := by
    intro d
    induction d with
    | zero =>
      intro i hi
      by_cases hb : b.length < i
      · exact .inr hb
      refine .inl (Ev.step (fun k => slices_Compare_int_int.l0.eq_2 ..) (neg (by omega) ?_))
      rw [List.drop_eq_nil_of_le (show a.length ≤ i by omega)]
      by_cases h : a.length < b.length
      · rw [List.drop_eq_getElem_cons (show i < b.length by omega)]
        exact pos (by omega) (Ev.now _)
      · rw [List.drop_eq_nil_of_le (show b.length ≤ i by omega)]
        exact neg (by omega) (Ev.now _)
    | succ d ih =>
      intro i hi
      by_cases hb : b.length < i
      · exact .inr hb
      refine .inl (Ev.step (fun k => slices_Compare_int_int.l0.eq_2 ..) (pos (by omega) (pos (by omega) (pos (by omega) ?_))))
      rw [List.drop_eq_getElem_cons (show i < a.length by omega)]
      by_cases h : b.length ≤ i
      · rw [List.drop_eq_nil_of_le h]
        exact pos (by omega) (Ev.now _)
      · have hib : i < b.length := by omega
        rw [List.drop_eq_getElem_cons hib]
        have ra : rd a (i : Int) = a[i] := by simp [rd, List.getD_eq_getElem?_getD, List.getElem?_eq_getElem (show i < a.length by omega)]
        have rb : rd b (i : Int) = b[i] := by simp [rd, List.getD_eq_getElem?_getD, List.getElem?_eq_getElem hib]
        have hc : ∀ x y : Int, cmp_Compare_int.f x y = some (if x < y then -1 else if x > y then 1 else 0) := by
          intro x y
          unfold cmp_Compare_int.f cmp_isNaN_int.f
          simp only [bne_self_eq_false, Option.bind_some, Bool.false_eq_true, if_false]
          split
          · rfl
          · split <;> rfl
        refine neg (by omega) (pos (by omega) ?_)
        rw [ra, rb]
        refine Ev.bind (⟨0, fun _ _ => hc _ _⟩ : Ev (fun _ => cmp_Compare_int.f a[i] b[i]) _) ?_
        unfold cmpN
        by_cases h1 : a[i] < b[i]
        · simp only [if_pos h1]
          exact neg (by omega) (Ev.now _)
        · simp only [if_neg h1]
          by_cases h2 : a[i] > b[i]
          · simp only [if_pos h2]
            exact neg (by omega) (Ev.now _)
          · simp only [if_neg h2]
            refine pos (by trivial) ?_
            rw [wrap_nat (by omega)]
            rcases ih (i + 1) (by omega) with g | g
            · exact g
            · omega
  unfold slices_Compare_int_int.f
  rcases loop a.length 0 (by omega) with g | g
  · simpa using g
  · omega
/-- Each list is a partition of n numbers, and they ascend. -/
def chk (n : Nat) : List (List Int) → Bool
  | [] => true
  | [p] => VB p && decide (p.length = n)
  | p :: q :: l => VB p && decide (p.length = n) && decide (cmpN p q < 0) && chk n (q :: l)
theorem chk_at {n : Nat} : ∀ {l : List (List Int)}, chk n l = true → ∀ (j : Nat) (h : j < l.length), VB l[j] = true ∧ l[j].length = n ∧ (∀ h2 : j + 1 < l.length, cmpN l[j] l[j + 1] < 0)
  | [], _, j, h => by simp at h
  | [p], hc, j, h => by
    simp only [chk, Bool.and_eq_true, decide_eq_true_eq] at hc
    obtain rfl : j = 0 := by simp at h; omega
    exact ⟨hc.1, hc.2, fun h2 => by simp at h2⟩
  | p :: q :: l, hc, j, h => by
    simp only [chk, Bool.and_eq_true, decide_eq_true_eq] at hc
    obtain ⟨⟨⟨h1, h2⟩, h3⟩, h4⟩ := hc
    cases j with
    | zero => exact ⟨h1, h2, fun _ => h3⟩
    | succ j =>
      have := chk_at h4 j (by simp at h ⊢; omega)
      exact ⟨this.1, this.2.1, fun g => this.2.2 (by simp at g ⊢; omega)⟩
theorem chk0 : chk 0 (allL 0) = true ∧ (allL 0).length = 1 := by constructor <;> kernel_rfl
theorem chk1 : chk 1 (allL 1) = true ∧ (allL 1).length = 1 := by constructor <;> kernel_rfl
theorem chk2 : chk 2 (allL 2) = true ∧ (allL 2).length = 2 := by constructor <;> kernel_rfl
theorem chk3 : chk 3 (allL 3) = true ∧ (allL 3).length = 5 := by constructor <;> kernel_rfl
theorem chk4 : chk 4 (allL 4) = true ∧ (allL 4).length = 15 := by constructor <;> kernel_rfl
theorem chk5 : chk 5 (allL 5) = true ∧ (allL 5).length = 52 := by constructor <;> kernel_rfl
theorem chk6 : chk 6 (allL 6) = true ∧ (allL 6).length = 203 := by constructor <;> kernel_rfl
theorem chk7 : chk 7 (allL 7) = true ∧ (allL 7).length = 877 := by constructor <;> kernel_rfl
theorem chks {n : Nat} (hn : n ≤ 7) : chk n (allL n) = true ∧ ((allL n).length : Int) = rd [1, 1, 2, 5, 15, 52, 203, 877] (n : Int) := by
  match n, hn with
  | 0, _ => exact ⟨chk0.1, by rw [chk0.2]; rfl⟩
  | 1, _ => exact ⟨chk1.1, by rw [chk1.2]; rfl⟩
  | 2, _ => exact ⟨chk2.1, by rw [chk2.2]; rfl⟩
  | 3, _ => exact ⟨chk3.1, by rw [chk3.2]; rfl⟩
  | 4, _ => exact ⟨chk4.1, by rw [chk4.2]; rfl⟩
  | 5, _ => exact ⟨chk5.1, by rw [chk5.2]; rfl⟩
  | 6, _ => exact ⟨chk6.1, by rw [chk6.2]; rfl⟩
  | 7, _ => exact ⟨chk7.1, by rw [chk7.2]; rfl⟩
theorem len877 {n : Nat} (hn : n ≤ 7) : (allL n).length ≤ 877 := by
  match n, hn with
  | 0, _ => rw [chk0.2]; omega
  | 1, _ => rw [chk1.2]; omega
  | 2, _ => rw [chk2.2]; omega
  | 3, _ => rw [chk3.2]; omega
  | 4, _ => rw [chk4.2]; omega
  | 5, _ => rw [chk5.2]; omega
  | 6, _ => rw [chk6.2]; omega
  | 7, _ => rw [chk7.2]; omega
theorem PartitionAll : scarfjointlaw02_PartitionAll.Pure := by
  intro a _
  refine Ev.rounds ?_
  unfold scarfjointlaw02_PartitionAll.f
  refine Ev.bind awake_ev (pos rfl ?_)
  have err : ∀ e : Int, e ≠ 0 → Ev (fun k => partition_All.f k a) ([], e) → Ev (fun k => scarfjointref02_All.f k a) ([], e) → Ev (fun k => (partition_All.f k a).bind fun bt546 => ((scarfjointref02_All.f k a).bind fun bt550 => (if bt546.2 = bt550.2 then ((scarfjointref02_SameLists.f k bt546.1 bt550.1).bind fun t554 => (if t554 = true then (scarfjointlaw02_PartitionAll.j0 k a bt546.1 bt546.2 bt550.1 bt550.2 (bt546.2 != 0)) else (scarfjointlaw02_PartitionAll.j0 k a bt546.1 bt546.2 bt550.1 bt550.2 true))) else (scarfjointlaw02_PartitionAll.j0 k a bt546.1 bt546.2 bt550.1 bt550.2 true)))) true := by
    intro e he h1 h2
    refine Ev.bind h1 (Ev.bind h2 (pos rfl (Ev.bind (SameLists_self (by simp) (by simp)) (pos rfl ?_))))
    refine Ev.step (fun k => scarfjointlaw02_PartitionAll.j0.eq_2 ..) (pos (by simpa using he) (pos rfl (Ev.bind (SameLists_self (by simp) (by simp)) (Ev.now _))))
  by_cases h1 : a > 7
  · refine err 3 (by omega) ?_ ?_
    · unfold partition_All.f
      exact pos h1 (Ev.now _)
    · unfold scarfjointref02_All.f
      exact pos h1 (Ev.now _)
  by_cases h2 : a < 0
  · refine err 6 (by omega) ?_ ?_
    · unfold partition_All.f
      exact neg h1 (pos h2 (Ev.now _))
    · unfold scarfjointref02_All.f
      exact neg h1 (pos h2 (Ev.now _))
  obtain ⟨n, rfl⟩ := Int.eq_ofNat_of_zero_le (show 0 ≤ a by omega)
  have hn : n ≤ 7 := by omega
  have sm := len877 hn
  have len := allL_mem n
  obtain ⟨hc, hcount⟩ := chks hn
  refine Ev.bind (All_ev hn) (Ev.bind (ref_All_ev hn) (pos rfl (Ev.bind (SameLists_self (by simp only []; omega) (fun x hx => by have := len x hx; omega)) (pos rfl ?_))))
  refine Ev.step (fun k => scarfjointlaw02_PartitionAll.j0.eq_2 ..) (neg (by simp) ?_)
  have loop : ∀ d j, j + d = (allL n).length → Ev (fun k => scarfjointlaw02_PartitionAll.l0 k (n : Int) (allL n) (allL n) ((allL n).length : Int) (j : Int)) true := by
    intro d
    induction d with
    | zero =>
      intro j hj
      refine Ev.step (fun k => scarfjointlaw02_PartitionAll.l0.eq_2 ..) (neg (by omega) (neg (by omega) (neg (by omega) (bsome (pos (by omega) (pos (by simp only [List.length_cons, List.length_nil]; omega) ?_))))))
      rw [hcount]
      simp only [beq_self_eq_true]
      exact Ev.now _
    | succ d ih =>
      intro j hj
      have hjl : j < (allL n).length := by omega
      have cj := chk_at hc j hjl
      have g := ih (j + 1) (by omega)
      refine Ev.step (fun k => scarfjointlaw02_PartitionAll.l0.eq_2 ..) (pos (by omega) (pos (by omega) (pos (by omega) ?_)))
      rw [rd_L2_get hjl, wrap_nat (by omega)]
      have hv := Valid_ev (a := (allL n)[j]) (by omega)
      rw [cj.1, decide_eq_true (by omega)] at hv
      refine Ev.bind hv (pos rfl (pos (by omega) ?_))
      cases j with
      | zero => exact neg (by omega) g
      | succ j =>
        have cp := chk_at hc j (by omega)
        have w : wrap64 (((j + 1 : Nat) : Int) - 1) = (j : Int) := by rw [wrap_self (by omega) (by omega)]; omega
        rw [w]
        refine pos (by omega) (pos (by omega) (pos (by omega) ?_))
        rw [rd_L2_get (show j < (allL n).length by omega)]
        have hlt := cp.2.2 hjl
        exact Ev.bind (Compare_ev (by omega)) (neg (by omega) g)
  exact loop (allL n).length 0 (by omega)
end Go.Proofs.Ytjkgjlaockihaaa.Pure
