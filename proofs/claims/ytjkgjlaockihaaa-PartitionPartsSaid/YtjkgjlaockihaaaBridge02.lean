/- What the printed functions of package partition and of its reference come to, in plain words. -/
import Derived.Test.YtjkgjlaockihaaaPx1
import Derived.Test.YtjkgjlaockihaaaPx2
import Derived.Test.YtjkgjlaockihaaaPx6
import Derived.Test.YtjkgjlaockihaaaPart
import Derived.Test.YtjkgjlaockihaaaEvAid
namespace Go.Proofs.Ytjkgjlaockihaaa.P
open Go.RowKit Go.Proofs.YtjkgjlaockihaaaW.PrintWords Go.Proofs.YtjkgjlaockihaaaW.PrintLast Go.Proofs.YtjkgjlaockihaaaW.PrintMore
open Go.Proofs.Ytjkgjlaockihaaa.Part Go.Proofs.Ytjkgjlaockihaaa.EvAid

/-! ### package partition: a forest, united -/
theorem finest_ev {n : Nat} (hn : n ≤ 1000) : Ev (fun k => partition_finest.f k (n : Int)) (L n id) := by
  have loop : ∀ d i, i + d = n → Ev (fun k => partition_finest.l0 k (L n (fun j => if j < i then j else 0)) (n : Int) (i : Int)) (L n id) := by
    intro d
    induction d with
    | zero =>
      intro i hi
      refine Ev.step (fun k => partition_finest.l0.eq_2 ..) ?_
      refine neg (by omega) ?_
      rw [show L n (fun j => if j < i then j else 0) = L n id from L_congr (fun j hj => by simp; omega)]
      exact Ev.now _
    | succ d ih =>
      intro i hi
      refine Ev.step (fun k => partition_finest.l0.eq_2 ..) ?_
      refine pos (by omega) (pos (by omega) (pos (by rw [L_len]; omega) ?_))
      rw [Int.toNat_natCast, L_set, wrap_nat (by omega), show L n (upd (fun j => if j < i then j else 0) i i) = L n (fun j => if j < i + 1 then j else 0) from L_congr (fun j _ => by simp only [upd]; (repeat' split) <;> omega)]
      exact ih (i + 1) (by omega)
  unfold partition_finest.f
  refine pos (by omega) (pos (by simp; omega) (bsome ?_))
  have h := loop n 0 (by omega)
  rw [show L n (fun j => if j < 0 then j else 0) = List.replicate (n : Int).toNat 0 from by
    rw [Int.toNat_natCast]
    apply List.ext_getElem?
    intro j
    simp [L, List.getElem?_replicate]
    by_cases hj : j < n <;> simp [hj]] at h
  simpa using h
theorem root_ev {n : Nat} {f : Nat → Nat} (h : Dn n f) : ∀ i, i < n → ∀ k, i < k → partition_root.l0 k (L n f) (i : Int) = some (root f i : Int) := by
  intro i
  induction i using Nat.strongRecOn with
  | _ i ih =>
    intro hi k hk
    obtain ⟨k, rfl⟩ : ∃ m, k = m + 1 := ⟨k - 1, by omega⟩
    have h1 := h i hi
    rw [partition_root.l0, if_pos (by omega), if_pos (by rw [L_len]; omega), rd_L hi]
    by_cases e : f i = i
    · rw [if_pos (by omega), root_self e]
    · rw [if_neg (by omega), ih (f i) (by omega) (by omega) k (by omega), root_step h hi]
theorem root_f {n : Nat} {f : Nat → Nat} (h : Dn n f) {i : Nat} (hi : i < n) : Ev (fun k => partition_root.f k (L n f) (i : Int)) (root f i : Int) :=
  ⟨i + 1, fun k hk => root_ev h i hi k (by omega)⟩
def un (f : Nat → Nat) (a b : Nat) : Nat → Nat := upd f (max (root f a) (root f b)) (min (root f a) (root f b))
theorem unite_ev {n : Nat} {f : Nat → Nat} (h : Dn n f) {a b : Nat} (ha : a < n) (hb : b < n) : Ev (fun k => partition_unite.f k (L n f) (a : Int) (b : Int)) (L n (un f a b)) := by
  unfold partition_unite.f
  refine Ev.bind (root_f h ha) (Ev.bind (root_f h hb) ?_)
  have la := root_le h a ha
  have lb := root_le h b hb
  rw [mx_nat, mn_nat]
  refine pos (by omega) (pos (by rw [L_len]; omega) ?_)
  rw [Int.toNat_natCast, L_set]
  exact Ev.now _
theorem flat_ev {n : Nat} {f : Nat → Nat} (h : Dn n f) (hn : n ≤ 1000) : Ev (fun k => partition_flat.f k (L n f)) (L n (root f)) := by
  have loop : ∀ d i, i + d = n → ∀ g : Nat → Nat, Dn n g → (∀ j, j < n → root g j = root f j) → (∀ j, j < i → g j = root f j) → Ev (fun k => partition_flat.l0 k (L n g) (n : Int) (i : Int)) (L n (root f)) := by
    intro d
    induction d with
    | zero =>
      intro i hi g hg hr hs
      refine Ev.step (fun k => partition_flat.l0.eq_2 ..) ?_
      refine neg (by omega) ?_
      rw [L_congr (fun j hj => hs j (by omega))]
      exact Ev.now _
    | succ d ih =>
      intro i hi g hg hr hs
      refine Ev.step (fun k => partition_flat.l0.eq_2 ..) ?_
      refine pos (by omega) (Ev.bind (root_f hg (by omega)) (pos (by omega) (pos (by rw [L_len]; omega) ?_)))
      have hin : i < n := by omega
      have gl := root_le hg i hin
      rw [Int.toNat_natCast, L_set, wrap_nat (by omega)]
      have hD : Dn n (upd g i (root g i)) := fun j hj => by
        unfold upd
        split
        · omega
        · exact hg j hj
      have hroot : ∀ j, j < n → root (upd g i (root g i)) j = root g j := by
        intro j
        induction j using Nat.strongRecOn with
        | _ j jh =>
          intro hj
          by_cases e : j = i
          · subst e
            by_cases e2 : root g j = j
            · rw [root_self (by simp [upd, e2]), e2]
            · rw [root_step hD hj]
              have e3 : upd g j (root g j) j = root g j := by simp [upd]
              rw [e3, jh (root g j) (by omega) (by omega), root_self (root_fix hg hj)]
          · have e3 : upd g i (root g i) j = g j := by simp [upd, e]
            by_cases e2 : g j = j
            · rw [root_self (by rw [e3]; exact e2), root_self e2]
            · have := hg j hj
              rw [root_step hD hj, e3, jh (g j) (by omega) (by omega), root_step hg hj]
      refine ih (i + 1) (by omega) _ hD (fun j hj => (hroot j hj).trans (hr j hj)) (fun j hj => ?_)
      unfold upd
      split
      · rename_i e
        subst e
        exact hr j hin
      · exact hs j (by omega)
  unfold partition_flat.f
  rw [L_len]
  exact loop n 0 (by omega) f h (fun _ _ => rfl) (fun j hj => absurd hj (Nat.not_lt_zero j))
theorem un_dn {n : Nat} {f : Nat → Nat} (h : Dn n f) {a b : Nat} (ha : a < n) (hb : b < n) : Dn n (un f a b) := (root_unite h ha hb).1
theorem un_root {n : Nat} {f : Nat → Nat} (h : Dn n f) {a b : Nat} (ha : a < n) (hb : b < n) : ∀ i, i < n → root (un f a b) i = mg (root f) a b i := (root_unite h ha hb).2

/-! ### the reference: merging -/
theorem ref_Finest_ev {n : Nat} (hn : n ≤ 1000) : Ev (fun k => scarfjointref02_Finest.f k (n : Int)) (L n id) := by
  have loop : ∀ d i, i + d = n → Ev (fun k => scarfjointref02_Finest.l0 k (n : Int) (L i id) (i : Int)) (L n id) := by
    intro d
    induction d with
    | zero =>
      intro i hi
      obtain rfl : i = n := by omega
      refine Ev.step (fun k => scarfjointref02_Finest.l0.eq_2 ..) (neg (by omega) (Ev.now _))
    | succ d ih =>
      intro i hi
      refine Ev.step (fun k => scarfjointref02_Finest.l0.eq_2 ..) (pos (by omega) (pos (by rw [L_len]; omega) ?_))
      have h := ih (i + 1) (by omega)
      rw [L_succ] at h
      rw [wrap_nat (by omega)]
      exact h
  unfold scarfjointref02_Finest.f
  exact loop n 0 (by omega)
theorem ref_Merge_ev {n : Nat} {q : Nat → Nat} {a b : Nat} (ha : a < n) (hb : b < n) (hn : n ≤ 1000) : Ev (fun k => scarfjointref02_Merge.f k (L n q) (a : Int) (b : Int)) (L n (mg q a b)) := by
  have loop : ∀ d i, i + d = n → Ev (fun k => scarfjointref02_Merge.l0 k (L n q) ((min (q a) (q b) : Nat) : Int) ((max (q a) (q b) : Nat) : Int) (L i (mg q a b)) (i : Int)) (L n (mg q a b)) := by
    intro d
    induction d with
    | zero =>
      intro i hi
      obtain rfl : i = n := by omega
      refine Ev.step (fun k => scarfjointref02_Merge.l0.eq_2 ..) (neg (by rw [L_len]; omega) (Ev.now _))
    | succ d ih =>
      intro i hi
      refine Ev.step (fun k => scarfjointref02_Merge.l0.eq_2 ..) (pos (by rw [L_len]; omega) (pos (by omega) ?_))
      have h := ih (i + 1) (by omega)
      rw [rd_L (by omega)]
      by_cases e : q i = max (q a) (q b)
      · refine pos (by omega) (pos (by rw [L_len]; omega) ?_)
        rw [L_succ, show mg q a b i = min (q a) (q b) from if_pos e] at h
        rw [wrap_nat (by omega)]
        exact h
      · refine neg (by omega) (pos (by rw [L_len]; omega) ?_)
        rw [L_succ, show mg q a b i = q i from if_neg e] at h
        rw [wrap_nat (by omega)]
        exact h
  unfold scarfjointref02_Merge.f
  refine pos (by omega) (pos (by rw [L_len]; omega) (pos (by omega) (pos (by rw [L_len]; omega) ?_)))
  rw [rd_L ha, rd_L hb, mx_nat, mn_nat]
  exact loop n 0 (by omega)

/-! ### Valid -/
def VB (l : List Int) : Bool := (List.range l.length).all fun i => decide (0 ≤ rd l (i : Int) ∧ rd l (i : Int) ≤ (i : Int) ∧ rd l (rd l (i : Int)) = rd l (i : Int))
theorem VB_iff {l : List Int} : VB l = true ↔ ∀ i : Nat, i < l.length → 0 ≤ rd l (i : Int) ∧ rd l (i : Int) ≤ (i : Int) ∧ rd l (rd l (i : Int)) = rd l (i : Int) := by
  simp only [VB, List.all_eq_true, List.mem_range, decide_eq_true_eq]
theorem VB_L {n : Nat} {f : Nat → Nat} (h : Vd n f) : VB (L n f) = true := by
  rw [VB_iff]
  intro i hi
  rw [L_len] at hi
  have v := h i hi
  rw [rd_L hi, rd_L (by omega), v.2]
  omega
theorem VB_of {l : List Int} (h : VB l = true) : ∃ f, l = L l.length f ∧ Vd l.length f := by
  rw [VB_iff] at h
  refine ⟨fun i => (rd l (i : Int)).toNat, of_list (fun i hi => (h i hi).1), fun i hi => ?_⟩
  obtain ⟨h0, h1, h2⟩ := h i hi
  refine ⟨by show (rd l (i : Int)).toNat ≤ i; omega, ?_⟩
  simp only [Int.toNat_of_nonneg h0, h2]
theorem right_ev {l : List Int} (hn : l.length ≤ 1000) : Ev (fun k => partition_right.f k l) (VB l) := by
  have loop : ∀ d i, i + d = l.length → (∀ j : Nat, j < i → 0 ≤ rd l (j : Int) ∧ rd l (j : Int) ≤ (j : Int) ∧ rd l (rd l (j : Int)) = rd l (j : Int)) → Ev (fun k => partition_right.l0 k l l (l.length : Int) (i : Int)) (VB l) := by
    intro d
    induction d with
    | zero =>
      intro i hi hs
      have : VB l = true := VB_iff.2 (fun j hj => hs j (by omega))
      rw [this]
      exact Ev.step (fun k => partition_right.l0.eq_2 ..) (neg (by omega) (Ev.now _))
    | succ d ih =>
      intro i hi hs
      have no : ¬ (0 ≤ rd l (i : Int) ∧ rd l (i : Int) ≤ (i : Int) ∧ rd l (rd l (i : Int)) = rd l (i : Int)) → VB l = false := fun hh => by
        rw [← Bool.not_eq_true, VB_iff]
        exact fun g => hh (g i (by omega))
      refine Ev.step (fun k => partition_right.l0.eq_2 ..) (pos (by omega) (pos (by omega) (pos (by omega) ?_)))
      by_cases h1 : rd l (i : Int) < 0
      · rw [no (by omega)]
        exact pos h1 (Ev.now _)
      refine neg h1 ?_
      by_cases h2 : rd l (i : Int) > (i : Int)
      · rw [no (by omega)]
        exact pos h2 (Ev.now _)
      refine neg h2 (pos (by omega) (pos (by omega) ?_))
      by_cases h3 : rd l (rd l (i : Int)) = rd l (i : Int)
      · refine pos h3 ?_
        rw [wrap_nat (by omega)]
        refine ih (i + 1) (by omega) (fun j hj => ?_)
        by_cases e : j = i
        · subst e
          exact ⟨by omega, by omega, h3⟩
        · exact hs j (by omega)
      · rw [no (fun g => h3 g.2.2)]
        exact neg h3 (Ev.now _)
  unfold partition_right.f
  exact loop l.length 0 (by omega) (fun j hj => absurd hj (Nat.not_lt_zero j))
theorem ref_Valid_ev {l : List Int} (hn : l.length ≤ 1000) : Ev (fun k => scarfjointref02_Valid.f k l) (decide (l.length ≤ 80) && VB l) := by
  have loop : ∀ d i, i + d = l.length → (∀ j : Nat, j < i → 0 ≤ rd l (j : Int) ∧ rd l (j : Int) ≤ (j : Int) ∧ rd l (rd l (j : Int)) = rd l (j : Int)) → Ev (fun k => scarfjointref02_Valid.l0 k l (i : Int)) (VB l) := by
    intro d
    induction d with
    | zero =>
      intro i hi hs
      have : VB l = true := VB_iff.2 (fun j hj => hs j (by omega))
      rw [this]
      exact Ev.step (fun k => scarfjointref02_Valid.l0.eq_2 ..) (neg (by omega) (Ev.now _))
    | succ d ih =>
      intro i hi hs
      have no : ¬ (0 ≤ rd l (i : Int) ∧ rd l (i : Int) ≤ (i : Int) ∧ rd l (rd l (i : Int)) = rd l (i : Int)) → VB l = false := fun hh => by
        rw [← Bool.not_eq_true, VB_iff]
        exact fun g => hh (g i (by omega))
      refine Ev.step (fun k => scarfjointref02_Valid.l0.eq_2 ..) (pos (by omega) (pos (by omega) ?_))
      by_cases h1 : rd l (i : Int) < 0
      · rw [no (by omega)]
        exact pos h1 (Ev.now _)
      refine neg h1 ?_
      by_cases h2 : rd l (i : Int) > (i : Int)
      · rw [no (by omega)]
        exact pos h2 (Ev.now _)
      refine neg h2 (pos (by omega) (pos (by omega) ?_))
      by_cases h3 : rd l (rd l (i : Int)) = rd l (i : Int)
      · refine pos h3 ?_
        rw [wrap_nat (by omega)]
        refine ih (i + 1) (by omega) (fun j hj => ?_)
        by_cases e : j = i
        · subst e
          exact ⟨by omega, by omega, h3⟩
        · exact hs j (by omega)
      · rw [no (fun g => h3 g.2.2)]
        exact neg h3 (Ev.now _)
  unfold scarfjointref02_Valid.f
  by_cases h : l.length ≤ 80
  · rw [decide_eq_true h, Bool.true_and]
    exact neg (by omega) (loop l.length 0 (by omega) (fun j hj => absurd hj (Nat.not_lt_zero j)))
  · rw [decide_eq_false h, Bool.false_and]
    exact pos (by omega) (Ev.now _)
/-- The error of two partitions. -/
def twoE (a b : List Int) : Int := if a.length > 80 ∨ b.length > 80 then 3 else if VB a = true ∧ VB b = true then (if a.length = b.length then 0 else 20) else 1
theorem two_ev {a b : List Int} (ha : a.length ≤ 1000) (hb : b.length ≤ 1000) : Ev (fun k => partition_two.f k a b) (twoE a b) := by
  have j1 : ∀ x, Ev (fun k => partition_two.j1 k a b x) (cond x 1 (if a.length = b.length then 0 else 20)) := by
    intro x
    refine Ev.step (fun k => partition_two.j1.eq_2 ..) ?_
    cases x with
    | true => exact pos rfl (Ev.now _)
    | false =>
      refine neg (by simp) ?_
      by_cases h : a.length = b.length
      · simp only [cond_false, h, if_true]
        exact Ev.now _
      · simp only [cond_false, if_neg h]
        exact neg (by omega) (Ev.now _)
  have j0 : ∀ x, Ev (fun k => partition_two.j0 k a b x) (cond x 3 (if VB a = true ∧ VB b = true then (if a.length = b.length then 0 else 20) else 1)) := by
    intro x
    refine Ev.step (fun k => partition_two.j0.eq_2 ..) ?_
    cases x with
    | true => exact pos rfl (Ev.now _)
    | false =>
      refine neg (by simp) (Ev.bind (right_ev ha) ?_)
      cases va : VB a with
      | false => exact neg (by simp) (by simpa using j1 true)
      | true =>
        refine pos rfl (Ev.bind (right_ev hb) ?_)
        have h := j1 (!VB b)
        cases vb : VB b with
        | false => simpa [vb] using h
        | true => simpa [vb] using h
  unfold partition_two.f twoE
  by_cases h1 : a.length > 80
  · rw [if_pos (.inl h1)]
    refine pos (by omega) ?_
    simpa using j0 true
  · refine neg (by omega) ?_
    have h := j0 (decide ((b.length : Int) > 80))
    by_cases h2 : b.length > 80
    · rw [if_pos (.inr h2)]
      rw [show decide ((b.length : Int) > 80) = true from decide_eq_true (by omega)] at h ⊢
      exact h
    · rw [if_neg (by omega)]
      rw [show decide ((b.length : Int) > 80) = false from decide_eq_false (by omega)] at h ⊢
      exact h
theorem ref_both_ev {a b : List Int} (ha : a.length ≤ 1000) (hb : b.length ≤ 1000) : Ev (fun k => scarfjointref02_both.f k a b) (twoE a b) := by
  have j1 : ∀ x, Ev (fun k => scarfjointref02_both.j1 k a b x) (cond x 1 (if a.length = b.length then 0 else 20)) := by
    intro x
    refine Ev.step (fun k => scarfjointref02_both.j1.eq_2 ..) ?_
    cases x with
    | true => exact pos rfl (Ev.now _)
    | false =>
      refine neg (by simp) ?_
      by_cases h : a.length = b.length
      · simp only [cond_false, h, if_true]
        exact Ev.now _
      · simp only [cond_false, if_neg h]
        exact neg (by omega) (Ev.now _)
  have j0 : ∀ x, (x = false → a.length ≤ 80 ∧ b.length ≤ 80) → Ev (fun k => scarfjointref02_both.j0 k a b x) (cond x 3 (if VB a = true ∧ VB b = true then (if a.length = b.length then 0 else 20) else 1)) := by
    intro x hab
    refine Ev.step (fun k => scarfjointref02_both.j0.eq_2 ..) ?_
    cases x with
    | true => exact pos rfl (Ev.now _)
    | false =>
      obtain ⟨h1, h2⟩ := hab rfl
      have ea := ref_Valid_ev ha
      have eb := ref_Valid_ev hb
      rw [decide_eq_true h1, Bool.true_and] at ea
      rw [decide_eq_true h2, Bool.true_and] at eb
      refine neg (by simp) (Ev.bind ea ?_)
      cases va : VB a with
      | false => exact neg (by simp) (by simpa using j1 true)
      | true =>
        refine pos rfl (Ev.bind eb ?_)
        have h := j1 (!VB b)
        cases vb : VB b with
        | false => simpa [vb] using h
        | true => simpa [vb] using h
  unfold scarfjointref02_both.f twoE
  by_cases h1 : a.length > 80
  · rw [if_pos (.inl h1)]
    refine pos (by omega) ?_
    simpa using j0 true (fun h => by cases h)
  · refine neg (by omega) ?_
    have h := j0 (decide ((b.length : Int) > 80)) (fun h => by simp at h; omega)
    by_cases h2 : b.length > 80
    · rw [if_pos (.inr h2)]
      rw [show decide ((b.length : Int) > 80) = true from decide_eq_true (by omega)] at h ⊢
      exact h
    · rw [if_neg (by omega)]
      rw [show decide ((b.length : Int) > 80) = false from decide_eq_false (by omega)] at h ⊢
      exact h
theorem twoE_zero {a b : List Int} (h : twoE a b = 0) : ∃ n f g, n ≤ 80 ∧ a = L n f ∧ b = L n g ∧ Vd n f ∧ Vd n g := by
  unfold twoE at h
  split at h
  · cases h
  · split at h
    · rename_i h1 h2
      split at h
      · rename_i h3
        obtain ⟨f, ef, vf⟩ := VB_of h2.1
        obtain ⟨g, eg, vg⟩ := VB_of h2.2
        exact ⟨a.length, f, g, by omega, ef, by rw [h3]; exact eg, vf, by rw [h3]; exact vg⟩
      · cases h
    · cases h
theorem twoE_L {n : Nat} {f g : Nat → Nat} (hn : n ≤ 80) (hf : Vd n f) (hg : Vd n g) : twoE (L n f) (L n g) = 0 := by
  unfold twoE
  simp only [L_len, VB_L hf, VB_L hg]
  rw [if_neg (by omega), if_pos ⟨trivial, trivial⟩, if_pos trivial]
end Go.Proofs.Ytjkgjlaockihaaa.P
