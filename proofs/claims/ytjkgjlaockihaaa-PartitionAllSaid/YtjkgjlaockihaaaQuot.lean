/- The quotient of a partition and its classes: plain mathematics. -/
import Derived.Test.YtjkgjlaockihaaaPart
namespace Go.Proofs.Ytjkgjlaockihaaa.Part
open Go.RowKit Go.Proofs.YtjkgjlaockihaaaW.PrintWords Go.Proofs.YtjkgjlaockihaaaW.PrintLast Go.Proofs.YtjkgjlaockihaaaW.PrintMore
/-- How many of the first i elements are the least of their classes. -/
def cnt (f : Nat → Nat) : Nat → Nat
  | 0 => 0
  | i + 1 => cnt f i + (if f i = i then 1 else 0)
theorem cnt_succ (f : Nat → Nat) (i : Nat) : cnt f (i + 1) = cnt f i + (if f i = i then 1 else 0) := rfl
/-- The index of an element's class. -/
def qt (f : Nat → Nat) (i : Nat) : Nat := cnt f (f i)
theorem cnt_le (f : Nat → Nat) : ∀ i, cnt f i ≤ i
  | 0 => Nat.le_refl _
  | i + 1 => by
    have := cnt_le f i
    rw [cnt_succ]
    split <;> omega
theorem cnt_mono (f : Nat → Nat) {i : Nat} : ∀ {j}, i ≤ j → cnt f i ≤ cnt f j := by
  intro j h
  obtain ⟨d, rfl⟩ := Nat.exists_eq_add_of_le h
  clear h
  induction d with
  | zero => exact Nat.le_refl _
  | succ d ih =>
    rw [← Nat.add_assoc, cnt_succ]
    omega
theorem cnt_lt (f : Nat → Nat) {i j : Nat} (hi : f i = i) (h : i < j) : cnt f i < cnt f j := by
  have h1 := cnt_mono f (show i + 1 ≤ j by omega)
  rw [cnt_succ, if_pos hi] at h1
  omega
theorem qt_same {n : Nat} {f : Nat → Nat} (h : Vd n f) {i j : Nat} (hi : i < n) (hj : j < n) : qt f i = qt f j ↔ f i = f j := by
  constructor
  · intro e
    unfold qt at e
    have vi := h i hi
    have vj := h j hj
    rcases Nat.lt_trichotomy (f i) (f j) with g | g | g
    · have := cnt_lt f vi.2 g
      omega
    · exact g
    · have := cnt_lt f vj.2 g
      omega
  · intro e
    unfold qt
    rw [e]
theorem qt_lt {n : Nat} {f : Nat → Nat} (h : Vd n f) {i : Nat} (hi : i < n) : qt f i < cnt f n := by
  have v := h i hi
  exact cnt_lt f v.2 (by omega)
/-- The elements below i whose class has the index c. -/
def mem (f : Nat → Nat) (i c : Nat) : List Int := ((List.range i).filter fun j => qt f j == c).map fun j : Nat => (j : Int)
/-- The classes, as far as the elements below i go. -/
def cls (f : Nat → Nat) (m i : Nat) : List (List Int) := (List.range m).map fun c => mem f i c
theorem mem_succ (f : Nat → Nat) (i c : Nat) : mem f (i + 1) c = if qt f i = c then mem f i c ++ [(i : Int)] else mem f i c := by
  unfold mem
  rw [List.range_succ, List.filter_append, List.map_append]
  by_cases h : qt f i = c
  · rw [if_pos h]
    simp [h]
  · rw [if_neg h]
    simp [h]
theorem mem_len (f : Nat → Nat) (i c : Nat) : (mem f i c).length ≤ i := by
  unfold mem
  rw [List.length_map]
  have := List.length_filter_le (fun j => qt f j == c) (List.range i)
  rw [List.length_range] at this
  exact this
theorem cls_len (f : Nat → Nat) (m i : Nat) : (cls f m i).length = m := by simp [cls]
theorem cls_get {f : Nat → Nat} {m i c : Nat} (h : c < m) : (cls f m i).getD c [] = mem f i c := by
  simp [cls, List.getD_eq_getElem?_getD, h]
theorem cls_set {f : Nat → Nat} {m i : Nat} : (cls f m i).set (qt f i) (mem f i (qt f i) ++ [(i : Int)]) = cls f m (i + 1) := by
  apply List.ext_getElem?
  intro j
  rw [List.getElem?_set]
  simp only [cls, List.getElem?_map, List.length_map, List.length_range]
  by_cases hj : j < m
  · rw [List.getElem?_range hj]
    by_cases e : qt f i = j
    · subst e
      simp [hj, mem_succ]
    · rw [if_neg e, Option.map_some, Option.map_some, mem_succ, if_neg e]
  · rw [List.getElem?_eq_none (by simpa using hj)]
    by_cases e : qt f i = j
    · subst e; simp [hj]
    · simp [e]
theorem cls_succ (f : Nat → Nat) (m i : Nat) : cls f (m + 1) i = cls f m i ++ [mem f i m] := by simp [cls, List.range_succ]
theorem cls_zero (f : Nat → Nat) (m : Nat) : cls f m 0 = List.replicate m [] := by
  apply List.ext_getElem?
  intro j
  simp only [cls, List.getElem?_map, List.getElem?_replicate, mem]
  by_cases hj : j < m
  · simp [hj]
  · simp [hj]
/-- How many elements the first m classes have. -/
def tot (f : Nat → Nat) (i : Nat) : Nat → Nat
  | 0 => 0
  | m + 1 => tot f i m + (mem f i m).length
theorem tot_succ (f : Nat → Nat) (i : Nat) : ∀ m, tot f (i + 1) m = tot f i m + if qt f i < m then 1 else 0
  | 0 => by simp [tot]
  | m + 1 => by
    rw [tot, tot, tot_succ f i m, mem_succ]
    by_cases h : qt f i = m
    · rw [if_pos h, if_neg (by omega), if_pos (by omega), List.length_append]
      simp
      omega
    · rw [if_neg h]
      by_cases h2 : qt f i < m
      · rw [if_pos h2, if_pos (by omega)]
        omega
      · rw [if_neg h2, if_neg (by omega)]
        omega
theorem tot_zero (f : Nat → Nat) : ∀ m, tot f 0 m = 0
  | 0 => rfl
  | m + 1 => by
    rw [tot, tot_zero f m]
    rfl
theorem tot_all {n : Nat} {f : Nat → Nat} (h : Vd n f) : tot f n (cnt f n) = n := by
  have key : ∀ i, i ≤ n → tot f i (cnt f n) = i := by
    intro i
    induction i with
    | zero => intro _; exact tot_zero f _
    | succ i ih =>
      intro hi
      rw [tot_succ, ih (by omega), if_pos (qt_lt h (by omega))]
  exact key n (Nat.le_refl _)
theorem tot_mono (f : Nat → Nat) (i : Nat) {m m' : Nat} (h : m ≤ m') : tot f i m ≤ tot f i m' := by
  obtain ⟨d, rfl⟩ := Nat.exists_eq_add_of_le h
  clear h
  induction d with
  | zero => exact Nat.le_refl _
  | succ d ih =>
    rw [← Nat.add_assoc, tot]
    omega
theorem mem_iff {f : Nat → Nat} {i c : Nat} {x : Int} : x ∈ mem f i c ↔ ∃ j : Nat, j < i ∧ qt f j = c ∧ x = (j : Int) := by
  simp only [mem, List.mem_map, List.mem_filter, List.mem_range, beq_iff_eq]
  constructor
  · rintro ⟨j, ⟨h1, h2⟩, rfl⟩
    exact ⟨j, h1, h2, rfl⟩
  · rintro ⟨j, h1, h2, rfl⟩
    exact ⟨j, ⟨h1, h2⟩, rfl⟩
/-- The first element of a class is the least one, to which all its elements lead. -/
theorem mem_head {n : Nat} {f : Nat → Nat} (h : Vd n f) {c : Nat} {x : Int} (hx : x ∈ mem f n c) : (f x.toNat : Int) = (mem f n c).getD 0 0 := by
  obtain ⟨k, hk, hc, rfl⟩ := mem_iff.1 hx
  rw [Int.toNat_natCast]
  have vk := h k hk
  have key : ∀ i, f k < i → i ≤ n → (mem f i c).getD 0 0 = (f k : Int) := by
    intro i
    induction i with
    | zero => intro h1; omega
    | succ i ih =>
      intro h1 h2
      rw [mem_succ]
      by_cases e : f k < i
      · have h3 := ih e (by omega)
        split
        · have hne : mem f i c ≠ [] := by
            intro hn
            have : (f k : Int) ∈ mem f i c := mem_iff.2 ⟨f k, e, by unfold qt; rw [vk.2]; exact hc, rfl⟩
            rw [hn] at this
            cases this
          cases hm : mem f i c with
          | nil => exact absurd hm hne
          | cons y l => rw [hm] at h3; exact h3
        · exact h3
      · obtain rfl : f k = i := by omega
        have he : mem f (f k) c = [] := by
          cases hm : mem f (f k) c with
          | nil => rfl
          | cons y l =>
            exfalso
            have hy : y ∈ mem f (f k) c := by rw [hm]; simp
            obtain ⟨j, h3, h4, _⟩ := mem_iff.1 hy
            have h5 := (qt_same h (show j < n by omega) hk).1 (h4.trans hc.symm)
            have h6 := (h j (by omega)).1
            omega
        rw [he, if_pos (by unfold qt; rw [vk.2]; exact hc)]
        rfl
  exact (key n (by omega) (Nat.le_refl _)).symm
end Go.Proofs.Ytjkgjlaockihaaa.Part
