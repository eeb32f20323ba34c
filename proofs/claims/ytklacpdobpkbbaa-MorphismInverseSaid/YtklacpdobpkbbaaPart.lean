/- Partitions of 0 to n - 1 as functions that lead to the least element: roots of forests, merging, and what is the finest and the coarsest: plain mathematics, no program. -/
import Derived.Test.YtklacpdobpkbbaaU
namespace Go.Proofs.Ytklacpdobpkbbaa.Part
open Go.RowKit Go.Proofs.YtklacpdobpkbbaaW.PrintWords Go.Proofs.YtklacpdobpkbbaaW.PrintLast Go.Proofs.YtklacpdobpkbbaaW.PrintMore

/-! ### lists of numbers as functions -/
def L (n : Nat) (f : Nat → Nat) : List Int := (List.range n).map fun i => (f i : Int)
theorem L_len (n : Nat) (f : Nat → Nat) : (L n f).length = n := by simp [L]
theorem rd_L {n : Nat} {f : Nat → Nat} {i : Nat} (h : i < n) : rd (L n f) (i : Int) = (f i : Int) := by
  simp [rd, L, List.getD_eq_getElem?_getD, h]
theorem rd_L' {n : Nat} {f : Nat → Nat} {i : Int} (h0 : 0 ≤ i) (h : i < (n : Int)) : rd (L n f) i = (f i.toNat : Int) := by
  obtain ⟨j, rfl⟩ := Int.eq_ofNat_of_zero_le h0
  rw [rd_L (by omega), Int.toNat_natCast]
theorem L_congr {n : Nat} {f g : Nat → Nat} (h : ∀ i, i < n → f i = g i) : L n f = L n g := by
  unfold L
  apply List.map_congr_left
  intro i hi
  rw [h i (List.mem_range.1 hi)]
theorem L_inj {n : Nat} {f g : Nat → Nat} (h : L n f = L n g) : ∀ i, i < n → f i = g i := by
  intro i hi
  have := congrArg (fun l => rd l (i : Int)) h
  simp only [rd_L hi] at this
  omega
def upd (f : Nat → Nat) (i v : Nat) : Nat → Nat := fun j => if j = i then v else f j
theorem L_set {n : Nat} {f : Nat → Nat} {i v : Nat} : (L n f).set i (v : Int) = L n (upd f i v) := by
  apply List.ext_getElem?
  intro j
  rw [List.getElem?_set]
  simp only [L, List.getElem?_map, upd, List.length_map, List.length_range]
  by_cases hj : j < n
  · rw [List.getElem?_range hj]
    by_cases e : i = j
    · subst e; simp [hj]
    · have : ¬ j = i := fun h => e h.symm
      simp [e, this]
  · rw [List.getElem?_eq_none (by simpa using hj)]
    by_cases e : i = j
    · subst e; simp [hj]
    · simp [e]
theorem L_succ (n : Nat) (f : Nat → Nat) : L (n + 1) f = L n f ++ [(f n : Int)] := by simp [L, List.range_succ]
theorem L_zero (f : Nat → Nat) : L 0 f = [] := rfl
theorem of_list {l : List Int} (h : ∀ i : Nat, i < l.length → 0 ≤ rd l (i : Int)) : l = L l.length (fun i => (rd l (i : Int)).toNat) := by
  apply List.ext_getElem?
  intro j
  simp only [L, List.getElem?_map]
  by_cases hj : j < l.length
  · rw [List.getElem?_range hj, List.getElem?_eq_getElem hj]
    have := h j hj
    simp only [rd, Int.toNat_natCast, List.getD_eq_getElem?_getD, List.getElem?_eq_getElem hj, Option.getD_some] at this
    simp only [rd, Int.toNat_natCast, List.getD_eq_getElem?_getD, List.getElem?_eq_getElem hj, Option.getD_some, Option.map_some]
    congr 1
    omega
  · rw [List.getElem?_eq_none (by simpa using hj), List.getElem?_eq_none (by simpa using hj)]
    rfl

/-! ### forests and their roots -/
def Dn (n : Nat) (f : Nat → Nat) : Prop := ∀ i, i < n → f i ≤ i
def Vd (n : Nat) (f : Nat → Nat) : Prop := ∀ i, i < n → f i ≤ i ∧ f (f i) = f i
theorem Vd.dn {n : Nat} {f : Nat → Nat} (h : Vd n f) : Dn n f := fun i hi => (h i hi).1
def it (f : Nat → Nat) : Nat → Nat → Nat
  | 0, i => i
  | m + 1, i => it f m (f i)
def root (f : Nat → Nat) (i : Nat) : Nat := it f i i
theorem it_fix {f : Nat → Nat} {r : Nat} (h : f r = r) : ∀ m, it f m r = r
  | 0 => rfl
  | m + 1 => by rw [it, h]; exact it_fix h m
theorem it_add (f : Nat → Nat) : ∀ m k i, it f (m + k) i = it f k (it f m i)
  | 0, k, i => by simp [it]
  | m + 1, k, i => by rw [Nat.succ_add, it, it_add f m k (f i)]; rfl
theorem it_reach {n : Nat} {f : Nat → Nat} (h : Dn n f) : ∀ i, i < n → ∀ m, i ≤ m → f (it f m i) = it f m i := by
  intro i
  induction i using Nat.strongRecOn with
  | _ i ih =>
    intro hi m hm
    by_cases e : f i = i
    · rw [it_fix e]; exact e
    · have h1 := h i hi
      obtain ⟨m, rfl⟩ : ∃ k, m = k + 1 := ⟨m - 1, by omega⟩
      rw [it]
      exact ih (f i) (by omega) (by omega) m (by omega)
theorem root_fix {n : Nat} {f : Nat → Nat} (h : Dn n f) {i : Nat} (hi : i < n) : f (root f i) = root f i := it_reach h i hi i (Nat.le_refl _)
theorem it_more {n : Nat} {f : Nat → Nat} (h : Dn n f) {i m : Nat} (hi : i < n) (hm : i ≤ m) : it f m i = root f i := by
  obtain ⟨k, rfl⟩ := Nat.exists_eq_add_of_le hm
  rw [it_add]
  exact it_fix (root_fix h hi) k
theorem root_step {n : Nat} {f : Nat → Nat} (h : Dn n f) {i : Nat} (hi : i < n) : root f i = root f (f i) := by
  by_cases e : f i = i
  · rw [e]
  · have h1 := h i hi
    have h2 : root f i = it f (i + 1) i := (it_more h hi (by omega)).symm
    rw [h2, it]
    exact it_more h (by omega) (by omega)
theorem root_self {f : Nat → Nat} {r : Nat} (h : f r = r) : root f r = r := it_fix h r
theorem root_le {n : Nat} {f : Nat → Nat} (h : Dn n f) : ∀ i, i < n → root f i ≤ i := by
  intro i
  induction i using Nat.strongRecOn with
  | _ i ih =>
    intro hi
    by_cases e : f i = i
    · rw [root_self e]; omega
    · have h1 := h i hi
      rw [root_step h hi]
      have := ih (f i) (by omega) (by omega)
      omega
theorem root_valid {n : Nat} {f : Nat → Nat} (h : Dn n f) : Vd n (root f) := fun i hi => ⟨root_le h i hi, root_self (root_fix h hi)⟩
theorem root_of_valid {n : Nat} {f : Nat → Nat} (h : Vd n f) {i : Nat} (hi : i < n) : root f i = f i := by
  rw [root_step h.dn hi, root_self (h i hi).2]

/-! ### putting two classes together -/
def mg (q : Nat → Nat) (a b : Nat) : Nat → Nat := fun i => if q i = max (q a) (q b) then min (q a) (q b) else q i
theorem mg_valid {n : Nat} {q : Nat → Nat} (h : Vd n q) {a b : Nat} (ha : a < n) (hb : b < n) : Vd n (mg q a b) := by
  have va := h a ha
  have vb := h b hb
  intro i hi
  have vi := h i hi
  unfold mg
  have hm : q (min (q a) (q b)) = min (q a) (q b) := by rcases Nat.le_total (q a) (q b) with g | g <;> simp only [Nat.min_eq_left g, Nat.min_eq_right g] <;> first | exact va.2 | exact vb.2
  by_cases e : q i = max (q a) (q b)
  · rw [if_pos e]
    refine ⟨by omega, ?_⟩
    rw [hm]
    split <;> omega
  · rw [if_neg e, vi.2, if_neg e]
    exact ⟨vi.1, rfl⟩
/-- The forest in which the greater root leads to the smaller one has the roots of the merged partition. -/
theorem root_unite {n : Nat} {f : Nat → Nat} (h : Dn n f) {a b : Nat} (ha : a < n) (hb : b < n) :
    Dn n (upd f (max (root f a) (root f b)) (min (root f a) (root f b))) ∧ ∀ i, i < n → root (upd f (max (root f a) (root f b)) (min (root f a) (root f b))) i = mg (root f) a b i := by
  have fa := root_fix h ha
  have fb := root_fix h hb
  have la := root_le h a ha
  have lb := root_le h b hb
  generalize hM : max (root f a) (root f b) = M
  generalize hm : min (root f a) (root f b) = m
  have fM : f M = M := by rcases Nat.le_total (root f a) (root f b) with g | g <;> rw [← hM] <;> simp only [Nat.max_eq_left g, Nat.max_eq_right g] <;> first | exact fa | exact fb
  have fm : f m = m := by rcases Nat.le_total (root f a) (root f b) with g | g <;> rw [← hm] <;> simp only [Nat.min_eq_left g, Nat.min_eq_right g] <;> first | exact fa | exact fb
  have hmM : m ≤ M := by omega
  have hD : Dn n (upd f M m) := by
    intro i hi
    unfold upd
    split
    · omega
    · exact h i hi
  refine ⟨hD, ?_⟩
  intro i
  induction i using Nat.strongRecOn with
  | _ i ih =>
    intro hi
    unfold mg
    rw [hM, hm]
    by_cases e : i = M
    · subst e
      rw [root_self fM, if_pos rfl]
      have g1 : upd f i m i = m := by simp [upd]
      have g2 : upd f i m m = m := by unfold upd; split <;> first | rfl | exact fm
      rw [root_step hD hi, g1, root_self g2]
    · have g1 : upd f M m i = f i := by simp [upd, e]
      by_cases e2 : f i = i
      · rw [root_self e2, if_neg e, root_self (by rw [g1]; exact e2)]
      · have h1 := h i hi
        rw [root_step hD hi, g1, ih (f i) (by omega) (by omega), root_step h hi]
        unfold mg
        rw [hM, hm]
theorem mg_congr {n : Nat} {q q' : Nat → Nat} (h : ∀ i, i < n → q i = q' i) {a b : Nat} (ha : a < n) (hb : b < n) : ∀ i, i < n → mg q a b i = mg q' a b i := by
  intro i hi
  unfold mg
  rw [h i hi, h a ha, h b hb]

/-! ### finer and coarser -/
/-- f is finer than g, or equal. -/
def Fi (n : Nat) (f g : Nat → Nat) : Prop := ∀ i, i < n → g (f i) = g i
theorem Fi.refl {n : Nat} {f : Nat → Nat} (h : Vd n f) : Fi n f f := fun i hi => (h i hi).2
theorem Fi.trans {n : Nat} {f g e : Nat → Nat} (hf : Dn n f) (h : Fi n f g) (k : Fi n g e) : Fi n f e := by
  intro i hi
  have := hf i hi
  rw [← k (f i) (by omega), h i hi, k i hi]
theorem Fi.anti {n : Nat} {f g : Nat → Nat} (hf : Dn n f) (hg : Dn n g) (h : Fi n f g) (k : Fi n g f) : ∀ i, i < n → f i = g i := by
  intro i hi
  have h1 := h i hi
  have h2 := k i hi
  have a1 := hf i hi
  have a2 := hg i hi
  have b1 := hg (f i) (by omega)
  have b2 := hf (g i) (by omega)
  omega
theorem Fi.same {n : Nat} {f g : Nat → Nat} (h : Fi n f g) {i k : Nat} (hi : i < n) (hk : k < n) (e : f i = f k) : g i = g k := by rw [← h i hi, ← h k hk, e]
theorem Fi.of {n : Nat} {f g : Nat → Nat} (hf : Vd n f) (h : ∀ i k, i < n → k < n → f i = f k → g i = g k) : Fi n f g := by
  intro i hi
  have v := hf i hi
  exact h (f i) i (by omega) hi v.2
/-- What the merged partition is finer than. -/
theorem mg_fi {n : Nat} {q c : Nat → Nat} (h : Vd n q) {a b : Nat} (ha : a < n) (hb : b < n) : Fi n (mg q a b) c ↔ Fi n q c ∧ c a = c b := by
  have va := h a ha
  have vb := h b hb
  constructor
  · intro k
    have same : ∀ i j, i < n → j < n → q i = q j → c i = c j := by
      intro i j hi hj e
      refine k.same hi hj ?_
      unfold mg
      rw [e]
    refine ⟨Fi.of h same, k.same ha hb ?_⟩
    unfold mg
    split <;> split <;> omega
  · rintro ⟨k, e⟩
    intro i hi
    unfold mg
    split
    · rename_i g
      have h1 : c (q a) = c a := k a ha
      have h2 : c (q b) = c b := k b hb
      have h3 : c (q i) = c i := k i hi
      rcases Nat.le_total (q a) (q b) with l | l
      · rw [Nat.min_eq_left l, h1, e, ← h2, ← h3, g, Nat.max_eq_right l]
      · rw [Nat.min_eq_right l, h2, ← e, ← h1, ← h3, g, Nat.max_eq_left l]
    · exact k i hi

/-! ### what pairs generate -/
def gen (q : Nat → Nat) : List (Nat × Nat) → (Nat → Nat)
  | [] => q
  | x :: l => gen (mg q x.1 x.2) l
def In (n : Nat) (l : List (Nat × Nat)) : Prop := ∀ x ∈ l, x.1 < n ∧ x.2 < n
theorem gen_valid {n : Nat} : ∀ {l : List (Nat × Nat)} {q : Nat → Nat}, Vd n q → In n l → Vd n (gen q l)
  | [], _, h, _ => h
  | x :: l, q, h, hl => by
    have hx := hl x (by simp)
    rw [gen]
    exact gen_valid (mg_valid h hx.1 hx.2) (fun y hy => hl y (by simp [hy]))
theorem gen_fi {n : Nat} {c : Nat → Nat} : ∀ {l : List (Nat × Nat)} {q : Nat → Nat}, Vd n q → In n l → (Fi n (gen q l) c ↔ Fi n q c ∧ ∀ x ∈ l, c x.1 = c x.2)
  | [], q, h, _ => by simp [gen]
  | x :: l, q, h, hl => by
    have hx := hl x (by simp)
    rw [gen, gen_fi (mg_valid h hx.1 hx.2) (fun y hy => hl y (by simp [hy])), mg_fi h hx.1 hx.2]
    simp only [List.mem_cons, forall_eq_or_imp]
    constructor
    · rintro ⟨⟨h1, h2⟩, h3⟩
      exact ⟨h1, h2, h3⟩
    · rintro ⟨h1, h2, h3⟩
      exact ⟨⟨h1, h2⟩, h3⟩
theorem gen_congr {n : Nat} : ∀ {l : List (Nat × Nat)} {q q' : Nat → Nat}, In n l → (∀ i, i < n → q i = q' i) → ∀ i, i < n → gen q l i = gen q' l i
  | [], _, _, _, h => h
  | x :: l, q, q', hl, h => by
    have hx := hl x (by simp)
    rw [gen, gen]
    exact gen_congr (fun y hy => hl y (by simp [hy])) (mg_congr h hx.1 hx.2)
theorem gen_append (q : Nat → Nat) : ∀ (l l' : List (Nat × Nat)), gen q (l ++ l') = gen (gen q l) l'
  | [], l' => rfl
  | x :: l, l' => by rw [List.cons_append, gen, gen, gen_append]
theorem id_valid (n : Nat) : Vd n id := fun _ _ => ⟨Nat.le_refl _, rfl⟩
theorem id_fi (n : Nat) (c : Nat → Nat) : Fi n id c := fun _ _ => rfl

/-! ### join and meet -/
def prs (a b : Nat → Nat) : Nat → Nat → List (Nat × Nat)
  | 0, _ => []
  | d + 1, i => (i, a i) :: (i, b i) :: prs a b d (i + 1)
theorem mem_prs {a b : Nat → Nat} {x : Nat × Nat} : ∀ {d i : Nat}, x ∈ prs a b d i ↔ ∃ j, i ≤ j ∧ j < i + d ∧ (x = (j, a j) ∨ x = (j, b j))
  | 0, i => by
    simp only [prs, List.not_mem_nil, false_iff]
    rintro ⟨j, h1, h2, _⟩
    omega
  | d + 1, i => by
    simp only [prs, List.mem_cons, mem_prs (d := d) (i := i + 1)]
    constructor
    · rintro (h | h | ⟨j, h1, h2, h3⟩)
      · exact ⟨i, Nat.le_refl _, by omega, .inl h⟩
      · exact ⟨i, Nat.le_refl _, by omega, .inr h⟩
      · exact ⟨j, by omega, by omega, h3⟩
    · rintro ⟨j, h1, h2, h3⟩
      by_cases e : j = i
      · subst e
        rcases h3 with h | h
        · exact .inl h
        · exact .inr (.inl h)
      · exact .inr (.inr ⟨j, by omega, by omega, h3⟩)
def joinPairs (n : Nat) (a b : Nat → Nat) : List (Nat × Nat) := prs a b n 0
def join (n : Nat) (a b : Nat → Nat) : Nat → Nat := gen id (joinPairs n a b)
theorem joinPairs_in {n : Nat} {a b : Nat → Nat} (ha : Dn n a) (hb : Dn n b) : In n (joinPairs n a b) := by
  intro x hx
  obtain ⟨i, _, hi, rfl | rfl⟩ := mem_prs.1 hx
  · have := ha i (by omega)
    exact ⟨by show i < n; omega, by show a i < n; omega⟩
  · have := hb i (by omega)
    exact ⟨by show i < n; omega, by show b i < n; omega⟩
theorem join_valid {n : Nat} {a b : Nat → Nat} (ha : Dn n a) (hb : Dn n b) : Vd n (join n a b) := gen_valid (id_valid n) (joinPairs_in ha hb)
theorem join_fi {n : Nat} {a b c : Nat → Nat} (ha : Dn n a) (hb : Dn n b) : Fi n (join n a b) c ↔ Fi n a c ∧ Fi n b c := by
  unfold join
  rw [gen_fi (id_valid n) (joinPairs_in ha hb)]
  constructor
  · rintro ⟨_, h⟩
    exact ⟨fun i hi => (h (i, a i) (mem_prs.2 ⟨i, by omega, by omega, .inl rfl⟩)).symm, fun i hi => (h (i, b i) (mem_prs.2 ⟨i, by omega, by omega, .inr rfl⟩)).symm⟩
  · rintro ⟨h1, h2⟩
    refine ⟨id_fi _ _, fun x hx => ?_⟩
    obtain ⟨i, _, hi, rfl | rfl⟩ := mem_prs.1 hx
    · exact (h1 i (by omega)).symm
    · exact (h2 i (by omega)).symm
/-- The least index with the same pair. -/
def meet (a b : Nat → Nat) (i : Nat) : Nat := ((List.range i).find? (fun j => a j == a i && b j == b i)).getD i
theorem meet_spec (a b : Nat → Nat) (i : Nat) : meet a b i ≤ i ∧ a (meet a b i) = a i ∧ b (meet a b i) = b i ∧ ∀ j, j < meet a b i → ¬ (a j = a i ∧ b j = b i) := by
  unfold meet
  cases h : (List.range i).find? (fun j => a j == a i && b j == b i) with
  | none =>
    simp only [Option.getD_none]
    refine ⟨Nat.le_refl i, trivial, trivial, fun j hj => ?_⟩
    have := List.find?_eq_none.1 h j (List.mem_range.2 hj)
    simpa using this
  | some j =>
    simp only [Option.getD_some]
    have h1 := List.find?_some h
    have h2 := List.mem_range.1 (List.mem_of_find?_eq_some h)
    simp only [Bool.and_eq_true, beq_iff_eq] at h1
    refine ⟨by omega, h1.1, h1.2, fun m hm => ?_⟩
    intro hh
    have h3 : (List.range i).find? (fun j => a j == a i && b j == b i) = some j := h
    rw [List.find?_range_eq_some] at h3
    have := h3.2.2 m hm
    simp [hh.1, hh.2] at this
theorem meet_eq {a b : Nat → Nat} {i j : Nat} (h0 : a j = a i) (h1 : b j = b i) : meet a b j = meet a b i := by
  have si := meet_spec a b i
  have sj := meet_spec a b j
  rcases Nat.lt_trichotomy (meet a b i) (meet a b j) with h | h | h
  · exact absurd ⟨si.2.1.trans h0.symm, si.2.2.1.trans h1.symm⟩ (sj.2.2.2 _ h)
  · exact h.symm
  · exact absurd ⟨sj.2.1.trans h0, sj.2.2.1.trans h1⟩ (si.2.2.2 _ h)
theorem meet_same {a b : Nat → Nat} {i j : Nat} : meet a b i = meet a b j ↔ a i = a j ∧ b i = b j := by
  constructor
  · intro e
    have si := meet_spec a b i
    have sj := meet_spec a b j
    rw [e] at si
    exact ⟨si.2.1.symm.trans sj.2.1, si.2.2.1.symm.trans sj.2.2.1⟩
  · rintro ⟨h0, h1⟩
    exact meet_eq h0 h1
theorem meet_valid (n : Nat) (a b : Nat → Nat) : Vd n (meet a b) := fun i _ => ⟨(meet_spec a b i).1, meet_eq (meet_spec a b i).2.1 (meet_spec a b i).2.2.1⟩
theorem meet_fi {n : Nat} {a b c : Nat → Nat} : Fi n c (meet a b) ↔ Fi n c a ∧ Fi n c b := by
  constructor
  · intro h
    exact ⟨fun i hi => (meet_same.1 (h i hi)).1, fun i hi => (meet_same.1 (h i hi)).2⟩
  · rintro ⟨h1, h2⟩ i hi
    exact meet_same.2 ⟨h1 i hi, h2 i hi⟩
theorem meet_fi_left {n : Nat} {a b : Nat → Nat} : Fi n (meet a b) a := fun i _ => (meet_spec a b i).2.1
theorem meet_fi_right {n : Nat} {a b : Nat → Nat} : Fi n (meet a b) b := fun i _ => (meet_spec a b i).2.2.1
end Go.Proofs.Ytklacpdobpkbbaa.Part
