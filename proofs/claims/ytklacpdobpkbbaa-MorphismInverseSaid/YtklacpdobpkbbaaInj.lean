/- Injective and Surjective: the program counts the images, the reference looks for two equal ones, for one that is not met. -/
import Derived.Test.YtklacpdobpkbbaaMor
import Derived.Test.YtklacpdobpkbbaaPx15
import Derived.Test.YtklacpdobpkbbaaPx9
namespace Go.Proofs.Ytklacpdobpkbbaa.P
open Go.RowKit Go.Proofs.YtklacpdobpkbbaaW.PrintWords Go.Proofs.YtklacpdobpkbbaaW.PrintLast Go.Proofs.YtklacpdobpkbbaaW.PrintMore
open Go.Proofs.Ytklacpdobpkbbaa.Part Go.Proofs.Ytklacpdobpkbbaa.EvAid Go.Proofs.Ytklacpdobpkbbaa.Gr
theorem dcnt_le : ∀ l : List Int, dcnt l ≤ l.length
  | [] => Nat.le_refl _
  | x :: l => by
    have := dcnt_le l
    unfold dcnt
    rw [List.length_cons]
    split <;> omega
theorem dcnt_iff : ∀ l : List Int, dcnt l = l.length ↔ l.Nodup
  | [] => ⟨fun _ => List.nodup_nil, fun _ => rfl⟩
  | x :: l => by
    have h1 := dcnt_le l
    have h2 := dcnt_iff l
    unfold dcnt
    rw [List.length_cons, List.nodup_cons]
    by_cases hx : x ∈ l
    · rw [if_pos (by simpa using hx)]
      exact ⟨fun h => by omega, fun h => absurd hx h.1⟩
    · rw [if_neg (by simpa using hx)]
      exact ⟨fun h => ⟨hx, h2.1 (by omega)⟩, fun h => by rw [h2.2 h.2]; omega⟩
theorem dcnt_cover {l : List Int} {n : Nat} (h : ∀ x ∈ l, 0 ≤ x ∧ x < (n : Int)) : dcnt l = n ↔ ∀ c : Nat, c < n → (c : Int) ∈ l := by
  have hu : (((List.range n).filter fun c : Nat => l.contains (c : Int)).map fun c : Nat => (c : Int)).length = dcnt l := dcnt_nodup
    (List.pairwise_map.2 ((List.nodup_range.filter _).imp (fun h e => h (by omega)))) (fun x => by
      simp only [List.mem_map, List.mem_filter, List.mem_range, List.contains_iff_mem]
      constructor
      · rintro ⟨c, ⟨_, h2⟩, rfl⟩
        exact h2
      · intro hx
        obtain ⟨h1, h2⟩ := h x hx
        exact ⟨x.toNat, ⟨by omega, by rw [Int.toNat_of_nonneg h1]; exact hx⟩, Int.toNat_of_nonneg h1⟩)
  rw [← hu, List.length_map]
  have hl : (List.range n).length = n := List.length_range
  constructor
  · intro h1 c hc
    have := List.length_filter_eq_length_iff.1 (h1.trans hl.symm) c (List.mem_range.2 hc)
    simpa using this
  · intro h1
    rw [List.length_filter_eq_length_iff.2 (fun c hc => by simpa using h1 c (List.mem_range.1 hc)), hl]
theorem rd_mem {l : List Int} {i : Nat} (h : i < l.length) : rd l (i : Int) ∈ l := by
  unfold rd
  rw [Int.toNat_natCast, List.getD_eq_getElem?_getD, List.getElem?_eq_getElem h]
  exact List.getElem_mem h
theorem rd_at {l : List Int} {i : Nat} (h : i < l.length) : rd l (i : Int) = l[i] := by
  unfold rd
  rw [Int.toNat_natCast, List.getD_eq_getElem?_getD, List.getElem?_eq_getElem h]
  rfl
theorem Distinct_ev {l : List Int} (hl : l.length ≤ 1000) : Ev (fun k => scarfjointref06_Distinct.f k l) (decide l.Nodup) := by
  have loop : ∀ d i, i + d = l.length → (l.take i).Nodup → Ev (fun k => scarfjointref06_Distinct.l0 k l (i : Int)) (decide l.Nodup) := by
    intro d
    induction d with
    | zero =>
      intro i hi hn
      rw [List.take_of_length_le (by omega)] at hn
      rw [decide_eq_true hn]
      exact Ev.step (fun k => scarfjointref06_Distinct.l0.eq_2 ..) (neg (by omega) (Ev.now _))
    | succ d ih =>
      intro i hi hn
      have hil : i < l.length := by omega
      have inner : ∀ b p, p + b = i → (∀ q : Nat, q < p → rd l (i : Int) ≠ rd l (q : Int)) → Ev (fun k => scarfjointref06_Distinct.l1 k l (i : Int) (p : Int)) (decide l.Nodup) := by
        intro b
        induction b with
        | zero =>
          intro p hp hq
          refine Ev.step (fun k => scarfjointref06_Distinct.l1.eq_2 ..) (neg (by omega) ?_)
          rw [wrap_nat (by omega)]
          refine ih (i + 1) (by omega) ?_
          rw [List.take_succ_eq_append_getElem hil]
          refine List.nodup_append.2 ⟨hn, by simp, fun x hx y hy e => ?_⟩
          rw [List.mem_singleton] at hy
          obtain ⟨q, hql, hqe⟩ := List.getElem_of_mem hx
          rw [List.length_take] at hql
          rw [List.getElem_take] at hqe
          refine hq q (by omega) ?_
          rw [rd_at hil, rd_at (show q < l.length by omega), hqe, e, hy]
        | succ b ihb =>
          intro p hp hq
          refine Ev.step (fun k => scarfjointref06_Distinct.l1.eq_2 ..) (pos (by omega) (pos (by omega) (pos (by omega) (pos (by omega) (pos (by omega) ?_)))))
          by_cases e : rd l (i : Int) = rd l (p : Int)
          · refine pos e ?_
            rw [decide_eq_false]
            · exact Ev.now _
            · intro h
              have := (List.pairwise_iff_getElem.1 h) p i (by omega) hil (by omega)
              rw [rd_at hil, rd_at (show p < l.length by omega)] at e
              exact this e.symm
          · refine neg e ?_
            rw [wrap_nat (by omega)]
            refine ihb (p + 1) (by omega) (fun q hq2 => ?_)
            by_cases eq : q = p
            · subst eq
              exact e
            · exact hq q (by omega)
      refine Ev.step (fun k => scarfjointref06_Distinct.l0.eq_2 ..) (pos (by omega) ?_)
      exact inner i 0 (by omega) (fun q hq => absurd hq (Nat.not_lt_zero q))
  unfold scarfjointref06_Distinct.f
  exact loop l.length 0 (by omega) (by simp)
theorem Covers_ev {l : List Int} {n : Nat} (hl : l.length ≤ 1000) (hn : n ≤ 1000) : Ev (fun k => scarfjointref06_Covers.f k l (n : Int)) (decide (∀ c : Nat, c < n → (c : Int) ∈ l)) := by
  have loop : ∀ d i, i + d = n → (∀ c : Nat, c < i → (c : Int) ∈ l) → Ev (fun k => scarfjointref06_Covers.l0 k l (n : Int) (i : Int)) (decide (∀ c : Nat, c < n → (c : Int) ∈ l)) := by
    intro d
    induction d with
    | zero =>
      intro i hi hc
      rw [decide_eq_true (fun c h => hc c (by omega))]
      exact Ev.step (fun k => scarfjointref06_Covers.l0.eq_2 ..) (neg (by omega) (Ev.now _))
    | succ d ih =>
      intro i hi hc
      have inner : ∀ b p, p + b = l.length → ∀ t : Bool, (t = true ↔ ∃ q : Nat, q < p ∧ rd l (q : Int) = (i : Int)) → Ev (fun k => scarfjointref06_Covers.l1 k l (n : Int) (i : Int) t (p : Int)) (decide (∀ c : Nat, c < n → (c : Int) ∈ l)) := by
        intro b
        induction b with
        | zero =>
          intro p hp t ht
          refine Ev.step (fun k => scarfjointref06_Covers.l1.eq_2 ..) (neg (by omega) ?_)
          cases t with
          | true =>
            refine pos rfl ?_
            rw [wrap_nat (by omega)]
            refine ih (i + 1) (by omega) (fun c hc2 => ?_)
            by_cases e : c = i
            · subst e
              obtain ⟨q, hq, e⟩ := ht.1 rfl
              rw [← e]
              exact rd_mem (by omega)
            · exact hc c (by omega)
          | false =>
            refine neg (by simp) ?_
            rw [decide_eq_false]
            · exact Ev.now _
            · intro h
              obtain ⟨q, hq, e⟩ := List.getElem_of_mem (h i (by omega))
              have := ht.2 ⟨q, by omega, by rw [rd_at hq]; exact e⟩
              cases this
        | succ b ihb =>
          intro p hp t ht
          refine Ev.step (fun k => scarfjointref06_Covers.l1.eq_2 ..) (pos (by omega) ?_)
          cases t with
          | true =>
            refine pos rfl ?_
            rw [wrap_nat (by omega)]
            refine ihb (p + 1) (by omega) true ⟨fun _ => ?_, fun _ => rfl⟩
            obtain ⟨q, hq, e⟩ := ht.1 rfl
            exact ⟨q, by omega, e⟩
          | false =>
            refine neg (by simp) (pos (by omega) ?_)
            rw [wrap_nat (by omega)]
            refine ihb (p + 1) (by omega) _ ⟨fun h => ⟨p, by omega, by simpa using h⟩, ?_⟩
            rintro ⟨q, hq, e⟩
            by_cases eq : q = p
            · subst eq
              simpa using e
            · have := ht.2 ⟨q, by omega, e⟩
              cases this
      refine Ev.step (fun k => scarfjointref06_Covers.l0.eq_2 ..) (pos (by omega) ?_)
      exact inner l.length 0 (by omega) false ⟨fun h => (by cases h), fun ⟨q, hq, _⟩ => absurd hq (Nat.not_lt_zero q)⟩
  unfold scarfjointref06_Covers.f
  exact loop n 0 (by omega) (fun c hc => absurd hc (Nat.not_lt_zero c))
theorem images_ev {l : List Int} (hl : l.length ≤ 1000) : Ev (fun _ => morphism_images.f l) (dcnt l : Int) := ⟨0, fun _ _ => by unfold morphism_images.f; exact if_pos (by omega)⟩
/-- What is injective, surjective. -/
def InjP (aN : List Int) (aE : List S65) (bN : List Int) (bE : List S65) (mN mE : List Int) : Prop := VM aN aE bN bE mN mE ∧ mN.Nodup ∧ mE.Nodup
def SurP (aN : List Int) (aE : List S65) (bN : List Int) (bE : List S65) (mN mE : List Int) : Prop := VM aN aE bN bE mN mE ∧ (∀ c : Nat, c < bN.length → (c : Int) ∈ mN) ∧ ∀ c : Nat, c < bE.length → (c : Int) ∈ mE
theorem VM.in0 {aN : List Int} {aE : List S65} {bN : List Int} {bE : List S65} {mN mE : List Int} (h : VM aN aE bN bE mN mE) : ∀ x ∈ mN, 0 ≤ x ∧ x < (bN.length : Int) := fun x hx => by
  obtain ⟨i, hi, rfl⟩ := List.getElem_of_mem hx
  have h1 := h.n i (by rw [← h.ln]; exact hi)
  rw [← rd_at hi]
  exact ⟨h1.1, h1.2.1⟩
theorem VM.in1 {aN : List Int} {aE : List S65} {bN : List Int} {bE : List S65} {mN mE : List Int} (h : VM aN aE bN bE mN mE) : ∀ x ∈ mE, 0 ≤ x ∧ x < (bE.length : Int) := fun x hx => by
  obtain ⟨i, hi, rfl⟩ := List.getElem_of_mem hx
  have h1 := h.e i (by rw [← h.le]; exact hi)
  rw [← rd_at hi]
  exact ⟨h1.1, h1.2.1⟩
open Classical in
theorem Injective_ev (aN : List Int) (aE : List S65) (bN : List Int) (bE : List S65) (mN mE : List Int) : Ev (fun k => morphism_Injective.f k aN aE bN bE mN mE) (decide (InjP aN aE bN bE mN mE)) ∧ Ev (fun k => scarfjointref06_Injective.f k aN aE bN bE mN mE) (decide (InjP aN aE bN bE mN mE)) := by
  obtain ⟨e, h1, h2, h3⟩ := mValid aN aE bN bE mN mE
  unfold morphism_Injective.f scarfjointref06_Injective.f
  by_cases c : e = 0
  case neg =>
    rw [decide_eq_false (fun h => c (h3.2 h.1))]
    exact ⟨Ev.bind h1 (neg c (Ev.now _)), Ev.bind h2 (neg c (Ev.now _))⟩
  have v := h3.1 c
  obtain ⟨l1, l2, l3, l4⟩ := v.lens
  have n1 : mN.length ≤ 1000 := by have := v.ln; omega
  have n2 : mE.length ≤ 1000 := by have := v.le; omega
  by_cases dn : mN.Nodup
  case neg =>
    rw [decide_eq_false (fun h => dn h.2.1)]
    exact ⟨Ev.bind h1 (pos c (Ev.bind (images_ev n1) (neg (fun h => dn ((dcnt_iff mN).1 (by omega))) (Ev.now _)))), Ev.bind h2 (pos c (Ev.bind (Distinct_ev n1) (neg (by simp [dn]) (Ev.now _))))⟩
  have hd : (dcnt mN : Int) = (mN.length : Int) := by rw [(dcnt_iff mN).2 dn]
  have e1 : decide (InjP aN aE bN bE mN mE) = decide mE.Nodup := decide_eq_decide.2 ⟨fun h => h.2.2, fun h => ⟨v, dn, h⟩⟩
  have e2 : ((dcnt mE : Int) == (mE.length : Int)) = decide mE.Nodup := by
    rw [Bool.eq_iff_iff, beq_iff_eq, decide_eq_true_eq, ← dcnt_iff mE]
    omega
  rw [e1]
  refine ⟨Ev.bind h1 (pos c (Ev.bind (images_ev n1) (pos hd (Ev.bind (images_ev n2) ?_)))), Ev.bind h2 (pos c (Ev.bind (Distinct_ev n1) (pos (decide_eq_true dn) (Ev.bind (Distinct_ev n2) (Ev.now _)))))⟩
  rw [e2]
  exact Ev.now _
open Classical in
theorem Surjective_ev (aN : List Int) (aE : List S65) (bN : List Int) (bE : List S65) (mN mE : List Int) : Ev (fun k => morphism_Surjective.f k aN aE bN bE mN mE) (decide (SurP aN aE bN bE mN mE)) ∧ Ev (fun k => scarfjointref06_Surjective.f k aN aE bN bE mN mE) (decide (SurP aN aE bN bE mN mE)) := by
  obtain ⟨e, h1, h2, h3⟩ := mValid aN aE bN bE mN mE
  unfold morphism_Surjective.f scarfjointref06_Surjective.f
  by_cases c : e = 0
  case neg =>
    rw [decide_eq_false (fun h => c (h3.2 h.1))]
    exact ⟨Ev.bind h1 (neg c (Ev.now _)), Ev.bind h2 (neg c (Ev.now _))⟩
  have v := h3.1 c
  obtain ⟨l1, l2, l3, l4⟩ := v.lens
  have n1 : mN.length ≤ 1000 := by have := v.ln; omega
  have n2 : mE.length ≤ 1000 := by have := v.le; omega
  by_cases dn : ∀ c : Nat, c < bN.length → (c : Int) ∈ mN
  case neg =>
    rw [decide_eq_false (fun h => dn h.2.1)]
    exact ⟨Ev.bind h1 (pos c (Ev.bind (images_ev n1) (neg (fun h => dn ((dcnt_cover v.in0).1 (by omega))) (Ev.now _)))), Ev.bind h2 (pos c (Ev.bind (Covers_ev n1 (by omega)) (neg (fun h => dn (of_decide_eq_true h)) (Ev.now _))))⟩
  have hd : (dcnt mN : Int) = (bN.length : Int) := by rw [(dcnt_cover v.in0).2 dn]
  have e1 : decide (SurP aN aE bN bE mN mE) = decide (∀ c : Nat, c < bE.length → (c : Int) ∈ mE) := decide_eq_decide.2 ⟨fun h => h.2.2, fun h => ⟨v, dn, h⟩⟩
  have e2 : ((dcnt mE : Int) == (bE.length : Int)) = decide (∀ c : Nat, c < bE.length → (c : Int) ∈ mE) := by
    rw [Bool.eq_iff_iff, beq_iff_eq, decide_eq_true_eq, ← dcnt_cover v.in1]
    omega
  rw [e1]
  refine ⟨Ev.bind h1 (pos c (Ev.bind (images_ev n1) (pos hd (Ev.bind (images_ev n2) ?_)))), Ev.bind h2 (pos c (Ev.bind (Covers_ev n1 (by omega)) (pos (decide_eq_true dn) (Ev.bind (Covers_ev n2 (by omega)) ?_))))⟩
  · rw [e2]
    exact Ev.now _
  · rw [show (decide (∀ c : Nat, c < bE.length → (c : Int) ∈ mE)) = decide (∀ c : Nat, c < bE.length → (c : Int) ∈ mE) from rfl]
    exact Ev.congr (fun _ => by congr) (Ev.now _)
end Go.Proofs.Ytklacpdobpkbbaa.P
