/- The statement PartitionParts over numbers and lists alone: what pairs generate does not depend on their order, and is the join of what two parts of them generate. -/
import Derived.Test.YtjkgjlaockihaaaPure02
import Derived.Test.YtjkgjlaockihaaaPx1
import Derived.Test.YtjkgjlaockihaaaPx4
import Derived.Test.YtjkgjlaockihaaaPx5
namespace Go.Proofs.Ytjkgjlaockihaaa.Pure
open Go.RowKit Go.Proofs.Ytjkgjlaockihaaa.P Go.Proofs.YtjkgjlaockihaaaW.PrintWords Go.Proofs.YtjkgjlaockihaaaW.PrintLast
open Go.Proofs.Ytjkgjlaockihaaa.Part Go.Proofs.Ytjkgjlaockihaaa.EvAid
def sp (p : Nat × Nat) : S27 := ⟨(p.1 : Int), (p.2 : Int)⟩
theorem rd_sp {ps : List (Nat × Nat)} {i : Nat} (h : i < ps.length) : rd_T27 (ps.map sp) (i : Int) = sp ps[i] := by
  unfold rd_T27
  rw [Int.toNat_natCast, List.getD_eq_getElem?_getD, List.getElem?_map, List.getElem?_eq_getElem h]
  rfl
theorem gen_snoc (q : Nat → Nat) (l : List (Nat × Nat)) (x : Nat × Nat) : gen q (l ++ [x]) = mg (gen q l) x.1 x.2 := by
  rw [gen_append]
  rfl
theorem Generate_ev {ps : List (Nat × Nat)} (hin : In 12 ps) (hl : ps.length ≤ 1000) : Ev (fun k => partition_Generate.f k 12 (ps.map sp)) (L 12 (gen id ps), 0) := by
  have loop : ∀ d i, i + d = ps.length → ∀ f, Dn 12 f → (∀ j, j < 12 → root f j = gen id (ps.take i) j) → Ev (fun k => partition_Generate.l0 k 12 (L 12 f) (ps.map sp) (ps.length : Int) (i : Int)) (L 12 (gen id ps), 0) := by
    intro d
    induction d with
    | zero =>
      intro i hi f hf hr
      refine Ev.step (fun k => partition_Generate.l0.eq_2 ..) (neg (by omega) (Ev.bind (flat_ev hf (by omega)) ?_))
      rw [List.take_of_length_le (by omega)] at hr
      rw [L_congr hr]
      exact Ev.now _
    | succ d ih =>
      intro i hi f hf hr
      have hil : i < ps.length := by omega
      obtain ⟨h0, h1⟩ := hin ps[i] (List.getElem_mem hil)
      refine Ev.step (fun k => partition_Generate.l0.eq_2 ..) (pos (by omega) (pos (by omega) (pos (by rw [List.length_map]; omega) ?_)))
      rw [rd_sp hil]
      refine neg (by show ¬ ((ps[i].1 : Int) < 0); omega) (neg (by show ¬ ((ps[i].1 : Int) ≥ 12); omega) (neg (by show ¬ ((ps[i].2 : Int) < 0); omega) (neg (by show ¬ ((ps[i].2 : Int) ≥ 12); omega) (Ev.bind (unite_ev hf h0 h1) ?_))))
      rw [wrap_nat (by omega)]
      refine ih (i + 1) (by omega) _ (un_dn hf h0 h1) (fun j hj => ?_)
      rw [un_root hf h0 h1 j hj, List.take_succ_eq_append_getElem hil, gen_snoc]
      exact mg_congr hr h0 h1 j hj
  unfold partition_Generate.f
  refine neg (by omega) (neg (by omega) (Ev.bind (finest_ev (n := 12) (by omega)) ?_))
  rw [List.length_map]
  exact loop ps.length 0 (by omega) id (id_valid 12).dn (fun j hj => root_of_valid (id_valid 12) hj)
theorem Reverse_ev {l : List S27} (h : l.length ≤ 1000) : Ev (fun k => api_Pair.f k l) l.reverse := by
  have loop : ∀ (d i : Nat) (j : Int), (i : Int) + j = (l.length : Int) - 1 → j - i ≤ d → ∀ x0 : List S27, x0.length = l.length → (∀ m, m < l.length → x0[m]? = if m < i ∨ j < (m : Int) then l[l.length - 1 - m]? else l[m]?) → Ev (fun k => api_Pair.l0 k x0 (i : Int) j) l.reverse := by
    have fin : ∀ (i : Nat) (j : Int), (i : Int) + j = (l.length : Int) - 1 → j ≤ i → ∀ x0 : List S27, x0.length = l.length → (∀ m, m < l.length → x0[m]? = if m < i ∨ j < (m : Int) then l[l.length - 1 - m]? else l[m]?) → x0 = l.reverse := by
      intro i j hij hj x0 hx hm
      apply List.ext_getElem?
      intro m
      by_cases hml : m < l.length
      · rw [hm m hml, List.getElem?_reverse hml]
        split
        · rfl
        · congr 1
          omega
      · rw [List.getElem?_eq_none (by omega), List.getElem?_eq_none (by rw [List.length_reverse]; omega)]
    intro d
    induction d with
    | zero =>
      intro i j hij hd x0 hx hm
      refine Ev.step (fun k => api_Pair.l0.eq_2 ..) (neg (by omega) ?_)
      rw [fin i j hij (by omega) x0 hx hm]
      exact Ev.now _
    | succ d ih =>
      intro i j hij hd x0 hx hm
      by_cases hlt : (i : Int) < j
      · obtain ⟨q, rfl⟩ : ∃ q : Nat, j = (q : Int) := ⟨j.toNat, by omega⟩
        refine Ev.step (fun k => api_Pair.l0.eq_2 ..) (pos hlt (pos (by omega) (pos (by omega) (pos (by omega) (pos (by omega) ?_)))))
        rw [wrap_nat (by omega), wrap_self (x := (q : Int) - 1) (by omega) (by omega)]
        have hi : i < l.length := by omega
        have hq : q < l.length := by omega
        have ei : x0[i]? = some l[i] := by rw [hm i hi, if_neg (by omega), List.getElem?_eq_getElem hi]
        have eq : x0[q]? = some l[q] := by rw [hm q hq, if_neg (by omega), List.getElem?_eq_getElem hq]
        have ri : rd_T27 x0 (i : Int) = l[i] := by unfold rd_T27; rw [Int.toNat_natCast, List.getD_eq_getElem?_getD, ei]; rfl
        have rq : rd_T27 x0 (q : Int) = l[q] := by unfold rd_T27; rw [Int.toNat_natCast, List.getD_eq_getElem?_getD, eq]; rfl
        rw [ri, rq, Int.toNat_natCast, Int.toNat_natCast]
        refine ih (i + 1) _ (by omega) (by omega) _ (by simp [hx]) (fun m hml => ?_)
        rw [List.getElem?_set, List.getElem?_set, List.length_set]
        by_cases e1 : q = m
        · subst e1
          rw [if_pos rfl, if_pos (by omega), if_pos (by omega), show l.length - 1 - q = i by omega, List.getElem?_eq_getElem hi]
        · rw [if_neg e1]
          by_cases e2 : i = m
          · subst e2
            rw [if_pos rfl, if_pos (by omega), if_pos (by omega), show l.length - 1 - i = q by omega, List.getElem?_eq_getElem hq]
          · rw [if_neg e2, hm m hml]
            by_cases e3 : m < i ∨ (q : Int) < (m : Int)
            · rw [if_pos e3, if_pos (by omega)]
            · rw [if_neg e3, if_neg (by omega)]
      · refine Ev.step (fun k => api_Pair.l0.eq_2 ..) (neg hlt ?_)
        rw [fin i j hij (by omega) x0 hx hm]
        exact Ev.now _
  unfold api_Pair.f
  rw [wrap_self (by omega) (by omega)]
  exact loop l.length 0 _ (by omega) (by omega) l rfl (fun m hml => by rw [if_neg (by omega)])
theorem gen_join {ps qs : List (Nat × Nat)} (hp : In 12 ps) (hq : In 12 qs) : L 12 (gen id (ps ++ qs)) = L 12 (join 12 (gen id ps) (gen id qs)) := by
  have hpq : In 12 (ps ++ qs) := fun x hx => (List.mem_append.1 hx).elim (hp x) (hq x)
  have vG := gen_valid (id_valid 12) hpq
  have vp := gen_valid (id_valid 12) hp
  have vq := gen_valid (id_valid 12) hq
  have vJ := join_valid vp.dn vq.dn
  have one : Fi 12 (gen id (ps ++ qs)) (join 12 (gen id ps) (gen id qs)) := by
    obtain ⟨f1, f2⟩ := (join_fi vp.dn vq.dn).1 (Fi.refl vJ)
    have g1 := ((gen_fi (id_valid 12) hp).1 f1).2
    have g2 := ((gen_fi (id_valid 12) hq).1 f2).2
    exact (gen_fi (id_valid 12) hpq).2 ⟨id_fi _ _, fun x hx => (List.mem_append.1 hx).elim (g1 x) (g2 x)⟩
  have two : Fi 12 (join 12 (gen id ps) (gen id qs)) (gen id (ps ++ qs)) := by
    have g := ((gen_fi (id_valid 12) hpq).1 (Fi.refl vG)).2
    exact (join_fi vp.dn vq.dn).2 ⟨(gen_fi (id_valid 12) hp).2 ⟨id_fi _ _, fun x hx => g x (List.mem_append_left _ hx)⟩, (gen_fi (id_valid 12) hq).2 ⟨id_fi _ _, fun x hx => g x (List.mem_append_right _ hx)⟩⟩
  exact L_congr (Fi.anti vG.dn vJ.dn one two)
theorem gen_rev {ps : List (Nat × Nat)} (hp : In 12 ps) : L 12 (gen id ps) = L 12 (gen id ps.reverse) := by
  have hr : In 12 ps.reverse := fun x hx => hp x (List.mem_reverse.1 hx)
  have v := gen_valid (id_valid 12) hp
  have vr := gen_valid (id_valid 12) hr
  have g := ((gen_fi (id_valid 12) hp).1 (Fi.refl v)).2
  have gr := ((gen_fi (id_valid 12) hr).1 (Fi.refl vr)).2
  exact L_congr (Fi.anti v.dn vr.dn ((gen_fi (id_valid 12) hp).2 ⟨id_fi _ _, fun x hx => gr x (List.mem_reverse.2 hx)⟩) ((gen_fi (id_valid 12) hr).2 ⟨id_fi _ _, fun x hx => g x (List.mem_reverse.1 hx)⟩))
def PartsPure : Prop := ∀ (l : List S25) (a : Int), (∀ x ∈ l, (Lit.int .u8 x.f0).wf = true ∧ (Lit.int .u8 x.f1).wf = true) → (Lit.int .u8 a).wf = true → ∃ k, scarfjointlaw02_PartitionParts.f k l a = some true
def pr (x : S25) : Nat × Nat := (x.f0.toNat % 12, x.f1.toNat % 12)
theorem wf_u8 {x : Int} (h : (Lit.int .u8 x).wf = true) : 0 ≤ x ∧ x ≤ 255 := by
  have h' : IntKind.u8.min ≤ x ∧ x ≤ IntKind.u8.max := by simpa [Lit.wf] using h
  have e1 : IntKind.u8.min = 0 := by decide
  have e2 : IntKind.u8.max = 255 := by decide
  omega
theorem rem12 {x : Int} (h0 : 0 ≤ x) (h : x ≤ 255) : wrap64 (Int.tmod x 12) = ((x.toNat % 12 : Nat) : Int) := by
  rw [Int.tmod_eq_emod_of_nonneg h0, wrap_self (by omega) (by omega)]
  omega
theorem PartitionParts : PartsPure := by
  intro l a hl ha
  refine Ev.rounds ?_
  obtain ⟨a0, a1⟩ := wf_u8 ha
  have jt : Ev (fun k => scarfjointlaw02_PartitionParts.j0 k l a true) true := Ev.step (fun k => scarfjointlaw02_PartitionParts.j0.eq_2 ..) (pos rfl (Ev.bind awake_ev (Ev.now _)))
  have hin : In 12 (l.map pr) := by
    intro x hx
    obtain ⟨y, _, rfl⟩ := List.mem_map.1 hx
    exact ⟨Nat.mod_lt _ (by omega), Nat.mod_lt _ (by omega)⟩
  have body : l.length ≤ 30 → Ev (fun k => scarfjointlaw02_PartitionParts.l0 k a ((l.map pr).map sp) l (l.length : Int) (l.length : Int)) true := by
    intro hlen
    generalize hps : l.map pr = ps at hin
    have hpl : ps.length = l.length := by rw [← hps, List.length_map]
    obtain ⟨c, hc, ec⟩ : ∃ c : Nat, c ≤ ps.length ∧ Int.tmod (wrap64 a) (wrap64 (((ps.map sp).length : Int) + 1)) = (c : Int) := by
      refine ⟨a.toNat % (ps.length + 1), by have := Nat.mod_lt a.toNat (show ps.length + 1 > 0 by omega); omega, ?_⟩
      rw [List.length_map, wrap_self (x := a) (by omega) (by omega), wrap_nat (by omega), Int.tmod_eq_emod_of_nonneg a0]
      have : a = (a.toNat : Int) := by omega
      rw [this, Int.toNat_natCast]
      exact (Int.natCast_emod _ _).symm
    have it : In 12 (ps.take c) := fun x hx => hin x (List.mem_of_mem_take hx)
    have id_ : In 12 (ps.drop c) := fun x hx => hin x (List.mem_of_mem_drop hx)
    have ir : In 12 ps.reverse := fun x hx => hin x (List.mem_reverse.1 hx)
    have r1 := Generate_ev hin (by omega)
    have r2 := Generate_ev it (by rw [List.length_take]; omega)
    have r3 := Generate_ev id_ (by rw [List.length_drop]; omega)
    have r4 := Generate_ev ir (by rw [List.length_reverse]; omega)
    have r5 := Join_ev (n := 12) (by omega) (gen_valid (id_valid 12) it) (gen_valid (id_valid 12) id_)
    have r6 := Reverse_ev (l := ps.map sp) (by rw [List.length_map]; omega)
    rw [← List.map_reverse] at r6
    have e1 := gen_join it id_
    rw [List.take_append_drop] at e1
    have e2 := gen_rev hin
    refine Ev.step (fun k => scarfjointlaw02_PartitionParts.l0.eq_2 ..) (neg (by omega) (neg (by rw [List.length_map, wrap_nat (by omega)]; omega) (Ev.bind r1 ?_)))
    rw [ec, Int.toNat_natCast, ← List.map_take, ← List.map_drop]
    refine pos (by omega) (pos (by rw [List.length_map]; omega) (Ev.bind r2 (Ev.bind r3 (Ev.bind r5 (Ev.bind r6 (Ev.bind r4 (pos rfl (pos rfl (pos rfl (pos rfl (pos rfl (pos (by rw [L_len]; rfl) (Ev.bind (Equal_ev (by rw [L_len]; omega)) (pos (decide_eq_true e1) (Ev.bind (Equal_ev (by rw [L_len]; omega)) ?_)))))))))))))))
    rw [decide_eq_true e2]
    exact Ev.now _
  have loop : l.length ≤ 30 → ∀ d i, i + d = l.length → Ev (fun k => scarfjointlaw02_PartitionParts.l0 k a (((l.take i).map pr).map sp) l (l.length : Int) (i : Int)) true := by
    intro hlen d
    induction d with
    | zero =>
      intro i hi
      obtain rfl : i = l.length := by omega
      rw [List.take_length]
      exact body hlen
    | succ d ih =>
      intro i hi
      have hil : i < l.length := by omega
      refine Ev.step (fun k => scarfjointlaw02_PartitionParts.l0.eq_2 ..) (pos (by omega) (pos (by omega) (pos (by omega) (pos (by simp only [List.length_map, List.length_take]; omega) ?_))))
      have h := ih (i + 1) (by omega)
      have er : rd_T25 l (i : Int) = l[i] := by unfold rd_T25; rw [Int.toNat_natCast, List.getD_eq_getElem?_getD, List.getElem?_eq_getElem hil]; rfl
      obtain ⟨w0, w1⟩ := hl l[i] (List.getElem_mem hil)
      rw [er, rem12 (wf_u8 w0).1 (wf_u8 w0).2, rem12 (wf_u8 w1).1 (wf_u8 w1).2, wrap_nat (by omega)]
      rw [List.take_succ_eq_append_getElem hil, List.map_append, List.map_append] at h
      exact h
  have jf : l.length ≤ 30 → Ev (fun k => scarfjointlaw02_PartitionParts.j0 k l a false) true := by
    intro hlen
    exact Ev.step (fun k => scarfjointlaw02_PartitionParts.j0.eq_2 ..) (neg (by simp) (loop hlen l.length 0 (by omega)))
  unfold scarfjointlaw02_PartitionParts.f
  refine Ev.bind awake_ev (pos rfl ?_)
  by_cases h1 : l.length > 30
  · rw [show decide ((l.length : Int) > 30) = true from decide_eq_true (by omega)]
    exact jt
  · rw [show decide ((l.length : Int) > 30) = false from decide_eq_false (by omega)]
    exact jf (by omega)
end Go.Proofs.Ytjkgjlaockihaaa.Pure
