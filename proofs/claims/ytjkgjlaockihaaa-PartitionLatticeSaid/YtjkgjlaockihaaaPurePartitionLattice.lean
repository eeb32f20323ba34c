/- The statement PartitionLattice over numbers and lists alone: join and meet commute, associate and absorb one another; being finer both ways is being equal. -/
import Derived.Test.YtjkgjlaockihaaaPure02
import Derived.Test.YtjkgjlaockihaaaPx10
namespace Go.Proofs.Ytjkgjlaockihaaa.Pure
open Go.RowKit Go.Proofs.Ytjkgjlaockihaaa.P Go.Proofs.YtjkgjlaockihaaaW.PrintWords Go.Proofs.YtjkgjlaockihaaaW.PrintLast
open Go.Proofs.YtjkgjlaockihaaaW.PrintMore
open Go.Proofs.Ytjkgjlaockihaaa.Part Go.Proofs.Ytjkgjlaockihaaa.EvAid
namespace Lat
variable {n : Nat} {a b c : Nat → Nat}
theorem join_comm (va : Vd n a) (vb : Vd n b) : L n (join n a b) = L n (join n b a) := by
  have v1 := join_valid va.dn vb.dn
  have v2 := join_valid vb.dn va.dn
  refine L_congr (Fi.anti v1.dn v2.dn ?_ ?_)
  · have h := (join_fi vb.dn va.dn).1 (Fi.refl v2)
    exact (join_fi va.dn vb.dn).2 ⟨h.2, h.1⟩
  · have h := (join_fi va.dn vb.dn).1 (Fi.refl v1)
    exact (join_fi vb.dn va.dn).2 ⟨h.2, h.1⟩
theorem join_assoc (va : Vd n a) (vb : Vd n b) (vc : Vd n c) : L n (join n (join n a b) c) = L n (join n a (join n b c)) := by
  have ab := join_valid va.dn vb.dn
  have bc := join_valid vb.dn vc.dn
  have v1 := join_valid ab.dn vc.dn
  have v2 := join_valid va.dn bc.dn
  refine L_congr (Fi.anti v1.dn v2.dn ?_ ?_)
  · have h := (join_fi va.dn bc.dn).1 (Fi.refl v2)
    have g := (join_fi vb.dn vc.dn).1 h.2
    exact (join_fi ab.dn vc.dn).2 ⟨(join_fi va.dn vb.dn).2 ⟨h.1, g.1⟩, g.2⟩
  · have h := (join_fi ab.dn vc.dn).1 (Fi.refl v1)
    have g := (join_fi va.dn vb.dn).1 h.1
    exact (join_fi va.dn bc.dn).2 ⟨g.1, (join_fi vb.dn vc.dn).2 ⟨g.2, h.2⟩⟩
theorem meet_comm : L n (meet a b) = L n (meet b a) := by
  have v1 := meet_valid n a b
  have v2 := meet_valid n b a
  exact L_congr (Fi.anti v1.dn v2.dn (meet_fi.2 ⟨meet_fi_right, meet_fi_left⟩) (meet_fi.2 ⟨meet_fi_right, meet_fi_left⟩))
theorem meet_assoc : L n (meet (meet a b) c) = L n (meet a (meet b c)) := by
  have v1 := meet_valid n (meet a b) c
  have v2 := meet_valid n a (meet b c)
  have ab := meet_valid n a b
  have bc := meet_valid n b c
  refine L_congr (Fi.anti v1.dn v2.dn ?_ ?_)
  · have h : Fi n (meet (meet a b) c) (meet a b) := meet_fi_left
    exact meet_fi.2 ⟨Fi.trans v1.dn h meet_fi_left, meet_fi.2 ⟨Fi.trans v1.dn h meet_fi_right, meet_fi_right⟩⟩
  · have h : Fi n (meet a (meet b c)) (meet b c) := meet_fi_right
    exact meet_fi.2 ⟨meet_fi.2 ⟨meet_fi_left, Fi.trans v2.dn h meet_fi_left⟩, Fi.trans v2.dn h meet_fi_right⟩
theorem meet_join (va : Vd n a) (vb : Vd n b) : L n (meet a (join n a b)) = L n a := by
  have vj := join_valid va.dn vb.dn
  have v := meet_valid n a (join n a b)
  have h := (join_fi va.dn vb.dn).1 (Fi.refl vj)
  exact L_congr (Fi.anti v.dn va.dn meet_fi_left (meet_fi.2 ⟨Fi.refl va, h.1⟩))
theorem join_meet (va : Vd n a) : L n (join n a (meet a b)) = L n a := by
  have vm := meet_valid n a b
  have vj := join_valid va.dn vm.dn
  have h := (join_fi va.dn vm.dn).1 (Fi.refl vj)
  exact L_congr (Fi.anti vj.dn va.dn ((join_fi va.dn vm.dn).2 ⟨Fi.refl va, meet_fi_left⟩) h.1)
theorem both (va : Vd n a) (vb : Vd n b) : (L n a = L n b) ↔ (Fi n a b ∧ Fi n b a) := by
  constructor
  · intro e
    have h := L_inj e
    refine ⟨fun i hi => ?_, fun i hi => ?_⟩
    · have v := vb i hi
      rw [h i hi]
      exact v.2
    · have v := va i hi
      rw [← h i hi]
      exact v.2
  · rintro ⟨h1, h2⟩
    exact L_congr (Fi.anti va.dn vb.dn h1 h2)
end Lat
theorem wf_take' {l : List Int} {n : Nat} (h : ∀ x ∈ l, (Lit.int .u8 x).wf = true) : ∀ x ∈ l.take n, (Lit.int .u8 x).wf = true := fun x hx => h x (List.mem_of_mem_take hx)
theorem PartitionLattice : scarfjointlaw02_PartitionLattice.Pure := by
  intro l0 l1 l2 _ _ w0 _ _ w1 _ _ w2
  refine Ev.rounds ?_
  unfold scarfjointlaw02_PartitionLattice.f
  refine Ev.bind awake_ev (pos rfl ?_)
  rw [mn_nat, mn_nat]
  obtain ⟨n, hn⟩ : ∃ n, min (min l0.length l1.length) l2.length = n := ⟨_, rfl⟩
  rw [hn, Int.toNat_natCast]
  have t0 : (l0.take n).length = n := by rw [List.length_take]; omega
  have t1 : (l1.take n).length = n := by rw [List.length_take]; omega
  have t2 : (l2.take n).length = n := by rw [List.length_take]; omega
  obtain ⟨a, va, ea⟩ := Made_ev (wf_take' (n := n) w0)
  obtain ⟨b, vb, eb⟩ := Made_ev (wf_take' (n := n) w1)
  obtain ⟨c, vc, ec⟩ := Made_ev (wf_take' (n := n) w2)
  rw [t0] at va ea
  rw [t1] at vb eb
  rw [t2] at vc ec
  obtain ⟨m, hm⟩ : ∃ m, min n 12 = m := ⟨_, rfl⟩
  rw [hm] at va ea vb eb vc ec
  have hm80 : m ≤ 80 := by omega
  have vab := join_valid va.dn vb.dn
  have vbc := join_valid vb.dn vc.dn
  have mab := meet_valid m a b
  have mbc := meet_valid m b c
  have eq : ∀ {x y : List Int}, x.length = m → x = y → Ev (fun k => slices_Equal_int_int.f k x y) true := by
    intro x y hx h
    have e := Equal_ev (a := x) (b := y) (by omega)
    rw [decide_eq_true h] at e
    exact e
  refine pos (by omega) (pos (by omega) (Ev.bind ea (pos (by omega) (Ev.bind eb (pos (by omega) (Ev.bind ec ?_))))))
  refine Ev.bind (Join_ev hm80 va vb) (Ev.bind (Join_ev hm80 vb va) (Ev.bind (Join_ev hm80 vb vc) (Ev.bind (Join_ev hm80 vab vc) (Ev.bind (Join_ev hm80 va vbc) ?_))))
  refine pos rfl (pos rfl (pos rfl (pos rfl (pos rfl (Ev.bind (eq (L_len _ _) (Lat.join_comm va vb)) (pos rfl (Ev.bind (eq (L_len _ _) (Lat.join_assoc va vb vc)) ?_)))))))
  refine Ev.step (fun k => scarfjointlaw02_PartitionLattice.j0.eq_2 ..) (neg (by simp) ?_)
  refine Ev.bind (Meet_ev hm80 va vb) (Ev.bind (Meet_ev hm80 vb va) (Ev.bind (Meet_ev hm80 mab vc) (Ev.bind (Meet_ev hm80 vb vc) (Ev.bind (Meet_ev hm80 va mbc) ?_))))
  refine pos rfl (pos rfl (pos rfl (pos rfl (pos rfl (Ev.bind (eq (L_len _ _) Lat.meet_comm) (pos rfl (Ev.bind (eq (L_len _ _) Lat.meet_assoc) ?_)))))))
  refine Ev.step (fun k => scarfjointlaw02_PartitionLattice.j1.eq_2 ..) (neg (by simp) ?_)
  refine Ev.bind (Meet_ev hm80 va vab) (Ev.bind (Join_ev hm80 va mab) (pos rfl (pos rfl (Ev.bind (eq (L_len _ _) (Lat.meet_join va vb)) (pos rfl (Ev.bind (eq (L_len _ _) (Lat.join_meet va)) (pos rfl (Ev.bind (Finer_ev hm80 va vb) ?_))))))))
  have e3 := Equal_ev (a := L m a) (b := L m b) (by rw [L_len]; omega)
  by_cases h1 : fiB m a b = true
  · refine pos h1 (Ev.bind (Finer_ev hm80 vb va) (Ev.bind e3 ?_))
    have : (fiB m b a == decide (L m a = L m b)) = true := by
      rw [beq_iff_eq, Bool.eq_iff_iff, decide_eq_true_iff, Lat.both va vb, fiB_iff]
      exact ⟨fun h => ⟨fiB_iff.1 h1, h⟩, fun h => h.2⟩
    rw [this]
    exact Ev.now _
  · refine neg h1 (Ev.bind e3 ?_)
    have : (false == decide (L m a = L m b)) = true := by
      rw [decide_eq_false (fun h => h1 (fiB_iff.2 ((Lat.both va vb).1 h).1))]
      rfl
    rw [this]
    exact Ev.now _
end Go.Proofs.Ytjkgjlaockihaaa.Pure
