/- The statement PartitionBounds over numbers and lists alone: the join is the least coarser partition, the meet the greatest finer one. -/
import Derived.Test.YtjkgjlaockihaaaPure02
import Derived.Test.YtjkgjlaockihaaaPx7
namespace Go.Proofs.Ytjkgjlaockihaaa.Pure
open Go.RowKit Go.Proofs.Ytjkgjlaockihaaa.P Go.Proofs.YtjkgjlaockihaaaW.PrintWords Go.Proofs.YtjkgjlaockihaaaW.PrintLast
open Go.Proofs.YtjkgjlaockihaaaW.PrintMore
open Go.Proofs.Ytjkgjlaockihaaa.Part Go.Proofs.Ytjkgjlaockihaaa.EvAid
theorem fi_yes {n : Nat} {f g : Nat → Nat} (h : Fi n f g) : fiB n f g = true := fiB_iff.2 h
theorem wf_take {l : List Int} {n : Nat} (h : ∀ x ∈ l, (Lit.int .u8 x).wf = true) : ∀ x ∈ l.take n, (Lit.int .u8 x).wf = true := fun x hx => h x (List.mem_of_mem_take hx)
theorem PartitionBounds : scarfjointlaw02_PartitionBounds.Pure := by
  intro l0 l1 l2 _ _ w0 _ _ w1 _ _ w2
  refine Ev.rounds ?_
  unfold scarfjointlaw02_PartitionBounds.f
  refine Ev.bind awake_ev (pos rfl ?_)
  rw [mn_nat, mn_nat]
  obtain ⟨n, hn⟩ : ∃ n, min (min l0.length l1.length) l2.length = n := ⟨_, rfl⟩
  rw [hn, Int.toNat_natCast]
  have t0 : (l0.take n).length = n := by rw [List.length_take]; omega
  have t1 : (l1.take n).length = n := by rw [List.length_take]; omega
  have t2 : (l2.take n).length = n := by rw [List.length_take]; omega
  obtain ⟨a, va, ea⟩ := Made_ev (wf_take (n := n) w0)
  obtain ⟨b, vb, eb⟩ := Made_ev (wf_take (n := n) w1)
  obtain ⟨c, vc, ec⟩ := Made_ev (wf_take (n := n) w2)
  rw [t0] at va ea
  rw [t1] at vb eb
  rw [t2] at vc ec
  obtain ⟨m, hm⟩ : ∃ m, min n 12 = m := ⟨_, rfl⟩
  rw [hm] at va ea vb eb vc ec
  have hm80 : m ≤ 80 := by omega
  have vj := join_valid va.dn vb.dn
  have vm := meet_valid m a b
  have jj : ∀ e, Fi m (join m a b) e ↔ Fi m a e ∧ Fi m b e := fun e => join_fi va.dn vb.dn
  have ab := (jj (join m a b)).1 (Fi.refl vj)
  refine pos (by omega) (pos (by omega) (Ev.bind ea (pos (by omega) (Ev.bind eb (pos (by omega) (Ev.bind ec ?_))))))
  refine Ev.bind (Join_ev hm80 va vb) (Ev.bind (Meet_ev hm80 va vb) (pos rfl (pos rfl ?_)))
  refine Ev.bind (Finer_ev hm80 va vj) (pos (fi_yes ab.1) (Ev.bind (Finer_ev hm80 vb vj) (pos (fi_yes ab.2) ?_)))
  refine Ev.bind (Finer_ev hm80 vm va) (pos (fi_yes meet_fi_left) (Ev.bind (Finer_ev hm80 vm vb) ?_))
  rw [fi_yes meet_fi_right]
  have j1 : Ev (fun k => scarfjointlaw02_PartitionBounds.j1 k (L m a) (L m b) (L m c) (L m (meet a b)) false) true := by
    refine Ev.step (fun k => scarfjointlaw02_PartitionBounds.j1.eq_2 ..) (neg (by simp) (Ev.bind (Finer_ev hm80 vc va) ?_))
    by_cases h1 : fiB m c a = true
    · refine pos h1 (Ev.bind (Finer_ev hm80 vc vb) ?_)
      by_cases h2 : fiB m c b = true
      · refine pos h2 (Ev.bind (Finer_ev hm80 vc vm) ?_)
        rw [fi_yes (meet_fi.2 ⟨fiB_iff.1 h1, fiB_iff.1 h2⟩)]
        exact Ev.now _
      · exact neg h2 (Ev.now _)
    · exact neg h1 (Ev.now _)
  refine Ev.step (fun k => scarfjointlaw02_PartitionBounds.j0.eq_2 ..) (neg (by simp) (Ev.bind (Finer_ev hm80 va vc) ?_))
  by_cases h1 : fiB m a c = true
  · refine pos h1 (Ev.bind (Finer_ev hm80 vb vc) ?_)
    by_cases h2 : fiB m b c = true
    · refine pos h2 (Ev.bind (Finer_ev hm80 vj vc) ?_)
      rw [fi_yes ((jj c).2 ⟨fiB_iff.1 h1, fiB_iff.1 h2⟩)]
      exact j1
    · exact neg h2 j1
  · exact neg h1 j1
end Go.Proofs.Ytjkgjlaockihaaa.Pure
