/- The statement PartitionValid over numbers and lists alone. -/
import Derived.Test.YtjkgjlaockihaaaPure02
import Derived.Test.YtjkgjlaockihaaaBridge02c
import Derived.Test.YtjkgjlaockihaaaPx14
namespace Go.Proofs.Ytjkgjlaockihaaa.Pure
open Go.RowKit Go.Proofs.Ytjkgjlaockihaaa.P Go.Proofs.YtjkgjlaockihaaaW.PrintWords Go.Proofs.YtjkgjlaockihaaaW.PrintLast
open Go.Proofs.Ytjkgjlaockihaaa.Part Go.Proofs.Ytjkgjlaockihaaa.EvAid
theorem cls_small {n m : Nat} {f : Nat → Nat} (hn : n ≤ 80) : ∀ x ∈ cls f m n, x.length ≤ 1000000 := by
  intro x hx
  obtain ⟨c, _, rfl⟩ := List.mem_map.1 hx
  have := mem_len f n c
  omega
theorem PartitionValid : scarfjointlaw02_PartitionValid.Pure := by
  intro a _ _ _
  refine Ev.rounds ?_
  have jt : Ev (fun k => scarfjointlaw02_PartitionValid.j0 k a true) true := Ev.step (fun k => scarfjointlaw02_PartitionValid.j0.eq_2 ..) (pos rfl (Ev.bind awake_ev (Ev.now _)))
  have jf : a.length ≤ 100 → Ev (fun k => scarfjointlaw02_PartitionValid.j0 k a false) true := by
    intro ha
    refine Ev.step (fun k => scarfjointlaw02_PartitionValid.j0.eq_2 ..) (neg (by simp) (Ev.bind (Clone_e (by omega)) ?_))
    by_cases h : oneE a = 0
    · obtain ⟨n, f, hn, rfl, hf⟩ := oneE_zero h
      have cl := cnt_le f n
      refine Ev.bind (Classes_ev hn hf) (Ev.bind (ref_Classes_ev hn hf) (Ev.bind (Clone_e (by omega)) (Ev.bind (Quotient_ev hn hf) (Ev.bind (ref_Quotient_ev hn hf) (Ev.bind (Clone_e (by omega)) (Ev.bind (Valid_ev (by omega)) (Ev.bind (ref_Valid_ev (by omega)) (pos (by simp) (pos rfl (Ev.bind (SameLists_self (by rw [cls_len]; omega) (cls_small hn)) (pos rfl (Ev.bind (Equal_ev (by rw [L_len]; omega)) (pos (by simp) (pos rfl ?_))))))))))))))
      exact Ev.now _
    · refine Ev.bind (Classes_err (by omega) h) (Ev.bind (ref_Classes_err (by omega) h) (Ev.bind (Clone_e (by omega)) (Ev.bind (Quotient_err (by omega) h) (Ev.bind (ref_Quotient_err (by omega) h) (Ev.bind (Clone_e (by omega)) (Ev.bind (Valid_ev (by omega)) (Ev.bind (ref_Valid_ev (by omega)) (pos (by simp) (pos rfl (Ev.bind (SameLists_self (by simp) (by simp)) (pos rfl (Ev.bind (Equal_ev (by simp)) (pos (by simp) (pos rfl ?_))))))))))))))
      simp only [beq_self_eq_true]
      exact Ev.now _
  unfold scarfjointlaw02_PartitionValid.f
  refine Ev.bind awake_ev (pos rfl ?_)
  by_cases h1 : a.length > 100
  · rw [show decide ((a.length : Int) > 100) = true from decide_eq_true (by omega)]
    exact jt
  · rw [show decide ((a.length : Int) > 100) = false from decide_eq_false (by omega)]
    exact jf (by omega)
end Go.Proofs.Ytjkgjlaockihaaa.Pure
