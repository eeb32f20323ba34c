/- The statement PartitionJoin over numbers and lists alone: Join, Meet and Finer agree with their references on every two lists of at most 100 numbers. -/
import Derived.Test.YtjkgjlaockihaaaPure02
import Derived.Test.YtjkgjlaockihaaaPx6
namespace Go.Proofs.Ytjkgjlaockihaaa.Pure
open Go.RowKit Go.Proofs.Ytjkgjlaockihaaa.P Go.Proofs.YtjkgjlaockihaaaW.PrintWords Go.Proofs.YtjkgjlaockihaaaW.PrintLast
open Go.Proofs.Ytjkgjlaockihaaa.Part Go.Proofs.Ytjkgjlaockihaaa.EvAid
theorem PartitionJoin : scarfjointlaw02_PartitionJoin.Pure := by
  intro a b _ _ _ _ _ _
  refine Ev.rounds ?_
  have jt : Ev (fun k => scarfjointlaw02_PartitionJoin.j0 k a b true) true := Ev.step (fun k => scarfjointlaw02_PartitionJoin.j0.eq_2 ..) (pos rfl (Ev.bind awake_ev (Ev.now _)))
  have jf : a.length ≤ 100 → b.length ≤ 100 → Ev (fun k => scarfjointlaw02_PartitionJoin.j0 k a b false) true := by
    intro ha hb
    refine Ev.step (fun k => scarfjointlaw02_PartitionJoin.j0.eq_2 ..) (neg (by simp) (Ev.bind (Clone_e (by omega)) (Ev.bind (Clone_e (by omega)) ?_)))
    by_cases h : twoE a b = 0
    · obtain ⟨n, f, g, hn, rfl, rfl, hf, hg⟩ := twoE_zero h
      refine Ev.bind (Join_ev hn hf hg) (Ev.bind (ref_Join_ev hn hf hg) (Ev.bind (Clone_e (by omega)) (Ev.bind (Clone_e (by omega)) (Ev.bind (Meet_ev hn hf hg) (Ev.bind (ref_Meet_ev hn hf hg) (pos rfl (Ev.bind (Equal_ev (by rw [L_len]; omega)) (pos (by simp) (pos rfl (Ev.bind (Equal_ev (by rw [L_len]; omega)) (pos (by simp) (Ev.bind (Finer_ev hn hf hg) (Ev.bind (ref_Finer_ev hn hf hg) ?_)))))))))))))
      simp only [beq_self_eq_true]
      exact Ev.now _
    · refine Ev.bind (Join_err (by omega) (by omega) h) (Ev.bind (ref_Join_err (by omega) (by omega) h) (Ev.bind (Clone_e (by omega)) (Ev.bind (Clone_e (by omega)) (Ev.bind (Meet_err (by omega) (by omega) h) (Ev.bind (ref_Meet_err (by omega) (by omega) h) (pos rfl (Ev.bind (Equal_ev (by simp)) (pos (by simp) (pos rfl (Ev.bind (Equal_ev (by simp)) (pos (by simp) (Ev.bind (Finer_err (by omega) (by omega) h) (Ev.bind (ref_Finer_err (by omega) (by omega) h) ?_)))))))))))))
      simp only [beq_self_eq_true]
      exact Ev.now _
  unfold scarfjointlaw02_PartitionJoin.f
  refine Ev.bind awake_ev (pos rfl ?_)
  by_cases h1 : a.length > 100
  · exact pos (by omega) jt
  · refine neg (by omega) ?_
    by_cases h2 : b.length > 100
    · rw [show decide ((b.length : Int) > 100) = true from decide_eq_true (by omega)]
      exact jt
    · rw [show decide ((b.length : Int) > 100) = false from decide_eq_false (by omega)]
      exact jf (by omega) (by omega)
end Go.Proofs.Ytjkgjlaockihaaa.Pure
