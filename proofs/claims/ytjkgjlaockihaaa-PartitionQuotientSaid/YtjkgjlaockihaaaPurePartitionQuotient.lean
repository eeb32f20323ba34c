/- The statement PartitionQuotient over numbers and lists alone: indices of classes in order, all elements once. -/
import Derived.Test.YtjkgjlaockihaaaPure02
import Derived.Test.YtjkgjlaockihaaaBridge02c
import Derived.Test.YtjkgjlaockihaaaPx10
namespace Go.Proofs.Ytjkgjlaockihaaa.Pure
open Go.RowKit Go.Proofs.Ytjkgjlaockihaaa.P Go.Proofs.YtjkgjlaockihaaaW.PrintWords Go.Proofs.YtjkgjlaockihaaaW.PrintLast
open Go.Proofs.Ytjkgjlaockihaaa.Part Go.Proofs.Ytjkgjlaockihaaa.EvAid
theorem PartitionQuotient : scarfjointlaw02_PartitionQuotient.Pure := by
  intro l _ _ wl
  refine Ev.rounds ?_
  unfold scarfjointlaw02_PartitionQuotient.f
  obtain ⟨f, hf, ef⟩ := Made_ev wl
  obtain ⟨n, hn⟩ : ∃ n, min l.length 12 = n := ⟨_, rfl⟩
  rw [hn] at hf ef
  have hn80 : n ≤ 80 := by omega
  refine Ev.bind awake_ev (pos rfl (Ev.bind ef (Ev.bind (Quotient_ev hn80 hf) (Ev.bind (Classes_ev hn80 hf) (pos rfl (pos rfl (pos (by simp only [L_len]) ?_)))))))
  have hb : (((cls f (cnt f n) n).length : Int) != (cnt f n : Int)) = false := by rw [cls_len]; simp
  show Ev (fun k => scarfjointlaw02_PartitionQuotient.j0 k (L n f) (L n (qt f)) (cls f (cnt f n) n) (((cls f (cnt f n) n).length : Int) != (cnt f n : Int))) true
  rw [hb]
  refine Ev.step (fun k => scarfjointlaw02_PartitionQuotient.j0.eq_2 ..) (neg (by simp) ?_)
  rw [cls_len]
  have cl := cnt_le f n
  have loop : ∀ d c, c + d = cnt f n → Ev (fun k => scarfjointlaw02_PartitionQuotient.l0 k (L n f) (L n (qt f)) (tot f n c : Int) (cls f (cnt f n) n) (cnt f n : Int) (c : Int)) true := by
    intro d
    induction d with
    | zero =>
      intro c hc
      obtain rfl : c = cnt f n := by omega
      refine Ev.step (fun k => scarfjointlaw02_PartitionQuotient.l0.eq_2 ..) (neg (by omega) ?_)
      rw [tot_all hf, L_len]
      simp only [beq_self_eq_true]
      exact Ev.now _
    | succ d ih =>
      intro c hc
      have hcm : c < cnt f n := by omega
      have tm := tot_mono f n (show c + 1 ≤ cnt f n by omega)
      rw [tot_all hf] at tm
      have g := ih (c + 1) (by omega)
      rw [tot] at g tm
      refine Ev.step (fun k => scarfjointlaw02_PartitionQuotient.l0.eq_2 ..) (pos (by omega) (pos (by omega) (pos (by rw [cls_len]; omega) ?_)))
      rw [rd_cls hcm]
      have inner : ∀ m j, j + m = (mem f n c).length → Ev (fun k => scarfjointlaw02_PartitionQuotient.l1 k (L n f) (L n (qt f)) ((tot f n c + j : Nat) : Int) (c : Int) (mem f n c) (cls f (cnt f n) n) (cnt f n : Int) (c : Int) (mem f n c) ((mem f n c).length : Int) (j : Int)) true := by
        intro m
        induction m with
        | zero =>
          intro j hj
          obtain rfl : j = (mem f n c).length := by omega
          refine Ev.step (fun k => scarfjointlaw02_PartitionQuotient.l1.eq_2 ..) (neg (by omega) ?_)
          rw [wrap_nat (by omega)]
          exact g
        | succ m jh =>
          intro j hj
          have hjl : j < (mem f n c).length := by omega
          have hx : rd (mem f n c) (j : Int) ∈ mem f n c := by
            unfold rd
            rw [Int.toNat_natCast, List.getD_eq_getElem?_getD, List.getElem?_eq_getElem hjl]
            exact List.getElem_mem _
          obtain ⟨x, hxn, hxc, hxe⟩ := mem_iff.1 hx
          have hh := mem_head hf hx
          have g2 := jh (j + 1) (by omega)
          rw [hxe, Int.toNat_natCast] at hh
          refine Ev.step (fun k => scarfjointlaw02_PartitionQuotient.l1.eq_2 ..) (pos (by omega) (pos (by omega) (pos (by omega) ?_)))
          rw [hxe, rd_L hxn, rd_L hxn, hxc]
          refine neg (by omega) (neg (by rw [L_len]; omega) (pos (by omega) (pos (by rw [L_len]; omega) (pos rfl (pos (by rw [L_len]; omega) (pos (by omega) (pos ?_ ?_)))))))
          · rw [hh]
            rfl
          · rw [wrap_nat (by omega), wrap_nat (by omega)]
            exact g2
      exact inner (mem f n c).length 0 (by omega)
  exact loop (cnt f n) 0 (by omega)
end Go.Proofs.Ytjkgjlaockihaaa.Pure
