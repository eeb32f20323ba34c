/- What every statement of chapter 6 asks first: the chapter's examples, and that graphs and morphisms are small. -/
import Derived.Test.YtklacpdobpkbbaaBase06
import Derived.Test.YtklacpdobpkbbaaPx12
import Derived.Test.YtklacpdobpkbbaaPx13
import Derived.Test.YtklacpdobpkbbaaPx14
namespace Go.Proofs.Ytklacpdobpkbbaa.Pure
open Go.RowKit Go.Proofs.Ytklacpdobpkbbaa.P Go.Proofs.YtklacpdobpkbbaaW.PrintWords Go.Proofs.YtklacpdobpkbbaaW.PrintLast Go.Proofs.YtklacpdobpkbbaaW.PrintMore
open Go.Proofs.Ytklacpdobpkbbaa.Part Go.Proofs.Ytklacpdobpkbbaa.EvAid Go.Proofs.Ytklacpdobpkbbaa.Gr
theorem awake_ev : Ev (fun k => scarfjointlaw06_awake.f k) true := Ev.of (scarfjointlaw06_awake.mono) (k := 12) (by kernel_rfl)
theorem copied_ev {a b : List Int} (ha : a.length ≤ 1000000) (hb : b.length ≤ 1000000) : Ev (fun _ => scarfjointlaw06_copied.f a b) (a, b) := by
  unfold scarfjointlaw06_copied.f
  exact Ev.bind (Clone_ev ha) (Ev.bind (Clone_ev hb) (Ev.now _))
theorem few_ev (l : List Int) (e : List S65) {xs : List S29} (hx : xs.length ≤ 1000) (hb : ∀ x ∈ xs, x.f1.f0.length < 17592186044416 ∧ x.f1.f1.length < 17592186044416) : ∃ t, Ev (fun k => scarfjointlaw06_few.f k l e xs) t ∧ (t = true → ∀ x ∈ xs, x.f1.f0.length + x.f1.f1.length ≤ 140) := by
  have loop : ∀ d i, i + d = xs.length → ∃ t, Ev (fun k => scarfjointlaw06_few.l0 k xs (xs.length : Int) (i : Int) l e) t ∧ (t = true → ∀ j (hj : j < xs.length), i ≤ j → xs[j].f1.f0.length + xs[j].f1.f1.length ≤ 140) := by
    intro d
    induction d with
    | zero => intro i hi; exact ⟨_, Ev.step (fun k => scarfjointlaw06_few.l0.eq_2 ..) (neg (by omega) (Ev.bind (Few_ev l e) (Ev.now _))), fun _ j hj hij => by omega⟩
    | succ d ih =>
      intro i hi
      have hil : i < xs.length := by omega
      have hr : rd_T29 xs (i : Int) = xs[i] := by
        unfold rd_T29
        rw [Int.toNat_natCast, List.getD_eq_getElem?_getD, List.getElem?_eq_getElem hil]
        rfl
      have hbi := hb _ (List.getElem_mem hil)
      have h1 := Few_ev xs[i].f0.f0 xs[i].f0.f1
      have h2 := Few6_ev hbi.1 hbi.2
      rw [← hr] at h1 h2
      by_cases c1 : (decide ((rd_T29 xs (i : Int)).f0.f0.length ≤ 45) && decide ((rd_T29 xs (i : Int)).f0.f1.length ≤ 90)) = true
      case neg => exact ⟨false, Ev.step (fun k => scarfjointlaw06_few.l0.eq_2 ..) (pos (by omega) (pos (by omega) (pos (by omega) (Ev.bind h1 (neg c1 (Ev.now _)))))), fun h => by cases h⟩
      by_cases c2 : (rd_T29 xs (i : Int)).f1.f0.length + (rd_T29 xs (i : Int)).f1.f1.length ≤ 140
      case neg => exact ⟨false, Ev.step (fun k => scarfjointlaw06_few.l0.eq_2 ..) (pos (by omega) (pos (by omega) (pos (by omega) (Ev.bind h1 (pos c1 (Ev.bind h2 (neg (fun h => c2 (of_decide_eq_true h)) (Ev.now _)))))))), fun h => by cases h⟩
      obtain ⟨t, h3, h4⟩ := ih (i + 1) (by omega)
      refine ⟨t, Ev.step (fun k => scarfjointlaw06_few.l0.eq_2 ..) (pos (by omega) (pos (by omega) (pos (by omega) (Ev.bind h1 (pos c1 (Ev.bind h2 (pos (decide_eq_true c2) ?_))))))), fun ht j hj hij => ?_⟩
      · rw [wrap_nat (by omega)]
        exact h3
      · by_cases e : j = i
        · subst e
          rw [← hr]
          exact c2
        · exact h4 ht j hj (by omega)
  unfold scarfjointlaw06_few.f
  obtain ⟨t, h1, h2⟩ := loop xs.length 0 (by omega)
  refine ⟨t, h1, fun ht x hx2 => ?_⟩
  obtain ⟨j, hj, rfl⟩ := List.getElem_of_mem hx2
  exact h2 ht j hj (Nat.zero_le _)
end Go.Proofs.Ytklacpdobpkbbaa.Pure
