/- The statement MorphismSame over numbers and lists alone: Same reports whether two morphisms are equal, and Identity returns the identity of a graph, or its error. -/
import Derived.Test.YtklacpdobpkbbaaBase06
import Derived.Test.YtklacpdobpkbbaaPx14
import Derived.Test.YtklacpdobpkbbaaPx15
import Derived.Test.YtklacpdobpkbbaaPx16
import Derived.Test.YtklacpdobpkbbaaPx7
import Derived.Test.YtklacpdobpkbbaaPx8
namespace Go.Proofs.Ytklacpdobpkbbaa.Pure
open Go.RowKit Go.Proofs.Ytklacpdobpkbbaa.P Go.Proofs.YtklacpdobpkbbaaW.PrintWords Go.Proofs.YtklacpdobpkbbaaW.PrintLast Go.Proofs.YtklacpdobpkbbaaW.PrintMore
open Go.Proofs.Ytklacpdobpkbbaa.Part Go.Proofs.Ytklacpdobpkbbaa.EvAid Go.Proofs.Ytklacpdobpkbbaa.Gr
theorem awake_ev : Ev (fun k => scarfjointlaw06_awake.f k) true := Ev.of (scarfjointlaw06_awake.mono) (k := 12) (by kernel_rfl)
theorem numbers_ev {n : Nat} (hn : n ≤ 1000) : Ev (fun k => morphism_numbers.f k (n : Int)) (L n id) := by
  have loop : ∀ d i, i + d = n → Ev (fun k => morphism_numbers.l0 k (L n (fun j => if j < i then j else 0)) (n : Int) (i : Int)) (L n id) := by
    intro d
    induction d with
    | zero =>
      intro i hi
      refine Ev.step (fun k => morphism_numbers.l0.eq_2 ..) (neg (by omega) ?_)
      rw [show L n (fun j => if j < i then j else 0) = L n id from L_congr (fun j hj => by simp; omega)]
      exact Ev.now _
    | succ d ih =>
      intro i hi
      refine Ev.step (fun k => morphism_numbers.l0.eq_2 ..) (pos (by omega) (pos (by omega) (pos (by rw [L_len]; omega) ?_)))
      rw [Int.toNat_natCast, L_set, wrap_nat (by omega), show L n (upd (fun j => if j < i then j else 0) i i) = L n (fun j => if j < i + 1 then j else 0) from L_congr (fun j _ => by simp only [upd]; (repeat' split) <;> omega)]
      exact ih (i + 1) (by omega)
  unfold morphism_numbers.f
  refine pos (by omega) (pos (by simp; omega) (bsome ?_))
  have h := loop n 0 (by omega)
  rw [show L n (fun j => if j < 0 then j else 0) = List.replicate (n : Int).toNat 0 from by
    rw [Int.toNat_natCast]
    apply List.ext_getElem?
    intro j
    simp [L, List.getElem?_replicate]
    by_cases hj : j < n <;> simp [hj]] at h
  simpa using h
theorem Finest_ev {n : Nat} (hn : n ≤ 1000) : Ev (fun k => scarfjointref02_Finest.f k (n : Int)) (L n id) := by
  have loop : ∀ d i, i + d = n → Ev (fun k => scarfjointref02_Finest.l0 k (n : Int) (L i id) (i : Int)) (L n id) := by
    intro d
    induction d with
    | zero =>
      intro i hi
      obtain rfl : i = n := by omega
      refine Ev.step (fun k => scarfjointref02_Finest.l0.eq_2 ..) (neg (by omega) (Ev.now _))
    | succ d ih =>
      intro i hi
      refine Ev.step (fun k => scarfjointref02_Finest.l0.eq_2 ..) (pos (by omega) (pos (by rw [L_len]; omega) ?_))
      have h := ih (i + 1) (by omega)
      rw [L_succ] at h
      rw [wrap_nat (by omega)]
      exact h
  unfold scarfjointref02_Finest.f
  exact loop n 0 (by omega)
theorem Of_ev {l : List Int} {e : List S65} (hl : l.length ≤ 1000) (he : e.length ≤ 1000) : Ev (fun k => scarfjointref06_Of.f k l e) (L l.length id, L e.length id) := by
  unfold scarfjointref06_Of.f
  exact Ev.bind (Finest_ev hl) (Ev.bind (Finest_ev he) (Ev.now _))
/-- What Identity returns. -/
def idE (l : List Int) (e : List S65) : List Int × List Int × Int := if gE l e = 0 then (L l.length id, L e.length id, 0) else ([], [], gE l e)
theorem Identity_ev (l : List Int) (e : List S65) : Ev (fun k => morphism_Identity.f k l e) (idE l e) := by
  unfold morphism_Identity.f idE
  simp only [graph_Valid_e]
  refine bsome ?_
  by_cases h : gE l e = 0
  · obtain ⟨h1, h2⟩ := gE_len h
    rw [if_pos h]
    exact pos h (Ev.bind (numbers_ev (by omega)) (Ev.bind (numbers_ev (by omega)) (Ev.now _)))
  · rw [if_neg h]
    exact neg h (Ev.now _)
theorem refIdentity_ev (l : List Int) (e : List S65) : Ev (fun k => scarfjointref06_Identity.f k l e) (idE l e) := by
  unfold scarfjointref06_Identity.f idE
  refine Ev.bind (refValid_ev l e) ?_
  by_cases h : gE l e = 0
  · obtain ⟨h1, h2⟩ := gE_len h
    rw [if_pos h]
    exact pos h (Ev.bind (Of_ev (by omega) (by omega)) (Ev.now _))
  · rw [if_neg h]
    exact neg h (Ev.now _)
theorem idE_len (l : List Int) (e : List S65) : (idE l e).1.length ≤ 1000000 ∧ (idE l e).2.1.length ≤ 1000000 := by
  unfold idE
  by_cases h : gE l e = 0
  · obtain ⟨h1, h2⟩ := gE_len h
    rw [if_pos h]
    simp only [L_len]
    omega
  · rw [if_neg h]
    simp
theorem copied_ev {a b : List Int} (ha : a.length ≤ 1000000) (hb : b.length ≤ 1000000) : Ev (fun _ => scarfjointlaw06_copied.f a b) (a, b) := by
  unfold scarfjointlaw06_copied.f
  exact Ev.bind (Clone_ev ha) (Ev.bind (Clone_ev hb) (Ev.now _))
theorem MorphismSame (l : List Int) (e : List S65) (m n m' n' : List Int) (h1 : m.length < 17592186044416) (h2 : n.length < 17592186044416) (h3 : m'.length < 17592186044416) (h4 : n'.length < 17592186044416) : ∃ k, scarfjointlaw06_MorphismSame.f k l e m n m' n' = some true := by
  have out : ∀ {a : List Int} {b : List S65} {c d c' d' : List Int}, Ev (fun k => scarfjointlaw06_MorphismSame.j0 k true a b c d c' d') true := fun {a b c d c' d'} => Ev.step (fun k => scarfjointlaw06_MorphismSame.j0.eq_2 ..) (pos rfl (Ev.bind awake_ev (Ev.now _)))
  refine Ev.rounds ?_
  unfold scarfjointlaw06_MorphismSame.f
  refine Ev.bind awake_ev (pos rfl (Ev.bind (Few_ev l e) ?_))
  by_cases c1 : (decide (l.length ≤ 45) && decide (e.length ≤ 90)) = true
  case neg => exact neg c1 out
  refine pos c1 (Ev.bind (Few6_ev h1 h2) ?_)
  by_cases c2 : m.length + n.length ≤ 140
  case neg => exact neg (by simp [c2]) out
  refine pos (decide_eq_true c2) (Ev.bind (Few6_ev h3 h4) ?_)
  by_cases c3 : m'.length + n'.length ≤ 140
  case neg =>
    rw [decide_eq_false c3]
    exact out
  rw [decide_eq_true c3]
  refine Ev.step (fun k => scarfjointlaw06_MorphismSame.j0.eq_2 ..) (neg (by simp) (Ev.bind (Identity_ev l e) (Ev.bind (refIdentity_ev l e) (pos rfl (Ev.bind (refSame_ev (idE_len l e).1 (idE_len l e).2) ?_)))))
  refine pos (sm_self _ _) (Ev.bind (Same_ev (by omega) (by omega)) (Ev.bind (refSame_ev (by omega) (by omega)) (pos (by simp) (Ev.bind (copied_ev (by omega) (by omega)) (Ev.bind (Same_ev (by omega) (by omega)) ?_)))))
  rw [sm_self]
  exact Ev.now _
end Go.Proofs.Ytklacpdobpkbbaa.Pure
