/- The statement MorphismInverse over numbers and lists alone: Inverse returns the inverse of any isomorphism, or the specified error; both compositions are identities. -/
import Derived.Test.YtklacpdobpkbbaaCmpInv
import Derived.Test.YtklacpdobpkbbaaFew06
import Derived.Test.YtklacpdobpkbbaaPx26
namespace Go.Proofs.Ytklacpdobpkbbaa.Pure
open Go.RowKit Go.Proofs.Ytklacpdobpkbbaa.P Go.Proofs.YtklacpdobpkbbaaW.PrintWords Go.Proofs.YtklacpdobpkbbaaW.PrintLast Go.Proofs.YtklacpdobpkbbaaW.PrintMore
open Go.Proofs.Ytklacpdobpkbbaa.Part Go.Proofs.Ytklacpdobpkbbaa.EvAid Go.Proofs.Ytklacpdobpkbbaa.Gr
theorem MorphismInverse (l : List Int) (e : List S65) (l' : List Int) (e' : List S65) (m n : List Int) (h1 : m.length < 17592186044416) (h2 : n.length < 17592186044416) : ∃ k, scarfjointlaw06_MorphismInverse.f k l e l' e' m n = some true := by
  refine Ev.rounds ?_
  unfold scarfjointlaw06_MorphismInverse.f
  obtain ⟨t, ht, hb⟩ := few_ev l e (xs := [⟨⟨l', e'⟩, ⟨m, n⟩⟩]) (by simp) (by simpa using ⟨h1, h2⟩)
  refine Ev.bind awake_ev (pos rfl (Ev.bind ht ?_))
  cases t with
  | false => exact neg (by simp) (Ev.bind awake_ev (Ev.now _))
  | true =>
    have hl : m.length + n.length ≤ 140 := by simpa using hb rfl
    obtain ⟨r, c1, c2, r1, r2, r3⟩ := Inverse_ev l e l' e' m n
    refine pos rfl (Ev.bind (copied_ev (by omega) (by omega)) (Ev.bind c1 (Ev.bind c2 (pos rfl (Ev.bind (refSame_ev (by omega) (by omega)) ?_)))))
    rw [sm_self]
    refine pos rfl ?_
    by_cases c3 : r.2.2 = 0
    case neg =>
      refine neg c3 (Ev.bind (refSame_ev (by omega) (by omega)) ?_)
      rw [sm_self]
      exact Ev.now _
    obtain ⟨v, g, f, b0, b1, er⟩ := r3 c3
    have vi := v.inv b0 b1 rfl rfl
    subst er
    obtain ⟨p, p1, _, p2, p3, p4, _⟩ := Compose_ev l e l' e' l e m n (L l'.length g) (L e'.length f)
    obtain ⟨q, q1, _, q2, q3, q4, _⟩ := Compose_ev l' e' l e l' e' (L l'.length g) (L e'.length f) m n
    have ep := p4 ⟨v, vi⟩
    have eq := q4 ⟨vi, v⟩
    subst ep
    subst eq
    obtain ⟨l1, l2, l3, l4⟩ := v.lens
    have n0 : l'.length = l.length := by rw [← b0.len, v.ln]
    have n1 : e'.length = e.length := by rw [← b1.len, v.le]
    refine pos rfl (Ev.bind p1 (Ev.bind q1 (pos rfl (pos rfl (Ev.bind (Of_ev (by omega) (by omega)) (Ev.bind (refSame_ev (by omega) (by omega)) ?_))))))
    rw [thr_back b0, thr_back b1, n0, n1, sm_self]
    refine pos rfl (Ev.bind (Of_ev (by omega) (by omega)) (Ev.bind (refSame_ev (by rw [thr_len, L_len]; omega) (by rw [thr_len, L_len]; omega)) ?_))
    rw [← n0, ← n1, back_thr b0, back_thr b1, sm_self]
    exact Ev.now _
end Go.Proofs.Ytklacpdobpkbbaa.Pure
