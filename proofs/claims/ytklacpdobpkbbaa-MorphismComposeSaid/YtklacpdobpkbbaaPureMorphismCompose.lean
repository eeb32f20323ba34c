/- The statement MorphismCompose over numbers and lists alone: Compose returns the composition of any two morphisms, or the specified error. -/
import Derived.Test.YtklacpdobpkbbaaCmp
import Derived.Test.YtklacpdobpkbbaaFew06
import Derived.Test.YtklacpdobpkbbaaPx23
namespace Go.Proofs.Ytklacpdobpkbbaa.Pure
open Go.RowKit Go.Proofs.Ytklacpdobpkbbaa.P Go.Proofs.YtklacpdobpkbbaaW.PrintWords Go.Proofs.YtklacpdobpkbbaaW.PrintLast Go.Proofs.YtklacpdobpkbbaaW.PrintMore
open Go.Proofs.Ytklacpdobpkbbaa.Part Go.Proofs.Ytklacpdobpkbbaa.EvAid Go.Proofs.Ytklacpdobpkbbaa.Gr
theorem MorphismCompose (l : List Int) (e : List S65) (l' : List Int) (e' : List S65) (m n : List Int) (l'' : List Int) (e'' : List S65) (m' n' : List Int) (h1 : m.length < 17592186044416) (h2 : n.length < 17592186044416) (h3 : m'.length < 17592186044416) (h4 : n'.length < 17592186044416) : ∃ k, scarfjointlaw06_MorphismCompose.f k l e l' e' m n l'' e'' m' n' = some true := by
  refine Ev.rounds ?_
  unfold scarfjointlaw06_MorphismCompose.f
  obtain ⟨t, ht, hb⟩ := few_ev l e (xs := [⟨⟨l', e'⟩, ⟨m, n⟩⟩, ⟨⟨l'', e''⟩, ⟨m', n'⟩⟩]) (by simp) (by simpa using ⟨⟨h1, h2⟩, h3, h4⟩)
  refine Ev.bind awake_ev (pos rfl (Ev.bind ht ?_))
  cases t with
  | false => exact neg (by simp) (Ev.bind awake_ev (Ev.now _))
  | true =>
    have hl : m.length + n.length ≤ 140 ∧ m'.length + n'.length ≤ 140 := by simpa using hb rfl
    obtain ⟨r, c1, c2, r1, r2, _⟩ := Compose_ev l e l' e' l'' e'' m n m' n'
    refine pos rfl (Ev.bind (copied_ev (by omega) (by omega)) (Ev.bind (copied_ev (by omega) (by omega)) (Ev.bind c1 (Ev.bind c2 (pos rfl (Ev.bind (refSame_ev (by omega) (by omega)) ?_))))))
    rw [sm_self]
    exact Ev.now _
end Go.Proofs.Ytklacpdobpkbbaa.Pure
