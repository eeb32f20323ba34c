/- Valid of a morphism: the program's and the reference's say the same, and what it means that they find no error. -/
import Derived.Test.YtklacpdobpkbbaaBase06
import Derived.Test.YtklacpdobpkbbaaPx14
import Derived.Test.YtklacpdobpkbbaaPx8
namespace Go.Proofs.Ytklacpdobpkbbaa.P
open Go.RowKit Go.Proofs.YtklacpdobpkbbaaW.PrintWords Go.Proofs.YtklacpdobpkbbaaW.PrintLast Go.Proofs.YtklacpdobpkbbaaW.PrintMore
open Go.Proofs.Ytklacpdobpkbbaa.Part Go.Proofs.Ytklacpdobpkbbaa.EvAid Go.Proofs.Ytklacpdobpkbbaa.Gr
def Good0 (aN bN mN : List Int) (j : Nat) : Prop := 0 ≤ rd mN (j : Int) ∧ rd mN (j : Int) < (bN.length : Int) ∧ rd bN (rd mN (j : Int)) = rd aN (j : Int)
def Good1 (aE bE : List S65) (mN mE : List Int) (j : Nat) : Prop := 0 ≤ rd mE (j : Int) ∧ rd mE (j : Int) < (bE.length : Int) ∧ (rd_T65 aE (j : Int)).f0 = (rd_T65 bE (rd mE (j : Int))).f0 ∧ rd mN (rd_T65 aE (j : Int)).f1 = (rd_T65 bE (rd mE (j : Int))).f1 ∧ rd mN (rd_T65 aE (j : Int)).f2 = (rd_T65 bE (rd mE (j : Int))).f2
/-- A morphism without errors. -/
structure VM (aN : List Int) (aE : List S65) (bN : List Int) (bE : List S65) (mN mE : List Int) : Prop where
  a : gE aN aE = 0
  b : gE bN bE = 0
  ln : mN.length = aN.length
  le : mE.length = aE.length
  n : ∀ j, j < aN.length → Good0 aN bN mN j
  e : ∀ j, j < aE.length → Good1 aE bE mN mE j
theorem ne_zero {x : Int} {p : Prop} (hx : x ≠ 0) (hp : ¬ p) : x = 0 ↔ p := ⟨fun h => absurd h hx, fun h => absurd h hp⟩
theorem Valid_l1 {a : Gr} (ha : Ok a) {bE : List S65} {mN mE : List Int} (hN : mN.length = a.n) (hE : mE.length = a.m) : ∀ d i, i + d = a.m → ∃ e, Ev (fun k => morphism_Valid.l1 a.E bE mN mE k (i : Int)) e ∧ (e = 0 ↔ ∀ j, i ≤ j → j < a.m → Good1 a.E bE mN mE j) := by
  intro d
  induction d with
  | zero =>
    intro i hi
    exact ⟨0, Ev.step (fun k => morphism_Valid.l1.eq_2 ..) (neg (by omega) (Ev.now _)), ⟨fun _ j h1 h2 => by omega, fun _ => rfl⟩⟩
  | succ d ih =>
    intro i hi
    have him : i < a.m := by omega
    have bad : ∀ {x : Int}, x ≠ 0 → ¬ Good1 a.E bE mN mE i → (x = 0 ↔ ∀ j, i ≤ j → j < a.m → Good1 a.E bE mN mE j) := fun hx hg => ne_zero hx (fun h => hg (h i (Nat.le_refl _) him))
    have hr := rd_E (ty := a.ty) (fr := a.fr) (tg := a.tg) him
    have hf := ha.fr i him
    have ht := ha.tg i him
    by_cases c1 : rd mE (i : Int) < 0
    · exact ⟨6, Ev.step (fun k => morphism_Valid.l1.eq_2 ..) (pos (by omega) (pos c1 (Ev.now _))), bad (by decide) (fun h => by have := h.1; omega)⟩
    by_cases c2 : rd mE (i : Int) ≥ (bE.length : Int)
    · exact ⟨6, Ev.step (fun k => morphism_Valid.l1.eq_2 ..) (pos (by omega) (neg c1 (pos c2 (Ev.now _)))), bad (by decide) (fun h => by have := h.2.1; omega)⟩
    by_cases c3 : (rd_T65 a.E (i : Int)).f0 = (rd_T65 bE (rd mE (i : Int))).f0
    case neg => exact ⟨13, Ev.step (fun k => morphism_Valid.l1.eq_2 ..) (pos (by omega) (neg c1 (neg c2 (pos (by rw [Ed_len]; omega) (neg c3 (Ev.now _)))))), bad (by decide) (fun h => c3 h.2.2.1)⟩
    have c4 : 0 ≤ (rd_T65 a.E (i : Int)).f1 ∧ (rd_T65 a.E (i : Int)).f1 < (mN.length : Int) ∧ 0 ≤ (rd_T65 a.E (i : Int)).f2 ∧ (rd_T65 a.E (i : Int)).f2 < (mN.length : Int) := by
      have h1 : (rd_T65 a.E (i : Int)).f1 = (a.fr i : Int) := congrArg S65.f1 hr
      have h2 : (rd_T65 a.E (i : Int)).f2 = (a.tg i : Int) := congrArg S65.f2 hr
      omega
    by_cases c5 : rd mN (rd_T65 a.E (i : Int)).f1 = (rd_T65 bE (rd mE (i : Int))).f1
    case neg => exact ⟨11, Ev.step (fun k => morphism_Valid.l1.eq_2 ..) (pos (by omega) (neg c1 (neg c2 (pos (by rw [Ed_len]; omega) (pos c3 (pos c4 (neg c5 (Ev.now _)))))))), bad (by decide) (fun h => c5 h.2.2.2.1)⟩
    by_cases c6 : rd mN (rd_T65 a.E (i : Int)).f2 = (rd_T65 bE (rd mE (i : Int))).f2
    case neg => exact ⟨11, Ev.step (fun k => morphism_Valid.l1.eq_2 ..) (pos (by omega) (neg c1 (neg c2 (pos (by rw [Ed_len]; omega) (pos c3 (pos c4 (pos c5 (neg c6 (Ev.now _))))))))), bad (by decide) (fun h => c6 h.2.2.2.2)⟩
    obtain ⟨e, h1, h2⟩ := ih (i + 1) (by omega)
    refine ⟨e, Ev.step (fun k => morphism_Valid.l1.eq_2 ..) (pos (by omega) (neg c1 (neg c2 (pos (by rw [Ed_len]; omega) (pos c3 (pos c4 (pos c5 (pos c6 ?_)))))))), h2.trans ⟨fun h j hj hm => ?_, fun h j hj hm => h j (by omega) hm⟩⟩
    · rw [show (i : Int) + 1 = ((i + 1 : Nat) : Int) by omega]
      exact h1
    · by_cases e : j = i
      · subst e
        exact ⟨by omega, by omega, c3, c5, c6⟩
      · exact h j (by omega) hm
theorem Valid_l0 {a : Gr} (ha : Ok a) {bN : List Int} {bE : List S65} {mN mE : List Int} (hN : mN.length = a.n) (hE : mE.length = a.m) : ∀ d i, i + d = a.n → ∃ e, Ev (fun k => morphism_Valid.l0 a.N a.E bN bE mN mE k (i : Int)) e ∧ (e = 0 ↔ (∀ j, i ≤ j → j < a.n → Good0 a.N bN mN j) ∧ ∀ j, j < a.m → Good1 a.E bE mN mE j) := by
  intro d
  induction d with
  | zero =>
    intro i hi
    obtain ⟨e, h1, h2⟩ := Valid_l1 ha (bE := bE) hN hE a.m 0 (by omega)
    exact ⟨e, Ev.step (fun k => morphism_Valid.l0.eq_2 ..) (neg (by omega) h1), h2.trans ⟨fun h => ⟨fun j h1 h2 => by omega, fun j hj => h j (Nat.zero_le _) hj⟩, fun h j _ hj => h.2 j hj⟩⟩
  | succ d ih =>
    intro i hi
    have hin : i < a.n := by omega
    have bad : ∀ {x : Int}, x ≠ 0 → ¬ Good0 a.N bN mN i → (x = 0 ↔ (∀ j, i ≤ j → j < a.n → Good0 a.N bN mN j) ∧ ∀ j, j < a.m → Good1 a.E bE mN mE j) := fun hx hg => ne_zero hx (fun h => hg (h.1 i (Nat.le_refl _) hin))
    by_cases c1 : rd mN (i : Int) < 0
    · exact ⟨6, Ev.step (fun k => morphism_Valid.l0.eq_2 ..) (pos (by omega) (pos c1 (Ev.now _))), bad (by decide) (fun h => by have := h.1; omega)⟩
    by_cases c2 : rd mN (i : Int) ≥ (bN.length : Int)
    · exact ⟨6, Ev.step (fun k => morphism_Valid.l0.eq_2 ..) (pos (by omega) (neg c1 (pos c2 (Ev.now _)))), bad (by decide) (fun h => by have := h.2.1; omega)⟩
    by_cases c3 : rd bN (rd mN (i : Int)) = rd a.N (i : Int)
    case neg => exact ⟨13, Ev.step (fun k => morphism_Valid.l0.eq_2 ..) (pos (by omega) (neg c1 (neg c2 (pos (by rw [N_len]; omega) (neg c3 (Ev.now _)))))), bad (by decide) (fun h => c3 h.2.2)⟩
    obtain ⟨e, h1, h2⟩ := ih (i + 1) (by omega)
    refine ⟨e, Ev.step (fun k => morphism_Valid.l0.eq_2 ..) (pos (by omega) (neg c1 (neg c2 (pos (by rw [N_len]; omega) (pos c3 ?_))))), h2.trans ⟨fun h => ⟨fun j hj hm => ?_, h.2⟩, fun h => ⟨fun j hj hm => h.1 j (by omega) hm, h.2⟩⟩⟩
    · rw [show (i : Int) + 1 = ((i + 1 : Nat) : Int) by omega]
      exact h1
    · by_cases e : j = i
      · subst e
        exact ⟨by omega, by omega, c3⟩
      · exact h.1 j (by omega) hm
theorem mValid (aN : List Int) (aE : List S65) (bN : List Int) (bE : List S65) (mN mE : List Int) : ∃ e, Ev (fun k => morphism_Valid.f k aN aE bN bE mN mE) e ∧ Ev (fun k => scarfjointref06_Valid.f k aN aE bN bE mN mE) e ∧ (e = 0 ↔ VM aN aE bN bE mN mE) := by
  unfold morphism_Valid.f scarfjointref06_Valid.f
  simp only [graph_Valid_e]
  by_cases ca : gE aN aE = 0
  case neg => exact ⟨gE aN aE, bsome (neg ca (Ev.now _)), Ev.bind (refValid_ev aN aE) (neg ca (Ev.now _)), ne_zero ca (fun h => ca h.a)⟩
  by_cases cb : gE bN bE = 0
  case neg => exact ⟨gE bN bE, bsome (pos ca (bsome (neg cb (Ev.now _)))), Ev.bind (refValid_ev aN aE) (pos ca (Ev.bind (refValid_ev bN bE) (neg cb (Ev.now _)))), ne_zero cb (fun h => cb h.b)⟩
  by_cases cn : mN.length = aN.length
  case neg => exact ⟨20, bsome (pos ca (bsome (pos cb (neg cn (Ev.now _))))), Ev.bind (refValid_ev aN aE) (pos ca (Ev.bind (refValid_ev bN bE) (pos cb (neg cn (Ev.now _))))), ne_zero (by decide) (fun h => cn h.ln)⟩
  by_cases ce : mE.length = aE.length
  case neg => exact ⟨20, bsome (pos ca (bsome (pos cb (pos cn (neg ce (Ev.now _)))))), Ev.bind (refValid_ev aN aE) (pos ca (Ev.bind (refValid_ev bN bE) (pos cb (pos cn (neg ce (Ev.now _)))))), ne_zero (by decide) (fun h => ce h.le)⟩
  obtain ⟨a, ha, rfl, rfl⟩ := gE_zero ca
  rw [N_len] at cn
  rw [Ed_len] at ce
  obtain ⟨e, h1, h2⟩ := Valid_l0 ha (bN := bN) (bE := bE) cn ce a.n 0 (by omega)
  refine ⟨e, bsome (pos ca (bsome (pos cb (pos (by rw [N_len]; exact cn) (pos (by rw [Ed_len]; exact ce) h1))))), Ev.bind (refValid_ev _ _) (pos ca (Ev.bind (refValid_ev bN bE) (pos cb (pos (by rw [N_len]; exact cn) (pos (by rw [Ed_len]; exact ce) h1))))), h2.trans ⟨fun h => ⟨ca, cb, by rw [N_len]; exact cn, by rw [Ed_len]; exact ce, fun j hj => h.1 j (Nat.zero_le _) (by rw [N_len] at hj; exact hj), fun j hj => h.2 j (by rw [Ed_len] at hj; exact hj)⟩, fun h => ⟨fun j _ hj => h.n j (by rw [N_len]; exact hj), fun j hj => h.e j (by rw [Ed_len]; exact hj)⟩⟩⟩
theorem VM.lens {aN : List Int} {aE : List S65} {bN : List Int} {bE : List S65} {mN mE : List Int} (h : VM aN aE bN bE mN mE) : aN.length ≤ 40 ∧ aE.length ≤ 80 ∧ bN.length ≤ 40 ∧ bE.length ≤ 80 := by
  obtain ⟨h1, h2⟩ := gE_len h.a
  obtain ⟨h3, h4⟩ := gE_len h.b
  exact ⟨h1, h2, h3, h4⟩
end Go.Proofs.Ytklacpdobpkbbaa.P
