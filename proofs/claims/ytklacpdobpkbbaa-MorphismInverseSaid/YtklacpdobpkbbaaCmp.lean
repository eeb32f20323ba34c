/- Composition of morphisms: the program's and the reference's say the same, and what they say. -/
import Derived.Test.YtklacpdobpkbbaaMor
import Derived.Test.YtklacpdobpkbbaaPx21
import Derived.Test.YtklacpdobpkbbaaPx22
namespace Go.Proofs.Ytklacpdobpkbbaa.P
open Go.RowKit Go.Proofs.YtklacpdobpkbbaaW.PrintWords Go.Proofs.YtklacpdobpkbbaaW.PrintLast Go.Proofs.YtklacpdobpkbbaaW.PrintMore
open Go.Proofs.Ytklacpdobpkbbaa.Part Go.Proofs.Ytklacpdobpkbbaa.EvAid Go.Proofs.Ytklacpdobpkbbaa.Gr
/-- The list of the n values of f. -/
def R (n : Nat) (f : Nat → Int) : List Int := (List.range n).map f
theorem R_len (n : Nat) (f : Nat → Int) : (R n f).length = n := by simp [R]
theorem R_get {n : Nat} {f : Nat → Int} {i : Nat} (h : i < (R n f).length) : (R n f)[i] = f i := by simp [R]
theorem rd_R {n : Nat} {f : Nat → Int} {i : Nat} (h : i < n) : rd (R n f) (i : Int) = f i := by
  unfold rd R
  rw [Int.toNat_natCast, List.getD_eq_getElem?_getD, List.getElem?_map, List.getElem?_range h]
  rfl
theorem R_congr {n : Nat} {f g : Nat → Int} (h : ∀ i, i < n → f i = g i) : R n f = R n g := List.map_congr_left (fun i hi => h i (List.mem_range.1 hi))
theorem R_succ (n : Nat) (f : Nat → Int) : R (n + 1) f = R n f ++ [f n] := by simp [R, List.range_succ]
theorem R_set {n : Nat} {f : Nat → Int} {i : Nat} {x : Int} : (R n f).set i x = R n (fun j => if j = i then x else f j) := by
  apply List.ext_getElem
  · rw [List.length_set, R_len, R_len]
  intro j h1 h2
  rw [List.getElem_set, R_get, R_get]
  by_cases e : i = j
  · rw [if_pos e, if_pos e.symm]
  · rw [if_neg e, if_neg (fun h => e h.symm)]
theorem R_rep (n : Nat) (x : Int) : List.replicate n x = R n (fun _ => x) := by
  apply List.ext_getElem
  · rw [List.length_replicate, R_len]
  intro j h1 h2
  rw [List.getElem_replicate, R_get]
theorem R_self (l : List Int) : R l.length (fun i => rd l (i : Int)) = l := by
  apply List.ext_getElem (R_len _ _)
  intro j h1 h2
  rw [R_get]
  unfold rd
  rw [Int.toNat_natCast, List.getD_eq_getElem?_getD, List.getElem?_eq_getElem h2]
  rfl
theorem R_L (n : Nat) (f : Nat → Nat) : L n f = R n (fun i => (f i : Int)) := rfl
/-- First l, then the list by. -/
def thr (l by_ : List Int) : List Int := R l.length (fun i => rd by_ (rd l (i : Int)))
theorem thr_len (l by_ : List Int) : (thr l by_).length = l.length := R_len _ _
/-- The values of l are places of a list of n elements. -/
def Into (l : List Int) (n : Nat) : Prop := ∀ i : Nat, i < l.length → 0 ≤ rd l (i : Int) ∧ rd l (i : Int) < (n : Int)
theorem through_ev {l by_ : List Int} (hl : l.length ≤ 1000) (h : Into l by_.length) : Ev (fun k => morphism_through.f k l by_) (thr l by_) := by
  have loop : ∀ d i, i + d = l.length → Ev (fun k => morphism_through.l0 k by_ (R l.length (fun j => if j < i then rd by_ (rd l (j : Int)) else 0)) l (l.length : Int) (i : Int)) (thr l by_) := by
    intro d
    induction d with
    | zero =>
      intro i hi
      refine Ev.step (fun k => morphism_through.l0.eq_2 ..) (neg (by omega) ?_)
      rw [show R l.length (fun j => if j < i then rd by_ (rd l (j : Int)) else 0) = thr l by_ from R_congr (fun j hj => if_pos (by omega))]
      exact Ev.now _
    | succ d ih =>
      intro i hi
      have hr := h i (by omega)
      refine Ev.step (fun k => morphism_through.l0.eq_2 ..) (pos (by omega) (pos (by omega) (pos (by omega) (pos hr.1 (pos hr.2 (pos (by rw [R_len]; omega) ?_))))))
      rw [Int.toNat_natCast, R_set, wrap_nat (by omega), show R l.length (fun j => if j = i then rd by_ (rd l (i : Int)) else if j < i then rd by_ (rd l (j : Int)) else 0) = R l.length (fun j => if j < i + 1 then rd by_ (rd l (j : Int)) else 0) from R_congr (fun j hj => by
        by_cases e : j = i
        · subst e
          rw [if_pos rfl, if_pos (by omega)]
        · rw [if_neg e]
          by_cases e2 : j < i
          · rw [if_pos e2, if_pos (by omega)]
          · rw [if_neg e2, if_neg (by omega)])]
      exact ih (i + 1) (by omega)
  unfold morphism_through.f
  refine pos (by omega) (pos (by omega) ?_)
  rw [Int.toNat_natCast, R_rep]
  have := loop l.length 0 (by omega)
  simp only [Nat.not_lt_zero, if_false] at this
  exact this
theorem Through_ev {l by_ : List Int} (hl : l.length ≤ 1000) (h : Into l by_.length) : Ev (fun k => scarfjointref06_Through.f k l by_) (thr l by_) := by
  have loop : ∀ d i, i + d = l.length → Ev (fun k => scarfjointref06_Through.l0 k l by_ (R i (fun j => rd by_ (rd l (j : Int)))) (i : Int)) (thr l by_) := by
    intro d
    induction d with
    | zero =>
      intro i hi
      refine Ev.step (fun k => scarfjointref06_Through.l0.eq_2 ..) (neg (by omega) ?_)
      rw [show i = l.length by omega]
      exact Ev.now _
    | succ d ih =>
      intro i hi
      have hr := h i (by omega)
      refine Ev.step (fun k => scarfjointref06_Through.l0.eq_2 ..) (pos (by omega) (pos (by omega) (pos hr.1 (pos hr.2 (pos (by rw [R_len]; omega) ?_)))))
      rw [wrap_nat (by omega), ← R_succ i (fun j => rd by_ (rd l (j : Int)))]
      exact ih (i + 1) (by omega)
  unfold scarfjointref06_Through.f
  exact loop l.length 0 (by omega)
theorem VM.into0 {aN : List Int} {aE : List S65} {bN : List Int} {bE : List S65} {mN mE : List Int} (h : VM aN aE bN bE mN mE) : Into mN bN.length := fun i hi => ⟨(h.n i (by rw [← h.ln]; exact hi)).1, (h.n i (by rw [← h.ln]; exact hi)).2.1⟩
theorem VM.into1 {aN : List Int} {aE : List S65} {bN : List Int} {bE : List S65} {mN mE : List Int} (h : VM aN aE bN bE mN mE) : Into mE bE.length := fun i hi => ⟨(h.e i (by rw [← h.le]; exact hi)).1, (h.e i (by rw [← h.le]; exact hi)).2.1⟩
theorem VM.short {aN : List Int} {aE : List S65} {bN : List Int} {bE : List S65} {mN mE : List Int} (h : VM aN aE bN bE mN mE) : mN.length ≤ 40 ∧ mE.length ≤ 80 := by
  rw [h.ln, h.le]
  exact ⟨h.lens.1, h.lens.2.1⟩
/-- What both compositions say. -/
theorem Compose_ev (aN : List Int) (aE : List S65) (bN : List Int) (bE : List S65) (cN : List Int) (cE : List S65) (mN mE nN nE : List Int) :
    ∃ r, Ev (fun k => morphism_Compose.f k aN aE bN bE cN cE mN mE nN nE) r ∧ Ev (fun k => scarfjointref06_Compose.f k aN aE bN bE cN cE mN mE nN nE) r ∧ r.1.length ≤ 1000 ∧ r.2.1.length ≤ 1000 ∧ (VM aN aE bN bE mN mE ∧ VM bN bE cN cE nN nE → r = (thr mN nN, thr mE nE, 0)) ∧ (r.2.2 = 0 → VM aN aE bN bE mN mE ∧ VM bN bE cN cE nN nE) := by
  obtain ⟨e, v1, v2, v3⟩ := mValid aN aE bN bE mN mE
  obtain ⟨f, w1, w2, w3⟩ := mValid bN bE cN cE nN nE
  unfold morphism_Compose.f scarfjointref06_Compose.f
  by_cases c1 : e = 0
  case neg => exact ⟨([], [], e), Ev.bind v1 (neg c1 (Ev.now _)), Ev.bind v2 (neg c1 (Ev.now _)), Nat.zero_le _, Nat.zero_le _, fun h => absurd (v3.2 h.1) c1, fun h => absurd h c1⟩
  by_cases c2 : f = 0
  case neg => exact ⟨([], [], f), Ev.bind v1 (pos c1 (Ev.bind w1 (neg c2 (Ev.now _)))), Ev.bind v2 (pos c1 (Ev.bind w2 (neg c2 (Ev.now _)))), Nat.zero_le _, Nat.zero_le _, fun h => absurd (w3.2 h.2) c2, fun h => absurd h c2⟩
  have v := v3.1 c1
  have w := w3.1 c2
  obtain ⟨l1, l2⟩ := v.short
  have i0 : Into mN nN.length := by rw [w.ln]; exact v.into0
  have i1 : Into mE nE.length := by rw [w.le]; exact v.into1
  refine ⟨(thr mN nN, thr mE nE, 0), Ev.bind v1 (pos c1 (Ev.bind w1 (pos c2 (Ev.bind (through_ev (by omega) i0) (Ev.bind (through_ev (by omega) i1) (Ev.now _)))))), Ev.bind v2 (pos c1 (Ev.bind w2 (pos c2 (Ev.bind (?_ : Ev _ (thr mN nN, thr mE nE)) (Ev.now _))))), by rw [thr_len]; omega, by rw [thr_len]; omega, fun _ => rfl, fun _ => ⟨v, w⟩⟩
  unfold scarfjointref06_Then.f
  exact Ev.bind (Through_ev (by omega) i0) (Ev.bind (Through_ev (by omega) i1) (Ev.now _))
end Go.Proofs.Ytklacpdobpkbbaa.P
