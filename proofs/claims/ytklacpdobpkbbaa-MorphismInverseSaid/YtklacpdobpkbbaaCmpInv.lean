/- Inverse: the program's and the reference's say the same, and what they say is an inverse. -/
import Derived.Test.YtklacpdobpkbbaaCmp
import Derived.Test.YtklacpdobpkbbaaInj
import Derived.Test.YtklacpdobpkbbaaPx19
import Derived.Test.YtklacpdobpkbbaaPx24
import Derived.Test.YtklacpdobpkbbaaPx25
namespace Go.Proofs.Ytklacpdobpkbbaa.P
open Go.RowKit Go.Proofs.YtklacpdobpkbbaaW.PrintWords Go.Proofs.YtklacpdobpkbbaaW.PrintLast Go.Proofs.YtklacpdobpkbbaaW.PrintMore
open Go.Proofs.Ytklacpdobpkbbaa.Part Go.Proofs.Ytklacpdobpkbbaa.EvAid Go.Proofs.Ytklacpdobpkbbaa.Gr
theorem Finest_ev {n : Nat} (hn : n ≤ 1000) : Ev (fun k => scarfjointref02_Finest.f k (n : Int)) (L n id) := by
  have loop : ∀ d i, i + d = n → Ev (fun k => scarfjointref02_Finest.l0 k (n : Int) (L i id) (i : Int)) (L n id) := by
    intro d
    induction d with
    | zero =>
      intro i hi
      obtain rfl : i = n := by omega
      refine Ev.step (fun k => scarfjointref02_Finest.l0.eq_2 ..) (neg (by omega) (Ev.now _))
    | succ d ih =>
      intro i hi
      refine Ev.step (fun k => scarfjointref02_Finest.l0.eq_2 ..) (pos (by omega) (pos (by rw [L_len]; omega) ?_))
      have h := ih (i + 1) (by omega)
      rw [L_succ] at h
      rw [wrap_nat (by omega)]
      exact h
  unfold scarfjointref02_Finest.f
  exact loop n 0 (by omega)
theorem Of_ev {l : List Int} {e : List S65} (hl : l.length ≤ 1000) (he : e.length ≤ 1000) : Ev (fun k => scarfjointref06_Of.f k l e) (L l.length id, L e.length id) := by
  unfold scarfjointref06_Of.f
  exact Ev.bind (Finest_ev hl) (Ev.bind (Finest_ev he) (Ev.now _))
/-- l is a bijection of n numbers, and g goes back. -/
structure Bij (l : List Int) (n : Nat) (g : Nat → Nat) : Prop where
  len : l.length = n
  back : ∀ c, c < n → g c < n ∧ rd l (g c : Int) = (c : Int)
  forth : ∀ i, i < n → ∃ c, c < n ∧ rd l (i : Int) = (c : Int) ∧ g c = i
theorem bij_of {l : List Int} {n : Nat} (hi : Into l n) (hd : l.Nodup) (hc : ∀ c : Nat, c < n → (c : Int) ∈ l) : ∃ g, Bij l n g := by
  have hin : ∀ x ∈ l, 0 ≤ x ∧ x < (n : Int) := fun x hx => by
    obtain ⟨i, h, rfl⟩ := List.getElem_of_mem hx
    rw [← rd_at h]
    exact hi i h
  have hn : l.length = n := by rw [← (dcnt_iff l).2 hd, (dcnt_cover hin).2 hc]
  have ex : ∀ c, ∃ i, c < n → i < n ∧ rd l (i : Int) = (c : Int) := fun c => by
    by_cases h : c < n
    · obtain ⟨i, h1, h2⟩ := List.getElem_of_mem (hc c h)
      exact ⟨i, fun _ => ⟨by omega, by rw [rd_at h1, h2]⟩⟩
    · exact ⟨0, fun h' => absurd h' h⟩
  refine ⟨fun c => (ex c).choose, hn, fun c h => (ex c).choose_spec h, fun i h => ?_⟩
  obtain ⟨h1, h2⟩ := hi i (by omega)
  have h3 : (rd l (i : Int)).toNat < n := by omega
  refine ⟨(rd l (i : Int)).toNat, h3, (Int.toNat_of_nonneg h1).symm, ?_⟩
  obtain ⟨h4, h5⟩ := (ex (rd l (i : Int)).toNat).choose_spec h3
  replace h5 := h5.trans (Int.toNat_of_nonneg h1)
  have h6 : (ex (rd l (i : Int)).toNat).choose < l.length := by omega
  have h7 : i < l.length := by omega
  have h8 := (rd_at h6).symm.trans (h5.trans (rd_at h7))
  rcases Nat.lt_trichotomy (ex (rd l (i : Int)).toNat).choose i with h9 | h9 | h9
  · exact absurd h8 (List.pairwise_iff_getElem.1 hd _ i h6 h7 h9)
  · exact h9
  · exact absurd h8.symm (List.pairwise_iff_getElem.1 hd i _ h7 h6 h9)
theorem Bij.same {l : List Int} {n : Nat} {g : Nat → Nat} (h : Bij l n g) {i c : Nat} (hi : i < n) (hc : c < n) : rd l (i : Int) = (c : Int) ↔ i = g c := by
  constructor
  · intro e
    obtain ⟨c', h1, h2, h3⟩ := h.forth i hi
    obtain rfl : c = c' := by omega
    exact h3.symm
  · rintro rfl
    exact (h.back c hc).2
theorem back_ev {l : List Int} {n : Nat} {g : Nat → Nat} (h : Bij l n g) (hn : n ≤ 1000) : Ev (fun k => morphism_back.f k l) (L n g) := by
  have hl := h.len
  have loop : ∀ d i, i + d = n → Ev (fun k => morphism_back.l0 k (L n (fun c => if g c < i then g c else 0)) l (l.length : Int) (i : Int)) (L n g) := by
    intro d
    induction d with
    | zero =>
      intro i hi
      refine Ev.step (fun k => morphism_back.l0.eq_2 ..) (neg (by omega) ?_)
      rw [show L n (fun c => if g c < i then g c else 0) = L n g from L_congr (fun c hc => if_pos (by have := (h.back c hc).1; omega))]
      exact Ev.now _
    | succ d ih =>
      intro i hi
      obtain ⟨c, h1, h2, h3⟩ := h.forth i (by omega)
      refine Ev.step (fun k => morphism_back.l0.eq_2 ..) (pos (by omega) (pos (by omega) (pos (by omega) (pos (by omega) (pos (by rw [L_len]; omega) ?_)))))
      rw [h2, Int.toNat_natCast, L_set, wrap_nat (by omega), show L n (upd (fun c => if g c < i then g c else 0) c i) = L n (fun c => if g c < i + 1 then g c else 0) from L_congr (fun j hj => by
        unfold upd
        by_cases e : j = c
        · subst e
          rw [if_pos rfl, if_pos (by omega), h3]
        · rw [if_neg e]
          have : g j ≠ i := fun e2 => e (by
            have h4 := (h.back j hj).2
            rw [e2, h2] at h4
            omega)
          show (if g j < i then g j else 0) = if g j < i + 1 then g j else 0
          by_cases e2 : g j < i
          · rw [if_pos e2, if_pos (by omega)]
          · rw [if_neg e2, if_neg (by omega)])]
      exact ih (i + 1) (by omega)
  unfold morphism_back.f
  refine pos (by omega) (pos (by omega) ?_)
  rw [Int.toNat_natCast, hl, show List.replicate n (0 : Int) = L n (fun c => if g c < 0 then g c else 0) from by
    apply List.ext_getElem
    · rw [List.length_replicate, L_len]
    intro j _ _
    simp [L]]
  have := loop n 0 (by omega)
  rw [hl] at this
  exact this
theorem set_last {xs : List Int} {t x : Int} {n : Nat} (h : xs.length = n) : (xs ++ [t]).set n x = xs ++ [x] := by
  subst h
  simp
theorem Back_ev {l : List Int} {n : Nat} {g : Nat → Nat} (h : Bij l n g) (hn : n ≤ 1000) : Ev (fun k => scarfjointref06_Back.f k l (n : Int)) (L n g) := by
  have hl := h.len
  have loop : ∀ d c, c + d = n → Ev (fun k => scarfjointref06_Back.l0 k l (n : Int) (L c g) (c : Int)) (L n g) := by
    intro d
    induction d with
    | zero =>
      intro c hc
      obtain rfl : c = n := by omega
      exact Ev.step (fun k => scarfjointref06_Back.l0.eq_2 ..) (neg (by omega) (Ev.now _))
    | succ d ih =>
      intro c hc
      have hcn : c < n := by omega
      have inner : ∀ b j, j + b = n → Ev (fun k => scarfjointref06_Back.l1 k l (n : Int) (L c g ++ [if g c < j then (g c : Int) else -1]) (c : Int) (j : Int)) (L n g) := by
        intro b
        induction b with
        | zero =>
          intro j hj
          refine Ev.step (fun k => scarfjointref06_Back.l1.eq_2 ..) (neg (by omega) ?_)
          rw [if_pos (by have := (h.back c hcn).1; omega), wrap_nat (by omega), ← L_succ]
          exact ih (c + 1) (by omega)
        | succ b ihb =>
          intro j hj
          refine Ev.step (fun k => scarfjointref06_Back.l1.eq_2 ..) (pos (by omega) (pos (by omega) ?_))
          have hs := h.same (i := j) (c := c) (by omega) hcn
          have h1 := ihb (j + 1) (by omega)
          by_cases e : rd l (j : Int) = (c : Int)
          · refine pos e (pos (by omega) (pos (by rw [List.length_append, L_len, List.length_singleton]; omega) ?_))
            rw [Int.toNat_natCast, set_last (L_len c g), wrap_nat (by omega)]
            rw [if_pos (by have := hs.1 e; omega), ← hs.1 e] at h1
            exact h1
          · refine neg e ?_
            rw [wrap_nat (by omega)]
            have hne : g c ≠ j := fun e2 => e (hs.2 e2.symm)
            by_cases e2 : g c < j
            · rw [if_pos e2]
              rw [if_pos (by omega)] at h1
              exact h1
            · rw [if_neg e2]
              rw [if_neg (by omega)] at h1
              exact h1
      refine Ev.step (fun k => scarfjointref06_Back.l0.eq_2 ..) (pos (by omega) (pos (by rw [L_len]; omega) ?_))
      have := inner n 0 (by omega)
      rw [if_neg (Nat.not_lt_zero _)] at this
      exact this
  unfold scarfjointref06_Back.f
  exact loop n 0 (by omega)
theorem thr_back {l : List Int} {n : Nat} {g : Nat → Nat} (h : Bij l n g) : thr l (L n g) = L n id := by
  unfold thr
  rw [h.len, R_L n id]
  refine R_congr (fun i hi => ?_)
  obtain ⟨c, h1, h2, h3⟩ := h.forth i hi
  rw [h2, rd_L h1, h3]
  rfl
theorem back_thr {l : List Int} {n : Nat} {g : Nat → Nat} (h : Bij l n g) : thr (L n g) l = L n id := by
  unfold thr
  rw [L_len, R_L n id]
  refine R_congr (fun c hc => ?_)
  rw [rd_L hc, (h.back c hc).2]
  rfl
theorem VM.inv {aN : List Int} {aE : List S65} {bN : List Int} {bE : List S65} {mN mE : List Int} (h : VM aN aE bN bE mN mE) {n m : Nat} {g f : Nat → Nat} (h0 : Bij mN n g) (h1 : Bij mE m f) (hn : bN.length = n) (hm : bE.length = m) : VM bN bE aN aE (L n g) (L m f) := by
  have l0 := h0.len
  have l1 := h1.len
  have k0 := h.ln
  have k1 := h.le
  refine ⟨h.b, h.a, by rw [L_len, hn], by rw [L_len, hm], fun j hj => ?_, fun j hj => ?_⟩
  · obtain ⟨b1, b2⟩ := h0.back j (by omega)
    have := (h.n (g j) (by omega)).2.2
    unfold Good0
    rw [rd_L (by omega)]
    rw [b2] at this
    exact ⟨by omega, by omega, this.symm⟩
  · obtain ⟨b1, b2⟩ := h1.back j (by omega)
    have hg := h.e (f j) (by omega)
    unfold Good1 at hg ⊢
    rw [b2] at hg
    rw [rd_L (by omega)]
    obtain ⟨a, ha, ea, ee⟩ := gE_zero h.a
    have hf : f j < a.m := by
      rw [ee, Ed_len] at k1
      omega
    have hr : rd_T65 aE (f j : Int) = ⟨(a.ty (f j) : Int), (a.fr (f j) : Int), (a.tg (f j) : Int)⟩ := by
      rw [ee]
      exact rd_E hf
    have na : n = a.n := by
      rw [ea, N_len] at k0
      omega
    have key : ∀ x, x < a.n → ∀ y, rd mN (x : Int) = y → rd (L n g) y = (x : Int) := fun x hx y hy => by
      obtain ⟨c, c1, c2, c3⟩ := h0.forth x (by omega)
      rw [← hy, c2, rd_L c1, c3]
    rw [hr] at hg ⊢
    exact ⟨by omega, by omega, hg.2.2.1.symm, key _ (ha.fr _ hf) _ hg.2.2.2.1, key _ (ha.tg _ hf) _ hg.2.2.2.2⟩
open Classical in
/-- What both inverses say. -/
theorem Inverse_ev (aN : List Int) (aE : List S65) (bN : List Int) (bE : List S65) (mN mE : List Int) :
    ∃ r, Ev (fun k => morphism_Inverse.f k aN aE bN bE mN mE) r ∧ Ev (fun k => scarfjointref06_Inverse.f k aN aE bN bE mN mE) r ∧ r.1.length ≤ 1000 ∧ r.2.1.length ≤ 1000 ∧ (r.2.2 = 0 → VM aN aE bN bE mN mE ∧ ∃ g f, Bij mN bN.length g ∧ Bij mE bE.length f ∧ r = (L bN.length g, L bE.length f, 0)) := by
  obtain ⟨e, v1, v2, v3⟩ := mValid aN aE bN bE mN mE
  obtain ⟨i1, i2⟩ := Injective_ev aN aE bN bE mN mE
  obtain ⟨s1, s2⟩ := Surjective_ev aN aE bN bE mN mE
  unfold morphism_Inverse.f scarfjointref06_Inverse.f
  by_cases c1 : e = 0
  case neg => exact ⟨([], [], e), Ev.bind v1 (neg c1 (Ev.now _)), Ev.bind v2 (neg c1 (Ev.now _)), Nat.zero_le _, Nat.zero_le _, fun h => absurd h c1⟩
  by_cases c2 : InjP aN aE bN bE mN mE
  case neg =>
    rw [decide_eq_false c2] at i1 i2
    exact ⟨([], [], 10), Ev.bind v1 (pos c1 (Ev.bind i1 (neg (by simp) (Ev.step (fun k => morphism_Inverse.j0.eq_2 ..) (pos rfl (Ev.now _)))))), Ev.bind v2 (pos c1 (Ev.bind i2 (neg (by simp) (Ev.step (fun k => scarfjointref06_Inverse.j0.eq_2 ..) (pos rfl (Ev.now _)))))), Nat.zero_le _, Nat.zero_le _, fun h => by simp at h⟩
  rw [decide_eq_true c2] at i1 i2
  by_cases c3 : SurP aN aE bN bE mN mE
  case neg =>
    rw [decide_eq_false c3] at s1 s2
    exact ⟨([], [], 10), Ev.bind v1 (pos c1 (Ev.bind i1 (pos rfl (Ev.bind s1 (Ev.step (fun k => morphism_Inverse.j0.eq_2 ..) (pos rfl (Ev.now _))))))), Ev.bind v2 (pos c1 (Ev.bind i2 (pos rfl (Ev.bind s2 (Ev.step (fun k => scarfjointref06_Inverse.j0.eq_2 ..) (pos rfl (Ev.now _))))))), Nat.zero_le _, Nat.zero_le _, fun h => by simp at h⟩
  rw [decide_eq_true c3] at s1 s2
  obtain ⟨l1, l2, l3, l4⟩ := c2.1.lens
  obtain ⟨g, hg⟩ := bij_of c2.1.into0 c2.2.1 c3.2.1
  obtain ⟨f, hf⟩ := bij_of c2.1.into1 c2.2.2 c3.2.2
  exact ⟨(L bN.length g, L bE.length f, 0), Ev.bind v1 (pos c1 (Ev.bind i1 (pos rfl (Ev.bind s1 (Ev.step (fun k => morphism_Inverse.j0.eq_2 ..) (neg (by simp) (Ev.bind (back_ev hg (by omega)) (Ev.bind (back_ev hf (by omega)) (Ev.now _))))))))), Ev.bind v2 (pos c1 (Ev.bind i2 (pos rfl (Ev.bind s2 (Ev.step (fun k => scarfjointref06_Inverse.j0.eq_2 ..) (neg (by simp) (Ev.bind (Back_ev hg (by omega)) (Ev.bind (Back_ev hf (by omega)) (Ev.now _))))))))), by rw [L_len]; omega, by rw [L_len]; omega, fun _ => ⟨c2.1, g, f, hg, hf, rfl⟩⟩
end Go.Proofs.Ytklacpdobpkbbaa.P
