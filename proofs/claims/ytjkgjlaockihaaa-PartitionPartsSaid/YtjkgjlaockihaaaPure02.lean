/- Shared by the statements of chapter 02: awake, and the partitions of descriptions. -/
import Derived.Test.YtjkgjlaockihaaaBridge02b
import Derived.Test.YtjkgjlaockihaaaPx3
import Derived.Test.YtjkgjlaockihaaaPx9
namespace Go.Proofs.Ytjkgjlaockihaaa.P
open Go.RowKit Go.Proofs.YtjkgjlaockihaaaW.PrintWords Go.Proofs.YtjkgjlaockihaaaW.PrintLast Go.Proofs.YtjkgjlaockihaaaW.PrintMore
open Go.Proofs.Ytjkgjlaockihaaa.Part Go.Proofs.Ytjkgjlaockihaaa.EvAid
theorem awake_ev : Ev (fun k => scarfjointlaw02_awake.f k) true := Ev.of (scarfjointlaw02_awake.mono) (k := 60) (by kernel_rfl)
theorem Clone_e {a : List Int} (ha : a.length ≤ 1000000) : Ev (fun _ => slices_Clone_int_int.f a) a := ⟨0, fun _ _ => Clone_ev ha⟩
theorem Vd_upd {i : Nat} {f : Nat → Nat} (h : Vd i f) {v : Nat} (hv : v = i ∨ ∃ j, j < i ∧ v = f j) : Vd (i + 1) (upd f i v) := by
  intro m hm
  unfold upd
  by_cases e : m = i
  · subst e
    rw [if_pos rfl]
    rcases hv with rfl | ⟨j, hj, rfl⟩
    · exact ⟨Nat.le_refl _, if_pos rfl⟩
    · have := h j hj
      exact ⟨by omega, by rw [if_neg (by omega)]; exact this.2⟩
  · rw [if_neg e]
    have := h m (by omega)
    exact ⟨this.1, by rw [if_neg (by omega)]; exact this.2⟩
theorem L_upd (i : Nat) (f : Nat → Nat) (v : Nat) : L (i + 1) (upd f i v) = L i f ++ [(v : Int)] := by
  rw [L_succ, show upd f i v i = v from if_pos rfl, L_congr (fun j hj => (by unfold upd; exact if_neg (by omega)) : ∀ j, j < i → upd f i v j = f j)]
theorem Made_ev {l : List Int} (hl : ∀ x ∈ l, (Lit.int .u8 x).wf = true) : ∃ f, Vd (min l.length 12) f ∧ Ev (fun k => scarfjointref02_Made.f k l) (L (min l.length 12) f) := by
  have hb : ∀ i : Nat, i < l.length → 0 ≤ rd l (i : Int) ∧ rd l (i : Int) ≤ 255 := by
    intro i hi
    have h := hl (l[i]'hi) (List.getElem_mem _)
    simp only [Lit.wf, Bool.and_eq_true, IntKind.min, IntKind.max, IntKind.bits, IntKind.signed] at h
    simp only [rd, Int.toNat_natCast, List.getD_eq_getElem?_getD, List.getElem?_eq_getElem hi, Option.getD_some]
    simpa using h
  have loop : ∀ d i, i + d = min l.length 12 → ∀ f, Vd i f → ∃ g, Vd (min l.length 12) g ∧ Ev (fun k => scarfjointref02_Made.l0 k l (L i f) (i : Int)) (L (min l.length 12) g) := by
    intro d
    induction d with
    | zero =>
      intro i hi f hf
      obtain rfl : i = min l.length 12 := by omega
      refine ⟨f, hf, Ev.step (fun k => scarfjointref02_Made.l0.eq_2 ..) ?_⟩
      by_cases h : l.length < 13
      · by_cases h2 : l.length ≤ 11
        · exact neg (by omega) (Ev.step (fun k => scarfjointref02_Made.j1.eq_2 ..) (neg (by simp) (Ev.now _)))
        · refine neg (by omega) (Ev.step (fun k => scarfjointref02_Made.j1.eq_2 ..) (neg (by simp) (Ev.now _)))
      · refine pos (by omega) (Ev.step (fun k => scarfjointref02_Made.j1.eq_2 ..) (neg (by simp; omega) (Ev.now _)))
    | succ d ih =>
      intro i hi f hf
      have b := hb i (by omega)
      obtain ⟨v, hv, hgo⟩ : ∃ v : Nat, (v = i ∨ ∃ j, j < i ∧ v = f j) ∧ ∀ R, Ev (fun k => scarfjointref02_Made.l0 k l (L i f ++ [(v : Int)]) (wrap64 ((i : Int) + 1))) R → Ev (fun k => scarfjointref02_Made.l0 k l (L i f) (i : Int)) R := by
        have w1 : wrap64 (rd l (i : Int)) = rd l (i : Int) := wrap_self (by omega) (by omega)
        have w2 : wrap64 ((i : Int) + 2) = (i : Int) + 2 := wrap_self (by omega) (by omega)
        have tm : Int.tmod (rd l (i : Int)) ((i : Int) + 2) = rd l (i : Int) % ((i : Int) + 2) := Int.tmod_eq_emod_of_nonneg b.1
        have m0 := Int.emod_nonneg (rd l (i : Int)) (show ((i : Int) + 2) ≠ 0 by omega)
        have m1 := Int.emod_lt_of_pos (rd l (i : Int)) (show 0 < (i : Int) + 2 by omega)
        have start : ∀ R, Ev (fun k => scarfjointref02_Made.j1 k l (L i f) (i : Int) true) R → Ev (fun k => scarfjointref02_Made.l0 k l (L i f) (i : Int)) R := fun R h =>
          Ev.step (fun k => scarfjointref02_Made.l0.eq_2 ..) (pos (by omega) (by rw [show decide ((i : Int) < 12) = true from decide_eq_true (by omega)]; exact h))
        by_cases h1 : rd l (i : Int) % ((i : Int) + 2) > (i : Int)
        · refine ⟨i, .inl rfl, fun R h => start R (Ev.step (fun k => scarfjointref02_Made.j1.eq_2 ..) (pos rfl (pos (by omega) (pos (by omega) ?_))))⟩
          rw [w1, w2, tm]
          exact neg (by omega) (pos h1 (neg (by omega) (pos (by rw [L_len]; omega) h)))
        · by_cases h2 : rd l (i : Int) % ((i : Int) + 2) < (i : Int)
          · obtain ⟨m, hm⟩ := Int.eq_ofNat_of_zero_le m0
            have hmi : m < i := by omega
            refine ⟨f m, .inr ⟨m, hmi, rfl⟩, fun R h => start R (Ev.step (fun k => scarfjointref02_Made.j1.eq_2 ..) (pos rfl (pos (by omega) (pos (by omega) ?_))))⟩
            rw [w1, w2, tm, hm, rd_L (f := f) hmi]
            exact neg (by omega) (neg (by omega) (pos (by omega) (pos (by omega) (pos (by rw [L_len]; omega) (pos (by rw [L_len]; omega) h)))))
          · refine ⟨i, .inl rfl, fun R h => start R (Ev.step (fun k => scarfjointref02_Made.j1.eq_2 ..) (pos rfl (pos (by omega) (pos (by omega) ?_))))⟩
            rw [w1, w2, tm, show rd l (i : Int) % ((i : Int) + 2) = (i : Int) by omega]
            exact neg (by omega) (neg (by omega) (neg (by omega) (pos (by rw [L_len]; omega) h)))
      obtain ⟨g, hg, he⟩ := ih (i + 1) (by omega) (upd f i v) (Vd_upd hf hv)
      refine ⟨g, hg, hgo _ ?_⟩
      rw [L_upd] at he
      rw [wrap_nat (by omega)]
      exact he
  exact loop (min l.length 12) 0 (by omega) id (fun i hi => absurd hi (Nat.not_lt_zero i))
end Go.Proofs.Ytjkgjlaockihaaa.P
