/- Graphs and their morphisms by functions of natural numbers: plain mathematics, and how the lists of the program read as such. -/
import Derived.Test.YtklacpdobpkbbaaPart
import Derived.Test.YtklacpdobpkbbaaEvAid
import Derived.Test.YtklacpdobpkbbaaPx0
import Derived.Test.YtklacpdobpkbbaaPx8
namespace Go.Proofs.Ytklacpdobpkbbaa.Gr
open Go.RowKit Go.Proofs.Ytklacpdobpkbbaa.P Go.Proofs.YtklacpdobpkbbaaW.PrintWords Go.Proofs.YtklacpdobpkbbaaW.PrintLast Go.Proofs.YtklacpdobpkbbaaW.PrintMore
open Go.Proofs.Ytklacpdobpkbbaa.Part Go.Proofs.Ytklacpdobpkbbaa.EvAid
/-- A graph: n nodes of the types t, m edges of the types ty from fr tg to. -/
structure Gr where
  n : Nat
  t : Nat → Nat
  m : Nat
  ty : Nat → Nat
  fr : Nat → Nat
  tg : Nat → Nat
def Ed (m : Nat) (ty fr tg : Nat → Nat) : List S65 := (List.range m).map fun i => ⟨(ty i : Int), (fr i : Int), (tg i : Int)⟩
theorem E_len (m : Nat) (ty fr tg : Nat → Nat) : (Ed m ty fr tg).length = m := by simp [Ed]
theorem rd_E {m : Nat} {ty fr tg : Nat → Nat} {i : Nat} (h : i < m) : rd_T65 (Ed m ty fr tg) (i : Int) = ⟨(ty i : Int), (fr i : Int), (tg i : Int)⟩ := by
  unfold rd_T65 Ed
  rw [Int.toNat_natCast, List.getD_eq_getElem?_getD, List.getElem?_map, List.getElem?_range h]
  rfl
theorem E_congr {m : Nat} {ty fr tg ty' fr' tg' : Nat → Nat} (h : ∀ i, i < m → ty i = ty' i ∧ fr i = fr' i ∧ tg i = tg' i) : Ed m ty fr tg = Ed m ty' fr' tg' := by
  unfold Ed
  apply List.map_congr_left
  intro i hi
  obtain ⟨h1, h2, h3⟩ := h i (List.mem_range.1 hi)
  rw [h1, h2, h3]
theorem E_succ (m : Nat) (ty fr tg : Nat → Nat) : Ed (m + 1) ty fr tg = Ed m ty fr tg ++ [⟨(ty m : Int), (fr m : Int), (tg m : Int)⟩] := by simp [Ed, List.range_succ]
namespace Gr
def N (a : Gr) : List Int := L a.n a.t
def E (a : Gr) : List S65 := Ed a.m a.ty a.fr a.tg
end Gr
theorem N_len (a : Gr) : a.N.length = a.n := L_len _ _
theorem Ed_len (a : Gr) : a.E.length = a.m := E_len _ _ _ _
structure Ok (a : Gr) : Prop where
  n40 : a.n ≤ 40
  m80 : a.m ≤ 80
  t99 : ∀ i, i < a.n → a.t i ≤ 99
  ty99 : ∀ i, i < a.m → a.ty i ≤ 99
  fr : ∀ i, i < a.m → a.fr i < a.n
  tg : ∀ i, i < a.m → a.tg i < a.n
/-- f and g are a morphism from a tg b. -/
structure Mor (a b : Gr) (f g : Nat → Nat) : Prop where
  n : ∀ i, i < a.n → f i < b.n
  t : ∀ i, i < a.n → b.t (f i) = a.t i
  m : ∀ i, i < a.m → g i < b.m
  ty : ∀ i, i < a.m → b.ty (g i) = a.ty i
  fr : ∀ i, i < a.m → b.fr (g i) = f (a.fr i)
  tg : ∀ i, i < a.m → b.tg (g i) = f (a.tg i)
/-- The error of a graph. -/
def gE (l : List Int) (e : List S65) : Int := if l.length > 40 then 3 else if e.length > 80 then 3 else if (l.any fun x => !wB x 99) = true then 6 else if (e.any fun x => !fB x (l.length : Int)) = true then 6 else 0
theorem graph_Valid_e (l : List Int) (e : List S65) : graph_Valid.f l e = some (gE l e) := by
  unfold graph_Valid.f gE
  split
  · rfl
  split
  · rfl
  split
  · rfl
  split <;> rfl
theorem wB_iff {x m : Int} : wB x m = true ↔ 0 ≤ x ∧ x ≤ m := by
  unfold wB
  simp
theorem fB_iff {x : S65} {m : Nat} (hm : m ≤ 1000) : fB x (m : Int) = true ↔ (0 ≤ x.f0 ∧ x.f0 ≤ 99) ∧ (0 ≤ x.f1 ∧ x.f1 < (m : Int)) ∧ (0 ≤ x.f2 ∧ x.f2 < (m : Int)) := by
  unfold fB
  rw [wrap_self (by omega) (by omega)]
  simp only [Bool.and_eq_true, wB_iff]
  constructor
  · rintro ⟨h1, h2, h3⟩
    exact ⟨h1, ⟨h2.1, by omega⟩, ⟨h3.1, by omega⟩⟩
  · rintro ⟨h1, h2, h3⟩
    exact ⟨h1, ⟨h2.1, by omega⟩, ⟨h3.1, by omega⟩⟩
theorem gE_zero {l : List Int} {e : List S65} (h : gE l e = 0) : ∃ a : Gr, Ok a ∧ l = a.N ∧ e = a.E := by
  unfold gE at h
  split at h
  · simp at h
  split at h
  · simp at h
  split at h
  · simp at h
  split at h
  · simp at h
  rename_i h1 h2 h3 h4
  have hl : ∀ x ∈ l, 0 ≤ x ∧ x ≤ 99 := fun x hx => by
    have h5 : ∀ x ∈ l, wB x 99 = true := by simpa using h3
    exact wB_iff.1 (h5 x hx)
  have he : ∀ x ∈ e, (0 ≤ x.f0 ∧ x.f0 ≤ 99) ∧ (0 ≤ x.f1 ∧ x.f1 < (l.length : Int)) ∧ (0 ≤ x.f2 ∧ x.f2 < (l.length : Int)) := fun x hx => by
    have h5 : ∀ x ∈ e, fB x (l.length : Int) = true := by simpa using h4
    exact (fB_iff (by omega)).1 (h5 x hx)
  have hrl : ∀ i : Nat, i < l.length → 0 ≤ rd l (i : Int) ∧ rd l (i : Int) ≤ 99 := fun i hi => by
    unfold rd
    rw [Int.toNat_natCast, List.getD_eq_getElem?_getD, List.getElem?_eq_getElem hi]
    exact hl _ (List.getElem_mem hi)
  have hre : ∀ i (hi : i < e.length), rd_T65 e (i : Int) = e[i] := fun i hi => by
    unfold rd_T65
    rw [Int.toNat_natCast, List.getD_eq_getElem?_getD, List.getElem?_eq_getElem hi]
    rfl
  refine ⟨⟨l.length, fun i => (rd l (i : Int)).toNat, e.length, fun i => (rd_T65 e (i : Int)).f0.toNat, fun i => (rd_T65 e (i : Int)).f1.toNat, fun i => (rd_T65 e (i : Int)).f2.toNat⟩, ⟨by show l.length ≤ 40; omega, by show e.length ≤ 80; omega, fun i hi => ?_, fun i hi => ?_, fun i hi => ?_, fun i hi => ?_⟩, of_list (fun i hi => (hrl i hi).1), ?_⟩
  · have := hrl i hi
    show (rd l (i : Int)).toNat ≤ 99
    omega
  · have := he _ (List.getElem_mem (show i < e.length from hi))
    show (rd_T65 e (i : Int)).f0.toNat ≤ 99
    rw [hre i hi]
    omega
  · have := he _ (List.getElem_mem (show i < e.length from hi))
    show (rd_T65 e (i : Int)).f1.toNat < l.length
    rw [hre i hi]
    omega
  · have := he _ (List.getElem_mem (show i < e.length from hi))
    show (rd_T65 e (i : Int)).f2.toNat < l.length
    rw [hre i hi]
    omega
  · have h7 : e = (List.range e.length).map (fun i : Nat => rd_T65 e (i : Int)) := by
      apply List.ext_getElem
      · simp
      intro i h5 h6
      rw [List.getElem_map, List.getElem_range, hre i h5]
    refine h7.trans (List.map_congr_left (fun i hi => ?_))
    have h5 : i < e.length := List.mem_range.1 hi
    have := he _ (List.getElem_mem h5)
    rw [hre i h5]
    show e[i] = ⟨(((rd_T65 e (i : Int)).f0.toNat : Nat) : Int), (((rd_T65 e (i : Int)).f1.toNat : Nat) : Int), (((rd_T65 e (i : Int)).f2.toNat : Nat) : Int)⟩
    rw [hre i h5, Int.toNat_of_nonneg this.1.1, Int.toNat_of_nonneg this.2.1.1, Int.toNat_of_nonneg this.2.2.1]
theorem gE_ok {a : Gr} (h : Ok a) : gE a.N a.E = 0 := by
  unfold gE
  rw [N_len, Ed_len, if_neg (by have := h.n40; omega), if_neg (by have := h.m80; omega), if_neg, if_neg]
  · intro h1
    obtain ⟨x, hx, h2⟩ := List.any_eq_true.1 h1
    obtain ⟨i, hi, rfl⟩ := List.mem_map.1 hx
    have hi := List.mem_range.1 hi
    have h3 : fB ⟨(a.ty i : Int), (a.fr i : Int), (a.tg i : Int)⟩ (a.n : Int) = true := (fB_iff (by have := h.n40; omega)).2 (by
      have h4 := h.ty99 i hi
      have h5 := h.fr i hi
      have h6 := h.tg i hi
      show (0 ≤ (a.ty i : Int) ∧ (a.ty i : Int) ≤ 99) ∧ (0 ≤ (a.fr i : Int) ∧ (a.fr i : Int) < (a.n : Int)) ∧ (0 ≤ (a.tg i : Int) ∧ (a.tg i : Int) < (a.n : Int))
      omega)
    rw [h3] at h2
    cases h2
  · intro h1
    obtain ⟨x, hx, h2⟩ := List.any_eq_true.1 h1
    obtain ⟨i, hi, rfl⟩ := List.mem_map.1 hx
    have h3 : wB (a.t i : Int) 99 = true := wB_iff.2 (by have := h.t99 i (List.mem_range.1 hi); omega)
    rw [h3] at h2
    cases h2
/-- The error of a morphism between graphs without errors, by the loops of the program. -/
def mE1 (a b : Gr) (f : Nat → Nat) (l : List Int) : Nat → Nat → Int
  | 0, _ => 0
  | d + 1, i => if rd l (i : Int) < 0 then 6 else if rd l (i : Int) ≥ (b.m : Int) then 6 else if a.ty i = b.ty (rd l (i : Int)).toNat then (if f (a.fr i) = b.fr (rd l (i : Int)).toNat then (if f (a.tg i) = b.tg (rd l (i : Int)).toNat then mE1 a b f l d (i + 1) else 11) else 11) else 13
def mE0 (a b : Gr) (l : List Int) : Nat → Nat → Int
  | 0, _ => 0
  | d + 1, i => if rd l (i : Int) < 0 then 6 else if rd l (i : Int) ≥ (b.n : Int) then 6 else if b.t (rd l (i : Int)).toNat = a.t i then mE0 a b l d (i + 1) else 13
end Go.Proofs.Ytklacpdobpkbbaa.Gr
