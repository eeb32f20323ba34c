/- From a value that is read (DataW.trod) to the rows of a printed contract (Kd.K, Kd.C): for numbers, bools, strings, slices, structs and arrays of these. -/
import Derived.Test.YtklacpdobpkbbaaU
import Derived.Deep.Slices
import Derived.ChangeSlices
import Derived.ChangeArms
import Derived.DataReads
import Derived.SizedLaws
namespace Go.Proofs.Ytklacpdobpkbbaa.Opens
open Go.RowKit Go.ChangeShapes Go.WideShapes Go.Deep Go.Proofs.YtklacpdobpkbbaaW.PrintWords
section
variable {H : Type} (enc : TypeId × Value → H) (P : Program) (W : World) (base : Nat) (spare : Nat → Bool) (held : Bool)
/-- Whatever is read at type t is a value of kind k. -/
def Opn {α : Type} (t : TypeId) (k : Kd α) (ok : α → Prop) : Prop := ∀ fuel cs x, DataW.trod enc P W base spare held fuel t cs = some x → ∃ p, k.K W p cs ∧ ok p
/-- The same of fields from a place on. -/
def OpnF {α : Type} (fs : List (TypeId × Nat)) (off : Nat) (k : Kd α) (ok : α → Prop) : Prop :=
  ∀ cs : List Value, (∀ f ∈ fs, ∃ n x, DataW.trod enc P W base spare held n f.1 ((cs.drop f.2).take (P.cellsOf f.1)) = some x) → off + k.sz ≤ cs.length → ∃ p, k.K W p ((cs.drop off).take k.sz) ∧ ok p
end
section
variable {H : Type} {enc : TypeId × Value → H} {P : Program} {W : World} {base : Nat} {spare : Nat → Bool} {held : Bool}
theorem Opn.weaken {α : Type} {t : TypeId} {k : Kd α} {ok ok' : α → Prop} (h : Opn enc P W base spare held t k ok) (w : ∀ p, ok p → ok' p) : Opn enc P W base spare held t k ok' := fun fuel cs x hx => let ⟨p, hp, ho⟩ := h fuel cs x hx; ⟨p, hp, w p ho⟩
theorem Opn.int {t : TypeId} {kk : IntKind} (ht : P.underlying t = some (.int kk)) : Opn enc P W base spare held t (Kd.int kk) (fun z => (Lit.int kk z).wf = true) := by
  intro fuel cs x hx
  obtain ⟨n, rfl, _, hw⟩ := DataW.trod_int ht hx
  exact ⟨n, rfl, hw⟩
theorem Opn.bool {t : TypeId} (ht : P.underlying t = some .bool) : Opn enc P W base spare held t Kd.bool (fun _ => True) := by
  intro fuel cs x hx
  obtain ⟨b, rfl, _⟩ := DataW.trod_bool ht hx
  exact ⟨b, rfl, trivial⟩
theorem Opn.string {t : TypeId} (ht : P.underlying t = some .string) : Opn enc P W base spare held t Kd.string (fun s => s.size ≤ maxLen) := by
  intro fuel cs x hx
  obtain ⟨s, rfl, _, hs⟩ := DataW.trod_string ht hx
  exact ⟨s, rfl, hs⟩
theorem Opn.slice {α : Type} {t e : TypeId} {k : Kd α} {ok : α → Prop} (ht : P.underlying t = some (.slice e)) (hc : P.cellsOf e = k.sz) (h : Opn enc P W base spare held e k ok) :
    Opn enc P W base spare held t (Kd.slice e k) (fun l => l.length ≤ maxLen ∧ ∀ x ∈ l, ok x) := by
  intro fuel cs x hx
  rcases open_slice ht hx with ⟨rfl, _⟩ | ⟨a, len, cap, m, n, D, Pl, rfl, hb, hl, hm, hmm, _, hall⟩
  · exact ⟨[], ⟨none, 0, rfl, Nat.le_refl _, rfl, Nat.zero_le _, fun h => absurd h (Nat.lt_irrefl _)⟩, Nat.zero_le _, fun x hx => by cases hx⟩
  · have hlm : len ≤ m := by rw [hmm]; split <;> omega
    have each : ∀ i, i < len → ∃ p, ok p ∧ ∃ c, c.length = k.sz ∧ k.K W p c ∧ ∀ j u, c[j]? = some u → W.cell? (a.add (i * k.sz + j)) = some u := by
      intro i hi
      obtain ⟨cs', h1, h2⟩ := hall i (by omega)
      obtain ⟨p, hp, ho⟩ := h n cs' _ h2
      obtain ⟨_, hlen, hcell⟩ := World.cells?_some h1
      refine ⟨p, ho, cs', by rw [hlen, hc], hp, fun j u hu => ?_⟩
      have hj : j < cs'.length := (List.getElem?_eq_some_iff.1 hu).1
      have := hcell j (by omega)
      rw [Deep.add_add, hc, hu] at this
      exact this
    have ex : ∀ l', l' ≤ len → ∃ ps : List α, ps.length = l' ∧ (∀ j p, ps[j]? = some p → ok p ∧ ∃ c, c.length = k.sz ∧ k.K W p c ∧ ∀ i u, c[i]? = some u → W.cell? (a.add (j * k.sz + i)) = some u) := by
      intro l'
      induction l' with
      | zero => exact fun _ => ⟨[], rfl, fun j p hp => by simp at hp⟩
      | succ l' ih =>
        intro hl'
        obtain ⟨ps, hps, hp⟩ := ih (by omega)
        obtain ⟨p, hpo, hpc⟩ := each l' (by omega)
        refine ⟨ps ++ [p], by simp [hps], fun j q hq => ?_⟩
        by_cases hj : j < ps.length
        · rw [List.getElem?_append_left hj] at hq
          exact hp j q hq
        · have hj2 : j < (ps ++ [p]).length := (List.getElem?_eq_some_iff.1 hq).1
          simp at hj2
          obtain rfl : j = l' := by omega
          rw [List.getElem?_append_right (by omega), hps] at hq
          simp at hq
          subst hq
          exact ⟨hpo, hpc⟩
    obtain ⟨ps, hps, hp⟩ := ex len (Nat.le_refl _)
    have hmax : maxLen ≤ 9223372036854775807 := by decide
    refine ⟨ps, ⟨some a, cap, by rw [hps], by omega, rfl, by omega, fun _ => ⟨a, rfl, fun j p hj => (hp j p hj).2⟩⟩, by omega, fun x hx => ?_⟩
    obtain ⟨j, hj⟩ := List.mem_iff_getElem?.1 hx
    exact (hp j x hj).1
theorem Opn.iso {α β : Type} {t : TypeId} {d : Kd α} {ok : α → Prop} (h : Opn enc P W base spare held t d ok) (f : β → α) (g : α → β) (hg : ∀ a, f (g a) = a) : Opn enc P W base spare held t (Kd.iso d f) (fun b => ok (f b)) := by
  intro fuel cs x hx
  obtain ⟨p, hp, ho⟩ := h fuel cs x hx
  refine ⟨g p, ?_, ?_⟩
  · show d.K W (f (g p)) cs
    rw [hg]
    exact hp
  · show ok (f (g p))
    rw [hg]
    exact ho
theorem OpnF.one {α : Type} {t : TypeId} {off : Nat} {k : Kd α} {ok : α → Prop} (hc : P.cellsOf t = k.sz) (h : Opn enc P W base spare held t k ok) : OpnF enc P W base spare held [(t, off)] off k ok := by
  intro cs hf hl
  obtain ⟨n, x, hx⟩ := hf (t, off) (List.mem_singleton.2 rfl)
  rw [hc] at hx
  exact h n _ x hx
theorem OpnF.cons {α β : Type} {t : TypeId} {off : Nat} {a : Kd α} {b : Kd β} {ok : α → Prop} {ok' : β → Prop} {fs : List (TypeId × Nat)} (hc : P.cellsOf t = a.sz) (h : Opn enc P W base spare held t a ok) (h' : OpnF enc P W base spare held fs (off + a.sz) b ok') :
    OpnF enc P W base spare held ((t, off) :: fs) off (Kd.pair a b) (fun p => ok p.1 ∧ ok' p.2) := by
  intro cs hf hl
  have hl' : off + (a.sz + b.sz) ≤ cs.length := hl
  obtain ⟨n, x, hx⟩ := hf (t, off) (List.mem_cons_self ..)
  rw [hc] at hx
  obtain ⟨p, hp, ho⟩ := h n _ x hx
  obtain ⟨q, hq, ho'⟩ := h' cs (fun f hf' => hf f (List.mem_cons_of_mem _ hf')) (by omega)
  refine ⟨(p, q), ⟨_, _, ?_, hp, hq⟩, ho, ho'⟩
  show (cs.drop off).take (a.sz + b.sz) = _
  rw [List.take_add, List.drop_drop]
theorem mapM_some_all {α β : Type} {f : α → Option β} : ∀ {l : List α} {r : List β}, l.mapM f = some r → ∀ x ∈ l, ∃ y, f x = some y := by
  intro l
  induction l with
  | nil => intro r _ x hx; cases hx
  | cons a l ih =>
    intro r h x hx
    rw [List.mapM_cons] at h
    obtain ⟨y, hy, h⟩ := Option.bind_eq_some_iff.1 h
    obtain ⟨ys, hys, _⟩ := Option.bind_eq_some_iff.1 h
    rcases List.mem_cons.1 hx with rfl | hx
    · exact ⟨y, hy⟩
    · exact ih hys x hx
theorem Opn.struct {α : Type} {t : TypeId} {fs : Array Field} {k : Kd α} {ok : α → Prop} (ht : P.underlying t = some (.struct fs)) (hc : P.cellsOf t = k.sz) (h : OpnF enc P W base spare held (fs.toList.map fun f => (f.type, f.offset)) 0 k ok) : Opn enc P W base spare held t k ok := by
  intro fuel cs x hx
  cases fuel with
  | zero => simp [DataW.trod] at hx
  | succ n =>
    unfold DataW.trod at hx
    rw [ht] at hx
    simp only at hx
    split at hx
    · rename_i hl
      obtain ⟨xs, hxs, _⟩ := Option.map_eq_some_iff.1 hx
      obtain ⟨p, hp, ho⟩ := h cs (fun f hf => by
        obtain ⟨g, hg, rfl⟩ := List.mem_map.1 hf
        obtain ⟨y, hy⟩ := mapM_some_all hxs g hg
        exact ⟨n, y, hy⟩) (by omega)
      refine ⟨p, ?_, ho⟩
      rwa [List.drop_zero, List.take_of_length_le (by omega)] at hp
    · simp at hx
theorem Opn.array {α : Type} {t e : TypeId} {m : Nat} {k : Kd α} {ok : α → Prop} (ht : P.underlying t = some (.array m e)) (hc : P.cellsOf t = k.sz) (h : OpnF enc P W base spare held ((List.range m).map fun i => (e, i * P.cellsOf e)) 0 k ok) : Opn enc P W base spare held t k ok := by
  intro fuel cs x hx
  cases fuel with
  | zero => simp [DataW.trod] at hx
  | succ n =>
    unfold DataW.trod at hx
    rw [ht] at hx
    simp only at hx
    split at hx
    · rename_i hl
      obtain ⟨xs, hxs, _⟩ := Option.map_eq_some_iff.1 hx
      obtain ⟨p, hp, ho⟩ := h cs (fun f hf => by
        obtain ⟨g, hg, rfl⟩ := List.mem_map.1 hf
        obtain ⟨y, hy⟩ := mapM_some_all hxs g hg
        exact ⟨n, y, hy⟩) (by omega)
      refine ⟨p, ?_, ho⟩
      rwa [List.drop_zero, List.take_of_length_le (by omega)] at hp
    · simp at hx
/-- An argument that is a slice. -/
theorem Opn.arg {α : Type} {t e : TypeId} {k : Kd α} {ok : List α → Prop} (h : Opn enc P W base spare held t (Kd.slice e k) ok) {a : Option Addr} {len cap : Nat} {d : DataW H} {ps : List MemPlace} (hd : DataW.Trod enc P W base spare held t (.slice a len cap) d ps) :
    ∃ l : List α, len = l.length ∧ l.length ≤ cap ∧ Kd.C k W a l.length l ∧ ok l := by
  obtain ⟨fuel, hf⟩ := hd
  obtain ⟨l, ⟨A, c, hcs, hl, hC⟩, ho⟩ := h fuel _ _ hf
  simp [Value.cells] at hcs
  obtain ⟨rfl, rfl, rfl⟩ := hcs
  exact ⟨l, rfl, hl, hC, ho⟩
end
/-! ### the same, with the slices' lengths bounded by what a datum may weigh -/
theorem weights_mem_all {H : Type} {P : Program} {e : TypeId} : ∀ {l : List (DataW H)} {d : DataW H}, d ∈ l → ∀ n ∈ d.weights P e, n ∈ DataW.weightsAll P e l
  | a :: l, d, hd, n, hn => by
    simp only [DataW.weightsAll, List.mem_append]
    rcases List.mem_cons.1 hd with rfl | hd
    · exact .inl hn
    · exact .inr (weights_mem_all hd n hn)
section
variable {H : Type} (enc : TypeId × Value → H) (P : Program) (W : World) (base : Nat) (spare : Nat → Bool) (held : Bool)
def Opw {α : Type} (t : TypeId) (k : Kd α) (ok : α → Prop) : Prop := ∀ fuel cs x, DataW.trod enc P W base spare held fuel t cs = some x → (∀ n ∈ x.1.weights P t, n ≤ reachBytes) → ∃ p, k.K W p cs ∧ ok p
def OpwF {α : Type} (fs : List (TypeId × Nat)) (off : Nat) (k : Kd α) (ok : α → Prop) : Prop :=
  ∀ cs : List Value, (∀ f ∈ fs, ∃ n x, DataW.trod enc P W base spare held n f.1 ((cs.drop f.2).take (P.cellsOf f.1)) = some x ∧ ∀ m ∈ x.1.weights P f.1, m ≤ reachBytes) → off + k.sz ≤ cs.length → ∃ p, k.K W p ((cs.drop off).take k.sz) ∧ ok p
end
section
variable {H : Type} {enc : TypeId × Value → H} {P : Program} {W : World} {base : Nat} {spare : Nat → Bool} {held : Bool}
theorem Opw.of {α : Type} {t : TypeId} {k : Kd α} {ok : α → Prop} (h : Opn enc P W base spare held t k ok) : Opw enc P W base spare held t k ok := fun fuel cs x hx _ => h fuel cs x hx
theorem Opw.slice {α : Type} {t e : TypeId} {k : Kd α} {ok : α → Prop} (ht : P.underlying t = some (.slice e)) (hc : P.cellsOf e = k.sz) (h : Opw enc P W base spare held e k ok) :
    Opw enc P W base spare held t (Kd.slice e k) (fun l => l.length * P.bytesOf e ≤ reachBytes ∧ l.length ≤ maxLen ∧ ∀ x ∈ l, ok x) := by
  intro fuel cs x hx hwt
  rcases open_slice ht hx with ⟨rfl, _⟩ | ⟨a, len, cap, m, n, D, Pl, rfl, hb, hl, hm, hmm, hxe, hall⟩
  · exact ⟨[], ⟨none, 0, rfl, Nat.le_refl _, rfl, Nat.zero_le _, fun h => absurd h (Nat.lt_irrefl _)⟩, by simp, Nat.zero_le _, fun x hx => by cases hx⟩
  · have hlm : len ≤ m := by rw [hmm]; split <;> omega
    rw [hxe] at hwt
    have hw0 : len * P.bytesOf e ≤ reachBytes := by
      have := hwt ((((List.range len).map D).length + ((List.range (m - len)).map fun j => D (len + j)).length) * P.bytesOf e) (by simp [DataW.weights, ht])
      simp only [List.length_map, List.length_range] at this
      exact Nat.le_trans (Nat.mul_le_mul_right _ (by omega)) this
    have hwe : ∀ i, i < len → ∀ q ∈ (D i).weights P e, q ≤ reachBytes := fun i hi q hq => hwt q (by
      simp only [DataW.weights, ht, List.mem_cons, List.mem_append]
      exact .inr (.inl (weights_mem_all (List.mem_map.2 ⟨i, List.mem_range.2 hi, rfl⟩) q hq)))
    have each : ∀ i, i < len → ∃ p, ok p ∧ ∃ c, c.length = k.sz ∧ k.K W p c ∧ ∀ j u, c[j]? = some u → W.cell? (a.add (i * k.sz + j)) = some u := by
      intro i hi
      obtain ⟨cs', h1, h2⟩ := hall i (by omega)
      obtain ⟨p, hp, ho⟩ := h n cs' _ h2 (hwe i hi)
      obtain ⟨_, hlen, hcell⟩ := World.cells?_some h1
      refine ⟨p, ho, cs', by rw [hlen, hc], hp, fun j u hu => ?_⟩
      have hj : j < cs'.length := (List.getElem?_eq_some_iff.1 hu).1
      have := hcell j (by omega)
      rw [Deep.add_add, hc, hu] at this
      exact this
    have ex : ∀ l', l' ≤ len → ∃ ps : List α, ps.length = l' ∧ (∀ j p, ps[j]? = some p → ok p ∧ ∃ c, c.length = k.sz ∧ k.K W p c ∧ ∀ i u, c[i]? = some u → W.cell? (a.add (j * k.sz + i)) = some u) := by
      intro l'
      induction l' with
      | zero => exact fun _ => ⟨[], rfl, fun j p hp => by simp at hp⟩
      | succ l' ih =>
        intro hl'
        obtain ⟨ps, hps, hp⟩ := ih (by omega)
        obtain ⟨p, hpo, hpc⟩ := each l' (by omega)
        refine ⟨ps ++ [p], by simp [hps], fun j q hq => ?_⟩
        by_cases hj : j < ps.length
        · rw [List.getElem?_append_left hj] at hq
          exact hp j q hq
        · have hj2 : j < (ps ++ [p]).length := (List.getElem?_eq_some_iff.1 hq).1
          simp at hj2
          obtain rfl : j = l' := by omega
          rw [List.getElem?_append_right (by omega), hps] at hq
          simp at hq
          subst hq
          exact ⟨hpo, hpc⟩
    obtain ⟨ps, hps, hp⟩ := ex len (Nat.le_refl _)
    have hmax : maxLen ≤ 9223372036854775807 := by decide
    refine ⟨ps, ⟨some a, cap, by rw [hps], by omega, rfl, by omega, fun _ => ⟨a, rfl, fun j p hj => (hp j p hj).2⟩⟩, by rw [hps]; exact hw0, by omega, fun x hx => ?_⟩
    obtain ⟨j, hj⟩ := List.mem_iff_getElem?.1 hx
    exact (hp j x hj).1
theorem Opw.iso {α β : Type} {t : TypeId} {d : Kd α} {ok : α → Prop} (h : Opw enc P W base spare held t d ok) (f : β → α) (g : α → β) (hg : ∀ a, f (g a) = a) : Opw enc P W base spare held t (Kd.iso d f) (fun b => ok (f b)) := by
  intro fuel cs x hx hw
  obtain ⟨p, hp, ho⟩ := h fuel cs x hx hw
  refine ⟨g p, ?_, ?_⟩
  · show d.K W (f (g p)) cs
    rw [hg]
    exact hp
  · show ok (f (g p))
    rw [hg]
    exact ho
theorem OpwF.one {α : Type} {t : TypeId} {off : Nat} {k : Kd α} {ok : α → Prop} (hc : P.cellsOf t = k.sz) (h : Opw enc P W base spare held t k ok) : OpwF enc P W base spare held [(t, off)] off k ok := by
  intro cs hf hl
  obtain ⟨n, x, hx, hw⟩ := hf (t, off) (List.mem_singleton.2 rfl)
  rw [hc] at hx
  exact h n _ x hx hw
theorem OpwF.cons {α β : Type} {t : TypeId} {off : Nat} {a : Kd α} {b : Kd β} {ok : α → Prop} {ok' : β → Prop} {fs : List (TypeId × Nat)} (hc : P.cellsOf t = a.sz) (h : Opw enc P W base spare held t a ok) (h' : OpwF enc P W base spare held fs (off + a.sz) b ok') :
    OpwF enc P W base spare held ((t, off) :: fs) off (Kd.pair a b) (fun p => ok p.1 ∧ ok' p.2) := by
  intro cs hf hl
  have hl' : off + (a.sz + b.sz) ≤ cs.length := hl
  obtain ⟨n, x, hx, hw⟩ := hf (t, off) (List.mem_cons_self ..)
  rw [hc] at hx
  obtain ⟨p, hp, ho⟩ := h n _ x hx hw
  obtain ⟨q, hq, ho'⟩ := h' cs (fun f hf' => hf f (List.mem_cons_of_mem _ hf')) (by omega)
  refine ⟨(p, q), ⟨_, _, ?_, hp, hq⟩, ho, ho'⟩
  show (cs.drop off).take (a.sz + b.sz) = _
  rw [List.take_add, List.drop_drop]
theorem mapM_some_at {α β : Type} {f : α → Option β} : ∀ {l : List α} {r : List β}, l.mapM f = some r → ∀ (j : Nat) x, l[j]? = some x → ∃ y, f x = some y ∧ r[j]? = some y := by
  intro l
  induction l with
  | nil => intro r _ j x hx; simp at hx
  | cons a l ih =>
    intro r h j x hx
    rw [List.mapM_cons] at h
    obtain ⟨y, hy, h⟩ := Option.bind_eq_some_iff.1 h
    obtain ⟨ys, hys, h⟩ := Option.bind_eq_some_iff.1 h
    obtain rfl := Option.some.inj h
    cases j with
    | zero =>
      simp at hx
      subst hx
      exact ⟨y, hy, rfl⟩
    | succ j =>
      obtain ⟨z, hz, hr⟩ := ih hys j x (by simpa using hx)
      exact ⟨z, hz, by simpa using hr⟩
theorem Opw.struct {α : Type} {t : TypeId} {fs : Array Field} {k : Kd α} {ok : α → Prop} (ht : P.underlying t = some (.struct fs)) (hc : P.cellsOf t = k.sz) (h : OpwF enc P W base spare held (fs.toList.map fun f => (f.type, f.offset)) 0 k ok) : Opw enc P W base spare held t k ok := by
  intro fuel cs x hx hw
  cases fuel with
  | zero => simp [DataW.trod] at hx
  | succ n =>
    unfold DataW.trod at hx
    rw [ht] at hx
    simp only at hx
    split at hx
    · rename_i hl
      obtain ⟨xs, hxs, hxe⟩ := Option.map_eq_some_iff.1 hx
      rw [← hxe] at hw
      simp only [DataW.weights, ht] at hw
      obtain ⟨p, hp, ho⟩ := h cs (fun f hf => by
        obtain ⟨g, hg, rfl⟩ := List.mem_map.1 hf
        obtain ⟨j, hj⟩ := List.mem_iff_getElem?.1 hg
        obtain ⟨y, hy, hr⟩ := mapM_some_at hxs j g hj
        exact ⟨n, y, hy, fun m hm => hw m (DataW.weights_mem_each (j := j) (t := g.type) (d := y.1) (by simp [hj]) (by simp [hr]) m hm)⟩) (by omega)
      refine ⟨p, ?_, ho⟩
      rwa [List.drop_zero, List.take_of_length_le (by omega)] at hp
    · simp at hx
/-- An argument that is a struct: its cells. -/
theorem Opw.cells {α : Type} {t : TypeId} {k : Kd α} {ok : α → Prop} (h : Opw enc P W base spare held t k ok) {v : Value} {d : DataW H} {ps : List MemPlace} (hd : DataW.Trod enc P W base spare held t v d ps) {ts : List TypeId} {ds : List (DataW H)} {j : Nat}
    (hsz : (DataW.weightsEach P ts ds).all (· ≤ reachBytes) = true) (ht : ts[j]? = some t) (hdj : ds[j]? = some d) : ∃ p, k.K W p v.cells.toList ∧ ok p := by
  obtain ⟨fuel, hf⟩ := hd
  exact h fuel _ _ hf (fun n hn => by simpa using List.all_eq_true.1 hsz _ (DataW.weights_mem_each ht hdj n hn))
end
end Go.Proofs.Ytklacpdobpkbbaa.Opens
