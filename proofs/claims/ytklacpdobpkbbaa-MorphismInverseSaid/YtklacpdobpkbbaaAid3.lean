import Derived.Test.YtklacpdobpkbbaaAid2
import Derived.Test.YtklacpdobpkbbaaU2
/- words: inv_at inv_ StepAt steps_cons steps_nil putSel putSel_on putSel_off putSel_not putSel_upk putSel_none up up_self off_ wanted_on wanted_off value_ skip_ goes_ goesL_ box_step box_event store_event gate_store gate_dst gate_callee gate_guard skip_guard start_ done_ done_of with_tabW rtab opsOf waitsOk results_list results_single Vals Reps one front c2 c3 c4 c5 c6 c7 c8 c9 c10 heap_int heap_pair heap_iso -/
/- Straight code: rows that stay whatever boxes are stored, boxes and their stores, rows laid by a literal. -/
set_option linter.unusedVariables false
namespace Go.Proofs.Ytklacpdobpkbbaa.P
open Go.RowKit Go.Proofs.YtklacpdobpkbbaaW.PrintWords Go.Proofs.YtklacpdobpkbbaaW.PrintLast Go.Proofs.YtklacpdobpkbbaaW.PrintMore
/-- From w to w' the heap grows, and of the elder blocks none but those of the types T have turned, within their type. -/
def Calm (T : List Nat) (w w' : World) : Prop := w.heap.size ≤ w'.heap.size ∧ ∀ k, k < w.heap.size → w'.heap[k]? = w.heap[k]? ∨ ∃ t, t ∈ T ∧ (∃ c, w.heap[k]? = some (.cells c t (0, 0))) ∧ ∃ c, w'.heap[k]? = some (.cells c t (0, 0))
theorem Calm.refl (T : List Nat) (w : World) : Calm T w w := ⟨Nat.le_refl _, fun _ _ => .inl rfl⟩
theorem Calm.trans {T : List Nat} {w w1 w2 : World} (h : Calm T w w1) (h' : Calm T w1 w2) : Calm T w w2 := by
  refine ⟨Nat.le_trans h.1 h'.1, fun k hk => ?_⟩
  rcases h.2 k hk with e | ⟨t, ht, ⟨c, hc⟩, c1, hc1⟩
  · rcases h'.2 k (Nat.lt_of_lt_of_le hk h.1) with e' | ⟨t, ht, ⟨c, hc⟩, c1, hc1⟩
    · exact .inl (e'.trans e)
    · exact .inr ⟨t, ht, ⟨c, e ▸ hc⟩, c1, hc1⟩
  · rcases h'.2 k (Nat.lt_of_lt_of_le hk h.1) with e' | ⟨t', ht', ⟨c', hc'⟩, c2, hc2⟩
    · exact .inr ⟨t, ht, ⟨c, hc⟩, c1, e'.trans hc1⟩
    · rw [hc1] at hc'
      injection hc' with hc'
      injection hc' with _ hc'
      subst hc'
      exact .inr ⟨t, ht, ⟨c, hc⟩, c2, hc2⟩
theorem Calm.below {T : List Nat} {w w' : World} (h : Below w.heap.size w w') : Calm T w w' := ⟨h.size, fun k hk => .inl (h.block k hk)⟩
theorem Calm.set {T : List Nat} {w : World} {g t : Nat} {cs : Array Value} (hb : w.heap[g]? = some (.cells cs t (0, 0))) (ht : t ∈ T) (i : Nat) (v : Value) : Calm T w (w.setCell ⟨g, i, none⟩ v) := by
  refine ⟨by simp [World.setCell], fun k hk => ?_⟩
  by_cases e : k = g
  · subst e
    exact .inr ⟨t, ht, ⟨cs, hb⟩, _, blk_put hb i v rfl⟩
  · exact .inl (Below.heap_setCell w ⟨g, i, none⟩ v k e)
/-- P holds now, and however the boxes of the types T are stored and the heap grows. -/
def Sc (T : List Nat) (P : World → Prop) (w : World) : Prop := ∀ w', Calm T w w' → P w'
theorem Sc.now {T : List Nat} {P : World → Prop} {w : World} (h : Sc T P w) : P w := h w (Calm.refl T w)
theorem Sc.step {T : List Nat} {P : World → Prop} {w w' : World} (h : Sc T P w) (c : Calm T w w') : Sc T P w' := fun _ k => h _ (c.trans k)
theorem Sc.top (T : List Nat) (w : World) : Sc T (fun _ => True) w := fun _ _ => trivial
theorem Sc.and {T : List Nat} {P Q : World → Prop} {w : World} (h : Sc T P w) (k : Sc T Q w) : Sc T (fun v => P v ∧ Q v) w := fun _ c => ⟨h _ c, k _ c⟩
theorem Sc.row {T : List Nat} {α : Type} {d : Kd α} {e : Nat} {w : World} {b b' : Nat} {ok : Nat → Prop} {v : Value} {xs : List α} (h : d.R e w b ok v xs) (hb : b' ≤ b) (ht : ((e :: d.E).all fun q => !T.contains q) = true := by rfl) : Sc T (fun v' => d.R e v' b' (fun _ => True) v xs) w := fun w' c =>
  Kd.R_lower (Kd.R_mono (Kd.R_step (Kd.R_bound h) (fun k hk hlt => by
    rcases c.2 k hlt with e | ⟨t, ht', ⟨cs, hc⟩, _⟩
    · exact e
    · obtain ⟨_, _, _, q, hq, cells, hcc⟩ := hk
      rw [hcc] at hc
      injection hc with hc
      injection hc with _ hc
      subst hc
      have := List.all_eq_true.1 ht q hq
      simp at this
      exact absurd ht' this)) (fun _ _ => trivial)) hb
/-- The parts of a fact that stays. -/
theorem Sc.imp {T : List Nat} {P Q : World → Prop} {w : World} (h : Sc T P w) (f : ∀ v, P v → Q v) : Sc T Q w := fun _ c => f _ (h _ c)
/-- A world after the reading of a region's order, or after a block more. -/
theorem cw_ {p q : Prop} (h : p) (k : p → q := by (intro hh_; first | (with_reducible exact hh_) | ((repeat (first | (with_reducible first | exact hh_ | apply below_alloc | apply pw_below_drewN | apply below_drew1) | exact hh_)); done))) : q := k h
theorem bel_keep {w W W' : World} {g i : Nat} {v : Value} (h : Below w.heap.size w W) (hg : w.heap.size ≤ g) : Below w.heap.size w (W.setCell ⟨g, i, none⟩ v) := h.setCell hg _
/-- A row that a literal has laid. -/
theorem lit_C {α : Type} {d : Kd α} {w : World} {g e : Nat} {cells : Array Value} {xs : List α} (hb : w.heap[g]? = some (.cells cells e (0, 0))) (hr : Reps (d.K w) d.sz xs cells.toList) (hn : xs.length ≤ 9223372036854775807 := by simp) : d.C w (some ⟨g, 0, none⟩) xs.length xs := by
  refine ⟨rfl, hn, fun _ => ⟨_, rfl, fun j p hp => ?_⟩⟩
  refine ⟨_, d.K_len (hr.2 j p hp), hr.2 j p hp, fun i u hu => ?_⟩
  have hi : i < d.sz := by
    have := (List.getElem?_eq_some_iff.1 hu).1
    rw [d.K_len (hr.2 j p hp)] at this
    exact this
  rw [List.getElem?_take_of_lt hi, List.getElem?_drop] at hu
  show w.cell? (Addr.add ⟨g, 0, none⟩ (j * d.sz + i)) = some u
  have ha : (Addr.add ⟨g, 0, none⟩ (j * d.sz + i)) = ⟨g, j * d.sz + i, none⟩ := by
    simp [Addr.add]
    omega
  rw [ha, blk_cell hb]
  simpa using hu
theorem nilC {α : Type} {d : Kd α} {w : World} : d.C w none ([] : List α).length [] := ⟨rfl, Nat.zero_le _, fun h => absurd h (Nat.lt_irrefl _)⟩
theorem toV {α : Type} {d : Kd α} {e : Nat} {W : World} {A : Option Addr} {c : Nat} {xs : List α} (hd : Kd.Heap d) (h : Kd.C d W A xs.length xs) (hl : xs.length ≤ c) : Kd.V d e W W.heap.size (fun _ => True) (.slice A xs.length c) xs := Kd.V_mk hl (fun W' hW => Kd.Heap.C hd (fun k hk => hW k trivial hk) h)
/-- Cells from i on, stored one by one. -/
def sets (w : World) (g : Nat) : Nat → List Value → World
  | _, [] => w
  | i, v :: l => sets (w.setCell ⟨g, i, none⟩ v) g (i + 1) l
def setsA (cs : Array Value) : Nat → List Value → Array Value
  | _, [] => cs
  | i, v :: l => setsA (cs.setIfInBounds i v) (i + 1) l
theorem sets_blk {g t : Nat} : ∀ (l : List Value) (i : Nat) {w : World} {cs : Array Value}, w.heap[g]? = some (.cells cs t (0, 0)) → (sets w g i l).heap[g]? = some (.cells (setsA cs i l) t (0, 0))
  | [], _, _, _, h => h
  | v :: l, i, _, _, h => sets_blk l (i + 1) (blk_put h i v rfl)
theorem sets_far {g k : Nat} {o : Obj} (hk : k ≠ g) : ∀ (l : List Value) (i : Nat) {w : World}, w.heap[k]? = some o → (sets w g i l).heap[k]? = some o
  | [], _, _, h => h
  | v :: l, i, w, h => sets_far hk l (i + 1) ((Below.heap_setCell w ⟨g, i, none⟩ v k hk).trans h)
theorem sets_below {g : Nat} {w : World} (hg : w.heap.size ≤ g) : ∀ (l : List Value) (i : Nat) {W : World}, Below w.heap.size w W → Below w.heap.size w (sets W g i l)
  | [], _, _, h => h
  | _ :: l, i, _, h => sets_below hg l (i + 1) (h.setCell hg _)
theorem sets_calm {T : List Nat} {g t : Nat} (ht : t ∈ T) : ∀ (l : List Value) (i : Nat) {w : World} {cs : Array Value}, w.heap[g]? = some (.cells cs t (0, 0)) → Calm T w (sets w g i l)
  | [], _, w, _, _ => Calm.refl T w
  | v :: l, i, _, _, h => (Calm.set h ht i v).trans (sets_calm ht l (i + 1) (blk_put h i v rfl))
theorem drawn_below {w w' : World} (h : Drawn0 w w') : Below w.heap.size w w' := by
  obtain ⟨n, rfl⟩ := h
  exact pw_below_drewN (Below.refl _ _) n
section
variable {P : Program} {ops : Array Oper} {rest : List Oper} {o : Oper} {a : Act} {Q : Exit → Act → World → Prop} {Kc : Act → World → Prop}
theorem lit_event {W : World} (hgd : o.guard = none) {N : Tmp} (_hd : o.dst = some N) {cs : Array Value} {t : TypeId} {n : Nat}
    (hrun : (execOp a.eval o).run P W = .ok (.value (.slice (some ⟨W.heap.size, 0, none⟩) n n)) (W.alloc (.cells cs t (0, 0))))
    (h : ∀ g, g = W.heap.size → ∀ w1, w1.heap[g]? = some (.cells cs t (0, 0)) → Below W.heap.size W w1 → wpList P ops Q rest (a.put o.dst (.slice (some ⟨g, 0, none⟩) n n)) w1) : wpList P ops Q (o :: rest) a W :=
  Kd.event_run hgd hrun (h _ rfl _ (blk_new W _) (below_alloc (Below.refl _ _) _))
theorem lit_step {W : World} (hw : Region.wanted o (yielded ops a.tmps) = true) {N : Tmp} (_hd : o.dst = some N) {cs : Array Value} {t : TypeId} {n : Nat}
    (hrun : (execOp a.eval o).run P W = .ok (.value (.slice (some ⟨W.heap.size, 0, none⟩) n n)) (W.alloc (.cells cs t (0, 0))))
    (h : ∀ g, g = W.heap.size → ∀ w1, w1.heap[g]? = some (.cells cs t (0, 0)) → Below W.heap.size W w1 → Kc (a.put o.dst (.slice (some ⟨g, 0, none⟩) n n)) w1) : if Region.wanted o (yielded ops a.tmps) = true then Oper.wp P o a W Kc Q else Kc (a.put o.dst undef) W :=
  event_step hw hrun (h _ rfl _ (blk_new W _) (below_alloc (Below.refl _ _) _))
end
end Go.Proofs.Ytklacpdobpkbbaa.P
