import Derived.Test.YtklacpdobpkbbaaU
import Derived.Maps.OwnSet
import Derived.Maps.OwnOps
/- Small lemmas on worlds, for the session's own walks. -/
namespace Go.Proofs.Ytklacpdobpkbbaa.P
open Go.RowKit Go.Proofs.YtklacpdobpkbbaaW.PrintWords Go.Proofs.YtklacpdobpkbbaaW.PrintLast Go.Proofs.YtklacpdobpkbbaaW.PrintMore
theorem below_drew1' {b : Nat} {w w1 : World} (h : Below b w w1) (n : Nat) : Below b w (w1.drewN n) := by repeat (first | (with_reducible first | exact h | apply below_alloc | apply pw_below_drewN | apply below_drew1) | exact h)
theorem cell_alloc_ {w : World} {o : Obj} {p : Addr} {v : Value} (h : w.cell? p = some v) : (w.alloc o).cell? p = some v := (World.grownBy_alloc w o none).cell h (by cases p; simp)
theorem ownsMap_below {H : Type} {P : Program} {k : TypeId} {R : Value → Option (DataW H × List MemPlace)} {w w1 : World} {b n : Nat} {D : DataW H} (h : w.ownsMap P k R b n D) (hb : Below w.heap.size w w1) : w1.ownsMap P k R b n D := by
  have hl := h.lt
  obtain ⟨es, clock, hh, F, hs, hD⟩ := h
  exact ⟨es, clock, (hb.block b hl).trans hh, F, hs, hD⟩
theorem below_grown {w w0 w1 : World} {b k : Nat} (h : Below b w w0) (hg : w0.grownBy w1 (some k)) (hk : b ≤ k) (hs : b ≤ w0.heap.size) : Below b w w1 :=
  h.trans ⟨hg.os, hg.tape, hg.output, hg.size, fun j hj => hg.block j (by omega) (by intro e; injection e with e; omega)⟩
theorem rd_wf {l : List Int} (h : (l.all fun x => (Lit.int .i64 x).wf) = true) (i : Int) : (Lit.int .i64 (rd l i)).wf = true := by
  unfold rd
  rw [List.getD_eq_getElem?_getD]
  by_cases hi : i.toNat < l.length
  · rw [List.getElem?_eq_getElem hi]
    exact List.all_eq_true.1 h _ (List.getElem_mem _)
  · rw [List.getElem?_eq_none (by omega)]
    decide
theorem gate_mapUpdate {P : Program} {ops : Array Oper} {o : Oper} {rest : List Oper} {a : Act} {W : World} {Q : Exit → Act → World → Prop} {t : TypeId} {m k v : Operand} (_ho : o.op = .mapUpdate t m k v) (h : wpList P ops Q (o :: rest) a W) : wpList P ops Q (o :: rest) a W := h
theorem ownsMap_alloc {H : Type} {P : Program} {k : TypeId} {R : Value → Option (DataW H × List MemPlace)} {w : World} {b n : Nat} {D : DataW H} (h : w.ownsMap P k R b n D) (o : Obj) : (w.alloc o).ownsMap P k R b n D := ownsMap_below h ((Below.refl _ _).alloc (Nat.le_refl _) _)
theorem ownsMap_grown {H : Type} {P : Program} {k : TypeId} {R : Value → Option (DataW H × List MemPlace)} {w w1 : World} {b n : Nat} {D : DataW H} {row : Option Nat} (h : w.ownsMap P k R b n D) (hg : w.grownBy w1 row) (hne : some b ≠ row) : w1.ownsMap P k R b n D := by
  have hl := h.lt
  obtain ⟨es, clock, hh, F, hs, hD⟩ := h
  exact ⟨es, clock, (hg.block b hl hne).trans hh, F, hs, hD⟩
theorem fresh_ne {H : Type} {P : Program} {k : TypeId} {R : Value → Option (DataW H × List MemPlace)} {w : World} {b n : Nat} {D : DataW H} (h : w.ownsMap P k R b n D) (j : Nat) (hj : w.heap.size ≤ j) : j ≠ b := fun e => by
  have := h.lt
  omega
theorem some_ne {a b o : Nat} (h : a < b) : some (⟨b, o, none⟩ : Addr).block ≠ some a := by
  intro e
  injection e with e
  simp only at e
  omega
theorem wrap_succ {x : Int} (h0 : 0 ≤ x) (h : x < 17592186044416) : wrap64 (x + 1) = x + 1 := by
  unfold wrap64
  omega
theorem toNat_succ {x : Int} (h0 : 0 ≤ x) : (x + 1).toNat = x.toNat + 1 := by omega
theorem cell_below {w w1 : World} {p : Addr} {v : Value} (hb : Below w.heap.size w w1) (h : w.cell? p = some v) : w1.cell? p = some v := (hb.cell (World.block_lt_of_cell? _ _ h)).trans h
theorem add_block_ (a : Addr) (n : Nat) : (a.add n).block = a.block := by unfold Addr.add; split <;> rfl
/-! ### steps of a printed proof under short names (the last argument is found by a tactic) -/
theorem bk_ {p q : Prop} (h : p) (k : p → q := by (intro hh_; first | (with_reducible exact hh_) | ((with_reducible repeat (first | refine blk_drewN ?_ _ | refine blk_drew ?_ | refine blk_alloc ?_ _)); exact hh_))) : q := k h
theorem mr_ {p q : Prop} (h : p) (k : p → q := by (intro hh_; first | (with_reducible exact hh_) | ((with_reducible repeat (first | apply Kd.R_alloc | apply Kd.R_drewN | apply Kd.R_drew)); exact hh_))) : q := k h
theorem mv_ {p q : Prop} (h : p) (k : p → q := by (intro hh_; first | (with_reducible exact hh_) | ((with_reducible repeat (first | apply Kd.V_alloc | apply Kd.V_drewN | apply Kd.V_drew)); exact hh_))) : q := k h
theorem ms_ {p q : Prop} (h : p) (k : p → q := by (intro hh_; first | (with_reducible exact hh_) | ((with_reducible repeat (first | apply Kd.S_alloc | apply Kd.S_drewN | apply Kd.S_drew)); exact hh_))) : q := k h
theorem mn_ {p q : Prop} (h : p) (k : p → q := by (intro hh_; first | (with_reducible exact hh_) | ((with_reducible repeat (first | apply Kd.N_alloc | apply Kd.N_drewN | apply Kd.N_drew)); exact hh_))) : q := k h
theorem mq_ {p q : Prop} (h : p) (k : p → q := by (intro hh_; first | (with_reducible exact hh_) | ((with_reducible repeat (first | apply Kd.Q_alloc | apply Kd.Q_drewN | apply Kd.Q_drew)); exact hh_))) : q := k h
theorem mc_ {p q : Prop} (h : p) (k : p → q := by (intro hh_; first | ((repeat (first | (with_reducible exact hh_) | (with_reducible refine Kd.C_alloc ?_ _) | (with_reducible refine Kd.C_drewN ?_ _) | (with_reducible refine Kd.C_drew ?_))); done) | (repeat (first | exact hh_ | (with_reducible refine Kd.C_alloc ?_ _) | (with_reducible refine Kd.C_drewN ?_ _) | (with_reducible refine Kd.C_drew ?_))))) : q := k h
theorem mb_ {p q : Prop} (h : p) (k : p → q := by (intro hh_; repeat (first | (with_reducible first | exact hh_ | apply below_alloc | apply pw_below_drewN | apply below_drew1) | exact hh_))) : q := k h
theorem mbs_ {p q : Prop} (h : p) (k : p → q := by (intro hh_; repeat (first | (with_reducible first | exact hh_ | apply below_alloc | apply pw_below_drewN | apply below_drew1 | refine below_set ?_ (Aside0.out (by assumption))) | exact hh_))) : q := k h
theorem gw_ {w W : World} {g : Nat} (hg : g = W.heap.size) (h : Below w.heap.size w W) : w.heap.size ≤ g := hg ▸ h.size
theorem nb_ {W : World} {g g' : Nat} {o : Obj} (hg : g' = W.heap.size) (h : W.heap[g]? = some o) : g ≠ g' := hg ▸ Nat.ne_of_lt (blk_lt h)
theorem nc_ {W : World} {g g' : Nat} {o : Obj} (hg : g' = W.heap.size) (h : W.heap[g]? = some o) : g' ≠ g := hg ▸ Nat.ne_of_gt (blk_lt h)
theorem bc0_ {w : World} {g t : Nat} {a0 : Value} {l : List Value} (h : w.heap[g]? = some (.cells (a0 :: l).toArray t (0, 0))) : w.cell? ⟨g, 0, none⟩ = some a0 := (blk_cell h 0).trans (by simp)
theorem bc1_ {w : World} {g t : Nat} {a0 a1 : Value} {l : List Value} (h : w.heap[g]? = some (.cells (a0 :: a1 :: l).toArray t (0, 0))) : w.cell? ⟨g, 1, none⟩ = some a1 := (blk_cell h 1).trans (by simp)
theorem bc2_ {w : World} {g t : Nat} {a0 a1 a2 : Value} {l : List Value} (h : w.heap[g]? = some (.cells (a0 :: a1 :: a2 :: l).toArray t (0, 0))) : w.cell? ⟨g, 2, none⟩ = some a2 := (blk_cell h 2).trans (by simp)
theorem bc3_ {w : World} {g t : Nat} {a0 a1 a2 a3 : Value} {l : List Value} (h : w.heap[g]? = some (.cells (a0 :: a1 :: a2 :: a3 :: l).toArray t (0, 0))) : w.cell? ⟨g, 3, none⟩ = some a3 := (blk_cell h 3).trans (by simp)
theorem bc4_ {w : World} {g t : Nat} {a0 a1 a2 a3 a4 : Value} {l : List Value} (h : w.heap[g]? = some (.cells (a0 :: a1 :: a2 :: a3 :: a4 :: l).toArray t (0, 0))) : w.cell? ⟨g, 4, none⟩ = some a4 := (blk_cell h 4).trans (by simp)
theorem bc5_ {w : World} {g t : Nat} {a0 a1 a2 a3 a4 a5 : Value} {l : List Value} (h : w.heap[g]? = some (.cells (a0 :: a1 :: a2 :: a3 :: a4 :: a5 :: l).toArray t (0, 0))) : w.cell? ⟨g, 5, none⟩ = some a5 := (blk_cell h 5).trans (by simp)
theorem bc6_ {w : World} {g t : Nat} {a0 a1 a2 a3 a4 a5 a6 : Value} {l : List Value} (h : w.heap[g]? = some (.cells (a0 :: a1 :: a2 :: a3 :: a4 :: a5 :: a6 :: l).toArray t (0, 0))) : w.cell? ⟨g, 6, none⟩ = some a6 := (blk_cell h 6).trans (by simp)
theorem bc7_ {w : World} {g t : Nat} {a0 a1 a2 a3 a4 a5 a6 a7 : Value} {l : List Value} (h : w.heap[g]? = some (.cells (a0 :: a1 :: a2 :: a3 :: a4 :: a5 :: a6 :: a7 :: l).toArray t (0, 0))) : w.cell? ⟨g, 7, none⟩ = some a7 := (blk_cell h 7).trans (by simp)
theorem bc8_ {w : World} {g t : Nat} {a0 a1 a2 a3 a4 a5 a6 a7 a8 : Value} {l : List Value} (h : w.heap[g]? = some (.cells (a0 :: a1 :: a2 :: a3 :: a4 :: a5 :: a6 :: a7 :: a8 :: l).toArray t (0, 0))) : w.cell? ⟨g, 8, none⟩ = some a8 := (blk_cell h 8).trans (by simp)
theorem bc9_ {w : World} {g t : Nat} {a0 a1 a2 a3 a4 a5 a6 a7 a8 a9 : Value} {l : List Value} (h : w.heap[g]? = some (.cells (a0 :: a1 :: a2 :: a3 :: a4 :: a5 :: a6 :: a7 :: a8 :: a9 :: l).toArray t (0, 0))) : w.cell? ⟨g, 9, none⟩ = some a9 := (blk_cell h 9).trans (by simp)
theorem bc10_ {w : World} {g t : Nat} {a0 a1 a2 a3 a4 a5 a6 a7 a8 a9 a10 : Value} {l : List Value} (h : w.heap[g]? = some (.cells (a0 :: a1 :: a2 :: a3 :: a4 :: a5 :: a6 :: a7 :: a8 :: a9 :: a10 :: l).toArray t (0, 0))) : w.cell? ⟨g, 10, none⟩ = some a10 := (blk_cell h 10).trans (by simp)
theorem bc11_ {w : World} {g t : Nat} {a0 a1 a2 a3 a4 a5 a6 a7 a8 a9 a10 a11 : Value} {l : List Value} (h : w.heap[g]? = some (.cells (a0 :: a1 :: a2 :: a3 :: a4 :: a5 :: a6 :: a7 :: a8 :: a9 :: a10 :: a11 :: l).toArray t (0, 0))) : w.cell? ⟨g, 11, none⟩ = some a11 := (blk_cell h 11).trans (by simp)
theorem mvm_ {α : Type} {d : Kd α} {e : Nat} {W W' : World} {b : Nat} {ok ok' : Nat → Prop} {v : Value} {xs : List α} (h : Kd.V d e W b ok v xs) (f : ∀ k, ok k → ok' k) (k : Kd.V d e W b ok' v xs → Kd.V d e W' b ok' v xs := by (intro hh_; first | (with_reducible exact hh_) | ((with_reducible repeat (first | apply Kd.V_alloc | apply Kd.V_drewN | apply Kd.V_drew)); exact hh_))) : Kd.V d e W' b ok' v xs := k (Kd.V_mono h f)
theorem mrm_ {α : Type} {d : Kd α} {e : Nat} {W W' : World} {b : Nat} {ok ok' : Nat → Prop} {v : Value} {xs : List α} (h : d.R e W b ok v xs) (f : ∀ k, ok k → ok' k) (k : d.R e W b ok' v xs → d.R e W' b ok' v xs := by (intro hh_; first | (with_reducible exact hh_) | ((with_reducible repeat (first | apply Kd.R_alloc | apply Kd.R_drewN | apply Kd.R_drew)); exact hh_))) : d.R e W' b ok' v xs := k (Kd.R_mono h f)
theorem mf2_ {α : Type} {d : Kd α} {e : Nat} {W : World} {b : Nat} {ok : Nat → Prop} {v : Value} {xs : List α} (g : Nat) (h : Kd.V d e W b ok v xs) (f : ∀ k, ok k → k ≠ g) (v0 v1 : Value) : Kd.V d e ((W.setCell ⟨g, 0, none⟩ v0).setCell ⟨g, 1, none⟩ v1) b ok v xs := Kd.V_far (p := ⟨g, 1, none⟩) (Kd.V_far (p := ⟨g, 0, none⟩) h f v0) f v1
theorem mf2m_ {α : Type} {d : Kd α} {e : Nat} {W : World} {b : Nat} {ok ok' : Nat → Prop} {v : Value} {xs : List α} (g : Nat) (h : Kd.V d e W b ok v xs) (f : ∀ k, ok k → k ≠ g) (v0 v1 : Value) (f' : ∀ k, ok k ∧ k ≠ g → ok' k) : Kd.V d e ((W.setCell ⟨g, 0, none⟩ v0).setCell ⟨g, 1, none⟩ v1) b ok' v xs := Kd.V_mono (mf2_ g h f v0 v1) (fun k hk => f' k ⟨hk, f k hk⟩)
theorem rf2_ {α : Type} {d : Kd α} {e : Nat} {W : World} {b : Nat} {ok : Nat → Prop} {v : Value} {xs : List α} {g t : Nat} {cells : Array Value} (h : d.R e W b ok v xs) (hb : W.heap[g]? = some (.cells cells t (0, 0))) (v0 v1 : Value) (ht : ∀ q, q ∈ e :: d.E → q ≠ t := by decide) : d.R e ((W.setCell ⟨g, 0, none⟩ v0).setCell ⟨g, 1, none⟩ v1) b ok v xs := Kd.R_mono (Kd.R_far (p := ⟨g, 1, none⟩) (Kd.R_far (p := ⟨g, 0, none⟩) (Kd.R_types h hb ht) (fun _ hk => hk.2) v0) (fun _ hk => hk.2) v1) (fun _ h_ => h_.1)
theorem rf2m_ {α : Type} {d : Kd α} {e : Nat} {W : World} {b : Nat} {ok ok' : Nat → Prop} {v : Value} {xs : List α} {g t : Nat} {cells : Array Value} (h : d.R e W b ok v xs) (hb : W.heap[g]? = some (.cells cells t (0, 0))) (v0 v1 : Value) (f' : ∀ k, ok k ∧ k ≠ g → ok' k) (ht : ∀ q, q ∈ e :: d.E → q ≠ t := by decide) : d.R e ((W.setCell ⟨g, 0, none⟩ v0).setCell ⟨g, 1, none⟩ v1) b ok' v xs := Kd.R_mono (Kd.R_far (p := ⟨g, 1, none⟩) (Kd.R_far (p := ⟨g, 0, none⟩) (Kd.R_types h hb ht) (fun _ hk => hk.2) v0) (fun _ hk => hk.2) v1) f'
theorem vt2_ {α β γ : Type} {d : Kd α} {d0 : Kd β} {d1 : Kd γ} {e e0 e1 : Nat} {W w1 : World} {b : Nat} {ok ok0 ok1 : Nat → Prop} {v u0 u1 : Value} {xs : List α} {ys : List β} {zs : List γ} (h : Kd.V d e W b ok v xs) (hb : Below W.heap.size W w1) (h0 : d0.R e0 w1 W.heap.size ok0 u0 ys) (h1 : d1.R e1 w1 W.heap.size ok1 u1 zs) : Aside0 (Kd.V d e w1 b (fun k => (ok k ∧ some k ≠ u0.ownBlock) ∧ some k ≠ u1.ownBlock) v xs) := ⟨Kd.V_mono (Kd.V_told (Kd.V_told (Kd.V_old h hb) (Kd.R_base h0)) (Kd.R_base h1)) (fun _ h_ => h_.1)⟩
theorem rt2_ {α β γ : Type} {d : Kd α} {d0 : Kd β} {d1 : Kd γ} {e e0 e1 : Nat} {W w1 : World} {b : Nat} {ok ok0 ok1 : Nat → Prop} {v u0 u1 : Value} {xs : List α} {ys : List β} {zs : List γ} (h : d.R e W b ok v xs) (hb : Below W.heap.size W w1) (h0 : d0.R e0 w1 W.heap.size ok0 u0 ys) (h1 : d1.R e1 w1 W.heap.size ok1 u1 zs) : Aside0 (d.R e w1 b (fun k => (ok k ∧ some k ≠ u0.ownBlock) ∧ some k ≠ u1.ownBlock) v xs) := ⟨Kd.R_mono (Kd.R_told (Kd.R_told (Kd.R_old h hb) (Kd.R_base h0)) (Kd.R_base h1)) (fun _ h_ => h_.1)⟩
theorem ve_ {α : Type} {d : Kd α} {e : Nat} {W W' : World} {b : Nat} {ok : Nat → Prop} {v : Value} {xs : List α} (h : Kd.V d e W b ok v xs) {g : Nat} (hg : g = W.heap.size) (hb : Below W.heap.size W W') : Aside0 (Kd.V d e W' b (fun k => ok k ∧ k ≠ g) v xs) := ⟨Kd.V_below (Kd.V_elderB h g (Nat.le_of_eq hg.symm)) hb⟩
theorem bf2_ {W W' : World} {g g' t : Nat} {cs : Array Value} (v0 v1 : Value) (hn : g ≠ g') (h : W.heap[g]? = some (.cells cs t (0, 0))) (k : ((W.setCell ⟨g', 0, none⟩ v0).setCell ⟨g', 1, none⟩ v1).heap[g]? = some (.cells cs t (0, 0)) → W'.heap[g]? = some (.cells cs t (0, 0)) := by (intro hh_; first | (with_reducible exact hh_) | ((with_reducible repeat (first | refine blk_drewN ?_ _ | refine blk_drew ?_ | refine blk_alloc ?_ _)); exact hh_))) : W'.heap[g]? = some (.cells cs t (0, 0)) := k (blk_far (p := ⟨g', 1, none⟩) (blk_far (p := ⟨g', 0, none⟩) h hn v0) hn v1)
theorem bp2_ {W W' : World} {g t : Nat} {c0 c1 : Value} (v0 v1 : Value) (h : W.heap[g]? = some (.cells #[c0, c1] t (0, 0))) (k : ((W.setCell ⟨g, 0, none⟩ v0).setCell ⟨g, 1, none⟩ v1).heap[g]? = some (.cells #[v0, v1] t (0, 0)) → W'.heap[g]? = some (.cells #[v0, v1] t (0, 0)) := by (intro hh_; first | (with_reducible exact hh_) | ((with_reducible repeat (first | refine blk_drewN ?_ _ | refine blk_drew ?_ | refine blk_alloc ?_ _)); exact hh_))) : W'.heap[g]? = some (.cells #[v0, v1] t (0, 0)) := k (blk_put (blk_put h 0 v0 rfl) 1 v1 rfl)
theorem vb_ {α : Type} {d : Kd α} {e : Nat} {W W' : World} {b : Nat} {ok : Nat → Prop} {v : Value} {xs : List α} (h : Kd.V d e W b ok v xs) (hb : Below W.heap.size W W') : Aside0 (Kd.V d e W' b ok v xs) := ⟨Kd.V_below h hb⟩
theorem rb_ {α : Type} {d : Kd α} {e : Nat} {W W' : World} {b : Nat} {ok : Nat → Prop} {v : Value} {xs : List α} (h : d.R e W b ok v xs) (hb : Below W.heap.size W W') : Aside0 (d.R e W' b ok v xs) := ⟨Kd.R_below h hb⟩
theorem kb_ {W W' : World} {g : Nat} {o : Obj} (h : W.heap[g]? = some o) (hb : Below W.heap.size W W') : Aside0 (W'.heap[g]? = some o) := ⟨blk_below h hb⟩
theorem pt_ {a b : Act} (h : a = b := by (simp only [Act.put, List.setIfInBounds_toArray, List.set_cons_zero, List.set_cons_succ, i64_w, i32_w]; rfl)) : a = b := h
theorem r0_ {α : Type} {d : Kd α} {e : Nat} {w0 W w1 : World} {ok : Nat → Prop} {v : Value} {xs : List α} (h : d.R e w1 W.heap.size ok v xs) (hb : Below w0.heap.size w0 W) : d.R e w1 W.heap.size (fun k => (w0.heap.size ≤ k) ∧ ok k) v xs := Kd.R_newM (M := fun k => (w0.heap.size ≤ k)) h (below_size hb) (fun _ h_ => h_)
theorem rn_ {α β : Type} {d : Kd α} {d' : Kd β} {e e' : Nat} {W w1 : World} {b : Nat} {ok ok' : Nat → Prop} {v u : Value} {xs : List α} {ys : List β} (h : d.R e w1 W.heap.size ok v xs) (h' : d'.R e' W b ok' u ys) : d.R e w1 W.heap.size (fun k => ok k ∧ some k ≠ u.ownBlock) v xs := Kd.R_new' h (Kd.R_lt h')
theorem rz_ {α : Type} {d : Kd α} {e : Nat} {w0 W w1 : World} {ok : Nat → Prop} {v : Value} {xs : List α} (h : d.R e w1 W.heap.size ok v xs) (hb : Below w0.heap.size w0 W) : Aside0 (d.R e w1 w0.heap.size ok v xs) := ⟨Kd.R_lower h (below_size hb)⟩
theorem vl_ {α : Type} {d : Kd α} {e : Nat} {W : World} {b : Nat} {ok : Nat → Prop} {A : Option Addr} {n c : Nat} {xs : List α} (h : Kd.V d e W b ok (.slice A n c) xs) : n ≤ c := (Kd.V_reads' h).2.1
theorem rl_ {α : Type} {d : Kd α} {e : Nat} {W : World} {b : Nat} {ok : Nat → Prop} {A : Option Addr} {n c : Nat} {xs : List α} (h : d.R e W b ok (.slice A n c) xs) : n ≤ c := (Kd.R_reads' h).2.1
theorem vc_ {q : Prop} {α : Type} {d : Kd α} {e : Nat} {W : World} {b : Nat} {ok : Nat → Prop} {A : Option Addr} {n c : Nat} {xs : List α} (h : Kd.V d e W b ok (.slice A n c) xs) (k : d.C W A xs.length xs → q := by (intro hh_; first | ((repeat (first | (with_reducible exact hh_) | (with_reducible refine Kd.C_alloc ?_ _) | (with_reducible refine Kd.C_drewN ?_ _) | (with_reducible refine Kd.C_drew ?_))); done) | (repeat (first | exact hh_ | (with_reducible refine Kd.C_alloc ?_ _) | (with_reducible refine Kd.C_drewN ?_ _) | (with_reducible refine Kd.C_drew ?_))))) : q := k (Kd.V_reads' h).2.2
theorem rc_ {q : Prop} {α : Type} {d : Kd α} {e : Nat} {W : World} {b : Nat} {ok : Nat → Prop} {A : Option Addr} {n c : Nat} {xs : List α} (h : d.R e W b ok (.slice A n c) xs) (k : d.C W A xs.length xs → q := by (intro hh_; first | ((repeat (first | (with_reducible exact hh_) | (with_reducible refine Kd.C_alloc ?_ _) | (with_reducible refine Kd.C_drewN ?_ _) | (with_reducible refine Kd.C_drew ?_))); done) | (repeat (first | exact hh_ | (with_reducible refine Kd.C_alloc ?_ _) | (with_reducible refine Kd.C_drewN ?_ _) | (with_reducible refine Kd.C_drew ?_))))) : q := k (Kd.R_reads' h).2.2
abbrev nw_ (k : Nat) (A : Option Addr) (n c : Nat) : Prop := some k ≠ (Value.slice A n c).ownBlock
theorem pu_ {P : Program} {ops : Array Oper} {Q : Exit → Act → World → Prop} {md : Region.Mode} {S : World → Prop} {ds : List Nat} {T : Bool × List (List Nat × List Nat)} {i : Nat} {N : Option Tmp} {oi : Oper} {v : Value} {fuel : Nat} {l : Array Bool} {a : Act} {w : World} (l' : Array Bool) (hi : ops[i]? = some oi) (hT : rtab md ops = T)
    (hy : Yields P ops oi v a) {a' : Act} (ha : a.put N v = a') (h : wpAnyLast P md ops Q S ds fuel l' a' w) (hN : oi.dst = N := by rfl) (hc : anyT T l.toList l'.toList i = true := by kernel_rfl) (hQ : ∀ c a w, Q (.panic c) (a.put oi.dst v) w → Q (.panic c) a w := by exact fun _ _ _ h => h) : wpAnyLast P md ops Q S ds (fuel + 1) l a w := pure_ l' hi hN (any_of hT hc) hQ hy ha h
/-- A list of n yes and no: the digits of a number. -/
def bm_ (n k : Nat) : Array Bool := ((List.range n).map (Nat.testBit k)).toArray
end Go.Proofs.Ytklacpdobpkbbaa.P
