import Derived.Test.YtklacpdobpkbbaaU
import Derived.Maps.OwnSet
import Derived.Maps.OwnOps
/- Small lemmas on worlds, for the session's own walks. -/
namespace Go.Proofs.Ytklacpdobpkbbaa.P
open Go.RowKit Go.Proofs.YtklacpdobpkbbaaW.PrintWords Go.Proofs.YtklacpdobpkbbaaW.PrintLast Go.Proofs.YtklacpdobpkbbaaW.PrintMore
theorem below_drew1' {b : Nat} {w w1 : World} (h : Below b w w1) (n : Nat) : Below b w (w1.drewN n) := by repeat (first | (with_reducible first | exact h | apply below_alloc | apply pw_below_drewN | apply below_drew1) | exact h)
theorem cell_alloc_ {w : World} {o : Obj} {p : Addr} {v : Value} (h : w.cell? p = some v) : (w.alloc o).cell? p = some v := (World.grownBy_alloc w o none).cell h (by cases p; simp)
theorem ownsMap_below {H : Type} {P : Program} {k : TypeId} {R : Value → Option (DataW H × List MemPlace)} {w w1 : World} {b n : Nat} {D : DataW H} (h : w.ownsMap P k R b n D) (hb : Below w.heap.size w w1) : w1.ownsMap P k R b n D := by
  have hl := h.lt
  obtain ⟨es, clock, hh, F, hs, hD⟩ := h
  exact ⟨es, clock, (hb.block b hl).trans hh, F, hs, hD⟩
theorem below_grown {w w0 w1 : World} {b k : Nat} (h : Below b w w0) (hg : w0.grownBy w1 (some k)) (hk : b ≤ k) (hs : b ≤ w0.heap.size) : Below b w w1 :=
  h.trans ⟨hg.os, hg.tape, hg.output, hg.size, fun j hj => hg.block j (by omega) (by intro e; injection e with e; omega)⟩
theorem rd_wf {l : List Int} (h : (l.all fun x => (Lit.int .i64 x).wf) = true) (i : Int) : (Lit.int .i64 (rd l i)).wf = true := by
  unfold rd
  rw [List.getD_eq_getElem?_getD]
  by_cases hi : i.toNat < l.length
  · rw [List.getElem?_eq_getElem hi]
    exact List.all_eq_true.1 h _ (List.getElem_mem _)
  · rw [List.getElem?_eq_none (by omega)]
    decide
theorem gate_mapUpdate {P : Program} {ops : Array Oper} {o : Oper} {rest : List Oper} {a : Act} {W : World} {Q : Exit → Act → World → Prop} {t : TypeId} {m k v : Operand} (_ho : o.op = .mapUpdate t m k v) (h : wpList P ops Q (o :: rest) a W) : wpList P ops Q (o :: rest) a W := h
theorem ownsMap_alloc {H : Type} {P : Program} {k : TypeId} {R : Value → Option (DataW H × List MemPlace)} {w : World} {b n : Nat} {D : DataW H} (h : w.ownsMap P k R b n D) (o : Obj) : (w.alloc o).ownsMap P k R b n D := ownsMap_below h ((Below.refl _ _).alloc (Nat.le_refl _) _)
theorem ownsMap_grown {H : Type} {P : Program} {k : TypeId} {R : Value → Option (DataW H × List MemPlace)} {w w1 : World} {b n : Nat} {D : DataW H} {row : Option Nat} (h : w.ownsMap P k R b n D) (hg : w.grownBy w1 row) (hne : some b ≠ row) : w1.ownsMap P k R b n D := by
  have hl := h.lt
  obtain ⟨es, clock, hh, F, hs, hD⟩ := h
  exact ⟨es, clock, (hg.block b hl hne).trans hh, F, hs, hD⟩
theorem fresh_ne {H : Type} {P : Program} {k : TypeId} {R : Value → Option (DataW H × List MemPlace)} {w : World} {b n : Nat} {D : DataW H} (h : w.ownsMap P k R b n D) (j : Nat) (hj : w.heap.size ≤ j) : j ≠ b := fun e => by
  have := h.lt
  omega
theorem some_ne {a b o : Nat} (h : a < b) : some (⟨b, o, none⟩ : Addr).block ≠ some a := by
  intro e
  injection e with e
  simp only at e
  omega
theorem wrap_succ {x : Int} (h0 : 0 ≤ x) (h : x < 17592186044416) : wrap64 (x + 1) = x + 1 := by
  unfold wrap64
  omega
theorem toNat_succ {x : Int} (h0 : 0 ≤ x) : (x + 1).toNat = x.toNat + 1 := by omega
theorem cell_below {w w1 : World} {p : Addr} {v : Value} (hb : Below w.heap.size w w1) (h : w.cell? p = some v) : w1.cell? p = some v := (hb.cell (World.block_lt_of_cell? _ _ h)).trans h
theorem add_block_ (a : Addr) (n : Nat) : (a.add n).block = a.block := by unfold Addr.add; split <;> rfl
/-! ### steps of a printed proof under short names (the last argument is found by a tactic) -/
theorem bk_ {p q : Prop} (h : p) (k : p → q := by (intro hh_; first | (with_reducible exact hh_) | ((with_reducible repeat (first | refine blk_drewN ?_ _ | refine blk_drew ?_ | refine blk_alloc ?_ _)); exact hh_))) : q := k h
theorem mr_ {p q : Prop} (h : p) (k : p → q := by (intro hh_; first | (with_reducible exact hh_) | ((with_reducible repeat (first | apply Kd.R_alloc | apply Kd.R_drewN | apply Kd.R_drew)); exact hh_))) : q := k h
theorem mv_ {p q : Prop} (h : p) (k : p → q := by (intro hh_; first | (with_reducible exact hh_) | ((with_reducible repeat (first | apply Kd.V_alloc | apply Kd.V_drewN | apply Kd.V_drew)); exact hh_))) : q := k h
theorem ms_ {p q : Prop} (h : p) (k : p → q := by (intro hh_; first | (with_reducible exact hh_) | ((with_reducible repeat (first | apply Kd.S_alloc | apply Kd.S_drewN | apply Kd.S_drew)); exact hh_))) : q := k h
theorem mn_ {p q : Prop} (h : p) (k : p → q := by (intro hh_; first | (with_reducible exact hh_) | ((with_reducible repeat (first | apply Kd.N_alloc | apply Kd.N_drewN | apply Kd.N_drew)); exact hh_))) : q := k h
theorem mq_ {p q : Prop} (h : p) (k : p → q := by (intro hh_; first | (with_reducible exact hh_) | ((with_reducible repeat (first | apply Kd.Q_alloc | apply Kd.Q_drewN | apply Kd.Q_drew)); exact hh_))) : q := k h
theorem mc_ {p q : Prop} (h : p) (k : p → q := by (intro hh_; repeat (first | exact hh_ | (with_reducible refine Kd.C_alloc ?_ _) | (with_reducible refine Kd.C_drewN ?_ _) | (with_reducible refine Kd.C_drew ?_)))) : q := k h
theorem mb_ {p q : Prop} (h : p) (k : p → q := by (intro hh_; repeat (first | (with_reducible first | exact hh_ | apply below_alloc | apply pw_below_drewN | apply below_drew1) | exact hh_))) : q := k h
theorem mbs_ {p q : Prop} (h : p) (k : p → q := by (intro hh_; repeat (first | (with_reducible first | exact hh_ | apply below_alloc | apply pw_below_drewN | apply below_drew1 | refine below_set ?_ (Aside0.out (by assumption))) | exact hh_))) : q := k h
theorem gw_ {w W : World} {g : Nat} (hg : g = W.heap.size) (h : Below w.heap.size w W) : w.heap.size ≤ g := hg ▸ h.size
theorem nb_ {W : World} {g g' : Nat} {o : Obj} (hg : g' = W.heap.size) (h : W.heap[g]? = some o) : g ≠ g' := hg ▸ Nat.ne_of_lt (blk_lt h)
theorem nc_ {W : World} {g g' : Nat} {o : Obj} (hg : g' = W.heap.size) (h : W.heap[g]? = some o) : g' ≠ g := hg ▸ Nat.ne_of_gt (blk_lt h)
theorem bc0_ {w : World} {g t : Nat} {a0 : Value} {l : List Value} (h : w.heap[g]? = some (.cells (a0 :: l).toArray t (0, 0))) : w.cell? ⟨g, 0, none⟩ = some a0 := (blk_cell h 0).trans (by simp)
theorem bc1_ {w : World} {g t : Nat} {a0 a1 : Value} {l : List Value} (h : w.heap[g]? = some (.cells (a0 :: a1 :: l).toArray t (0, 0))) : w.cell? ⟨g, 1, none⟩ = some a1 := (blk_cell h 1).trans (by simp)
theorem bc2_ {w : World} {g t : Nat} {a0 a1 a2 : Value} {l : List Value} (h : w.heap[g]? = some (.cells (a0 :: a1 :: a2 :: l).toArray t (0, 0))) : w.cell? ⟨g, 2, none⟩ = some a2 := (blk_cell h 2).trans (by simp)
theorem bc3_ {w : World} {g t : Nat} {a0 a1 a2 a3 : Value} {l : List Value} (h : w.heap[g]? = some (.cells (a0 :: a1 :: a2 :: a3 :: l).toArray t (0, 0))) : w.cell? ⟨g, 3, none⟩ = some a3 := (blk_cell h 3).trans (by simp)
theorem bc4_ {w : World} {g t : Nat} {a0 a1 a2 a3 a4 : Value} {l : List Value} (h : w.heap[g]? = some (.cells (a0 :: a1 :: a2 :: a3 :: a4 :: l).toArray t (0, 0))) : w.cell? ⟨g, 4, none⟩ = some a4 := (blk_cell h 4).trans (by simp)
theorem bc5_ {w : World} {g t : Nat} {a0 a1 a2 a3 a4 a5 : Value} {l : List Value} (h : w.heap[g]? = some (.cells (a0 :: a1 :: a2 :: a3 :: a4 :: a5 :: l).toArray t (0, 0))) : w.cell? ⟨g, 5, none⟩ = some a5 := (blk_cell h 5).trans (by simp)
theorem bc6_ {w : World} {g t : Nat} {a0 a1 a2 a3 a4 a5 a6 : Value} {l : List Value} (h : w.heap[g]? = some (.cells (a0 :: a1 :: a2 :: a3 :: a4 :: a5 :: a6 :: l).toArray t (0, 0))) : w.cell? ⟨g, 6, none⟩ = some a6 := (blk_cell h 6).trans (by simp)
theorem bc7_ {w : World} {g t : Nat} {a0 a1 a2 a3 a4 a5 a6 a7 : Value} {l : List Value} (h : w.heap[g]? = some (.cells (a0 :: a1 :: a2 :: a3 :: a4 :: a5 :: a6 :: a7 :: l).toArray t (0, 0))) : w.cell? ⟨g, 7, none⟩ = some a7 := (blk_cell h 7).trans (by simp)
theorem bc8_ {w : World} {g t : Nat} {a0 a1 a2 a3 a4 a5 a6 a7 a8 : Value} {l : List Value} (h : w.heap[g]? = some (.cells (a0 :: a1 :: a2 :: a3 :: a4 :: a5 :: a6 :: a7 :: a8 :: l).toArray t (0, 0))) : w.cell? ⟨g, 8, none⟩ = some a8 := (blk_cell h 8).trans (by simp)
theorem bc9_ {w : World} {g t : Nat} {a0 a1 a2 a3 a4 a5 a6 a7 a8 a9 : Value} {l : List Value} (h : w.heap[g]? = some (.cells (a0 :: a1 :: a2 :: a3 :: a4 :: a5 :: a6 :: a7 :: a8 :: a9 :: l).toArray t (0, 0))) : w.cell? ⟨g, 9, none⟩ = some a9 := (blk_cell h 9).trans (by simp)
theorem bc10_ {w : World} {g t : Nat} {a0 a1 a2 a3 a4 a5 a6 a7 a8 a9 a10 : Value} {l : List Value} (h : w.heap[g]? = some (.cells (a0 :: a1 :: a2 :: a3 :: a4 :: a5 :: a6 :: a7 :: a8 :: a9 :: a10 :: l).toArray t (0, 0))) : w.cell? ⟨g, 10, none⟩ = some a10 := (blk_cell h 10).trans (by simp)
theorem bc11_ {w : World} {g t : Nat} {a0 a1 a2 a3 a4 a5 a6 a7 a8 a9 a10 a11 : Value} {l : List Value} (h : w.heap[g]? = some (.cells (a0 :: a1 :: a2 :: a3 :: a4 :: a5 :: a6 :: a7 :: a8 :: a9 :: a10 :: a11 :: l).toArray t (0, 0))) : w.cell? ⟨g, 11, none⟩ = some a11 := (blk_cell h 11).trans (by simp)
end Go.Proofs.Ytklacpdobpkbbaa.P
