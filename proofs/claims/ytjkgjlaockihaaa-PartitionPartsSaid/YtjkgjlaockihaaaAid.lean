import Derived.Test.YtjkgjlaockihaaaWMore
import Derived.Test.YtjkgjlaockihaaaWWords
import Derived.Test.YtjkgjlaockihaaaWLast
import Derived.Maps.OwnSet
import Derived.Maps.OwnOps
/- Small lemmas on worlds, for the session's own walks. -/
namespace Go.Proofs.Ytjkgjlaockihaaa.P
open Go.RowKit Go.Proofs.YtjkgjlaockihaaaW.PrintWords Go.Proofs.YtjkgjlaockihaaaW.PrintLast Go.Proofs.YtjkgjlaockihaaaW.PrintMore
theorem below_drew1' {b : Nat} {w w1 : World} (h : Below b w w1) (n : Nat) : Below b w (w1.drewN n) := by repeat (first | (with_reducible first | exact h | apply below_alloc | apply pw_below_drewN | apply below_drew1) | exact h)
theorem cell_alloc_ {w : World} {o : Obj} {p : Addr} {v : Value} (h : w.cell? p = some v) : (w.alloc o).cell? p = some v := (World.grownBy_alloc w o none).cell h (by cases p; simp)
theorem ownsMap_below {H : Type} {P : Program} {k : TypeId} {R : Value → Option (DataW H × List MemPlace)} {w w1 : World} {b n : Nat} {D : DataW H} (h : w.ownsMap P k R b n D) (hb : Below w.heap.size w w1) : w1.ownsMap P k R b n D := by
  have hl := h.lt
  obtain ⟨es, clock, hh, F, hs, hD⟩ := h
  exact ⟨es, clock, (hb.block b hl).trans hh, F, hs, hD⟩
theorem below_grown {w w0 w1 : World} {b k : Nat} (h : Below b w w0) (hg : w0.grownBy w1 (some k)) (hk : b ≤ k) (hs : b ≤ w0.heap.size) : Below b w w1 :=
  h.trans ⟨hg.os, hg.tape, hg.output, hg.size, fun j hj => hg.block j (by omega) (by intro e; injection e with e; omega)⟩
theorem rd_wf {l : List Int} (h : (l.all fun x => (Lit.int .i64 x).wf) = true) (i : Int) : (Lit.int .i64 (rd l i)).wf = true := by
  unfold rd
  rw [List.getD_eq_getElem?_getD]
  by_cases hi : i.toNat < l.length
  · rw [List.getElem?_eq_getElem hi]
    exact List.all_eq_true.1 h _ (List.getElem_mem _)
  · rw [List.getElem?_eq_none (by omega)]
    decide
theorem gate_mapUpdate {P : Program} {ops : Array Oper} {o : Oper} {rest : List Oper} {a : Act} {W : World} {Q : Exit → Act → World → Prop} {t : TypeId} {m k v : Operand} (_ho : o.op = .mapUpdate t m k v) (h : wpList P ops Q (o :: rest) a W) : wpList P ops Q (o :: rest) a W := h
theorem ownsMap_alloc {H : Type} {P : Program} {k : TypeId} {R : Value → Option (DataW H × List MemPlace)} {w : World} {b n : Nat} {D : DataW H} (h : w.ownsMap P k R b n D) (o : Obj) : (w.alloc o).ownsMap P k R b n D := ownsMap_below h ((Below.refl _ _).alloc (Nat.le_refl _) _)
theorem ownsMap_grown {H : Type} {P : Program} {k : TypeId} {R : Value → Option (DataW H × List MemPlace)} {w w1 : World} {b n : Nat} {D : DataW H} {row : Option Nat} (h : w.ownsMap P k R b n D) (hg : w.grownBy w1 row) (hne : some b ≠ row) : w1.ownsMap P k R b n D := by
  have hl := h.lt
  obtain ⟨es, clock, hh, F, hs, hD⟩ := h
  exact ⟨es, clock, (hg.block b hl hne).trans hh, F, hs, hD⟩
theorem fresh_ne {H : Type} {P : Program} {k : TypeId} {R : Value → Option (DataW H × List MemPlace)} {w : World} {b n : Nat} {D : DataW H} (h : w.ownsMap P k R b n D) (j : Nat) (hj : w.heap.size ≤ j) : j ≠ b := fun e => by
  have := h.lt
  omega
theorem some_ne {a b o : Nat} (h : a < b) : some (⟨b, o, none⟩ : Addr).block ≠ some a := by
  intro e
  injection e with e
  simp only at e
  omega
theorem wrap_succ {x : Int} (h0 : 0 ≤ x) (h : x < 17592186044416) : wrap64 (x + 1) = x + 1 := by
  unfold wrap64
  omega
theorem toNat_succ {x : Int} (h0 : 0 ≤ x) : (x + 1).toNat = x.toNat + 1 := by omega
theorem cell_below {w w1 : World} {p : Addr} {v : Value} (hb : Below w.heap.size w w1) (h : w.cell? p = some v) : w1.cell? p = some v := (hb.cell (World.block_lt_of_cell? _ _ h)).trans h
theorem add_block_ (a : Addr) (n : Nat) : (a.add n).block = a.block := by unfold Addr.add; split <;> rfl
end Go.Proofs.Ytjkgjlaockihaaa.P
