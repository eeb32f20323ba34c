import Derived.Test.YtklacpdobpkbbaaAid
/- Steps of a region of a printed proof, under short names: what a tactic finds is found by it. -/
set_option linter.unusedVariables false
namespace Go.Proofs.Ytklacpdobpkbbaa.P
open Go.RowKit Go.Proofs.YtklacpdobpkbbaaW.PrintWords Go.Proofs.YtklacpdobpkbbaaW.PrintLast Go.Proofs.YtklacpdobpkbbaaW.PrintMore
section
variable {P : Program} {ops : Array Oper} {Q : Exit → Act → World → Prop} {md : Region.Mode} {S : World → Prop} {ds : List Nat} {T : Bool × List (List Nat × List Nat)} {i : Nat} {N : Option Tmp} {oi : Oper} {fuel : Nat} {l : Array Bool} {a : Act} {w : World}
theorem pw_ {v : Value} {a' : Act} (l' : Array Bool) (hi : ops[i]? = some oi) (hT : rtab md ops = T) (h : wpAnyLast P md ops Q S ds fuel l' a' w) (hr : Region.wanted oi (yielded ops a.tmps) = true := by rfl)
    (hy : ∀ w, (execOp a.eval oi).run P w = .ok (.value v) w := by (intro w'; go_simp; with_reducible rfl)) (ha : a.put N v = a' := by (simp only [Act.put, List.setIfInBounds_toArray, List.set_cons_zero, List.set_cons_succ, i64_w, i32_w]; rfl))
    (hN : oi.dst = N := by rfl) (hc : anyT T l.toList l'.toList i = true := by kernel_rfl) (hQ : ∀ c a w, Q (.panic c) (a.put oi.dst v) w → Q (.panic c) a w := by exact fun _ _ _ h => h) : wpAnyLast P md ops Q S ds (fuel + 1) l a w := pure_ l' hi hN (any_of hT hc) hQ (Or.inl ⟨hr, hy⟩) ha h
theorem pz_ {a' : Act} (l' : Array Bool) (hi : ops[i]? = some oi) (hT : rtab md ops = T) (h : wpAnyLast P md ops Q S ds fuel l' a' w) (hr : Region.wanted oi (yielded ops a.tmps) = false := by rfl)
    (ha : a.put N undef = a' := by (simp only [Act.put, List.setIfInBounds_toArray, List.set_cons_zero, List.set_cons_succ, i64_w, i32_w]; rfl))
    (hN : oi.dst = N := by rfl) (hc : anyT T l.toList l'.toList i = true := by kernel_rfl) (hQ : ∀ c a w, Q (.panic c) (a.put oi.dst undef) w → Q (.panic c) a w := by exact fun _ _ _ h => h) : wpAnyLast P md ops Q S ds (fuel + 1) l a w := pure_ l' hi hN (any_of hT hc) hQ (Or.inr ⟨hr, rfl⟩) ha h
theorem tw_ {v : Value} {a' : Act} {B : List Nat} (l' : Array Bool) (hi : ops[i]? = some oi) (hT : rtab md ops = T) (hB : waitsOk T.2 B = true) (hS : S w) (h : wpAnyLast P md ops Q S ds fuel l' a' w) (hr : Region.wanted oi (yielded ops a.tmps) = true := by rfl)
    (hy : ∀ w, S w → (execOp a.eval oi).run P w = .ok (.value v) w := by (intro w' hS_; (repeat (have hA_ := And.left hS_; replace hS_ := And.right hS_)); go_simp; with_reducible rfl)) (ha : a.put N v = a' := by (simp only [Act.put, List.setIfInBounds_toArray, List.set_cons_zero, List.set_cons_succ, i64_w, i32_w]; rfl))
    (hN : oi.dst = N := by rfl) (hc : takeW T B ds l.toList l'.toList i = true := by kernel_rfl) (hQ : ∀ c a w, Q (.panic c) (a.put oi.dst v) w → Q (.panic c) a w := by exact fun _ _ _ h => h) : wpAnyLast P md ops Q S ds (fuel + 1) l a w := take_ l' hi hN (take_ofW hT hB hc) hQ (Or.inl ⟨hr, hy⟩) hS ha h
end
end Go.Proofs.Ytklacpdobpkbbaa.P
