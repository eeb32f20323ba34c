/- Steps of a printed function that holds from some number of rounds on. -/
import Derived.Test.YtklacpdobpkbbaaU
namespace Go.Proofs.Ytklacpdobpkbbaa.EvAid
open Go.RowKit Go.Proofs.YtklacpdobpkbbaaW.PrintWords Go.Proofs.YtklacpdobpkbbaaW.PrintLast Go.Proofs.YtklacpdobpkbbaaW.PrintMore
theorem pos {α : Type} {c : Prop} [Decidable c] {g f : Nat → Option α} {r : α} (h : c) (e : Ev g r) : Ev (fun k => if c then g k else f k) r := by
  simpa only [if_pos h] using e
theorem neg {α : Type} {c : Prop} [Decidable c] {g f : Nat → Option α} {r : α} (h : ¬ c) (e : Ev f r) : Ev (fun k => if c then g k else f k) r := by
  simpa only [if_neg h] using e
theorem bsome {α β : Type} {f : Nat → α → Option β} {a : α} {r : β} (e : Ev (fun n => f n a) r) : Ev (fun n => (some a).bind (f n)) r := e
theorem wrap_nat {i : Nat} (h : i < 4611686018427387904) : wrap64 ((i : Int) + 1) = ((i + 1 : Nat) : Int) := by
  unfold wrap64
  omega
theorem wrap_self {x : Int} (h0 : -4611686018427387904 ≤ x) (h : x < 4611686018427387904) : wrap64 x = x := by
  unfold wrap64
  omega
theorem mx_nat (a b : Nat) : mx (a : Int) (b : Int) = ((max a b : Nat) : Int) := by
  unfold mx
  split <;> omega
theorem mn_nat (a b : Nat) : mn (a : Int) (b : Int) = ((min a b : Nat) : Int) := by
  unfold mn
  split <;> omega
end Go.Proofs.Ytklacpdobpkbbaa.EvAid
