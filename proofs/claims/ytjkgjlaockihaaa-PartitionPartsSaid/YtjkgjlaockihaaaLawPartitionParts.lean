/- The given statement PartitionPartsSaid is proved: for every input that can be read the call returns true, and its arguments read as they did. No further condition. -/
import Derived.Test.YtjkgjlaockihaaaRows
import Derived.Test.YtjkgjlaockihaaaPx5
import Derived.Test.YtjkgjlaockihaaaPurePartitionParts
import Derived.Test.YtjkgjlaockihaaaOpens
import Derived.WalkKit
import Derived.ProofKit
import Derived.OpenShut
import Derived.ShutString
import Derived.ChangeOld
import Derived.Below
import Derived.SizedLaws
namespace Go.Proofs.Ytjkgjlaockihaaa.partitionParts
open Go.ChangeShapes Go.WideShapes Go.ChangeAt Go.RowKit Go.Proofs.Ytjkgjlaockihaaa.Opens Go.Proofs.YtjkgjlaockihaaaW.PrintWords
open Go.ChangeMaps (open_string shut_string)
set_option linter.unusedVariables false
theorem own : ownKnob Try.prog.godebug = none := by kernel_rfl
theorem laidOut : laidOutB Try.prog = true := by kernel_rfl
theorem two : ((List.range 2).map fun i => ((5 : TypeId), i * Try.prog.cellsOf 5)) = [(5, 0), (5, 0 + 1)] := by kernel_rfl
theorem opn {H : Type} (enc : TypeId × Value → H) (W : World) (base : Nat) (spare : Nat → Bool) (held : Bool) :
    Opn enc Try.prog W base spare held 22 (Kd.slice 25 P.k25) (fun l => l.length ≤ maxLen ∧ ∀ x ∈ l, (Lit.int .u8 x.f0).wf = true ∧ (Lit.int .u8 x.f1).wf = true) :=
  Opn.slice Try.underlying22 (by kernel_rfl) (Opn.iso (Opn.array Try.underlying25 (by kernel_rfl) (two ▸ OpnF.cons (by kernel_rfl) (Opn.int Try.underlying5) (OpnF.one (by kernel_rfl) (Opn.int Try.underlying5)))) _ (fun p => ⟨p.1, p.2⟩) (fun _ => rfl))
set_option maxRecDepth 100000 in
theorem lifted (os : Os) (started : os.Started) (H : Type) (enc : TypeId × Value → H) :
    ReturnsInHanded {} Try.checked os 3 .any (Rows.partitionPartsSpec.pre6 enc Try.prog Try.f3 Rows.partitionPartsRow.domain false) (Rows.partitionPartsSpec.post enc Try.prog Try.f3 false true false false) := by
  refine returnsInHanded_of_change_sized (C := Try.checked) own started (by kernel_rfl) Try.func3
    (ChangeSpec.witness6 (enc := enc) (C := Try.checked) false ⟨#[], #[.slice none 0 0, .int .u8 0], []⟩ 8 (by kernel_rfl) (by kernel_rfl) (by kernel_rfl) (by kernel_rfl)) ?_
  intro W base args ds gs before hval0 hW hcnd hsz0 _
  have hval : ∀ (j : Nat) t v, Try.f3.params[j]? = some t → args[j]? = some v → Value.okWide Try.prog W .any base t v := hval0
  have hW' := hW
  obtain ⟨p, q, hA0, hV, rfl, hfz, hnd⟩ := hW
  have hA : DataW.TrodAll enc Try.prog W 0 (fun _ => true) true Try.f3.params.toList args.toList ds p := hA0
  rw [Try.params3] at hA hval
  obtain ⟨v0, vs0, d0, ds0, p0, q0, hargs, rfl, rfl, h0, r0⟩ := trodAll_cons hA
  obtain ⟨v1, vs1, d1, ds1, p1, q1, rfl, rfl, rfl, h1, r1⟩ := trodAll_cons r0
  obtain ⟨rfl, rfl, rfl⟩ := trodAll_nil r1
  obtain rfl : args = #[v0, v1] := by cases args; simp_all
  obtain ⟨rfl, rfl⟩ := trodVars_none hV
  obtain ⟨a0, len0, cap0, rfl⟩ := okWide_slice Try.underlying22 (hval 0 22 v0 rfl rfl)
  have k0 := h0
  have lt0 : ∀ x ∈ p0, x.block < W.heap.size := by obtain ⟨m, hm⟩ := k0; exact DataW.trod_lt m _ _ _ hm
  obtain ⟨l0, rfl, hl0, hC0, -, w0⟩ := Opn.arg (opn enc W _ _ _) h0
  obtain ⟨a1, rfl, rfl, rfl, w1⟩ := open_int Try.underlying5 (hval 1 5 v1 rfl rfl) h1
  clear hA0 hval0 hsz0
  obtain ⟨k, hk⟩ := Pure.PartitionParts l0 a1 w0 w1
  refine (P.scarfjointlaw02_PartitionParts.calls k a0 cap0 l0 a1 true W hC0 hl0 hk).mono fun e W' ⟨he, bel⟩ => ?_
  subst he
  exact ⟨_, rfl, _, _, _, [], _, [], hW', trodAll_mk1 (shut_bool Try.underlying4 _), (trodAll_cons_mk (Below.trod laidOut (by kernel_rfl) (of_decide_eq_true (by kernel_rfl)) k0 bel lt0) (trodAll_cons_mk (shut_int Try.underlying5 w1) trodAll_mk0)), rfl, bel.frame _, fun h => by cases h⟩
theorem over : Rows.partitionPartsRow.holds Try.pinned (OpenSpec.ofChange Rows.partitionPartsSpec) :=
  OpenClaim.holds_of_wide 3 Try.f3 rfl rfl rfl rfl rfl rfl rfl ⟨rfl, rfl, rfl, rfl, rfl⟩ rfl rfl rfl rfl rfl (by kernel_rfl) Try.func3 (by kernel_rfl)
    (of_decide_eq_true (by kernel_rfl)) (by unfold Func.isWrapper; first | (rw [if_pos (by decide +kernel)]; kernel_rfl) | (rw [if_neg (by decide +kernel)]; exact ⟨rfl, rfl⟩))
    (fun os started H enc _ => lifted os started H enc)
theorem proved : Rows.PartitionPartsSaid := over
#print axioms proved
end Go.Proofs.Ytjkgjlaockihaaa.partitionParts
namespace Go.Proofs.Ytjkgjlaockihaaa
/-- The row, under a short name, for the claim. -/
theorem partitionParts_holds : Rows.PartitionPartsSaid := partitionParts.proved
end Go.Proofs.Ytjkgjlaockihaaa
