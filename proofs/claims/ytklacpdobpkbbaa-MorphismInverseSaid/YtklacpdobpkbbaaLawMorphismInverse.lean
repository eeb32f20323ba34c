/- The given statement MorphismInverseSaid is proved: for every input that can be read the call returns true, and its arguments read as they did. No further condition. -/
import Derived.Test.YtklacpdobpkbbaaRows
import Derived.Test.YtklacpdobpkbbaaPx26
import Derived.Test.YtklacpdobpkbbaaPureMorphismInverse
import Derived.Test.YtklacpdobpkbbaaOpens
import Derived.WalkKit
import Derived.ProofKit
import Derived.OpenShut
import Derived.ShutString
import Derived.ChangeOld
import Derived.Below
import Derived.SizedLaws
namespace Go.Proofs.Ytklacpdobpkbbaa.morphismInverse
open Go.ChangeShapes Go.WideShapes Go.ChangeAt Go.RowKit Go.Proofs.Ytklacpdobpkbbaa.Opens Go.Proofs.YtklacpdobpkbbaaW.PrintWords
set_option linter.unusedVariables false
theorem own : ownKnob Try.prog.godebug = none := by kernel_rfl
theorem laidOut : laidOutB Try.prog = true := by kernel_rfl
theorem opn3 {H : Type} (enc : TypeId × Value → H) (W : World) (base : Nat) (spare : Nat → Bool) (held : Bool) : Opw enc Try.prog W base spare held 3 (Kd.int .i64) (fun _ : Int => True) := Opw.of ((Opn.int Try.underlying3).weaken fun _ _ => trivial)
def ok22 (l : List (Int)) : Prop := l.length * Try.prog.bytesOf 3 ≤ reachBytes ∧ l.length ≤ maxLen ∧ ∀ x ∈ l, (fun _ : Int => True) x
theorem opn22 {H : Type} (enc : TypeId × Value → H) (W : World) (base : Nat) (spare : Nat → Bool) (held : Bool) : Opw enc Try.prog W base spare held 22 (Kd.slice 3 (Kd.int .i64)) ok22 := Opw.slice Try.underlying22 (by kernel_rfl) (opn3 enc W base spare held)
theorem len22 {l : List (Int)} (h : ok22 l) : l.length < 17592186044416 := by
  have h1 := h.1
  have hb : Try.prog.bytesOf 3 = 8 := by kernel_rfl
  rw [hb] at h1
  have := reachBytes_lt
  omega
theorem all22 {l : List (Int)} (h : ok22 l) : ∀ x ∈ l, (fun _ : Int => True) x := h.2.2
theorem opn65 {H : Type} (enc : TypeId × Value → H) (W : World) (base : Nat) (spare : Nat → Bool) (held : Bool) : Opw enc Try.prog W base spare held 65 P.k65 (fun x : P.S65 => (fun _ : Int => True) x.f0 ∧ (fun _ : Int => True) x.f1 ∧ (fun _ : Int => True) x.f2) := by
  have h := Opw.iso (Opw.struct Try.underlying65 (by kernel_rfl) (OpwF.cons (by kernel_rfl) (opn3 enc W base spare held) (OpwF.cons (by kernel_rfl) (opn3 enc W base spare held) (OpwF.one (by kernel_rfl) (opn3 enc W base spare held))))) (fun x : P.S65 => (x.f0, x.f1, x.f2)) (fun p => ⟨p.1, p.2.1, p.2.2⟩) (fun _ => rfl)
  intro fuel cs x hx hw
  obtain ⟨p, hp, h1⟩ := h fuel cs x hx hw
  exact ⟨p, hp, h1⟩
def ok23 (l : List (P.S65)) : Prop := l.length * Try.prog.bytesOf 65 ≤ reachBytes ∧ l.length ≤ maxLen ∧ ∀ x ∈ l, (fun x : P.S65 => (fun _ : Int => True) x.f0 ∧ (fun _ : Int => True) x.f1 ∧ (fun _ : Int => True) x.f2) x
theorem opn23 {H : Type} (enc : TypeId × Value → H) (W : World) (base : Nat) (spare : Nat → Bool) (held : Bool) : Opw enc Try.prog W base spare held 23 (Kd.slice 65 P.k65) ok23 := Opw.slice Try.underlying23 (by kernel_rfl) (opn65 enc W base spare held)
theorem len23 {l : List (P.S65)} (h : ok23 l) : l.length < 17592186044416 := by
  have h1 := h.1
  have hb : Try.prog.bytesOf 65 = 24 := by kernel_rfl
  rw [hb] at h1
  have := reachBytes_lt
  omega
theorem all23 {l : List (P.S65)} (h : ok23 l) : ∀ x ∈ l, (fun x : P.S65 => (fun _ : Int => True) x.f0 ∧ (fun _ : Int => True) x.f1 ∧ (fun _ : Int => True) x.f2) x := h.2.2
theorem opn25 {H : Type} (enc : TypeId × Value → H) (W : World) (base : Nat) (spare : Nat → Bool) (held : Bool) : Opw enc Try.prog W base spare held 25 P.k25 (fun x : P.S25 => ok22 x.f0 ∧ ok23 x.f1) := by
  have h := Opw.iso (Opw.struct Try.underlying25 (by kernel_rfl) (OpwF.cons (by kernel_rfl) (opn22 enc W base spare held) (OpwF.one (by kernel_rfl) (opn23 enc W base spare held)))) (fun x : P.S25 => (x.f0, x.f1)) (fun p => ⟨p.1, p.2⟩) (fun _ => rfl)
  intro fuel cs x hx hw
  obtain ⟨p, hp, h1⟩ := h fuel cs x hx hw
  exact ⟨p, hp, h1⟩
theorem opn27 {H : Type} (enc : TypeId × Value → H) (W : World) (base : Nat) (spare : Nat → Bool) (held : Bool) : Opw enc Try.prog W base spare held 27 P.k27 (fun x : P.S27 => ok22 x.f0 ∧ ok22 x.f1) := by
  have h := Opw.iso (Opw.struct Try.underlying27 (by kernel_rfl) (OpwF.cons (by kernel_rfl) (opn22 enc W base spare held) (OpwF.one (by kernel_rfl) (opn22 enc W base spare held)))) (fun x : P.S27 => (x.f0, x.f1)) (fun p => ⟨p.1, p.2⟩) (fun _ => rfl)
  intro fuel cs x hx hw
  obtain ⟨p, hp, h1⟩ := h fuel cs x hx hw
  exact ⟨p, hp, h1⟩
theorem opn29 {H : Type} (enc : TypeId × Value → H) (W : World) (base : Nat) (spare : Nat → Bool) (held : Bool) : Opw enc Try.prog W base spare held 29 P.k29 (fun x : P.S29 => (fun x : P.S25 => ok22 x.f0 ∧ ok23 x.f1) x.f0 ∧ (fun x : P.S27 => ok22 x.f0 ∧ ok22 x.f1) x.f1) := by
  have h := Opw.iso (Opw.struct Try.underlying29 (by kernel_rfl) (OpwF.cons (by kernel_rfl) (opn25 enc W base spare held) (OpwF.one (by kernel_rfl) (opn27 enc W base spare held)))) (fun x : P.S29 => (x.f0, x.f1)) (fun p => ⟨p.1, p.2⟩) (fun _ => rfl)
  intro fuel cs x hx hw
  obtain ⟨p, hp, h1⟩ := h fuel cs x hx hw
  exact ⟨p, hp, h1⟩
set_option maxRecDepth 100000 in
theorem lifted (os : Os) (started : os.Started) (H : Type) (enc : TypeId × Value → H) :
    ReturnsInHanded {} Try.checked os 9 .any (Rows.morphismInverseSpec.pre6 enc Try.prog Try.f9 Rows.morphismInverseRow.domain false) (Rows.morphismInverseSpec.post enc Try.prog Try.f9 false true false false) := by
  refine returnsInHanded_of_change_sized (C := Try.checked) own started (by kernel_rfl) Try.func9
    (ChangeSpec.witness6 (enc := enc) (C := Try.checked) false ⟨#[], #[.agg #[.slice none 0 0, .slice none 0 0], .agg #[.slice none 0 0, .slice none 0 0, .slice none 0 0, .slice none 0 0]], []⟩ 12 (by kernel_rfl) (by kernel_rfl) (by kernel_rfl) (by kernel_rfl)) ?_
  intro W base args ds gs before hval0 hW hcnd hsz0 _
  have hval : ∀ (j : Nat) t v, Try.f9.params[j]? = some t → args[j]? = some v → Value.okWide Try.prog W .any base t v := hval0
  have hW' := hW
  obtain ⟨p, q, hA0, hV, rfl, hfz, hnd⟩ := hW
  have hA : DataW.TrodAll enc Try.prog W 0 (fun _ => true) true Try.f9.params.toList args.toList ds p := hA0
  rw [Try.params9] at hA hval
  obtain ⟨v0, vs0, d0, ds0, p0, q0, hargs, rfl, rfl, h0, r0⟩ := trodAll_cons hA
  obtain ⟨v1, vs1, d1, ds1, p1, q1, rfl, rfl, rfl, h1, r1⟩ := trodAll_cons r0
  obtain ⟨rfl, rfl, rfl⟩ := trodAll_nil r1
  obtain rfl : args = #[v0, v1] := by cases args; simp_all
  obtain ⟨rfl, rfl⟩ := trodVars_none hV
  have hvt : DataSpec.varTypes Try.checked.prog Rows.morphismInverseSpec.plain = [] := rfl
  rw [hvt, List.append_nil, List.append_nil] at hsz0
  have hsz : (DataW.weightsEach Try.prog Try.f9.params.toList [d0, d1]).all (· ≤ reachBytes) = true := hsz0
  rw [Try.params9] at hsz
  obtain ⟨cs0, rfl, _⟩ := okWide_struct Try.underlying25 (hval 0 25 v0 rfl rfl)
  obtain ⟨cs1, rfl, _⟩ := okWide_struct Try.underlying29 (hval 1 29 v1 rfl rfl)
  have k0 := h0
  have lt0 : ∀ x ∈ p0, x.block < W.heap.size := by obtain ⟨m, hm⟩ := k0; exact DataW.trod_lt m _ _ _ hm
  have k1 := h1
  have lt1 : ∀ x ∈ p1, x.block < W.heap.size := by obtain ⟨m, hm⟩ := k1; exact DataW.trod_lt m _ _ _ hm
  obtain ⟨x0, hx0, w0⟩ := Opw.cells (opn25 enc W _ _ _) h0 hsz (j := 0) rfl rfl
  obtain ⟨A00, c00, A01, c01, e0, l00, g00, l01, g01⟩ := P.k25_open hx0
  obtain rfl : cs0 = #[.slice A00 x0.f0.length c00, .slice A01 x0.f1.length c01] := by
    simp only [Value.cells] at e0
    exact Array.toList_inj.1 e0
  obtain ⟨x1, hx1, w1⟩ := Opw.cells (opn29 enc W _ _ _) h1 hsz (j := 1) rfl rfl
  obtain ⟨A10, c10, A11, c11, A12, c12, A13, c13, e1, l10, g10, l11, g11, l12, g12, l13, g13⟩ := P.k29_open hx1
  obtain rfl : cs1 = #[.slice A10 x1.f0.f0.length c10, .slice A11 x1.f0.f1.length c11, .slice A12 x1.f1.f0.length c12, .slice A13 x1.f1.f1.length c13] := by
    simp only [Value.cells] at e1
    exact Array.toList_inj.1 e1
  clear hA0 hval0 hsz0
  obtain ⟨k, hk⟩ := Pure.MorphismInverse x0.f0 x0.f1 x1.f0.f0 x1.f0.f1 x1.f1.f0 x1.f1.f1 (len22 w1.2.1) (len22 w1.2.2)
  refine (P.scarfjointlaw06_MorphismInverse.calls k A00 c00 x0.f0 A01 c01 x0.f1 A10 c10 x1.f0.f0 A11 c11 x1.f0.f1 A12 c12 x1.f1.f0 A13 c13 x1.f1.f1 true W g00 l00 g01 l01 g10 l10 g11 l11 g12 l12 g13 l13 hk).mono fun e W' ⟨he, bel⟩ => ?_
  subst he
  exact ⟨_, rfl, _, _, _, [], _, [], hW', trodAll_mk1 (shut_bool Try.underlying4 _), (trodAll_cons_mk (Below.trod laidOut (by kernel_rfl) (of_decide_eq_true (by kernel_rfl)) k0 bel lt0) (trodAll_cons_mk (Below.trod laidOut (by kernel_rfl) (of_decide_eq_true (by kernel_rfl)) k1 bel lt1) trodAll_mk0)), rfl, bel.frame _, fun h => by cases h⟩
theorem over : Rows.morphismInverseRow.holds Try.pinned (OpenSpec.ofChange Rows.morphismInverseSpec) :=
  OpenClaim.holds_of_wide 9 Try.f9 rfl rfl rfl rfl rfl rfl rfl ⟨rfl, rfl, rfl, rfl, rfl⟩ rfl rfl rfl rfl rfl (by kernel_rfl) Try.func9 (by kernel_rfl)
    (of_decide_eq_true (by kernel_rfl)) (by unfold Func.isWrapper; first | (rw [if_pos (by decide +kernel)]; kernel_rfl) | (rw [if_neg (by decide +kernel)]; exact ⟨rfl, rfl⟩))
    (fun os started H enc _ => lifted os started H enc)
theorem proved : Rows.MorphismInverseSaid := over
#print axioms proved
end Go.Proofs.Ytklacpdobpkbbaa.morphismInverse
namespace Go.Proofs.Ytklacpdobpkbbaa
/-- The row, under a short name, for the claim. -/
theorem morphismInverse_holds : Rows.MorphismInverseSaid := morphismInverse.proved
end Go.Proofs.Ytklacpdobpkbbaa
