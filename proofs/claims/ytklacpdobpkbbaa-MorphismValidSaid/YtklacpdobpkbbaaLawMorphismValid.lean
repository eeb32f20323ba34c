/- The given statement MorphismValidSaid is proved: for every input that can be read the call returns true, and its arguments read as they did. No further condition. -/
import Derived.Test.YtklacpdobpkbbaaRows
import Derived.Test.YtklacpdobpkbbaaPx12
import Derived.Test.YtklacpdobpkbbaaPureMorphismValid
import Derived.Test.YtklacpdobpkbbaaOpens
import Derived.WalkKit
import Derived.ProofKit
import Derived.OpenShut
import Derived.ShutString
import Derived.ChangeOld
import Derived.Below
import Derived.SizedLaws
namespace Go.Proofs.Ytklacpdobpkbbaa.morphismValid
open Go.ChangeShapes Go.WideShapes Go.ChangeAt Go.RowKit Go.Proofs.Ytklacpdobpkbbaa.Opens Go.Proofs.YtklacpdobpkbbaaW.PrintWords
set_option linter.unusedVariables false
theorem own : ownKnob Try.prog.godebug = none := by kernel_rfl
theorem laidOut : laidOutB Try.prog = true := by kernel_rfl
theorem opnI {H : Type} (enc : TypeId × Value → H) (W : World) (base : Nat) (spare : Nat → Bool) (held : Bool) : Opw enc Try.prog W base spare held 22 (Kd.slice 3 (Kd.int .i64)) (fun l => l.length * Try.prog.bytesOf 3 ≤ reachBytes ∧ l.length ≤ maxLen ∧ ∀ x ∈ l, (Lit.int .i64 x).wf = true) :=
  Opw.slice Try.underlying22 (by kernel_rfl) (Opw.of (Opn.int Try.underlying3))
theorem opnE {H : Type} (enc : TypeId × Value → H) (W : World) (base : Nat) (spare : Nat → Bool) (held : Bool) : Opw enc Try.prog W base spare held 23 (Kd.slice 65 P.k65) (fun _ => True) := by
  have h := Opw.slice (enc := enc) (W := W) (base := base) (spare := spare) (held := held) Try.underlying23 (by kernel_rfl) (Opw.iso (Opw.struct Try.underlying65 (by kernel_rfl) (OpwF.cons (by kernel_rfl) (Opw.of (Opn.int Try.underlying3)) (OpwF.cons (by kernel_rfl) (Opw.of (Opn.int Try.underlying3)) (OpwF.one (by kernel_rfl) (Opw.of (Opn.int Try.underlying3)))))) (fun x : P.S65 => (x.f0, x.f1, x.f2)) (fun p => ⟨p.1, p.2.1, p.2.2⟩) (fun _ => rfl))
  intro fuel cs x hx hw
  obtain ⟨p, hp, _⟩ := h fuel cs x hx hw
  exact ⟨p, hp, trivial⟩
theorem opnG {H : Type} (enc : TypeId × Value → H) (W : World) (base : Nat) (spare : Nat → Bool) (held : Bool) : Opw enc Try.prog W base spare held 25 P.k25 (fun _ => True) := by
  have h := Opw.iso (Opw.struct Try.underlying25 (by kernel_rfl) (OpwF.cons (by kernel_rfl) (opnI enc W base spare held) (OpwF.one (by kernel_rfl) (opnE enc W base spare held)))) (fun x : P.S25 => (x.f0, x.f1)) (fun p => ⟨p.1, p.2⟩) (fun _ => rfl)
  intro fuel cs x hx hw
  obtain ⟨p, hp, _⟩ := h fuel cs x hx hw
  exact ⟨p, hp, trivial⟩
theorem opnM {H : Type} (enc : TypeId × Value → H) (W : World) (base : Nat) (spare : Nat → Bool) (held : Bool) : Opw enc Try.prog W base spare held 27 P.k27 (fun m => m.f0.length < 17592186044416 ∧ m.f1.length < 17592186044416) := by
  have h := Opw.iso (Opw.struct Try.underlying27 (by kernel_rfl) (OpwF.cons (by kernel_rfl) (opnI enc W base spare held) (OpwF.one (by kernel_rfl) (opnI enc W base spare held)))) (fun x : P.S27 => (x.f0, x.f1)) (fun p => ⟨p.1, p.2⟩) (fun _ => rfl)
  have hb : Try.prog.bytesOf 3 = 8 := by kernel_rfl
  have hr := reachBytes_lt
  intro fuel cs x hx hw
  obtain ⟨p, hp, h1, h2⟩ := h fuel cs x hx hw
  refine ⟨p, hp, ?_, ?_⟩
  · have := h1.1
    rw [hb] at this
    show p.f0.length < _
    have h3 : p.f0.length * 8 ≤ reachBytes := this
    omega
  · have := h2.1
    rw [hb] at this
    have h3 : p.f1.length * 8 ≤ reachBytes := this
    omega
theorem opnA {H : Type} (enc : TypeId × Value → H) (W : World) (base : Nat) (spare : Nat → Bool) (held : Bool) : Opw enc Try.prog W base spare held 29 P.k29 (fun x => x.f1.f0.length < 17592186044416 ∧ x.f1.f1.length < 17592186044416) := by
  have h := Opw.iso (Opw.struct Try.underlying29 (by kernel_rfl) (OpwF.cons (by kernel_rfl) (opnG enc W base spare held) (OpwF.one (by kernel_rfl) (opnM enc W base spare held)))) (fun x : P.S29 => (x.f0, x.f1)) (fun p => ⟨p.1, p.2⟩) (fun _ => rfl)
  intro fuel cs x hx hw
  obtain ⟨p, hp, h1, h2⟩ := h fuel cs x hx hw
  exact ⟨p, hp, h2⟩
theorem heapE : Kd.Heap P.k65 := Kd.heap_iso _ (Kd.heap_pair (Kd.heap_int _) (Kd.heap_pair (Kd.heap_int _) (Kd.heap_int _)))
theorem toV {α : Type} {d : Kd α} {e : Nat} {W : World} {A : Option Addr} {c : Nat} {xs : List α} (hd : Kd.Heap d) (h : Kd.C d W A xs.length xs) (hl : xs.length ≤ c) : Kd.V d e W W.heap.size (fun _ => True) (.slice A xs.length c) xs := Kd.V_mk hl (fun W' hW => Kd.Heap.C hd (fun k hk => hW k trivial hk) h)
set_option maxRecDepth 100000 in
theorem lifted (os : Os) (started : os.Started) (H : Type) (enc : TypeId × Value → H) :
    ReturnsInHanded {} Try.checked os 3 .any (Rows.morphismValidSpec.pre6 enc Try.prog Try.f3 Rows.morphismValidRow.domain false) (Rows.morphismValidSpec.post enc Try.prog Try.f3 false true false false) := by
  refine returnsInHanded_of_change_sized (C := Try.checked) own started (by kernel_rfl) Try.func3
    (ChangeSpec.witness6 (enc := enc) (C := Try.checked) false ⟨#[], #[.agg #[.slice none 0 0, .slice none 0 0], .agg #[.slice none 0 0, .slice none 0 0, .slice none 0 0, .slice none 0 0]], []⟩ 8 (by kernel_rfl) (by kernel_rfl) (by kernel_rfl) (by kernel_rfl)) ?_
  intro W base args ds gs before hval0 hW hcnd hsz0 _
  have hval : ∀ (j : Nat) t v, Try.f3.params[j]? = some t → args[j]? = some v → Value.okWide Try.prog W .any base t v := hval0
  have hW' := hW
  obtain ⟨p, q, hA0, hV, rfl, hfz, hnd⟩ := hW
  have hA : DataW.TrodAll enc Try.prog W 0 (fun _ => true) true Try.f3.params.toList args.toList ds p := hA0
  rw [Try.params3] at hA hval
  obtain ⟨v0, vs0, d0, ds0, p0, q0, hargs, rfl, rfl, h0, r0⟩ := trodAll_cons hA
  obtain ⟨v1, vs1, d1, ds1, p1, q1, rfl, rfl, rfl, h1, r1⟩ := trodAll_cons r0
  obtain ⟨rfl, rfl, rfl⟩ := trodAll_nil r1
  obtain rfl : args = #[v0, v1] := by cases args; simp_all
  obtain ⟨rfl, rfl⟩ := trodVars_none hV
  have hvt : DataSpec.varTypes Try.checked.prog Rows.morphismValidSpec.plain = [] := rfl
  rw [hvt, List.append_nil, List.append_nil] at hsz0
  have hsz : (DataW.weightsEach Try.prog Try.f3.params.toList [d0, d1]).all (· ≤ reachBytes) = true := hsz0
  rw [Try.params3] at hsz
  obtain ⟨cs0, rfl, _⟩ := okWide_struct Try.underlying25 (hval 0 25 v0 rfl rfl)
  obtain ⟨cs1, rfl, _⟩ := okWide_struct Try.underlying29 (hval 1 29 v1 rfl rfl)
  have k0 := h0
  have lt0 : ∀ x ∈ p0, x.block < W.heap.size := by obtain ⟨m, hm⟩ := k0; exact DataW.trod_lt m _ _ _ hm
  have k1 := h1
  have lt1 : ∀ x ∈ p1, x.block < W.heap.size := by obtain ⟨m, hm⟩ := k1; exact DataW.trod_lt m _ _ _ hm
  obtain ⟨x0, hx0, -⟩ := Opw.cells (opnG enc W _ _ _) h0 hsz (j := 0) rfl rfl
  obtain ⟨x1, hx1, w1⟩ := Opw.cells (opnA enc W _ _ _) h1 hsz (j := 1) rfl rfl
  obtain ⟨A00, c00, A01, c01, e0, l00, g00, l01, g01⟩ := P.k25_open hx0
  obtain rfl : cs0 = #[.slice A00 x0.f0.length c00, .slice A01 x0.f1.length c01] := by
    simp only [Value.cells] at e0
    exact Array.toList_inj.1 e0
  obtain ⟨A10, c10, A11, c11, A12, c12, A13, c13, e1, l10, g10, l11, g11, l12, g12, l13, g13⟩ := P.k29_open hx1
  obtain rfl : cs1 = #[.slice A10 x1.f0.f0.length c10, .slice A11 x1.f0.f1.length c11, .slice A12 x1.f1.f0.length c12, .slice A13 x1.f1.f1.length c13] := by
    simp only [Value.cells] at e1
    exact Array.toList_inj.1 e1
  clear hA0 hval0 hsz0
  obtain ⟨k, hk⟩ := Pure.MorphismValid x0.f0 x0.f1 x1.f0.f0 x1.f0.f1 x1.f1.f0 x1.f1.f1 w1.1 w1.2
  refine (P.scarfjointlaw06_MorphismValid.calls k A00 c00 x0.f0 A01 c01 x0.f1 (fun _ => True) A10 c10 x1.f0.f0 (fun _ => True) A11 c11 x1.f0.f1 (fun _ => True) A12 c12 x1.f1.f0 (fun _ => True) A13 c13 x1.f1.f1 true W g00 l00 g01 l01 (toV (Kd.heap_int _) g10 l10) (toV heapE g11 l11) (toV (Kd.heap_int _) g12 l12) (toV (Kd.heap_int _) g13 l13) hk).mono fun e W' ⟨he, bel⟩ => ?_
  subst he
  exact ⟨_, rfl, _, _, _, [], _, [], hW', trodAll_mk1 (shut_bool Try.underlying4 _), (trodAll_cons_mk (Below.trod laidOut (by kernel_rfl) (of_decide_eq_true (by kernel_rfl)) k0 bel lt0) (trodAll_cons_mk (Below.trod laidOut (by kernel_rfl) (of_decide_eq_true (by kernel_rfl)) k1 bel lt1) trodAll_mk0)), rfl, bel.frame _, fun h => by cases h⟩
theorem over : Rows.morphismValidRow.holds Try.pinned (OpenSpec.ofChange Rows.morphismValidSpec) :=
  OpenClaim.holds_of_wide 3 Try.f3 rfl rfl rfl rfl rfl rfl rfl ⟨rfl, rfl, rfl, rfl, rfl⟩ rfl rfl rfl rfl rfl (by kernel_rfl) Try.func3 (by kernel_rfl)
    (of_decide_eq_true (by kernel_rfl)) (by unfold Func.isWrapper; first | (rw [if_pos (by decide +kernel)]; kernel_rfl) | (rw [if_neg (by decide +kernel)]; exact ⟨rfl, rfl⟩))
    (fun os started H enc _ => lifted os started H enc)
theorem proved : Rows.MorphismValidSaid := over
#print axioms proved
end Go.Proofs.Ytklacpdobpkbbaa.morphismValid
namespace Go.Proofs.Ytklacpdobpkbbaa
/-- The row, under a short name, for the claim. -/
theorem morphismValid_holds : Rows.MorphismValidSaid := morphismValid.proved
end Go.Proofs.Ytklacpdobpkbbaa
