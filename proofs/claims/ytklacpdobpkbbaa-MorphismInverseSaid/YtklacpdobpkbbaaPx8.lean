-- Written by wip/drive.py of this session's repo over the kit's print.py (with contracts of the session's own): not the print's own text
import Derived.Test.YtklacpdobpkbbaaPx0
namespace Go.Proofs.Ytklacpdobpkbbaa.P
open Go.RowKit Go.Proofs.YtklacpdobpkbbaaW.PrintWords Go.Proofs.YtklacpdobpkbbaaW.PrintLast Go.Proofs.YtklacpdobpkbbaaW.PrintMore
attribute [local go_sem] max2_int min2_int max_two min_two max_three min_three max_four min_four   -- for this text's walks alone
set_option linter.unusedVariables false
set_option linter.unusedSimpArgs false

/-! ### graph_within: function 61 -/
def graph_within.f (a0 : Int) (a1 : Int) : Option (Bool) := if a0 ≥ 0 then (some (decide (a0 ≤ a1))) else (some false)
set_option maxHeartbeats 8000000 in
set_option maxRecDepth 100000 in
theorem graph_within.calls (a0 : Int) (a1 : Int) (r : Bool) (w : World) (h : graph_within.f a0 a1 = some r) :
  Calls Try.prog 61 #[.int .i64 a0, .int .i64 a1] w fun e w' => e = .returned (.bool r) ∧ Drawn0 w w' := by
 have H : (if a0 ≥ 0 then (some (decide (a0 ≤ a1))) else (some false)) = some r := h
 clear h
 by_cases c3 : a0 ≥ 0
 ·rw [if_pos c3] at H
  have c3b0 : decide (0 ≤ a0) = true := decide_eq_true c3
  clear c3
  obtain rfl := Option.some.inj H
  go_enter Try.func61, Try.ntmps61
  go_wp2
  go_ret
  exact ⟨by first | rfl | (simp; done) | (simp [*]; done), by repeat (first | exact Drawn0.refl _ | apply Drawn0.step)⟩
 rw [if_neg c3] at H
 have c3b0 : decide (0 ≤ a0) = false := decide_eq_false c3
 clear c3
 obtain rfl := Option.some.inj H
 go_enter Try.func61, Try.ntmps61
 go_wp2
 go_ret
 exact ⟨by first | rfl | (simp; done) | (simp [*]; done), by repeat (first | exact Drawn0.refl _ | apply Drawn0.step)⟩

/-! ### graph_fits: function 64 -/
def graph_fits.f (a0_0 : Int) (a0_1 : Int) (a0_2 : Int) (a1 : Int) : Option (Bool) := (graph_within.f a0_0 99).bind fun t102 => (if t102 = true then ((graph_within.f a0_1 (wrap64 (a1 - 1))).bind fun t103 => (if t103 = true then ((graph_within.f a0_2 (wrap64 (a1 - 1))).bind fun t104 => (some t104)) else (some false))) else (some false))
set_option maxHeartbeats 8000000 in
set_option maxRecDepth 100000 in
theorem graph_fits.calls (a0_0 : Int) (a0_1 : Int) (a0_2 : Int) (a1 : Int) (r : Bool) (w : World) (h : graph_fits.f a0_0 a0_1 a0_2 a1 = some r) :
  Calls Try.prog 64 #[.agg #[.int .i64 a0_0, .int .i64 a0_1, .int .i64 a0_2], .int .i64 a1] w fun e w' => e = .returned (.bool r) ∧ Below w.heap.size w w' := by
 have hu65 := Try.underlying65
 have HB := Aside0.mk (Below.refl w.heap.size w)
 have H : ((graph_within.f a0_0 99).bind fun t102 => (if t102 = true then ((graph_within.f a0_1 (wrap64 (a1 - 1))).bind fun t103 => (if t103 = true then ((graph_within.f a0_2 (wrap64 (a1 - 1))).bind fun t104 => (some t104)) else (some false))) else (some false))) = some r := h
 clear h
 replace H := Option.bind_eq_some_iff.mp H
 obtain ⟨t102, A30, H⟩ := H
 replace H : (if t102 = true then ((graph_within.f a0_1 (wrap64 (a1 - 1))).bind fun t103 => (if t103 = true then ((graph_within.f a0_2 (wrap64 (a1 - 1))).bind fun t104 => (some t104)) else (some false))) else (some false)) = some r := H
 have A3 := Aside0.mk A30
 clear A30
 by_cases c4 : t102 = true
 ·subst c4
  have H1 : ((graph_within.f a0_1 (wrap64 (a1 - 1))).bind fun t103 => (if t103 = true then ((graph_within.f a0_2 (wrap64 (a1 - 1))).bind fun t104 => (some t104)) else (some false))) = some r := by rw [if_pos rfl] at H; exact H
  clear H
  have H := H1
  clear H1
  replace H := Option.bind_eq_some_iff.mp H
  obtain ⟨t103, A50, H⟩ := H
  replace H : (if t103 = true then ((graph_within.f a0_2 (wrap64 (a1 - 1))).bind fun t104 => (some t104)) else (some false)) = some r := H
  have A5 := Aside0.mk A50
  clear A50
  by_cases c6 : t103 = true
  ·subst c6
   have H1 : ((graph_within.f a0_2 (wrap64 (a1 - 1))).bind fun t104 => (some t104)) = some r := by rw [if_pos rfl] at H; exact H
   clear H
   have H := H1
   clear H1
   replace H := Option.bind_eq_some_iff.mp H
   obtain ⟨t104, A70, H⟩ := H
   replace H : (some t104) = some r := H
   have A7 := Aside0.mk A70
   clear A70
   obtain rfl := Option.some.inj H
   go_enter Try.func64, Try.ntmps64
   go_wp2_with (first | ((with_reducible refine gate_dst (N := 2) rfl ?_); refine box_event ?hg (N := 2) ?hd (cs := #[.int .i64 a0_0, .int .i64 a0_1, .int .i64 a0_2]) (t := 65) ?hr ?_; (case hd => rfl); (case hg => rfl); (case hr => first | (go_simp; done) | (go_simp; rfl)); intro gb101 hg w8 hbox hb; have BK101 := Aside0.mk (hbox); have GW101 := Aside0.mk (gw_ hg (mb_ HB.out)); have GE101 := Aside0.mk (gw_ hg (mb_ HB.out)); replace HB := Aside0.mk (below_step (mb_ HB.out) hb); clear hb hbox hg; have hcz9_0 := bc0_ BK101.out; have hcz9_1 := bc1_ BK101.out; have hcz9_2 := bc2_ BK101.out; have hfz9_0 := blk_frozen BK101.out 0; have hfz9_1 := blk_frozen BK101.out 1; have hfz9_2 := blk_frozen BK101.out 2) | ((with_reducible refine gate_callee (f := 61) rfl ?_); refine goesL_ (some 7) rfl rfl Try.func61 (by kernel_rfl) rfl #[.int .i64 a0_0, .int .i64 99] rfl (by (try simp only [List.map_toArray, List.map_cons, List.map_nil]); first | done | rfl | (simp only [List.length_drop, List.length_take]; rfl)) ?_; (with_reducible refine (graph_within.calls a0_0 99 true _ A3.out).mono ?_); rintro e w' ⟨rfl, ⟨nd, rfl⟩⟩; refine ⟨_, rfl, ?_⟩) | (go_at_call 61; (with_reducible refine (graph_within.calls a0_1 (wrap64 (a1 - 1)) true _ A5.out).mono ?_); rintro e w' ⟨rfl, ⟨nd, rfl⟩⟩) | (go_at_call 61; (with_reducible refine (graph_within.calls a0_2 (wrap64 (a1 - 1)) t104 _ A7.out).mono ?_); rintro e w' ⟨rfl, ⟨nd, rfl⟩⟩))
   go_ret
   exact ⟨by first | rfl | (simp [errW_none, errW_some] <;> rfl) | (simp [*, errW_none, errW_some] <;> rfl), mbs_ HB.out⟩
  replace c6 := Bool.eq_false_iff.mpr c6
  subst c6
  have H1 : (some false) = some r := by rw [if_neg (show ¬ (false = true) by decide)] at H; exact H
  clear H
  have H := H1
  clear H1
  obtain rfl := Option.some.inj H
  go_enter Try.func64, Try.ntmps64
  go_wp2_with (first | ((with_reducible refine gate_dst (N := 2) rfl ?_); refine box_event ?hg (N := 2) ?hd (cs := #[.int .i64 a0_0, .int .i64 a0_1, .int .i64 a0_2]) (t := 65) ?hr ?_; (case hd => rfl); (case hg => rfl); (case hr => first | (go_simp; done) | (go_simp; rfl)); intro gb101 hg w10 hbox hb; have BK101 := Aside0.mk (hbox); have GW101 := Aside0.mk (gw_ hg (mb_ HB.out)); have GE101 := Aside0.mk (gw_ hg (mb_ HB.out)); replace HB := Aside0.mk (below_step (mb_ HB.out) hb); clear hb hbox hg; have hcz11_0 := bc0_ BK101.out; have hcz11_1 := bc1_ BK101.out; have hcz11_2 := bc2_ BK101.out; have hfz11_0 := blk_frozen BK101.out 0; have hfz11_1 := blk_frozen BK101.out 1; have hfz11_2 := blk_frozen BK101.out 2) | ((with_reducible refine gate_callee (f := 61) rfl ?_); refine goesL_ (some 7) rfl rfl Try.func61 (by kernel_rfl) rfl #[.int .i64 a0_0, .int .i64 99] rfl (by (try simp only [List.map_toArray, List.map_cons, List.map_nil]); first | done | rfl | (simp only [List.length_drop, List.length_take]; rfl)) ?_; (with_reducible refine (graph_within.calls a0_0 99 true _ A3.out).mono ?_); rintro e w' ⟨rfl, ⟨nd, rfl⟩⟩; refine ⟨_, rfl, ?_⟩) | (go_at_call 61; (with_reducible refine (graph_within.calls a0_1 (wrap64 (a1 - 1)) false _ A5.out).mono ?_); rintro e w' ⟨rfl, ⟨nd, rfl⟩⟩))
  go_ret
  exact ⟨by first | rfl | (simp [errW_none, errW_some] <;> rfl) | (simp [*, errW_none, errW_some] <;> rfl), mbs_ HB.out⟩
 replace c4 := Bool.eq_false_iff.mpr c4
 subst c4
 have H1 : (some false) = some r := by rw [if_neg (show ¬ (false = true) by decide)] at H; exact H
 clear H
 have H := H1
 clear H1
 obtain rfl := Option.some.inj H
 go_enter Try.func64, Try.ntmps64
 go_wp2_with (first | ((with_reducible refine gate_dst (N := 2) rfl ?_); refine box_event ?hg (N := 2) ?hd (cs := #[.int .i64 a0_0, .int .i64 a0_1, .int .i64 a0_2]) (t := 65) ?hr ?_; (case hd => rfl); (case hg => rfl); (case hr => first | (go_simp; done) | (go_simp; rfl)); intro gb101 hg w12 hbox hb; have BK101 := Aside0.mk (hbox); have GW101 := Aside0.mk (gw_ hg (mb_ HB.out)); have GE101 := Aside0.mk (gw_ hg (mb_ HB.out)); replace HB := Aside0.mk (below_step (mb_ HB.out) hb); clear hb hbox hg; have hcz13_0 := bc0_ BK101.out; have hcz13_1 := bc1_ BK101.out; have hcz13_2 := bc2_ BK101.out; have hfz13_0 := blk_frozen BK101.out 0; have hfz13_1 := blk_frozen BK101.out 1; have hfz13_2 := blk_frozen BK101.out 2) | ((with_reducible refine gate_callee (f := 61) rfl ?_); refine goesL_ (some 7) rfl rfl Try.func61 (by kernel_rfl) rfl #[.int .i64 a0_0, .int .i64 99] rfl (by (try simp only [List.map_toArray, List.map_cons, List.map_nil]); first | done | rfl | (simp only [List.length_drop, List.length_take]; rfl)) ?_; (with_reducible refine (graph_within.calls a0_0 99 false _ A3.out).mono ?_); rintro e w' ⟨rfl, ⟨nd, rfl⟩⟩; refine ⟨_, rfl, ?_⟩))
 go_ret
 exact ⟨by first | rfl | (simp [errW_none, errW_some] <;> rfl) | (simp [*, errW_none, errW_some] <;> rfl), mbs_ HB.out⟩

/-! ### graph_Valid: function 38 -/
def wB (x m : Int) : Bool := decide (0 ≤ x) && decide (x ≤ m)
theorem within_wB (x m : Int) : graph_within.f x m = some (wB x m) := by
  unfold graph_within.f wB
  by_cases h : x ≥ 0
  · rw [if_pos h, decide_eq_true h]
    rfl
  · rw [if_neg h, decide_eq_false h]
    rfl
def fB (e : S65) (m : Int) : Bool := wB e.f0 99 && (wB e.f1 (wrap64 (m - 1)) && wB e.f2 (wrap64 (m - 1)))
theorem fits_fB (e : S65) (m : Int) : graph_fits.f e.f0 e.f1 e.f2 m = some (fB e m) := by
  unfold graph_fits.f fB
  simp only [within_wB, Option.bind_some]
  cases wB e.f0 99 <;> cases wB e.f1 (wrap64 (m - 1)) <;> simp
/-- An answer that says by its sign whether there is one. -/
def Sign (b : Bool) (e : Ending) : Prop := ∃ i : Int, e = .returned (.int .i64 i) ∧ decide (i ≥ 0) = b
theorem sign_yes {b : Bool} {i : Int} (h : 0 ≤ i) (hb : b = true) : Sign b (.returned (.int .i64 i)) := ⟨i, rfl, by rw [hb]; exact decide_eq_true h⟩
theorem sign_no {b : Bool} (hb : b = false) : Sign b (.returned (.int .i64 (-1))) := ⟨-1, rfl, by rw [hb]; rfl⟩
theorem any_yes {α : Type} {l : List α} {p : α → Bool} {i : Int} {d : α} (h0 : 0 ≤ i) (h : i < l.length) (hp : p (l.getD i.toNat d) = true) : l.any p = true := by
  rw [List.any_eq_true]
  refine ⟨l.getD i.toNat d, ?_, hp⟩
  rw [List.getD_eq_getElem?_getD, List.getElem?_eq_getElem (show i.toNat < l.length by omega)]
  exact List.getElem_mem _
theorem any_no {α : Type} {l : List α} {p : α → Bool} {d : α} (h : ∀ j : Nat, (j : Int) < l.length → p (l.getD j d) = false) : l.any p = false := by
  rw [List.any_eq_false]
  intro x hx
  obtain ⟨j, hj, rfl⟩ := List.getElem_of_mem hx
  have := h j (by omega)
  rw [List.getD_eq_getElem?_getD, List.getElem?_eq_getElem hj] at this
  simpa using this
theorem wrap_up {x : Int} {n : Nat} (h0 : 0 ≤ x) (h : x < (n : Int)) (hn : n ≤ 9223372036854775807) : wrap64 (x + 1) = x + 1 := by
  unfold wrap64
  omega
theorem graph_Valid_1.calls (x : Int) (w : World) : Calls Try.prog 60 #[.int .i64 x] w fun e w' => e = .returned (.bool (!wB x 99)) ∧ Drawn0 w w' := by
  have A := Aside0.mk (within_wB x 99)
  go_enter Try.func60, Try.ntmps60
  go_wp2_with (first | (go_at_call 61; (with_reducible refine (graph_within.calls x 99 (wB x 99) _ A.out).mono ?_); rintro e w' ⟨rfl, ⟨nd, rfl⟩⟩))
  go_ret
  exact ⟨by first | rfl | (simp; done), by repeat (first | exact Drawn0.refl _ | apply Drawn0.step)⟩
theorem graph_Valid_2.calls (e : S65) (g : Nat) (A : Option Addr) (n c : Nat) (w : World) (hg : w.cell? ⟨g, 0, none⟩ = some (.slice A n c)) : Calls Try.prog 63 #[.agg #[.int .i64 e.f0, .int .i64 e.f1, .int .i64 e.f2], .pointer (some ⟨g, 0, none⟩)] w fun en w' => en = .returned (.bool (!fB e (n : Int))) ∧ Below w.heap.size w w' := by
  have B := Aside0.mk (fits_fB e (n : Int))
  have HB := Aside0.mk (Below.refl w.heap.size w)
  have hu1 := Try.underlying65
  have hu2 := Try.underlying25
  have hg1 := cell_alloc_ (o := .cells #[.int .i64 e.f0, .int .i64 e.f1, .int .i64 e.f2] 65) hg
  go_enter Try.func63, Try.ntmps63
  go_wp2_with (first | (go_at_call 64; (with_reducible refine (graph_fits.calls e.f0 e.f1 e.f2 (n : Int) (fB e (n : Int)) _ B.out).mono ?_); rintro en w' ⟨rfl, hb⟩; have n1_ := Aside0.mk (below_step (by repeat (first | (with_reducible first | exact HB.out | apply below_alloc | apply pw_below_drewN | apply below_drew1) | exact HB.out)) hb); clear hb HB; have HB := n1_; clear n1_))
  go_ret
  exact ⟨by first | rfl | (simp; done), by repeat (first | (with_reducible first | exact HB.out | apply below_alloc | apply pw_below_drewN | apply below_drew1) | exact HB.out)⟩
set_option maxHeartbeats 1000000 in
theorem idx1.calls (A0 : Option Addr) (c0 : Nat) (l0 : List Int) (w : World) (hr0 : Kd.C (Kd.int .i64) w A0 l0.length l0) : Calls Try.prog 73 #[.slice A0 l0.length c0, .func (.func 60) #[] #[]] w fun e w' => Sign (l0.any fun x => !wB x 99) e ∧ Drawn0 w w' := by
  have HR0 := Aside0.mk hr0
  have HL := Aside0.mk hr0.2.1
  clear hr0
  go_enter Try.func73, Try.ntmps73
  go_wp2
  go_loopw [8] (fun v8 wr => ∃ x : Int, v8 = .int .i64 x ∧ Aside0 (0 ≤ x ∧ x ≤ l0.length) ∧ Aside0 (∀ j : Nat, (j : Int) < x → wB (rd l0 (j : Int)) 99 = true) ∧ Drawn0 w wr) (fun v8 _ => (l0.length - intOf v8).toNat)
  case atStart => exact ⟨0, rfl, ⟨by omega⟩, ⟨fun j hj => by omega⟩, by repeat (first | exact Drawn0.refl _ | apply Drawn0.step)⟩
  case round =>
    obtain ⟨x, rfl, hx, hs, ⟨m1, rfl⟩⟩ := hrel
    by_cases c1 : x < (l0.length : Int)
    · have c1b0 : decide (x < (l0.length : Int)) = true := decide_eq_true c1
      have p1 : 0 ≤ x := hx.out.1
      obtain ⟨ad0, e0, hx0⟩ := Kd.at_int HR0.out x p1 c1
      cases e0
      have P1 := Aside0.mk p1
      have Q1 := Aside0.mk c1
      replace p1 := eq_true p1
      replace c1 := eq_true c1
      by_cases hb : wB (rd l0 x) 99 = true
      · have HB_ := Aside0.mk hb
        have hb' : (!wB (rd l0 x) 99) = false := by rw [hb]; rfl
        clear hb
        go_wp2_with (first | (go_at_call 60; (with_reducible refine (graph_Valid_1.calls (rd l0 x) _).mono ?_); rintro e w' ⟨rfl, ⟨nd, rfl⟩⟩))
        go_roundw
        case rel => exact ⟨x + 1, by rw [wrap_up P1.out Q1.out HL.out], ⟨by have := P1.out; have := Q1.out; omega⟩, ⟨fun j hj => by
          have h1 := P1.out
          by_cases e : (j : Int) = x
          · rw [e]; exact HB_.out
          · exact hs.out j (by omega)⟩, by repeat (first | exact Drawn0.refl _ | apply Drawn0.step)⟩
        case measure => rw [wrap_up P1.out Q1.out HL.out]; simp only [intOf]; have := P1.out; have := Q1.out; omega
      · have hb' : (!wB (rd l0 x) 99) = true := by simpa using hb
        have hany : Aside0 ((l0.any fun x => !wB x 99) = true) := ⟨any_yes (d := 0) P1.out Q1.out hb'⟩
        clear hb
        go_wp2_with (first | (go_at_call 60; (with_reducible refine (graph_Valid_1.calls (rd l0 x) _).mono ?_); rintro e w' ⟨rfl, ⟨nd, rfl⟩⟩))
        go_ret
        exact ⟨sign_yes P1.out hany.out, by repeat (first | exact Drawn0.refl _ | apply Drawn0.step)⟩
    · have c1b0 : decide (x < (l0.length : Int)) = false := decide_eq_false c1
      have hany : Aside0 ((l0.any fun x => !wB x 99) = false) := ⟨any_no (d := 0) (fun j hj => by
        have h1 := hs.out j (by omega)
        unfold rd at h1
        rw [Int.toNat_natCast] at h1
        rw [h1]
        rfl)⟩
      clear c1
      go_wp2
      go_ret
      exact ⟨sign_no hany.out, by repeat (first | exact Drawn0.refl _ | apply Drawn0.step)⟩
set_option maxHeartbeats 1000000 in
theorem idx2.calls (A0 : Option Addr) (c0 : Nat) (l0 : List S65) (g : Nat) (A : Option Addr) (n c : Nat) (w : World) (hr0 : Kd.C k65 w A0 l0.length l0) (hg : w.cell? ⟨g, 0, none⟩ = some (.slice A n c)) : Calls Try.prog 74 #[.slice A0 l0.length c0, .func (.func 63) #[] #[.pointer (some ⟨g, 0, none⟩)]] w fun e w' => Sign (l0.any fun x => !fB x (n : Int)) e ∧ Below w.heap.size w w' := by
  have HR0 := Aside0.mk hr0
  have HG := Aside0.mk hg
  have HL := Aside0.mk hr0.2.1
  have HB := Aside0.mk (Below.refl w.heap.size w)
  have hu1 := Try.underlying65
  clear hr0 hg
  go_enter Try.func74, Try.ntmps74
  go_wp2
  go_loopw [8] (fun v8 wr => ∃ x : Int, v8 = .int .i64 x ∧ Aside0 (0 ≤ x ∧ x ≤ l0.length) ∧ Aside0 (∀ j : Nat, (j : Int) < x → fB (rd_T65 l0 (j : Int)) (n : Int) = true) ∧ Aside0 (Below w.heap.size w wr)) (fun v8 _ => (l0.length - intOf v8).toNat)
  case atStart => exact ⟨0, rfl, ⟨by omega⟩, ⟨fun j hj => by omega⟩, ⟨by repeat (first | (with_reducible first | exact HB.out | apply below_alloc | apply pw_below_drewN | apply below_drew1) | exact HB.out)⟩⟩
  case round =>
    obtain ⟨x, rfl, hx, hs, HB'⟩ := hrel
    clear HB
    have HB := HB'
    clear HB'
    by_cases c1 : x < (l0.length : Int)
    · have c1b0 : decide (x < (l0.length : Int)) = true := decide_eq_true c1
      have p1 : 0 ≤ x := hx.out.1
      obtain ⟨ad0, e0, hx0, hx1, hx2⟩ := at_T65 HR0.out x p1 c1
      cases e0
      replace hx0 := (HB.out.cell (World.block_lt_of_cell? w _ hx0)).trans hx0
      replace hx1 := (HB.out.cell (World.block_lt_of_cell? w _ hx1)).trans hx1
      replace hx2 := (HB.out.cell (World.block_lt_of_cell? w _ hx2)).trans hx2
      have P1 := Aside0.mk p1
      have Q1 := Aside0.mk c1
      replace p1 := eq_true p1
      replace c1 := eq_true c1
      by_cases hb : fB (rd_T65 l0 x) (n : Int) = true
      · have HB_ := Aside0.mk hb
        have hb' : (!fB (rd_T65 l0 x) (n : Int)) = false := by rw [hb]; rfl
        clear hb
        go_wp2_with (first | (go_at_call 63; (with_reducible refine (graph_Valid_2.calls (rd_T65 l0 x) g A n c _ ((HB.out.cell (World.block_lt_of_cell? w _ HG.out)).trans HG.out)).mono ?_); rintro e w' ⟨rfl, hb⟩; have n1_ := Aside0.mk (below_step (by repeat (first | (with_reducible first | exact HB.out | apply below_alloc | apply pw_below_drewN | apply below_drew1) | exact HB.out)) hb); clear hb HB; have HB := n1_; clear n1_))
        go_roundw
        case rel => exact ⟨x + 1, by rw [wrap_up P1.out Q1.out HL.out], ⟨by have := P1.out; have := Q1.out; omega⟩, ⟨fun j hj => by
          have h1 := P1.out
          by_cases e : (j : Int) = x
          · rw [e]; exact HB_.out
          · exact hs.out j (by omega)⟩, ⟨by repeat (first | (with_reducible first | exact HB.out | apply below_alloc | apply pw_below_drewN | apply below_drew1) | exact HB.out)⟩⟩
        case measure => rw [wrap_up P1.out Q1.out HL.out]; simp only [intOf]; have := P1.out; have := Q1.out; omega
      · have hb' : (!fB (rd_T65 l0 x) (n : Int)) = true := by simpa using hb
        have hany : Aside0 ((l0.any fun x => !fB x (n : Int)) = true) := ⟨any_yes (d := z65) P1.out Q1.out hb'⟩
        clear hb
        go_wp2_with (first | (go_at_call 63; (with_reducible refine (graph_Valid_2.calls (rd_T65 l0 x) g A n c _ ((HB.out.cell (World.block_lt_of_cell? w _ HG.out)).trans HG.out)).mono ?_); rintro e w' ⟨rfl, hb⟩; have n1_ := Aside0.mk (below_step (by repeat (first | (with_reducible first | exact HB.out | apply below_alloc | apply pw_below_drewN | apply below_drew1) | exact HB.out)) hb); clear hb HB; have HB := n1_; clear n1_))
        go_ret
        exact ⟨sign_yes P1.out hany.out, by repeat (first | (with_reducible first | exact HB.out | apply below_alloc | apply pw_below_drewN | apply below_drew1) | exact HB.out)⟩
    · have c1b0 : decide (x < (l0.length : Int)) = false := decide_eq_false c1
      have hany : Aside0 ((l0.any fun x => !fB x (n : Int)) = false) := ⟨any_no (d := z65) (fun j hj => by
        have h1 := hs.out j (by omega)
        unfold rd_T65 at h1
        rw [Int.toNat_natCast] at h1
        rw [h1]
        rfl)⟩
      clear c1
      go_wp2
      go_ret
      exact ⟨sign_no hany.out, by repeat (first | (with_reducible first | exact HB.out | apply below_alloc | apply pw_below_drewN | apply below_drew1) | exact HB.out)⟩
theorem contains1.calls (A0 : Option Addr) (c0 : Nat) (l0 : List Int) (w : World) (hr0 : Kd.C (Kd.int .i64) w A0 l0.length l0) : Calls Try.prog 59 #[.slice A0 l0.length c0, .func (.func 60) #[] #[]] w fun e w' => e = .returned (.bool (l0.any fun x => !wB x 99)) ∧ Drawn0 w w' := by
  have HR0 := Aside0.mk hr0
  clear hr0
  go_enter Try.func59, Try.ntmps59
  go_wp2_with (first | (go_at_call 73; (with_reducible refine (idx1.calls _ _ l0 _ HR0.out).mono ?_); rintro e w' ⟨⟨i, rfl, hi⟩, ⟨nd, rfl⟩⟩; have HI := Aside0.mk hi; clear hi))
  go_ret
  exact ⟨by rw [← HI.out]; first | rfl | (simp; done), by repeat (first | exact Drawn0.refl _ | apply Drawn0.step)⟩
theorem contains2.calls (A0 : Option Addr) (c0 : Nat) (l0 : List S65) (g : Nat) (A : Option Addr) (n c : Nat) (w : World) (hr0 : Kd.C k65 w A0 l0.length l0) (hg : w.cell? ⟨g, 0, none⟩ = some (.slice A n c)) : Calls Try.prog 62 #[.slice A0 l0.length c0, .func (.func 63) #[] #[.pointer (some ⟨g, 0, none⟩)]] w fun e w' => e = .returned (.bool (l0.any fun x => !fB x (n : Int))) ∧ Below w.heap.size w w' := by
  have HR0 := Aside0.mk hr0
  have HG := Aside0.mk hg
  clear hr0 hg
  have HB := Aside0.mk (Below.refl w.heap.size w)
  go_enter Try.func62, Try.ntmps62
  go_wp2_with (first | (go_at_call 74; (with_reducible refine (idx2.calls _ _ l0 g A n c _ HR0.out HG.out).mono ?_); rintro e w' ⟨⟨i, rfl, hi⟩, hb⟩; have HI := Aside0.mk hi; clear hi; have n1_ := Aside0.mk hb; clear hb HB; have HB := n1_; clear n1_))
  go_ret
  exact ⟨by rw [← HI.out]; first | rfl | (simp; done), by repeat (first | (with_reducible first | exact HB.out | apply below_alloc | apply pw_below_drewN | apply below_drew1) | exact HB.out)⟩
def graph_Valid.f (l0_0 : List Int) (l0_1 : List S65) : Option Int := if l0_0.length > 40 then some 3 else if l0_1.length > 80 then some 3 else if (l0_0.any fun x => !wB x 99) = true then some 6 else if (l0_1.any fun x => !fB x (l0_0.length : Int)) = true then some 6 else some 0
set_option maxHeartbeats 1000000 in
theorem graph_Valid.calls (A0_0 : Option Addr) (c0_0 : Nat) (l0_0 : List Int) (A0_1 : Option Addr) (c0_1 : Nat) (l0_1 : List (S65)) (r : Int) (w : World) (hr0_0 : Kd.C (Kd.int .i64) w A0_0 l0_0.length l0_0) (hc0_0 : l0_0.length ≤ c0_0) (hr0_1 : Kd.C k65 w A0_1 l0_1.length l0_1) (hc0_1 : l0_1.length ≤ c0_1) (h : graph_Valid.f l0_0 l0_1 = some r) :
    Calls Try.prog 38 #[.agg #[.slice A0_0 l0_0.length c0_0, .slice A0_1 l0_1.length c0_1]] w fun e w' => e = .returned (.int .i64 r) ∧ Below w.heap.size w w' := by
  have hu1 := Try.underlying25
  have HR0 := Aside0.mk hr0_0
  have HR1 := Aside0.mk hr0_1
  clear hr0_0 hr0_1 hc0_0 hc0_1
  have HB := Aside0.mk (Below.refl w.heap.size w)
  unfold graph_Valid.f at h
  by_cases c1 : l0_0.length > 40
  · rw [if_pos c1] at h
    obtain rfl := Option.some.inj h
    have b1 : decide (40 < l0_0.length) = true := decide_eq_true c1
    have b2 : decide ((40 : Int) < (l0_0.length : Int)) = true := decide_eq_true (by omega)
    clear h c1
    go_enter Try.func38, Try.ntmps38
    go_wp2
    go_ret
    exact ⟨rfl, by repeat (first | (with_reducible first | exact HB.out | apply below_alloc | apply pw_below_drewN | apply below_drew1) | exact HB.out)⟩
  rw [if_neg c1] at h
  have b1 : decide (40 < l0_0.length) = false := decide_eq_false c1
  have b2 : decide ((40 : Int) < (l0_0.length : Int)) = false := decide_eq_false (by omega)
  clear c1
  by_cases c2 : l0_1.length > 80
  · rw [if_pos c2] at h
    obtain rfl := Option.some.inj h
    have b3 : decide (80 < l0_1.length) = true := decide_eq_true c2
    have b4 : decide ((80 : Int) < (l0_1.length : Int)) = true := decide_eq_true (by omega)
    clear h c2
    go_enter Try.func38, Try.ntmps38
    go_wp2
    go_ret
    exact ⟨rfl, by repeat (first | (with_reducible first | exact HB.out | apply below_alloc | apply pw_below_drewN | apply below_drew1) | exact HB.out)⟩
  rw [if_neg c2] at h
  have b3 : decide (80 < l0_1.length) = false := decide_eq_false c2
  have b4 : decide ((80 : Int) < (l0_1.length : Int)) = false := decide_eq_false (by omega)
  clear c2
  by_cases c3 : (l0_0.any fun x => !wB x 99) = true
  · rw [if_pos c3] at h
    obtain rfl := Option.some.inj h
    clear h
    have C3 := Aside0.mk c3
    clear c3
    go_enter Try.func38, Try.ntmps38
    go_wp2_with (first | (go_at_call 59; (with_reducible refine (contains1.calls _ _ l0_0 _ ?side1).mono ?_); (case side1 => repeat (first | exact HR0.out | (with_reducible refine Kd.C_alloc ?_ _) | (with_reducible refine Kd.C_drewN ?_ _) | (with_reducible refine Kd.C_drew ?_))); rintro e w' ⟨rfl, ⟨nd, rfl⟩⟩; rw [C3.out]))
    go_ret
    exact ⟨rfl, by repeat (first | (with_reducible first | exact HB.out | apply below_alloc | apply pw_below_drewN | apply below_drew1) | exact HB.out)⟩
  rw [if_neg c3] at h
  have C3 : Aside0 ((l0_0.any fun x => !wB x 99) = false) := ⟨by simpa using c3⟩
  clear c3
  obtain ⟨v, hv⟩ : ∃ v, (l0_1.any fun x => !fB x (l0_0.length : Int)) = v := ⟨_, rfl⟩
  rw [hv] at h
  have C4 := Aside0.mk hv
  clear hv
  cases v with
  | true =>
    rw [if_pos rfl] at h
    obtain rfl := Option.some.inj h
    clear h
    go_enter Try.func38, Try.ntmps38
    go_wp2_with (first | (go_at_call 59; (with_reducible refine (contains1.calls _ _ l0_0 _ ?side1).mono ?_); (case side1 => repeat (first | exact HR0.out | (with_reducible refine Kd.C_alloc ?_ _) | (with_reducible refine Kd.C_drewN ?_ _) | (with_reducible refine Kd.C_drew ?_))); rintro e w' ⟨rfl, ⟨nd, rfl⟩⟩; rw [C3.out]) | (go_at_call 62; (with_reducible refine (contains2.calls _ _ l0_1 w.heap.size A0_0 l0_0.length c0_0 _ ?side1 ?side2).mono ?_); (case side1 => repeat (first | exact HR1.out | (with_reducible refine Kd.C_alloc ?_ _) | (with_reducible refine Kd.C_drewN ?_ _) | (with_reducible refine Kd.C_drew ?_))); (case side2 => go_simp); rintro e w' ⟨rfl, hb⟩; rw [C4.out]; have n1_ := Aside0.mk (below_step (by repeat (first | (with_reducible first | exact HB.out | apply below_alloc | apply pw_below_drewN | apply below_drew1) | exact HB.out)) hb); clear hb HB; have HB := n1_; clear n1_))
    go_ret
    exact ⟨rfl, by repeat (first | (with_reducible first | exact HB.out | apply below_alloc | apply pw_below_drewN | apply below_drew1) | exact HB.out)⟩
  | false =>
    rw [if_neg (by simp)] at h
    obtain rfl := Option.some.inj h
    clear h
    go_enter Try.func38, Try.ntmps38
    go_wp2_with (first | (go_at_call 59; (with_reducible refine (contains1.calls _ _ l0_0 _ ?side1).mono ?_); (case side1 => repeat (first | exact HR0.out | (with_reducible refine Kd.C_alloc ?_ _) | (with_reducible refine Kd.C_drewN ?_ _) | (with_reducible refine Kd.C_drew ?_))); rintro e w' ⟨rfl, ⟨nd, rfl⟩⟩; rw [C3.out]) | (go_at_call 62; (with_reducible refine (contains2.calls _ _ l0_1 w.heap.size A0_0 l0_0.length c0_0 _ ?side1 ?side2).mono ?_); (case side1 => repeat (first | exact HR1.out | (with_reducible refine Kd.C_alloc ?_ _) | (with_reducible refine Kd.C_drewN ?_ _) | (with_reducible refine Kd.C_drew ?_))); (case side2 => go_simp); rintro e w' ⟨rfl, hb⟩; rw [C4.out]; have n1_ := Aside0.mk (below_step (by repeat (first | (with_reducible first | exact HB.out | apply below_alloc | apply pw_below_drewN | apply below_drew1) | exact HB.out)) hb); clear hb HB; have HB := n1_; clear n1_))
    go_ret
    exact ⟨rfl, by repeat (first | (with_reducible first | exact HB.out | apply below_alloc | apply pw_below_drewN | apply below_drew1) | exact HB.out)⟩

/-! ### morphism_Valid: function 12 -/
def morphism_Valid.l1 (l0_1 l1_1 : List S65) (l2_0 l2_1 : List Int) : Nat → Int → Option Int
  | 0, _ => none
  | k + 1, x => if x < (l2_1.length : Int) then (if rd l2_1 x < 0 then some 6 else if rd l2_1 x ≥ (l1_1.length : Int) then some 6 else if x < (l0_1.length : Int) then (if (rd_T65 l0_1 x).f0 = (rd_T65 l1_1 (rd l2_1 x)).f0 then (if 0 ≤ (rd_T65 l0_1 x).f1 ∧ (rd_T65 l0_1 x).f1 < (l2_0.length : Int) ∧ 0 ≤ (rd_T65 l0_1 x).f2 ∧ (rd_T65 l0_1 x).f2 < (l2_0.length : Int) then (if rd l2_0 (rd_T65 l0_1 x).f1 = (rd_T65 l1_1 (rd l2_1 x)).f1 then (if rd l2_0 (rd_T65 l0_1 x).f2 = (rd_T65 l1_1 (rd l2_1 x)).f2 then morphism_Valid.l1 l0_1 l1_1 l2_0 l2_1 k (x + 1) else some 11) else some 11) else none) else some 13) else none) else some 0
def morphism_Valid.l0 (l0_0 : List Int) (l0_1 : List S65) (l1_0 : List Int) (l1_1 : List S65) (l2_0 l2_1 : List Int) : Nat → Int → Option Int
  | 0, _ => none
  | k + 1, x => if x < (l2_0.length : Int) then (if rd l2_0 x < 0 then some 6 else if rd l2_0 x ≥ (l1_0.length : Int) then some 6 else if x < (l0_0.length : Int) then (if rd l1_0 (rd l2_0 x) = rd l0_0 x then morphism_Valid.l0 l0_0 l0_1 l1_0 l1_1 l2_0 l2_1 k (x + 1) else some 13) else none) else morphism_Valid.l1 l0_1 l1_1 l2_0 l2_1 k 0
def morphism_Valid.f (k : Nat) (l0_0 : List Int) (l0_1 : List S65) (l1_0 : List Int) (l1_1 : List S65) (l2_0 l2_1 : List Int) : Option Int :=
  (graph_Valid.f l0_0 l0_1).bind fun e => if e = 0 then ((graph_Valid.f l1_0 l1_1).bind fun e2 => if e2 = 0 then (if l2_0.length = l0_0.length then (if l2_1.length = l0_1.length then morphism_Valid.l0 l0_0 l0_1 l1_0 l1_1 l2_0 l2_1 k 0 else some 20) else some 20) else some e2) else some e
theorem morphism_Valid.mono1 (l0_1 l1_1 : List S65) (l2_0 l2_1 : List Int) : ∀ k x, LeO (morphism_Valid.l1 l0_1 l1_1 l2_0 l2_1 k x) (morphism_Valid.l1 l0_1 l1_1 l2_0 l2_1 (k + 1) x)
  | 0, _ => LeO.none _
  | k + 1, x => by
    have ih := morphism_Valid.mono1 l0_1 l1_1 l2_0 l2_1 k
    unfold morphism_Valid.l1
    repeat' first
      | exact ih _
      | (with_reducible exact LeO.refl _)
      | (with_reducible exact LeO.none _)
      | (with_reducible refine LeO.ite ?_ ?_)
theorem morphism_Valid.mono0 (l0_0 : List Int) (l0_1 : List S65) (l1_0 : List Int) (l1_1 : List S65) (l2_0 l2_1 : List Int) : ∀ k x, LeO (morphism_Valid.l0 l0_0 l0_1 l1_0 l1_1 l2_0 l2_1 k x) (morphism_Valid.l0 l0_0 l0_1 l1_0 l1_1 l2_0 l2_1 (k + 1) x)
  | 0, _ => LeO.none _
  | k + 1, x => by
    have ih := morphism_Valid.mono0 l0_0 l0_1 l1_0 l1_1 l2_0 l2_1 k
    unfold morphism_Valid.l0
    repeat' first
      | exact ih _
      | exact morphism_Valid.mono1 _ _ _ _ _ _
      | (with_reducible exact LeO.refl _)
      | (with_reducible exact LeO.none _)
      | (with_reducible refine LeO.ite ?_ ?_)
theorem morphism_Valid.mono : ∀ a0 a1 a2 a3 a4 a5 k, LeO (morphism_Valid.f k a0 a1 a2 a3 a4 a5) (morphism_Valid.f (k + 1) a0 a1 a2 a3 a4 a5) := by
  intro a0 a1 a2 a3 a4 a5 k
  unfold morphism_Valid.f
  repeat' first
      | exact morphism_Valid.mono0 _ _ _ _ _ _ _ _
      | (with_reducible exact LeO.refl _)
      | (with_reducible exact LeO.none _)
      | (with_reducible refine LeO.ite ?_ ?_)
      | (with_reducible refine LeO.bind ?_ (fun _ => ?_))
set_option maxHeartbeats 4000000 in
set_option maxRecDepth 100000 in
theorem morphism_Valid.calls (k : Nat) (A0_0 : Option Addr) (c0_0 : Nat) (l0_0 : List Int) (A0_1 : Option Addr) (c0_1 : Nat) (l0_1 : List (S65)) (A1_0 : Option Addr) (c1_0 : Nat) (l1_0 : List Int) (A1_1 : Option Addr) (c1_1 : Nat) (l1_1 : List (S65)) (A2_0 : Option Addr) (c2_0 : Nat) (l2_0 : List Int) (A2_1 : Option Addr) (c2_1 : Nat) (l2_1 : List Int) (r : Int) (w : World) (hr0_0 : Kd.C (Kd.int .i64) w A0_0 l0_0.length l0_0) (hc0_0 : l0_0.length ≤ c0_0) (hr0_1 : Kd.C k65 w A0_1 l0_1.length l0_1) (hc0_1 : l0_1.length ≤ c0_1) (hr1_0 : Kd.C (Kd.int .i64) w A1_0 l1_0.length l1_0) (hc1_0 : l1_0.length ≤ c1_0) (hr1_1 : Kd.C k65 w A1_1 l1_1.length l1_1) (hc1_1 : l1_1.length ≤ c1_1) (hr2_0 : Kd.C (Kd.int .i64) w A2_0 l2_0.length l2_0) (hc2_0 : l2_0.length ≤ c2_0) (hr2_1 : Kd.C (Kd.int .i64) w A2_1 l2_1.length l2_1) (hc2_1 : l2_1.length ≤ c2_1) (h : morphism_Valid.f k l0_0 l0_1 l1_0 l1_1 l2_0 l2_1 = some r) :
    Calls Try.prog 12 #[.agg #[.slice A0_0 l0_0.length c0_0, .slice A0_1 l0_1.length c0_1], .agg #[.slice A1_0 l1_0.length c1_0, .slice A1_1 l1_1.length c1_1], .agg #[.slice A2_0 l2_0.length c2_0, .slice A2_1 l2_1.length c2_1]] w fun e w' => e = .returned (.int .i64 r) ∧ Below w.heap.size w w' := by
  have hu1 := Try.underlying25
  have hu2 := Try.underlying65
  have hu3 := Try.underlying27
  have HR00 := Aside0.mk hr0_0
  have HC00 := Aside0.mk hc0_0
  have HR01 := Aside0.mk hr0_1
  have HC01 := Aside0.mk hc0_1
  have HR10 := Aside0.mk hr1_0
  have HC10 := Aside0.mk hc1_0
  have HR11 := Aside0.mk hr1_1
  have HC11 := Aside0.mk hc1_1
  have HR20 := Aside0.mk hr2_0
  have HR21 := Aside0.mk hr2_1
  clear hr0_0 hc0_0 hr0_1 hc0_1 hr1_0 hc1_0 hr1_1 hc1_1 hr2_0 hc2_0 hr2_1 hc2_1
  have HB := Aside0.mk (Below.refl w.heap.size w)
  unfold morphism_Valid.f at h
  obtain ⟨W0, hW0⟩ : ∃ W0 : World, W0 = ((w.alloc (.cells #[.slice A0_0 l0_0.length c0_0, .slice A0_1 l0_1.length c0_1] 25)).alloc (.cells #[.slice A1_0 l1_0.length c1_0, .slice A1_1 l1_1.length c1_1] 25)).alloc (.cells #[.slice A2_0 l2_0.length c2_0, .slice A2_1 l2_1.length c2_1] 27) := ⟨_, rfl⟩
  have KB : Aside0 (Below w.heap.size w W0) := ⟨by rw [hW0]; exact (((Below.refl _ _).alloc (Nat.le_refl _) _).alloc (by simp) _).alloc (by simp; omega) _⟩
  have K00 : Aside0 (W0.cell? ⟨w.heap.size, 0, none⟩ = some (.slice A0_0 l0_0.length c0_0)) := ⟨by rw [hW0]; go_simp⟩
  have K01 : Aside0 (W0.cell? ⟨w.heap.size, 1, none⟩ = some (.slice A0_1 l0_1.length c0_1)) := ⟨by rw [hW0]; go_simp⟩
  have K10 : Aside0 (W0.cell? ⟨w.heap.size + 1, 0, none⟩ = some (.slice A1_0 l1_0.length c1_0)) := ⟨by rw [hW0]; go_simp⟩
  have K11 : Aside0 (W0.cell? ⟨w.heap.size + 1, 1, none⟩ = some (.slice A1_1 l1_1.length c1_1)) := ⟨by rw [hW0]; go_simp⟩
  have K20 : Aside0 (W0.cell? ⟨w.heap.size + 2, 0, none⟩ = some (.slice A2_0 l2_0.length c2_0)) := ⟨by rw [hW0]; go_simp⟩
  have K21 : Aside0 (W0.cell? ⟨w.heap.size + 2, 1, none⟩ = some (.slice A2_1 l2_1.length c2_1)) := ⟨by rw [hW0]; go_simp⟩
  have HW0 := Aside0.mk hW0
  clear hW0
  replace h := Option.bind_eq_some_iff.mp h
  obtain ⟨e1, a1, h⟩ := h
  have E1 := Aside0.mk a1
  clear a1
  by_cases c1 : e1 = 0
  case neg =>
    rw [if_neg c1] at h
    obtain rfl := Option.some.inj h
    have b1 : (e1 != 0) = true := bne_iff_ne.mpr c1
    clear c1 h
    go_enter Try.func12, Try.ntmps12
    go_wp2_with (first | (go_at_call 38; (with_reducible refine (graph_Valid.calls _ _ l0_0 _ _ l0_1 e1 _ ?s1 HC00.out ?s2 HC01.out E1.out).mono ?_); (case s1 => rw [← HW0.out]; exact Kd.C_below HR00.out KB.out); (case s2 => rw [← HW0.out]; exact Kd.C_below HR01.out KB.out); rintro e w1 ⟨rfl, hb⟩; rw [← HW0.out] at hb; have n1_ := Aside0.mk (below_step KB.out hb); clear hb HB; have HB := n1_; clear n1_))
    go_ret
    exact ⟨rfl, HB.out⟩
  subst c1
  rw [if_pos rfl] at h
  replace h := Option.bind_eq_some_iff.mp h
  obtain ⟨e2, a2, h⟩ := h
  have E2 := Aside0.mk a2
  clear a2
  by_cases c2 : e2 = 0
  case neg =>
    rw [if_neg c2] at h
    obtain rfl := Option.some.inj h
    have b1 : (e2 != 0) = true := bne_iff_ne.mpr c2
    clear c2 h
    go_enter Try.func12, Try.ntmps12
    go_wp2_with (first | (go_at_call 38; (with_reducible refine (graph_Valid.calls _ _ l0_0 _ _ l0_1 0 _ ?s1 HC00.out ?s2 HC01.out E1.out).mono ?_); (case s1 => rw [← HW0.out]; exact Kd.C_below HR00.out KB.out); (case s2 => rw [← HW0.out]; exact Kd.C_below HR01.out KB.out); rintro e w1 ⟨rfl, hb⟩; rw [← HW0.out] at hb; have n1_ := Aside0.mk (below_step KB.out hb); have k00 := cell_below hb K00.out; have k01 := cell_below hb K01.out; have k10 := cell_below hb K10.out; have k11 := cell_below hb K11.out; have k20 := cell_below hb K20.out; have k21 := cell_below hb K21.out; clear hb HB K00 K01 K10 K11 K20 K21 KB; have HB := n1_; clear n1_) | (go_at_call 38; (with_reducible refine (graph_Valid.calls _ _ l1_0 _ _ l1_1 e2 _ ?s1 HC10.out ?s2 HC11.out E2.out).mono ?_); (case s1 => exact Kd.C_below HR10.out HB.out); (case s2 => exact Kd.C_below HR11.out HB.out); rintro e w2 ⟨rfl, hb⟩; have n1_ := Aside0.mk (below_step HB.out hb); have j00 := cell_below hb k00; have j01 := cell_below hb k01; have j10 := cell_below hb k10; have j11 := cell_below hb k11; have j20 := cell_below hb k20; have j21 := cell_below hb k21; clear hb HB k00 k01 k10 k11 k20 k21; have HB := n1_; clear n1_))
    go_ret
    exact ⟨rfl, HB.out⟩
  subst c2
  rw [if_pos rfl] at h
  have LN : Aside0 (l0_0.length ≤ 9223372036854775807) := ⟨HR00.out.2.1⟩
  by_cases c3 : l2_0.length = l0_0.length
  case neg =>
    rw [if_neg c3] at h
    obtain rfl := Option.some.inj h
    have b1 : (l2_0.length == l0_0.length) = false := beq_eq_false_iff_ne.mpr c3
    have b2 : ((l2_0.length : Int) == (l0_0.length : Int)) = false := beq_eq_false_iff_ne.mpr (by omega)
    have b3 : (l2_0.length != l0_0.length) = true := bne_iff_ne.mpr c3
    have b4 : ((l2_0.length : Int) != (l0_0.length : Int)) = true := bne_iff_ne.mpr (by omega)
    clear c3 h
    go_enter Try.func12, Try.ntmps12
    go_wp2_with (first | (go_at_call 38; (with_reducible refine (graph_Valid.calls _ _ l0_0 _ _ l0_1 0 _ ?s1 HC00.out ?s2 HC01.out E1.out).mono ?_); (case s1 => rw [← HW0.out]; exact Kd.C_below HR00.out KB.out); (case s2 => rw [← HW0.out]; exact Kd.C_below HR01.out KB.out); rintro e w1 ⟨rfl, hb⟩; rw [← HW0.out] at hb; have n1_ := Aside0.mk (below_step KB.out hb); have k00 := cell_below hb K00.out; have k01 := cell_below hb K01.out; have k10 := cell_below hb K10.out; have k11 := cell_below hb K11.out; have k20 := cell_below hb K20.out; have k21 := cell_below hb K21.out; clear hb HB K00 K01 K10 K11 K20 K21 KB; have HB := n1_; clear n1_) | (go_at_call 38; (with_reducible refine (graph_Valid.calls _ _ l1_0 _ _ l1_1 0 _ ?s1 HC10.out ?s2 HC11.out E2.out).mono ?_); (case s1 => exact Kd.C_below HR10.out HB.out); (case s2 => exact Kd.C_below HR11.out HB.out); rintro e w2 ⟨rfl, hb⟩; have n1_ := Aside0.mk (below_step HB.out hb); have j00 := cell_below hb k00; have j01 := cell_below hb k01; have j10 := cell_below hb k10; have j11 := cell_below hb k11; have j20 := cell_below hb k20; have j21 := cell_below hb k21; clear hb HB k00 k01 k10 k11 k20 k21; have HB := n1_; clear n1_))
    go_ret
    exact ⟨rfl, HB.out⟩
  rw [if_pos c3] at h
  have b1 : (l2_0.length == l0_0.length) = true := beq_iff_eq.mpr c3
  have b2 : ((l2_0.length : Int) == (l0_0.length : Int)) = true := beq_iff_eq.mpr (by omega)
  have b3 : (l2_0.length != l0_0.length) = false := by rw [c3]; simp
  have b4 : ((l2_0.length : Int) != (l0_0.length : Int)) = false := by rw [c3]; simp
  have C3 := Aside0.mk c3
  clear c3
  by_cases c4 : l2_1.length = l0_1.length
  case neg =>
    rw [if_neg c4] at h
    obtain rfl := Option.some.inj h
    have d1 : (l2_1.length == l0_1.length) = false := beq_eq_false_iff_ne.mpr c4
    have d2 : ((l2_1.length : Int) == (l0_1.length : Int)) = false := beq_eq_false_iff_ne.mpr (by omega)
    have d3 : (l2_1.length != l0_1.length) = true := bne_iff_ne.mpr c4
    have d4 : ((l2_1.length : Int) != (l0_1.length : Int)) = true := bne_iff_ne.mpr (by omega)
    clear c4 h
    go_enter Try.func12, Try.ntmps12
    go_wp2_with (first | (go_at_call 38; (with_reducible refine (graph_Valid.calls _ _ l0_0 _ _ l0_1 0 _ ?s1 HC00.out ?s2 HC01.out E1.out).mono ?_); (case s1 => rw [← HW0.out]; exact Kd.C_below HR00.out KB.out); (case s2 => rw [← HW0.out]; exact Kd.C_below HR01.out KB.out); rintro e w1 ⟨rfl, hb⟩; rw [← HW0.out] at hb; have n1_ := Aside0.mk (below_step KB.out hb); have k00 := cell_below hb K00.out; have k01 := cell_below hb K01.out; have k10 := cell_below hb K10.out; have k11 := cell_below hb K11.out; have k20 := cell_below hb K20.out; have k21 := cell_below hb K21.out; clear hb HB K00 K01 K10 K11 K20 K21 KB; have HB := n1_; clear n1_) | (go_at_call 38; (with_reducible refine (graph_Valid.calls _ _ l1_0 _ _ l1_1 0 _ ?s1 HC10.out ?s2 HC11.out E2.out).mono ?_); (case s1 => exact Kd.C_below HR10.out HB.out); (case s2 => exact Kd.C_below HR11.out HB.out); rintro e w2 ⟨rfl, hb⟩; have n1_ := Aside0.mk (below_step HB.out hb); have j00 := cell_below hb k00; have j01 := cell_below hb k01; have j10 := cell_below hb k10; have j11 := cell_below hb k11; have j20 := cell_below hb k20; have j21 := cell_below hb k21; clear hb HB k00 k01 k10 k11 k20 k21; have HB := n1_; clear n1_))
    go_ret
    exact ⟨rfl, HB.out⟩
  rw [if_pos c4] at h
  have d1 : (l2_1.length == l0_1.length) = true := beq_iff_eq.mpr c4
  have d2 : ((l2_1.length : Int) == (l0_1.length : Int)) = true := beq_iff_eq.mpr (by omega)
  have d3 : (l2_1.length != l0_1.length) = false := by rw [c4]; simp
  have d4 : ((l2_1.length : Int) != (l0_1.length : Int)) = false := by rw [c4]; simp
  have C4 := Aside0.mk c4
  clear c4
  have H0 := Aside0.mk h
  clear h
  go_enter Try.func12, Try.ntmps12
  go_wp2_with (first | (go_at_call 38; (with_reducible refine (graph_Valid.calls _ _ l0_0 _ _ l0_1 0 _ ?s1 HC00.out ?s2 HC01.out E1.out).mono ?_); (case s1 => rw [← HW0.out]; exact Kd.C_below HR00.out KB.out); (case s2 => rw [← HW0.out]; exact Kd.C_below HR01.out KB.out); rintro e w1 ⟨rfl, hb⟩; rw [← HW0.out] at hb; have n1_ := Aside0.mk (below_step KB.out hb); have k00 := cell_below hb K00.out; have k01 := cell_below hb K01.out; have k10 := cell_below hb K10.out; have k11 := cell_below hb K11.out; have k20 := cell_below hb K20.out; have k21 := cell_below hb K21.out; clear hb HB K00 K01 K10 K11 K20 K21 KB; have HB := n1_; clear n1_) | (go_at_call 38; (with_reducible refine (graph_Valid.calls _ _ l1_0 _ _ l1_1 0 _ ?s1 HC10.out ?s2 HC11.out E2.out).mono ?_); (case s1 => exact Kd.C_below HR10.out HB.out); (case s2 => exact Kd.C_below HR11.out HB.out); rintro e w2 ⟨rfl, hb⟩; have n1_ := Aside0.mk (below_step HB.out hb); have j00 := cell_below hb k00; have j01 := cell_below hb k01; have j10 := cell_below hb k10; have j11 := cell_below hb k11; have j20 := cell_below hb k20; have j21 := cell_below hb k21; clear hb HB k00 k01 k10 k11 k20 k21; have HB := n1_; clear n1_))
  clear b1 b2 b3 b4 d1 d2 d3 d4
  have J00 := Aside0.mk j00
  have J01 := Aside0.mk j01
  have J10 := Aside0.mk j10
  have J11 := Aside0.mk j11
  have J20 := Aside0.mk j20
  have J21 := Aside0.mk j21
  clear j00 j01 j10 j11 j20 j21
  go_loopg [44] k (fun kq v44 w' => ∃ x : Int, v44 = .int .i64 x ∧ Aside0 (0 ≤ x) ∧ Aside0 (morphism_Valid.l0 l0_0 l0_1 l1_0 l1_1 l2_0 l2_1 kq x = some r) ∧ Aside0 (kq ≤ k) ∧ Drawn0 w2 w')
  case atStart => exact ⟨0, rfl, ⟨by omega⟩, H0, ⟨Nat.le_refl _⟩, by repeat (first | exact Drawn0.refl _ | apply Drawn0.step)⟩
  case round =>
    clear H0
    obtain ⟨x, rfl, P1, HA, HK1, ⟨m1, rfl⟩⟩ := hrel
    cases gk with
    | zero => exact absurd HA.out (by simp [morphism_Valid.l0])
    | succ k1 =>
      have H := HA.out
      clear HA
      simp only [morphism_Valid.l0] at H
      by_cases c5 : x < (l2_0.length : Int)
      · rw [if_pos c5] at H
        have c5b : decide (x < (l2_0.length : Int)) = true := decide_eq_true c5
        obtain ⟨ad0, e0, hx0⟩ := Kd.at_int HR20.out x P1.out c5
        cases e0
        replace hx0 := (HB.out.cell (World.block_lt_of_cell? w _ hx0)).trans hx0
        have Q1 := Aside0.mk c5
        have p1 := eq_true P1.out
        replace c5 := eq_true c5
        have j00 := J00.out
        have j01 := J01.out
        have j10 := J10.out
        have j11 := J11.out
        have j20 := J20.out
        have j21 := J21.out
        by_cases c6 : rd l2_0 x < 0
        · rw [if_pos c6] at H
          obtain rfl := Option.some.inj H
          have c6b : decide (rd l2_0 x < 0) = true := decide_eq_true c6
          clear c6 H
          go_wp2
          go_ret
          exact ⟨rfl, by repeat (first | (with_reducible first | exact HB.out | apply below_alloc | apply pw_below_drewN | apply below_drew1) | exact HB.out)⟩
        rw [if_neg c6] at H
        have c6b : decide (rd l2_0 x < 0) = false := decide_eq_false c6
        by_cases c7 : rd l2_0 x ≥ (l1_0.length : Int)
        · rw [if_pos c7] at H
          obtain rfl := Option.some.inj H
          have c7b : decide ((l1_0.length : Int) ≤ rd l2_0 x) = true := decide_eq_true c7
          clear c6 c7 H
          go_wp2
          go_ret
          exact ⟨rfl, by repeat (first | (with_reducible first | exact HB.out | apply below_alloc | apply pw_below_drewN | apply below_drew1) | exact HB.out)⟩
        rw [if_neg c7] at H
        have c7b : decide ((l1_0.length : Int) ≤ rd l2_0 x) = false := decide_eq_false c7
        by_cases c8 : x < (l0_0.length : Int)
        case neg =>
          rw [if_neg c8] at H
          exact absurd H (by simp)
        rw [if_pos c8] at H
        obtain ⟨ad1, e1, hx1⟩ := Kd.at_int HR10.out (rd l2_0 x) (by omega) (by omega)
        cases e1
        replace hx1 := (HB.out.cell (World.block_lt_of_cell? w _ hx1)).trans hx1
        obtain ⟨ad2, e2, hx2⟩ := Kd.at_int HR00.out x P1.out c8
        cases e2
        replace hx2 := (HB.out.cell (World.block_lt_of_cell? w _ hx2)).trans hx2
        have p2 : (0 ≤ rd l2_0 x) = True := eq_true (by omega)
        have q2 : (rd l2_0 x < (l1_0.length : Int)) = True := eq_true (by omega)
        replace c8 := eq_true c8
        clear c6 c7
        by_cases c9 : rd l1_0 (rd l2_0 x) = rd l0_0 x
        · rw [if_pos c9] at H
          have c9b : (rd l1_0 (rd l2_0 x) == rd l0_0 x) = true := beq_iff_eq.mpr c9
          have c9c : (rd l1_0 (rd l2_0 x) != rd l0_0 x) = false := bne_eq_false_iff_eq.mpr c9
          clear c9
          have H' := Aside0.mk H
          clear H
          go_wp2
          go_quiet (fail)
          go_wp2
          go_roundg k1
          case measure => have := HK1.out; omega
          case rel => exact ⟨x + 1, by rw [wrap_up P1.out Q1.out HR20.out.2.1], ⟨by have := P1.out; omega⟩, H', ⟨by have := HK1.out; omega⟩, by repeat (first | exact Drawn0.refl _ | apply Drawn0.step)⟩
        · rw [if_neg c9] at H
          obtain rfl := Option.some.inj H
          have c9b : (rd l1_0 (rd l2_0 x) == rd l0_0 x) = false := beq_eq_false_iff_ne.mpr c9
          have c9c : (rd l1_0 (rd l2_0 x) != rd l0_0 x) = true := bne_iff_ne.mpr c9
          clear c9 H
          go_wp2
          go_quiet (fail)
          go_wp2
          go_ret
          exact ⟨rfl, by repeat (first | (with_reducible first | exact HB.out | apply below_alloc | apply pw_below_drewN | apply below_drew1) | exact HB.out)⟩
      · rw [if_neg c5] at H
        have c5b : decide (x < (l2_0.length : Int)) = false := decide_eq_false c5
        have H' := Aside0.mk H
        clear H c5
        have j00 := J00.out
        have j01 := J01.out
        have j10 := J10.out
        have j11 := J11.out
        have j20 := J20.out
        have j21 := J21.out
        go_wp2
        go_loopg [73] k1 (fun kq v73 w' => ∃ x : Int, v73 = .int .i64 x ∧ Aside0 (0 ≤ x) ∧ Aside0 (morphism_Valid.l1 l0_1 l1_1 l2_0 l2_1 kq x = some r) ∧ Aside0 (kq ≤ k1) ∧ Aside0 (Below w2.heap.size w2 w'))
        case atStart => exact ⟨0, rfl, ⟨by omega⟩, H', ⟨Nat.le_refl _⟩, ⟨by repeat (first | (with_reducible first | exact Below.refl _ _ | apply below_alloc | apply pw_below_drewN | apply below_drew1) | exact Below.refl _ _)⟩⟩
        case round =>
        clear H' P1 j00 j01 j10 j11 j20 j21 c5b
        obtain ⟨x, rfl, P1, HA, HK2, HB2⟩ := hrel
        have n1_ := Aside0.mk (below_step HB.out HB2.out)
        have j00 := cell_below HB2.out J00.out
        have j01 := cell_below HB2.out J01.out
        have j10 := cell_below HB2.out J10.out
        have j11 := cell_below HB2.out J11.out
        have j20 := cell_below HB2.out J20.out
        have j21 := cell_below HB2.out J21.out
        clear HB
        have HB := n1_
        clear n1_
        cases gk with
        | zero => exact absurd HA.out (by simp [morphism_Valid.l1])
        | succ k2 =>
        have H := HA.out
        clear HA
        simp only [morphism_Valid.l1] at H
        by_cases c5 : x < (l2_1.length : Int)
        case neg =>
          rw [if_neg c5] at H
          have c5b : decide (x < (l2_1.length : Int)) = false := decide_eq_false c5
          obtain rfl := Option.some.inj H
          clear c5 H
          go_wp2
          go_ret
          exact ⟨rfl, by repeat (first | (with_reducible first | exact HB.out | apply below_alloc | apply pw_below_drewN | apply below_drew1) | exact HB.out)⟩
        rw [if_pos c5] at H
        have c5b : decide (x < (l2_1.length : Int)) = true := decide_eq_true c5
        obtain ⟨ad0, e0, hx⟩ := Kd.at_int HR21.out x P1.out c5
        cases e0
        replace hx := (HB.out.cell (World.block_lt_of_cell? w _ hx)).trans hx
        have Q1 := Aside0.mk c5
        have p1 := eq_true P1.out
        replace c5 := eq_true c5
        by_cases c6 : rd l2_1 x < 0
        · rw [if_pos c6] at H
          obtain rfl := Option.some.inj H
          have c6b : decide (rd l2_1 x < 0) = true := decide_eq_true c6
          clear c6 H
          go_wp2
          go_ret
          exact ⟨rfl, by repeat (first | (with_reducible first | exact HB.out | apply below_alloc | apply pw_below_drewN | apply below_drew1) | exact HB.out)⟩
        rw [if_neg c6] at H
        have c6b : decide (rd l2_1 x < 0) = false := decide_eq_false c6
        by_cases c7 : rd l2_1 x ≥ (l1_1.length : Int)
        · rw [if_pos c7] at H
          obtain rfl := Option.some.inj H
          have c7b : decide ((l1_1.length : Int) ≤ rd l2_1 x) = true := decide_eq_true c7
          clear c6 c7 H
          go_wp2
          go_ret
          exact ⟨rfl, by repeat (first | (with_reducible first | exact HB.out | apply below_alloc | apply pw_below_drewN | apply below_drew1) | exact HB.out)⟩
        rw [if_neg c7] at H
        have c7b : decide ((l1_1.length : Int) ≤ rd l2_1 x) = false := decide_eq_false c7
        by_cases c8 : x < (l0_1.length : Int)
        case neg =>
          rw [if_neg c8] at H
          exact absurd H (by simp)
        rw [if_pos c8] at H
        obtain ⟨ad1, e1, hy0, hy1, hy2⟩ := at_T65 HR11.out (rd l2_1 x) (by omega) (by omega)
        cases e1
        replace hy0 := (HB.out.cell (World.block_lt_of_cell? w _ hy0)).trans hy0
        replace hy1 := (HB.out.cell (World.block_lt_of_cell? w _ hy1)).trans hy1
        replace hy2 := (HB.out.cell (World.block_lt_of_cell? w _ hy2)).trans hy2
        obtain ⟨ad2, e2, hx0, hx1, hx2⟩ := at_T65 HR01.out x P1.out c8
        cases e2
        replace hx0 := (HB.out.cell (World.block_lt_of_cell? w _ hx0)).trans hx0
        replace hx1 := (HB.out.cell (World.block_lt_of_cell? w _ hx1)).trans hx1
        replace hx2 := (HB.out.cell (World.block_lt_of_cell? w _ hx2)).trans hx2
        have p2 : (0 ≤ rd l2_1 x) = True := eq_true (by omega)
        have q2 : (rd l2_1 x < (l1_1.length : Int)) = True := eq_true (by omega)
        replace c8 := eq_true c8
        clear c6 c7
        have hx0a := fun o : Obj => cell_alloc_ (o := o) hx0
        have hx0b := fun o o' : Obj => cell_alloc_ (o := o') (hx0a o)
        have hx1a := fun o : Obj => cell_alloc_ (o := o) hx1
        have hx1b := fun o o' : Obj => cell_alloc_ (o := o') (hx1a o)
        have hx2a := fun o : Obj => cell_alloc_ (o := o) hx2
        have hx2b := fun o o' : Obj => cell_alloc_ (o := o') (hx2a o)
        have hy0a := fun o : Obj => cell_alloc_ (o := o) hy0
        have hy0b := fun o o' : Obj => cell_alloc_ (o := o') (hy0a o)
        have hy1a := fun o : Obj => cell_alloc_ (o := o) hy1
        have hy1b := fun o o' : Obj => cell_alloc_ (o := o') (hy1a o)
        have hy2a := fun o : Obj => cell_alloc_ (o := o) hy2
        have hy2b := fun o o' : Obj => cell_alloc_ (o := o') (hy2a o)
        have lift := fun (p : Addr) (v : Value) (h : wr.cell? p = some v) (o o' : Obj) => cell_alloc_ (o := o') (cell_alloc_ (o := o) h)
        have Lift := Aside0.mk lift
        clear lift
        have j01a := fun o : Obj => cell_alloc_ (o := o) j01
        have j01b := fun o o' : Obj => cell_alloc_ (o := o') (j01a o)
        have j11a := fun o : Obj => cell_alloc_ (o := o) j11
        have j11b := fun o o' : Obj => cell_alloc_ (o := o') (j11a o)
        have j20b := fun o o' : Obj => cell_alloc_ (o := o') (cell_alloc_ (o := o) j20)
        by_cases c10 : (rd_T65 l0_1 x).f0 = (rd_T65 l1_1 (rd l2_1 x)).f0
        case neg =>
          rw [if_neg c10] at H
          obtain rfl := Option.some.inj H
          have c10b : ((rd_T65 l0_1 x).f0 == (rd_T65 l1_1 (rd l2_1 x)).f0) = false := beq_eq_false_iff_ne.mpr c10
          have c10c : ((rd_T65 l0_1 x).f0 != (rd_T65 l1_1 (rd l2_1 x)).f0) = true := bne_iff_ne.mpr c10
          clear c10 H
          go_wp2
          go_region
          all_goals (go_wp2; go_ret; exact ⟨rfl, (by repeat (first | (with_reducible first | exact HB.out | apply below_alloc | apply pw_below_drewN | apply below_drew1) | exact HB.out))⟩)
        rw [if_pos c10] at H
        have c10b : ((rd_T65 l0_1 x).f0 == (rd_T65 l1_1 (rd l2_1 x)).f0) = true := beq_iff_eq.mpr c10
        have c10c : ((rd_T65 l0_1 x).f0 != (rd_T65 l1_1 (rd l2_1 x)).f0) = false := bne_eq_false_iff_eq.mpr c10
        by_cases c11 : 0 ≤ (rd_T65 l0_1 x).f1 ∧ (rd_T65 l0_1 x).f1 < (l2_0.length : Int) ∧ 0 ≤ (rd_T65 l0_1 x).f2 ∧ (rd_T65 l0_1 x).f2 < (l2_0.length : Int)
        case neg =>
          rw [if_neg c11] at H
          exact absurd H (by simp)
        rw [if_pos c11] at H
        obtain ⟨g1, g2, g3, g4⟩ := c11
        obtain ⟨ad3, e3, hm1⟩ := Kd.at_int HR20.out (rd_T65 l0_1 x).f1 g1 g2
        obtain ⟨ad4, e4, hm2⟩ := Kd.at_int HR20.out (rd_T65 l0_1 x).f2 g3 g4
        obtain rfl : ad3 = ad4 := by rw [e3] at e4; injection e4
        cases e3
        clear e4
        replace hm1 := (HB.out.cell (World.block_lt_of_cell? w _ hm1)).trans hm1
        replace hm2 := (HB.out.cell (World.block_lt_of_cell? w _ hm2)).trans hm2
        have hm1b := fun o o' : Obj => cell_alloc_ (o := o') (cell_alloc_ (o := o) hm1)
        have hm2b := fun o o' : Obj => cell_alloc_ (o := o') (cell_alloc_ (o := o) hm2)
        replace g1 := eq_true g1
        replace g2 := eq_true g2
        replace g3 := eq_true g3
        replace g4 := eq_true g4
        clear c10
        by_cases c12 : rd l2_0 (rd_T65 l0_1 x).f1 = (rd_T65 l1_1 (rd l2_1 x)).f1
        case neg =>
          rw [if_neg c12] at H
          obtain rfl := Option.some.inj H
          have c12b : (rd l2_0 (rd_T65 l0_1 x).f1 == (rd_T65 l1_1 (rd l2_1 x)).f1) = false := beq_eq_false_iff_ne.mpr c12
          have c12c : (rd l2_0 (rd_T65 l0_1 x).f1 != (rd_T65 l1_1 (rd l2_1 x)).f1) = true := bne_iff_ne.mpr c12
          clear c12 H
          go_wp2
          go_region
          all_goals (go_wp2; go_quiet (fail); go_wp2; go_ret; exact ⟨rfl, (by repeat (first | (with_reducible first | exact HB.out | apply below_alloc | apply pw_below_drewN | apply below_drew1) | exact HB.out))⟩)
        rw [if_pos c12] at H
        have c12b : (rd l2_0 (rd_T65 l0_1 x).f1 == (rd_T65 l1_1 (rd l2_1 x)).f1) = true := beq_iff_eq.mpr c12
        have c12c : (rd l2_0 (rd_T65 l0_1 x).f1 != (rd_T65 l1_1 (rd l2_1 x)).f1) = false := bne_eq_false_iff_eq.mpr c12
        clear c12
        by_cases c13 : rd l2_0 (rd_T65 l0_1 x).f2 = (rd_T65 l1_1 (rd l2_1 x)).f2
        case neg =>
          rw [if_neg c13] at H
          obtain rfl := Option.some.inj H
          have c13b : (rd l2_0 (rd_T65 l0_1 x).f2 == (rd_T65 l1_1 (rd l2_1 x)).f2) = false := beq_eq_false_iff_ne.mpr c13
          have c13c : (rd l2_0 (rd_T65 l0_1 x).f2 != (rd_T65 l1_1 (rd l2_1 x)).f2) = true := bne_iff_ne.mpr c13
          clear c13 H
          go_wp2
          go_region
          all_goals (go_wp2; go_quiet (fail); go_wp2; go_ret; exact ⟨rfl, (by repeat (first | (with_reducible first | exact HB.out | apply below_alloc | apply pw_below_drewN | apply below_drew1) | exact HB.out))⟩)
        rw [if_pos c13] at H
        have c13b : (rd l2_0 (rd_T65 l0_1 x).f2 == (rd_T65 l1_1 (rd l2_1 x)).f2) = true := beq_iff_eq.mpr c13
        have c13c : (rd l2_0 (rd_T65 l0_1 x).f2 != (rd_T65 l1_1 (rd l2_1 x)).f2) = false := bne_eq_false_iff_eq.mpr c13
        clear c13
        have H' := Aside0.mk H
        clear H
        go_wp2
        go_region
        all_goals (
          go_wp2
          go_quiet (fail)
          go_wp2
          go_roundg k2
          case measure => have := HK2.out; omega
          case rel => exact ⟨x + 1, by rw [wrap_up P1.out Q1.out HR21.out.2.1], ⟨by have := P1.out; omega⟩, H', ⟨by have := HK2.out; omega⟩, ⟨by repeat (first | (with_reducible first | exact HB2.out | apply below_alloc | apply pw_below_drewN | apply below_drew1) | exact HB2.out)⟩⟩)

/-! ### slices_Clone_int_int: function 39 -/
def slices_Clone_int_int.f (l0 : List Int) : Option (List Int) := if l0.length < 17592186044416 then some l0 else none
set_option maxHeartbeats 8000000 in
set_option maxRecDepth 100000 in
theorem slices_Clone_int_int.calls (A0 : Option Addr) (c0 : Nat) (l0 : List Int) (r : List Int) (w : World) (hr0 : Kd.C (Kd.int .i64) w A0 l0.length l0) (hc0 : l0.length ≤ c0) (h : slices_Clone_int_int.f l0 = some r) :
    Calls Try.prog 39 #[.slice A0 l0.length c0] w fun e w' => ∃ v0_ : Value, e = .returned (v0_) ∧ Kd.R (Kd.int .i64) 3 w' w.heap.size (fun _ => True) v0_ r ∧ Below w.heap.size w w' := by
  have HB := Aside0.mk (Below.refl w.heap.size w)
  have HR0 := Aside0.mk hr0
  have HC0 := Aside0.mk hc0
  clear hr0 hc0
  unfold slices_Clone_int_int.f at h
  by_cases c1 : l0.length < 17592186044416
  · rw [if_pos c1] at h
    obtain rfl := Option.some.inj h
    clear h
    have LMc1 := Aside0.mk c1
    clear c1
    have hN := fun (W : World) (n c : Nat) => Go.Lib.run_eql_slice_nil (P := Try.prog) W 22 3 A0 n c 0 0 Try.underlying22
    cases A0 with
    | none =>
      have e0 : l0 = [] := by
        cases l0 with
        | nil => rfl
        | cons x xs => obtain ⟨_, e, _⟩ := HR0.out.2.2 (by simp); cases e
      subst e0
      clear HR0 HC0
      go_enter Try.func39, Try.ntmps39
      go_wp2
      go_ret
      exact ⟨_, rfl, Kd.R_nil _ _ _ _ _, HB.out⟩
    | some ad =>
      go_enter Try.func39, Try.ntmps39
      go_wp2_with (first | ((with_reducible refine gate_dst (N := 5) rfl ?_); refine Kd.R_lit (Kd.int .i64) _ 3 ?hg (N := 5) ?hd (xs := ([] : List Int)) (inner := []) (ok := fun _ => True) (okp := fun _ => True) ?hr ?hp (fun _ hk => hk) trivial (Below.refl _ _) (Nat.le_refl _) (by simp) ?_; (case hd => rfl); (case hg => rfl); (case hr => first | (go_simp; done) | (go_simp; rfl)); (case hp => exact (Reps.none _ _)); intro v1 w1 ho hb hg_ hnew_; clear hg_ hnew_; have n0_ := Aside0.mk (Kd.R_lower ho (below_size (by repeat (first | (with_reducible first | exact HB.out | apply below_alloc | apply pw_below_drewN | apply below_drew1) | exact HB.out)))); have n1_ := Aside0.mk (below_step (by repeat (first | (with_reducible first | exact HB.out | apply below_alloc | apply pw_below_drewN | apply below_drew1) | exact HB.out)) hb); have n2_ := Aside0.mk (Kd.C_below HR0.out hb); clear HB HR0; have HO := n0_; have HB := n1_; have HR0 := n2_; clear n0_ n1_ n2_ hb ho) | ((with_reducible refine gate_builtin (b := .append) (xs := #[.tmp 5, .tmp 6]) rfl ?_); at_builtin; refine Kd.R_append_rows (Kd.int .i64) (w0 := w) w.heap.size rfl (.tmp 5) (.tmp 6) 22 3 (.int .i64 0) 8 rfl Try.underlying22 info3 rfl (by decide) (by omega) v1 [] l0 _ _ _ (fun _ => True) (fun _ => False) rfl rfl ?aO ?aR (fun _ _ h => h) (fun _ h => h.elim) ?aF ?aB ?aS ?aL ?_; (case aR => repeat (first | exact HR0.out | (with_reducible refine Kd.C_alloc ?_ _) | (with_reducible refine Kd.C_drewN ?_ _) | (with_reducible refine Kd.C_drew ?_))); (case aB => exact (by repeat (first | (with_reducible first | exact HB.out | apply below_alloc | apply pw_below_drewN | apply below_drew1) | exact HB.out))); (case aF => exact (fun _ _ => trivial)); (case aO => exact (by (with_reducible repeat (first | apply Kd.R_alloc | apply Kd.R_drewN | apply Kd.R_drew)); exact HO.out)); (case aS => exact (below_size (by repeat (first | (with_reducible first | exact HB.out | apply below_alloc | apply pw_below_drewN | apply below_drew1) | exact HB.out)))); (case aL => have := LMc1.out; simp only [List.length_nil]; omega); intro v2 w2 ho hb hg hat; have n0_ := Aside0.mk (hb); have n1_ := Aside0.mk (ho); clear HB; clear HO; have HB := n0_; have HO := n1_; clear n0_ n1_; clear ho hb hg hat))
      go_ret
      exact ⟨_, rfl, HO.out, HB.out⟩
  · rw [if_neg c1] at h
    exact absurd h (by simp)

end Go.Proofs.Ytklacpdobpkbbaa.P
