-- Written by wip/drive.py of this session's repo over the kit's print.py (with contracts of the session's own): not the print's own text
import Derived.Test.YtklacpdobpkbbaaPx0
import Derived.Test.YtklacpdobpkbbaaPx2
namespace Go.Proofs.Ytklacpdobpkbbaa.P
open Go.RowKit Go.Proofs.YtklacpdobpkbbaaW.PrintWords Go.Proofs.YtklacpdobpkbbaaW.PrintLast Go.Proofs.YtklacpdobpkbbaaW.PrintMore
attribute [local go_sem] max2_int min2_int max_two min_two max_three min_three max_four min_four   -- for this text's walks alone
set_option linter.unusedVariables false
set_option linter.unusedSimpArgs false

/-! ### scarfjointref05_Few: function 23 -/
def scarfjointref05_Few.f (l0_0 : List Int) (l0_1 : List (S65)) : Option (Bool) := if (l0_0.length : Int) ≤ 45 then (some (decide ((l0_1.length : Int) ≤ 90))) else (some false)
set_option maxHeartbeats 8000000 in
set_option maxRecDepth 100000 in
theorem scarfjointref05_Few.calls (A0_0 : Option Addr) (c0_0 : Nat) (l0_0 : List Int) (A0_1 : Option Addr) (c0_1 : Nat) (l0_1 : List (S65)) (r : Bool) (w : World) (hr0_0 : Kd.C (Kd.int .i64) w A0_0 l0_0.length l0_0) (hc0_0 : l0_0.length ≤ c0_0) (hr0_1 : Kd.C k65 w A0_1 l0_1.length l0_1) (hc0_1 : l0_1.length ≤ c0_1) (h : scarfjointref05_Few.f l0_0 l0_1 = some r) :
  Calls Try.prog 23 #[.agg #[.slice A0_0 l0_0.length c0_0, .slice A0_1 l0_1.length c0_1]] w fun e w' => e = .returned (.bool r) ∧ Below w.heap.size w w' := by
 have hu25 := Try.underlying25
 have HR0_0 := Aside0.mk hr0_0
 have HC0_0 := Aside0.mk hc0_0
 clear hr0_0 hc0_0
 have HR0_1 := Aside0.mk hr0_1
 have HC0_1 := Aside0.mk hc0_1
 clear hr0_1 hc0_1
 have HB := Aside0.mk (Below.refl w.heap.size w)
 have H : (if (l0_0.length : Int) ≤ 45 then (some (decide ((l0_1.length : Int) ≤ 90))) else (some false)) = some r := h
 clear h
 by_cases c2 : (l0_0.length : Int) ≤ 45
 ·rw [if_pos c2] at H
  have c2b0 : decide ((l0_0.length : Int) ≤ 45) = true := decide_eq_true c2
  have c2b1 : decide (l0_0.length ≤ 45) = true := decide_eq_true (by omega)
  clear c2
  obtain rfl := Option.some.inj H
  go_enter Try.func23, Try.ntmps23
  go_wp2_with (first | ((with_reducible refine gate_dst (N := 1) rfl ?_); (try (refine gate_guard (by rfl) ?_; dsimp only)); refine box_event ?hg (N := 1) ?hd (cs := #[.slice A0_0 l0_0.length c0_0, .slice A0_1 l0_1.length c0_1]) (t := 25) ?hr ?_; (case hd => rfl); (case hg => rfl); (case hr => first | (go_simp; done) | (go_simp; rfl)); intro gb192 hg w3 hbox hb; have BK192 := Aside0.mk (hbox); have GW192 := Aside0.mk (gw_ hg (mb_ HB.out)); have GE192 := Aside0.mk (gw_ hg (mb_ HB.out)); replace HB := Aside0.mk (below_step (mb_ HB.out) hb); clear hb hbox hg; have hcz4_0 := bc0_ BK192.out; have hcz4_1 := bc1_ BK192.out; have hfz4_0 := blk_frozen BK192.out 0; have hfz4_1 := blk_frozen BK192.out 1))
  go_ret
  exact ⟨by first | rfl | (simp [errW_none, errW_some] <;> rfl) | (simp [*, errW_none, errW_some] <;> rfl), mbs_ HB.out⟩
 ·rw [if_neg c2] at H
  have c2b0 : decide ((l0_0.length : Int) ≤ 45) = false := decide_eq_false c2
  have c2b1 : decide (l0_0.length ≤ 45) = false := decide_eq_false (by omega)
  clear c2
  obtain rfl := Option.some.inj H
  go_enter Try.func23, Try.ntmps23
  go_wp2_with (first | ((with_reducible refine gate_dst (N := 1) rfl ?_); (try (refine gate_guard (by rfl) ?_; dsimp only)); refine box_event ?hg (N := 1) ?hd (cs := #[.slice A0_0 l0_0.length c0_0, .slice A0_1 l0_1.length c0_1]) (t := 25) ?hr ?_; (case hd => rfl); (case hg => rfl); (case hr => first | (go_simp; done) | (go_simp; rfl)); intro gb192 hg w5 hbox hb; have BK192 := Aside0.mk (hbox); have GW192 := Aside0.mk (gw_ hg (mb_ HB.out)); have GE192 := Aside0.mk (gw_ hg (mb_ HB.out)); replace HB := Aside0.mk (below_step (mb_ HB.out) hb); clear hb hbox hg; have hcz6_0 := bc0_ BK192.out; have hcz6_1 := bc1_ BK192.out; have hfz6_0 := blk_frozen BK192.out 0; have hfz6_1 := blk_frozen BK192.out 1))
  go_ret
  exact ⟨by first | rfl | (simp [errW_none, errW_some] <;> rfl) | (simp [*, errW_none, errW_some] <;> rfl), mbs_ HB.out⟩

/-! ### scarfjointref06_Few: function 24 -/
def scarfjointref06_Few.f (l0_0 : List Int) (l0_1 : List Int) (a1 : Int) : Option (Bool) := some (decide ((wrap64 ((l0_0.length : Int) + (l0_1.length : Int))) ≤ a1))
set_option maxHeartbeats 8000000 in
set_option maxRecDepth 100000 in
theorem scarfjointref06_Few.calls (A0_0 : Option Addr) (c0_0 : Nat) (l0_0 : List Int) (A0_1 : Option Addr) (c0_1 : Nat) (l0_1 : List Int) (a1 : Int) (r : Bool) (w : World) (hr0_0 : Kd.C (Kd.int .i64) w A0_0 l0_0.length l0_0) (hc0_0 : l0_0.length ≤ c0_0) (hr0_1 : Kd.C (Kd.int .i64) w A0_1 l0_1.length l0_1) (hc0_1 : l0_1.length ≤ c0_1) (h : scarfjointref06_Few.f l0_0 l0_1 a1 = some r) :
  Calls Try.prog 24 #[.agg #[.slice A0_0 l0_0.length c0_0, .slice A0_1 l0_1.length c0_1], .int .i64 a1] w fun e w' => e = .returned (.bool r) ∧ Below w.heap.size w w' := by
 have hu27 := Try.underlying27
 have HR0_0 := Aside0.mk hr0_0
 have HC0_0 := Aside0.mk hc0_0
 clear hr0_0 hc0_0
 have HR0_1 := Aside0.mk hr0_1
 have HC0_1 := Aside0.mk hc0_1
 clear hr0_1 hc0_1
 have HB := Aside0.mk (Below.refl w.heap.size w)
 have H : (some (decide ((wrap64 ((l0_0.length : Int) + (l0_1.length : Int))) ≤ a1))) = some r := h
 clear h
 obtain rfl := Option.some.inj H
 go_enter Try.func24, Try.ntmps24
 go_wp2_with (first | ((with_reducible refine gate_dst (N := 2) rfl ?_); refine box_event ?hg (N := 2) ?hd (cs := #[.slice A0_0 l0_0.length c0_0, .slice A0_1 l0_1.length c0_1]) (t := 27) ?hr ?_; (case hd => rfl); (case hg => rfl); (case hr => first | (go_simp; done) | (go_simp; rfl)); intro gb193 hg w3 hbox hb; have BK193 := Aside0.mk (hbox); have GW193 := Aside0.mk (gw_ hg (mb_ HB.out)); have GE193 := Aside0.mk (gw_ hg (mb_ HB.out)); replace HB := Aside0.mk (below_step (mb_ HB.out) hb); clear hb hbox hg; have hcz4_0 := bc0_ BK193.out; have hcz4_1 := bc1_ BK193.out; have hfz4_0 := blk_frozen BK193.out 0; have hfz4_1 := blk_frozen BK193.out 1))
 go_ret
 exact ⟨by first | rfl | (simp [errW_none, errW_some] <;> rfl) | (simp [*, errW_none, errW_some] <;> rfl), mbs_ HB.out⟩

/-! ### scarfjointlaw06_few: function 11 -/
def scarfjointlaw06_few.l0 : Nat → List (S29) → Int → Int → List Int → List (S65) → Option (Bool)
 | 0, _, _, _, _, _ => none
 | k + 1, x7, x8, x9, x195000, x195001 => if x9 < x8 then (if 0 ≤ x9 then (if x9 < (x7.length : Int) then ((scarfjointref05_Few.f ((rd_T29 x7 x9).f0.f0) ((rd_T29 x7 x9).f0.f1)).bind fun t198 => (if t198 = true then ((scarfjointref06_Few.f ((rd_T29 x7 x9).f1.f0) ((rd_T29 x7 x9).f1.f1) 140).bind fun t199 => (if t199 = true then (scarfjointlaw06_few.l0 k x7 x8 (wrap64 (x9 + 1)) x195000 x195001) else (some false))) else (some false))) else (none)) else (none)) else ((scarfjointref05_Few.f x195000 x195001).bind fun t195 => (some t195))
def scarfjointlaw06_few.f (k : Nat) (l0_0 : List Int) (l0_1 : List (S65)) (l1 : List (S29)) : Option (Bool) := scarfjointlaw06_few.l0 k l1 (l1.length : Int) 0 l0_0 l0_1
theorem scarfjointlaw06_few.mono_l : ∀ k, (∀ y0 y1 y2 y3 y4, LeO (scarfjointlaw06_few.l0 k y0 y1 y2 y3 y4) (scarfjointlaw06_few.l0 (k + 1) y0 y1 y2 y3 y4))
 | 0 => fun _ _ _ _ _ r h => by simp [scarfjointlaw06_few.l0] at h
 | k + 1 => by
  have ih0 := scarfjointlaw06_few.mono_l k
  ·intro y0 y1 y2 y3 y4
   unfold scarfjointlaw06_few.l0
   repeat' first
   | (with_reducible exact ih0 _ _ _ _ _)
   | (with_reducible exact LeO.refl _)
   | (with_reducible exact LeO.none _)
   | (with_reducible refine LeO.ite ?_ ?_)
   | (with_reducible refine LeO.bind ?_ (fun _ => ?_))
   | exact ih0 _ _ _ _ _
   | exact LeO.none _
   | refine LeO.ite ?_ ?_
   | refine LeO.bind ?_ (fun _ => ?_)
theorem scarfjointlaw06_few.mono : ∀ a0 a1 a2 k, LeO (scarfjointlaw06_few.f k a0 a1 a2) (scarfjointlaw06_few.f (k + 1) a0 a1 a2) := by
 intro a0 a1 a2 k
 have ih0 := scarfjointlaw06_few.mono_l k
 unfold scarfjointlaw06_few.f
 repeat' first
   | (with_reducible exact ih0 _ _ _ _ _)
   | (with_reducible exact LeO.refl _)
   | (with_reducible exact LeO.none _)
   | (with_reducible refine LeO.ite ?_ ?_)
   | (with_reducible refine LeO.bind ?_ (fun _ => ?_))
   | exact ih0 _ _ _ _ _
   | exact LeO.none _
   | refine LeO.ite ?_ ?_
   | refine LeO.bind ?_ (fun _ => ?_)
set_option maxHeartbeats 8000000 in
set_option maxRecDepth 100000 in
theorem scarfjointlaw06_few.calls (k : Nat) (A0_0 : Option Addr) (c0_0 : Nat) (l0_0 : List Int) (A0_1 : Option Addr) (c0_1 : Nat) (l0_1 : List (S65)) (A1 : Option Addr) (c1 : Nat) (l1 : List (S29)) (r : Bool) (w : World) (hr0_0 : Kd.C (Kd.int .i64) w A0_0 l0_0.length l0_0) (hc0_0 : l0_0.length ≤ c0_0) (hr0_1 : Kd.C k65 w A0_1 l0_1.length l0_1) (hc0_1 : l0_1.length ≤ c0_1) (hr1 : Kd.C k29 w A1 l1.length l1) (hc1 : l1.length ≤ c1) (h : scarfjointlaw06_few.f k l0_0 l0_1 l1 = some r) :
  Calls Try.prog 11 #[.agg #[.slice A0_0 l0_0.length c0_0, .slice A0_1 l0_1.length c0_1], .slice A1 l1.length c1] w fun e w' => e = .returned (.bool r) ∧ Below w.heap.size w w' := by
 have hu25 := Try.underlying25
 have hu29 := Try.underlying29
 have hu27 := Try.underlying27
 have HR0_0 := Aside0.mk hr0_0
 have HC0_0 := Aside0.mk hc0_0
 clear hr0_0 hc0_0
 have HR0_1 := Aside0.mk hr0_1
 have HC0_1 := Aside0.mk hc0_1
 clear hr0_1 hc0_1
 have HR1 := Aside0.mk hr1
 have HC1 := Aside0.mk hc1
 clear hr1 hc1
 have HB := Aside0.mk (Below.refl w.heap.size w)
 have H : (scarfjointlaw06_few.l0 k l1 (l1.length : Int) 0 l0_0 l0_1) = some r := h
 clear h
 have H' := Aside0.mk H
 clear H
 go_enter Try.func11, Try.ntmps11
 go_wp2_with (first | ((with_reducible refine gate_dst (N := 2) rfl ?_); refine box_event ?hg (N := 2) ?hd (cs := #[.slice A0_0 l0_0.length c0_0, .slice A0_1 l0_1.length c0_1]) (t := 25) ?hr ?_; (case hd => rfl); (case hg => rfl); (case hr => first | (go_simp; done) | (go_simp; rfl)); intro gb194 hg w3 hbox hb; have BK194 := Aside0.mk (hbox); have GW194 := Aside0.mk (gw_ hg (mb_ HB.out)); have GE194 := Aside0.mk (gw_ hg (mb_ HB.out)); replace HB := Aside0.mk (below_step (mb_ HB.out) hb); clear hb hbox hg))
 go_loopg [9] k (fun kq v9 w' => ∃ (x9_1 : Int), v9 = .int .i64 x9_1 ∧ Aside0 (scarfjointlaw06_few.l0 kq l1 (l1.length : Int) x9_1 l0_0 l0_1 = some r) ∧ Aside0 (kq ≤ k) ∧ Aside0 (w'.heap[gb194]? = some (.cells #[(.slice A0_0 l0_0.length c0_0), (.slice A0_1 l0_1.length c0_1)] 25 (0, 0))) ∧ Aside0 (Below w.heap.size w w'))
 case atStart => exact ⟨(0), (by first | rfl | (simp; done) | (simp [*]; done)), H', ⟨Nat.le_refl _⟩, ⟨bk_ BK194.out⟩, ⟨mbs_ HB.out⟩⟩
 case round =>
  clear H'
  try clear c1
  try clear p2
  obtain ⟨x9_1, rfl, HA, HK1, BK194, HB⟩ := hrel
  cases gk with
  | zero => exact absurd HA.out (by simp [scarfjointlaw06_few.l0])
  | succ k1 =>
   have H := HA.out
   clear HA
   simp only [scarfjointlaw06_few.l0] at H
   by_cases c4 : x9_1 < (l1.length : Int)
   ·rw [if_pos c4] at H
    have c4b0 : decide (x9_1 < (l1.length : Int)) = true := decide_eq_true c4
    clear c4
    by_cases c5 : 0 ≤ x9_1
    ·rw [if_pos c5] at H
     have c5b0 : decide (0 ≤ x9_1) = true := decide_eq_true c5
     clear c5
     by_cases c6 : x9_1 < (l1.length : Int)
     ·rw [if_pos c6] at H
      have c6b0 : decide (x9_1 < (l1.length : Int)) = true := decide_eq_true c6
      clear c6
      replace H := Option.bind_eq_some_iff.mp H
      obtain ⟨t198, A70, H⟩ := H
      replace H : (if t198 = true then ((scarfjointref06_Few.f ((rd_T29 l1 x9_1).f1.f0) ((rd_T29 l1 x9_1).f1.f1) 140).bind fun t199 => (if t199 = true then (scarfjointlaw06_few.l0 k1 l1 (l1.length : Int) (wrap64 (x9_1 + 1)) l0_0 l0_1) else (some false))) else (some false)) = some r := H
      have A7 := Aside0.mk A70
      clear A70
      by_cases c8 : t198 = true
      ·subst c8
       have H1 : ((scarfjointref06_Few.f ((rd_T29 l1 x9_1).f1.f0) ((rd_T29 l1 x9_1).f1.f1) 140).bind fun t199 => (if t199 = true then (scarfjointlaw06_few.l0 k1 l1 (l1.length : Int) (wrap64 (x9_1 + 1)) l0_0 l0_1) else (some false))) = some r := by rw [if_pos rfl] at H; exact H
       clear H
       have H := H1
       clear H1
       replace H := Option.bind_eq_some_iff.mp H
       obtain ⟨t199, A90, H⟩ := H
       replace H : (if t199 = true then (scarfjointlaw06_few.l0 k1 l1 (l1.length : Int) (wrap64 (x9_1 + 1)) l0_0 l0_1) else (some false)) = some r := H
       have A9 := Aside0.mk A90
       clear A90
       by_cases c10 : t199 = true
       ·subst c10
        have H1 : (scarfjointlaw06_few.l0 k1 l1 (l1.length : Int) (wrap64 (x9_1 + 1)) l0_0 l0_1) = some r := by rw [if_pos rfl] at H; exact H
        clear H
        have H := H1
        clear H1
        have H' := Aside0.mk H
        clear H
        have p196 : 0 ≤ (x9_1 : Int) := of_decide_eq_true (by first | (with_reducible assumption) | assumption)
        have q196 : x9_1 < (l1.length : Int) := of_decide_eq_true (by first | (with_reducible assumption) | assumption)
        obtain ⟨ad196, A196_0, c196_0, A196_1, c196_1, A196_2, c196_2, A196_3, c196_3, e196, hx196_0, hx196_1, hx196_2, hx196_3, hl196_0, hi196_0, hl196_1, hi196_1, hl196_2, hi196_2, hl196_3, hi196_3⟩ := at_T29 HR1.out x9_1 p196 q196
        cases e196
        (try replace hx196_0 := (HB.out.cell (World.block_lt_of_cell? w _ hx196_0)).trans hx196_0)
        (try replace hx196_1 := (HB.out.cell (World.block_lt_of_cell? w _ hx196_1)).trans hx196_1)
        (try replace hx196_2 := (HB.out.cell (World.block_lt_of_cell? w _ hx196_2)).trans hx196_2)
        (try replace hx196_3 := (HB.out.cell (World.block_lt_of_cell? w _ hx196_3)).trans hx196_3)
        have HR196_0 := Aside0.mk hi196_0
        have HC196_0 := Aside0.mk hl196_0
        clear hi196_0 hl196_0
        have HR196_1 := Aside0.mk hi196_1
        have HC196_1 := Aside0.mk hl196_1
        clear hi196_1 hl196_1
        have HR196_2 := Aside0.mk hi196_2
        have HC196_2 := Aside0.mk hl196_2
        clear hi196_2 hl196_2
        have HR196_3 := Aside0.mk hi196_3
        have HC196_3 := Aside0.mk hl196_3
        clear hi196_3 hl196_3
        replace p196 := eq_true p196
        replace q196 := eq_true q196
        go_wp2_with (first | ((with_reducible refine gate_dst (N := 6) rfl ?_); refine box_event ?hg (N := 6) ?hd (cs := #[.slice none 0 0, .slice none 0 0, .slice none 0 0, .slice none 0 0]) (t := 29) ?hr ?_; (case hd => rfl); (case hg => rfl); (case hr => first | (go_simp; done) | (go_simp; rfl)); intro gb197 hg w11 hbox hb; have BK197 := Aside0.mk (hbox); have GW197 := Aside0.mk (gw_ hg (mbs_ HB.out)); have GE197 := Aside0.mk (gw_ hg (mbs_ HB.out)); replace HB := Aside0.mk (below_step (mbs_ HB.out) hb); have NB194_197 := Aside0.mk (nb_ hg (bk_ BK194.out)); have NB197_194 := Aside0.mk (nc_ hg (bk_ BK194.out)); replace BK194 := Aside0.mk (blk_below (bk_ BK194.out) hb); clear hb hbox hg; have hnb12 := NB197_194.out; have hnc12 := NB194_197.out; have hcz13_0 := bc0_ BK197.out; have hcz13_1 := bc1_ BK197.out; have hcz13_2 := bc2_ BK197.out; have hcz13_3 := bc3_ BK197.out; have hfz13_0 := blk_frozen BK197.out 0; have hfz13_1 := blk_frozen BK197.out 1; have hfz13_2 := blk_frozen BK197.out 2; have hfz13_3 := blk_frozen BK197.out 3) | ((with_reducible refine gate_callee (f := 23) rfl ?_); refine goesL_ (some 15) rfl rfl Try.func23 (by kernel_rfl) rfl #[.agg #[.slice A196_0 ((rd_T29 l1 x9_1).f0.f0).length c196_0, .slice A196_1 ((rd_T29 l1 x9_1).f0.f1).length c196_1]] rfl (by (try simp only [List.map_toArray, List.map_cons, List.map_nil]); first | done | rfl | (simp only [List.length_drop, List.length_take]; rfl)) ?_; (with_reducible refine (scarfjointref05_Few.calls _ _ ((rd_T29 l1 x9_1).f0.f0) _ _ ((rd_T29 l1 x9_1).f0.f1) true _ ?side1 ?side2 ?side3 ?side4 A7.out).mono ?_); (case side1 => exact Kd.C_below HR196_0.out (mbs_ HB.out)); (case side2 => exact HC196_0.out); (case side3 => exact Kd.C_below HR196_1.out (mbs_ HB.out)); (case side4 => exact HC196_1.out); rintro e w14 ⟨rfl, hb⟩; refine ⟨_, rfl, ?_⟩; replace BK194 := Aside0.mk (blk_below (g := gb194) (o := .cells #[.slice A0_0 l0_0.length c0_0, .slice A0_1 l0_1.length c0_1] 25 (0, 0)) (by (with_reducible repeat (first | refine blk_drewN ?_ _ | refine blk_drew ?_ | refine blk_alloc ?_ _)); refine blk_far ?_ NB194_197.out _; (with_reducible repeat (first | refine blk_drewN ?_ _ | refine blk_drew ?_ | refine blk_alloc ?_ _)); refine blk_far ?_ NB194_197.out _; (with_reducible repeat (first | refine blk_drewN ?_ _ | refine blk_drew ?_ | refine blk_alloc ?_ _)); refine blk_far ?_ NB194_197.out _; (with_reducible repeat (first | refine blk_drewN ?_ _ | refine blk_drew ?_ | refine blk_alloc ?_ _)); refine blk_far ?_ NB194_197.out _; (with_reducible repeat (first | refine blk_drewN ?_ _ | refine blk_drew ?_ | refine blk_alloc ?_ _)); exact BK194.out) hb); replace BK197 := Aside0.mk (blk_below (g := gb197) (o := .cells #[.slice A196_0 ((rd_T29 l1 x9_1).f0.f0).length c196_0, .slice A196_1 ((rd_T29 l1 x9_1).f0.f1).length c196_1, .slice A196_2 ((rd_T29 l1 x9_1).f1.f0).length c196_2, .slice A196_3 ((rd_T29 l1 x9_1).f1.f1).length c196_3] 29 (0, 0)) (by (with_reducible repeat (first | refine blk_drewN ?_ _ | refine blk_drew ?_ | refine blk_alloc ?_ _)); refine blk_put (cs := #[.slice A196_0 ((rd_T29 l1 x9_1).f0.f0).length c196_0, .slice A196_1 ((rd_T29 l1 x9_1).f0.f1).length c196_1, .slice A196_2 ((rd_T29 l1 x9_1).f1.f0).length c196_2, .slice none 0 0]) ?_ 3 _ rfl; (with_reducible repeat (first | refine blk_drewN ?_ _ | refine blk_drew ?_ | refine blk_alloc ?_ _)); refine blk_put (cs := #[.slice A196_0 ((rd_T29 l1 x9_1).f0.f0).length c196_0, .slice A196_1 ((rd_T29 l1 x9_1).f0.f1).length c196_1, .slice none 0 0, .slice none 0 0]) ?_ 2 _ rfl; (with_reducible repeat (first | refine blk_drewN ?_ _ | refine blk_drew ?_ | refine blk_alloc ?_ _)); refine blk_put (cs := #[.slice A196_0 ((rd_T29 l1 x9_1).f0.f0).length c196_0, .slice none 0 0, .slice none 0 0, .slice none 0 0]) ?_ 1 _ rfl; (with_reducible repeat (first | refine blk_drewN ?_ _ | refine blk_drew ?_ | refine blk_alloc ?_ _)); refine blk_put (cs := #[.slice none 0 0, .slice none 0 0, .slice none 0 0, .slice none 0 0]) ?_ 0 _ rfl; (with_reducible repeat (first | refine blk_drewN ?_ _ | refine blk_drew ?_ | refine blk_alloc ?_ _)); exact BK197.out) hb); replace HB := Aside0.mk (below_step (mbs_ HB.out) hb); (try clear hb); (try clear hb2); (try clear hk); (try clear hi); have hcz15_0 := bc0_ BK197.out; have hcz15_1 := bc1_ BK197.out; have hcz15_2 := bc2_ BK197.out; have hcz15_3 := bc3_ BK197.out; have hfz15_0 := blk_frozen BK197.out 0; have hfz15_1 := blk_frozen BK197.out 1; have hfz15_2 := blk_frozen BK197.out 2; have hfz15_3 := blk_frozen BK197.out 3) | (go_at_call 24; (with_reducible refine (scarfjointref06_Few.calls _ _ ((rd_T29 l1 x9_1).f1.f0) _ _ ((rd_T29 l1 x9_1).f1.f1) 140 true _ ?side1 ?side2 ?side3 ?side4 A9.out).mono ?_); (case side1 => exact mc_ (Kd.C_below HR196_2.out HB.out)); (case side2 => exact HC196_2.out); (case side3 => exact mc_ (Kd.C_below HR196_3.out HB.out)); (case side4 => exact HC196_3.out); rintro e w16 ⟨rfl, hb⟩; replace BK194 := Aside0.mk (blk_below (bk_ BK194.out) hb); replace BK197 := Aside0.mk (blk_below (bk_ BK197.out) hb); replace HB := Aside0.mk (below_step (mbs_ HB.out) hb); (try clear hb); (try clear hb2); (try clear hk); (try clear hi)))
        go_roundg k1
        case measure => have := HK1.out; omega
        case rel => exact ⟨(wrap64 (x9_1 + 1)), (by first | rfl | (simp; done) | (simp [*]; done)), H', ⟨by have := HK1.out; omega⟩, ⟨bk_ BK194.out⟩, ⟨mbs_ HB.out⟩⟩
       ·replace c10 := Bool.eq_false_iff.mpr c10
        subst c10
        have H1 : (some false) = some r := by rw [if_neg (show ¬ (false = true) by decide)] at H; exact H
        clear H
        have H := H1
        clear H1
        obtain rfl := Option.some.inj H
        have p196 : 0 ≤ (x9_1 : Int) := of_decide_eq_true (by first | (with_reducible assumption) | assumption)
        have q196 : x9_1 < (l1.length : Int) := of_decide_eq_true (by first | (with_reducible assumption) | assumption)
        obtain ⟨ad196, A196_0, c196_0, A196_1, c196_1, A196_2, c196_2, A196_3, c196_3, e196, hx196_0, hx196_1, hx196_2, hx196_3, hl196_0, hi196_0, hl196_1, hi196_1, hl196_2, hi196_2, hl196_3, hi196_3⟩ := at_T29 HR1.out x9_1 p196 q196
        cases e196
        (try replace hx196_0 := (HB.out.cell (World.block_lt_of_cell? w _ hx196_0)).trans hx196_0)
        (try replace hx196_1 := (HB.out.cell (World.block_lt_of_cell? w _ hx196_1)).trans hx196_1)
        (try replace hx196_2 := (HB.out.cell (World.block_lt_of_cell? w _ hx196_2)).trans hx196_2)
        (try replace hx196_3 := (HB.out.cell (World.block_lt_of_cell? w _ hx196_3)).trans hx196_3)
        have HR196_0 := Aside0.mk hi196_0
        have HC196_0 := Aside0.mk hl196_0
        clear hi196_0 hl196_0
        have HR196_1 := Aside0.mk hi196_1
        have HC196_1 := Aside0.mk hl196_1
        clear hi196_1 hl196_1
        have HR196_2 := Aside0.mk hi196_2
        have HC196_2 := Aside0.mk hl196_2
        clear hi196_2 hl196_2
        have HR196_3 := Aside0.mk hi196_3
        have HC196_3 := Aside0.mk hl196_3
        clear hi196_3 hl196_3
        replace p196 := eq_true p196
        replace q196 := eq_true q196
        go_wp2_with (first | ((with_reducible refine gate_dst (N := 6) rfl ?_); refine box_event ?hg (N := 6) ?hd (cs := #[.slice none 0 0, .slice none 0 0, .slice none 0 0, .slice none 0 0]) (t := 29) ?hr ?_; (case hd => rfl); (case hg => rfl); (case hr => first | (go_simp; done) | (go_simp; rfl)); intro gb197 hg w17 hbox hb; have BK197 := Aside0.mk (hbox); have GW197 := Aside0.mk (gw_ hg (mbs_ HB.out)); have GE197 := Aside0.mk (gw_ hg (mbs_ HB.out)); replace HB := Aside0.mk (below_step (mbs_ HB.out) hb); have NB194_197 := Aside0.mk (nb_ hg (bk_ BK194.out)); have NB197_194 := Aside0.mk (nc_ hg (bk_ BK194.out)); replace BK194 := Aside0.mk (blk_below (bk_ BK194.out) hb); clear hb hbox hg; have hnb18 := NB197_194.out; have hnc18 := NB194_197.out; have hcz19_0 := bc0_ BK197.out; have hcz19_1 := bc1_ BK197.out; have hcz19_2 := bc2_ BK197.out; have hcz19_3 := bc3_ BK197.out; have hfz19_0 := blk_frozen BK197.out 0; have hfz19_1 := blk_frozen BK197.out 1; have hfz19_2 := blk_frozen BK197.out 2; have hfz19_3 := blk_frozen BK197.out 3) | ((with_reducible refine gate_callee (f := 23) rfl ?_); refine goesL_ (some 15) rfl rfl Try.func23 (by kernel_rfl) rfl #[.agg #[.slice A196_0 ((rd_T29 l1 x9_1).f0.f0).length c196_0, .slice A196_1 ((rd_T29 l1 x9_1).f0.f1).length c196_1]] rfl (by (try simp only [List.map_toArray, List.map_cons, List.map_nil]); first | done | rfl | (simp only [List.length_drop, List.length_take]; rfl)) ?_; (with_reducible refine (scarfjointref05_Few.calls _ _ ((rd_T29 l1 x9_1).f0.f0) _ _ ((rd_T29 l1 x9_1).f0.f1) true _ ?side1 ?side2 ?side3 ?side4 A7.out).mono ?_); (case side1 => exact Kd.C_below HR196_0.out (mbs_ HB.out)); (case side2 => exact HC196_0.out); (case side3 => exact Kd.C_below HR196_1.out (mbs_ HB.out)); (case side4 => exact HC196_1.out); rintro e w20 ⟨rfl, hb⟩; refine ⟨_, rfl, ?_⟩; replace BK194 := Aside0.mk (blk_below (g := gb194) (o := .cells #[.slice A0_0 l0_0.length c0_0, .slice A0_1 l0_1.length c0_1] 25 (0, 0)) (by (with_reducible repeat (first | refine blk_drewN ?_ _ | refine blk_drew ?_ | refine blk_alloc ?_ _)); refine blk_far ?_ NB194_197.out _; (with_reducible repeat (first | refine blk_drewN ?_ _ | refine blk_drew ?_ | refine blk_alloc ?_ _)); refine blk_far ?_ NB194_197.out _; (with_reducible repeat (first | refine blk_drewN ?_ _ | refine blk_drew ?_ | refine blk_alloc ?_ _)); refine blk_far ?_ NB194_197.out _; (with_reducible repeat (first | refine blk_drewN ?_ _ | refine blk_drew ?_ | refine blk_alloc ?_ _)); refine blk_far ?_ NB194_197.out _; (with_reducible repeat (first | refine blk_drewN ?_ _ | refine blk_drew ?_ | refine blk_alloc ?_ _)); exact BK194.out) hb); replace BK197 := Aside0.mk (blk_below (g := gb197) (o := .cells #[.slice A196_0 ((rd_T29 l1 x9_1).f0.f0).length c196_0, .slice A196_1 ((rd_T29 l1 x9_1).f0.f1).length c196_1, .slice A196_2 ((rd_T29 l1 x9_1).f1.f0).length c196_2, .slice A196_3 ((rd_T29 l1 x9_1).f1.f1).length c196_3] 29 (0, 0)) (by (with_reducible repeat (first | refine blk_drewN ?_ _ | refine blk_drew ?_ | refine blk_alloc ?_ _)); refine blk_put (cs := #[.slice A196_0 ((rd_T29 l1 x9_1).f0.f0).length c196_0, .slice A196_1 ((rd_T29 l1 x9_1).f0.f1).length c196_1, .slice A196_2 ((rd_T29 l1 x9_1).f1.f0).length c196_2, .slice none 0 0]) ?_ 3 _ rfl; (with_reducible repeat (first | refine blk_drewN ?_ _ | refine blk_drew ?_ | refine blk_alloc ?_ _)); refine blk_put (cs := #[.slice A196_0 ((rd_T29 l1 x9_1).f0.f0).length c196_0, .slice A196_1 ((rd_T29 l1 x9_1).f0.f1).length c196_1, .slice none 0 0, .slice none 0 0]) ?_ 2 _ rfl; (with_reducible repeat (first | refine blk_drewN ?_ _ | refine blk_drew ?_ | refine blk_alloc ?_ _)); refine blk_put (cs := #[.slice A196_0 ((rd_T29 l1 x9_1).f0.f0).length c196_0, .slice none 0 0, .slice none 0 0, .slice none 0 0]) ?_ 1 _ rfl; (with_reducible repeat (first | refine blk_drewN ?_ _ | refine blk_drew ?_ | refine blk_alloc ?_ _)); refine blk_put (cs := #[.slice none 0 0, .slice none 0 0, .slice none 0 0, .slice none 0 0]) ?_ 0 _ rfl; (with_reducible repeat (first | refine blk_drewN ?_ _ | refine blk_drew ?_ | refine blk_alloc ?_ _)); exact BK197.out) hb); replace HB := Aside0.mk (below_step (mbs_ HB.out) hb); (try clear hb); (try clear hb2); (try clear hk); (try clear hi); have hcz21_0 := bc0_ BK197.out; have hcz21_1 := bc1_ BK197.out; have hcz21_2 := bc2_ BK197.out; have hcz21_3 := bc3_ BK197.out; have hfz21_0 := blk_frozen BK197.out 0; have hfz21_1 := blk_frozen BK197.out 1; have hfz21_2 := blk_frozen BK197.out 2; have hfz21_3 := blk_frozen BK197.out 3) | (go_at_call 24; (with_reducible refine (scarfjointref06_Few.calls _ _ ((rd_T29 l1 x9_1).f1.f0) _ _ ((rd_T29 l1 x9_1).f1.f1) 140 false _ ?side1 ?side2 ?side3 ?side4 A9.out).mono ?_); (case side1 => exact mc_ (Kd.C_below HR196_2.out HB.out)); (case side2 => exact HC196_2.out); (case side3 => exact mc_ (Kd.C_below HR196_3.out HB.out)); (case side4 => exact HC196_3.out); rintro e w22 ⟨rfl, hb⟩; replace BK194 := Aside0.mk (blk_below (bk_ BK194.out) hb); replace BK197 := Aside0.mk (blk_below (bk_ BK197.out) hb); replace HB := Aside0.mk (below_step (mbs_ HB.out) hb); (try clear hb); (try clear hb2); (try clear hk); (try clear hi)))
        go_ret
        exact ⟨by first | rfl | (simp [errW_none, errW_some] <;> rfl) | (simp [*, errW_none, errW_some] <;> rfl), mbs_ HB.out⟩
      ·replace c8 := Bool.eq_false_iff.mpr c8
       subst c8
       have H1 : (some false) = some r := by rw [if_neg (show ¬ (false = true) by decide)] at H; exact H
       clear H
       have H := H1
       clear H1
       obtain rfl := Option.some.inj H
       have p196 : 0 ≤ (x9_1 : Int) := of_decide_eq_true (by first | (with_reducible assumption) | assumption)
       have q196 : x9_1 < (l1.length : Int) := of_decide_eq_true (by first | (with_reducible assumption) | assumption)
       obtain ⟨ad196, A196_0, c196_0, A196_1, c196_1, A196_2, c196_2, A196_3, c196_3, e196, hx196_0, hx196_1, hx196_2, hx196_3, hl196_0, hi196_0, hl196_1, hi196_1, hl196_2, hi196_2, hl196_3, hi196_3⟩ := at_T29 HR1.out x9_1 p196 q196
       cases e196
       (try replace hx196_0 := (HB.out.cell (World.block_lt_of_cell? w _ hx196_0)).trans hx196_0)
       (try replace hx196_1 := (HB.out.cell (World.block_lt_of_cell? w _ hx196_1)).trans hx196_1)
       (try replace hx196_2 := (HB.out.cell (World.block_lt_of_cell? w _ hx196_2)).trans hx196_2)
       (try replace hx196_3 := (HB.out.cell (World.block_lt_of_cell? w _ hx196_3)).trans hx196_3)
       have HR196_0 := Aside0.mk hi196_0
       have HC196_0 := Aside0.mk hl196_0
       clear hi196_0 hl196_0
       have HR196_1 := Aside0.mk hi196_1
       have HC196_1 := Aside0.mk hl196_1
       clear hi196_1 hl196_1
       have HR196_2 := Aside0.mk hi196_2
       have HC196_2 := Aside0.mk hl196_2
       clear hi196_2 hl196_2
       have HR196_3 := Aside0.mk hi196_3
       have HC196_3 := Aside0.mk hl196_3
       clear hi196_3 hl196_3
       replace p196 := eq_true p196
       replace q196 := eq_true q196
       go_wp2_with (first | ((with_reducible refine gate_dst (N := 6) rfl ?_); refine box_event ?hg (N := 6) ?hd (cs := #[.slice none 0 0, .slice none 0 0, .slice none 0 0, .slice none 0 0]) (t := 29) ?hr ?_; (case hd => rfl); (case hg => rfl); (case hr => first | (go_simp; done) | (go_simp; rfl)); intro gb197 hg w23 hbox hb; have BK197 := Aside0.mk (hbox); have GW197 := Aside0.mk (gw_ hg (mbs_ HB.out)); have GE197 := Aside0.mk (gw_ hg (mbs_ HB.out)); replace HB := Aside0.mk (below_step (mbs_ HB.out) hb); have NB194_197 := Aside0.mk (nb_ hg (bk_ BK194.out)); have NB197_194 := Aside0.mk (nc_ hg (bk_ BK194.out)); replace BK194 := Aside0.mk (blk_below (bk_ BK194.out) hb); clear hb hbox hg; have hnb24 := NB197_194.out; have hnc24 := NB194_197.out; have hcz25_0 := bc0_ BK197.out; have hcz25_1 := bc1_ BK197.out; have hcz25_2 := bc2_ BK197.out; have hcz25_3 := bc3_ BK197.out; have hfz25_0 := blk_frozen BK197.out 0; have hfz25_1 := blk_frozen BK197.out 1; have hfz25_2 := blk_frozen BK197.out 2; have hfz25_3 := blk_frozen BK197.out 3) | ((with_reducible refine gate_callee (f := 23) rfl ?_); refine goesL_ (some 15) rfl rfl Try.func23 (by kernel_rfl) rfl #[.agg #[.slice A196_0 ((rd_T29 l1 x9_1).f0.f0).length c196_0, .slice A196_1 ((rd_T29 l1 x9_1).f0.f1).length c196_1]] rfl (by (try simp only [List.map_toArray, List.map_cons, List.map_nil]); first | done | rfl | (simp only [List.length_drop, List.length_take]; rfl)) ?_; (with_reducible refine (scarfjointref05_Few.calls _ _ ((rd_T29 l1 x9_1).f0.f0) _ _ ((rd_T29 l1 x9_1).f0.f1) false _ ?side1 ?side2 ?side3 ?side4 A7.out).mono ?_); (case side1 => exact Kd.C_below HR196_0.out (mbs_ HB.out)); (case side2 => exact HC196_0.out); (case side3 => exact Kd.C_below HR196_1.out (mbs_ HB.out)); (case side4 => exact HC196_1.out); rintro e w26 ⟨rfl, hb⟩; refine ⟨_, rfl, ?_⟩; replace BK194 := Aside0.mk (blk_below (g := gb194) (o := .cells #[.slice A0_0 l0_0.length c0_0, .slice A0_1 l0_1.length c0_1] 25 (0, 0)) (by (with_reducible repeat (first | refine blk_drewN ?_ _ | refine blk_drew ?_ | refine blk_alloc ?_ _)); refine blk_far ?_ NB194_197.out _; (with_reducible repeat (first | refine blk_drewN ?_ _ | refine blk_drew ?_ | refine blk_alloc ?_ _)); refine blk_far ?_ NB194_197.out _; (with_reducible repeat (first | refine blk_drewN ?_ _ | refine blk_drew ?_ | refine blk_alloc ?_ _)); refine blk_far ?_ NB194_197.out _; (with_reducible repeat (first | refine blk_drewN ?_ _ | refine blk_drew ?_ | refine blk_alloc ?_ _)); refine blk_far ?_ NB194_197.out _; (with_reducible repeat (first | refine blk_drewN ?_ _ | refine blk_drew ?_ | refine blk_alloc ?_ _)); exact BK194.out) hb); replace BK197 := Aside0.mk (blk_below (g := gb197) (o := .cells #[.slice A196_0 ((rd_T29 l1 x9_1).f0.f0).length c196_0, .slice A196_1 ((rd_T29 l1 x9_1).f0.f1).length c196_1, .slice A196_2 ((rd_T29 l1 x9_1).f1.f0).length c196_2, .slice A196_3 ((rd_T29 l1 x9_1).f1.f1).length c196_3] 29 (0, 0)) (by (with_reducible repeat (first | refine blk_drewN ?_ _ | refine blk_drew ?_ | refine blk_alloc ?_ _)); refine blk_put (cs := #[.slice A196_0 ((rd_T29 l1 x9_1).f0.f0).length c196_0, .slice A196_1 ((rd_T29 l1 x9_1).f0.f1).length c196_1, .slice A196_2 ((rd_T29 l1 x9_1).f1.f0).length c196_2, .slice none 0 0]) ?_ 3 _ rfl; (with_reducible repeat (first | refine blk_drewN ?_ _ | refine blk_drew ?_ | refine blk_alloc ?_ _)); refine blk_put (cs := #[.slice A196_0 ((rd_T29 l1 x9_1).f0.f0).length c196_0, .slice A196_1 ((rd_T29 l1 x9_1).f0.f1).length c196_1, .slice none 0 0, .slice none 0 0]) ?_ 2 _ rfl; (with_reducible repeat (first | refine blk_drewN ?_ _ | refine blk_drew ?_ | refine blk_alloc ?_ _)); refine blk_put (cs := #[.slice A196_0 ((rd_T29 l1 x9_1).f0.f0).length c196_0, .slice none 0 0, .slice none 0 0, .slice none 0 0]) ?_ 1 _ rfl; (with_reducible repeat (first | refine blk_drewN ?_ _ | refine blk_drew ?_ | refine blk_alloc ?_ _)); refine blk_put (cs := #[.slice none 0 0, .slice none 0 0, .slice none 0 0, .slice none 0 0]) ?_ 0 _ rfl; (with_reducible repeat (first | refine blk_drewN ?_ _ | refine blk_drew ?_ | refine blk_alloc ?_ _)); exact BK197.out) hb); replace HB := Aside0.mk (below_step (mbs_ HB.out) hb); (try clear hb); (try clear hb2); (try clear hk); (try clear hi)))
       go_ret
       exact ⟨by first | rfl | (simp [errW_none, errW_some] <;> rfl) | (simp [*, errW_none, errW_some] <;> rfl), mbs_ HB.out⟩
     ·rw [if_neg c6] at H
      exact absurd H (by simp)
    ·rw [if_neg c5] at H
     exact absurd H (by simp)
   ·rw [if_neg c4] at H
    have c4b0 : decide (x9_1 < (l1.length : Int)) = false := decide_eq_false c4
    clear c4
    replace H := Option.bind_eq_some_iff.mp H
    obtain ⟨t195, A270, H⟩ := H
    replace H : (some t195) = some r := H
    have A27 := Aside0.mk A270
    clear A270
    obtain rfl := Option.some.inj H
    have hcz28_0 := bc0_ BK194.out
    have hcz28_1 := bc1_ BK194.out
    have hfz28_0 := blk_frozen BK194.out 0
    have hfz28_1 := blk_frozen BK194.out 1
    go_wp2_with (first | ((with_reducible refine gate_callee (f := 23) rfl ?_); refine goesL_ (some 25) rfl rfl Try.func23 (by kernel_rfl) rfl #[.agg #[.slice A0_0 l0_0.length c0_0, .slice A0_1 l0_1.length c0_1]] rfl (by (try simp only [List.map_toArray, List.map_cons, List.map_nil]); first | done | rfl | (simp only [List.length_drop, List.length_take]; rfl)) ?_; (with_reducible refine (scarfjointref05_Few.calls _ _ l0_0 _ _ l0_1 t195 _ ?side1 ?side2 ?side3 ?side4 A27.out).mono ?_); (case side1 => exact mc_ (Kd.C_below HR0_0.out HB.out)); (case side2 => exact HC0_0.out); (case side3 => exact mc_ (Kd.C_below HR0_1.out HB.out)); (case side4 => exact HC0_1.out); rintro e w29 ⟨rfl, hb⟩; refine ⟨_, rfl, ?_⟩; replace BK194 := Aside0.mk (blk_below (bk_ BK194.out) hb); replace HB := Aside0.mk (below_step (mbs_ HB.out) hb); (try clear hb); (try clear hb2); (try clear hk); (try clear hi)))
    go_ret
    exact ⟨by first | rfl | (simp [errW_none, errW_some] <;> rfl) | (simp [*, errW_none, errW_some] <;> rfl), mbs_ HB.out⟩

/-! ### scarfjointlaw06_copied: function 13 -/
def scarfjointlaw06_copied.f (l0_0 : List Int) (l0_1 : List Int) : Option (List Int × List Int) := (slices_Clone_int_int.f l0_0).bind fun t202 => ((slices_Clone_int_int.f l0_1).bind fun t205 => (some (t202, t205)))
def scarfjointlaw06_copied.T1 : Bool × List (List Nat × List Nat) := (true, [([], []), ([0], [0]), ([1], [1]), ([], []), ([3], [3]), ([4, 2], [4]), ([2, 5], [2, 5]), ([6, 5, 0, 1, 2, 3, 4, 5, 6], [6])])
def scarfjointlaw06_copied.B1 : List Nat := [0, 1, 3, 0, 8, 31, 63, 127]
theorem scarfjointlaw06_copied.tab1 : rtab .any (opsOf Try.f13 1) = scarfjointlaw06_copied.T1 := by kernel_rfl
theorem scarfjointlaw06_copied.bits1 : waitsOk scarfjointlaw06_copied.T1.2 scarfjointlaw06_copied.B1 = true := by kernel_rfl
set_option maxHeartbeats 8000000 in
set_option maxRecDepth 100000 in
theorem scarfjointlaw06_copied.calls (A0_0 : Option Addr) (c0_0 : Nat) (l0_0 : List Int) (A0_1 : Option Addr) (c0_1 : Nat) (l0_1 : List Int) (r1 : List Int) (r2 : List Int) (w : World) (hr0_0 : Kd.C (Kd.int .i64) w A0_0 l0_0.length l0_0) (hc0_0 : l0_0.length ≤ c0_0) (hr0_1 : Kd.C (Kd.int .i64) w A0_1 l0_1.length l0_1) (hc0_1 : l0_1.length ≤ c0_1) (h : scarfjointlaw06_copied.f l0_0 l0_1 = some (r1, r2)) :
  Calls Try.prog 13 #[.agg #[.slice A0_0 l0_0.length c0_0, .slice A0_1 l0_1.length c0_1]] w fun e w' => ∃ v0_ v1_ : Value, e = .returned (.agg #[v0_, v1_]) ∧ Kd.R (Kd.int .i64) 3 w' w.heap.size (fun k_ => some k_ ≠ (v1_ : Value).ownBlock) v0_ r1 ∧ Kd.R (Kd.int .i64) 3 w' w.heap.size (fun k_ => some k_ ≠ (v0_ : Value).ownBlock) v1_ r2 ∧ Below w.heap.size w w' := by
 have hu27 := Try.underlying27
 have HR0_0 := Aside0.mk hr0_0
 have HC0_0 := Aside0.mk hc0_0
 clear hr0_0 hc0_0
 have HR0_1 := Aside0.mk hr0_1
 have HC0_1 := Aside0.mk hc0_1
 clear hr0_1 hc0_1
 have HB := Aside0.mk (Below.refl w.heap.size w)
 have H : ((slices_Clone_int_int.f l0_0).bind fun t202 => ((slices_Clone_int_int.f l0_1).bind fun t205 => (some (t202, t205)))) = some (r1, r2) := h
 clear h
 replace H := Option.bind_eq_some_iff.mp H
 obtain ⟨t202, A20, H⟩ := H
 replace H : ((slices_Clone_int_int.f l0_1).bind fun t205 => (some (t202, t205))) = some (r1, r2) := H
 have A2 := Aside0.mk A20
 clear A20
 replace H := Option.bind_eq_some_iff.mp H
 obtain ⟨t205, A30, H⟩ := H
 replace H : (some (t202, t205)) = some (r1, r2) := H
 have A3 := Aside0.mk A30
 clear A30
 simp only [Option.some.injEq, Prod.mk.injEq] at H
 obtain ⟨rfl, rfl⟩ := H
 go_enter Try.func13, Try.ntmps13
 try go_wp2_with (first | ((with_reducible refine gate_dst (N := 1) rfl ?_); refine box_event ?hg (N := 1) ?hd (cs := #[.slice A0_0 l0_0.length c0_0, .slice A0_1 l0_1.length c0_1]) (t := 27) ?hr ?_; (case hd => rfl); (case hg => rfl); (case hr => first | (go_simp; done) | (go_simp; rfl)); intro gb200 hg w4 hbox hb; have BK200 := Aside0.mk (hbox); have GW200 := Aside0.mk (gw_ hg (mb_ HB.out)); have GE200 := Aside0.mk (gw_ hg (mb_ HB.out)); replace HB := Aside0.mk (below_step (mb_ HB.out) hb); clear hb hbox hg) | ((with_reducible refine gate_dst (N := 2) rfl ?_); refine box_event ?hg (N := 2) ?hd (cs := #[.slice none 0 0, .slice none 0 0]) (t := 27) ?hr ?_; (case hd => rfl); (case hg => rfl); (case hr => first | (go_simp; done) | (go_simp; rfl)); intro gb201 hg w5 hbox hb; have BK201 := Aside0.mk (hbox); have GW201 := Aside0.mk (gw_ hg (mbs_ HB.out)); have GE201 := Aside0.mk (gw_ hg (mbs_ HB.out)); replace HB := Aside0.mk (below_step (mbs_ HB.out) hb); have NB200_201 := Aside0.mk (nb_ hg (bk_ BK200.out)); have NB201_200 := Aside0.mk (nc_ hg (bk_ BK200.out)); replace BK200 := Aside0.mk (blk_below (bk_ BK200.out) hb); clear hb hbox hg))
 replace BK200 := Aside0.mk (blk_drew BK200.out)
 replace BK201 := Aside0.mk (blk_drew BK201.out)
 replace HB := Aside0.mk (below_drew1 HB.out)
 refine start_ (n := 8) (S := fun w' => w'.cell? ⟨gb200, 0, none⟩ = some (.slice A0_0 l0_0.length c0_0) ∧ w'.cell? ⟨gb200, 1, none⟩ = some (.slice A0_1 l0_1.length c0_1)) (ds := []) #[false, false, false, false, false, false, false, false] (by kernel_rfl) rfl rfl ⟨(blk_cell BK200.out 0).trans rfl, (blk_cell BK200.out 1).trans rfl⟩ (fun hHeld => ?_); refine with_tabW scarfjointlaw06_copied.tab1 scarfjointlaw06_copied.bits1 (fun HT_ HW_ => ?_)
 generalize w5.drew = w6 at BK200 BK201 HB hHeld ⊢
 refine pure_ (i := 0) (N := some 3) (v := ?_) (a' := ?_) #[true, false, false, false, false, false, false, false] rfl rfl (any_of HT_.out (by kernel_rfl)) (fun _ _ _ h => h) (Or.inl ⟨by rfl, ?_⟩) ?_ ?_
 rotate_left
 ·intro w'
  go_simp
  with_reducible rfl
 rotate_left
 ·simp only [Act.put, List.setIfInBounds_toArray, List.set_cons_zero, List.set_cons_succ, i64_w, i32_w]
  rfl
 refine pure_ (i := 3) (N := some 6) (v := ?_) (a' := ?_) #[true, false, false, true, false, false, false, false] rfl rfl (any_of HT_.out (by kernel_rfl)) (fun _ _ _ h => h) (Or.inl ⟨by rfl, ?_⟩) ?_ ?_
 rotate_left
 ·intro w'
  go_simp
  with_reducible rfl
 rotate_left
 ·simp only [Act.put, List.setIfInBounds_toArray, List.set_cons_zero, List.set_cons_succ, i64_w, i32_w]
  rfl
 refine take_ (i := 1) (N := some 4) (v := ?_) (a' := ?_) #[true, true, false, true, false, false, false, false] rfl rfl (take_ofW HT_.out HW_.out (by kernel_rfl)) (fun _ _ _ h => h) (Or.inl ⟨by rfl, ?_⟩) hHeld ?_ ?_
 rotate_left
 ·rintro w' ⟨s0, s1⟩
  go_simp
  with_reducible rfl
 rotate_left
 ·simp only [Act.put, List.setIfInBounds_toArray, List.set_cons_zero, List.set_cons_succ, i64_w, i32_w]
  rfl
 refine take_ (i := 4) (N := some 7) (v := ?_) (a' := ?_) #[true, true, false, true, true, false, false, false] rfl rfl (take_ofW HT_.out HW_.out (by kernel_rfl)) (fun _ _ _ h => h) (Or.inl ⟨by rfl, ?_⟩) hHeld ?_ ?_
 rotate_left
 ·rintro w' ⟨s0, s1⟩
  go_simp
  with_reducible rfl
 rotate_left
 ·simp only [Act.put, List.setIfInBounds_toArray, List.set_cons_zero, List.set_cons_succ, i64_w, i32_w]
  rfl
 refine one_ (i := 2) (N := some 5) #[true, true, true, true, true, false, false, false] rfl rfl (one_of HT_.out (by kernel_rfl)) (by decide) (fun K hK => ?_)
 refine goes_ Try.func39 (by kernel_rfl) rfl #[.slice A0_0 l0_0.length c0_0] (by rfl) rfl rfl (by (try simp only [List.map_toArray, List.map_cons, List.map_nil]); first | done | rfl | (simp only [List.length_drop, List.length_take]; rfl)) ?_
 with_reducible refine (slices_Clone_int_int.calls _ _ l0_0 t202 _ ?side1 ?side2 A2.out).mono ?_
 (case side1 => exact mc_ (Kd.C_below HR0_0.out HB.out))
 (case side2 => exact HC0_0.out)
 rintro e w7 ⟨v203, rfl, ho0, hb⟩
 refine ⟨_, rfl, ?_⟩
 have HO204 := Aside0.mk (Kd.R_lower ho0 (below_size (mbs_ HB.out)))
 replace BK200 := Aside0.mk (blk_below (bk_ BK200.out) hb)
 replace BK201 := Aside0.mk (blk_below (bk_ BK201.out) hb)
 replace HB := Aside0.mk (below_step (mbs_ HB.out) hb)
 (try clear hb)
 (try clear hb2)
 (try clear hk)
 (try clear hi)
 (try clear ho0)
 refine hK.out _ _ ⟨(blk_cell BK200.out 0).trans rfl, (blk_cell BK200.out 1).trans rfl⟩ (fun hHeld => ?_)
 clear hK K
 refine norm_ (a' := ?_) ?_ ?_
 rotate_left
 ·show Act.put _ (some 5) _ = _
  simp only [Act.put, List.setIfInBounds_toArray, List.set_cons_zero, List.set_cons_succ, i64_w, i32_w]
  rfl
 refine one_ (i := 5) (N := some 8) #[true, true, true, true, true, true, false, false] rfl rfl (one_of HT_.out (by kernel_rfl)) (by decide) (fun K hK => ?_)
 refine goes_ Try.func39 (by kernel_rfl) rfl #[.slice A0_1 l0_1.length c0_1] (by rfl) rfl rfl (by (try simp only [List.map_toArray, List.map_cons, List.map_nil]); first | done | rfl | (simp only [List.length_drop, List.length_take]; rfl)) ?_
 with_reducible refine (slices_Clone_int_int.calls _ _ l0_1 t205 _ ?side1 ?side2 A3.out).mono ?_
 (case side1 => exact mc_ (Kd.C_below HR0_1.out HB.out))
 (case side2 => exact HC0_1.out)
 rintro e w8 ⟨v206, rfl, ho0, hb⟩
 refine ⟨_, rfl, ?_⟩
 have HO207 := Aside0.mk (Kd.R_lower (Kd.R_new' ho0 (Kd.R_lt (mr_ HO204.out))) (below_size (mbs_ HB.out)))
 replace HO204 := Aside0.mk (Kd.R_elder' (mr_ HO204.out) (Kd.R_base ho0) hb)
 replace BK200 := Aside0.mk (blk_below (bk_ BK200.out) hb)
 replace BK201 := Aside0.mk (blk_below (bk_ BK201.out) hb)
 replace HB := Aside0.mk (below_step (mbs_ HB.out) hb)
 (try clear hb)
 (try clear hb2)
 (try clear hk)
 (try clear hi)
 (try clear ho0)
 obtain ⟨Ao9, co9, eo9⟩ := Kd.R_slice HO207.out
 (first | subst eo9 | (injection eo9 with f1_ f2_ f3_; have f4_ := f1_.symm; have f5_ := f3_.symm; clear f1_ f2_ f3_; subst f4_; subst f5_))
 obtain ⟨Ao10, co10, eo10⟩ := Kd.R_slice HO204.out
 (first | subst eo10 | (injection eo10 with f1_ f2_ f3_; have f4_ := f1_.symm; have f5_ := f3_.symm; clear f1_ f2_ f3_; subst f4_; subst f5_))
 refine hK.out _ _ ⟨(blk_cell BK200.out 0).trans rfl, (blk_cell BK200.out 1).trans rfl⟩ (fun hHeld => ?_)
 clear hK K
 refine norm_ (a' := ?_) ?_ ?_
 rotate_left
 ·show Act.put _ (some 8) _ = _
  simp only [Act.put, List.setIfInBounds_toArray, List.set_cons_zero, List.set_cons_succ, i64_w, i32_w]
  rfl
 refine pure_ (i := 6) (N := some 9) (v := ?_) (a' := ?_) #[true, true, true, true, true, true, true, false] rfl rfl (any_of HT_.out (by kernel_rfl)) (fun _ _ _ h => h) (Or.inl ⟨by rfl, ?_⟩) ?_ ?_
 rotate_left
 ·intro w'
  go_simp
  with_reducible rfl
 rotate_left
 ·simp only [Act.put, List.setIfInBounds_toArray, List.set_cons_zero, List.set_cons_succ, i64_w, i32_w]
  rfl
 refine one_ (i := 7) (N := none) #[true, true, true, true, true, true, true, true] rfl rfl (one_of HT_.out (by kernel_rfl)) (by decide) (fun K hK => ?_)
 have hs11 : w8.cell? ⟨gb201, 0, none⟩ = some (.slice none 0 0) := (blk_cell BK201.out 0).trans rfl
 have hfs11 := blk_frozen BK201.out 0
 have hns11_0 := NB200_201.out
 have hms11_0 := NB201_200.out
 have hs12 : w8.cell? ⟨gb201, 1, none⟩ = some (.slice none 0 0) := (blk_cell BK201.out 1).trans rfl
 have hfs12 := blk_frozen BK201.out 1
 have hns12_0 := NB200_201.out
 have hms12_0 := NB201_200.out
 refine skip_ (w1 := ?_) (by rfl) rfl ?_ ?_
 rotate_left
 ·go_simp
  rfl
 refine hK.out _ _ ⟨((cell_far (p := ⟨gb201, _, none⟩) NB200_201.out _).trans (((cell_far (p := ⟨gb201, _, none⟩) NB200_201.out _).trans (hHeld.1)))), ((cell_far (p := ⟨gb201, _, none⟩) NB200_201.out _).trans (((cell_far (p := ⟨gb201, _, none⟩) NB200_201.out _).trans (hHeld.2))))⟩ (fun hHeld => ?_)
 clear hK K
 refine done_ (done_of HT_.out (by kernel_rfl)) ?_
 try go_wp2
 refine bodyPost_ret (results_cell_row rfl _ _ gb201 27 #[.slice Ao10 t202.length co10, .slice Ao9 t205.length co9] (0, 0) _ rfl (by (with_reducible repeat (first | refine blk_drewN ?_ _ | refine blk_drew ?_ | refine blk_alloc ?_ _)); refine blk_put (cs := #[.slice Ao10 t202.length co10, .slice none 0 0]) ?_ 1 _ rfl; (with_reducible repeat (first | refine blk_drewN ?_ _ | refine blk_drew ?_ | refine blk_alloc ?_ _)); refine blk_put (cs := #[.slice none 0 0, .slice none 0 0]) ?_ 0 _ rfl; (with_reducible repeat (first | refine blk_drewN ?_ _ | refine blk_drew ?_ | refine blk_alloc ?_ _)); exact BK201.out) Try.underlying27 rfl (by kernel_rfl)) rfl ?_
 exact ⟨_, _, by first | rfl | (simp [errW_none, errW_some] <;> rfl) | (simp [*, errW_none, errW_some] <;> rfl), by (with_reducible repeat (first | apply Kd.R_alloc | apply Kd.R_drewN | apply Kd.R_drew)); exact Kd.R_mono (Kd.R_far (p := ⟨gb201, 1, none⟩) (Kd.R_far (p := ⟨gb201, 0, none⟩) (Kd.R_types HO204.out BK201.out (by decide)) (fun _ hk => hk.2) (.slice Ao10 t202.length co10)) (fun _ hk => hk.2) (.slice Ao9 t205.length co9)) (fun _ hk => hk.1.2), by (with_reducible repeat (first | apply Kd.R_alloc | apply Kd.R_drewN | apply Kd.R_drew)); exact Kd.R_mono (Kd.R_far (p := ⟨gb201, 1, none⟩) (Kd.R_far (p := ⟨gb201, 0, none⟩) (Kd.R_types HO207.out BK201.out (by decide)) (fun _ hk => hk.2) (.slice Ao10 t202.length co10)) (fun _ hk => hk.2) (.slice Ao9 t205.length co9)) (fun _ hk => hk.1.2), mbs_ HB.out⟩

/-! ### scarfjointref05_kind: function 43 -/
def scarfjointref05_kind.f (a0 : Int) : Option (Bool) := if a0 ≥ 0 then (some (decide (a0 ≤ 99))) else (some false)
set_option maxHeartbeats 8000000 in
set_option maxRecDepth 100000 in
theorem scarfjointref05_kind.calls (a0 : Int) (r : Bool) (w : World) (h : scarfjointref05_kind.f a0 = some r) :
  Calls Try.prog 43 #[.int .i64 a0] w fun e w' => e = .returned (.bool r) ∧ Drawn0 w w' := by
 have H : (if a0 ≥ 0 then (some (decide (a0 ≤ 99))) else (some false)) = some r := h
 clear h
 by_cases c2 : a0 ≥ 0
 ·rw [if_pos c2] at H
  have c2b0 : decide (0 ≤ a0) = true := decide_eq_true c2
  clear c2
  obtain rfl := Option.some.inj H
  go_enter Try.func43, Try.ntmps43
  go_wp2
  go_ret
  exact ⟨by first | rfl | (simp; done) | (simp [*]; done), by repeat (first | exact Drawn0.refl _ | apply Drawn0.step)⟩
 ·rw [if_neg c2] at H
  have c2b0 : decide (0 ≤ a0) = false := decide_eq_false c2
  clear c2
  obtain rfl := Option.some.inj H
  go_enter Try.func43, Try.ntmps43
  go_wp2
  go_ret
  exact ⟨by first | rfl | (simp; done) | (simp [*]; done), by repeat (first | exact Drawn0.refl _ | apply Drawn0.step)⟩

/-! ### scarfjointref05_right: function 44 -/
def scarfjointref05_right.f (a0_0 : Int) (a0_1 : Int) (a0_2 : Int) (a1 : Int) : Option (Bool) := (scarfjointref05_kind.f a0_0).bind fun t209 => (if t209 = true then (if a0_1 ≥ 0 then (if a0_1 < a1 then (if a0_2 ≥ 0 then (some (decide (a0_2 < a1))) else (some false)) else (some false)) else (some false)) else (some false))
set_option maxHeartbeats 8000000 in
set_option maxRecDepth 100000 in
theorem scarfjointref05_right.calls (a0_0 : Int) (a0_1 : Int) (a0_2 : Int) (a1 : Int) (r : Bool) (w : World) (h : scarfjointref05_right.f a0_0 a0_1 a0_2 a1 = some r) :
  Calls Try.prog 44 #[.agg #[.int .i64 a0_0, .int .i64 a0_1, .int .i64 a0_2], .int .i64 a1] w fun e w' => e = .returned (.bool r) ∧ Below w.heap.size w w' := by
 have hu65 := Try.underlying65
 have HB := Aside0.mk (Below.refl w.heap.size w)
 have H : ((scarfjointref05_kind.f a0_0).bind fun t209 => (if t209 = true then (if a0_1 ≥ 0 then (if a0_1 < a1 then (if a0_2 ≥ 0 then (some (decide (a0_2 < a1))) else (some false)) else (some false)) else (some false)) else (some false))) = some r := h
 clear h
 replace H := Option.bind_eq_some_iff.mp H
 obtain ⟨t209, A30, H⟩ := H
 replace H : (if t209 = true then (if a0_1 ≥ 0 then (if a0_1 < a1 then (if a0_2 ≥ 0 then (some (decide (a0_2 < a1))) else (some false)) else (some false)) else (some false)) else (some false)) = some r := H
 have A3 := Aside0.mk A30
 clear A30
 by_cases c4 : t209 = true
 ·subst c4
  have H1 : (if a0_1 ≥ 0 then (if a0_1 < a1 then (if a0_2 ≥ 0 then (some (decide (a0_2 < a1))) else (some false)) else (some false)) else (some false)) = some r := by rw [if_pos rfl] at H; exact H
  clear H
  have H := H1
  clear H1
  by_cases c5 : a0_1 ≥ 0
  ·rw [if_pos c5] at H
   have c5b0 : decide (0 ≤ a0_1) = true := decide_eq_true c5
   clear c5
   by_cases c6 : a0_1 < a1
   ·rw [if_pos c6] at H
    have c6b0 : decide (a0_1 < a1) = true := decide_eq_true c6
    clear c6
    by_cases c7 : a0_2 ≥ 0
    ·rw [if_pos c7] at H
     have c7b0 : decide (0 ≤ a0_2) = true := decide_eq_true c7
     clear c7
     obtain rfl := Option.some.inj H
     go_enter Try.func44, Try.ntmps44
     go_wp2_with (first | ((with_reducible refine gate_dst (N := 2) rfl ?_); refine box_event ?hg (N := 2) ?hd (cs := #[.int .i64 a0_0, .int .i64 a0_1, .int .i64 a0_2]) (t := 65) ?hr ?_; (case hd => rfl); (case hg => rfl); (case hr => first | (go_simp; done) | (go_simp; rfl)); intro gb208 hg w8 hbox hb; have BK208 := Aside0.mk (hbox); have GW208 := Aside0.mk (gw_ hg (mb_ HB.out)); have GE208 := Aside0.mk (gw_ hg (mb_ HB.out)); replace HB := Aside0.mk (below_step (mb_ HB.out) hb); clear hb hbox hg; have hcz9_0 := bc0_ BK208.out; have hcz9_1 := bc1_ BK208.out; have hcz9_2 := bc2_ BK208.out; have hfz9_0 := blk_frozen BK208.out 0; have hfz9_1 := blk_frozen BK208.out 1; have hfz9_2 := blk_frozen BK208.out 2) | ((with_reducible refine gate_callee (f := 43) rfl ?_); refine goesL_ (some 7) rfl rfl Try.func43 (by kernel_rfl) rfl #[.int .i64 a0_0] rfl (by (try simp only [List.map_toArray, List.map_cons, List.map_nil]); first | done | rfl | (simp only [List.length_drop, List.length_take]; rfl)) ?_; (with_reducible refine (scarfjointref05_kind.calls a0_0 true _ A3.out).mono ?_); rintro e w' ⟨rfl, ⟨nd, rfl⟩⟩; refine ⟨_, rfl, ?_⟩))
     go_ret
     exact ⟨by first | rfl | (simp [errW_none, errW_some] <;> rfl) | (simp [*, errW_none, errW_some] <;> rfl), mbs_ HB.out⟩
    ·rw [if_neg c7] at H
     have c7b0 : decide (0 ≤ a0_2) = false := decide_eq_false c7
     clear c7
     obtain rfl := Option.some.inj H
     go_enter Try.func44, Try.ntmps44
     go_wp2_with (first | ((with_reducible refine gate_dst (N := 2) rfl ?_); refine box_event ?hg (N := 2) ?hd (cs := #[.int .i64 a0_0, .int .i64 a0_1, .int .i64 a0_2]) (t := 65) ?hr ?_; (case hd => rfl); (case hg => rfl); (case hr => first | (go_simp; done) | (go_simp; rfl)); intro gb208 hg w10 hbox hb; have BK208 := Aside0.mk (hbox); have GW208 := Aside0.mk (gw_ hg (mb_ HB.out)); have GE208 := Aside0.mk (gw_ hg (mb_ HB.out)); replace HB := Aside0.mk (below_step (mb_ HB.out) hb); clear hb hbox hg; have hcz11_0 := bc0_ BK208.out; have hcz11_1 := bc1_ BK208.out; have hcz11_2 := bc2_ BK208.out; have hfz11_0 := blk_frozen BK208.out 0; have hfz11_1 := blk_frozen BK208.out 1; have hfz11_2 := blk_frozen BK208.out 2) | ((with_reducible refine gate_callee (f := 43) rfl ?_); refine goesL_ (some 7) rfl rfl Try.func43 (by kernel_rfl) rfl #[.int .i64 a0_0] rfl (by (try simp only [List.map_toArray, List.map_cons, List.map_nil]); first | done | rfl | (simp only [List.length_drop, List.length_take]; rfl)) ?_; (with_reducible refine (scarfjointref05_kind.calls a0_0 true _ A3.out).mono ?_); rintro e w' ⟨rfl, ⟨nd, rfl⟩⟩; refine ⟨_, rfl, ?_⟩))
     go_ret
     exact ⟨by first | rfl | (simp [errW_none, errW_some] <;> rfl) | (simp [*, errW_none, errW_some] <;> rfl), mbs_ HB.out⟩
   ·rw [if_neg c6] at H
    have c6b0 : decide (a0_1 < a1) = false := decide_eq_false c6
    clear c6
    obtain rfl := Option.some.inj H
    go_enter Try.func44, Try.ntmps44
    go_wp2_with (first | ((with_reducible refine gate_dst (N := 2) rfl ?_); refine box_event ?hg (N := 2) ?hd (cs := #[.int .i64 a0_0, .int .i64 a0_1, .int .i64 a0_2]) (t := 65) ?hr ?_; (case hd => rfl); (case hg => rfl); (case hr => first | (go_simp; done) | (go_simp; rfl)); intro gb208 hg w12 hbox hb; have BK208 := Aside0.mk (hbox); have GW208 := Aside0.mk (gw_ hg (mb_ HB.out)); have GE208 := Aside0.mk (gw_ hg (mb_ HB.out)); replace HB := Aside0.mk (below_step (mb_ HB.out) hb); clear hb hbox hg; have hcz13_0 := bc0_ BK208.out; have hcz13_1 := bc1_ BK208.out; have hcz13_2 := bc2_ BK208.out; have hfz13_0 := blk_frozen BK208.out 0; have hfz13_1 := blk_frozen BK208.out 1; have hfz13_2 := blk_frozen BK208.out 2) | ((with_reducible refine gate_callee (f := 43) rfl ?_); refine goesL_ (some 7) rfl rfl Try.func43 (by kernel_rfl) rfl #[.int .i64 a0_0] rfl (by (try simp only [List.map_toArray, List.map_cons, List.map_nil]); first | done | rfl | (simp only [List.length_drop, List.length_take]; rfl)) ?_; (with_reducible refine (scarfjointref05_kind.calls a0_0 true _ A3.out).mono ?_); rintro e w' ⟨rfl, ⟨nd, rfl⟩⟩; refine ⟨_, rfl, ?_⟩))
    go_ret
    exact ⟨by first | rfl | (simp [errW_none, errW_some] <;> rfl) | (simp [*, errW_none, errW_some] <;> rfl), mbs_ HB.out⟩
  ·rw [if_neg c5] at H
   have c5b0 : decide (0 ≤ a0_1) = false := decide_eq_false c5
   clear c5
   obtain rfl := Option.some.inj H
   go_enter Try.func44, Try.ntmps44
   go_wp2_with (first | ((with_reducible refine gate_dst (N := 2) rfl ?_); refine box_event ?hg (N := 2) ?hd (cs := #[.int .i64 a0_0, .int .i64 a0_1, .int .i64 a0_2]) (t := 65) ?hr ?_; (case hd => rfl); (case hg => rfl); (case hr => first | (go_simp; done) | (go_simp; rfl)); intro gb208 hg w14 hbox hb; have BK208 := Aside0.mk (hbox); have GW208 := Aside0.mk (gw_ hg (mb_ HB.out)); have GE208 := Aside0.mk (gw_ hg (mb_ HB.out)); replace HB := Aside0.mk (below_step (mb_ HB.out) hb); clear hb hbox hg; have hcz15_0 := bc0_ BK208.out; have hcz15_1 := bc1_ BK208.out; have hcz15_2 := bc2_ BK208.out; have hfz15_0 := blk_frozen BK208.out 0; have hfz15_1 := blk_frozen BK208.out 1; have hfz15_2 := blk_frozen BK208.out 2) | ((with_reducible refine gate_callee (f := 43) rfl ?_); refine goesL_ (some 7) rfl rfl Try.func43 (by kernel_rfl) rfl #[.int .i64 a0_0] rfl (by (try simp only [List.map_toArray, List.map_cons, List.map_nil]); first | done | rfl | (simp only [List.length_drop, List.length_take]; rfl)) ?_; (with_reducible refine (scarfjointref05_kind.calls a0_0 true _ A3.out).mono ?_); rintro e w' ⟨rfl, ⟨nd, rfl⟩⟩; refine ⟨_, rfl, ?_⟩))
   go_ret
   exact ⟨by first | rfl | (simp [errW_none, errW_some] <;> rfl) | (simp [*, errW_none, errW_some] <;> rfl), mbs_ HB.out⟩
 ·replace c4 := Bool.eq_false_iff.mpr c4
  subst c4
  have H1 : (some false) = some r := by rw [if_neg (show ¬ (false = true) by decide)] at H; exact H
  clear H
  have H := H1
  clear H1
  obtain rfl := Option.some.inj H
  go_enter Try.func44, Try.ntmps44
  go_wp2_with (first | ((with_reducible refine gate_dst (N := 2) rfl ?_); refine box_event ?hg (N := 2) ?hd (cs := #[.int .i64 a0_0, .int .i64 a0_1, .int .i64 a0_2]) (t := 65) ?hr ?_; (case hd => rfl); (case hg => rfl); (case hr => first | (go_simp; done) | (go_simp; rfl)); intro gb208 hg w16 hbox hb; have BK208 := Aside0.mk (hbox); have GW208 := Aside0.mk (gw_ hg (mb_ HB.out)); have GE208 := Aside0.mk (gw_ hg (mb_ HB.out)); replace HB := Aside0.mk (below_step (mb_ HB.out) hb); clear hb hbox hg; have hcz17_0 := bc0_ BK208.out; have hcz17_1 := bc1_ BK208.out; have hcz17_2 := bc2_ BK208.out; have hfz17_0 := blk_frozen BK208.out 0; have hfz17_1 := blk_frozen BK208.out 1; have hfz17_2 := blk_frozen BK208.out 2) | ((with_reducible refine gate_callee (f := 43) rfl ?_); refine goesL_ (some 7) rfl rfl Try.func43 (by kernel_rfl) rfl #[.int .i64 a0_0] rfl (by (try simp only [List.map_toArray, List.map_cons, List.map_nil]); first | done | rfl | (simp only [List.length_drop, List.length_take]; rfl)) ?_; (with_reducible refine (scarfjointref05_kind.calls a0_0 false _ A3.out).mono ?_); rintro e w' ⟨rfl, ⟨nd, rfl⟩⟩; refine ⟨_, rfl, ?_⟩))
  go_ret
  exact ⟨by first | rfl | (simp [errW_none, errW_some] <;> rfl) | (simp [*, errW_none, errW_some] <;> rfl), mbs_ HB.out⟩

end Go.Proofs.Ytklacpdobpkbbaa.P
