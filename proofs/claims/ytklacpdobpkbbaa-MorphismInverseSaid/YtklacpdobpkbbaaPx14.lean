-- Written by wip/drive.py of this session's repo over the kit's print.py (with contracts of the session's own): not the print's own text
import Derived.Test.YtklacpdobpkbbaaPx0
import Derived.Test.YtklacpdobpkbbaaPx8
import Derived.Test.YtklacpdobpkbbaaPx13
namespace Go.Proofs.Ytklacpdobpkbbaa.P
open Go.RowKit Go.Proofs.YtklacpdobpkbbaaW.PrintWords Go.Proofs.YtklacpdobpkbbaaW.PrintLast Go.Proofs.YtklacpdobpkbbaaW.PrintMore
attribute [local go_sem] max2_int min2_int max_two min_two max_three min_three max_four min_four   -- for this text's walks alone
set_option linter.unusedVariables false
set_option linter.unusedSimpArgs false

/-! ### scarfjointlaw06_few: function 11 -/
def scarfjointlaw06_few.l0 : Nat → List (S29) → Int → Int → List Int → List (S65) → Option (Bool)
 | 0, _, _, _, _, _ => none
 | k + 1, x7, x8, x9, x195000, x195001 => if x9 < x8 then (if 0 ≤ x9 then (if x9 < (x7.length : Int) then ((scarfjointref05_Few.f ((rd_T29 x7 x9).f0.f0) ((rd_T29 x7 x9).f0.f1)).bind fun t198 => (if t198 = true then ((scarfjointref06_Few.f ((rd_T29 x7 x9).f1.f0) ((rd_T29 x7 x9).f1.f1) 140).bind fun t199 => (if t199 = true then (scarfjointlaw06_few.l0 k x7 x8 (wrap64 (x9 + 1)) x195000 x195001) else (some false))) else (some false))) else (none)) else (none)) else ((scarfjointref05_Few.f x195000 x195001).bind fun t195 => (some t195))
def scarfjointlaw06_few.f (k : Nat) (l0_0 : List Int) (l0_1 : List (S65)) (l1 : List (S29)) : Option (Bool) := scarfjointlaw06_few.l0 k l1 (l1.length : Int) 0 l0_0 l0_1
theorem scarfjointlaw06_few.mono_l : ∀ k, (∀ y0 y1 y2 y3 y4, LeO (scarfjointlaw06_few.l0 k y0 y1 y2 y3 y4) (scarfjointlaw06_few.l0 (k + 1) y0 y1 y2 y3 y4))
 | 0 => fun _ _ _ _ _ r h => by simp [scarfjointlaw06_few.l0] at h
 | k + 1 => by
  have ih0 := scarfjointlaw06_few.mono_l k
  ·intro y0 y1 y2 y3 y4
   unfold scarfjointlaw06_few.l0
   repeat' first
   | (with_reducible exact ih0 _ _ _ _ _)
   | (with_reducible exact LeO.refl _)
   | (with_reducible exact LeO.none _)
   | (with_reducible refine LeO.ite ?_ ?_)
   | (with_reducible refine LeO.bind ?_ (fun _ => ?_))
   | exact ih0 _ _ _ _ _
   | exact LeO.none _
   | refine LeO.ite ?_ ?_
   | refine LeO.bind ?_ (fun _ => ?_)
theorem scarfjointlaw06_few.mono : ∀ a0 a1 a2 k, LeO (scarfjointlaw06_few.f k a0 a1 a2) (scarfjointlaw06_few.f (k + 1) a0 a1 a2) := by
 intro a0 a1 a2 k
 have ih0 := scarfjointlaw06_few.mono_l k
 unfold scarfjointlaw06_few.f
 repeat' first
   | (with_reducible exact ih0 _ _ _ _ _)
   | (with_reducible exact LeO.refl _)
   | (with_reducible exact LeO.none _)
   | (with_reducible refine LeO.ite ?_ ?_)
   | (with_reducible refine LeO.bind ?_ (fun _ => ?_))
   | exact ih0 _ _ _ _ _
   | exact LeO.none _
   | refine LeO.ite ?_ ?_
   | refine LeO.bind ?_ (fun _ => ?_)
set_option maxHeartbeats 8000000 in
set_option maxRecDepth 100000 in
theorem scarfjointlaw06_few.calls (k : Nat) (A0_0 : Option Addr) (c0_0 : Nat) (l0_0 : List Int) (A0_1 : Option Addr) (c0_1 : Nat) (l0_1 : List (S65)) (A1 : Option Addr) (c1 : Nat) (l1 : List (S29)) (r : Bool) (w : World) (hr0_0 : Kd.C (Kd.int .i64) w A0_0 l0_0.length l0_0) (hc0_0 : l0_0.length ≤ c0_0) (hr0_1 : Kd.C k65 w A0_1 l0_1.length l0_1) (hc0_1 : l0_1.length ≤ c0_1) (hr1 : Kd.C k29 w A1 l1.length l1) (hc1 : l1.length ≤ c1) (h : scarfjointlaw06_few.f k l0_0 l0_1 l1 = some r) :
  Calls Try.prog 11 #[.agg #[.slice A0_0 l0_0.length c0_0, .slice A0_1 l0_1.length c0_1], .slice A1 l1.length c1] w fun e w' => e = .returned (.bool r) ∧ Below w.heap.size w w' := by
 have hu25 := Try.underlying25
 have hu29 := Try.underlying29
 have hu27 := Try.underlying27
 have HR0_0 := Aside0.mk hr0_0
 have HC0_0 := Aside0.mk hc0_0
 clear hr0_0 hc0_0
 have HR0_1 := Aside0.mk hr0_1
 have HC0_1 := Aside0.mk hc0_1
 clear hr0_1 hc0_1
 have HR1 := Aside0.mk hr1
 have HC1 := Aside0.mk hc1
 clear hr1 hc1
 have HB := Aside0.mk (Below.refl w.heap.size w)
 have H : (scarfjointlaw06_few.l0 k l1 (l1.length : Int) 0 l0_0 l0_1) = some r := h
 clear h
 have H' := Aside0.mk H
 clear H
 go_enter Try.func11, Try.ntmps11
 go_wp2_with (first | ((with_reducible refine gate_dst (N := 2) rfl ?_); refine box_event ?hg (N := 2) ?hd (cs := #[.slice A0_0 l0_0.length c0_0, .slice A0_1 l0_1.length c0_1]) (t := 25) ?hr ?_; (case hd => rfl); (case hg => rfl); (case hr => first | (go_simp; done) | (go_simp; rfl)); intro gb194 hg w3 hbox hb; have BK194 := Aside0.mk (hbox); have GW194 := Aside0.mk (gw_ hg (mb_ HB.out)); have GE194 := Aside0.mk (gw_ hg (mb_ HB.out)); replace HB := Aside0.mk (below_step (mb_ HB.out) hb); clear hb hbox hg))
 go_loopg [9] k (fun kq v9 w' => ∃ (x9_1 : Int), v9 = .int .i64 x9_1 ∧ Aside0 (scarfjointlaw06_few.l0 kq l1 (l1.length : Int) x9_1 l0_0 l0_1 = some r) ∧ Aside0 (kq ≤ k) ∧ Aside0 (w'.heap[gb194]? = some (.cells #[(.slice A0_0 l0_0.length c0_0), (.slice A0_1 l0_1.length c0_1)] 25 (0, 0))) ∧ Aside0 (Below w.heap.size w w'))
 case atStart => exact ⟨(0), (by first | rfl | (simp; done) | (simp [*]; done)), H', ⟨Nat.le_refl _⟩, ⟨bk_ BK194.out⟩, ⟨mbs_ HB.out⟩⟩
 case round =>
  clear H'
  try clear c1
  try clear p2
  obtain ⟨x9_1, rfl, HA, HK1, BK194, HB⟩ := hrel
  cases gk with
  | zero => exact absurd HA.out (by simp [scarfjointlaw06_few.l0])
  | succ k1 =>
   have H := HA.out
   clear HA
   simp only [scarfjointlaw06_few.l0] at H
   by_cases c4 : x9_1 < (l1.length : Int)
   ·rw [if_pos c4] at H
    have c4b0 : decide (x9_1 < (l1.length : Int)) = true := decide_eq_true c4
    clear c4
    by_cases c5 : 0 ≤ x9_1
    ·rw [if_pos c5] at H
     have c5b0 : decide (0 ≤ x9_1) = true := decide_eq_true c5
     clear c5
     by_cases c6 : x9_1 < (l1.length : Int)
     ·rw [if_pos c6] at H
      have c6b0 : decide (x9_1 < (l1.length : Int)) = true := decide_eq_true c6
      clear c6
      replace H := Option.bind_eq_some_iff.mp H
      obtain ⟨t198, A70, H⟩ := H
      replace H : (if t198 = true then ((scarfjointref06_Few.f ((rd_T29 l1 x9_1).f1.f0) ((rd_T29 l1 x9_1).f1.f1) 140).bind fun t199 => (if t199 = true then (scarfjointlaw06_few.l0 k1 l1 (l1.length : Int) (wrap64 (x9_1 + 1)) l0_0 l0_1) else (some false))) else (some false)) = some r := H
      have A7 := Aside0.mk A70
      clear A70
      by_cases c8 : t198 = true
      ·subst c8
       have H1 : ((scarfjointref06_Few.f ((rd_T29 l1 x9_1).f1.f0) ((rd_T29 l1 x9_1).f1.f1) 140).bind fun t199 => (if t199 = true then (scarfjointlaw06_few.l0 k1 l1 (l1.length : Int) (wrap64 (x9_1 + 1)) l0_0 l0_1) else (some false))) = some r := by rw [if_pos rfl] at H; exact H
       clear H
       have H := H1
       clear H1
       replace H := Option.bind_eq_some_iff.mp H
       obtain ⟨t199, A90, H⟩ := H
       replace H : (if t199 = true then (scarfjointlaw06_few.l0 k1 l1 (l1.length : Int) (wrap64 (x9_1 + 1)) l0_0 l0_1) else (some false)) = some r := H
       have A9 := Aside0.mk A90
       clear A90
       by_cases c10 : t199 = true
       ·subst c10
        have H1 : (scarfjointlaw06_few.l0 k1 l1 (l1.length : Int) (wrap64 (x9_1 + 1)) l0_0 l0_1) = some r := by rw [if_pos rfl] at H; exact H
        clear H
        have H := H1
        clear H1
        have H' := Aside0.mk H
        clear H
        have p196 : 0 ≤ (x9_1 : Int) := of_decide_eq_true (by first | (with_reducible assumption) | assumption)
        have q196 : x9_1 < (l1.length : Int) := of_decide_eq_true (by first | (with_reducible assumption) | assumption)
        obtain ⟨ad196, A196_0, c196_0, A196_1, c196_1, A196_2, c196_2, A196_3, c196_3, e196, hx196_0, hx196_1, hx196_2, hx196_3, hl196_0, hi196_0, hl196_1, hi196_1, hl196_2, hi196_2, hl196_3, hi196_3⟩ := at_T29 HR1.out x9_1 p196 q196
        cases e196
        (try replace hx196_0 := (HB.out.cell (World.block_lt_of_cell? w _ hx196_0)).trans hx196_0)
        (try replace hx196_1 := (HB.out.cell (World.block_lt_of_cell? w _ hx196_1)).trans hx196_1)
        (try replace hx196_2 := (HB.out.cell (World.block_lt_of_cell? w _ hx196_2)).trans hx196_2)
        (try replace hx196_3 := (HB.out.cell (World.block_lt_of_cell? w _ hx196_3)).trans hx196_3)
        have HR196_0 := Aside0.mk hi196_0
        have HC196_0 := Aside0.mk hl196_0
        clear hi196_0 hl196_0
        have HR196_1 := Aside0.mk hi196_1
        have HC196_1 := Aside0.mk hl196_1
        clear hi196_1 hl196_1
        have HR196_2 := Aside0.mk hi196_2
        have HC196_2 := Aside0.mk hl196_2
        clear hi196_2 hl196_2
        have HR196_3 := Aside0.mk hi196_3
        have HC196_3 := Aside0.mk hl196_3
        clear hi196_3 hl196_3
        replace p196 := eq_true p196
        replace q196 := eq_true q196
        go_wp2_with (first | ((with_reducible refine gate_dst (N := 6) rfl ?_); refine box_event ?hg (N := 6) ?hd (cs := #[.slice none 0 0, .slice none 0 0, .slice none 0 0, .slice none 0 0]) (t := 29) ?hr ?_; (case hd => rfl); (case hg => rfl); (case hr => first | (go_simp; done) | (go_simp; rfl)); intro gb197 hg w11 hbox hb; have BK197 := Aside0.mk (hbox); have GW197 := Aside0.mk (gw_ hg (mbs_ HB.out)); have GE197 := Aside0.mk (gw_ hg (mbs_ HB.out)); replace HB := Aside0.mk (below_step (mbs_ HB.out) hb); have NB194_197 := Aside0.mk (nb_ hg (bk_ BK194.out)); have NB197_194 := Aside0.mk (nc_ hg (bk_ BK194.out)); replace BK194 := kb_ (bk_ BK194.out) hb; clear hb hbox hg; have hnb12 := NB197_194.out; have hnc12 := NB194_197.out; have hcz13_0 := bc0_ BK197.out; have hcz13_1 := bc1_ BK197.out; have hcz13_2 := bc2_ BK197.out; have hcz13_3 := bc3_ BK197.out; have hfz13_0 := blk_frozen BK197.out 0; have hfz13_1 := blk_frozen BK197.out 1; have hfz13_2 := blk_frozen BK197.out 2; have hfz13_3 := blk_frozen BK197.out 3) | ((with_reducible refine gate_callee (f := 23) rfl ?_); refine goesL_ (some 15) rfl rfl Try.func23 (by kernel_rfl) rfl #[.agg #[.slice A196_0 ((rd_T29 l1 x9_1).f0.f0).length c196_0, .slice A196_1 ((rd_T29 l1 x9_1).f0.f1).length c196_1]] rfl (by (try simp only [List.map_toArray, List.map_cons, List.map_nil]); first | done | rfl | (simp only [List.length_drop, List.length_take]; rfl)) ?_; (with_reducible refine (scarfjointref05_Few.calls _ _ ((rd_T29 l1 x9_1).f0.f0) _ _ ((rd_T29 l1 x9_1).f0.f1) true _ ?side1 ?side2 ?side3 ?side4 A7.out).mono ?_); (case side1 => exact Kd.C_below HR196_0.out (mbs_ HB.out)); (case side2 => exact HC196_0.out); (case side3 => exact Kd.C_below HR196_1.out (mbs_ HB.out)); (case side4 => exact HC196_1.out); rintro e w14 ⟨rfl, hb⟩; refine ⟨_, rfl, ?_⟩; replace BK194 := Aside0.mk (blk_below (g := gb194) (o := .cells #[.slice A0_0 l0_0.length c0_0, .slice A0_1 l0_1.length c0_1] 25 (0, 0)) (by (with_reducible repeat (first | refine blk_drewN ?_ _ | refine blk_drew ?_ | refine blk_alloc ?_ _)); refine blk_far ?_ NB194_197.out _; (with_reducible repeat (first | refine blk_drewN ?_ _ | refine blk_drew ?_ | refine blk_alloc ?_ _)); refine blk_far ?_ NB194_197.out _; (with_reducible repeat (first | refine blk_drewN ?_ _ | refine blk_drew ?_ | refine blk_alloc ?_ _)); refine blk_far ?_ NB194_197.out _; (with_reducible repeat (first | refine blk_drewN ?_ _ | refine blk_drew ?_ | refine blk_alloc ?_ _)); refine blk_far ?_ NB194_197.out _; (with_reducible repeat (first | refine blk_drewN ?_ _ | refine blk_drew ?_ | refine blk_alloc ?_ _)); exact BK194.out) hb); replace BK197 := Aside0.mk (blk_below (g := gb197) (o := .cells #[.slice A196_0 ((rd_T29 l1 x9_1).f0.f0).length c196_0, .slice A196_1 ((rd_T29 l1 x9_1).f0.f1).length c196_1, .slice A196_2 ((rd_T29 l1 x9_1).f1.f0).length c196_2, .slice A196_3 ((rd_T29 l1 x9_1).f1.f1).length c196_3] 29 (0, 0)) (by (with_reducible repeat (first | refine blk_drewN ?_ _ | refine blk_drew ?_ | refine blk_alloc ?_ _)); refine blk_put (cs := #[.slice A196_0 ((rd_T29 l1 x9_1).f0.f0).length c196_0, .slice A196_1 ((rd_T29 l1 x9_1).f0.f1).length c196_1, .slice A196_2 ((rd_T29 l1 x9_1).f1.f0).length c196_2, .slice none 0 0]) ?_ 3 _ rfl; (with_reducible repeat (first | refine blk_drewN ?_ _ | refine blk_drew ?_ | refine blk_alloc ?_ _)); refine blk_put (cs := #[.slice A196_0 ((rd_T29 l1 x9_1).f0.f0).length c196_0, .slice A196_1 ((rd_T29 l1 x9_1).f0.f1).length c196_1, .slice none 0 0, .slice none 0 0]) ?_ 2 _ rfl; (with_reducible repeat (first | refine blk_drewN ?_ _ | refine blk_drew ?_ | refine blk_alloc ?_ _)); refine blk_put (cs := #[.slice A196_0 ((rd_T29 l1 x9_1).f0.f0).length c196_0, .slice none 0 0, .slice none 0 0, .slice none 0 0]) ?_ 1 _ rfl; (with_reducible repeat (first | refine blk_drewN ?_ _ | refine blk_drew ?_ | refine blk_alloc ?_ _)); refine blk_put (cs := #[.slice none 0 0, .slice none 0 0, .slice none 0 0, .slice none 0 0]) ?_ 0 _ rfl; (with_reducible repeat (first | refine blk_drewN ?_ _ | refine blk_drew ?_ | refine blk_alloc ?_ _)); exact BK197.out) hb); replace HB := Aside0.mk (below_step (mbs_ HB.out) hb); (try clear hb); (try clear hb2); (try clear hk); (try clear hi); have hcz15_0 := bc0_ BK197.out; have hcz15_1 := bc1_ BK197.out; have hcz15_2 := bc2_ BK197.out; have hcz15_3 := bc3_ BK197.out; have hfz15_0 := blk_frozen BK197.out 0; have hfz15_1 := blk_frozen BK197.out 1; have hfz15_2 := blk_frozen BK197.out 2; have hfz15_3 := blk_frozen BK197.out 3) | (go_at_call 24; (with_reducible refine (scarfjointref06_Few.calls _ _ ((rd_T29 l1 x9_1).f1.f0) _ _ ((rd_T29 l1 x9_1).f1.f1) 140 true _ ?side1 ?side2 ?side3 ?side4 A9.out).mono ?_); (case side1 => exact mc_ (Kd.C_below HR196_2.out HB.out)); (case side2 => exact HC196_2.out); (case side3 => exact mc_ (Kd.C_below HR196_3.out HB.out)); (case side4 => exact HC196_3.out); rintro e w16 ⟨rfl, hb⟩; replace BK194 := kb_ (bk_ BK194.out) hb; replace BK197 := kb_ (bk_ BK197.out) hb; replace HB := Aside0.mk (below_step (mbs_ HB.out) hb); (try clear hb); (try clear hb2); (try clear hk); (try clear hi)))
        go_roundg k1
        case measure => have := HK1.out; omega
        case rel => exact ⟨(wrap64 (x9_1 + 1)), (by first | rfl | (simp; done) | (simp [*]; done)), H', ⟨by have := HK1.out; omega⟩, ⟨bk_ BK194.out⟩, ⟨mbs_ HB.out⟩⟩
       replace c10 := Bool.eq_false_iff.mpr c10
       subst c10
       have H1 : (some false) = some r := by rw [if_neg (show ¬ (false = true) by decide)] at H; exact H
       clear H
       have H := H1
       clear H1
       obtain rfl := Option.some.inj H
       have p196 : 0 ≤ (x9_1 : Int) := of_decide_eq_true (by first | (with_reducible assumption) | assumption)
       have q196 : x9_1 < (l1.length : Int) := of_decide_eq_true (by first | (with_reducible assumption) | assumption)
       obtain ⟨ad196, A196_0, c196_0, A196_1, c196_1, A196_2, c196_2, A196_3, c196_3, e196, hx196_0, hx196_1, hx196_2, hx196_3, hl196_0, hi196_0, hl196_1, hi196_1, hl196_2, hi196_2, hl196_3, hi196_3⟩ := at_T29 HR1.out x9_1 p196 q196
       cases e196
       (try replace hx196_0 := (HB.out.cell (World.block_lt_of_cell? w _ hx196_0)).trans hx196_0)
       (try replace hx196_1 := (HB.out.cell (World.block_lt_of_cell? w _ hx196_1)).trans hx196_1)
       (try replace hx196_2 := (HB.out.cell (World.block_lt_of_cell? w _ hx196_2)).trans hx196_2)
       (try replace hx196_3 := (HB.out.cell (World.block_lt_of_cell? w _ hx196_3)).trans hx196_3)
       have HR196_0 := Aside0.mk hi196_0
       have HC196_0 := Aside0.mk hl196_0
       clear hi196_0 hl196_0
       have HR196_1 := Aside0.mk hi196_1
       have HC196_1 := Aside0.mk hl196_1
       clear hi196_1 hl196_1
       have HR196_2 := Aside0.mk hi196_2
       have HC196_2 := Aside0.mk hl196_2
       clear hi196_2 hl196_2
       have HR196_3 := Aside0.mk hi196_3
       have HC196_3 := Aside0.mk hl196_3
       clear hi196_3 hl196_3
       replace p196 := eq_true p196
       replace q196 := eq_true q196
       go_wp2_with (first | ((with_reducible refine gate_dst (N := 6) rfl ?_); refine box_event ?hg (N := 6) ?hd (cs := #[.slice none 0 0, .slice none 0 0, .slice none 0 0, .slice none 0 0]) (t := 29) ?hr ?_; (case hd => rfl); (case hg => rfl); (case hr => first | (go_simp; done) | (go_simp; rfl)); intro gb197 hg w17 hbox hb; have BK197 := Aside0.mk (hbox); have GW197 := Aside0.mk (gw_ hg (mbs_ HB.out)); have GE197 := Aside0.mk (gw_ hg (mbs_ HB.out)); replace HB := Aside0.mk (below_step (mbs_ HB.out) hb); have NB194_197 := Aside0.mk (nb_ hg (bk_ BK194.out)); have NB197_194 := Aside0.mk (nc_ hg (bk_ BK194.out)); replace BK194 := kb_ (bk_ BK194.out) hb; clear hb hbox hg; have hnb18 := NB197_194.out; have hnc18 := NB194_197.out; have hcz19_0 := bc0_ BK197.out; have hcz19_1 := bc1_ BK197.out; have hcz19_2 := bc2_ BK197.out; have hcz19_3 := bc3_ BK197.out; have hfz19_0 := blk_frozen BK197.out 0; have hfz19_1 := blk_frozen BK197.out 1; have hfz19_2 := blk_frozen BK197.out 2; have hfz19_3 := blk_frozen BK197.out 3) | ((with_reducible refine gate_callee (f := 23) rfl ?_); refine goesL_ (some 15) rfl rfl Try.func23 (by kernel_rfl) rfl #[.agg #[.slice A196_0 ((rd_T29 l1 x9_1).f0.f0).length c196_0, .slice A196_1 ((rd_T29 l1 x9_1).f0.f1).length c196_1]] rfl (by (try simp only [List.map_toArray, List.map_cons, List.map_nil]); first | done | rfl | (simp only [List.length_drop, List.length_take]; rfl)) ?_; (with_reducible refine (scarfjointref05_Few.calls _ _ ((rd_T29 l1 x9_1).f0.f0) _ _ ((rd_T29 l1 x9_1).f0.f1) true _ ?side1 ?side2 ?side3 ?side4 A7.out).mono ?_); (case side1 => exact Kd.C_below HR196_0.out (mbs_ HB.out)); (case side2 => exact HC196_0.out); (case side3 => exact Kd.C_below HR196_1.out (mbs_ HB.out)); (case side4 => exact HC196_1.out); rintro e w20 ⟨rfl, hb⟩; refine ⟨_, rfl, ?_⟩; replace BK194 := Aside0.mk (blk_below (g := gb194) (o := .cells #[.slice A0_0 l0_0.length c0_0, .slice A0_1 l0_1.length c0_1] 25 (0, 0)) (by (with_reducible repeat (first | refine blk_drewN ?_ _ | refine blk_drew ?_ | refine blk_alloc ?_ _)); refine blk_far ?_ NB194_197.out _; (with_reducible repeat (first | refine blk_drewN ?_ _ | refine blk_drew ?_ | refine blk_alloc ?_ _)); refine blk_far ?_ NB194_197.out _; (with_reducible repeat (first | refine blk_drewN ?_ _ | refine blk_drew ?_ | refine blk_alloc ?_ _)); refine blk_far ?_ NB194_197.out _; (with_reducible repeat (first | refine blk_drewN ?_ _ | refine blk_drew ?_ | refine blk_alloc ?_ _)); refine blk_far ?_ NB194_197.out _; (with_reducible repeat (first | refine blk_drewN ?_ _ | refine blk_drew ?_ | refine blk_alloc ?_ _)); exact BK194.out) hb); replace BK197 := Aside0.mk (blk_below (g := gb197) (o := .cells #[.slice A196_0 ((rd_T29 l1 x9_1).f0.f0).length c196_0, .slice A196_1 ((rd_T29 l1 x9_1).f0.f1).length c196_1, .slice A196_2 ((rd_T29 l1 x9_1).f1.f0).length c196_2, .slice A196_3 ((rd_T29 l1 x9_1).f1.f1).length c196_3] 29 (0, 0)) (by (with_reducible repeat (first | refine blk_drewN ?_ _ | refine blk_drew ?_ | refine blk_alloc ?_ _)); refine blk_put (cs := #[.slice A196_0 ((rd_T29 l1 x9_1).f0.f0).length c196_0, .slice A196_1 ((rd_T29 l1 x9_1).f0.f1).length c196_1, .slice A196_2 ((rd_T29 l1 x9_1).f1.f0).length c196_2, .slice none 0 0]) ?_ 3 _ rfl; (with_reducible repeat (first | refine blk_drewN ?_ _ | refine blk_drew ?_ | refine blk_alloc ?_ _)); refine blk_put (cs := #[.slice A196_0 ((rd_T29 l1 x9_1).f0.f0).length c196_0, .slice A196_1 ((rd_T29 l1 x9_1).f0.f1).length c196_1, .slice none 0 0, .slice none 0 0]) ?_ 2 _ rfl; (with_reducible repeat (first | refine blk_drewN ?_ _ | refine blk_drew ?_ | refine blk_alloc ?_ _)); refine blk_put (cs := #[.slice A196_0 ((rd_T29 l1 x9_1).f0.f0).length c196_0, .slice none 0 0, .slice none 0 0, .slice none 0 0]) ?_ 1 _ rfl; (with_reducible repeat (first | refine blk_drewN ?_ _ | refine blk_drew ?_ | refine blk_alloc ?_ _)); refine blk_put (cs := #[.slice none 0 0, .slice none 0 0, .slice none 0 0, .slice none 0 0]) ?_ 0 _ rfl; (with_reducible repeat (first | refine blk_drewN ?_ _ | refine blk_drew ?_ | refine blk_alloc ?_ _)); exact BK197.out) hb); replace HB := Aside0.mk (below_step (mbs_ HB.out) hb); (try clear hb); (try clear hb2); (try clear hk); (try clear hi); have hcz21_0 := bc0_ BK197.out; have hcz21_1 := bc1_ BK197.out; have hcz21_2 := bc2_ BK197.out; have hcz21_3 := bc3_ BK197.out; have hfz21_0 := blk_frozen BK197.out 0; have hfz21_1 := blk_frozen BK197.out 1; have hfz21_2 := blk_frozen BK197.out 2; have hfz21_3 := blk_frozen BK197.out 3) | (go_at_call 24; (with_reducible refine (scarfjointref06_Few.calls _ _ ((rd_T29 l1 x9_1).f1.f0) _ _ ((rd_T29 l1 x9_1).f1.f1) 140 false _ ?side1 ?side2 ?side3 ?side4 A9.out).mono ?_); (case side1 => exact mc_ (Kd.C_below HR196_2.out HB.out)); (case side2 => exact HC196_2.out); (case side3 => exact mc_ (Kd.C_below HR196_3.out HB.out)); (case side4 => exact HC196_3.out); rintro e w22 ⟨rfl, hb⟩; replace BK194 := kb_ (bk_ BK194.out) hb; replace BK197 := kb_ (bk_ BK197.out) hb; replace HB := Aside0.mk (below_step (mbs_ HB.out) hb); (try clear hb); (try clear hb2); (try clear hk); (try clear hi)))
       go_ret
       exact ⟨by first | rfl | (simp [errW_none, errW_some] <;> rfl) | (simp [*, errW_none, errW_some] <;> rfl), mbs_ HB.out⟩
      replace c8 := Bool.eq_false_iff.mpr c8
      subst c8
      have H1 : (some false) = some r := by rw [if_neg (show ¬ (false = true) by decide)] at H; exact H
      clear H
      have H := H1
      clear H1
      obtain rfl := Option.some.inj H
      have p196 : 0 ≤ (x9_1 : Int) := of_decide_eq_true (by first | (with_reducible assumption) | assumption)
      have q196 : x9_1 < (l1.length : Int) := of_decide_eq_true (by first | (with_reducible assumption) | assumption)
      obtain ⟨ad196, A196_0, c196_0, A196_1, c196_1, A196_2, c196_2, A196_3, c196_3, e196, hx196_0, hx196_1, hx196_2, hx196_3, hl196_0, hi196_0, hl196_1, hi196_1, hl196_2, hi196_2, hl196_3, hi196_3⟩ := at_T29 HR1.out x9_1 p196 q196
      cases e196
      (try replace hx196_0 := (HB.out.cell (World.block_lt_of_cell? w _ hx196_0)).trans hx196_0)
      (try replace hx196_1 := (HB.out.cell (World.block_lt_of_cell? w _ hx196_1)).trans hx196_1)
      (try replace hx196_2 := (HB.out.cell (World.block_lt_of_cell? w _ hx196_2)).trans hx196_2)
      (try replace hx196_3 := (HB.out.cell (World.block_lt_of_cell? w _ hx196_3)).trans hx196_3)
      have HR196_0 := Aside0.mk hi196_0
      have HC196_0 := Aside0.mk hl196_0
      clear hi196_0 hl196_0
      have HR196_1 := Aside0.mk hi196_1
      have HC196_1 := Aside0.mk hl196_1
      clear hi196_1 hl196_1
      have HR196_2 := Aside0.mk hi196_2
      have HC196_2 := Aside0.mk hl196_2
      clear hi196_2 hl196_2
      have HR196_3 := Aside0.mk hi196_3
      have HC196_3 := Aside0.mk hl196_3
      clear hi196_3 hl196_3
      replace p196 := eq_true p196
      replace q196 := eq_true q196
      go_wp2_with (first | ((with_reducible refine gate_dst (N := 6) rfl ?_); refine box_event ?hg (N := 6) ?hd (cs := #[.slice none 0 0, .slice none 0 0, .slice none 0 0, .slice none 0 0]) (t := 29) ?hr ?_; (case hd => rfl); (case hg => rfl); (case hr => first | (go_simp; done) | (go_simp; rfl)); intro gb197 hg w23 hbox hb; have BK197 := Aside0.mk (hbox); have GW197 := Aside0.mk (gw_ hg (mbs_ HB.out)); have GE197 := Aside0.mk (gw_ hg (mbs_ HB.out)); replace HB := Aside0.mk (below_step (mbs_ HB.out) hb); have NB194_197 := Aside0.mk (nb_ hg (bk_ BK194.out)); have NB197_194 := Aside0.mk (nc_ hg (bk_ BK194.out)); replace BK194 := kb_ (bk_ BK194.out) hb; clear hb hbox hg; have hnb24 := NB197_194.out; have hnc24 := NB194_197.out; have hcz25_0 := bc0_ BK197.out; have hcz25_1 := bc1_ BK197.out; have hcz25_2 := bc2_ BK197.out; have hcz25_3 := bc3_ BK197.out; have hfz25_0 := blk_frozen BK197.out 0; have hfz25_1 := blk_frozen BK197.out 1; have hfz25_2 := blk_frozen BK197.out 2; have hfz25_3 := blk_frozen BK197.out 3) | ((with_reducible refine gate_callee (f := 23) rfl ?_); refine goesL_ (some 15) rfl rfl Try.func23 (by kernel_rfl) rfl #[.agg #[.slice A196_0 ((rd_T29 l1 x9_1).f0.f0).length c196_0, .slice A196_1 ((rd_T29 l1 x9_1).f0.f1).length c196_1]] rfl (by (try simp only [List.map_toArray, List.map_cons, List.map_nil]); first | done | rfl | (simp only [List.length_drop, List.length_take]; rfl)) ?_; (with_reducible refine (scarfjointref05_Few.calls _ _ ((rd_T29 l1 x9_1).f0.f0) _ _ ((rd_T29 l1 x9_1).f0.f1) false _ ?side1 ?side2 ?side3 ?side4 A7.out).mono ?_); (case side1 => exact Kd.C_below HR196_0.out (mbs_ HB.out)); (case side2 => exact HC196_0.out); (case side3 => exact Kd.C_below HR196_1.out (mbs_ HB.out)); (case side4 => exact HC196_1.out); rintro e w26 ⟨rfl, hb⟩; refine ⟨_, rfl, ?_⟩; replace BK194 := Aside0.mk (blk_below (g := gb194) (o := .cells #[.slice A0_0 l0_0.length c0_0, .slice A0_1 l0_1.length c0_1] 25 (0, 0)) (by (with_reducible repeat (first | refine blk_drewN ?_ _ | refine blk_drew ?_ | refine blk_alloc ?_ _)); refine blk_far ?_ NB194_197.out _; (with_reducible repeat (first | refine blk_drewN ?_ _ | refine blk_drew ?_ | refine blk_alloc ?_ _)); refine blk_far ?_ NB194_197.out _; (with_reducible repeat (first | refine blk_drewN ?_ _ | refine blk_drew ?_ | refine blk_alloc ?_ _)); refine blk_far ?_ NB194_197.out _; (with_reducible repeat (first | refine blk_drewN ?_ _ | refine blk_drew ?_ | refine blk_alloc ?_ _)); refine blk_far ?_ NB194_197.out _; (with_reducible repeat (first | refine blk_drewN ?_ _ | refine blk_drew ?_ | refine blk_alloc ?_ _)); exact BK194.out) hb); replace BK197 := Aside0.mk (blk_below (g := gb197) (o := .cells #[.slice A196_0 ((rd_T29 l1 x9_1).f0.f0).length c196_0, .slice A196_1 ((rd_T29 l1 x9_1).f0.f1).length c196_1, .slice A196_2 ((rd_T29 l1 x9_1).f1.f0).length c196_2, .slice A196_3 ((rd_T29 l1 x9_1).f1.f1).length c196_3] 29 (0, 0)) (by (with_reducible repeat (first | refine blk_drewN ?_ _ | refine blk_drew ?_ | refine blk_alloc ?_ _)); refine blk_put (cs := #[.slice A196_0 ((rd_T29 l1 x9_1).f0.f0).length c196_0, .slice A196_1 ((rd_T29 l1 x9_1).f0.f1).length c196_1, .slice A196_2 ((rd_T29 l1 x9_1).f1.f0).length c196_2, .slice none 0 0]) ?_ 3 _ rfl; (with_reducible repeat (first | refine blk_drewN ?_ _ | refine blk_drew ?_ | refine blk_alloc ?_ _)); refine blk_put (cs := #[.slice A196_0 ((rd_T29 l1 x9_1).f0.f0).length c196_0, .slice A196_1 ((rd_T29 l1 x9_1).f0.f1).length c196_1, .slice none 0 0, .slice none 0 0]) ?_ 2 _ rfl; (with_reducible repeat (first | refine blk_drewN ?_ _ | refine blk_drew ?_ | refine blk_alloc ?_ _)); refine blk_put (cs := #[.slice A196_0 ((rd_T29 l1 x9_1).f0.f0).length c196_0, .slice none 0 0, .slice none 0 0, .slice none 0 0]) ?_ 1 _ rfl; (with_reducible repeat (first | refine blk_drewN ?_ _ | refine blk_drew ?_ | refine blk_alloc ?_ _)); refine blk_put (cs := #[.slice none 0 0, .slice none 0 0, .slice none 0 0, .slice none 0 0]) ?_ 0 _ rfl; (with_reducible repeat (first | refine blk_drewN ?_ _ | refine blk_drew ?_ | refine blk_alloc ?_ _)); exact BK197.out) hb); replace HB := Aside0.mk (below_step (mbs_ HB.out) hb); (try clear hb); (try clear hb2); (try clear hk); (try clear hi)))
      go_ret
      exact ⟨by first | rfl | (simp [errW_none, errW_some] <;> rfl) | (simp [*, errW_none, errW_some] <;> rfl), mbs_ HB.out⟩
     rw [if_neg c6] at H
     exact absurd H (by simp)
    rw [if_neg c5] at H
    exact absurd H (by simp)
   rw [if_neg c4] at H
   have c4b0 : decide (x9_1 < (l1.length : Int)) = false := decide_eq_false c4
   clear c4
   replace H := Option.bind_eq_some_iff.mp H
   obtain ⟨t195, A270, H⟩ := H
   replace H : (some t195) = some r := H
   have A27 := Aside0.mk A270
   clear A270
   obtain rfl := Option.some.inj H
   have hcz28_0 := bc0_ BK194.out
   have hcz28_1 := bc1_ BK194.out
   have hfz28_0 := blk_frozen BK194.out 0
   have hfz28_1 := blk_frozen BK194.out 1
   go_wp2_with (first | ((with_reducible refine gate_callee (f := 23) rfl ?_); refine goesL_ (some 25) rfl rfl Try.func23 (by kernel_rfl) rfl #[.agg #[.slice A0_0 l0_0.length c0_0, .slice A0_1 l0_1.length c0_1]] rfl (by (try simp only [List.map_toArray, List.map_cons, List.map_nil]); first | done | rfl | (simp only [List.length_drop, List.length_take]; rfl)) ?_; (with_reducible refine (scarfjointref05_Few.calls _ _ l0_0 _ _ l0_1 t195 _ ?side1 ?side2 ?side3 ?side4 A27.out).mono ?_); (case side1 => exact mc_ (Kd.C_below HR0_0.out HB.out)); (case side2 => exact HC0_0.out); (case side3 => exact mc_ (Kd.C_below HR0_1.out HB.out)); (case side4 => exact HC0_1.out); rintro e w29 ⟨rfl, hb⟩; refine ⟨_, rfl, ?_⟩; replace BK194 := kb_ (bk_ BK194.out) hb; replace HB := Aside0.mk (below_step (mbs_ HB.out) hb); (try clear hb); (try clear hb2); (try clear hk); (try clear hi)))
   go_ret
   exact ⟨by first | rfl | (simp [errW_none, errW_some] <;> rfl) | (simp [*, errW_none, errW_some] <;> rfl), mbs_ HB.out⟩

/-! ### scarfjointref06_Valid: function 14 -/
def scarfjointref06_Valid.f (k : Nat) (l0_0 : List Int) (l0_1 : List S65) (l1_0 : List Int) (l1_1 : List S65) (l2_0 l2_1 : List Int) : Option Int :=
  (scarfjointref05_Valid.f k l0_0 l0_1).bind fun e => if e = 0 then ((scarfjointref05_Valid.f k l1_0 l1_1).bind fun e2 => if e2 = 0 then (if l2_0.length = l0_0.length then (if l2_1.length = l0_1.length then morphism_Valid.l0 l0_0 l0_1 l1_0 l1_1 l2_0 l2_1 k 0 else some 20) else some 20) else some e2) else some e
theorem scarfjointref06_Valid.mono : ∀ a0 a1 a2 a3 a4 a5 k, LeO (scarfjointref06_Valid.f k a0 a1 a2 a3 a4 a5) (scarfjointref06_Valid.f (k + 1) a0 a1 a2 a3 a4 a5) := by
  intro a0 a1 a2 a3 a4 a5 k
  unfold scarfjointref06_Valid.f
  repeat' first
      | exact morphism_Valid.mono0 _ _ _ _ _ _ _ _
      | exact scarfjointref05_Valid.mono _ _ _
      | (with_reducible exact LeO.refl _)
      | (with_reducible exact LeO.none _)
      | (with_reducible refine LeO.ite ?_ ?_)
      | (with_reducible refine LeO.bind ?_ (fun _ => ?_))
set_option maxHeartbeats 4000000 in
set_option maxRecDepth 100000 in
theorem scarfjointref06_Valid.calls (k : Nat) (A0_0 : Option Addr) (c0_0 : Nat) (l0_0 : List Int) (A0_1 : Option Addr) (c0_1 : Nat) (l0_1 : List (S65)) (A1_0 : Option Addr) (c1_0 : Nat) (l1_0 : List Int) (A1_1 : Option Addr) (c1_1 : Nat) (l1_1 : List (S65)) (A2_0 : Option Addr) (c2_0 : Nat) (l2_0 : List Int) (A2_1 : Option Addr) (c2_1 : Nat) (l2_1 : List Int) (r : Int) (w : World) (hr0_0 : Kd.C (Kd.int .i64) w A0_0 l0_0.length l0_0) (hc0_0 : l0_0.length ≤ c0_0) (hr0_1 : Kd.C k65 w A0_1 l0_1.length l0_1) (hc0_1 : l0_1.length ≤ c0_1) (hr1_0 : Kd.C (Kd.int .i64) w A1_0 l1_0.length l1_0) (hc1_0 : l1_0.length ≤ c1_0) (hr1_1 : Kd.C k65 w A1_1 l1_1.length l1_1) (hc1_1 : l1_1.length ≤ c1_1) (hr2_0 : Kd.C (Kd.int .i64) w A2_0 l2_0.length l2_0) (hc2_0 : l2_0.length ≤ c2_0) (hr2_1 : Kd.C (Kd.int .i64) w A2_1 l2_1.length l2_1) (hc2_1 : l2_1.length ≤ c2_1) (h : scarfjointref06_Valid.f k l0_0 l0_1 l1_0 l1_1 l2_0 l2_1 = some r) :
    Calls Try.prog 14 #[.agg #[.slice A0_0 l0_0.length c0_0, .slice A0_1 l0_1.length c0_1], .agg #[.slice A1_0 l1_0.length c1_0, .slice A1_1 l1_1.length c1_1], .agg #[.slice A2_0 l2_0.length c2_0, .slice A2_1 l2_1.length c2_1]] w fun e w' => e = .returned (.int .i64 r) ∧ Below w.heap.size w w' := by
  have hu1 := Try.underlying25
  have hu2 := Try.underlying65
  have hu3 := Try.underlying27
  have HR00 := Aside0.mk hr0_0
  have HC00 := Aside0.mk hc0_0
  have HR01 := Aside0.mk hr0_1
  have HC01 := Aside0.mk hc0_1
  have HR10 := Aside0.mk hr1_0
  have HC10 := Aside0.mk hc1_0
  have HR11 := Aside0.mk hr1_1
  have HC11 := Aside0.mk hc1_1
  have HR20 := Aside0.mk hr2_0
  have HR21 := Aside0.mk hr2_1
  clear hr0_0 hc0_0 hr0_1 hc0_1 hr1_0 hc1_0 hr1_1 hc1_1 hr2_0 hc2_0 hr2_1 hc2_1
  have HB := Aside0.mk (Below.refl w.heap.size w)
  unfold scarfjointref06_Valid.f at h
  obtain ⟨W0, hW0⟩ : ∃ W0 : World, W0 = ((w.alloc (.cells #[.slice A0_0 l0_0.length c0_0, .slice A0_1 l0_1.length c0_1] 25)).alloc (.cells #[.slice A1_0 l1_0.length c1_0, .slice A1_1 l1_1.length c1_1] 25)).alloc (.cells #[.slice A2_0 l2_0.length c2_0, .slice A2_1 l2_1.length c2_1] 27) := ⟨_, rfl⟩
  have KB : Aside0 (Below w.heap.size w W0) := ⟨by rw [hW0]; exact (((Below.refl _ _).alloc (Nat.le_refl _) _).alloc (by simp) _).alloc (by simp; omega) _⟩
  have K00 : Aside0 (W0.cell? ⟨w.heap.size, 0, none⟩ = some (.slice A0_0 l0_0.length c0_0)) := ⟨by rw [hW0]; go_simp⟩
  have K01 : Aside0 (W0.cell? ⟨w.heap.size, 1, none⟩ = some (.slice A0_1 l0_1.length c0_1)) := ⟨by rw [hW0]; go_simp⟩
  have K10 : Aside0 (W0.cell? ⟨w.heap.size + 1, 0, none⟩ = some (.slice A1_0 l1_0.length c1_0)) := ⟨by rw [hW0]; go_simp⟩
  have K11 : Aside0 (W0.cell? ⟨w.heap.size + 1, 1, none⟩ = some (.slice A1_1 l1_1.length c1_1)) := ⟨by rw [hW0]; go_simp⟩
  have K20 : Aside0 (W0.cell? ⟨w.heap.size + 2, 0, none⟩ = some (.slice A2_0 l2_0.length c2_0)) := ⟨by rw [hW0]; go_simp⟩
  have K21 : Aside0 (W0.cell? ⟨w.heap.size + 2, 1, none⟩ = some (.slice A2_1 l2_1.length c2_1)) := ⟨by rw [hW0]; go_simp⟩
  have HW0 := Aside0.mk hW0
  clear hW0
  replace h := Option.bind_eq_some_iff.mp h
  obtain ⟨e1, a1, h⟩ := h
  have E1 := Aside0.mk a1
  clear a1
  by_cases c1 : e1 = 0
  case neg =>
    rw [if_neg c1] at h
    obtain rfl := Option.some.inj h
    have b1 : (e1 != 0) = true := bne_iff_ne.mpr c1
    clear c1 h
    go_enter Try.func14, Try.ntmps14
    go_wp2_with (first | (go_at_call 19; (with_reducible refine (scarfjointref05_Valid.calls k _ _ l0_0 _ _ l0_1 e1 _ ?s1 HC00.out ?s2 HC01.out E1.out).mono ?_); (case s1 => rw [← HW0.out]; exact Kd.C_below HR00.out KB.out); (case s2 => rw [← HW0.out]; exact Kd.C_below HR01.out KB.out); rintro e w1 ⟨rfl, hb⟩; rw [← HW0.out] at hb; have n1_ := Aside0.mk (below_step KB.out hb); clear hb HB; have HB := n1_; clear n1_))
    go_ret
    exact ⟨rfl, HB.out⟩
  subst c1
  rw [if_pos rfl] at h
  replace h := Option.bind_eq_some_iff.mp h
  obtain ⟨e2, a2, h⟩ := h
  have E2 := Aside0.mk a2
  clear a2
  by_cases c2 : e2 = 0
  case neg =>
    rw [if_neg c2] at h
    obtain rfl := Option.some.inj h
    have b1 : (e2 != 0) = true := bne_iff_ne.mpr c2
    clear c2 h
    go_enter Try.func14, Try.ntmps14
    go_wp2_with (first | (go_at_call 19; (with_reducible refine (scarfjointref05_Valid.calls k _ _ l0_0 _ _ l0_1 0 _ ?s1 HC00.out ?s2 HC01.out E1.out).mono ?_); (case s1 => rw [← HW0.out]; exact Kd.C_below HR00.out KB.out); (case s2 => rw [← HW0.out]; exact Kd.C_below HR01.out KB.out); rintro e w1 ⟨rfl, hb⟩; rw [← HW0.out] at hb; have n1_ := Aside0.mk (below_step KB.out hb); have k00 := cell_below hb K00.out; have k01 := cell_below hb K01.out; have k10 := cell_below hb K10.out; have k11 := cell_below hb K11.out; have k20 := cell_below hb K20.out; have k21 := cell_below hb K21.out; clear hb HB K00 K01 K10 K11 K20 K21 KB; have HB := n1_; clear n1_) | (go_at_call 19; (with_reducible refine (scarfjointref05_Valid.calls k _ _ l1_0 _ _ l1_1 e2 _ ?s1 HC10.out ?s2 HC11.out E2.out).mono ?_); (case s1 => exact Kd.C_below HR10.out HB.out); (case s2 => exact Kd.C_below HR11.out HB.out); rintro e w2 ⟨rfl, hb⟩; have n1_ := Aside0.mk (below_step HB.out hb); have j00 := cell_below hb k00; have j01 := cell_below hb k01; have j10 := cell_below hb k10; have j11 := cell_below hb k11; have j20 := cell_below hb k20; have j21 := cell_below hb k21; clear hb HB k00 k01 k10 k11 k20 k21; have HB := n1_; clear n1_))
    go_ret
    exact ⟨rfl, HB.out⟩
  subst c2
  rw [if_pos rfl] at h
  have LN : Aside0 (l0_0.length ≤ 9223372036854775807) := ⟨HR00.out.2.1⟩
  by_cases c3 : l2_0.length = l0_0.length
  case neg =>
    rw [if_neg c3] at h
    obtain rfl := Option.some.inj h
    have b1 : (l2_0.length == l0_0.length) = false := beq_eq_false_iff_ne.mpr c3
    have b2 : ((l2_0.length : Int) == (l0_0.length : Int)) = false := beq_eq_false_iff_ne.mpr (by omega)
    have b3 : (l2_0.length != l0_0.length) = true := bne_iff_ne.mpr c3
    have b4 : ((l2_0.length : Int) != (l0_0.length : Int)) = true := bne_iff_ne.mpr (by omega)
    clear c3 h
    go_enter Try.func14, Try.ntmps14
    go_wp2_with (first | (go_at_call 19; (with_reducible refine (scarfjointref05_Valid.calls k _ _ l0_0 _ _ l0_1 0 _ ?s1 HC00.out ?s2 HC01.out E1.out).mono ?_); (case s1 => rw [← HW0.out]; exact Kd.C_below HR00.out KB.out); (case s2 => rw [← HW0.out]; exact Kd.C_below HR01.out KB.out); rintro e w1 ⟨rfl, hb⟩; rw [← HW0.out] at hb; have n1_ := Aside0.mk (below_step KB.out hb); have k00 := cell_below hb K00.out; have k01 := cell_below hb K01.out; have k10 := cell_below hb K10.out; have k11 := cell_below hb K11.out; have k20 := cell_below hb K20.out; have k21 := cell_below hb K21.out; clear hb HB K00 K01 K10 K11 K20 K21 KB; have HB := n1_; clear n1_) | (go_at_call 19; (with_reducible refine (scarfjointref05_Valid.calls k _ _ l1_0 _ _ l1_1 0 _ ?s1 HC10.out ?s2 HC11.out E2.out).mono ?_); (case s1 => exact Kd.C_below HR10.out HB.out); (case s2 => exact Kd.C_below HR11.out HB.out); rintro e w2 ⟨rfl, hb⟩; have n1_ := Aside0.mk (below_step HB.out hb); have j00 := cell_below hb k00; have j01 := cell_below hb k01; have j10 := cell_below hb k10; have j11 := cell_below hb k11; have j20 := cell_below hb k20; have j21 := cell_below hb k21; clear hb HB k00 k01 k10 k11 k20 k21; have HB := n1_; clear n1_))
    go_ret
    exact ⟨rfl, HB.out⟩
  rw [if_pos c3] at h
  have b1 : (l2_0.length == l0_0.length) = true := beq_iff_eq.mpr c3
  have b2 : ((l2_0.length : Int) == (l0_0.length : Int)) = true := beq_iff_eq.mpr (by omega)
  have b3 : (l2_0.length != l0_0.length) = false := by rw [c3]; simp
  have b4 : ((l2_0.length : Int) != (l0_0.length : Int)) = false := by rw [c3]; simp
  have C3 := Aside0.mk c3
  clear c3
  by_cases c4 : l2_1.length = l0_1.length
  case neg =>
    rw [if_neg c4] at h
    obtain rfl := Option.some.inj h
    have d1 : (l2_1.length == l0_1.length) = false := beq_eq_false_iff_ne.mpr c4
    have d2 : ((l2_1.length : Int) == (l0_1.length : Int)) = false := beq_eq_false_iff_ne.mpr (by omega)
    have d3 : (l2_1.length != l0_1.length) = true := bne_iff_ne.mpr c4
    have d4 : ((l2_1.length : Int) != (l0_1.length : Int)) = true := bne_iff_ne.mpr (by omega)
    clear c4 h
    go_enter Try.func14, Try.ntmps14
    go_wp2_with (first | (go_at_call 19; (with_reducible refine (scarfjointref05_Valid.calls k _ _ l0_0 _ _ l0_1 0 _ ?s1 HC00.out ?s2 HC01.out E1.out).mono ?_); (case s1 => rw [← HW0.out]; exact Kd.C_below HR00.out KB.out); (case s2 => rw [← HW0.out]; exact Kd.C_below HR01.out KB.out); rintro e w1 ⟨rfl, hb⟩; rw [← HW0.out] at hb; have n1_ := Aside0.mk (below_step KB.out hb); have k00 := cell_below hb K00.out; have k01 := cell_below hb K01.out; have k10 := cell_below hb K10.out; have k11 := cell_below hb K11.out; have k20 := cell_below hb K20.out; have k21 := cell_below hb K21.out; clear hb HB K00 K01 K10 K11 K20 K21 KB; have HB := n1_; clear n1_) | (go_at_call 19; (with_reducible refine (scarfjointref05_Valid.calls k _ _ l1_0 _ _ l1_1 0 _ ?s1 HC10.out ?s2 HC11.out E2.out).mono ?_); (case s1 => exact Kd.C_below HR10.out HB.out); (case s2 => exact Kd.C_below HR11.out HB.out); rintro e w2 ⟨rfl, hb⟩; have n1_ := Aside0.mk (below_step HB.out hb); have j00 := cell_below hb k00; have j01 := cell_below hb k01; have j10 := cell_below hb k10; have j11 := cell_below hb k11; have j20 := cell_below hb k20; have j21 := cell_below hb k21; clear hb HB k00 k01 k10 k11 k20 k21; have HB := n1_; clear n1_))
    go_ret
    exact ⟨rfl, HB.out⟩
  rw [if_pos c4] at h
  have d1 : (l2_1.length == l0_1.length) = true := beq_iff_eq.mpr c4
  have d2 : ((l2_1.length : Int) == (l0_1.length : Int)) = true := beq_iff_eq.mpr (by omega)
  have d3 : (l2_1.length != l0_1.length) = false := by rw [c4]; simp
  have d4 : ((l2_1.length : Int) != (l0_1.length : Int)) = false := by rw [c4]; simp
  have C4 := Aside0.mk c4
  clear c4
  have H0 := Aside0.mk h
  clear h
  go_enter Try.func14, Try.ntmps14
  go_wp2_with (first | (go_at_call 19; (with_reducible refine (scarfjointref05_Valid.calls k _ _ l0_0 _ _ l0_1 0 _ ?s1 HC00.out ?s2 HC01.out E1.out).mono ?_); (case s1 => rw [← HW0.out]; exact Kd.C_below HR00.out KB.out); (case s2 => rw [← HW0.out]; exact Kd.C_below HR01.out KB.out); rintro e w1 ⟨rfl, hb⟩; rw [← HW0.out] at hb; have n1_ := Aside0.mk (below_step KB.out hb); have k00 := cell_below hb K00.out; have k01 := cell_below hb K01.out; have k10 := cell_below hb K10.out; have k11 := cell_below hb K11.out; have k20 := cell_below hb K20.out; have k21 := cell_below hb K21.out; clear hb HB K00 K01 K10 K11 K20 K21 KB; have HB := n1_; clear n1_) | (go_at_call 19; (with_reducible refine (scarfjointref05_Valid.calls k _ _ l1_0 _ _ l1_1 0 _ ?s1 HC10.out ?s2 HC11.out E2.out).mono ?_); (case s1 => exact Kd.C_below HR10.out HB.out); (case s2 => exact Kd.C_below HR11.out HB.out); rintro e w2 ⟨rfl, hb⟩; have n1_ := Aside0.mk (below_step HB.out hb); have j00 := cell_below hb k00; have j01 := cell_below hb k01; have j10 := cell_below hb k10; have j11 := cell_below hb k11; have j20 := cell_below hb k20; have j21 := cell_below hb k21; clear hb HB k00 k01 k10 k11 k20 k21; have HB := n1_; clear n1_))
  clear b1 b2 b3 b4 d1 d2 d3 d4
  have J00 := Aside0.mk j00
  have J01 := Aside0.mk j01
  have J10 := Aside0.mk j10
  have J11 := Aside0.mk j11
  have J20 := Aside0.mk j20
  have J21 := Aside0.mk j21
  clear j00 j01 j10 j11 j20 j21
  go_loopg [9] k (fun kq v9 w' => ∃ x : Int, v9 = .int .i64 x ∧ Aside0 (0 ≤ x) ∧ Aside0 (morphism_Valid.l0 l0_0 l0_1 l1_0 l1_1 l2_0 l2_1 kq x = some r) ∧ Aside0 (kq ≤ k) ∧ Drawn0 w2 w')
  case atStart => exact ⟨0, rfl, ⟨by omega⟩, H0, ⟨Nat.le_refl _⟩, by repeat (first | exact Drawn0.refl _ | apply Drawn0.step)⟩
  case round =>
    clear H0
    obtain ⟨x, rfl, P1, HA, HK1, ⟨m1, rfl⟩⟩ := hrel
    cases gk with
    | zero => exact absurd HA.out (by simp [morphism_Valid.l0])
    | succ k1 =>
      have H := HA.out
      clear HA
      simp only [morphism_Valid.l0] at H
      by_cases c5 : x < (l2_0.length : Int)
      · rw [if_pos c5] at H
        have c5b : decide (x < (l0_0.length : Int)) = true := decide_eq_true (by have := C3.out; omega)
        obtain ⟨ad0, e0, hx0⟩ := Kd.at_int HR20.out x P1.out c5
        cases e0
        replace hx0 := (HB.out.cell (World.block_lt_of_cell? w _ hx0)).trans hx0
        have Q1 := Aside0.mk c5
        have p1 := eq_true P1.out
        replace c5 := eq_true c5
        have j00 := J00.out
        have j01 := J01.out
        have j10 := J10.out
        have j11 := J11.out
        have j20 := J20.out
        have j21 := J21.out
        by_cases c6 : rd l2_0 x < 0
        · rw [if_pos c6] at H
          obtain rfl := Option.some.inj H
          have c6b : decide (rd l2_0 x < 0) = true := decide_eq_true c6
          clear c6 H
          go_wp2
          go_quiet (fail)
          go_wp2
          go_ret
          exact ⟨rfl, by repeat (first | (with_reducible first | exact HB.out | apply below_alloc | apply pw_below_drewN | apply below_drew1) | exact HB.out)⟩
        rw [if_neg c6] at H
        have c6b : decide (rd l2_0 x < 0) = false := decide_eq_false c6
        by_cases c7 : rd l2_0 x ≥ (l1_0.length : Int)
        · rw [if_pos c7] at H
          obtain rfl := Option.some.inj H
          have c7b : decide ((l1_0.length : Int) ≤ rd l2_0 x) = true := decide_eq_true c7
          clear c6 c7 H
          go_wp2
          go_quiet (fail)
          go_wp2
          go_ret
          exact ⟨rfl, by repeat (first | (with_reducible first | exact HB.out | apply below_alloc | apply pw_below_drewN | apply below_drew1) | exact HB.out)⟩
        rw [if_neg c7] at H
        have c7b : decide ((l1_0.length : Int) ≤ rd l2_0 x) = false := decide_eq_false c7
        by_cases c8 : x < (l0_0.length : Int)
        case neg =>
          rw [if_neg c8] at H
          exact absurd H (by simp)
        rw [if_pos c8] at H
        obtain ⟨ad1, e1, hx1⟩ := Kd.at_int HR10.out (rd l2_0 x) (by omega) (by omega)
        cases e1
        replace hx1 := (HB.out.cell (World.block_lt_of_cell? w _ hx1)).trans hx1
        obtain ⟨ad2, e2, hx2⟩ := Kd.at_int HR00.out x P1.out c8
        cases e2
        replace hx2 := (HB.out.cell (World.block_lt_of_cell? w _ hx2)).trans hx2
        have p2 : (0 ≤ rd l2_0 x) = True := eq_true (by omega)
        have q2 : (rd l2_0 x < (l1_0.length : Int)) = True := eq_true (by omega)
        replace c8 := eq_true c8
        clear c6 c7
        by_cases c9 : rd l1_0 (rd l2_0 x) = rd l0_0 x
        · rw [if_pos c9] at H
          have c9b : (rd l1_0 (rd l2_0 x) == rd l0_0 x) = true := beq_iff_eq.mpr c9
          have c9c : (rd l1_0 (rd l2_0 x) != rd l0_0 x) = false := bne_eq_false_iff_eq.mpr c9
          clear c9
          have H' := Aside0.mk H
          clear H
          go_wp2
          go_quiet (fail)
          go_wp2
          go_quiet (fail)
          go_wp2
          go_roundg k1
          case measure => have := HK1.out; omega
          case rel => exact ⟨x + 1, by rw [wrap_up P1.out Q1.out HR20.out.2.1], ⟨by have := P1.out; omega⟩, H', ⟨by have := HK1.out; omega⟩, by repeat (first | exact Drawn0.refl _ | apply Drawn0.step)⟩
        · rw [if_neg c9] at H
          obtain rfl := Option.some.inj H
          have c9b : (rd l1_0 (rd l2_0 x) == rd l0_0 x) = false := beq_eq_false_iff_ne.mpr c9
          have c9c : (rd l1_0 (rd l2_0 x) != rd l0_0 x) = true := bne_iff_ne.mpr c9
          clear c9 H
          go_wp2
          go_quiet (fail)
          go_wp2
          go_quiet (fail)
          go_wp2
          go_ret
          exact ⟨rfl, by repeat (first | (with_reducible first | exact HB.out | apply below_alloc | apply pw_below_drewN | apply below_drew1) | exact HB.out)⟩
      · rw [if_neg c5] at H
        have c5b : decide (x < (l0_0.length : Int)) = false := decide_eq_false (by have := C3.out; omega)
        have H' := Aside0.mk H
        clear H c5
        have j00 := J00.out
        have j01 := J01.out
        have j10 := J10.out
        have j11 := J11.out
        have j20 := J20.out
        have j21 := J21.out
        go_wp2
        go_loopg [10] k1 (fun kq v10 w' => ∃ x : Int, v10 = .int .i64 x ∧ Aside0 (0 ≤ x) ∧ Aside0 (morphism_Valid.l1 l0_1 l1_1 l2_0 l2_1 kq x = some r) ∧ Aside0 (kq ≤ k1) ∧ Aside0 (Below w2.heap.size w2 w'))
        case atStart => exact ⟨0, rfl, ⟨by omega⟩, H', ⟨Nat.le_refl _⟩, ⟨by repeat (first | (with_reducible first | exact Below.refl _ _ | apply below_alloc | apply pw_below_drewN | apply below_drew1) | exact Below.refl _ _)⟩⟩
        case round =>
        clear H' P1 j00 j01 j10 j11 j20 j21 c5b
        obtain ⟨x, rfl, P1, HA, HK2, HB2⟩ := hrel
        have n1_ := Aside0.mk (below_step HB.out HB2.out)
        have j00 := cell_below HB2.out J00.out
        have j01 := cell_below HB2.out J01.out
        have j10 := cell_below HB2.out J10.out
        have j11 := cell_below HB2.out J11.out
        have j20 := cell_below HB2.out J20.out
        have j21 := cell_below HB2.out J21.out
        clear HB
        have HB := n1_
        clear n1_
        cases gk with
        | zero => exact absurd HA.out (by simp [morphism_Valid.l1])
        | succ k2 =>
        have H := HA.out
        clear HA
        simp only [morphism_Valid.l1] at H
        by_cases c5 : x < (l2_1.length : Int)
        case neg =>
          rw [if_neg c5] at H
          have c5b : decide (x < (l0_1.length : Int)) = false := decide_eq_false (by have := C4.out; omega)
          obtain rfl := Option.some.inj H
          clear c5 H
          go_wp2
          go_ret
          exact ⟨rfl, by repeat (first | (with_reducible first | exact HB.out | apply below_alloc | apply pw_below_drewN | apply below_drew1) | exact HB.out)⟩
        rw [if_pos c5] at H
        have c5b : decide (x < (l0_1.length : Int)) = true := decide_eq_true (by have := C4.out; omega)
        obtain ⟨ad0, e0, hx⟩ := Kd.at_int HR21.out x P1.out c5
        cases e0
        replace hx := (HB.out.cell (World.block_lt_of_cell? w _ hx)).trans hx
        have Q1 := Aside0.mk c5
        have p1 := eq_true P1.out
        replace c5 := eq_true c5
        by_cases c6 : rd l2_1 x < 0
        · rw [if_pos c6] at H
          obtain rfl := Option.some.inj H
          have c6b : decide (rd l2_1 x < 0) = true := decide_eq_true c6
          clear c6 H
          go_wp2
          go_quiet (fail)
          go_wp2
          go_ret
          exact ⟨rfl, by repeat (first | (with_reducible first | exact HB.out | apply below_alloc | apply pw_below_drewN | apply below_drew1) | exact HB.out)⟩
        rw [if_neg c6] at H
        have c6b : decide (rd l2_1 x < 0) = false := decide_eq_false c6
        by_cases c7 : rd l2_1 x ≥ (l1_1.length : Int)
        · rw [if_pos c7] at H
          obtain rfl := Option.some.inj H
          have c7b : decide ((l1_1.length : Int) ≤ rd l2_1 x) = true := decide_eq_true c7
          clear c6 c7 H
          go_wp2
          go_quiet (fail)
          go_wp2
          go_ret
          exact ⟨rfl, by repeat (first | (with_reducible first | exact HB.out | apply below_alloc | apply pw_below_drewN | apply below_drew1) | exact HB.out)⟩
        rw [if_neg c7] at H
        have c7b : decide ((l1_1.length : Int) ≤ rd l2_1 x) = false := decide_eq_false c7
        by_cases c8 : x < (l0_1.length : Int)
        case neg =>
          rw [if_neg c8] at H
          exact absurd H (by simp)
        rw [if_pos c8] at H
        obtain ⟨ad1, e1, hy0, hy1, hy2⟩ := at_T65 HR11.out (rd l2_1 x) (by omega) (by omega)
        cases e1
        replace hy0 := (HB.out.cell (World.block_lt_of_cell? w _ hy0)).trans hy0
        replace hy1 := (HB.out.cell (World.block_lt_of_cell? w _ hy1)).trans hy1
        replace hy2 := (HB.out.cell (World.block_lt_of_cell? w _ hy2)).trans hy2
        obtain ⟨ad2, e2, hx0, hx1, hx2⟩ := at_T65 HR01.out x P1.out c8
        cases e2
        replace hx0 := (HB.out.cell (World.block_lt_of_cell? w _ hx0)).trans hx0
        replace hx1 := (HB.out.cell (World.block_lt_of_cell? w _ hx1)).trans hx1
        replace hx2 := (HB.out.cell (World.block_lt_of_cell? w _ hx2)).trans hx2
        have p2 : (0 ≤ rd l2_1 x) = True := eq_true (by omega)
        have q2 : (rd l2_1 x < (l1_1.length : Int)) = True := eq_true (by omega)
        replace c8 := eq_true c8
        clear c6 c7
        go_wp2
        go_quiet (fail)
        generalize hW1 : World.drewN wr _ = W1
        replace HB := Aside0.mk (below_at hW1 HB.out)
        replace HB2 := Aside0.mk (below_at hW1 HB2.out)
        replace hx0 := cell_at hW1 hx0
        have hx0a := fun o : Obj => cell_alloc_ (o := o) hx0
        have hx0b := fun o o' : Obj => cell_alloc_ (o := o') (cell_alloc_ (o := o) hx0)
        replace hx1 := cell_at hW1 hx1
        have hx1a := fun o : Obj => cell_alloc_ (o := o) hx1
        have hx1b := fun o o' : Obj => cell_alloc_ (o := o') (cell_alloc_ (o := o) hx1)
        replace hx2 := cell_at hW1 hx2
        have hx2a := fun o : Obj => cell_alloc_ (o := o) hx2
        have hx2b := fun o o' : Obj => cell_alloc_ (o := o') (cell_alloc_ (o := o) hx2)
        replace hy0 := cell_at hW1 hy0
        have hy0a := fun o : Obj => cell_alloc_ (o := o) hy0
        have hy0b := fun o o' : Obj => cell_alloc_ (o := o') (cell_alloc_ (o := o) hy0)
        replace hy1 := cell_at hW1 hy1
        have hy1a := fun o : Obj => cell_alloc_ (o := o) hy1
        have hy1b := fun o o' : Obj => cell_alloc_ (o := o') (cell_alloc_ (o := o) hy1)
        replace hy2 := cell_at hW1 hy2
        have hy2a := fun o : Obj => cell_alloc_ (o := o) hy2
        have hy2b := fun o o' : Obj => cell_alloc_ (o := o') (cell_alloc_ (o := o) hy2)
        replace j01 := cell_at hW1 j01
        have j01a := fun o : Obj => cell_alloc_ (o := o) j01
        have j01b := fun o o' : Obj => cell_alloc_ (o := o') (cell_alloc_ (o := o) j01)
        replace j11 := cell_at hW1 j11
        have j11a := fun o : Obj => cell_alloc_ (o := o) j11
        have j11b := fun o o' : Obj => cell_alloc_ (o := o') (cell_alloc_ (o := o) j11)
        replace j21 := cell_at hW1 j21
        have j21a := fun o : Obj => cell_alloc_ (o := o) j21
        have j21b := fun o o' : Obj => cell_alloc_ (o := o') (cell_alloc_ (o := o) j21)
        replace hx := cell_at hW1 hx
        have hxa := fun o : Obj => cell_alloc_ (o := o) hx
        have hxb := fun o o' : Obj => cell_alloc_ (o := o') (cell_alloc_ (o := o) hx)
        replace j20 := cell_at hW1 j20
        have j20b := fun o o' : Obj => cell_alloc_ (o := o') (cell_alloc_ (o := o) j20)
        go_wp2
        go_region
        all_goals as_aux_lemma => (
          by_cases c10 : (rd_T65 l0_1 x).f0 = (rd_T65 l1_1 (rd l2_1 x)).f0
          case neg =>
            rw [if_neg c10] at H
            obtain rfl := Option.some.inj H
            have c10b : ((rd_T65 l0_1 x).f0 == (rd_T65 l1_1 (rd l2_1 x)).f0) = false := beq_eq_false_iff_ne.mpr c10
            have c10c : ((rd_T65 l0_1 x).f0 != (rd_T65 l1_1 (rd l2_1 x)).f0) = true := bne_iff_ne.mpr c10
            clear c10 H
            go_wp2
            go_ret
            exact ⟨rfl, (by repeat (first | (with_reducible first | exact HB.out | apply below_alloc | apply pw_below_drewN | apply below_drew1) | exact HB.out))⟩
          rw [if_pos c10] at H
          have c10b : ((rd_T65 l0_1 x).f0 == (rd_T65 l1_1 (rd l2_1 x)).f0) = true := beq_iff_eq.mpr c10
          have c10c : ((rd_T65 l0_1 x).f0 != (rd_T65 l1_1 (rd l2_1 x)).f0) = false := bne_eq_false_iff_eq.mpr c10
          by_cases c11 : 0 ≤ (rd_T65 l0_1 x).f1 ∧ (rd_T65 l0_1 x).f1 < (l2_0.length : Int) ∧ 0 ≤ (rd_T65 l0_1 x).f2 ∧ (rd_T65 l0_1 x).f2 < (l2_0.length : Int)
          case neg =>
            rw [if_neg c11] at H
            exact absurd H (by simp)
          rw [if_pos c11] at H
          obtain ⟨g1, g2, g3, g4⟩ := c11
          obtain ⟨ad3, e3, hm1⟩ := Kd.at_int HR20.out (rd_T65 l0_1 x).f1 g1 g2
          obtain ⟨ad4, e4, hm2⟩ := Kd.at_int HR20.out (rd_T65 l0_1 x).f2 g3 g4
          obtain rfl : ad3 = ad4 := by rw [e3] at e4; injection e4
          cases e3
          clear e4
          replace hm1 := (HB.out.cell (World.block_lt_of_cell? w _ hm1)).trans hm1
          replace hm2 := (HB.out.cell (World.block_lt_of_cell? w _ hm2)).trans hm2
          have hm1b := fun o o' : Obj => cell_alloc_ (o := o') (cell_alloc_ (o := o) hm1)
          have hm2b := fun o o' : Obj => cell_alloc_ (o := o') (cell_alloc_ (o := o) hm2)
          replace g1 := eq_true g1
          replace g2 := eq_true g2
          replace g3 := eq_true g3
          replace g4 := eq_true g4
          clear c10
          by_cases c12 : rd l2_0 (rd_T65 l0_1 x).f1 = (rd_T65 l1_1 (rd l2_1 x)).f1
          case neg =>
            rw [if_neg c12] at H
            obtain rfl := Option.some.inj H
            have c12b : (rd l2_0 (rd_T65 l0_1 x).f1 == (rd_T65 l1_1 (rd l2_1 x)).f1) = false := beq_eq_false_iff_ne.mpr c12
            have c12c : (rd l2_0 (rd_T65 l0_1 x).f1 != (rd_T65 l1_1 (rd l2_1 x)).f1) = true := bne_iff_ne.mpr c12
            clear c12 H
            as_aux_lemma =>
              go_wp2
              go_quiet (fail)
              go_wp2
              go_ret
              exact ⟨rfl, (by repeat (first | (with_reducible first | exact HB.out | apply below_alloc | apply pw_below_drewN | apply below_drew1) | exact HB.out))⟩
          rw [if_pos c12] at H
          have c12b : (rd l2_0 (rd_T65 l0_1 x).f1 == (rd_T65 l1_1 (rd l2_1 x)).f1) = true := beq_iff_eq.mpr c12
          have c12c : (rd l2_0 (rd_T65 l0_1 x).f1 != (rd_T65 l1_1 (rd l2_1 x)).f1) = false := bne_eq_false_iff_eq.mpr c12
          clear c12
          by_cases c13 : rd l2_0 (rd_T65 l0_1 x).f2 = (rd_T65 l1_1 (rd l2_1 x)).f2
          case neg =>
            rw [if_neg c13] at H
            obtain rfl := Option.some.inj H
            have c13b : (rd l2_0 (rd_T65 l0_1 x).f2 == (rd_T65 l1_1 (rd l2_1 x)).f2) = false := beq_eq_false_iff_ne.mpr c13
            have c13c : (rd l2_0 (rd_T65 l0_1 x).f2 != (rd_T65 l1_1 (rd l2_1 x)).f2) = true := bne_iff_ne.mpr c13
            clear c13 H
            as_aux_lemma =>
              go_wp2
              go_quiet (fail)
              go_wp2
              go_ret
              exact ⟨rfl, (by repeat (first | (with_reducible first | exact HB.out | apply below_alloc | apply pw_below_drewN | apply below_drew1) | exact HB.out))⟩
          rw [if_pos c13] at H
          have c13b : (rd l2_0 (rd_T65 l0_1 x).f2 == (rd_T65 l1_1 (rd l2_1 x)).f2) = true := beq_iff_eq.mpr c13
          have c13c : (rd l2_0 (rd_T65 l0_1 x).f2 != (rd_T65 l1_1 (rd l2_1 x)).f2) = false := bne_eq_false_iff_eq.mpr c13
          clear c13
          have H' := Aside0.mk H
          clear H
          as_aux_lemma =>
            go_wp2
            go_quiet (fail)
            go_wp2
            go_roundg k2
            case measure => have := HK2.out; omega
            case rel => exact ⟨x + 1, by rw [wrap_up P1.out Q1.out HR21.out.2.1], ⟨by have := P1.out; omega⟩, H', ⟨by have := HK2.out; omega⟩, ⟨by repeat (first | (with_reducible first | exact HB2.out | apply below_alloc | apply pw_below_drewN | apply below_drew1) | exact HB2.out)⟩⟩)

end Go.Proofs.Ytklacpdobpkbbaa.P
