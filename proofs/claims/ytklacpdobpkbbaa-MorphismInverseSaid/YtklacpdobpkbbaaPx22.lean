-- Written by wip/drive.py of this session's repo over the kit's print.py (with contracts of the session's own): not the print's own text
import Derived.Test.YtklacpdobpkbbaaPx0
import Derived.Test.YtklacpdobpkbbaaPx14
namespace Go.Proofs.Ytklacpdobpkbbaa.P
open Go.RowKit Go.Proofs.YtklacpdobpkbbaaW.PrintWords Go.Proofs.YtklacpdobpkbbaaW.PrintLast Go.Proofs.YtklacpdobpkbbaaW.PrintMore
attribute [local go_sem] max2_int min2_int max_two min_two max_three min_three max_four min_four   -- for this text's walks alone
set_option linter.unusedVariables false
set_option linter.unusedSimpArgs false

/-! ### scarfjointref06_Through: function 71 -/
def scarfjointref06_Through.l0 : Nat → List Int → List Int → List Int → Int → Option (List Int)
 | 0, _, _, _, _ => none
 | k + 1, x0, x1, x5, x6 => if x6 < (x0.length : Int) then (if 0 ≤ x6 then (if 0 ≤ (rd x0 x6) then (if (rd x0 x6) < (x1.length : Int) then (if x5.length < 17592186044416 then (scarfjointref06_Through.l0 k x0 x1 (x5 ++ [rd x1 (rd x0 x6)]) (wrap64 (x6 + 1))) else (none)) else (none)) else (none)) else (none)) else (some x5)
def scarfjointref06_Through.f (k : Nat) (l0 : List Int) (l1 : List Int) : Option (List Int) := scarfjointref06_Through.l0 k l0 l1 ([] : List Int) 0
theorem scarfjointref06_Through.mono_l : ∀ k, (∀ y0 y1 y2 y3, LeO (scarfjointref06_Through.l0 k y0 y1 y2 y3) (scarfjointref06_Through.l0 (k + 1) y0 y1 y2 y3))
 | 0 => fun _ _ _ _ r h => by simp [scarfjointref06_Through.l0] at h
 | k + 1 => by
  have ih0 := scarfjointref06_Through.mono_l k
  ·intro y0 y1 y2 y3
   unfold scarfjointref06_Through.l0
   repeat' first
   | (with_reducible exact ih0 _ _ _ _)
   | (with_reducible exact LeO.refl _)
   | (with_reducible exact LeO.none _)
   | (with_reducible refine LeO.ite ?_ ?_)
   | (with_reducible refine LeO.bind ?_ (fun _ => ?_))
   | exact ih0 _ _ _ _
   | exact LeO.none _
   | refine LeO.ite ?_ ?_
   | refine LeO.bind ?_ (fun _ => ?_)
theorem scarfjointref06_Through.mono : ∀ a0 a1 k, LeO (scarfjointref06_Through.f k a0 a1) (scarfjointref06_Through.f (k + 1) a0 a1) := by
 intro a0 a1 k
 have ih0 := scarfjointref06_Through.mono_l k
 unfold scarfjointref06_Through.f
 repeat' first
   | (with_reducible exact ih0 _ _ _ _)
   | (with_reducible exact LeO.refl _)
   | (with_reducible exact LeO.none _)
   | (with_reducible refine LeO.ite ?_ ?_)
   | (with_reducible refine LeO.bind ?_ (fun _ => ?_))
   | exact ih0 _ _ _ _
   | exact LeO.none _
   | refine LeO.ite ?_ ?_
   | refine LeO.bind ?_ (fun _ => ?_)
set_option maxHeartbeats 8000000 in
set_option maxRecDepth 100000 in
theorem scarfjointref06_Through.calls (k : Nat) (A0 : Option Addr) (c0 : Nat) (l0 : List Int) (A1 : Option Addr) (c1 : Nat) (l1 : List Int) (r : List Int) (w : World) (hr0 : Kd.C (Kd.int .i64) w A0 l0.length l0) (hc0 : l0.length ≤ c0) (hr1 : Kd.C (Kd.int .i64) w A1 l1.length l1) (hc1 : l1.length ≤ c1) (h : scarfjointref06_Through.f k l0 l1 = some r) :
  Calls Try.prog 71 #[.slice A0 l0.length c0, .slice A1 l1.length c1] w fun e w' => ∃ v0_ : Value, e = .returned (v0_) ∧ Kd.R (Kd.int .i64) 3 w' w.heap.size (fun _ => True) v0_ r ∧ Below w.heap.size w w' := by
 have HR0 := Aside0.mk hr0
 have HC0 := Aside0.mk hc0
 clear hr0 hc0
 have HR1 := Aside0.mk hr1
 have HC1 := Aside0.mk hc1
 clear hr1 hc1
 have HB := Aside0.mk (Below.refl w.heap.size w)
 have H : (scarfjointref06_Through.l0 k l0 l1 ([] : List Int) 0) = some r := h
 clear h
 have H' := Aside0.mk H
 clear H
 go_enter Try.func71, Try.ntmps71
 go_wp2
 go_loopg [5, 6] k (fun kq v5 v6 w' => ∃ (x5_1 : List Int) (x6_1 : Int), v6 = .int .i64 x6_1 ∧ Aside0 (scarfjointref06_Through.l0 kq l0 l1 x5_1 x6_1 = some r) ∧ Aside0 (kq ≤ k) ∧ Aside0 (Kd.R (Kd.int .i64) 3 w' w.heap.size (fun _ => True) v5 x5_1) ∧ Aside0 (Below w.heap.size w w'))
 case atStart => exact ⟨(([] : List Int)), (0), (by first | rfl | (simp; done) | (simp [*]; done)), H', ⟨Nat.le_refl _⟩, ⟨by first | exact Kd.R_nil _ _ _ _ _ | exact Kd.N_nil _ _ _ _ _ | exact Kd.V_nil _ _ _ _ _ | exact Kd.Q_nil _ _ _ _ _ | exact Kd.S_nil _ _ _ _ _⟩, ⟨mb_ HB.out⟩⟩
 case round =>
  clear H'
  try clear c1
  try clear p2
  obtain ⟨x5_1, x6_1, rfl, HA, HK1, HO_5, HB⟩ := hrel
  cases gk with
  | zero => exact absurd HA.out (by simp [scarfjointref06_Through.l0])
  | succ k1 =>
   have H := HA.out
   clear HA
   simp only [scarfjointref06_Through.l0] at H
   by_cases c3 : x6_1 < (l0.length : Int)
   ·rw [if_pos c3] at H
    have c3b0 : decide (x6_1 < (l0.length : Int)) = true := decide_eq_true c3
    clear c3
    by_cases c4 : 0 ≤ x6_1
    ·rw [if_pos c4] at H
     have c4b0 : decide (0 ≤ x6_1) = true := decide_eq_true c4
     clear c4
     by_cases c5 : 0 ≤ (rd l0 x6_1)
     ·rw [if_pos c5] at H
      have c5b0 : decide (0 ≤ (rd l0 x6_1)) = true := decide_eq_true c5
      clear c5
      by_cases c6 : (rd l0 x6_1) < (l1.length : Int)
      ·rw [if_pos c6] at H
       have c6b0 : decide ((rd l0 x6_1) < (l1.length : Int)) = true := decide_eq_true c6
       clear c6
       by_cases c7 : x5_1.length < 17592186044416
       ·rw [if_pos c7] at H
        have LMc7 := Aside0.mk c7
        clear c7
        obtain ⟨y359, hy359⟩ : ∃ y_ : List Int, y_ = (x5_1 ++ [rd l1 (rd l0 x6_1)]) := ⟨_, rfl⟩
        replace H : (scarfjointref06_Through.l0 k1 l0 l1 y359 (wrap64 (x6_1 + 1))) = some r := by first | (rw [hy359]; with_reducible exact H) | (have H2_ := (Option.bind_some _ _).symm.trans H; rw [hy359]; with_reducible exact H2_) | (have H2_ := (Option.bind_some _ _).symm.trans H; with_reducible exact H2_) | with_reducible exact H | (rw [hy359]; exact H) | exact H
        have Ny359 := Aside0.mk hy359
        clear hy359
        have H' := Aside0.mk H
        clear H
        have p357 : 0 ≤ (x6_1 : Int) := of_decide_eq_true (by first | (with_reducible assumption) | assumption)
        have q357 : x6_1 < (l0.length : Int) := of_decide_eq_true (by first | (with_reducible assumption) | assumption)
        obtain ⟨ad357, e357, hx357_0⟩ := Kd.at_int HR0.out x6_1 p357 q357
        cases e357
        (try replace hx357_0 := (HB.out.cell (World.block_lt_of_cell? w _ hx357_0)).trans hx357_0)
        replace p357 := eq_true p357
        replace q357 := eq_true q357
        have p358 : 0 ≤ ((rd l0 x6_1) : Int) := of_decide_eq_true (by first | (with_reducible assumption) | assumption)
        have q358 : (rd l0 x6_1) < (l1.length : Int) := of_decide_eq_true (by first | (with_reducible assumption) | assumption)
        obtain ⟨ad358, e358, hx358_0⟩ := Kd.at_int HR1.out (rd l0 x6_1) p358 q358
        cases e358
        (try replace hx358_0 := (HB.out.cell (World.block_lt_of_cell? w _ hx358_0)).trans hx358_0)
        replace p358 := eq_true p358
        replace q358 := eq_true q358
        go_wp2_with (first | ((with_reducible refine gate_builtin (b := .append) (xs := #[.tmp 13, .tmp 21]) rfl ?_); at_builtin; refine Kd.R_append (Kd.int .i64) (w0 := w) w.heap.size rfl (.tmp 13) (.tmp 21) 22 3 (.int .i64 0) 8 rfl Try.underlying22 info3 rfl (by decide) (by omega) u5 x5_1 (rd l1 (rd l0 x6_1)) [.int .i64 (rd l1 (rd l0 x6_1))] (fun _ => True) (fun _ => False) rfl rfl ?aP (fun _ hk => hk.elim) ?aF ?aO ?aB ?aS ?aL ?_; (case aP => exact rfl); (case aB => exact (mb_ HB.out)); (case aF => exact (fun _ _ => trivial)); (case aO => exact (mr_ HO_5.out)); (case aS => exact (below_size (mb_ HB.out))); (case aL => have := LMc7.out; omega); intro v360 w8 ho hb hg hat; rw [← Ny359.out] at ho; replace HB := Aside0.mk (hb); have HO361 := Aside0.mk (ho); clear HO_5; clear ho hb hg hat))
        go_roundg k1
        case measure => have := HK1.out; omega
        case rel => exact ⟨(y359), (wrap64 (x6_1 + 1)), (by first | rfl | (simp; done) | (simp [*]; done)), H', ⟨by have := HK1.out; omega⟩, ⟨mr_ HO361.out⟩, ⟨mb_ HB.out⟩⟩
       rw [if_neg c7] at H
       exact absurd H (by simp)
      rw [if_neg c6] at H
      exact absurd H (by simp)
     rw [if_neg c5] at H
     exact absurd H (by simp)
    rw [if_neg c4] at H
    exact absurd H (by simp)
   rw [if_neg c3] at H
   have c3b0 : decide (x6_1 < (l0.length : Int)) = false := decide_eq_false c3
   clear c3
   obtain rfl := Option.some.inj H
   go_wp2
   go_ret
   exact ⟨_, by first | rfl | (simp [errW_none, errW_some] <;> rfl) | (simp [*, errW_none, errW_some] <;> rfl), mr_ HO_5.out, mb_ HB.out⟩

/-! ### scarfjointref06_Then: function 51 -/
def scarfjointref06_Then.f (k : Nat) (l0_0 : List Int) (l0_1 : List Int) (l1_0 : List Int) (l1_1 : List Int) : Option (List Int × List Int) := (scarfjointref06_Through.f k l0_0 l1_0).bind fun t365 => ((scarfjointref06_Through.f k l0_1 l1_1).bind fun t368 => (some (t365, t368)))
theorem scarfjointref06_Then.mono : ∀ a0 a1 a2 a3 k, LeO (scarfjointref06_Then.f k a0 a1 a2 a3) (scarfjointref06_Then.f (k + 1) a0 a1 a2 a3) := by
 intro a0 a1 a2 a3 k
 unfold scarfjointref06_Then.f
 repeat' first
   | (with_reducible exact scarfjointref06_Through.mono _ _ _)
   | (with_reducible exact LeO.refl _)
   | (with_reducible exact LeO.none _)
   | (with_reducible refine LeO.ite ?_ ?_)
   | (with_reducible refine LeO.bind ?_ (fun _ => ?_))
   | exact scarfjointref06_Through.mono _ _ _
   | exact LeO.none _
   | refine LeO.ite ?_ ?_
   | refine LeO.bind ?_ (fun _ => ?_)
def scarfjointref06_Then.T1 : Bool × List (List Nat × List Nat) := (true, [([], []), ([0], [0]), ([], []), ([2], [2]), ([1, 3], [1, 3]), ([], []), ([5], [5]), ([], []), ([7], [7]), ([6, 8, 4], [6, 8]), ([4, 9], [4, 9]), ([10, 9, 0, 1, 2, 3, 4, 5, 6, 7, 8, 9, 10], [10])])
def scarfjointref06_Then.B1 : List Nat := [0, 1, 0, 4, 15, 0, 32, 0, 128, 511, 1023, 2047]
theorem scarfjointref06_Then.tab1 : rtab .any (opsOf Try.f51 1) = scarfjointref06_Then.T1 := by kernel_rfl
theorem scarfjointref06_Then.bits1 : waitsOk scarfjointref06_Then.T1.2 scarfjointref06_Then.B1 = true := by kernel_rfl
set_option maxHeartbeats 8000000 in
set_option maxRecDepth 100000 in
theorem scarfjointref06_Then.calls (k : Nat) (A0_0 : Option Addr) (c0_0 : Nat) (l0_0 : List Int) (A0_1 : Option Addr) (c0_1 : Nat) (l0_1 : List Int) (A1_0 : Option Addr) (c1_0 : Nat) (l1_0 : List Int) (A1_1 : Option Addr) (c1_1 : Nat) (l1_1 : List Int) (r1 : List Int) (r2 : List Int) (w : World) (hr0_0 : Kd.C (Kd.int .i64) w A0_0 l0_0.length l0_0) (hc0_0 : l0_0.length ≤ c0_0) (hr0_1 : Kd.C (Kd.int .i64) w A0_1 l0_1.length l0_1) (hc0_1 : l0_1.length ≤ c0_1) (hr1_0 : Kd.C (Kd.int .i64) w A1_0 l1_0.length l1_0) (hc1_0 : l1_0.length ≤ c1_0) (hr1_1 : Kd.C (Kd.int .i64) w A1_1 l1_1.length l1_1) (hc1_1 : l1_1.length ≤ c1_1) (h : scarfjointref06_Then.f k l0_0 l0_1 l1_0 l1_1 = some (r1, r2)) :
  Calls Try.prog 51 #[.agg #[.slice A0_0 l0_0.length c0_0, .slice A0_1 l0_1.length c0_1], .agg #[.slice A1_0 l1_0.length c1_0, .slice A1_1 l1_1.length c1_1]] w fun e w' => ∃ v0_ v1_ : Value, e = .returned (.agg #[v0_, v1_]) ∧ Kd.R (Kd.int .i64) 3 w' w.heap.size (fun k_ => some k_ ≠ (v1_ : Value).ownBlock) v0_ r1 ∧ Kd.R (Kd.int .i64) 3 w' w.heap.size (fun k_ => some k_ ≠ (v0_ : Value).ownBlock) v1_ r2 ∧ Below w.heap.size w w' := by
 have hu27 := Try.underlying27
 have HR0_0 := Aside0.mk hr0_0
 have HC0_0 := Aside0.mk hc0_0
 clear hr0_0 hc0_0
 have HR0_1 := Aside0.mk hr0_1
 have HC0_1 := Aside0.mk hc0_1
 clear hr0_1 hc0_1
 have HR1_0 := Aside0.mk hr1_0
 have HC1_0 := Aside0.mk hc1_0
 clear hr1_0 hc1_0
 have HR1_1 := Aside0.mk hr1_1
 have HC1_1 := Aside0.mk hc1_1
 clear hr1_1 hc1_1
 have HB := Aside0.mk (Below.refl w.heap.size w)
 have H : ((scarfjointref06_Through.f k l0_0 l1_0).bind fun t365 => ((scarfjointref06_Through.f k l0_1 l1_1).bind fun t368 => (some (t365, t368)))) = some (r1, r2) := h
 clear h
 replace H := Option.bind_eq_some_iff.mp H
 obtain ⟨t365, A30, H⟩ := H
 replace H : ((scarfjointref06_Through.f k l0_1 l1_1).bind fun t368 => (some (t365, t368))) = some (r1, r2) := H
 have A3 := Aside0.mk A30
 clear A30
 replace H := Option.bind_eq_some_iff.mp H
 obtain ⟨t368, A40, H⟩ := H
 replace H : (some (t365, t368)) = some (r1, r2) := H
 have A4 := Aside0.mk A40
 clear A40
 simp only [Option.some.injEq, Prod.mk.injEq] at H
 obtain ⟨rfl, rfl⟩ := H
 go_enter Try.func51, Try.ntmps51
 try go_wp2_with (first | ((with_reducible refine gate_dst (N := 2) rfl ?_); refine box_event ?hg (N := 2) ?hd (cs := #[.slice A0_0 l0_0.length c0_0, .slice A0_1 l0_1.length c0_1]) (t := 27) ?hr ?_; (case hd => rfl); (case hg => rfl); (case hr => first | (go_simp; done) | (go_simp; rfl)); intro gb362 hg w5 hbox hb; have BK362 := Aside0.mk (hbox); have GW362 := Aside0.mk (gw_ hg (mb_ HB.out)); have GE362 := Aside0.mk (gw_ hg (mb_ HB.out)); replace HB := Aside0.mk (below_step (mb_ HB.out) hb); clear hb hbox hg) | ((with_reducible refine gate_dst (N := 3) rfl ?_); refine box_event ?hg (N := 3) ?hd (cs := #[.slice A1_0 l1_0.length c1_0, .slice A1_1 l1_1.length c1_1]) (t := 27) ?hr ?_; (case hd => rfl); (case hg => rfl); (case hr => first | (go_simp; done) | (go_simp; rfl)); intro gb363 hg w6 hbox hb; have BK363 := Aside0.mk (hbox); have GW363 := Aside0.mk (gw_ hg (mbs_ HB.out)); have GE363 := Aside0.mk (gw_ hg (mbs_ HB.out)); replace HB := Aside0.mk (below_step (mbs_ HB.out) hb); have NB362_363 := Aside0.mk (nb_ hg (bk_ BK362.out)); have NB363_362 := Aside0.mk (nc_ hg (bk_ BK362.out)); replace BK362 := kb_ (bk_ BK362.out) hb; clear hb hbox hg) | ((with_reducible refine gate_dst (N := 4) rfl ?_); refine box_event ?hg (N := 4) ?hd (cs := #[.slice none 0 0, .slice none 0 0]) (t := 27) ?hr ?_; (case hd => rfl); (case hg => rfl); (case hr => first | (go_simp; done) | (go_simp; rfl)); intro gb364 hg w7 hbox hb; have BK364 := Aside0.mk (hbox); have GW364 := Aside0.mk (gw_ hg (mbs_ HB.out)); have GE364 := Aside0.mk (gw_ hg (mbs_ HB.out)); replace HB := Aside0.mk (below_step (mbs_ HB.out) hb); have NB362_364 := Aside0.mk (nb_ hg (bk_ BK362.out)); have NB364_362 := Aside0.mk (nc_ hg (bk_ BK362.out)); replace BK362 := kb_ (bk_ BK362.out) hb; have NB363_364 := Aside0.mk (nb_ hg (bk_ BK363.out)); have NB364_363 := Aside0.mk (nc_ hg (bk_ BK363.out)); replace BK363 := kb_ (bk_ BK363.out) hb; clear hb hbox hg))
 replace BK362 := Aside0.mk (blk_drew BK362.out)
 replace BK363 := Aside0.mk (blk_drew BK363.out)
 replace BK364 := Aside0.mk (blk_drew BK364.out)
 replace HB := Aside0.mk (below_drew1 HB.out)
 refine start_ (n := 12) (S := fun w' => w'.cell? ⟨gb362, 0, none⟩ = some (.slice A0_0 l0_0.length c0_0) ∧ w'.cell? ⟨gb362, 1, none⟩ = some (.slice A0_1 l0_1.length c0_1) ∧ w'.cell? ⟨gb363, 0, none⟩ = some (.slice A1_0 l1_0.length c1_0) ∧ w'.cell? ⟨gb363, 1, none⟩ = some (.slice A1_1 l1_1.length c1_1)) (ds := []) #[false, false, false, false, false, false, false, false, false, false, false, false] (by kernel_rfl) rfl rfl ⟨(blk_cell BK362.out 0).trans rfl, (blk_cell BK362.out 1).trans rfl, (blk_cell BK363.out 0).trans rfl, (blk_cell BK363.out 1).trans rfl⟩ (fun hHeld => ?_); refine with_tabW scarfjointref06_Then.tab1 scarfjointref06_Then.bits1 (fun HT_ HW_ => ?_)
 generalize w7.drew = w8 at BK362 BK363 BK364 HB hHeld ⊢
 refine pw_ (i := 0) (N := some 5) (bm_ 12 1) rfl HT_.out ?_
 refine pw_ (i := 2) (N := some 7) (bm_ 12 5) rfl HT_.out ?_
 refine pw_ (i := 5) (N := some 10) (bm_ 12 37) rfl HT_.out ?_
 refine pw_ (i := 7) (N := some 12) (bm_ 12 165) rfl HT_.out ?_
 refine tw_ (i := 1) (N := some 6) (bm_ 12 167) rfl HT_.out HW_.out hHeld ?_
 refine tw_ (i := 3) (N := some 8) (bm_ 12 175) rfl HT_.out HW_.out hHeld ?_
 refine tw_ (i := 6) (N := some 11) (bm_ 12 239) rfl HT_.out HW_.out hHeld ?_
 refine tw_ (i := 8) (N := some 13) (bm_ 12 495) rfl HT_.out HW_.out hHeld ?_
 refine one_ (i := 4) (N := some 9) (bm_ 12 511) rfl rfl (one_of HT_.out (by kernel_rfl)) (by decide) (fun K hK => ?_)
 refine goes_ Try.func71 (by kernel_rfl) rfl #[.slice A0_0 l0_0.length c0_0, .slice A1_0 l1_0.length c1_0] (by rfl) rfl rfl (by (try simp only [List.map_toArray, List.map_cons, List.map_nil]); first | done | rfl | (simp only [List.length_drop, List.length_take]; rfl)) ?_
 with_reducible refine (scarfjointref06_Through.calls k _ _ l0_0 _ _ l1_0 t365 _ ?side1 ?side2 ?side3 ?side4 A3.out).mono ?_
 (case side1 => exact mc_ (Kd.C_below HR0_0.out HB.out))
 (case side2 => exact HC0_0.out)
 (case side3 => exact mc_ (Kd.C_below HR1_0.out HB.out))
 (case side4 => exact HC1_0.out)
 rintro e w9 ⟨v366, rfl, ho0, hb⟩
 refine ⟨_, rfl, ?_⟩
 have HO367 := Aside0.mk (Kd.R_lower ho0 (below_size (mbs_ HB.out)))
 replace BK362 := kb_ (bk_ BK362.out) hb
 replace BK363 := kb_ (bk_ BK363.out) hb
 replace BK364 := kb_ (bk_ BK364.out) hb
 replace HB := Aside0.mk (below_step (mbs_ HB.out) hb)
 (try clear hb)
 (try clear hb2)
 (try clear hk)
 (try clear hi)
 (try clear ho0)
 refine hK.out _ _ ⟨(blk_cell BK362.out 0).trans rfl, (blk_cell BK362.out 1).trans rfl, (blk_cell BK363.out 0).trans rfl, (blk_cell BK363.out 1).trans rfl⟩ (fun hHeld => ?_)
 clear hK K
 refine norm_ (a' := ?_) ?_ ?_
 rotate_left
 ·show Act.put _ (some 9) _ = _
  simp only [Act.put, List.setIfInBounds_toArray, List.set_cons_zero, List.set_cons_succ, i64_w, i32_w]
  rfl
 refine one_ (i := 9) (N := some 14) (bm_ 12 1023) rfl rfl (one_of HT_.out (by kernel_rfl)) (by decide) (fun K hK => ?_)
 refine goes_ Try.func71 (by kernel_rfl) rfl #[.slice A0_1 l0_1.length c0_1, .slice A1_1 l1_1.length c1_1] (by rfl) rfl rfl (by (try simp only [List.map_toArray, List.map_cons, List.map_nil]); first | done | rfl | (simp only [List.length_drop, List.length_take]; rfl)) ?_
 with_reducible refine (scarfjointref06_Through.calls k _ _ l0_1 _ _ l1_1 t368 _ ?side1 ?side2 ?side3 ?side4 A4.out).mono ?_
 (case side1 => exact mc_ (Kd.C_below HR0_1.out HB.out))
 (case side2 => exact HC0_1.out)
 (case side3 => exact mc_ (Kd.C_below HR1_1.out HB.out))
 (case side4 => exact HC1_1.out)
 rintro e w10 ⟨v369, rfl, ho0, hb⟩
 refine ⟨_, rfl, ?_⟩
 have HO370 := Aside0.mk (Kd.R_lower (Kd.R_new' ho0 (Kd.R_lt (mr_ HO367.out))) (below_size (mbs_ HB.out)))
 replace HO367 := Aside0.mk (Kd.R_elder' (mr_ HO367.out) (Kd.R_base ho0) hb)
 replace BK362 := kb_ (bk_ BK362.out) hb
 replace BK363 := kb_ (bk_ BK363.out) hb
 replace BK364 := kb_ (bk_ BK364.out) hb
 replace HB := Aside0.mk (below_step (mbs_ HB.out) hb)
 (try clear hb)
 (try clear hb2)
 (try clear hk)
 (try clear hi)
 (try clear ho0)
 obtain ⟨Ao11, co11, eo11⟩ := Kd.R_slice HO370.out
 (first | subst eo11 | (injection eo11 with f1_ f2_ f3_; have f4_ := f1_.symm; have f5_ := f3_.symm; clear f1_ f2_ f3_; subst f4_; subst f5_))
 obtain ⟨Ao12, co12, eo12⟩ := Kd.R_slice HO367.out
 (first | subst eo12 | (injection eo12 with f1_ f2_ f3_; have f4_ := f1_.symm; have f5_ := f3_.symm; clear f1_ f2_ f3_; subst f4_; subst f5_))
 refine hK.out _ _ ⟨(blk_cell BK362.out 0).trans rfl, (blk_cell BK362.out 1).trans rfl, (blk_cell BK363.out 0).trans rfl, (blk_cell BK363.out 1).trans rfl⟩ (fun hHeld => ?_)
 clear hK K
 refine norm_ (a' := ?_) ?_ ?_
 rotate_left
 ·show Act.put _ (some 14) _ = _
  simp only [Act.put, List.setIfInBounds_toArray, List.set_cons_zero, List.set_cons_succ, i64_w, i32_w]
  rfl
 refine pw_ (i := 10) (N := some 15) (bm_ 12 2047) rfl HT_.out ?_
 refine one_ (i := 11) (N := none) (bm_ 12 4095) rfl rfl (one_of HT_.out (by kernel_rfl)) (by decide) (fun K hK => ?_)
 have hs13 : w10.cell? ⟨gb364, 0, none⟩ = some (.slice none 0 0) := (blk_cell BK364.out 0).trans rfl
 have hfs13 := blk_frozen BK364.out 0
 have hns13_0 := NB362_364.out
 have hns13_1 := NB363_364.out
 have hms13_0 := NB364_362.out
 have hms13_1 := NB364_363.out
 have hs14 : w10.cell? ⟨gb364, 1, none⟩ = some (.slice none 0 0) := (blk_cell BK364.out 1).trans rfl
 have hfs14 := blk_frozen BK364.out 1
 have hns14_0 := NB362_364.out
 have hns14_1 := NB363_364.out
 have hms14_0 := NB364_362.out
 have hms14_1 := NB364_363.out
 refine skip_ (w1 := ?_) (by rfl) rfl ?_ ?_
 rotate_left
 ·go_simp
  rfl
 refine hK.out _ _ ⟨((cell_far (p := ⟨gb364, _, none⟩) NB362_364.out _).trans (((cell_far (p := ⟨gb364, _, none⟩) NB362_364.out _).trans (hHeld.1)))), ((cell_far (p := ⟨gb364, _, none⟩) NB362_364.out _).trans (((cell_far (p := ⟨gb364, _, none⟩) NB362_364.out _).trans (hHeld.2.1)))), ((cell_far (p := ⟨gb364, _, none⟩) NB363_364.out _).trans (((cell_far (p := ⟨gb364, _, none⟩) NB363_364.out _).trans (hHeld.2.2.1)))), ((cell_far (p := ⟨gb364, _, none⟩) NB363_364.out _).trans (((cell_far (p := ⟨gb364, _, none⟩) NB363_364.out _).trans (hHeld.2.2.2))))⟩ (fun hHeld => ?_)
 clear hK K
 refine done_ (done_of HT_.out (by kernel_rfl)) ?_
 try go_wp2
 refine bodyPost_ret (results_cell_row rfl _ _ gb364 27 #[.slice Ao12 t365.length co12, .slice Ao11 t368.length co11] (0, 0) _ rfl (by (with_reducible repeat (first | refine blk_drewN ?_ _ | refine blk_drew ?_ | refine blk_alloc ?_ _)); refine blk_put (cs := #[.slice Ao12 t365.length co12, .slice none 0 0]) ?_ 1 _ rfl; (with_reducible repeat (first | refine blk_drewN ?_ _ | refine blk_drew ?_ | refine blk_alloc ?_ _)); refine blk_put (cs := #[.slice none 0 0, .slice none 0 0]) ?_ 0 _ rfl; (with_reducible repeat (first | refine blk_drewN ?_ _ | refine blk_drew ?_ | refine blk_alloc ?_ _)); exact BK364.out) Try.underlying27 rfl (by kernel_rfl)) rfl ?_
 exact ⟨_, _, by first | rfl | (simp [errW_none, errW_some] <;> rfl) | (simp [*, errW_none, errW_some] <;> rfl), by (with_reducible repeat (first | apply Kd.R_alloc | apply Kd.R_drewN | apply Kd.R_drew)); exact Kd.R_mono (Kd.R_far (p := ⟨gb364, 1, none⟩) (Kd.R_far (p := ⟨gb364, 0, none⟩) (Kd.R_types HO367.out BK364.out (by decide)) (fun _ hk => hk.2) (.slice Ao12 t365.length co12)) (fun _ hk => hk.2) (.slice Ao11 t368.length co11)) (fun _ hk => hk.1.2), by (with_reducible repeat (first | apply Kd.R_alloc | apply Kd.R_drewN | apply Kd.R_drew)); exact Kd.R_mono (Kd.R_far (p := ⟨gb364, 1, none⟩) (Kd.R_far (p := ⟨gb364, 0, none⟩) (Kd.R_types HO370.out BK364.out (by decide)) (fun _ hk => hk.2) (.slice Ao12 t365.length co12)) (fun _ hk => hk.2) (.slice Ao11 t368.length co11)) (fun _ hk => hk.1.2), mbs_ HB.out⟩

/-! ### scarfjointref06_Compose: function 30 -/
def scarfjointref06_Compose.f (k : Nat) (l0_0 : List Int) (l0_1 : List (S65)) (l1_0 : List Int) (l1_1 : List (S65)) (l2_0 : List Int) (l2_1 : List (S65)) (l3_0 : List Int) (l3_1 : List Int) (l4_0 : List Int) (l4_1 : List Int) : Option (List Int × List Int × Int) := (scarfjointref06_Valid.f k l0_0 l0_1 l1_0 l1_1 l3_0 l3_1).bind fun t377 => (if t377 = 0 then ((scarfjointref06_Valid.f k l1_0 l1_1 l2_0 l2_1 l4_0 l4_1).bind fun t378 => (if t378 = 0 then ((scarfjointref06_Then.f k l3_0 l3_1 l4_0 l4_1).bind fun bt379 => (some (bt379.1, bt379.2, 0))) else (some (([] : List Int), ([] : List Int), t378)))) else (some (([] : List Int), ([] : List Int), t377)))
theorem scarfjointref06_Compose.mono : ∀ a0 a1 a2 a3 a4 a5 a6 a7 a8 a9 k, LeO (scarfjointref06_Compose.f k a0 a1 a2 a3 a4 a5 a6 a7 a8 a9) (scarfjointref06_Compose.f (k + 1) a0 a1 a2 a3 a4 a5 a6 a7 a8 a9) := by
 intro a0 a1 a2 a3 a4 a5 a6 a7 a8 a9 k
 unfold scarfjointref06_Compose.f
 repeat' first
   | (with_reducible exact scarfjointref06_Then.mono _ _ _ _ _)
   | (with_reducible exact scarfjointref06_Valid.mono _ _ _ _ _ _ _)
   | (with_reducible exact LeO.refl _)
   | (with_reducible exact LeO.none _)
   | (with_reducible refine LeO.ite ?_ ?_)
   | (with_reducible refine LeO.bind ?_ (fun _ => ?_))
   | exact scarfjointref06_Then.mono _ _ _ _ _
   | exact scarfjointref06_Valid.mono _ _ _ _ _ _ _
   | exact LeO.none _
   | refine LeO.ite ?_ ?_
   | refine LeO.bind ?_ (fun _ => ?_)
set_option maxHeartbeats 8000000 in
set_option maxRecDepth 100000 in
theorem scarfjointref06_Compose.calls (k : Nat) (A0_0 : Option Addr) (c0_0 : Nat) (l0_0 : List Int) (A0_1 : Option Addr) (c0_1 : Nat) (l0_1 : List (S65)) (A1_0 : Option Addr) (c1_0 : Nat) (l1_0 : List Int) (A1_1 : Option Addr) (c1_1 : Nat) (l1_1 : List (S65)) (A2_0 : Option Addr) (c2_0 : Nat) (l2_0 : List Int) (A2_1 : Option Addr) (c2_1 : Nat) (l2_1 : List (S65)) (A3_0 : Option Addr) (c3_0 : Nat) (l3_0 : List Int) (A3_1 : Option Addr) (c3_1 : Nat) (l3_1 : List Int) (A4_0 : Option Addr) (c4_0 : Nat) (l4_0 : List Int) (A4_1 : Option Addr) (c4_1 : Nat) (l4_1 : List Int) (r1 : List Int) (r2 : List Int) (r3 : Int) (w : World) (hr0_0 : Kd.C (Kd.int .i64) w A0_0 l0_0.length l0_0) (hc0_0 : l0_0.length ≤ c0_0) (hr0_1 : Kd.C k65 w A0_1 l0_1.length l0_1) (hc0_1 : l0_1.length ≤ c0_1) (hr1_0 : Kd.C (Kd.int .i64) w A1_0 l1_0.length l1_0) (hc1_0 : l1_0.length ≤ c1_0) (hr1_1 : Kd.C k65 w A1_1 l1_1.length l1_1) (hc1_1 : l1_1.length ≤ c1_1) (hr2_0 : Kd.C (Kd.int .i64) w A2_0 l2_0.length l2_0) (hc2_0 : l2_0.length ≤ c2_0) (hr2_1 : Kd.C k65 w A2_1 l2_1.length l2_1) (hc2_1 : l2_1.length ≤ c2_1) (hr3_0 : Kd.C (Kd.int .i64) w A3_0 l3_0.length l3_0) (hc3_0 : l3_0.length ≤ c3_0) (hr3_1 : Kd.C (Kd.int .i64) w A3_1 l3_1.length l3_1) (hc3_1 : l3_1.length ≤ c3_1) (hr4_0 : Kd.C (Kd.int .i64) w A4_0 l4_0.length l4_0) (hc4_0 : l4_0.length ≤ c4_0) (hr4_1 : Kd.C (Kd.int .i64) w A4_1 l4_1.length l4_1) (hc4_1 : l4_1.length ≤ c4_1) (h : scarfjointref06_Compose.f k l0_0 l0_1 l1_0 l1_1 l2_0 l2_1 l3_0 l3_1 l4_0 l4_1 = some (r1, r2, r3)) :
  Calls Try.prog 30 #[.agg #[.slice A0_0 l0_0.length c0_0, .slice A0_1 l0_1.length c0_1], .agg #[.slice A1_0 l1_0.length c1_0, .slice A1_1 l1_1.length c1_1], .agg #[.slice A2_0 l2_0.length c2_0, .slice A2_1 l2_1.length c2_1], .agg #[.slice A3_0 l3_0.length c3_0, .slice A3_1 l3_1.length c3_1], .agg #[.slice A4_0 l4_0.length c4_0, .slice A4_1 l4_1.length c4_1]] w fun e w' => ∃ v0_ v1_ : Value, e = .returned (.tuple #[.agg #[v0_, v1_], .int .i64 r3]) ∧ Kd.R (Kd.int .i64) 3 w' w.heap.size (fun k_ => some k_ ≠ (v1_ : Value).ownBlock) v0_ r1 ∧ Kd.R (Kd.int .i64) 3 w' w.heap.size (fun k_ => some k_ ≠ (v0_ : Value).ownBlock) v1_ r2 ∧ Below w.heap.size w w' := by
 have hu25 := Try.underlying25
 have hu27 := Try.underlying27
 have HR0_0 := Aside0.mk hr0_0
 have HC0_0 := Aside0.mk hc0_0
 clear hr0_0 hc0_0
 have HR0_1 := Aside0.mk hr0_1
 have HC0_1 := Aside0.mk hc0_1
 clear hr0_1 hc0_1
 have HR1_0 := Aside0.mk hr1_0
 have HC1_0 := Aside0.mk hc1_0
 clear hr1_0 hc1_0
 have HR1_1 := Aside0.mk hr1_1
 have HC1_1 := Aside0.mk hc1_1
 clear hr1_1 hc1_1
 have HR2_0 := Aside0.mk hr2_0
 have HC2_0 := Aside0.mk hc2_0
 clear hr2_0 hc2_0
 have HR2_1 := Aside0.mk hr2_1
 have HC2_1 := Aside0.mk hc2_1
 clear hr2_1 hc2_1
 have HR3_0 := Aside0.mk hr3_0
 have HC3_0 := Aside0.mk hc3_0
 clear hr3_0 hc3_0
 have HR3_1 := Aside0.mk hr3_1
 have HC3_1 := Aside0.mk hc3_1
 clear hr3_1 hc3_1
 have HR4_0 := Aside0.mk hr4_0
 have HC4_0 := Aside0.mk hc4_0
 clear hr4_0 hc4_0
 have HR4_1 := Aside0.mk hr4_1
 have HC4_1 := Aside0.mk hc4_1
 clear hr4_1 hc4_1
 have HB := Aside0.mk (Below.refl w.heap.size w)
 have H : ((scarfjointref06_Valid.f k l0_0 l0_1 l1_0 l1_1 l3_0 l3_1).bind fun t377 => (if t377 = 0 then ((scarfjointref06_Valid.f k l1_0 l1_1 l2_0 l2_1 l4_0 l4_1).bind fun t378 => (if t378 = 0 then ((scarfjointref06_Then.f k l3_0 l3_1 l4_0 l4_1).bind fun bt379 => (some (bt379.1, bt379.2, 0))) else (some (([] : List Int), ([] : List Int), t378)))) else (some (([] : List Int), ([] : List Int), t377)))) = some (r1, r2, r3) := h
 clear h
 replace H := Option.bind_eq_some_iff.mp H
 obtain ⟨t377, A60, H⟩ := H
 replace H : (if t377 = 0 then ((scarfjointref06_Valid.f k l1_0 l1_1 l2_0 l2_1 l4_0 l4_1).bind fun t378 => (if t378 = 0 then ((scarfjointref06_Then.f k l3_0 l3_1 l4_0 l4_1).bind fun bt379 => (some (bt379.1, bt379.2, 0))) else (some (([] : List Int), ([] : List Int), t378)))) else (some (([] : List Int), ([] : List Int), t377))) = some (r1, r2, r3) := H
 have A6 := Aside0.mk A60
 clear A60
 by_cases c7 : t377 = 0
 ·rw [if_pos c7] at H
  have c7b0 : (t377 == 0) = true := beq_iff_eq.mpr c7
  have c7b1 : (t377 != 0) = false := bne_eq_false_iff_eq.mpr c7
  clear c7
  replace H := Option.bind_eq_some_iff.mp H
  obtain ⟨t378, A80, H⟩ := H
  replace H : (if t378 = 0 then ((scarfjointref06_Then.f k l3_0 l3_1 l4_0 l4_1).bind fun bt379 => (some (bt379.1, bt379.2, 0))) else (some (([] : List Int), ([] : List Int), t378))) = some (r1, r2, r3) := H
  have A8 := Aside0.mk A80
  clear A80
  by_cases c9 : t378 = 0
  ·rw [if_pos c9] at H
   have c9b0 : (t378 == 0) = true := beq_iff_eq.mpr c9
   have c9b1 : (t378 != 0) = false := bne_eq_false_iff_eq.mpr c9
   clear c9
   replace H := Option.bind_eq_some_iff.mp H
   obtain ⟨⟨t379, t382⟩, A100, H⟩ := H
   replace H : (some (t379, t382, 0)) = some (r1, r2, r3) := H
   have A10 := Aside0.mk A100
   clear A100
   simp only [Option.some.injEq, Prod.mk.injEq] at H
   obtain ⟨rfl, rfl, rfl⟩ := H
   go_enter Try.func30, Try.ntmps30
   go_wp2_with (first | ((with_reducible refine gate_dst (N := 5) rfl ?_); refine box_event ?hg (N := 5) ?hd (cs := #[.slice A0_0 l0_0.length c0_0, .slice A0_1 l0_1.length c0_1]) (t := 25) ?hr ?_; (case hd => rfl); (case hg => rfl); (case hr => first | (go_simp; done) | (go_simp; rfl)); intro gb371 hg w11 hbox hb; have BK371 := Aside0.mk (hbox); have GW371 := Aside0.mk (gw_ hg (mb_ HB.out)); have GE371 := Aside0.mk (gw_ hg (mb_ HB.out)); replace HB := Aside0.mk (below_step (mb_ HB.out) hb); clear hb hbox hg) | ((with_reducible refine gate_dst (N := 6) rfl ?_); refine box_event ?hg (N := 6) ?hd (cs := #[.slice A1_0 l1_0.length c1_0, .slice A1_1 l1_1.length c1_1]) (t := 25) ?hr ?_; (case hd => rfl); (case hg => rfl); (case hr => first | (go_simp; done) | (go_simp; rfl)); intro gb372 hg w12 hbox hb; have BK372 := Aside0.mk (hbox); have GW372 := Aside0.mk (gw_ hg (mbs_ HB.out)); have GE372 := Aside0.mk (gw_ hg (mbs_ HB.out)); replace HB := Aside0.mk (below_step (mbs_ HB.out) hb); have NB371_372 := Aside0.mk (nb_ hg (bk_ BK371.out)); have NB372_371 := Aside0.mk (nc_ hg (bk_ BK371.out)); replace BK371 := kb_ (bk_ BK371.out) hb; clear hb hbox hg) | ((with_reducible refine gate_dst (N := 7) rfl ?_); refine box_event ?hg (N := 7) ?hd (cs := #[.slice A2_0 l2_0.length c2_0, .slice A2_1 l2_1.length c2_1]) (t := 25) ?hr ?_; (case hd => rfl); (case hg => rfl); (case hr => first | (go_simp; done) | (go_simp; rfl)); intro gb373 hg w13 hbox hb; have BK373 := Aside0.mk (hbox); have GW373 := Aside0.mk (gw_ hg (mbs_ HB.out)); have GE373 := Aside0.mk (gw_ hg (mbs_ HB.out)); replace HB := Aside0.mk (below_step (mbs_ HB.out) hb); have NB371_373 := Aside0.mk (nb_ hg (bk_ BK371.out)); have NB373_371 := Aside0.mk (nc_ hg (bk_ BK371.out)); replace BK371 := kb_ (bk_ BK371.out) hb; have NB372_373 := Aside0.mk (nb_ hg (bk_ BK372.out)); have NB373_372 := Aside0.mk (nc_ hg (bk_ BK372.out)); replace BK372 := kb_ (bk_ BK372.out) hb; clear hb hbox hg) | ((with_reducible refine gate_dst (N := 8) rfl ?_); refine box_event ?hg (N := 8) ?hd (cs := #[.slice A3_0 l3_0.length c3_0, .slice A3_1 l3_1.length c3_1]) (t := 27) ?hr ?_; (case hd => rfl); (case hg => rfl); (case hr => first | (go_simp; done) | (go_simp; rfl)); intro gb374 hg w14 hbox hb; have BK374 := Aside0.mk (hbox); have GW374 := Aside0.mk (gw_ hg (mbs_ HB.out)); have GE374 := Aside0.mk (gw_ hg (mbs_ HB.out)); replace HB := Aside0.mk (below_step (mbs_ HB.out) hb); have NB371_374 := Aside0.mk (nb_ hg (bk_ BK371.out)); have NB374_371 := Aside0.mk (nc_ hg (bk_ BK371.out)); replace BK371 := kb_ (bk_ BK371.out) hb; have NB372_374 := Aside0.mk (nb_ hg (bk_ BK372.out)); have NB374_372 := Aside0.mk (nc_ hg (bk_ BK372.out)); replace BK372 := kb_ (bk_ BK372.out) hb; have NB373_374 := Aside0.mk (nb_ hg (bk_ BK373.out)); have NB374_373 := Aside0.mk (nc_ hg (bk_ BK373.out)); replace BK373 := kb_ (bk_ BK373.out) hb; clear hb hbox hg) | ((with_reducible refine gate_dst (N := 9) rfl ?_); refine box_event ?hg (N := 9) ?hd (cs := #[.slice A4_0 l4_0.length c4_0, .slice A4_1 l4_1.length c4_1]) (t := 27) ?hr ?_; (case hd => rfl); (case hg => rfl); (case hr => first | (go_simp; done) | (go_simp; rfl)); intro gb375 hg w15 hbox hb; have BK375 := Aside0.mk (hbox); have GW375 := Aside0.mk (gw_ hg (mbs_ HB.out)); have GE375 := Aside0.mk (gw_ hg (mbs_ HB.out)); replace HB := Aside0.mk (below_step (mbs_ HB.out) hb); have NB371_375 := Aside0.mk (nb_ hg (bk_ BK371.out)); have NB375_371 := Aside0.mk (nc_ hg (bk_ BK371.out)); replace BK371 := kb_ (bk_ BK371.out) hb; have NB372_375 := Aside0.mk (nb_ hg (bk_ BK372.out)); have NB375_372 := Aside0.mk (nc_ hg (bk_ BK372.out)); replace BK372 := kb_ (bk_ BK372.out) hb; have NB373_375 := Aside0.mk (nb_ hg (bk_ BK373.out)); have NB375_373 := Aside0.mk (nc_ hg (bk_ BK373.out)); replace BK373 := kb_ (bk_ BK373.out) hb; have NB374_375 := Aside0.mk (nb_ hg (bk_ BK374.out)); have NB375_374 := Aside0.mk (nc_ hg (bk_ BK374.out)); replace BK374 := kb_ (bk_ BK374.out) hb; clear hb hbox hg) | ((with_reducible refine gate_dst (N := 10) rfl ?_); refine box_event ?hg (N := 10) ?hd (cs := #[.slice none 0 0, .slice none 0 0]) (t := 27) ?hr ?_; (case hd => rfl); (case hg => rfl); (case hr => first | (go_simp; done) | (go_simp; rfl)); intro gb376 hg w16 hbox hb; have BK376 := Aside0.mk (hbox); have GW376 := Aside0.mk (gw_ hg (mbs_ HB.out)); have GE376 := Aside0.mk (gw_ hg (mbs_ HB.out)); replace HB := Aside0.mk (below_step (mbs_ HB.out) hb); have NB371_376 := Aside0.mk (nb_ hg (bk_ BK371.out)); have NB376_371 := Aside0.mk (nc_ hg (bk_ BK371.out)); replace BK371 := kb_ (bk_ BK371.out) hb; have NB372_376 := Aside0.mk (nb_ hg (bk_ BK372.out)); have NB376_372 := Aside0.mk (nc_ hg (bk_ BK372.out)); replace BK372 := kb_ (bk_ BK372.out) hb; have NB373_376 := Aside0.mk (nb_ hg (bk_ BK373.out)); have NB376_373 := Aside0.mk (nc_ hg (bk_ BK373.out)); replace BK373 := kb_ (bk_ BK373.out) hb; have NB374_376 := Aside0.mk (nb_ hg (bk_ BK374.out)); have NB376_374 := Aside0.mk (nc_ hg (bk_ BK374.out)); replace BK374 := kb_ (bk_ BK374.out) hb; have NB375_376 := Aside0.mk (nb_ hg (bk_ BK375.out)); have NB376_375 := Aside0.mk (nc_ hg (bk_ BK375.out)); replace BK375 := kb_ (bk_ BK375.out) hb; clear hb hbox hg; have hnb17 := NB371_372.out; have hnc17 := NB372_371.out; have hnb18 := NB371_373.out; have hnc18 := NB373_371.out; have hnb19 := NB371_374.out; have hnc19 := NB374_371.out; have hnb20 := NB371_375.out; have hnc20 := NB375_371.out; have hnb21 := NB371_376.out; have hnc21 := NB376_371.out; have hcz22_0 := bc0_ BK371.out; have hcz22_1 := bc1_ BK371.out; have hfz22_0 := blk_frozen BK371.out 0; have hfz22_1 := blk_frozen BK371.out 1; have hnb23 := NB372_373.out; have hnc23 := NB373_372.out; have hnb24 := NB372_374.out; have hnc24 := NB374_372.out; have hnb25 := NB372_375.out; have hnc25 := NB375_372.out; have hnb26 := NB372_376.out; have hnc26 := NB376_372.out; have hcz27_0 := bc0_ BK372.out; have hcz27_1 := bc1_ BK372.out; have hfz27_0 := blk_frozen BK372.out 0; have hfz27_1 := blk_frozen BK372.out 1; have hnb28 := NB374_373.out; have hnc28 := NB373_374.out; have hnb29 := NB374_375.out; have hnc29 := NB375_374.out; have hnb30 := NB374_376.out; have hnc30 := NB376_374.out; have hcz31_0 := bc0_ BK374.out; have hcz31_1 := bc1_ BK374.out; have hfz31_0 := blk_frozen BK374.out 0; have hfz31_1 := blk_frozen BK374.out 1) | ((with_reducible refine gate_callee (f := 14) rfl ?_); refine goesL_ (some 17) rfl rfl Try.func14 (by kernel_rfl) rfl #[.agg #[.slice A0_0 l0_0.length c0_0, .slice A0_1 l0_1.length c0_1], .agg #[.slice A1_0 l1_0.length c1_0, .slice A1_1 l1_1.length c1_1], .agg #[.slice A3_0 l3_0.length c3_0, .slice A3_1 l3_1.length c3_1]] rfl (by (try simp only [List.map_toArray, List.map_cons, List.map_nil]); first | done | rfl | (simp only [List.length_drop, List.length_take]; rfl)) ?_; (with_reducible refine (scarfjointref06_Valid.calls k _ _ l0_0 _ _ l0_1 _ _ l1_0 _ _ l1_1 _ _ l3_0 _ _ l3_1 t377 _ ?side1 ?side2 ?side3 ?side4 ?side5 ?side6 ?side7 ?side8 ?side9 ?side10 ?side11 ?side12 A6.out).mono ?_); (case side1 => exact mc_ (Kd.C_below HR0_0.out HB.out)); (case side2 => exact HC0_0.out); (case side3 => exact mc_ (Kd.C_below HR0_1.out HB.out)); (case side4 => exact HC0_1.out); (case side5 => exact mc_ (Kd.C_below HR1_0.out HB.out)); (case side6 => exact HC1_0.out); (case side7 => exact mc_ (Kd.C_below HR1_1.out HB.out)); (case side8 => exact HC1_1.out); (case side9 => exact mc_ (Kd.C_below HR3_0.out HB.out)); (case side10 => exact HC3_0.out); (case side11 => exact mc_ (Kd.C_below HR3_1.out HB.out)); (case side12 => exact HC3_1.out); rintro e w32 ⟨rfl, hb⟩; refine ⟨_, rfl, ?_⟩; replace BK371 := kb_ (bk_ BK371.out) hb; replace BK372 := kb_ (bk_ BK372.out) hb; replace BK373 := kb_ (bk_ BK373.out) hb; replace BK374 := kb_ (bk_ BK374.out) hb; replace BK375 := kb_ (bk_ BK375.out) hb; replace BK376 := kb_ (bk_ BK376.out) hb; replace HB := Aside0.mk (below_step (mbs_ HB.out) hb); (try clear hb); (try clear hb2); (try clear hk); (try clear hi); have hcz33_0 := bc0_ BK372.out; have hcz33_1 := bc1_ BK372.out; have hfz33_0 := blk_frozen BK372.out 0; have hfz33_1 := blk_frozen BK372.out 1; have hnb34 := NB373_375.out; have hnc34 := NB375_373.out; have hnb35 := NB373_376.out; have hnc35 := NB376_373.out; have hcz36_0 := bc0_ BK373.out; have hcz36_1 := bc1_ BK373.out; have hfz36_0 := blk_frozen BK373.out 0; have hfz36_1 := blk_frozen BK373.out 1; have hnb37 := NB375_376.out; have hnc37 := NB376_375.out; have hcz38_0 := bc0_ BK375.out; have hcz38_1 := bc1_ BK375.out; have hfz38_0 := blk_frozen BK375.out 0; have hfz38_1 := blk_frozen BK375.out 1) | ((with_reducible refine gate_callee (f := 14) rfl ?_); refine goesL_ (some 25) rfl rfl Try.func14 (by kernel_rfl) rfl #[.agg #[.slice A1_0 l1_0.length c1_0, .slice A1_1 l1_1.length c1_1], .agg #[.slice A2_0 l2_0.length c2_0, .slice A2_1 l2_1.length c2_1], .agg #[.slice A4_0 l4_0.length c4_0, .slice A4_1 l4_1.length c4_1]] rfl (by (try simp only [List.map_toArray, List.map_cons, List.map_nil]); first | done | rfl | (simp only [List.length_drop, List.length_take]; rfl)) ?_; (with_reducible refine (scarfjointref06_Valid.calls k _ _ l1_0 _ _ l1_1 _ _ l2_0 _ _ l2_1 _ _ l4_0 _ _ l4_1 t378 _ ?side1 ?side2 ?side3 ?side4 ?side5 ?side6 ?side7 ?side8 ?side9 ?side10 ?side11 ?side12 A8.out).mono ?_); (case side1 => exact mc_ (Kd.C_below HR1_0.out HB.out)); (case side2 => exact HC1_0.out); (case side3 => exact mc_ (Kd.C_below HR1_1.out HB.out)); (case side4 => exact HC1_1.out); (case side5 => exact mc_ (Kd.C_below HR2_0.out HB.out)); (case side6 => exact HC2_0.out); (case side7 => exact mc_ (Kd.C_below HR2_1.out HB.out)); (case side8 => exact HC2_1.out); (case side9 => exact mc_ (Kd.C_below HR4_0.out HB.out)); (case side10 => exact HC4_0.out); (case side11 => exact mc_ (Kd.C_below HR4_1.out HB.out)); (case side12 => exact HC4_1.out); rintro e w39 ⟨rfl, hb⟩; refine ⟨_, rfl, ?_⟩; replace BK371 := kb_ (bk_ BK371.out) hb; replace BK372 := kb_ (bk_ BK372.out) hb; replace BK373 := kb_ (bk_ BK373.out) hb; replace BK374 := kb_ (bk_ BK374.out) hb; replace BK375 := kb_ (bk_ BK375.out) hb; replace BK376 := kb_ (bk_ BK376.out) hb; replace HB := Aside0.mk (below_step (mbs_ HB.out) hb); (try clear hb); (try clear hb2); (try clear hk); (try clear hi); have hcz40_0 := bc0_ BK374.out; have hcz40_1 := bc1_ BK374.out; have hfz40_0 := blk_frozen BK374.out 0; have hfz40_1 := blk_frozen BK374.out 1; have hcz41_0 := bc0_ BK375.out; have hcz41_1 := bc1_ BK375.out; have hfz41_0 := blk_frozen BK375.out 0; have hfz41_1 := blk_frozen BK375.out 1) | ((with_reducible refine gate_callee (f := 51) rfl ?_); refine goesL_ (some 32) rfl rfl Try.func51 (by kernel_rfl) rfl #[.agg #[.slice A3_0 l3_0.length c3_0, .slice A3_1 l3_1.length c3_1], .agg #[.slice A4_0 l4_0.length c4_0, .slice A4_1 l4_1.length c4_1]] rfl (by (try simp only [List.map_toArray, List.map_cons, List.map_nil]); first | done | rfl | (simp only [List.length_drop, List.length_take]; rfl)) ?_; (with_reducible refine (scarfjointref06_Then.calls k _ _ l3_0 _ _ l3_1 _ _ l4_0 _ _ l4_1 t379 t382 _ ?side1 ?side2 ?side3 ?side4 ?side5 ?side6 ?side7 ?side8 A10.out).mono ?_); (case side1 => exact mc_ (Kd.C_below HR3_0.out HB.out)); (case side2 => exact HC3_0.out); (case side3 => exact mc_ (Kd.C_below HR3_1.out HB.out)); (case side4 => exact HC3_1.out); (case side5 => exact mc_ (Kd.C_below HR4_0.out HB.out)); (case side6 => exact HC4_0.out); (case side7 => exact mc_ (Kd.C_below HR4_1.out HB.out)); (case side8 => exact HC4_1.out); rintro e w42 ⟨v380, v383, rfl, ho0, ho1, hb⟩; refine ⟨_, rfl, ?_⟩; have HO381 := Aside0.mk (Kd.R_lower ho0 (below_size (mbs_ HB.out))); have HO384 := Aside0.mk (Kd.R_lower ho1 (below_size (mbs_ HB.out))); replace BK371 := kb_ (bk_ BK371.out) hb; replace BK372 := kb_ (bk_ BK372.out) hb; replace BK373 := kb_ (bk_ BK373.out) hb; replace BK374 := kb_ (bk_ BK374.out) hb; replace BK375 := kb_ (bk_ BK375.out) hb; replace BK376 := kb_ (bk_ BK376.out) hb; replace HB := Aside0.mk (below_step (mbs_ HB.out) hb); (try clear hb); (try clear hb2); (try clear hk); (try clear hi); (try clear ho0); (try clear ho1); obtain ⟨Ao43, co43, eo43⟩ := Kd.R_slice HO381.out; subst eo43; have hcz44_0 := bc0_ BK376.out; have hcz44_1 := bc1_ BK376.out; have hfz44_0 := blk_frozen BK376.out 0; have hfz44_1 := blk_frozen BK376.out 1; obtain ⟨Ao45, co45, eo45⟩ := Kd.R_slice HO384.out; subst eo45))
   refine bodyPost_ret (results_ct rfl _ _ gb376 27 #[.slice Ao43 t379.length co43, .slice Ao45 t382.length co45] (0, 0) _ rfl (by (with_reducible repeat (first | refine blk_drewN ?_ _ | refine blk_drew ?_ | refine blk_alloc ?_ _)); refine blk_put (cs := #[.slice Ao43 t379.length co43, .slice none 0 0]) ?_ 1 _ rfl; (with_reducible repeat (first | refine blk_drewN ?_ _ | refine blk_drew ?_ | refine blk_alloc ?_ _)); refine blk_put (cs := #[.slice none 0 0, .slice none 0 0]) ?_ 0 _ rfl; (with_reducible repeat (first | refine blk_drewN ?_ _ | refine blk_drew ?_ | refine blk_alloc ?_ _)); exact BK376.out) Try.underlying27 rfl (by kernel_rfl)) rfl ?_
   exact ⟨_, _, by first | rfl | (simp [errW_none, errW_some] <;> rfl) | (simp [*, errW_none, errW_some] <;> rfl), by (with_reducible repeat (first | apply Kd.R_alloc | apply Kd.R_drewN | apply Kd.R_drew)); exact Kd.R_mono (Kd.R_far (p := ⟨gb376, 1, none⟩) (Kd.R_far (p := ⟨gb376, 0, none⟩) (Kd.R_types HO381.out BK376.out (by decide)) (fun _ hk => hk.2) (.slice Ao43 t379.length co43)) (fun _ hk => hk.2) (.slice Ao45 t382.length co45)) (fun _ hk => hk.1), by (with_reducible repeat (first | apply Kd.R_alloc | apply Kd.R_drewN | apply Kd.R_drew)); exact Kd.R_mono (Kd.R_far (p := ⟨gb376, 1, none⟩) (Kd.R_far (p := ⟨gb376, 0, none⟩) (Kd.R_types HO384.out BK376.out (by decide)) (fun _ hk => hk.2) (.slice Ao43 t379.length co43)) (fun _ hk => hk.2) (.slice Ao45 t382.length co45)) (fun _ hk => hk.1), mbs_ HB.out⟩
  rw [if_neg c9] at H
  have c9b0 : (t378 == 0) = false := beq_eq_false_iff_ne.mpr c9
  have c9b1 : (t378 != 0) = true := bne_iff_ne.mpr c9
  simp only [Option.some.injEq, Prod.mk.injEq] at H
  obtain ⟨rfl, rfl, rfl⟩ := H
  go_enter Try.func30, Try.ntmps30
  go_wp2_with (first | ((with_reducible refine gate_dst (N := 5) rfl ?_); refine box_event ?hg (N := 5) ?hd (cs := #[.slice A0_0 l0_0.length c0_0, .slice A0_1 l0_1.length c0_1]) (t := 25) ?hr ?_; (case hd => rfl); (case hg => rfl); (case hr => first | (go_simp; done) | (go_simp; rfl)); intro gb371 hg w46 hbox hb; have BK371 := Aside0.mk (hbox); have GW371 := Aside0.mk (gw_ hg (mb_ HB.out)); have GE371 := Aside0.mk (gw_ hg (mb_ HB.out)); replace HB := Aside0.mk (below_step (mb_ HB.out) hb); clear hb hbox hg) | ((with_reducible refine gate_dst (N := 6) rfl ?_); refine box_event ?hg (N := 6) ?hd (cs := #[.slice A1_0 l1_0.length c1_0, .slice A1_1 l1_1.length c1_1]) (t := 25) ?hr ?_; (case hd => rfl); (case hg => rfl); (case hr => first | (go_simp; done) | (go_simp; rfl)); intro gb372 hg w47 hbox hb; have BK372 := Aside0.mk (hbox); have GW372 := Aside0.mk (gw_ hg (mbs_ HB.out)); have GE372 := Aside0.mk (gw_ hg (mbs_ HB.out)); replace HB := Aside0.mk (below_step (mbs_ HB.out) hb); have NB371_372 := Aside0.mk (nb_ hg (bk_ BK371.out)); have NB372_371 := Aside0.mk (nc_ hg (bk_ BK371.out)); replace BK371 := kb_ (bk_ BK371.out) hb; clear hb hbox hg) | ((with_reducible refine gate_dst (N := 7) rfl ?_); refine box_event ?hg (N := 7) ?hd (cs := #[.slice A2_0 l2_0.length c2_0, .slice A2_1 l2_1.length c2_1]) (t := 25) ?hr ?_; (case hd => rfl); (case hg => rfl); (case hr => first | (go_simp; done) | (go_simp; rfl)); intro gb373 hg w48 hbox hb; have BK373 := Aside0.mk (hbox); have GW373 := Aside0.mk (gw_ hg (mbs_ HB.out)); have GE373 := Aside0.mk (gw_ hg (mbs_ HB.out)); replace HB := Aside0.mk (below_step (mbs_ HB.out) hb); have NB371_373 := Aside0.mk (nb_ hg (bk_ BK371.out)); have NB373_371 := Aside0.mk (nc_ hg (bk_ BK371.out)); replace BK371 := kb_ (bk_ BK371.out) hb; have NB372_373 := Aside0.mk (nb_ hg (bk_ BK372.out)); have NB373_372 := Aside0.mk (nc_ hg (bk_ BK372.out)); replace BK372 := kb_ (bk_ BK372.out) hb; clear hb hbox hg) | ((with_reducible refine gate_dst (N := 8) rfl ?_); refine box_event ?hg (N := 8) ?hd (cs := #[.slice A3_0 l3_0.length c3_0, .slice A3_1 l3_1.length c3_1]) (t := 27) ?hr ?_; (case hd => rfl); (case hg => rfl); (case hr => first | (go_simp; done) | (go_simp; rfl)); intro gb374 hg w49 hbox hb; have BK374 := Aside0.mk (hbox); have GW374 := Aside0.mk (gw_ hg (mbs_ HB.out)); have GE374 := Aside0.mk (gw_ hg (mbs_ HB.out)); replace HB := Aside0.mk (below_step (mbs_ HB.out) hb); have NB371_374 := Aside0.mk (nb_ hg (bk_ BK371.out)); have NB374_371 := Aside0.mk (nc_ hg (bk_ BK371.out)); replace BK371 := kb_ (bk_ BK371.out) hb; have NB372_374 := Aside0.mk (nb_ hg (bk_ BK372.out)); have NB374_372 := Aside0.mk (nc_ hg (bk_ BK372.out)); replace BK372 := kb_ (bk_ BK372.out) hb; have NB373_374 := Aside0.mk (nb_ hg (bk_ BK373.out)); have NB374_373 := Aside0.mk (nc_ hg (bk_ BK373.out)); replace BK373 := kb_ (bk_ BK373.out) hb; clear hb hbox hg) | ((with_reducible refine gate_dst (N := 9) rfl ?_); refine box_event ?hg (N := 9) ?hd (cs := #[.slice A4_0 l4_0.length c4_0, .slice A4_1 l4_1.length c4_1]) (t := 27) ?hr ?_; (case hd => rfl); (case hg => rfl); (case hr => first | (go_simp; done) | (go_simp; rfl)); intro gb375 hg w50 hbox hb; have BK375 := Aside0.mk (hbox); have GW375 := Aside0.mk (gw_ hg (mbs_ HB.out)); have GE375 := Aside0.mk (gw_ hg (mbs_ HB.out)); replace HB := Aside0.mk (below_step (mbs_ HB.out) hb); have NB371_375 := Aside0.mk (nb_ hg (bk_ BK371.out)); have NB375_371 := Aside0.mk (nc_ hg (bk_ BK371.out)); replace BK371 := kb_ (bk_ BK371.out) hb; have NB372_375 := Aside0.mk (nb_ hg (bk_ BK372.out)); have NB375_372 := Aside0.mk (nc_ hg (bk_ BK372.out)); replace BK372 := kb_ (bk_ BK372.out) hb; have NB373_375 := Aside0.mk (nb_ hg (bk_ BK373.out)); have NB375_373 := Aside0.mk (nc_ hg (bk_ BK373.out)); replace BK373 := kb_ (bk_ BK373.out) hb; have NB374_375 := Aside0.mk (nb_ hg (bk_ BK374.out)); have NB375_374 := Aside0.mk (nc_ hg (bk_ BK374.out)); replace BK374 := kb_ (bk_ BK374.out) hb; clear hb hbox hg) | ((with_reducible refine gate_dst (N := 10) rfl ?_); refine box_event ?hg (N := 10) ?hd (cs := #[.slice none 0 0, .slice none 0 0]) (t := 27) ?hr ?_; (case hd => rfl); (case hg => rfl); (case hr => first | (go_simp; done) | (go_simp; rfl)); intro gb376 hg w51 hbox hb; have BK376 := Aside0.mk (hbox); have GW376 := Aside0.mk (gw_ hg (mbs_ HB.out)); have GE376 := Aside0.mk (gw_ hg (mbs_ HB.out)); replace HB := Aside0.mk (below_step (mbs_ HB.out) hb); have NB371_376 := Aside0.mk (nb_ hg (bk_ BK371.out)); have NB376_371 := Aside0.mk (nc_ hg (bk_ BK371.out)); replace BK371 := kb_ (bk_ BK371.out) hb; have NB372_376 := Aside0.mk (nb_ hg (bk_ BK372.out)); have NB376_372 := Aside0.mk (nc_ hg (bk_ BK372.out)); replace BK372 := kb_ (bk_ BK372.out) hb; have NB373_376 := Aside0.mk (nb_ hg (bk_ BK373.out)); have NB376_373 := Aside0.mk (nc_ hg (bk_ BK373.out)); replace BK373 := kb_ (bk_ BK373.out) hb; have NB374_376 := Aside0.mk (nb_ hg (bk_ BK374.out)); have NB376_374 := Aside0.mk (nc_ hg (bk_ BK374.out)); replace BK374 := kb_ (bk_ BK374.out) hb; have NB375_376 := Aside0.mk (nb_ hg (bk_ BK375.out)); have NB376_375 := Aside0.mk (nc_ hg (bk_ BK375.out)); replace BK375 := kb_ (bk_ BK375.out) hb; clear hb hbox hg; have hnb52 := NB371_372.out; have hnc52 := NB372_371.out; have hnb53 := NB371_373.out; have hnc53 := NB373_371.out; have hnb54 := NB371_374.out; have hnc54 := NB374_371.out; have hnb55 := NB371_375.out; have hnc55 := NB375_371.out; have hnb56 := NB371_376.out; have hnc56 := NB376_371.out; have hcz57_0 := bc0_ BK371.out; have hcz57_1 := bc1_ BK371.out; have hfz57_0 := blk_frozen BK371.out 0; have hfz57_1 := blk_frozen BK371.out 1; have hnb58 := NB372_373.out; have hnc58 := NB373_372.out; have hnb59 := NB372_374.out; have hnc59 := NB374_372.out; have hnb60 := NB372_375.out; have hnc60 := NB375_372.out; have hnb61 := NB372_376.out; have hnc61 := NB376_372.out; have hcz62_0 := bc0_ BK372.out; have hcz62_1 := bc1_ BK372.out; have hfz62_0 := blk_frozen BK372.out 0; have hfz62_1 := blk_frozen BK372.out 1; have hnb63 := NB374_373.out; have hnc63 := NB373_374.out; have hnb64 := NB374_375.out; have hnc64 := NB375_374.out; have hnb65 := NB374_376.out; have hnc65 := NB376_374.out; have hcz66_0 := bc0_ BK374.out; have hcz66_1 := bc1_ BK374.out; have hfz66_0 := blk_frozen BK374.out 0; have hfz66_1 := blk_frozen BK374.out 1) | ((with_reducible refine gate_callee (f := 14) rfl ?_); refine goesL_ (some 17) rfl rfl Try.func14 (by kernel_rfl) rfl #[.agg #[.slice A0_0 l0_0.length c0_0, .slice A0_1 l0_1.length c0_1], .agg #[.slice A1_0 l1_0.length c1_0, .slice A1_1 l1_1.length c1_1], .agg #[.slice A3_0 l3_0.length c3_0, .slice A3_1 l3_1.length c3_1]] rfl (by (try simp only [List.map_toArray, List.map_cons, List.map_nil]); first | done | rfl | (simp only [List.length_drop, List.length_take]; rfl)) ?_; (with_reducible refine (scarfjointref06_Valid.calls k _ _ l0_0 _ _ l0_1 _ _ l1_0 _ _ l1_1 _ _ l3_0 _ _ l3_1 t377 _ ?side1 ?side2 ?side3 ?side4 ?side5 ?side6 ?side7 ?side8 ?side9 ?side10 ?side11 ?side12 A6.out).mono ?_); (case side1 => exact mc_ (Kd.C_below HR0_0.out HB.out)); (case side2 => exact HC0_0.out); (case side3 => exact mc_ (Kd.C_below HR0_1.out HB.out)); (case side4 => exact HC0_1.out); (case side5 => exact mc_ (Kd.C_below HR1_0.out HB.out)); (case side6 => exact HC1_0.out); (case side7 => exact mc_ (Kd.C_below HR1_1.out HB.out)); (case side8 => exact HC1_1.out); (case side9 => exact mc_ (Kd.C_below HR3_0.out HB.out)); (case side10 => exact HC3_0.out); (case side11 => exact mc_ (Kd.C_below HR3_1.out HB.out)); (case side12 => exact HC3_1.out); rintro e w67 ⟨rfl, hb⟩; refine ⟨_, rfl, ?_⟩; replace BK371 := kb_ (bk_ BK371.out) hb; replace BK372 := kb_ (bk_ BK372.out) hb; replace BK373 := kb_ (bk_ BK373.out) hb; replace BK374 := kb_ (bk_ BK374.out) hb; replace BK375 := kb_ (bk_ BK375.out) hb; replace BK376 := kb_ (bk_ BK376.out) hb; replace HB := Aside0.mk (below_step (mbs_ HB.out) hb); (try clear hb); (try clear hb2); (try clear hk); (try clear hi); have hcz68_0 := bc0_ BK372.out; have hcz68_1 := bc1_ BK372.out; have hfz68_0 := blk_frozen BK372.out 0; have hfz68_1 := blk_frozen BK372.out 1; have hnb69 := NB373_375.out; have hnc69 := NB375_373.out; have hnb70 := NB373_376.out; have hnc70 := NB376_373.out; have hcz71_0 := bc0_ BK373.out; have hcz71_1 := bc1_ BK373.out; have hfz71_0 := blk_frozen BK373.out 0; have hfz71_1 := blk_frozen BK373.out 1; have hnb72 := NB375_376.out; have hnc72 := NB376_375.out; have hcz73_0 := bc0_ BK375.out; have hcz73_1 := bc1_ BK375.out; have hfz73_0 := blk_frozen BK375.out 0; have hfz73_1 := blk_frozen BK375.out 1) | ((with_reducible refine gate_callee (f := 14) rfl ?_); refine goesL_ (some 25) rfl rfl Try.func14 (by kernel_rfl) rfl #[.agg #[.slice A1_0 l1_0.length c1_0, .slice A1_1 l1_1.length c1_1], .agg #[.slice A2_0 l2_0.length c2_0, .slice A2_1 l2_1.length c2_1], .agg #[.slice A4_0 l4_0.length c4_0, .slice A4_1 l4_1.length c4_1]] rfl (by (try simp only [List.map_toArray, List.map_cons, List.map_nil]); first | done | rfl | (simp only [List.length_drop, List.length_take]; rfl)) ?_; (with_reducible refine (scarfjointref06_Valid.calls k _ _ l1_0 _ _ l1_1 _ _ l2_0 _ _ l2_1 _ _ l4_0 _ _ l4_1 t378 _ ?side1 ?side2 ?side3 ?side4 ?side5 ?side6 ?side7 ?side8 ?side9 ?side10 ?side11 ?side12 A8.out).mono ?_); (case side1 => exact mc_ (Kd.C_below HR1_0.out HB.out)); (case side2 => exact HC1_0.out); (case side3 => exact mc_ (Kd.C_below HR1_1.out HB.out)); (case side4 => exact HC1_1.out); (case side5 => exact mc_ (Kd.C_below HR2_0.out HB.out)); (case side6 => exact HC2_0.out); (case side7 => exact mc_ (Kd.C_below HR2_1.out HB.out)); (case side8 => exact HC2_1.out); (case side9 => exact mc_ (Kd.C_below HR4_0.out HB.out)); (case side10 => exact HC4_0.out); (case side11 => exact mc_ (Kd.C_below HR4_1.out HB.out)); (case side12 => exact HC4_1.out); rintro e w74 ⟨rfl, hb⟩; refine ⟨_, rfl, ?_⟩; replace BK371 := kb_ (bk_ BK371.out) hb; replace BK372 := kb_ (bk_ BK372.out) hb; replace BK373 := kb_ (bk_ BK373.out) hb; replace BK374 := kb_ (bk_ BK374.out) hb; replace BK375 := kb_ (bk_ BK375.out) hb; replace BK376 := kb_ (bk_ BK376.out) hb; replace HB := Aside0.mk (below_step (mbs_ HB.out) hb); (try clear hb); (try clear hb2); (try clear hk); (try clear hi); have hcz75_0 := bc0_ BK376.out; have hcz75_1 := bc1_ BK376.out; have hfz75_0 := blk_frozen BK376.out 0; have hfz75_1 := blk_frozen BK376.out 1))
  refine bodyPost_ret (results_ct rfl _ _ gb376 27 #[.slice none 0 0, .slice none 0 0] (0, 0) _ rfl (by (with_reducible repeat (first | refine blk_drewN ?_ _ | refine blk_drew ?_ | refine blk_alloc ?_ _)); refine blk_put (cs := #[.slice none 0 0, .slice none 0 0]) ?_ 1 _ rfl; (with_reducible repeat (first | refine blk_drewN ?_ _ | refine blk_drew ?_ | refine blk_alloc ?_ _)); refine blk_put (cs := #[.slice none 0 0, .slice none 0 0]) ?_ 0 _ rfl; (with_reducible repeat (first | refine blk_drewN ?_ _ | refine blk_drew ?_ | refine blk_alloc ?_ _)); exact BK376.out) Try.underlying27 rfl (by kernel_rfl)) rfl ?_
  exact ⟨_, _, by first | rfl | (simp [errW_none, errW_some] <;> rfl) | (simp [*, errW_none, errW_some] <;> rfl), by first | exact Kd.R_nil _ _ _ _ _ | exact Kd.N_nil _ _ _ _ _ | exact Kd.V_nil _ _ _ _ _ | exact Kd.Q_nil _ _ _ _ _ | exact Kd.S_nil _ _ _ _ _, by first | exact Kd.R_nil _ _ _ _ _ | exact Kd.N_nil _ _ _ _ _ | exact Kd.V_nil _ _ _ _ _ | exact Kd.Q_nil _ _ _ _ _ | exact Kd.S_nil _ _ _ _ _, mbs_ HB.out⟩
 rw [if_neg c7] at H
 have c7b0 : (t377 == 0) = false := beq_eq_false_iff_ne.mpr c7
 have c7b1 : (t377 != 0) = true := bne_iff_ne.mpr c7
 simp only [Option.some.injEq, Prod.mk.injEq] at H
 obtain ⟨rfl, rfl, rfl⟩ := H
 go_enter Try.func30, Try.ntmps30
 go_wp2_with (first | ((with_reducible refine gate_dst (N := 5) rfl ?_); refine box_event ?hg (N := 5) ?hd (cs := #[.slice A0_0 l0_0.length c0_0, .slice A0_1 l0_1.length c0_1]) (t := 25) ?hr ?_; (case hd => rfl); (case hg => rfl); (case hr => first | (go_simp; done) | (go_simp; rfl)); intro gb371 hg w76 hbox hb; have BK371 := Aside0.mk (hbox); have GW371 := Aside0.mk (gw_ hg (mb_ HB.out)); have GE371 := Aside0.mk (gw_ hg (mb_ HB.out)); replace HB := Aside0.mk (below_step (mb_ HB.out) hb); clear hb hbox hg) | ((with_reducible refine gate_dst (N := 6) rfl ?_); refine box_event ?hg (N := 6) ?hd (cs := #[.slice A1_0 l1_0.length c1_0, .slice A1_1 l1_1.length c1_1]) (t := 25) ?hr ?_; (case hd => rfl); (case hg => rfl); (case hr => first | (go_simp; done) | (go_simp; rfl)); intro gb372 hg w77 hbox hb; have BK372 := Aside0.mk (hbox); have GW372 := Aside0.mk (gw_ hg (mbs_ HB.out)); have GE372 := Aside0.mk (gw_ hg (mbs_ HB.out)); replace HB := Aside0.mk (below_step (mbs_ HB.out) hb); have NB371_372 := Aside0.mk (nb_ hg (bk_ BK371.out)); have NB372_371 := Aside0.mk (nc_ hg (bk_ BK371.out)); replace BK371 := kb_ (bk_ BK371.out) hb; clear hb hbox hg) | ((with_reducible refine gate_dst (N := 7) rfl ?_); refine box_event ?hg (N := 7) ?hd (cs := #[.slice A2_0 l2_0.length c2_0, .slice A2_1 l2_1.length c2_1]) (t := 25) ?hr ?_; (case hd => rfl); (case hg => rfl); (case hr => first | (go_simp; done) | (go_simp; rfl)); intro gb373 hg w78 hbox hb; have BK373 := Aside0.mk (hbox); have GW373 := Aside0.mk (gw_ hg (mbs_ HB.out)); have GE373 := Aside0.mk (gw_ hg (mbs_ HB.out)); replace HB := Aside0.mk (below_step (mbs_ HB.out) hb); have NB371_373 := Aside0.mk (nb_ hg (bk_ BK371.out)); have NB373_371 := Aside0.mk (nc_ hg (bk_ BK371.out)); replace BK371 := kb_ (bk_ BK371.out) hb; have NB372_373 := Aside0.mk (nb_ hg (bk_ BK372.out)); have NB373_372 := Aside0.mk (nc_ hg (bk_ BK372.out)); replace BK372 := kb_ (bk_ BK372.out) hb; clear hb hbox hg) | ((with_reducible refine gate_dst (N := 8) rfl ?_); refine box_event ?hg (N := 8) ?hd (cs := #[.slice A3_0 l3_0.length c3_0, .slice A3_1 l3_1.length c3_1]) (t := 27) ?hr ?_; (case hd => rfl); (case hg => rfl); (case hr => first | (go_simp; done) | (go_simp; rfl)); intro gb374 hg w79 hbox hb; have BK374 := Aside0.mk (hbox); have GW374 := Aside0.mk (gw_ hg (mbs_ HB.out)); have GE374 := Aside0.mk (gw_ hg (mbs_ HB.out)); replace HB := Aside0.mk (below_step (mbs_ HB.out) hb); have NB371_374 := Aside0.mk (nb_ hg (bk_ BK371.out)); have NB374_371 := Aside0.mk (nc_ hg (bk_ BK371.out)); replace BK371 := kb_ (bk_ BK371.out) hb; have NB372_374 := Aside0.mk (nb_ hg (bk_ BK372.out)); have NB374_372 := Aside0.mk (nc_ hg (bk_ BK372.out)); replace BK372 := kb_ (bk_ BK372.out) hb; have NB373_374 := Aside0.mk (nb_ hg (bk_ BK373.out)); have NB374_373 := Aside0.mk (nc_ hg (bk_ BK373.out)); replace BK373 := kb_ (bk_ BK373.out) hb; clear hb hbox hg) | ((with_reducible refine gate_dst (N := 9) rfl ?_); refine box_event ?hg (N := 9) ?hd (cs := #[.slice A4_0 l4_0.length c4_0, .slice A4_1 l4_1.length c4_1]) (t := 27) ?hr ?_; (case hd => rfl); (case hg => rfl); (case hr => first | (go_simp; done) | (go_simp; rfl)); intro gb375 hg w80 hbox hb; have BK375 := Aside0.mk (hbox); have GW375 := Aside0.mk (gw_ hg (mbs_ HB.out)); have GE375 := Aside0.mk (gw_ hg (mbs_ HB.out)); replace HB := Aside0.mk (below_step (mbs_ HB.out) hb); have NB371_375 := Aside0.mk (nb_ hg (bk_ BK371.out)); have NB375_371 := Aside0.mk (nc_ hg (bk_ BK371.out)); replace BK371 := kb_ (bk_ BK371.out) hb; have NB372_375 := Aside0.mk (nb_ hg (bk_ BK372.out)); have NB375_372 := Aside0.mk (nc_ hg (bk_ BK372.out)); replace BK372 := kb_ (bk_ BK372.out) hb; have NB373_375 := Aside0.mk (nb_ hg (bk_ BK373.out)); have NB375_373 := Aside0.mk (nc_ hg (bk_ BK373.out)); replace BK373 := kb_ (bk_ BK373.out) hb; have NB374_375 := Aside0.mk (nb_ hg (bk_ BK374.out)); have NB375_374 := Aside0.mk (nc_ hg (bk_ BK374.out)); replace BK374 := kb_ (bk_ BK374.out) hb; clear hb hbox hg) | ((with_reducible refine gate_dst (N := 10) rfl ?_); refine box_event ?hg (N := 10) ?hd (cs := #[.slice none 0 0, .slice none 0 0]) (t := 27) ?hr ?_; (case hd => rfl); (case hg => rfl); (case hr => first | (go_simp; done) | (go_simp; rfl)); intro gb376 hg w81 hbox hb; have BK376 := Aside0.mk (hbox); have GW376 := Aside0.mk (gw_ hg (mbs_ HB.out)); have GE376 := Aside0.mk (gw_ hg (mbs_ HB.out)); replace HB := Aside0.mk (below_step (mbs_ HB.out) hb); have NB371_376 := Aside0.mk (nb_ hg (bk_ BK371.out)); have NB376_371 := Aside0.mk (nc_ hg (bk_ BK371.out)); replace BK371 := kb_ (bk_ BK371.out) hb; have NB372_376 := Aside0.mk (nb_ hg (bk_ BK372.out)); have NB376_372 := Aside0.mk (nc_ hg (bk_ BK372.out)); replace BK372 := kb_ (bk_ BK372.out) hb; have NB373_376 := Aside0.mk (nb_ hg (bk_ BK373.out)); have NB376_373 := Aside0.mk (nc_ hg (bk_ BK373.out)); replace BK373 := kb_ (bk_ BK373.out) hb; have NB374_376 := Aside0.mk (nb_ hg (bk_ BK374.out)); have NB376_374 := Aside0.mk (nc_ hg (bk_ BK374.out)); replace BK374 := kb_ (bk_ BK374.out) hb; have NB375_376 := Aside0.mk (nb_ hg (bk_ BK375.out)); have NB376_375 := Aside0.mk (nc_ hg (bk_ BK375.out)); replace BK375 := kb_ (bk_ BK375.out) hb; clear hb hbox hg; have hnb82 := NB371_372.out; have hnc82 := NB372_371.out; have hnb83 := NB371_373.out; have hnc83 := NB373_371.out; have hnb84 := NB371_374.out; have hnc84 := NB374_371.out; have hnb85 := NB371_375.out; have hnc85 := NB375_371.out; have hnb86 := NB371_376.out; have hnc86 := NB376_371.out; have hcz87_0 := bc0_ BK371.out; have hcz87_1 := bc1_ BK371.out; have hfz87_0 := blk_frozen BK371.out 0; have hfz87_1 := blk_frozen BK371.out 1; have hnb88 := NB372_373.out; have hnc88 := NB373_372.out; have hnb89 := NB372_374.out; have hnc89 := NB374_372.out; have hnb90 := NB372_375.out; have hnc90 := NB375_372.out; have hnb91 := NB372_376.out; have hnc91 := NB376_372.out; have hcz92_0 := bc0_ BK372.out; have hcz92_1 := bc1_ BK372.out; have hfz92_0 := blk_frozen BK372.out 0; have hfz92_1 := blk_frozen BK372.out 1; have hnb93 := NB374_373.out; have hnc93 := NB373_374.out; have hnb94 := NB374_375.out; have hnc94 := NB375_374.out; have hnb95 := NB374_376.out; have hnc95 := NB376_374.out; have hcz96_0 := bc0_ BK374.out; have hcz96_1 := bc1_ BK374.out; have hfz96_0 := blk_frozen BK374.out 0; have hfz96_1 := blk_frozen BK374.out 1) | ((with_reducible refine gate_callee (f := 14) rfl ?_); refine goesL_ (some 17) rfl rfl Try.func14 (by kernel_rfl) rfl #[.agg #[.slice A0_0 l0_0.length c0_0, .slice A0_1 l0_1.length c0_1], .agg #[.slice A1_0 l1_0.length c1_0, .slice A1_1 l1_1.length c1_1], .agg #[.slice A3_0 l3_0.length c3_0, .slice A3_1 l3_1.length c3_1]] rfl (by (try simp only [List.map_toArray, List.map_cons, List.map_nil]); first | done | rfl | (simp only [List.length_drop, List.length_take]; rfl)) ?_; (with_reducible refine (scarfjointref06_Valid.calls k _ _ l0_0 _ _ l0_1 _ _ l1_0 _ _ l1_1 _ _ l3_0 _ _ l3_1 t377 _ ?side1 ?side2 ?side3 ?side4 ?side5 ?side6 ?side7 ?side8 ?side9 ?side10 ?side11 ?side12 A6.out).mono ?_); (case side1 => exact mc_ (Kd.C_below HR0_0.out HB.out)); (case side2 => exact HC0_0.out); (case side3 => exact mc_ (Kd.C_below HR0_1.out HB.out)); (case side4 => exact HC0_1.out); (case side5 => exact mc_ (Kd.C_below HR1_0.out HB.out)); (case side6 => exact HC1_0.out); (case side7 => exact mc_ (Kd.C_below HR1_1.out HB.out)); (case side8 => exact HC1_1.out); (case side9 => exact mc_ (Kd.C_below HR3_0.out HB.out)); (case side10 => exact HC3_0.out); (case side11 => exact mc_ (Kd.C_below HR3_1.out HB.out)); (case side12 => exact HC3_1.out); rintro e w97 ⟨rfl, hb⟩; refine ⟨_, rfl, ?_⟩; replace BK371 := kb_ (bk_ BK371.out) hb; replace BK372 := kb_ (bk_ BK372.out) hb; replace BK373 := kb_ (bk_ BK373.out) hb; replace BK374 := kb_ (bk_ BK374.out) hb; replace BK375 := kb_ (bk_ BK375.out) hb; replace BK376 := kb_ (bk_ BK376.out) hb; replace HB := Aside0.mk (below_step (mbs_ HB.out) hb); (try clear hb); (try clear hb2); (try clear hk); (try clear hi); have hnb98 := NB376_373.out; have hnc98 := NB373_376.out; have hnb99 := NB376_375.out; have hnc99 := NB375_376.out; have hcz100_0 := bc0_ BK376.out; have hcz100_1 := bc1_ BK376.out; have hfz100_0 := blk_frozen BK376.out 0; have hfz100_1 := blk_frozen BK376.out 1))
 refine bodyPost_ret (results_ct rfl _ _ gb376 27 #[.slice none 0 0, .slice none 0 0] (0, 0) _ rfl (by (with_reducible repeat (first | refine blk_drewN ?_ _ | refine blk_drew ?_ | refine blk_alloc ?_ _)); refine blk_put (cs := #[.slice none 0 0, .slice none 0 0]) ?_ 1 _ rfl; (with_reducible repeat (first | refine blk_drewN ?_ _ | refine blk_drew ?_ | refine blk_alloc ?_ _)); refine blk_put (cs := #[.slice none 0 0, .slice none 0 0]) ?_ 0 _ rfl; (with_reducible repeat (first | refine blk_drewN ?_ _ | refine blk_drew ?_ | refine blk_alloc ?_ _)); exact BK376.out) Try.underlying27 rfl (by kernel_rfl)) rfl ?_
 exact ⟨_, _, by first | rfl | (simp [errW_none, errW_some] <;> rfl) | (simp [*, errW_none, errW_some] <;> rfl), by first | exact Kd.R_nil _ _ _ _ _ | exact Kd.N_nil _ _ _ _ _ | exact Kd.V_nil _ _ _ _ _ | exact Kd.Q_nil _ _ _ _ _ | exact Kd.S_nil _ _ _ _ _, by first | exact Kd.R_nil _ _ _ _ _ | exact Kd.N_nil _ _ _ _ _ | exact Kd.V_nil _ _ _ _ _ | exact Kd.Q_nil _ _ _ _ _ | exact Kd.S_nil _ _ _ _ _, mbs_ HB.out⟩

end Go.Proofs.Ytklacpdobpkbbaa.P
