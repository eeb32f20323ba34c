-- Written by wip/drive.py of this session's repo over the kit's print.py (with contracts of the session's own): not the print's own text
import Derived.Test.YtklacpdobpkbbaaPx0
import Derived.Test.YtklacpdobpkbbaaPx8
namespace Go.Proofs.Ytklacpdobpkbbaa.P
open Go.RowKit Go.Proofs.YtklacpdobpkbbaaW.PrintWords Go.Proofs.YtklacpdobpkbbaaW.PrintLast Go.Proofs.YtklacpdobpkbbaaW.PrintMore
attribute [local go_sem] max2_int min2_int max_two min_two max_three min_three max_four min_four   -- for this text's walks alone
set_option linter.unusedVariables false
set_option linter.unusedSimpArgs false

/-! ### morphism_All: function 20 -/
/-- Whether the ends of edge i have places among the images. -/
def search_in (e1 : List S65) (nd : List Int) (i : Int) : Bool := decide (0 ≤ (rd_T65 e1 i).f1) && (decide ((rd_T65 e1 i).f1 < (nd.length : Int)) && (decide (0 ≤ (rd_T65 e1 i).f2) && decide ((rd_T65 e1 i).f2 < (nd.length : Int))))
/-- Which of the first n edges of the second graph edge i of the first one can go to. -/
def search_fits (e1 e2 : List S65) (nd : List Int) (i : Int) (k : Int) : Bool := (rd_T65 e2 k).f0 == (rd_T65 e1 i).f0 && ((rd_T65 e2 k).f1 == rd nd (rd_T65 e1 i).f1 && (rd_T65 e2 k).f2 == rd nd (rd_T65 e1 i).f2)
def search_opts (e1 e2 : List S65) (nd : List Int) (i : Int) (n : Nat) : List Int := ((List.range n).filter fun k : Nat => search_fits e1 e2 nd i (k : Int)).map fun k : Nat => (k : Int)
def search_addE (e1 e2 : List S65) (nd : List Int) : Nat → List Int → List S27 → Option (List S27)
  | 0, _, _ => none
  | k + 1, ed, out => if out.length > 2000 then some out else if ed.length = e1.length then some (out ++ [⟨nd, ed⟩]) else if ed.length < e1.length then (if search_in e1 nd (ed.length : Int) = true then (search_opts e1 e2 nd (ed.length : Int) e2.length).foldlM (fun o x => search_addE e1 e2 nd k (ed ++ [x]) o) out else none) else none
def search_pos (e1 e2 : List S65) (nd : List Int) : Nat → Nat → Option Bool
  | 0, _ => some true
  | d + 1, i => if mx (rd_T65 e1 (i : Int)).f1 (rd_T65 e1 (i : Int)).f2 = (nd.length : Int) - 1 then (if search_in e1 nd (i : Int) = true then (if (search_opts e1 e2 nd (i : Int) e2.length).length = 0 then some false else search_pos e1 e2 nd d (i + 1)) else none) else search_pos e1 e2 nd d (i + 1)
def search_addN (n1 : List Int) (e1 : List S65) (n2 : List Int) (e2 : List S65) : Nat → List Int → List S27 → Option (List S27)
  | 0, _, _ => none
  | k + 1, nd, out => if out.length > 2000 then some out else if nd.length = n1.length then search_addE e1 e2 nd k [] out else if nd.length < n1.length then ((List.range n2.length).map fun i : Nat => (i : Int)).foldlM (fun o i => if rd n2 i = rd n1 (nd.length : Int) then (search_pos e1 e2 (nd ++ [i]) e1.length 0).bind fun b => if b = true then search_addN n1 e1 n2 e2 k (nd ++ [i]) o else some o else some o) out else none
def morphism_All.f (k : Nat) (l0_0 : List Int) (l0_1 : List S65) (l1_0 : List Int) (l1_1 : List S65) : Option (List S27 × Int) :=
  (graph_Valid.f l0_0 l0_1).bind fun e => if e = 0 then ((graph_Valid.f l1_0 l1_1).bind fun e2 => if e2 = 0 then ((search_addN l0_0 l0_1 l1_0 l1_1 k [] []).bind fun out => if out.length > 2000 then some ([], 3) else some (out, 0)) else some ([], e2)) else some ([], e)
theorem LeO.foldlM {α β : Type} {f g : β → α → Option β} (h : ∀ b a, LeO (f b a) (g b a)) : ∀ (l : List α) (b : β), LeO (l.foldlM f b) (l.foldlM g b) := by
  intro l
  induction l with
  | nil => exact fun b => LeO.refl _
  | cons a l ih => exact fun b => LeO.bind (h b a) (fun c => ih c)
theorem search_monoE (e1 e2 : List S65) (nd : List Int) : ∀ k ed out, LeO (search_addE e1 e2 nd k ed out) (search_addE e1 e2 nd (k + 1) ed out)
  | 0, _, _ => LeO.none _
  | k + 1, ed, out => by
    have ih := search_monoE e1 e2 nd k
    rw [search_addE, search_addE]
    repeat' first
      | (with_reducible exact LeO.refl _)
      | (with_reducible exact LeO.none _)
      | exact LeO.foldlM (fun o x => ih _ _) _ _
      | (with_reducible refine LeO.ite ?_ ?_)
theorem search_monoN (n1 : List Int) (e1 : List S65) (n2 : List Int) (e2 : List S65) : ∀ k nd out, LeO (search_addN n1 e1 n2 e2 k nd out) (search_addN n1 e1 n2 e2 (k + 1) nd out)
  | 0, _, _ => LeO.none _
  | k + 1, nd, out => by
    have ih := search_monoN n1 e1 n2 e2 k
    rw [search_addN, search_addN]
    repeat' first
      | exact search_monoE _ _ _ _ _ _
      | (with_reducible exact LeO.refl _)
      | (with_reducible exact LeO.none _)
      | exact LeO.foldlM (fun o x => LeO.ite (LeO.bind (LeO.refl _) (fun b => LeO.ite (ih _ _) (LeO.refl _))) (LeO.refl _)) _ _
      | (with_reducible refine LeO.ite ?_ ?_)
theorem morphism_All.mono : ∀ a0 a1 a2 a3 k, LeO (morphism_All.f k a0 a1 a2 a3) (morphism_All.f (k + 1) a0 a1 a2 a3) := by
  intro a0 a1 a2 a3 k
  unfold morphism_All.f
  repeat' first
      | exact search_monoN _ _ _ _ _ _ _
      | (with_reducible exact LeO.refl _)
      | (with_reducible exact LeO.none _)
      | (with_reducible refine LeO.ite ?_ ?_)
      | (with_reducible refine LeO.bind ?_ (fun _ => ?_))
theorem wrap_up_ {x : Int} {n : Nat} (h0 : 0 ≤ x) (h : x < (n : Int)) (hn : n ≤ 9223372036854775807) : wrap64 (x + 1) = x + 1 := by
  unfold wrap64
  omega
/-- The search at block g: two graphs that came in, the images so far, what has been found. -/
structure SSt (w0 : World) (g : Nat) (A0 A1 A2 A3 : Option Addr) (c0 c1 c2 c3 : Nat) (n1 : List Int) (e1 : List S65) (n2 : List Int) (e2 : List S65) (w : World) (nd ed : List Int) (out : List S27) (vN vE vO : Value) : Prop where
  blk : w.heap[g]? = some (.cells #[.slice A0 n1.length c0, .slice A1 e1.length c1, .slice A2 n2.length c2, .slice A3 e2.length c3, vN, vE, vO] 74 (0, 0))
  N : Kd.R (Kd.int .i64) 3 w w0.heap.size (fun k => True ∧ some k ≠ vE.ownBlock) vN nd
  E : Kd.R (Kd.int .i64) 3 w w0.heap.size (fun k => True ∧ some k ≠ vN.ownBlock) vE ed
  O : Kd.S k27 27 w w0.heap.size (fun k => (True ∧ some k ≠ vN.ownBlock) ∧ some k ≠ vE.ownBlock) vO out
  below : Below w0.heap.size w0 w
  lo : w0.heap.size ≤ g
theorem own_cut (A : Option Addr) (m n c : Nat) : (Value.slice A m c).ownBlock = (Value.slice A n c).ownBlock := by
  cases A with
  | none => rfl
  | some a => rfl
/-- What a step of the search may have turned: the search's own block, and the blocks of its rows; each row is where it was, or new. -/
structure SPost (g : Nat) (w w1 : World) (a b c a1 b1 c1 : Value) : Prop where
  size : w.heap.size ≤ w1.heap.size
  keep : ∀ k, k < w.heap.size → k ≠ g → some k ≠ a.ownBlock → some k ≠ b.ownBlock → some k ≠ c.ownBlock → w1.heap[k]? = w.heap[k]?
  N : a1.ownBlock = a.ownBlock ∨ ∃ k, a1.ownBlock = some k ∧ w.heap.size ≤ k
  E : b1.ownBlock = b.ownBlock ∨ ∃ k, b1.ownBlock = some k ∧ w.heap.size ≤ k
  O : c1.ownBlock = c.ownBlock ∨ ∃ k, c1.ownBlock = some k ∧ w.heap.size ≤ k
theorem SPost.refl (g : Nat) (w : World) (a b c : Value) : SPost g w w a b c a b c := ⟨Nat.le_refl _, fun _ _ _ _ _ _ => rfl, .inl rfl, .inl rfl, .inl rfl⟩
theorem SPost.later {g : Nat} {w w1 : World} {a b c : Value} (h : Below w.heap.size w w1) : SPost g w w1 a b c a b c := ⟨h.size, fun k hk _ _ _ _ => h.block k hk, .inl rfl, .inl rfl, .inl rfl⟩
theorem SPost.set (g j : Nat) (w : World) (u : Value) (a b c : Value) : SPost g w (w.setCell ⟨g, j, none⟩ u) a b c a b c := ⟨by simp [World.setCell], fun k _ hk _ _ _ => Below.heap_setCell w ⟨g, j, none⟩ u k hk, .inl rfl, .inl rfl, .inl rfl⟩
theorem fresh_trans {w w1 : World} {a a1 a2 : Value} (hs : w.heap.size ≤ w1.heap.size) (h : a1.ownBlock = a.ownBlock ∨ ∃ k, a1.ownBlock = some k ∧ w.heap.size ≤ k) (h' : a2.ownBlock = a1.ownBlock ∨ ∃ k, a2.ownBlock = some k ∧ w1.heap.size ≤ k) : a2.ownBlock = a.ownBlock ∨ ∃ k, a2.ownBlock = some k ∧ w.heap.size ≤ k := by
  rcases h' with h' | ⟨k, h', hk⟩
  · rw [h']
    exact h
  · exact .inr ⟨k, h', by omega⟩
theorem fresh_ne_ {w : World} {a a1 : Value} {k : Nat} (h : a1.ownBlock = a.ownBlock ∨ ∃ k, a1.ownBlock = some k ∧ w.heap.size ≤ k) (hk : k < w.heap.size) (hne : some k ≠ a.ownBlock) : some k ≠ a1.ownBlock := by
  rcases h with h | ⟨b, h, hb⟩
  · rw [h]
    exact hne
  · rw [h]
    intro e
    injection e with e
    omega
theorem SPost.trans {g : Nat} {w w1 w2 : World} {a b c a1 b1 c1 a2 b2 c2 : Value} (h : SPost g w w1 a b c a1 b1 c1) (h' : SPost g w1 w2 a1 b1 c1 a2 b2 c2) : SPost g w w2 a b c a2 b2 c2 :=
  ⟨Nat.le_trans h.size h'.size, fun k hk hg ha hb hc => (h'.keep k (by have := h.size; omega) hg (fresh_ne_ h.N hk ha) (fresh_ne_ h.E hk hb) (fresh_ne_ h.O hk hc)).trans (h.keep k hk hg ha hb hc), fresh_trans h.size h.N h'.N, fresh_trans h.size h.E h'.E, fresh_trans h.size h.O h'.O⟩
/-- Another row of the call's own. -/
def okR (g : Nat) (a b c : Value) (k : Nat) : Prop := k ≠ g ∧ some k ≠ a.ownBlock ∧ some k ≠ b.ownBlock ∧ some k ≠ c.ownBlock
theorem SPost.row {α : Type} {d : Kd α} {e base g : Nat} {w w1 : World} {a b c a1 b1 c1 v : Value} {xs : List α} (h : SPost g w w1 a b c a1 b1 c1) (r : Kd.R d e w base (okR g a b c) v xs) : Kd.R d e w1 base (okR g a1 b1 c1) v xs :=
  Kd.R_mono (Kd.R_step (Kd.R_bound r) (fun k hk hlt => h.keep k hlt hk.1.1 hk.1.2.1 hk.1.2.2.1 hk.1.2.2.2)) (fun k hk => ⟨hk.1.1, fresh_ne_ h.N hk.2.2.1 hk.1.2.1, fresh_ne_ h.E hk.2.2.1 hk.1.2.2.1, fresh_ne_ h.O hk.2.2.1 hk.1.2.2.2⟩)
section
variable {w0 w w1 : World} {g : Nat} {A0 A1 A2 A3 : Option Addr} {c0 c1 c2 c3 : Nat} {n1 n2 nd ed : List Int} {e1 e2 : List S65} {out : List S27} {vN vE vO : Value}
theorem SSt.later (st : SSt w0 g A0 A1 A2 A3 c0 c1 c2 c3 n1 e1 n2 e2 w nd ed out vN vE vO) (h : Below w.heap.size w w1) : SSt w0 g A0 A1 A2 A3 c0 c1 c2 c3 n1 e1 n2 e2 w1 nd ed out vN vE vO :=
  ⟨blk_below st.blk h, Kd.R_below st.N h, Kd.R_below st.E h, Kd.S_below st.O h, below_step st.below h, st.lo⟩
theorem ne_int : ∀ q, q ∈ 3 :: (Kd.int .i64).E → q ≠ 74 := by decide
theorem ne_mor : ∀ q, q ∈ 27 :: k27.E → q ≠ 74 := by decide
theorem SSt.putE {v1 : Value} {ed1 : List Int} (st : SSt w0 g A0 A1 A2 A3 c0 c1 c2 c3 n1 e1 n2 e2 w nd ed out vN vE vO) (hR : Kd.R (Kd.int .i64) 3 w1 w0.heap.size (fun k => True ∧ some k ≠ vN.ownBlock) v1 ed1) (hg : w.grownBy w1 vE.ownBlock) (hat : v1.ownBlock = vE.ownBlock ∨ ∃ b, v1.ownBlock = some b ∧ w.heap.size ≤ b) (hb : Below w0.heap.size w0 w1) :
    SSt w0 g A0 A1 A2 A3 c0 c1 c2 c3 n1 e1 n2 e2 (w1.setCell ⟨g, 5, none⟩ v1) nd ed1 out vN v1 vO ∧ SPost g w (w1.setCell ⟨g, 5, none⟩ v1) vN vE vO vN v1 vO := by
  have b1 := blk_grown st.blk hg (Kd.R_ne st.E st.blk (by decide))
  refine ⟨⟨blk_put b1 5 v1 rfl, Kd.R_set (Kd.R_after st.N hg hat) b1 ne_int 5 v1, Kd.R_set hR b1 ne_int 5 v1, Kd.S_set (Kd.S_after st.O hg hat) b1 ne_mor 5 v1, below_set hb st.lo, st.lo⟩, ?_⟩
  exact SPost.trans (w1 := w1) (a1 := vN) (b1 := v1) (c1 := vO) ⟨hg.size, fun k hk _ _ hE _ => hg.block k hk hE, .inl rfl, hat, .inl rfl⟩ (SPost.set g 5 w1 v1 vN v1 vO)
theorem SSt.putN {v1 : Value} {nd1 : List Int} (st : SSt w0 g A0 A1 A2 A3 c0 c1 c2 c3 n1 e1 n2 e2 w nd ed out vN vE vO) (hR : Kd.R (Kd.int .i64) 3 w1 w0.heap.size (fun k => True ∧ some k ≠ vE.ownBlock) v1 nd1) (hg : w.grownBy w1 vN.ownBlock) (hat : v1.ownBlock = vN.ownBlock ∨ ∃ b, v1.ownBlock = some b ∧ w.heap.size ≤ b) (hb : Below w0.heap.size w0 w1) :
    SSt w0 g A0 A1 A2 A3 c0 c1 c2 c3 n1 e1 n2 e2 (w1.setCell ⟨g, 4, none⟩ v1) nd1 ed out v1 vE vO ∧ SPost g w (w1.setCell ⟨g, 4, none⟩ v1) vN vE vO v1 vE vO := by
  have b1 := blk_grown st.blk hg (Kd.R_ne st.N st.blk (by decide))
  have o1 : Kd.S k27 27 w w0.heap.size (fun k => (True ∧ some k ≠ vE.ownBlock) ∧ some k ≠ vN.ownBlock) vO out := Kd.S_mono st.O (fun k hk => ⟨⟨True.intro, hk.2⟩, hk.1.2⟩)
  have o3 : Kd.S k27 27 w1 w0.heap.size (fun k => (True ∧ some k ≠ v1.ownBlock) ∧ some k ≠ vE.ownBlock) vO out := Kd.S_mono (Kd.S_after o1 hg hat) (fun k hk => ⟨⟨True.intro, hk.2⟩, hk.1.2⟩)
  refine ⟨⟨blk_put b1 4 v1 rfl, Kd.R_set hR b1 ne_int 4 v1, Kd.R_set (Kd.R_after st.E hg hat) b1 ne_int 4 v1, Kd.S_set o3 b1 ne_mor 4 v1, below_set hb st.lo, st.lo⟩, ?_⟩
  exact SPost.trans (w1 := w1) (a1 := v1) (b1 := vE) (c1 := vO) ⟨hg.size, fun k hk _ hN _ _ => hg.block k hk hN, hat, .inl rfl, .inl rfl⟩ (SPost.set g 4 w1 v1 v1 vE vO)
theorem SSt.putO {v1 : Value} {out1 : List S27} (st : SSt w0 g A0 A1 A2 A3 c0 c1 c2 c3 n1 e1 n2 e2 w nd ed out vN vE vO) (hR : Kd.S k27 27 w1 w0.heap.size (fun k => (True ∧ some k ≠ vN.ownBlock) ∧ some k ≠ vE.ownBlock) v1 out1) (hg : w.grownBy w1 vO.ownBlock) (hat : v1.ownBlock = vO.ownBlock ∨ ∃ b, v1.ownBlock = some b ∧ w.heap.size ≤ b) (hb : Below w0.heap.size w0 w1) :
    SSt w0 g A0 A1 A2 A3 c0 c1 c2 c3 n1 e1 n2 e2 (w1.setCell ⟨g, 6, none⟩ v1) nd ed out1 vN vE v1 ∧ SPost g w (w1.setCell ⟨g, 6, none⟩ v1) vN vE vO vN vE v1 := by
  have b1 := blk_grown st.blk hg (Kd.S_ne st.O st.blk (by decide))
  have hO := fun k (hk : vO.ownBlock = some k) => Kd.S_typed st.O k hk
  refine ⟨⟨blk_put b1 6 v1 rfl, Kd.R_set (Kd.R_over' st.N hO (by decide) hg) b1 ne_int 6 v1, Kd.R_set (Kd.R_over' st.E hO (by decide) hg) b1 ne_int 6 v1, Kd.S_set hR b1 ne_mor 6 v1, below_set hb st.lo, st.lo⟩, ?_⟩
  exact SPost.trans (w1 := w1) (a1 := vN) (b1 := vE) (c1 := v1) ⟨hg.size, fun k hk _ _ _ hO => hg.block k hk hO, .inl rfl, .inl rfl, hat⟩ (SPost.set g 6 w1 v1 vN vE v1)
theorem SSt.cutE {A : Option Addr} {n c m : Nat} (st : SSt w0 g A0 A1 A2 A3 c0 c1 c2 c3 n1 e1 n2 e2 w nd ed out vN (.slice A n c) vO) (hm : m ≤ ed.length) :
    SSt w0 g A0 A1 A2 A3 c0 c1 c2 c3 n1 e1 n2 e2 (w.setCell ⟨g, 5, none⟩ (.slice A m c)) nd (ed.take m) out vN (.slice A m c) vO ∧ SPost g w (w.setCell ⟨g, 5, none⟩ (.slice A m c)) vN (.slice A n c) vO vN (.slice A m c) vO := by
  have e := own_cut A m n c
  refine ⟨⟨blk_put st.blk 5 _ rfl, Kd.R_set (Kd.R_mono st.N (fun k hk => by rw [e]; exact hk)) st.blk ne_int 5 _, Kd.R_set (Kd.R_take st.E hm) st.blk ne_int 5 _, Kd.S_set (Kd.S_mono st.O (fun k hk => by rw [e]; exact hk)) st.blk ne_mor 5 _, below_set st.below st.lo, st.lo⟩, ?_⟩
  have := SPost.set g 5 w (.slice A m c) vN (.slice A n c) vO
  exact ⟨this.size, this.keep, this.N, .inl e, this.O⟩
theorem SSt.cutN {A : Option Addr} {n c m : Nat} (st : SSt w0 g A0 A1 A2 A3 c0 c1 c2 c3 n1 e1 n2 e2 w nd ed out (.slice A n c) vE vO) (hm : m ≤ nd.length) :
    SSt w0 g A0 A1 A2 A3 c0 c1 c2 c3 n1 e1 n2 e2 (w.setCell ⟨g, 4, none⟩ (.slice A m c)) (nd.take m) ed out (.slice A m c) vE vO ∧ SPost g w (w.setCell ⟨g, 4, none⟩ (.slice A m c)) (.slice A n c) vE vO (.slice A m c) vE vO := by
  have e := own_cut A m n c
  refine ⟨⟨blk_put st.blk 4 _ rfl, Kd.R_set (Kd.R_take st.N hm) st.blk ne_int 4 _, Kd.R_set (Kd.R_mono st.E (fun k hk => by rw [e]; exact hk)) st.blk ne_int 4 _, Kd.S_set (Kd.S_mono st.O (fun k hk => by rw [e]; exact hk)) st.blk ne_mor 4 _, below_set st.below st.lo, st.lo⟩, ?_⟩
  have := SPost.set g 4 w (.slice A m c) (.slice A n c) vE vO
  exact ⟨this.size, this.keep, .inl e, this.E, this.O⟩
/-- A row that was made behind the state is none of its. -/
theorem SSt.new {α : Type} {d : Kd α} {e : Nat} {v : Value} {xs : List α} (st : SSt w0 g A0 A1 A2 A3 c0 c1 c2 c3 n1 e1 n2 e2 w nd ed out vN vE vO) (r : Kd.R d e w1 w.heap.size (fun _ => True) v xs) : Kd.R d e w1 w.heap.size (okR g vN vE vO) v xs :=
  Kd.R_mono (Kd.R_bound r) (fun k hk => ⟨fun h => by have := blk_lt st.blk; have := hk.2.1; omega, fun h => by have := Kd.R_lt st.N k h.symm; have := hk.2.1; omega, fun h => by have := Kd.R_lt st.E k h.symm; have := hk.2.1; omega, fun h => by have := Kd.S_lt st.O k h.symm; have := hk.2.1; omega⟩)
end
theorem search_opts_succ (e1 e2 : List S65) (nd : List Int) (i : Int) (n : Nat) : search_opts e1 e2 nd i (n + 1) = search_opts e1 e2 nd i n ++ (if search_fits e1 e2 nd i (n : Int) = true then [(n : Int)] else []) := by
  unfold search_opts
  rw [List.range_succ, List.filter_append, List.map_append]
  congr 1
  by_cases h : search_fits e1 e2 nd i (n : Int) = true <;> simp [h]
theorem search_opts_len (e1 e2 : List S65) (nd : List Int) (i : Int) (n : Nat) : (search_opts e1 e2 nd i n).length ≤ n := by
  unfold search_opts
  rw [List.length_map]
  exact Nat.le_trans (List.length_filter_le _ _) (by simp)
set_option maxHeartbeats 4000000 in
set_option maxRecDepth 100000 in
theorem search_options {A1 A3 AN : Option Addr} {g c1 c3 cN : Nat} {e1 e2 : List S65} {nd : List Int} {w : World} (i : Int) (h1 : w.cell? ⟨g, 1, none⟩ = some (.slice A1 e1.length c1)) (h3 : w.cell? ⟨g, 3, none⟩ = some (.slice A3 e2.length c3)) (h4 : w.cell? ⟨g, 4, none⟩ = some (.slice AN nd.length cN))
    (k1 : Kd.C k65 w A1 e1.length e1) (k3 : Kd.C k65 w A3 e2.length e2) (kN : Kd.C (Kd.int .i64) w AN nd.length nd) (hm : e2.length ≤ 1000) (hi0 : 0 ≤ i) (hi1 : i < (e1.length : Int)) (hin : search_in e1 nd i = true) :
    Calls Try.prog 77 #[.pointer (some ⟨g, 0, none⟩), .int .i64 i] w fun e w' => ∃ v, e = .returned v ∧ Kd.R (Kd.int .i64) 3 w' w.heap.size (fun _ => True) v (search_opts e1 e2 nd i e2.length) ∧ Below w.heap.size w w' := by
  have hu1 := Try.underlying25
  have hu2 := Try.underlying65
  have hu3 := Try.underlying74
  have HB := Aside0.mk (Below.refl w.heap.size w)
  simp only [search_in, Bool.and_eq_true, decide_eq_true_eq] at hin
  obtain ⟨f1, f2, f3, f4⟩ := hin
  obtain ⟨ad1, e1_, hx0, hx1, hx2⟩ := at_T65 k1 i hi0 hi1
  cases e1_
  obtain ⟨ad3, e3_, hm1⟩ := Kd.at_int kN (rd_T65 e1 i).f1 f1 f2
  obtain ⟨ad4, e4_, hm2⟩ := Kd.at_int kN (rd_T65 e1 i).f2 f3 f4
  obtain rfl : ad3 = ad4 := by rw [e3_] at e4_; injection e4_
  cases e3_
  clear e4_
  have K3 := Aside0.mk k3
  have HM := Aside0.mk hm
  have I0 := Aside0.mk hi0
  have I1 := Aside0.mk hi1
  clear k1 k3 kN hm
  replace hi0 := eq_true hi0
  replace hi1 := eq_true hi1
  have F1 := Aside0.mk f1
  have F2 := Aside0.mk f2
  have F3 := Aside0.mk f3
  have F4 := Aside0.mk f4
  replace f1 := eq_true f1
  replace f2 := eq_true f2
  replace f3 := eq_true f3
  replace f4 := eq_true f4
  have h3a := fun o : Obj => cell_alloc_ (o := o) h3
  go_enter Try.func77, Try.ntmps77
  go_wp2
  go_loopw [6, 23] (fun v6 v23 wr => ∃ x : Int, v23 = .int .i64 x ∧ Aside0 (0 ≤ x ∧ x ≤ (e2.length : Int)) ∧ Aside0 (Kd.R (Kd.int .i64) 3 wr w.heap.size (fun k => k ≠ w.heap.size) v6 (search_opts e1 e2 nd i x.toNat)) ∧ Aside0 (Below w.heap.size w wr) ∧ Aside0 (wr.heap[w.heap.size]? = some (.cells #[.int .i64 (rd_T65 e1 i).f0, .int .i64 (rd_T65 e1 i).f1, .int .i64 (rd_T65 e1 i).f2] 65 (0, 0)))) (fun _ v23 _ => ((e2.length : Int) - intOf v23).toNat)
  case atStart => exact ⟨0, rfl, ⟨by omega⟩, ⟨Kd.R_nil _ _ _ _ _⟩, ⟨mb_ HB.out⟩, ⟨blk_new w _⟩⟩
  case round =>
    obtain ⟨x, rfl, hx, HO, HB2, HG⟩ := hrel
    by_cases c1 : x < (e2.length : Int)
    case neg =>
      have c1b : decide (x < (e2.length : Int)) = false := decide_eq_false c1
      have hxe : x.toNat = e2.length := by have := hx.out; omega
      rw [hxe] at HO
      clear c1 hxe
      go_wp2
      go_ret
      exact ⟨_, rfl, Kd.R_mono (mr_ HO.out) (fun _ _ => trivial), mb_ HB2.out⟩
    have c1b : decide (x < (e2.length : Int)) = true := decide_eq_true c1
    have p1 : 0 ≤ x := hx.out.1
    obtain ⟨ad3, e3_, hy0, hy1, hy2⟩ := at_T65 K3.out x p1 c1
    cases e3_
    replace hy0 := (HB2.out.cell (World.block_lt_of_cell? w _ hy0)).trans hy0
    replace hy1 := (HB2.out.cell (World.block_lt_of_cell? w _ hy1)).trans hy1
    replace hy2 := (HB2.out.cell (World.block_lt_of_cell? w _ hy2)).trans hy2
    have hm1a := fun o : Obj => cell_alloc_ (o := o) ((HB2.out.cell (World.block_lt_of_cell? w _ hm1)).trans hm1)
    have hm2a := fun o : Obj => cell_alloc_ (o := o) ((HB2.out.cell (World.block_lt_of_cell? w _ hm2)).trans hm2)
    have h4a := fun o : Obj => cell_alloc_ (o := o) ((HB2.out.cell (World.block_lt_of_cell? w _ h4)).trans h4)
    have hg0 := fun o : Obj => cell_alloc_ (o := o) (bc0_ HG.out)
    have hg1 := fun o : Obj => cell_alloc_ (o := o) (bc1_ HG.out)
    have hg2 := fun o : Obj => cell_alloc_ (o := o) (bc2_ HG.out)
    have P1 := Aside0.mk p1
    have Q1 := Aside0.mk c1
    replace p1 := eq_true p1
    replace c1 := eq_true c1
    have HS : Aside0 (search_opts e1 e2 nd i (x + 1).toNat = search_opts e1 e2 nd i x.toNat ++ (if search_fits e1 e2 nd i x = true then [x] else [])) := ⟨by
      have := search_opts_succ e1 e2 nd i x.toNat
      rw [Int.toNat_of_nonneg P1.out] at this
      rw [toNat_succ P1.out]
      exact this⟩
    have HW : Aside0 (wrap64 (x + 1) = x + 1) := ⟨wrap_up_ P1.out Q1.out (by have := HM.out; omega)⟩
    have HLn : Aside0 ((search_opts e1 e2 nd i x.toNat).length + 1 < 17592186044416) := ⟨by have := search_opts_len e1 e2 nd i x.toNat; have := HM.out; have := Q1.out; omega⟩
    by_cases q1 : (rd_T65 e2 x).f0 = (rd_T65 e1 i).f0
    case neg =>
      have q1b : ((rd_T65 e2 x).f0 == (rd_T65 e1 i).f0) = false := beq_eq_false_iff_ne.mpr q1
      have hf : Aside0 (search_opts e1 e2 nd i (x + 1).toNat = search_opts e1 e2 nd i x.toNat) := ⟨by rw [HS.out]; simp [search_fits, q1b]⟩
      clear q1 HS
      go_wp2
      go_quiet (fail)
      go_wp2
      go_roundw
      case rel => exact ⟨x + 1, by rw [HW.out], ⟨by have := P1.out; have := Q1.out; omega⟩, ⟨by rw [hf.out]; exact mr_ HO.out⟩, ⟨mb_ HB2.out⟩, ⟨bk_ HG.out⟩⟩
      case measure => rw [HW.out]; simp only [intOf]; have := P1.out; have := Q1.out; omega
    have q1b : ((rd_T65 e2 x).f0 == (rd_T65 e1 i).f0) = true := beq_iff_eq.mpr q1
    by_cases q2 : (rd_T65 e2 x).f1 = rd nd (rd_T65 e1 i).f1
    case neg =>
      have q2b : ((rd_T65 e2 x).f1 == rd nd (rd_T65 e1 i).f1) = false := beq_eq_false_iff_ne.mpr q2
      have hf : Aside0 (search_opts e1 e2 nd i (x + 1).toNat = search_opts e1 e2 nd i x.toNat) := ⟨by rw [HS.out]; simp [search_fits, q2b]⟩
      clear q1 q2 HS
      go_wp2
      go_quiet (fail)
      go_wp2
      go_roundw
      case rel => exact ⟨x + 1, by rw [HW.out], ⟨by have := P1.out; have := Q1.out; omega⟩, ⟨by rw [hf.out]; exact mr_ HO.out⟩, ⟨mb_ HB2.out⟩, ⟨bk_ HG.out⟩⟩
      case measure => rw [HW.out]; simp only [intOf]; have := P1.out; have := Q1.out; omega
    have q2b : ((rd_T65 e2 x).f1 == rd nd (rd_T65 e1 i).f1) = true := beq_iff_eq.mpr q2
    by_cases q3 : (rd_T65 e2 x).f2 = rd nd (rd_T65 e1 i).f2
    case neg =>
      have q3b : ((rd_T65 e2 x).f2 == rd nd (rd_T65 e1 i).f2) = false := beq_eq_false_iff_ne.mpr q3
      have hf : Aside0 (search_opts e1 e2 nd i (x + 1).toNat = search_opts e1 e2 nd i x.toNat) := ⟨by rw [HS.out]; simp [search_fits, q3b]⟩
      clear q1 q2 q3 HS
      go_wp2
      go_quiet (fail)
      go_wp2
      go_roundw
      case rel => exact ⟨x + 1, by rw [HW.out], ⟨by have := P1.out; have := Q1.out; omega⟩, ⟨by rw [hf.out]; exact mr_ HO.out⟩, ⟨mb_ HB2.out⟩, ⟨bk_ HG.out⟩⟩
      case measure => rw [HW.out]; simp only [intOf]; have := P1.out; have := Q1.out; omega
    have q3b : ((rd_T65 e2 x).f2 == rd nd (rd_T65 e1 i).f2) = true := beq_iff_eq.mpr q3
    have hf : Aside0 (search_opts e1 e2 nd i (x + 1).toNat = search_opts e1 e2 nd i x.toNat ++ [x]) := ⟨by rw [HS.out]; simp [search_fits, q1b, q2b, q3b]⟩
    clear q1 q2 q3 HS
    go_wp2
    go_quiet (fail)
    generalize hW1 : World.drewN (World.alloc wr _) _ = W1
    replace HO : Aside0 (Kd.R (Kd.int .i64) 3 W1 w.heap.size (fun k => k ≠ w.heap.size) u6 (search_opts e1 e2 nd i x.toNat)) := ⟨by rw [← hW1]; exact mr_ HO.out⟩
    replace HG : Aside0 (W1.heap[w.heap.size]? = some (.cells #[.int .i64 (rd_T65 e1 i).f0, .int .i64 (rd_T65 e1 i).f1, .int .i64 (rd_T65 e1 i).f2] 65 (0, 0))) := ⟨by rw [← hW1]; exact bk_ HG.out⟩
    replace HB2 : Aside0 (Below w.heap.size w W1) := ⟨by rw [← hW1]; exact mb_ HB2.out⟩
    clear hW1 hm1a hm2a h4a hg0 hg1 hg2 hy0 hy1 hy2
    go_wp2_with (first | ((with_reducible refine gate_builtin (b := .append) (xs := #[.tmp 59, .tmp 61]) rfl ?_); at_builtin; refine Kd.R_append (Kd.int .i64) (w0 := w) w.heap.size rfl (.tmp 59) (.tmp 61) 22 3 (.int .i64 0) 8 rfl Try.underlying22 info3 rfl (by decide) (by omega) u6 (search_opts e1 e2 nd i x.toNat) x [.int .i64 x] (fun k => k ≠ w.heap.size) (fun _ => False) rfl rfl ?aP (fun _ hk => hk.elim) ?aF ?aO ?aB ?aS ?aL ?_; (case aP => exact rfl); (case aB => exact mb_ HB2.out); (case aF => exact (fun k hk e => by have := blk_lt HG.out; omega)); (case aO => exact mr_ HO.out); (case aS => exact below_size (mb_ HB2.out)); (case aL => have := HLn.out; omega); intro v3 w3 ho hb hg hat; replace HG := Aside0.mk (blk_grown (bk_ HG.out) hg (fun e => (HO.out.1 _ e.symm) rfl)); replace HO := Aside0.mk ho; replace HB2 := Aside0.mk hb; clear ho hb hg hat))
    go_roundw
    case rel => exact ⟨x + 1, by rw [HW.out], ⟨by have := P1.out; have := Q1.out; omega⟩, ⟨by rw [hf.out]; exact mr_ HO.out⟩, ⟨mb_ HB2.out⟩, ⟨bk_ HG.out⟩⟩
    case measure => rw [HW.out]; simp only [intOf]; have := P1.out; have := Q1.out; omega
theorem search_pos_step (e1 e2 : List S65) (nd : List Int) (x : Int) (h0 : 0 ≤ x) (h1 : x < (e1.length : Int)) : search_pos e1 e2 nd (e1.length - x.toNat) x.toNat = if mx (rd_T65 e1 x).f1 (rd_T65 e1 x).f2 = (nd.length : Int) - 1 then (if search_in e1 nd x = true then (if (search_opts e1 e2 nd x e2.length).length = 0 then some false else search_pos e1 e2 nd (e1.length - (x + 1).toNat) (x + 1).toNat) else none) else search_pos e1 e2 nd (e1.length - (x + 1).toNat) (x + 1).toNat := by
  have e : e1.length - x.toNat = (e1.length - (x + 1).toNat) + 1 := by omega
  rw [e, search_pos, Int.toNat_of_nonneg h0, toNat_succ h0]
set_option maxHeartbeats 4000000 in
set_option maxRecDepth 100000 in
theorem search_possible {A1 A3 AN : Option Addr} {g c1 c3 cN : Nat} {e1 e2 : List S65} {nd : List Int} {w : World} (b : Bool) (h1 : w.cell? ⟨g, 1, none⟩ = some (.slice A1 e1.length c1)) (h3 : w.cell? ⟨g, 3, none⟩ = some (.slice A3 e2.length c3)) (h4 : w.cell? ⟨g, 4, none⟩ = some (.slice AN nd.length cN))
    (k1 : Kd.C k65 w A1 e1.length e1) (k3 : Kd.C k65 w A3 e2.length e2) (kN : Kd.C (Kd.int .i64) w AN nd.length nd) (hm1 : e1.length ≤ 1000) (hm : e2.length ≤ 1000) (hp : search_pos e1 e2 nd e1.length 0 = some b) :
    Calls Try.prog 68 #[.pointer (some ⟨g, 0, none⟩)] w fun e w' => e = .returned (.bool b) ∧ Below w.heap.size w w' := by
  have hu1 := Try.underlying25
  have hu2 := Try.underlying65
  have hu3 := Try.underlying74
  have HB := Aside0.mk (Below.refl w.heap.size w)
  have K1 := Aside0.mk k1
  have K3 := Aside0.mk k3
  have KN := Aside0.mk kN
  have HM1 := Aside0.mk hm1
  have HM := Aside0.mk hm
  have HP := Aside0.mk hp
  have H1 := Aside0.mk h1
  have H3 := Aside0.mk h3
  have H4 := Aside0.mk h4
  have HLN : Aside0 (wrap64 ((nd.length : Int) - 1) = (nd.length : Int) - 1) := ⟨by have := kN.2.1; unfold wrap64; omega⟩
  clear k1 k3 kN hm hm1 hp
  go_enter Try.func68, Try.ntmps68
  go_wp2
  clear h1 h3 h4
  go_loopw [18] (fun v18 wr => ∃ x : Int, v18 = .int .i64 x ∧ Aside0 (0 ≤ x ∧ x ≤ (e1.length : Int)) ∧ Aside0 (search_pos e1 e2 nd (e1.length - x.toNat) x.toNat = some b) ∧ Aside0 (Below w.heap.size w wr)) (fun v18 _ => ((e1.length : Int) - intOf v18).toNat)
  case atStart => exact ⟨0, rfl, ⟨by omega⟩, ⟨by simpa using HP.out⟩, ⟨mb_ HB.out⟩⟩
  case round =>
    obtain ⟨x, rfl, hx, HQ, HB2⟩ := hrel
    by_cases c1 : x < (e1.length : Int)
    case neg =>
      have c1b : decide (x < (e1.length : Int)) = false := decide_eq_false c1
      have hxe : e1.length - x.toNat = 0 := by have := hx.out; omega
      have H := HQ.out
      rw [hxe, search_pos] at H
      obtain rfl := Option.some.inj H
      clear c1 hxe H HQ
      go_wp2
      go_ret
      exact ⟨by first | rfl | (simp; done), mb_ HB2.out⟩
    have c1b : decide (x < (e1.length : Int)) = true := decide_eq_true c1
    have p1 : 0 ≤ x := hx.out.1
    have H := HQ.out
    rw [search_pos_step e1 e2 nd x p1 c1] at H
    clear HQ
    obtain ⟨ad3, e3_, hy0, hy1, hy2⟩ := at_T65 K1.out x p1 c1
    have E3 := Aside0.mk e3_
    have H1' := H1.out
    rw [E3.out] at H1'
    replace hy0 := (HB2.out.cell (World.block_lt_of_cell? w _ hy0)).trans hy0
    replace hy1 := (HB2.out.cell (World.block_lt_of_cell? w _ hy1)).trans hy1
    replace hy2 := (HB2.out.cell (World.block_lt_of_cell? w _ hy2)).trans hy2
    have P1 := Aside0.mk p1
    have Q1 := Aside0.mk c1
    replace p1 := eq_true p1
    replace c1 := eq_true c1
    have HW : Aside0 (wrap64 (x + 1) = x + 1) := ⟨wrap_up_ P1.out Q1.out (by have := HM1.out; omega)⟩
    have h1a := fun o : Obj => cell_alloc_ (o := o) ((HB2.out.cell (World.block_lt_of_cell? w _ H1.out)).trans H1.out)
    have h3a := fun o : Obj => cell_alloc_ (o := o) ((HB2.out.cell (World.block_lt_of_cell? w _ H3.out)).trans H3.out)
    have h4a := fun o : Obj => cell_alloc_ (o := o) ((HB2.out.cell (World.block_lt_of_cell? w _ H4.out)).trans H4.out)
    have H1a := Aside0.mk h1a
    have H3a := Aside0.mk h3a
    have H4a := Aside0.mk h4a
    clear h1a h3a h4a H1'
    obtain ⟨M, hM⟩ : ∃ M, (if (rd_T65 e1 x).f1 < (rd_T65 e1 x).f2 then (rd_T65 e1 x).f2 else (rd_T65 e1 x).f1) = M := ⟨_, rfl⟩
    have hMx : mx (rd_T65 e1 x).f1 (rd_T65 e1 x).f2 = M := hM
    rw [hMx] at H
    clear hMx
    obtain rfl := E3.out
    by_cases q1 : M = (nd.length : Int) - 1
    case neg =>
      rw [if_neg q1] at H
      have H' := Aside0.mk H
      have q1b : (M == wrap64 ((nd.length : Int) - 1)) = false := beq_eq_false_iff_ne.mpr (by rw [HLN.out]; exact q1)
      clear q1 H
      go_wp2
      go_roundw
      case rel => exact ⟨x + 1, by rw [HW.out], ⟨by have := P1.out; have := Q1.out; omega⟩, H', ⟨mb_ HB2.out⟩⟩
      case measure => rw [HW.out]; simp only [intOf]; have := P1.out; have := Q1.out; omega
    rw [if_pos q1] at H
    have q1b : (M == wrap64 ((nd.length : Int) - 1)) = true := beq_iff_eq.mpr (by rw [HLN.out]; exact q1)
    clear q1
    by_cases q2 : search_in e1 nd x = true
    case neg =>
      rw [if_neg q2] at H
      cases H
    rw [if_pos q2] at H
    have Q2 := Aside0.mk q2
    clear q2
    by_cases q3 : (search_opts e1 e2 nd x e2.length).length = 0
    case pos =>
      rw [if_pos q3] at H
      obtain rfl := Option.some.inj H
      have q3b : (((search_opts e1 e2 nd x e2.length).length : Int) == 0) = true := beq_iff_eq.mpr (by omega)
      clear q3 H
      go_wp2_with (first | (go_at_call 77; refine (search_options x (H1a.out _) (H3a.out _) (H4a.out _) (Kd.C_below K1.out (mb_ HB2.out)) (Kd.C_below K3.out (mb_ HB2.out)) (Kd.C_below KN.out (mb_ HB2.out)) HM.out P1.out Q1.out Q2.out).mono ?_; rintro e w3 ⟨v3, rfl, ho, hb⟩; obtain ⟨A3_, c3_, rfl⟩ := Kd.R_slice ho; replace HB2 := Aside0.mk (below_step (mb_ HB2.out) hb); clear ho hb))
      go_ret
      exact ⟨by first | rfl | (simp; done), mb_ HB2.out⟩
    rw [if_neg q3] at H
    have H' := Aside0.mk H
    have q3b : (((search_opts e1 e2 nd x e2.length).length : Int) == 0) = false := beq_eq_false_iff_ne.mpr (by omega)
    clear q3 H
    go_wp2_with (first | (go_at_call 77; refine (search_options x (H1a.out _) (H3a.out _) (H4a.out _) (Kd.C_below K1.out (mb_ HB2.out)) (Kd.C_below K3.out (mb_ HB2.out)) (Kd.C_below KN.out (mb_ HB2.out)) HM.out P1.out Q1.out Q2.out).mono ?_; rintro e w3 ⟨v3, rfl, ho, hb⟩; obtain ⟨A3_, c3_, rfl⟩ := Kd.R_slice ho; replace HB2 := Aside0.mk (below_step (mb_ HB2.out) hb); clear ho hb))
    go_roundw
    case rel => exact ⟨x + 1, by rw [HW.out], ⟨by have := P1.out; have := Q1.out; omega⟩, H', ⟨mb_ HB2.out⟩⟩
    case measure => rw [HW.out]; simp only [intOf]; have := P1.out; have := Q1.out; omega
theorem foldl_step {α β : Type} (f : β → α → Option β) (l : List α) (z : α) (x : Int) (h0 : 0 ≤ x) (h1 : x < (l.length : Int)) (b r : β) (h : (l.drop x.toNat).foldlM f b = some r) : ∃ c, f b (l.getD x.toNat z) = some c ∧ (l.drop (x + 1).toNat).foldlM f c = some r := by
  have hl : x.toNat < l.length := by omega
  rw [List.drop_eq_getElem_cons hl, List.foldlM_cons] at h
  obtain ⟨c, h2, h3⟩ := Option.bind_eq_some_iff.1 h
  refine ⟨c, ?_, by rw [toNat_succ h0]; exact h3⟩
  rw [List.getD_eq_getElem?_getD, List.getElem?_eq_getElem hl]
  exact h2
theorem foldl_end {α β : Type} (f : β → α → Option β) (l : List α) (x : Int) (h1 : ¬ x < (l.length : Int)) (b r : β) (h : (l.drop x.toNat).foldlM f b = some r) : b = r := by
  rw [List.drop_eq_nil_of_le (by omega)] at h
  exact Option.some.inj h
section
variable {w0 : World} {g : Nat} {A0 A1 A2 A3 : Option Addr} {c0 c1 c2 c3 : Nat} {n1 n2 : List Int} {e1 e2 : List S65}
set_option maxHeartbeats 8000000 in
set_option maxRecDepth 100000 in
theorem search_addEdges (k1 : Kd.C k65 w0 A1 e1.length e1) (k3 : Kd.C k65 w0 A3 e2.length e2) (hm1 : e1.length ≤ 1000) (hm3 : e2.length ≤ 1000) (hmN : n1.length ≤ 1000) {nd : List Int} (hnd : nd.length ≤ 1000) : ∀ (k : Nat) (ed : List Int) (out r : List S27) (vN vE vO : Value) (w : World), SSt w0 g A0 A1 A2 A3 c0 c1 c2 c3 n1 e1 n2 e2 w nd ed out vN vE vO → search_addE e1 e2 nd k ed out = some r →
    Calls Try.prog 67 #[.pointer (some ⟨g, 0, none⟩)] w fun e w' => e = .returned (.tuple #[]) ∧ ∃ vE' vO', SSt w0 g A0 A1 A2 A3 c0 c1 c2 c3 n1 e1 n2 e2 w' nd ed r vN vE' vO' ∧ SPost g w w' vN vE vO vN vE' vO' := by
  have K1 := Aside0.mk k1
  have K3 := Aside0.mk k3
  have M1 := Aside0.mk hm1
  have M3 := Aside0.mk hm3
  have MN := Aside0.mk hnd
  clear k1 k3 hm1 hm3 hmN hnd
  intro k
  induction k with
  | zero => exact fun _ _ _ _ _ _ _ _ h => by simp [search_addE] at h
  | succ k ih =>
  intro ed out r vN vE vO w st H
  have IH := Aside0.mk ih
  clear ih
  rw [search_addE] at H
  obtain ⟨AN, cN, rfl⟩ := Kd.R_slice st.N
  obtain ⟨AE, cE, rfl⟩ := Kd.R_slice st.E
  obtain ⟨AO, cO, rfl⟩ := Kd.S_slice st.O
  have hu1 := Try.underlying25
  have hu2 := Try.underlying65
  have hu3 := Try.underlying74
  have ST := Aside0.mk st
  have h1 := bc1_ st.blk
  have h3 := bc3_ st.blk
  have h4 := bc4_ st.blk
  have h5 := bc5_ st.blk
  have h6 := bc6_ st.blk
  clear st
  by_cases q1 : out.length > 2000
  case pos =>
    rw [if_pos q1] at H
    obtain rfl := Option.some.inj H
    have q1b : decide ((2000 : Int) < (out.length : Int)) = true := decide_eq_true (by omega)
    clear q1 H
    go_enter Try.func67, Try.ntmps67
    go_wp2
    refine bodyPost_ret (results_none rfl _ _ _) rfl ?_
    exact ⟨rfl, _, _, ST.out, SPost.refl ..⟩
  rw [if_neg q1] at H
  have q1b : decide ((2000 : Int) < (out.length : Int)) = false := decide_eq_false (by omega)
  have Q1 := Aside0.mk q1
  clear q1
  by_cases q2 : ed.length = e1.length
  case pos =>
    rw [if_pos q2] at H
    obtain rfl := Option.some.inj H
    have q2b : ((ed.length : Int) == (e1.length : Int)) = true := beq_iff_eq.mpr (by omega)
    have Q2 := Aside0.mk q2
    clear q2 H
    go_enter Try.func67, Try.ntmps67
    have HBW := Aside0.mk (Below.refl w.heap.size w)
    have H4 := Aside0.mk h4
    have H5 := Aside0.mk h5
    have H6 := Aside0.mk h6
    have HEN : Aside0 (slices_Clone_int_int.f nd = some nd) := ⟨by unfold slices_Clone_int_int.f; rw [if_pos (by have := MN.out; omega)]⟩
    have HEE : Aside0 (slices_Clone_int_int.f ed = some ed) := ⟨by unfold slices_Clone_int_int.f; rw [if_pos (by have := Q2.out; have := M1.out; omega)]⟩
    have HOO : Aside0 (Kd.S k27 27 w w0.heap.size (fun k => ((True ∧ some k ≠ (Value.slice AN nd.length cN).ownBlock) ∧ some k ≠ (Value.slice AE ed.length cE).ownBlock) ∧ ¬ w.heap.size ≤ k) (.slice AO out.length cO) out) := ⟨Kd.S_mono (Kd.S_bound ST.out.O) (fun k hk => ⟨hk.1, by have := hk.2.2.1; omega⟩)⟩
    go_wp2
    refine start_ (n := 21) (S := fun w' => w'.cell? ⟨g, 4, none⟩ = some (.slice AN nd.length cN) ∧ w'.cell? ⟨g, 5, none⟩ = some (.slice AE ed.length cE) ∧ w'.cell? ⟨g, 6, none⟩ = some (.slice AO out.length cO)) (ds := [20]) #[false, false, false, false, false, false, false, false, false, false, false, false, false, false, false, false, false, false, false, false, false] (by kernel_rfl) rfl rfl ⟨h4, h5, h6⟩ (fun hHeld => ?_)
    replace HBW := Aside0.mk (below_drew1 HBW.out)
    generalize w.drew = wA at HBW hHeld ⊢
    refine pure_ (i := 0) (N := some 24) (v := ?_) (a' := ?_) #[true, false, false, false, false, false, false, false, false, false, false, false, false, false, false, false, false, false, false, false, false] rfl rfl (by kernel_rfl) (fun _ _ _ h => h) (Or.inl ⟨by rfl, ?_⟩) ?_ ?_
    rotate_left
    · intro w'
      go_simp
      with_reducible rfl
    rotate_left
    · simp only [Act.put, List.setIfInBounds_toArray, List.set_cons_zero, List.set_cons_succ, i64_w, i32_w]
      rfl
    refine pure_ (i := 1) (N := some 25) (v := ?_) (a' := ?_) #[true, true, false, false, false, false, false, false, false, false, false, false, false, false, false, false, false, false, false, false, false] rfl rfl (by kernel_rfl) (fun _ _ _ h => h) (Or.inl ⟨by rfl, ?_⟩) ?_ ?_
    rotate_left
    · intro w'
      go_simp
      with_reducible rfl
    rotate_left
    · simp only [Act.put, List.setIfInBounds_toArray, List.set_cons_zero, List.set_cons_succ, i64_w, i32_w]
      rfl
    refine pure_ (i := 2) (N := some 26) (v := ?_) (a' := ?_) #[true, true, true, false, false, false, false, false, false, false, false, false, false, false, false, false, false, false, false, false, false] rfl rfl (by kernel_rfl) (fun _ _ _ h => h) (Or.inl ⟨by rfl, ?_⟩) ?_ ?_
    rotate_left
    · intro w'
      go_simp
      with_reducible rfl
    rotate_left
    · simp only [Act.put, List.setIfInBounds_toArray, List.set_cons_zero, List.set_cons_succ, i64_w, i32_w]
      rfl
    refine pure_ (i := 3) (N := some 27) (v := ?_) (a' := ?_) #[true, true, true, true, false, false, false, false, false, false, false, false, false, false, false, false, false, false, false, false, false] rfl rfl (by kernel_rfl) (fun _ _ _ h => h) (Or.inl ⟨by rfl, ?_⟩) ?_ ?_
    rotate_left
    · intro w'
      go_simp
      with_reducible rfl
    rotate_left
    · simp only [Act.put, List.setIfInBounds_toArray, List.set_cons_zero, List.set_cons_succ, i64_w, i32_w]
      rfl
    refine take_ (i := 4) (N := some 28) (v := ?_) (a' := ?_) #[true, true, true, true, true, false, false, false, false, false, false, false, false, false, false, false, false, false, false, false, false] rfl rfl (by kernel_rfl) (fun _ _ _ h => h) (Or.inl ⟨by rfl, ?_⟩) hHeld ?_ ?_
    rotate_left
    · rintro w' ⟨s0, s1, s2⟩
      go_simp
      with_reducible rfl
    rotate_left
    · simp only [Act.put, List.setIfInBounds_toArray, List.set_cons_zero, List.set_cons_succ, i64_w, i32_w]
      rfl
    refine pure_ (i := 5) (N := some 29) (v := ?_) (a' := ?_) #[true, true, true, true, true, true, false, false, false, false, false, false, false, false, false, false, false, false, false, false, false] rfl rfl (by kernel_rfl) (fun _ _ _ h => h) (Or.inl ⟨by rfl, ?_⟩) ?_ ?_
    rotate_left
    · intro w'
      go_simp
      with_reducible rfl
    rotate_left
    · simp only [Act.put, List.setIfInBounds_toArray, List.set_cons_zero, List.set_cons_succ, i64_w, i32_w]
      rfl
    refine pure_ (i := 6) (N := some 30) (v := ?_) (a' := ?_) #[true, true, true, true, true, true, true, false, false, false, false, false, false, false, false, false, false, false, false, false, false] rfl rfl (by kernel_rfl) (fun _ _ _ h => h) (Or.inl ⟨by rfl, ?_⟩) ?_ ?_
    rotate_left
    · intro w'
      go_simp
      with_reducible rfl
    rotate_left
    · simp only [Act.put, List.setIfInBounds_toArray, List.set_cons_zero, List.set_cons_succ, i64_w, i32_w]
      rfl
    refine pure_ (i := 7) (N := some 31) (v := ?_) (a' := ?_) #[true, true, true, true, true, true, true, true, false, false, false, false, false, false, false, false, false, false, false, false, false] rfl rfl (by kernel_rfl) (fun _ _ _ h => h) (Or.inl ⟨by rfl, ?_⟩) ?_ ?_
    rotate_left
    · intro w'
      go_simp
      with_reducible rfl
    rotate_left
    · simp only [Act.put, List.setIfInBounds_toArray, List.set_cons_zero, List.set_cons_succ, i64_w, i32_w]
      rfl
    refine take_ (i := 8) (N := some 32) (v := ?_) (a' := ?_) #[true, true, true, true, true, true, true, true, true, false, false, false, false, false, false, false, false, false, false, false, false] rfl rfl (by kernel_rfl) (fun _ _ _ h => h) (Or.inl ⟨by rfl, ?_⟩) hHeld ?_ ?_
    rotate_left
    · rintro w' ⟨s0, s1, s2⟩
      go_simp
      with_reducible rfl
    rotate_left
    · simp only [Act.put, List.setIfInBounds_toArray, List.set_cons_zero, List.set_cons_succ, i64_w, i32_w]
      rfl
    refine pure_ (i := 10) (N := some 34) (v := ?_) (a' := ?_) #[true, true, true, true, true, true, true, true, true, false, true, false, false, false, false, false, false, false, false, false, false] rfl rfl (by kernel_rfl) (fun _ _ _ h => h) (Or.inl ⟨by rfl, ?_⟩) ?_ ?_
    rotate_left
    · intro w'
      go_simp
      with_reducible rfl
    rotate_left
    · simp only [Act.put, List.setIfInBounds_toArray, List.set_cons_zero, List.set_cons_succ, i64_w, i32_w]
      rfl
    refine pure_ (i := 11) (N := some 35) (v := ?_) (a' := ?_) #[true, true, true, true, true, true, true, true, true, false, true, true, false, false, false, false, false, false, false, false, false] rfl rfl (by kernel_rfl) (fun _ _ _ h => h) (Or.inl ⟨by rfl, ?_⟩) ?_ ?_
    rotate_left
    · intro w'
      go_simp
      with_reducible rfl
    rotate_left
    · simp only [Act.put, List.setIfInBounds_toArray, List.set_cons_zero, List.set_cons_succ, i64_w, i32_w]
      rfl
    refine pure_ (i := 12) (N := some 36) (v := ?_) (a' := ?_) #[true, true, true, true, true, true, true, true, true, false, true, true, true, false, false, false, false, false, false, false, false] rfl rfl (by kernel_rfl) (fun _ _ _ h => h) (Or.inl ⟨by rfl, ?_⟩) ?_ ?_
    rotate_left
    · intro w'
      go_simp
      with_reducible rfl
    rotate_left
    · simp only [Act.put, List.setIfInBounds_toArray, List.set_cons_zero, List.set_cons_succ, i64_w, i32_w]
      rfl
    refine take_ (i := 13) (N := some 37) (v := ?_) (a' := ?_) #[true, true, true, true, true, true, true, true, true, false, true, true, true, true, false, false, false, false, false, false, false] rfl rfl (by kernel_rfl) (fun _ _ _ h => h) (Or.inl ⟨by rfl, ?_⟩) hHeld ?_ ?_
    rotate_left
    · rintro w' ⟨s0, s1, s2⟩
      go_simp
      with_reducible rfl
    rotate_left
    · simp only [Act.put, List.setIfInBounds_toArray, List.set_cons_zero, List.set_cons_succ, i64_w, i32_w]
      rfl
    refine one_ (i := 9) (N := some 33) #[true, true, true, true, true, true, true, true, true, true, true, true, true, true, false, false, false, false, false, false, false] rfl rfl (by kernel_rfl) (by decide) (fun K hK => ?_)
    refine goes_ Try.func39 (by kernel_rfl) rfl #[.slice AN nd.length cN] (by rfl) rfl rfl (by (try simp only [List.map_toArray, List.map_cons, List.map_nil]); first | done | rfl) ?_
    with_reducible refine (slices_Clone_int_int.calls _ _ nd nd _ ?side1 ?side2 HEN.out).mono ?_
    (case side1 => exact Kd.C_below (Kd.R_reads' ST.out.N).2.2 HBW.out)
    (case side2 => exact (Kd.R_reads' ST.out.N).2.1)
    rintro e w1 ⟨v1, rfl, ho, hb⟩
    refine ⟨_, rfl, ?_⟩
    have HV1 : Aside0 (Kd.R (Kd.int .i64) 3 w1 w0.heap.size (fun k => w.heap.size ≤ k) v1 nd) := ⟨Kd.R_lower (Kd.R_mono (Kd.R_bound ho) (fun k hk => by have := hk.2.1; have := HBW.out.size; omega)) (below_step ST.out.below HBW.out).size⟩
    replace HBW := Aside0.mk (below_step HBW.out hb)
    obtain ⟨Av1, cv1, rfl⟩ := Kd.R_slice ho
    clear ho hb
    refine hK.out _ _ ⟨cell_below HBW.out H4.out, cell_below HBW.out H5.out, cell_below HBW.out H6.out⟩ (fun hHeld => ?_)
    clear hK K
    refine norm_ (a' := ?_) ?_ ?_
    rotate_left
    · show Act.put _ (some 33) _ = _
      simp only [Act.put, List.setIfInBounds_toArray, List.set_cons_zero, List.set_cons_succ, i64_w, i32_w]
      rfl
    refine one_ (i := 14) (N := some 38) #[true, true, true, true, true, true, true, true, true, true, true, true, true, true, true, false, false, false, false, false, false] rfl rfl (by kernel_rfl) (by decide) (fun K hK => ?_)
    refine goes_ Try.func39 (by kernel_rfl) rfl #[.slice AE ed.length cE] (by rfl) rfl rfl (by (try simp only [List.map_toArray, List.map_cons, List.map_nil]); first | done | rfl) ?_
    with_reducible refine (slices_Clone_int_int.calls _ _ ed ed _ ?side1 ?side2 HEE.out).mono ?_
    (case side1 => exact Kd.C_below (Kd.R_reads' ST.out.E).2.2 HBW.out)
    (case side2 => exact (Kd.R_reads' ST.out.E).2.1)
    rintro e w2 ⟨v2, rfl, ho, hb⟩
    refine ⟨_, rfl, ?_⟩
    have HV2 : Aside0 (Kd.R (Kd.int .i64) 3 w2 w0.heap.size (fun k => w.heap.size ≤ k) v2 ed) := ⟨Kd.R_lower (Kd.R_mono (Kd.R_bound ho) (fun k hk => by have := hk.2.1; have := HBW.out.size; omega)) (below_step ST.out.below HBW.out).size⟩
    replace HV1 := Aside0.mk (Kd.R_below HV1.out hb)
    replace HBW := Aside0.mk (below_step HBW.out hb)
    obtain ⟨Av2, cv2, rfl⟩ := Kd.R_slice ho
    clear ho hb
    refine hK.out _ _ ⟨cell_below HBW.out H4.out, cell_below HBW.out H5.out, cell_below HBW.out H6.out⟩ (fun hHeld => ?_)
    clear hK K
    refine norm_ (a' := ?_) ?_ ?_
    rotate_left
    · show Act.put _ (some 38) _ = _
      simp only [Act.put, List.setIfInBounds_toArray, List.set_cons_zero, List.set_cons_succ, i64_w, i32_w]
      rfl
    refine pure_ (i := 15) (N := some 39) (v := ?_) (a' := ?_) #[true, true, true, true, true, true, true, true, true, true, true, true, true, true, true, true, false, false, false, false, false] rfl rfl (by kernel_rfl) (fun _ _ _ h => h) (Or.inl ⟨by rfl, ?_⟩) ?_ ?_
    rotate_left
    · intro w'
      go_simp
      with_reducible rfl
    rotate_left
    · simp only [Act.put, List.setIfInBounds_toArray, List.set_cons_zero, List.set_cons_succ, i64_w, i32_w]
      rfl
    refine one_ (i := 16) (N := some 40) #[true, true, true, true, true, true, true, true, true, true, true, true, true, true, true, true, true, false, false, false, false] rfl rfl (by kernel_rfl) (by decide) (fun K hK => ?_)
    refine value_ (w1 := ?_) (v := ?_) (by rfl) rfl ?_ ?_
    rotate_left 2
    · go_simp
      constructor
      · rfl
      · rfl
    refine hK.out _ _ ⟨cell_alloc_ hHeld.1, cell_alloc_ hHeld.2.1, cell_alloc_ hHeld.2.2⟩ (fun hHeld => ?_)
    clear hK K
    refine norm_ (a' := ?_) ?_ ?_
    rotate_left
    · show Act.put _ (some 40) _ = _
      simp only [Act.put, List.setIfInBounds_toArray, List.set_cons_zero, List.set_cons_succ, i64_w, i32_w]
      rfl
    refine one_ (i := 17) (N := some 41) #[true, true, true, true, true, true, true, true, true, true, true, true, true, true, true, true, true, true, false, false, false] rfl rfl (by kernel_rfl) (by decide) (fun K hK => ?_)
    refine Kd.S_append_step k27 (w0 := w0) w0.heap.size (by rfl) (.tmp 28) (.tmp 40) 38 27 (.agg #[.slice none 0 0, .slice none 0 0]) 48 rfl Try.underlying38 info27 rfl (by decide) (by omega) (.slice AO out.length cO) out ⟨nd, ed⟩ [.slice Av1 nd.length cv1, .slice Av2 ed.length cv2] (fun k => (True ∧ some k ≠ (Value.slice AN nd.length cN).ownBlock) ∧ some k ≠ (Value.slice AE ed.length cE).ownBlock) (fun k => w.heap.size ≤ k) rfl rfl ?aP ?aK ?aF ?aO ?aB ?aS ?aL ?_
    (case aP => exact k27_mkM _ _ _ ⟨nd, ed⟩ (mr_ HV1.out) (mr_ HV2.out))
    (case aK => exact (fun k hk => ⟨⟨⟨True.intro, fun e => by have := Kd.R_lt ST.out.N k e.symm; omega⟩, fun e => by have := Kd.R_lt ST.out.E k e.symm; omega⟩, fun e => by have := Kd.S_lt ST.out.O k e.symm; omega⟩))
    (case aF => exact (fun k hk => ⟨⟨True.intro, fun e => by have := Kd.R_lt ST.out.N k e.symm; have := HBW.out.size; omega⟩, fun e => by have := Kd.R_lt ST.out.E k e.symm; have := HBW.out.size; omega⟩))
    (case aO => exact Kd.S_below HOO.out HBW.out)
    (case aB => exact below_step ST.out.below HBW.out)
    (case aS => exact (below_step ST.out.below HBW.out).size)
    (case aL => have := Q1.out; omega)
    intro v3 w3 ho hb hg hat
    obtain ⟨A3_, c3_, rfl⟩ := Kd.S_slice ho
    have stW := ST.out.later HBW.out
    have B3 := blk_grown stW.blk hg (Kd.S_ne stW.O stW.blk (by decide))
    have hc6 := bc6_ B3
    have hf6 := blk_frozen B3 6
    obtain ⟨st3, sp3⟩ := stW.putO ho hg hat hb
    have hl_ : (out ++ [(⟨nd, ed⟩ : S27)]).length = out.length + 1 := by simp
    rw [hl_] at st3 sp3
    rw [hl_]
    have SP := Aside0.mk ((SPost.later HBW.out).trans sp3)
    replace ST := Aside0.mk st3
    have hd4 := bc4_ B3
    have hd5 := bc5_ B3
    refine hK.out _ _ ⟨hd4, hd5, hc6⟩ (fun hHeld => ?_)
    clear hK K
    refine norm_ (a' := ?_) ?_ ?_
    rotate_left
    · show Act.put _ (some 41) _ = _
      simp only [Act.put, List.setIfInBounds_toArray, List.set_cons_zero, List.set_cons_succ, i64_w, i32_w]
      rfl
    refine pure_ (i := 18) (N := some 42) (v := ?_) (a' := ?_) #[true, true, true, true, true, true, true, true, true, true, true, true, true, true, true, true, true, true, true, false, false] rfl rfl (by kernel_rfl) (fun _ _ _ h => h) (Or.inl ⟨by rfl, ?_⟩) ?_ ?_
    rotate_left
    · intro w'
      go_simp
      with_reducible rfl
    rotate_left
    · simp only [Act.put, List.setIfInBounds_toArray, List.set_cons_zero, List.set_cons_succ, i64_w, i32_w]
      rfl
    refine pure_ (i := 19) (N := some 43) (v := ?_) (a' := ?_) #[true, true, true, true, true, true, true, true, true, true, true, true, true, true, true, true, true, true, true, true, false] rfl rfl (by kernel_rfl) (fun _ _ _ h => h) (Or.inl ⟨by rfl, ?_⟩) ?_ ?_
    rotate_left
    · intro w'
      go_simp
      with_reducible rfl
    rotate_left
    · simp only [Act.put, List.setIfInBounds_toArray, List.set_cons_zero, List.set_cons_succ, i64_w, i32_w]
      rfl
    refine last_ (i := 20) (N := none) #[true, true, true, true, true, true, true, true, true, true, true, true, true, true, true, true, true, true, true, true, true] rfl rfl (by kernel_rfl) (by decide) (fun K hK => ?_)
    refine skip_ (w1 := ?_) (by rfl) rfl ?_ ?_
    rotate_left
    · go_simp
      rfl
    refine hK.out _ _ ?_
    clear hK K
    refine done_ (by kernel_rfl) ?_
    try go_wp2
    refine bodyPost_ret (results_none rfl _ _ _) rfl ?_
    exact ⟨rfl, _, _, ST.out, SP.out⟩
  rw [if_neg q2] at H
  have q2b : ((ed.length : Int) == (e1.length : Int)) = false := beq_eq_false_iff_ne.mpr (by omega)
  clear q2
  by_cases q3 : ed.length < e1.length
  case neg =>
    rw [if_neg q3] at H
    cases H
  rw [if_pos q3] at H
  have Q3 := Aside0.mk q3
  clear q3
  by_cases q4 : search_in e1 nd (ed.length : Int) = true
  case neg =>
    rw [if_neg q4] at H
    cases H
  rw [if_pos q4] at H
  have Q4 := Aside0.mk q4
  clear q4
  obtain ⟨os, hos⟩ : ∃ os, os = search_opts e1 e2 nd (ed.length : Int) e2.length := ⟨_, rfl⟩
  rw [← hos] at H
  have HOS : Aside0 (os.length ≤ 1000) := ⟨by rw [hos]; have := search_opts_len e1 e2 nd (ed.length : Int) e2.length; have := M3.out; omega⟩
  have NOS := Aside0.mk hos
  clear hos
  have HF := Aside0.mk H
  clear H
  go_enter Try.func67, Try.ntmps67
  go_wp2_with (first | (go_at_call 77; refine (search_options (ed.length : Int) (bc1_ ST.out.blk) (bc3_ ST.out.blk) (bc4_ ST.out.blk) (Kd.C_below K1.out ST.out.below) (Kd.C_below K3.out ST.out.below) (Kd.R_reads' ST.out.N).2.2 M3.out (by omega) (by have := Q3.out; omega) Q4.out).mono ?_; rintro e w1 ⟨v1, rfl, ho, hb⟩; rw [← NOS.out] at ho; have HOp := Aside0.mk (Kd.R_lower (ST.out.new ho) (below_size ST.out.below)); have SP := Aside0.mk (SPost.later (g := g) (a := .slice AN nd.length cN) (b := .slice AE ed.length cE) (c := .slice AO out.length cO) hb); replace ST := Aside0.mk (ST.out.later hb); obtain ⟨Ao, co, rfl⟩ := Kd.R_slice ho; clear ho hb))
  go_loopw [48] (fun v48 wr => ∃ (x : Int) (o1 : List S27) (vE1 vO1 : Value), v48 = .int .i64 x ∧ Aside0 (0 ≤ x ∧ x ≤ (os.length : Int)) ∧ Aside0 (SSt w0 g A0 A1 A2 A3 c0 c1 c2 c3 n1 e1 n2 e2 wr nd ed o1 (.slice AN nd.length cN) vE1 vO1) ∧ Aside0 (SPost g w wr (.slice AN nd.length cN) (.slice AE ed.length cE) (.slice AO out.length cO) (.slice AN nd.length cN) vE1 vO1) ∧ Aside0 (Kd.R (Kd.int .i64) 3 wr w0.heap.size (okR g (.slice AN nd.length cN) vE1 vO1) (.slice Ao os.length co) os) ∧ Aside0 ((os.drop x.toNat).foldlM (fun o y => search_addE e1 e2 nd k (ed ++ [y]) o) o1 = some r)) (fun v48 _ => ((os.length : Int) - intOf v48).toNat)
  case atStart => exact ⟨0, _, _, _, rfl, ⟨by omega⟩, ST, SP, HOp, HF⟩
  case round =>
    clear ST SP HOp HF h1 h3 h4 h5 h6
    obtain ⟨x, o1, vE1, vO1, rfl, hx, ST, SP, HOp, HF⟩ := hrel
    obtain ⟨AE1, cE1, rfl⟩ := Kd.R_slice ST.out.E
    obtain ⟨AO1, cO1, rfl⟩ := Kd.S_slice ST.out.O
    by_cases c1 : x < (os.length : Int)
    case neg =>
      have c1b : decide (x < (os.length : Int)) = false := decide_eq_false c1
      obtain rfl := foldl_end _ os x c1 o1 r HF.out
      clear c1 HF
      go_wp2
      go_end0
      exact ⟨by first | rfl | (simp; done), _, _, ST.out, SP.out⟩
    have c1b : decide (x < (os.length : Int)) = true := decide_eq_true c1
    have p1 : 0 ≤ x := hx.out.1
    obtain ⟨o2, hr1, hr2⟩ := foldl_step _ os 0 x p1 c1 o1 r HF.out
    replace hr1 : search_addE e1 e2 nd k (ed ++ [rd os x]) o1 = some o2 := hr1
    have HR1 := Aside0.mk hr1
    have HR2 := Aside0.mk hr2
    clear hr1 hr2 HF
    obtain ⟨ad, ea, hx0⟩ := Kd.at_int (Kd.R_reads' HOp.out).2.2 x p1 c1
    cases ea
    have P1 := Aside0.mk p1
    have Q5 := Aside0.mk c1
    replace p1 := eq_true p1
    replace c1 := eq_true c1
    have HW : Aside0 (wrap64 (x + 1) = x + 1) := ⟨wrap_up_ P1.out Q5.out (by have := HOS.out; omega)⟩
    have h5 := bc5_ ST.out.blk
    go_wp2_with (first | ((with_reducible refine gate_builtin (b := .append) (xs := #[.tmp 56, .tmp 58]) rfl ?_); at_builtin; refine Kd.R_append (Kd.int .i64) (w0 := w0) w0.heap.size rfl (.tmp 56) (.tmp 58) 22 3 (.int .i64 0) 8 rfl Try.underlying22 info3 rfl (by decide) (by omega) (.slice AE1 ed.length cE1) ed (rd os x) [.int .i64 (rd os x)] (fun k => True ∧ some k ≠ (Value.slice AN nd.length cN).ownBlock) (fun _ => False) rfl rfl ?aP (fun _ hk => hk.elim) ?aF ?aO ?aB ?aS ?aL ?_; (case aP => exact rfl); (case aB => exact ST.out.below); (case aF => exact (fun k hk => ⟨True.intro, fun e => by have := Kd.R_lt ST.out.N k e.symm; omega⟩)); (case aO => exact ST.out.E); (case aS => exact ST.out.below.size); (case aL => have := Q3.out; have := M1.out; omega); intro v3 w3 ho hb hg hat; obtain ⟨A3_, c3_, rfl⟩ := Kd.R_slice ho; have B3 := blk_grown ST.out.blk hg (Kd.R_ne ST.out.E ST.out.blk (by decide)); have hc5 := bc5_ B3; have hf5 := blk_frozen B3 5; obtain ⟨st3, sp3⟩ := ST.out.putE ho hg hat hb; rw [show (ed ++ [rd os x]).length = ed.length + 1 by simp] at st3 sp3; replace HOp := Aside0.mk (sp3.row HOp.out); replace SP := Aside0.mk (SP.out.trans sp3); replace ST := Aside0.mk st3; clear st3 sp3 ho hb hg hat B3 h5 hx0) | (go_at_call 67; refine (IH.out (ed ++ [rd os x]) o1 o2 _ _ _ _ ST.out HR1.out).mono ?_; rintro e w4 ⟨rfl, vE4, vO4, st4, sp4⟩; obtain ⟨AE4, cE4, rfl⟩ := Kd.R_slice st4.E; have hc5_ := bc5_ st4.blk; have hf5_ := blk_frozen st4.blk 5; have hcap : ed.length ≤ cE4 := (by have := (Kd.R_reads' st4.E).2.1; simp at this; omega); replace HOp := Aside0.mk (sp4.row HOp.out); replace SP := Aside0.mk (SP.out.trans sp4); replace ST := Aside0.mk st4; clear st4 sp4 hc5 hf5))
    go_roundw
    case rel => exact ⟨x + 1, o2, _, _, by rw [HW.out], ⟨by have := P1.out; have := Q5.out; omega⟩, ⟨by have h_ := (ST.out.cutE (m := ed.length) (by simp)).1; rw [List.take_left] at h_; exact h_⟩, ⟨SP.out.trans (ST.out.cutE (m := ed.length) (by simp)).2⟩, ⟨(ST.out.cutE (m := ed.length) (by simp)).2.row HOp.out⟩, HR2⟩
    case measure => rw [HW.out]; simp only [intOf]; have := P1.out; have := Q5.out; omega
end
section
variable {w0 : World} {g : Nat} {A0 A1 A2 A3 : Option Addr} {c0 c1 c2 c3 : Nat} {n1 n2 : List Int} {e1 e2 : List S65}
theorem upto_get (n : Nat) (x : Int) (h0 : 0 ≤ x) (h1 : x < (n : Int)) : ((List.range n).map fun i : Nat => (i : Int)).getD x.toNat 0 = x := by
  rw [List.getD_eq_getElem?_getD, List.getElem?_map, List.getElem?_range (by omega)]
  exact Int.toNat_of_nonneg h0
set_option maxHeartbeats 8000000 in
set_option maxRecDepth 100000 in
theorem search_addNodes (k0 : Kd.C (Kd.int .i64) w0 A0 n1.length n1) (k1 : Kd.C k65 w0 A1 e1.length e1) (k2 : Kd.C (Kd.int .i64) w0 A2 n2.length n2) (k3 : Kd.C k65 w0 A3 e2.length e2) (hm0 : n1.length ≤ 1000) (hm1 : e1.length ≤ 1000) (hm2 : n2.length ≤ 1000) (hm3 : e2.length ≤ 1000) : ∀ (k : Nat) (nd : List Int) (out r : List S27) (vN vE vO : Value) (w : World), nd.length ≤ 1000 → SSt w0 g A0 A1 A2 A3 c0 c1 c2 c3 n1 e1 n2 e2 w nd [] out vN vE vO → search_addN n1 e1 n2 e2 k nd out = some r →
    Calls Try.prog 45 #[.pointer (some ⟨g, 0, none⟩)] w fun e w' => e = .returned (.tuple #[]) ∧ ∃ vN' vE' vO', SSt w0 g A0 A1 A2 A3 c0 c1 c2 c3 n1 e1 n2 e2 w' nd [] r vN' vE' vO' ∧ SPost g w w' vN vE vO vN' vE' vO' := by
  have K0 := Aside0.mk k0
  have K1 := Aside0.mk k1
  have K2 := Aside0.mk k2
  have K3 := Aside0.mk k3
  have M0 := Aside0.mk hm0
  have M1 := Aside0.mk hm1
  have M2 := Aside0.mk hm2
  have M3 := Aside0.mk hm3
  clear k0 k1 k2 k3 hm0 hm1 hm2 hm3
  intro k
  induction k with
  | zero => exact fun _ _ _ _ _ _ _ _ _ h => by simp [search_addN] at h
  | succ k ih =>
  intro nd out r vN vE vO w hnd st H
  have IH := Aside0.mk ih
  have MN := Aside0.mk hnd
  clear ih hnd
  rw [search_addN] at H
  obtain ⟨AN, cN, rfl⟩ := Kd.R_slice st.N
  obtain ⟨AE, cE, rfl⟩ := Kd.R_slice st.E
  obtain ⟨AO, cO, rfl⟩ := Kd.S_slice st.O
  have hu1 := Try.underlying25
  have hu2 := Try.underlying65
  have hu3 := Try.underlying74
  have ST := Aside0.mk st
  have h0 := bc0_ st.blk
  have h2 := bc2_ st.blk
  have h4 := bc4_ st.blk
  have h6 := bc6_ st.blk
  clear st
  by_cases q1 : out.length > 2000
  case pos =>
    rw [if_pos q1] at H
    obtain rfl := Option.some.inj H
    have q1b : decide ((2000 : Int) < (out.length : Int)) = true := decide_eq_true (by omega)
    clear q1 H
    go_enter Try.func45, Try.ntmps45
    go_wp2
    refine bodyPost_ret (results_none rfl _ _ _) rfl ?_
    exact ⟨rfl, _, _, _, ST.out, SPost.refl ..⟩
  rw [if_neg q1] at H
  have q1b : decide ((2000 : Int) < (out.length : Int)) = false := decide_eq_false (by omega)
  clear q1
  by_cases q2 : nd.length = n1.length
  case pos =>
    rw [if_pos q2] at H
    have q2b : ((nd.length : Int) == (n1.length : Int)) = true := beq_iff_eq.mpr (by omega)
    have HE := Aside0.mk H
    clear q2 H
    go_enter Try.func45, Try.ntmps45
    go_wp2_with (first | (go_at_call 67; refine (search_addEdges K1.out K3.out M1.out M3.out M0.out MN.out k [] out r _ _ _ _ ST.out HE.out).mono ?_; rintro e w4 ⟨rfl, vE4, vO4, st4, sp4⟩; have ST4 := Aside0.mk st4; have SP4 := Aside0.mk sp4; clear st4 sp4))
    refine bodyPost_ret (results_none rfl _ _ _) rfl ?_
    exact ⟨rfl, _, _, _, ST4.out, SP4.out⟩
  rw [if_neg q2] at H
  have q2b : ((nd.length : Int) == (n1.length : Int)) = false := beq_eq_false_iff_ne.mpr (by omega)
  clear q2
  by_cases q3 : nd.length < n1.length
  case neg =>
    rw [if_neg q3] at H
    cases H
  rw [if_pos q3] at H
  have Q3 := Aside0.mk q3
  clear q3
  obtain ⟨adK, eK, hxK⟩ := Kd.at_int K0.out (nd.length : Int) (by omega) (by have := Q3.out; omega)
  cases eK
  rw [Int.toNat_natCast] at hxK
  have HXK := Aside0.mk hxK
  have qk2 : (nd.length < n1.length) = True := eq_true Q3.out
  have qk0 : (0 ≤ (nd.length : Int)) = True := eq_true (by omega)
  have qk1 : ((nd.length : Int) < (n1.length : Int)) = True := eq_true (by have := Q3.out; omega)
  have HF := Aside0.mk H
  clear H hxK
  go_enter Try.func45, Try.ntmps45
  go_wp2
  go_loopw [32] (fun v32 wr => ∃ (x : Int) (o1 : List S27) (vN1 vE1 vO1 : Value), v32 = .int .i64 x ∧ Aside0 (0 ≤ x ∧ x ≤ (n2.length : Int)) ∧ Aside0 (SSt w0 g (some adK) A1 A2 A3 c0 c1 c2 c3 n1 e1 n2 e2 wr nd [] o1 vN1 vE1 vO1) ∧ Aside0 (SPost g w wr (.slice AN nd.length cN) (.slice AE ([] : List Int).length cE) (.slice AO out.length cO) vN1 vE1 vO1) ∧ Aside0 ((((List.range n2.length).map fun i : Nat => (i : Int)).drop x.toNat).foldlM (fun o i => if rd n2 i = rd n1 (nd.length : Int) then (search_pos e1 e2 (nd ++ [i]) e1.length 0).bind fun b => if b = true then search_addN n1 e1 n2 e2 k (nd ++ [i]) o else some o else some o) o1 = some r)) (fun v32 _ => ((n2.length : Int) - intOf v32).toNat)
  case atStart => exact ⟨0, _, _, _, _, rfl, ⟨by omega⟩, ST, ⟨SPost.refl ..⟩, HF⟩
  case round =>
    clear ST HF h0 h2 h4 h6
    obtain ⟨x, o1, vN1, vE1, vO1, rfl, hx, ST, SP, HF⟩ := hrel
    obtain ⟨AN1, cN1, rfl⟩ := Kd.R_slice ST.out.N
    have hlen : ((List.range n2.length).map fun i : Nat => (i : Int)).length = n2.length := by simp
    by_cases c1 : x < (n2.length : Int)
    case neg =>
      have c1b : decide (x < (n2.length : Int)) = false := decide_eq_false c1
      obtain rfl := foldl_end _ _ x (by rw [hlen]; exact c1) o1 r HF.out
      clear c1 HF hlen
      go_wp2
      go_end0
      exact ⟨by first | rfl | (simp; done), _, _, _, ST.out, SP.out⟩
    have c1b : decide (x < (n2.length : Int)) = true := decide_eq_true c1
    have p1 : 0 ≤ x := hx.out.1
    obtain ⟨o2, hr1, hr2⟩ := foldl_step _ ((List.range n2.length).map fun i : Nat => (i : Int)) 0 x p1 (by rw [hlen]; exact c1) o1 r HF.out
    rw [upto_get n2.length x p1 c1] at hr1
    have HR2 := Aside0.mk hr2
    clear hr2 HF hlen
    obtain ⟨ad, ea, hx0⟩ := Kd.at_int K2.out x p1 c1
    have EA := Aside0.mk ea
    clear ea
    replace hx0 := (ST.out.below.cell (World.block_lt_of_cell? w0 _ hx0)).trans hx0
    have hxk := (ST.out.below.cell (World.block_lt_of_cell? w0 _ HXK.out)).trans HXK.out
    obtain rfl := EA.out
    have P1 := Aside0.mk p1
    have Q5 := Aside0.mk c1
    replace p1 := eq_true p1
    replace c1 := eq_true c1
    have HW : Aside0 (wrap64 (x + 1) = x + 1) := ⟨wrap_up_ P1.out Q5.out (by have := M2.out; omega)⟩
    have h0 := bc0_ ST.out.blk
    have h4 := bc4_ ST.out.blk
    by_cases q4 : rd n2 x = rd n1 (nd.length : Int)
    case neg =>
      rw [if_neg q4] at hr1
      obtain rfl := Option.some.inj hr1
      have q4b : (rd n2 x != rd n1 (nd.length : Int)) = true := bne_iff_ne.mpr q4
      have q4c : (rd n2 x == rd n1 (nd.length : Int)) = false := beq_eq_false_iff_ne.mpr q4
      clear q4 hr1
      go_wp2
      go_roundw
      case rel => exact ⟨x + 1, o1, _, _, _, by rw [HW.out], ⟨by have := P1.out; have := Q5.out; omega⟩, ST, SP, HR2⟩
      case measure => rw [HW.out]; simp only [intOf]; have := P1.out; have := Q5.out; omega
    rw [if_pos q4] at hr1
    have q4b : (rd n2 x != rd n1 (nd.length : Int)) = false := bne_eq_false_iff_eq.mpr q4
    have q4c : (rd n2 x == rd n1 (nd.length : Int)) = true := beq_iff_eq.mpr q4
    clear q4
    obtain ⟨b, hb0, hr1⟩ := Option.bind_eq_some_iff.1 hr1
    have HP := Aside0.mk hb0
    clear hb0
    cases b with
    | false =>
      rw [if_neg (by simp)] at hr1
      obtain rfl := Option.some.inj hr1
      clear hr1
      go_wp2_with (first | ((with_reducible refine gate_builtin (b := .append) (xs := #[.tmp 51, .tmp 53]) rfl ?_); at_builtin; refine Kd.R_append (Kd.int .i64) (w0 := w0) w0.heap.size rfl (.tmp 51) (.tmp 53) 22 3 (.int .i64 0) 8 rfl Try.underlying22 info3 rfl (by decide) (by omega) (.slice AN1 nd.length cN1) nd x [.int .i64 x] (fun k => True ∧ some k ≠ vE1.ownBlock) (fun _ => False) rfl rfl ?aP (fun _ hk => hk.elim) ?aF ?aO ?aB ?aS ?aL ?_; (case aP => exact rfl); (case aB => exact ST.out.below); (case aF => exact (fun k hk => ⟨True.intro, fun e => by have := Kd.R_lt ST.out.E k e.symm; omega⟩)); (case aO => exact ST.out.N); (case aS => exact ST.out.below.size); (case aL => have := Q3.out; have := M0.out; omega); intro v3 w3 ho hb hg hat; obtain ⟨A3_, c3_, rfl⟩ := Kd.R_slice ho; have B3 := blk_grown ST.out.blk hg (Kd.R_ne ST.out.N ST.out.blk (by decide)); have hc4 := bc4_ B3; have hf4 := blk_frozen B3 4; obtain ⟨st3, sp3⟩ := ST.out.putN ho hg hat hb; rw [show (nd ++ [x]).length = nd.length + 1 by simp] at st3 sp3; replace SP := Aside0.mk (SP.out.trans sp3); replace ST := Aside0.mk st3; clear st3 sp3 ho hb hg hat B3 h4 h0 hx0 hxk) | (go_at_call 68; refine (search_possible (nd := nd ++ [x]) (AN := A3_) (cN := c3_) false (bc1_ ST.out.blk) (bc3_ ST.out.blk) (by rw [show (nd ++ [x]).length = nd.length + 1 by simp]; exact bc4_ ST.out.blk) (Kd.C_below K1.out ST.out.below) (Kd.C_below K3.out ST.out.below) (Kd.R_reads' (n := (nd ++ [x]).length) (c := c3_) (by rw [show (nd ++ [x]).length = nd.length + 1 by simp]; exact ST.out.N)).2.2 M1.out M3.out HP.out).mono ?_; rintro e w4 ⟨rfl, hb⟩; have sp4 := SPost.later (g := g) (a := .slice A3_ (nd.length + 1) c3_) (b := vE1) (c := vO1) hb; replace SP := Aside0.mk (SP.out.trans sp4); replace ST := Aside0.mk (ST.out.later hb); have hc4_ := bc4_ ST.out.blk; have hf4_ := blk_frozen ST.out.blk 4; have hcap : nd.length ≤ c3_ := (by have := (Kd.R_reads' ST.out.N).2.1; omega); clear sp4 hb hc4 hf4))
      go_roundw
      case rel => exact ⟨x + 1, o1, _, _, _, by rw [HW.out], ⟨by have := P1.out; have := Q5.out; omega⟩, ⟨by have h_ := (ST.out.cutN (m := nd.length) (by simp)).1; rw [List.take_left] at h_; exact h_⟩, ⟨SP.out.trans (ST.out.cutN (m := nd.length) (by simp)).2⟩, HR2⟩
      case measure => rw [HW.out]; simp only [intOf]; have := P1.out; have := Q5.out; omega
    | true =>
      rw [if_pos rfl] at hr1
      have HR1 := Aside0.mk hr1
      clear hr1
      go_wp2_with (first | ((with_reducible refine gate_builtin (b := .append) (xs := #[.tmp 51, .tmp 53]) rfl ?_); at_builtin; refine Kd.R_append (Kd.int .i64) (w0 := w0) w0.heap.size rfl (.tmp 51) (.tmp 53) 22 3 (.int .i64 0) 8 rfl Try.underlying22 info3 rfl (by decide) (by omega) (.slice AN1 nd.length cN1) nd x [.int .i64 x] (fun k => True ∧ some k ≠ vE1.ownBlock) (fun _ => False) rfl rfl ?aP (fun _ hk => hk.elim) ?aF ?aO ?aB ?aS ?aL ?_; (case aP => exact rfl); (case aB => exact ST.out.below); (case aF => exact (fun k hk => ⟨True.intro, fun e => by have := Kd.R_lt ST.out.E k e.symm; omega⟩)); (case aO => exact ST.out.N); (case aS => exact ST.out.below.size); (case aL => have := Q3.out; have := M0.out; omega); intro v3 w3 ho hb hg hat; obtain ⟨A3_, c3_, rfl⟩ := Kd.R_slice ho; have B3 := blk_grown ST.out.blk hg (Kd.R_ne ST.out.N ST.out.blk (by decide)); have hc4 := bc4_ B3; have hf4 := blk_frozen B3 4; obtain ⟨st3, sp3⟩ := ST.out.putN ho hg hat hb; rw [show (nd ++ [x]).length = nd.length + 1 by simp] at st3 sp3; replace SP := Aside0.mk (SP.out.trans sp3); replace ST := Aside0.mk st3; clear st3 sp3 ho hb hg hat B3 h4 h0 hx0 hxk) | (go_at_call 68; refine (search_possible (nd := nd ++ [x]) (AN := A3_) (cN := c3_) true (bc1_ ST.out.blk) (bc3_ ST.out.blk) (by rw [show (nd ++ [x]).length = nd.length + 1 by simp]; exact bc4_ ST.out.blk) (Kd.C_below K1.out ST.out.below) (Kd.C_below K3.out ST.out.below) (Kd.R_reads' (n := (nd ++ [x]).length) (c := c3_) (by rw [show (nd ++ [x]).length = nd.length + 1 by simp]; exact ST.out.N)).2.2 M1.out M3.out HP.out).mono ?_; rintro e w4 ⟨rfl, hb⟩; have sp4 := SPost.later (g := g) (a := .slice A3_ (nd.length + 1) c3_) (b := vE1) (c := vO1) hb; replace SP := Aside0.mk (SP.out.trans sp4); replace ST := Aside0.mk (ST.out.later hb); clear sp4 hb hc4 hf4) | (go_at_call 45; refine (IH.out (nd ++ [x]) o1 o2 _ _ _ _ (by simp; have := Q3.out; have := M0.out; omega) ST.out HR1.out).mono ?_; rintro e w5 ⟨rfl, vN4, vE4, vO4, st4, sp4⟩; obtain ⟨AN4, cN4, rfl⟩ := Kd.R_slice st4.N; have hc4_ := bc4_ st4.blk; have hf4_ := blk_frozen st4.blk 4; have hcap : nd.length ≤ cN4 := (by have := (Kd.R_reads' st4.N).2.1; simp at this; omega); replace SP := Aside0.mk (SP.out.trans sp4); replace ST := Aside0.mk st4; clear st4 sp4))
      go_roundw
      case rel => exact ⟨x + 1, o2, _, _, _, by rw [HW.out], ⟨by have := P1.out; have := Q5.out; omega⟩, ⟨by have h_ := (ST.out.cutN (m := nd.length) (by simp)).1; rw [List.take_left] at h_; exact h_⟩, ⟨SP.out.trans (ST.out.cutN (m := nd.length) (by simp)).2⟩, HR2⟩
      case measure => rw [HW.out]; simp only [intOf]; have := P1.out; have := Q5.out; omega
end
set_option maxHeartbeats 8000000 in
set_option maxRecDepth 100000 in
theorem morphism_All.calls (k : Nat) (A0_0 : Option Addr) (c0_0 : Nat) (l0_0 : List Int) (A0_1 : Option Addr) (c0_1 : Nat) (l0_1 : List (S65)) (A1_0 : Option Addr) (c1_0 : Nat) (l1_0 : List Int) (A1_1 : Option Addr) (c1_1 : Nat) (l1_1 : List (S65)) (r1 : List S27) (r2 : Int) (w : World) (hr0_0 : Kd.C (Kd.int .i64) w A0_0 l0_0.length l0_0) (hc0_0 : l0_0.length ≤ c0_0) (hr0_1 : Kd.C k65 w A0_1 l0_1.length l0_1) (hc0_1 : l0_1.length ≤ c0_1) (hr1_0 : Kd.C (Kd.int .i64) w A1_0 l1_0.length l1_0) (hc1_0 : l1_0.length ≤ c1_0) (hr1_1 : Kd.C k65 w A1_1 l1_1.length l1_1) (hc1_1 : l1_1.length ≤ c1_1) (h : morphism_All.f k l0_0 l0_1 l1_0 l1_1 = some (r1, r2)) :
    Calls Try.prog 20 #[.agg #[.slice A0_0 l0_0.length c0_0, .slice A0_1 l0_1.length c0_1], .agg #[.slice A1_0 l1_0.length c1_0, .slice A1_1 l1_1.length c1_1]] w fun e w' => ∃ v0_ : Value, e = .returned (.tuple #[v0_, .int .i64 r2]) ∧ Kd.S k27 27 w' w.heap.size (fun _ => True) v0_ r1 ∧ Below w.heap.size w w' := by
  have hu1 := Try.underlying25
  have hu2 := Try.underlying65
  have hu3 := Try.underlying74
  have HR00 := Aside0.mk hr0_0
  have HC00 := Aside0.mk hc0_0
  have HR01 := Aside0.mk hr0_1
  have HC01 := Aside0.mk hc0_1
  have HR10 := Aside0.mk hr1_0
  have HC10 := Aside0.mk hc1_0
  have HR11 := Aside0.mk hr1_1
  have HC11 := Aside0.mk hc1_1
  clear hr0_0 hc0_0 hr0_1 hc0_1 hr1_0 hc1_0 hr1_1 hc1_1
  have HB := Aside0.mk (Below.refl w.heap.size w)
  unfold morphism_All.f at h
  obtain ⟨W0, hW0⟩ : ∃ W0 : World, W0 = (w.alloc (.cells #[.slice A0_0 l0_0.length c0_0, .slice A0_1 l0_1.length c0_1] 25)).alloc (.cells #[.slice A1_0 l1_0.length c1_0, .slice A1_1 l1_1.length c1_1] 25) := ⟨_, rfl⟩
  have KB : Aside0 (Below w.heap.size w W0) := ⟨by rw [hW0]; exact ((Below.refl _ _).alloc (Nat.le_refl _) _).alloc (by simp) _⟩
  have K00 : Aside0 (W0.cell? ⟨w.heap.size, 0, none⟩ = some (.slice A0_0 l0_0.length c0_0)) := ⟨by rw [hW0]; go_simp⟩
  have K01 : Aside0 (W0.cell? ⟨w.heap.size, 1, none⟩ = some (.slice A0_1 l0_1.length c0_1)) := ⟨by rw [hW0]; go_simp⟩
  have K10 : Aside0 (W0.cell? ⟨w.heap.size + 1, 0, none⟩ = some (.slice A1_0 l1_0.length c1_0)) := ⟨by rw [hW0]; go_simp⟩
  have K11 : Aside0 (W0.cell? ⟨w.heap.size + 1, 1, none⟩ = some (.slice A1_1 l1_1.length c1_1)) := ⟨by rw [hW0]; go_simp⟩
  have HW0 := Aside0.mk hW0
  clear hW0
  replace h := Option.bind_eq_some_iff.mp h
  obtain ⟨e1, a1, h⟩ := h
  have E1 := Aside0.mk a1
  clear a1
  by_cases c1 : e1 = 0
  case neg =>
    rw [if_neg c1] at h
    simp only [Option.some.injEq, Prod.mk.injEq] at h
    obtain ⟨rfl, rfl⟩ := h
    have b1 : (e1 != 0) = true := bne_iff_ne.mpr c1
    clear c1
    go_enter Try.func20, Try.ntmps20
    go_wp2_with (first | (go_at_call 38; (with_reducible refine (graph_Valid.calls _ _ l0_0 _ _ l0_1 e1 _ ?s1 HC00.out ?s2 HC01.out E1.out).mono ?_); (case s1 => rw [← HW0.out]; exact Kd.C_below HR00.out KB.out); (case s2 => rw [← HW0.out]; exact Kd.C_below HR01.out KB.out); rintro e w1 ⟨rfl, hb⟩; rw [← HW0.out] at hb; replace HB := Aside0.mk (below_step KB.out hb); clear hb))
    go_ret2
    exact ⟨_, rfl, Kd.S_nil _ _ _ _ _, HB.out⟩
  subst c1
  rw [if_pos rfl] at h
  replace h := Option.bind_eq_some_iff.mp h
  obtain ⟨e2, a2, h⟩ := h
  have E2 := Aside0.mk a2
  clear a2
  by_cases c2 : e2 = 0
  case neg =>
    rw [if_neg c2] at h
    simp only [Option.some.injEq, Prod.mk.injEq] at h
    obtain ⟨rfl, rfl⟩ := h
    have b1 : (e2 != 0) = true := bne_iff_ne.mpr c2
    clear c2
    go_enter Try.func20, Try.ntmps20
    go_wp2_with (first | (go_at_call 38; (with_reducible refine (graph_Valid.calls _ _ l0_0 _ _ l0_1 0 _ ?s1 HC00.out ?s2 HC01.out E1.out).mono ?_); (case s1 => rw [← HW0.out]; exact Kd.C_below HR00.out KB.out); (case s2 => rw [← HW0.out]; exact Kd.C_below HR01.out KB.out); rintro e w1 ⟨rfl, hb⟩; rw [← HW0.out] at hb; replace HB := Aside0.mk (below_step KB.out hb); have k10 := cell_below hb K10.out; have k11 := cell_below hb K11.out; clear hb) | (go_at_call 38; (with_reducible refine (graph_Valid.calls _ _ l1_0 _ _ l1_1 e2 _ ?s1 HC10.out ?s2 HC11.out E2.out).mono ?_); (case s1 => exact Kd.C_below HR10.out HB.out); (case s2 => exact Kd.C_below HR11.out HB.out); rintro e w2 ⟨rfl, hb⟩; replace HB := Aside0.mk (below_step HB.out hb); clear hb))
    go_ret2
    exact ⟨_, rfl, Kd.S_nil _ _ _ _ _, HB.out⟩
  subst c2
  rw [if_pos rfl] at h
  have small : ∀ {l : List Int} {m : List S65}, graph_Valid.f l m = some 0 → l.length ≤ 1000 ∧ m.length ≤ 1000 := fun {l m} hv => by
    unfold graph_Valid.f at hv
    split at hv
    · simp at hv
    split at hv
    · simp at hv
    omega
  have S1 := Aside0.mk (small E1.out)
  have S2 := Aside0.mk (small E2.out)
  clear small
  replace h := Option.bind_eq_some_iff.mp h
  obtain ⟨out, a3, h⟩ := h
  have E3 := Aside0.mk a3
  clear a3
  by_cases c3 : out.length > 2000
  case pos =>
    rw [if_pos c3] at h
    simp only [Option.some.injEq, Prod.mk.injEq] at h
    obtain ⟨rfl, rfl⟩ := h
    have b3 : decide ((2000 : Int) < (out.length : Int)) = true := decide_eq_true (by omega)
    clear c3
    go_enter Try.func20, Try.ntmps20
    go_wp2_with (first | (go_at_call 38; (with_reducible refine (graph_Valid.calls _ _ l0_0 _ _ l0_1 0 _ ?s1 HC00.out ?s2 HC01.out E1.out).mono ?_); (case s1 => rw [← HW0.out]; exact Kd.C_below HR00.out KB.out); (case s2 => rw [← HW0.out]; exact Kd.C_below HR01.out KB.out); rintro e w1 ⟨rfl, hb⟩; rw [← HW0.out] at hb; replace HB := Aside0.mk (below_step KB.out hb); have k00 := cell_below hb K00.out; have k01 := cell_below hb K01.out; have k10 := cell_below hb K10.out; have k11 := cell_below hb K11.out; clear hb) | (go_at_call 38; (with_reducible refine (graph_Valid.calls _ _ l1_0 _ _ l1_1 0 _ ?s1 HC10.out ?s2 HC11.out E2.out).mono ?_); (case s1 => exact Kd.C_below HR10.out HB.out); (case s2 => exact Kd.C_below HR11.out HB.out); rintro e w2 ⟨rfl, hb⟩; replace HB := Aside0.mk (below_step HB.out hb); have j00 := cell_below hb k00; have j01 := cell_below hb k01; have j10 := cell_below hb k10; have j11 := cell_below hb k11; clear hb k00 k01 k10 k11) | (go_at_call 45; refine (search_addNodes (w0 := w) HR00.out HR01.out HR10.out HR11.out S1.out.1 S1.out.2 S2.out.1 S2.out.2 k [] [] out _ _ _ _ (Nat.zero_le _) (⟨blk_new _ _, Kd.R_nil _ _ _ _ _, Kd.R_nil _ _ _ _ _, Kd.S_nil _ _ _ _ _, mb_ HB.out, HB.out.size⟩ : SSt _ _ _ _ _ _ _ _ _ _ _ _ _ _ _ _ _ _ _ _ _) E3.out).mono ?_; rintro e w5 ⟨rfl, vN4, vE4, vO4, st4, sp4⟩; obtain ⟨AO4, cO4, rfl⟩ := Kd.S_slice st4.O; have hc6 := bc6_ st4.blk; have ST4 := Aside0.mk st4; clear st4 sp4))
    go_ret2
    exact ⟨_, rfl, Kd.S_nil _ _ _ _ _, ST4.out.below⟩
  rw [if_neg c3] at h
  simp only [Option.some.injEq, Prod.mk.injEq] at h
  obtain ⟨rfl, rfl⟩ := h
  have b3 : decide ((2000 : Int) < (out.length : Int)) = false := decide_eq_false (by omega)
  clear c3
  go_enter Try.func20, Try.ntmps20
  go_wp2_with (first | (go_at_call 38; (with_reducible refine (graph_Valid.calls _ _ l0_0 _ _ l0_1 0 _ ?s1 HC00.out ?s2 HC01.out E1.out).mono ?_); (case s1 => rw [← HW0.out]; exact Kd.C_below HR00.out KB.out); (case s2 => rw [← HW0.out]; exact Kd.C_below HR01.out KB.out); rintro e w1 ⟨rfl, hb⟩; rw [← HW0.out] at hb; replace HB := Aside0.mk (below_step KB.out hb); have k00 := cell_below hb K00.out; have k01 := cell_below hb K01.out; have k10 := cell_below hb K10.out; have k11 := cell_below hb K11.out; clear hb) | (go_at_call 38; (with_reducible refine (graph_Valid.calls _ _ l1_0 _ _ l1_1 0 _ ?s1 HC10.out ?s2 HC11.out E2.out).mono ?_); (case s1 => exact Kd.C_below HR10.out HB.out); (case s2 => exact Kd.C_below HR11.out HB.out); rintro e w2 ⟨rfl, hb⟩; replace HB := Aside0.mk (below_step HB.out hb); have j00 := cell_below hb k00; have j01 := cell_below hb k01; have j10 := cell_below hb k10; have j11 := cell_below hb k11; clear hb k00 k01 k10 k11) | (go_at_call 45; refine (search_addNodes (w0 := w) HR00.out HR01.out HR10.out HR11.out S1.out.1 S1.out.2 S2.out.1 S2.out.2 k [] [] out _ _ _ _ (Nat.zero_le _) (⟨blk_new _ _, Kd.R_nil _ _ _ _ _, Kd.R_nil _ _ _ _ _, Kd.S_nil _ _ _ _ _, mb_ HB.out, HB.out.size⟩ : SSt _ _ _ _ _ _ _ _ _ _ _ _ _ _ _ _ _ _ _ _ _) E3.out).mono ?_; rintro e w5 ⟨rfl, vN4, vE4, vO4, st4, sp4⟩; obtain ⟨AO4, cO4, rfl⟩ := Kd.S_slice st4.O; have hc6 := bc6_ st4.blk; have ST4 := Aside0.mk st4; clear st4 sp4))
  go_ret2
  exact ⟨_, rfl, Kd.S_mono ST4.out.O (fun _ _ => trivial), ST4.out.below⟩

end Go.Proofs.Ytklacpdobpkbbaa.P
