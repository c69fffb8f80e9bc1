/- Texts A17 A50 W12a WGa WGb WGc A41 W10i W10j WGd, joined. -/
import Derived.Test.YtjiechgnlcpllaaGreatRGD
import Derived.Test.YtjiechgnlcpllaaGreatRGE
import Derived.Test.YtjiechgnlcpllaaGreatRGA
import Derived.Test.YtjiechgnlcpllaaGreatSkTp
import Derived.Test.YtjiechgnlcpllaaGreatSkRg
import Derived.Test.YtjiechgnlcpllaaGreatRGB
import Derived.Test.YtjiechgnlcpllaaGreatSkSq
import Derived.Test.YtjiechgnlcpllaaGreatRGC
set_option linter.unusedSimpArgs false
set_option linter.unusedVariables false
set_option linter.unusedSectionVars false
-- A17
section
namespace Go.Sk

/-- The cell that an event meets in row i, before and behind it. -/
noncomputable def cellG (g : Grid) (e : Event) (i : Nat) : Hist × Int := addH ((g.rows.getD i []).getD (colN g e.k i) zeroH) e.t e.w
theorem rowsV_at (g : Grid) (e : Event) : ∀ m, m ≤ g.rows.length → (rowsV g e m).2 = 0 → ∀ i, i < m → (cellG g e i).2 = 0 ∧ (rowsV g e m).1.getD i [] = (g.rows.getD i []).set (colN g e.k i) (cellG g e i).1 := by
  intro m
  induction m with
  | zero => intro _ _ i hi; omega
  | succ m ih =>
    intro hm h0 i hi
    have hse : rowsV g e (m + 1) = stepG g e m (rowsV g e m) := rfl
    unfold stepG at hse
    by_cases he : (rowsV g e m).2 = 0
    rotate_left
    · rw [if_neg he] at hse; rw [hse] at h0; exact absurd h0 he
    rw [if_pos he, rowsV_later g e m m (Nat.le_refl _)] at hse
    have hlt : m < (rowsV g e m).1.length := by rw [rowsV_len]; omega
    rw [hse] at h0 ⊢
    by_cases hc : i = m
    · subst hc
      refine ⟨h0, ?_⟩
      simp [List.getD_eq_getElem?_getD, hlt, cellG]
    · obtain ⟨h1, h2⟩ := ih (by omega) he i (by omega)
      refine ⟨h1, ?_⟩
      rw [← h2]
      simp [List.getD_eq_getElem?_getD, List.getElem?_set, Ne.symm hc]
/-- What was added to a good histogram makes another one of it. -/
theorem addH_other {h : Hist} (g : h.Good) {t w : Nat} (e : (addH h t w).2 = 0) : (addH h t w).1 ≠ h ∧ totV (addH h t w).1.ls = m64 (totV h.ls + w) := by
  obtain ⟨h1, _, _, h4⟩ := addH_good g t w e
  have hw : w ≠ 0 := by
    rintro rfl
    unfold addH addV at e
    rw [if_pos rfl] at e; simp at e
  have b1 := g.tot
  have b2 := h1.tot
  refine ⟨fun he => ?_, ?_⟩
  · rw [he] at h4; omega
  · rw [totV_eq (by omega), totV_eq (by omega), h4, m64_id (by omega)]
/-- A cell. -/
def cellOf (g : Grid) (i c : Nat) : Hist := (g.rows.getD i []).getD c zeroH
end Go.Sk
end

-- A50
section
namespace Go.Sk

theorem flowS_far (k F : Nat) : ∀ ls i (c : List Span), (∀ s ∈ flat ls, s.b ≤ F) → (∀ s ∈ c, s.b ≤ F) → ∀ s ∈ flat (flowS k i ls c), s.b ≤ F := by
  refine flowS_ind k (fun i ls c => (∀ s ∈ flat ls, s.b ≤ F) → (∀ s ∈ c, s.b ≤ F) → ∀ s ∈ flat (flowS k i ls c), s.b ≤ F) ?_ ?_
  · intro i _ _ s hs; rw [flowS_nil] at hs; cases hs
  · intro i ls c hne ih h1 h2 s hs
    rw [flowS_cons hne] at hs
    rw [flat_tail] at h1
    have hall : ∀ s ∈ ls.headD [] ++ c, s.b ≤ F := fun s hs => by
      rcases List.mem_append.1 hs with hs | hs
      · exact h1 s (List.mem_append_right _ hs)
      · exact h2 s hs
    rcases List.mem_append.1 hs with hs | hs
    · refine ih (fun s hs => h1 s (List.mem_append_left _ hs)) (fun s hs => ?_) s hs
      obtain ⟨x, _, y, hy, rfl⟩ := pairUp_mem _ s hs
      exact hall y (List.mem_of_mem_take hy)
    · exact hall s (List.mem_of_mem_drop hs)
theorem addH_fine {h : Hist} (f : h.Fine) (t w : Nat) (e : (addH h t w).2 = 0) : (addH h t w).1.Fine := by
  obtain ⟨b1, b2, b3, b4⟩ := addH_good f.good t w e
  obtain ⟨c1, _⟩ := addH_tidy f.good f.tidy t w e
  have hv : (addH h t w).1.ls = flowS h.k.toNat 0 h.ls (List.replicate w ⟨t, t⟩) ∧ t ≤ 9223372036854775807 := by
    unfold addH addV at e ⊢
    by_cases h1 : w = 0
    · rw [if_pos h1] at e; simp at e
    rw [if_neg h1] at e ⊢
    by_cases h2 : 9223372036854775807 < t ∨ ((lastV h.ls).2 = true ∧ t < (lastV h.ls).1)
    · rw [if_pos h2] at e; simp at e
    rw [if_neg h2] at e ⊢
    by_cases h3 : 4503599627370496 - totN 0 h.ls < w
    · rw [if_pos h3] at e; simp at e
    rw [if_neg h3, flowS_eq, List.nil_append]
    exact ⟨rfl, by omega⟩
  obtain ⟨hls, ht⟩ := hv
  refine ⟨b1, by rw [b2]; exact c1, ?_, by rw [b3]; exact f.g0, by rw [b2, hls]; exact flowS_most _ _ _ _⟩
  rw [hls]
  exact flowS_far _ _ _ _ _ f.far (fun s hs => by rw [List.eq_of_mem_replicate hs]; exact ht)
theorem empty_fine {k : Int} (h1 : 2 ≤ k) (h2 : k ≤ 1024) : (emptyH k).Fine :=
  ⟨emptyH_good h1 h2, empty_tidy _, fun x hx => (by cases hx), Int.le_refl _, True.intro⟩

/-- All cells are made alike. -/
structure Grid.Whole (g : Grid) : Prop where
  good : g.Good
  all : g.all.Fine
  cell : ∀ i c, i < g.rows.length → c < g.w.toNat → (cellOf g i c).Fine ∧ (cellOf g i c).k = g.all.k ∧ (cellOf g i c).g = g.all.g
/-- No cell has more than all. -/
def Grid.Less (g : Grid) : Prop := ∀ i c, i < g.rows.length → c < g.w.toNat → totN 0 (cellOf g i c).ls ≤ totN 0 g.all.ls
theorem cellOf_add {g : Grid} (hg : g.Good) (e : Event) (h0 : (addG g e).2 = 0) (i c : Nat) (hi : i < g.rows.length) (hc : c < g.w.toNat) :
    cellOf (addG g e).1 i c = cellOf g i c ∨ (c = colN g e.k i ∧ (addH (cellOf g i c) e.t e.w).2 = 0 ∧ cellOf (addG g e).1 i c = (addH (cellOf g i c) e.t e.w).1) := by
  obtain ⟨hk, hr0, hAG⟩ := addG_ok h0
  obtain ⟨a1, a2⟩ := rowsV_at g e g.rows.length (Nat.le_refl _) hr0 i hi
  have hrl : (g.rows.getD i []).length = g.w.toNat := by
    rw [show g.rows.getD i [] = g.rows[i] by simp [List.getD_eq_getElem?_getD, hi]]; exact hg.wid _ (List.getElem_mem hi)
  rw [hAG]
  by_cases hcc : c = colN g e.k i
  · right
    subst hcc
    refine ⟨rfl, a1, ?_⟩
    unfold cellOf
    dsimp only
    rw [a2, List.getD_eq_getElem?_getD, List.getElem?_set_self (by rw [hrl]; exact hc)]; rfl
  · left
    unfold cellOf
    dsimp only
    rw [a2, List.getD_eq_getElem?_getD, List.getElem?_set_ne (Ne.symm hcc), ← List.getD_eq_getElem?_getD]
theorem whole_add {g : Grid} (hw : g.Whole) (e : Event) (h0 : (addG g e).2 = 0) : (addG g e).1.Whole ∧ (addG g e).1.all.g = g.all.g ∧ (addG g e).1.all.k = g.all.k ∧ (addG g e).1.sd = g.sd ∧ (addG g e).1.w = g.w ∧ (g.Less → (addG g e).1.Less) := by
  have hG := addG_good hw.good e h0
  have hc := cellOf_add hw.good e h0
  obtain ⟨hk, hr0, hAG⟩ := addG_ok h0
  have hf := rowsV_first g e _ hr0
  obtain ⟨x1, x2, x3, x4⟩ := addH_good hw.good.all e.t e.w hf
  have hl : (addG g e).1.rows.length = g.rows.length := by rw [hAG]; exact rowsV_len g e _
  have ha : (addG g e).1.all = (addH g.all e.t e.w).1 := by rw [hAG]
  have hs : (addG g e).1.sd = g.sd := by rw [hAG]
  have hwd : (addG g e).1.w = g.w := by rw [hAG]
  refine ⟨⟨hG, by rw [ha]; exact addH_fine hw.all _ _ hf, fun i c hi hcw => ?_⟩, by rw [ha]; exact x3, by rw [ha]; exact x2, hs, hwd, fun hL i c hi hcw => ?_⟩
  · rw [hl] at hi
    rw [hwd] at hcw
    obtain ⟨c1, c2, c3⟩ := hw.cell i c hi hcw
    rw [ha, x2, x3]
    rcases hc i c hi hcw with h | ⟨_, h1, h2⟩
    · rw [h]; exact ⟨c1, c2, c3⟩
    · rw [h2]
      obtain ⟨_, y2, y3, _⟩ := addH_good c1.good e.t e.w h1
      exact ⟨addH_fine c1 _ _ h1, by rw [y2]; exact c2, by rw [y3]; exact c3⟩
  · rw [hl] at hi
    rw [hwd] at hcw
    obtain ⟨c1, _, _⟩ := hw.cell i c hi hcw
    have := hL i c hi hcw
    rw [ha, x4]
    rcases hc i c hi hcw with h | ⟨_, h1, h2⟩
    · rw [h]; omega
    · rw [h2, (addH_good c1.good e.t e.w h1).2.2.2]; omega
theorem cellOf_new {k w : Int} {sd : List Seed} {i c : Nat} (hi : i < (newV k w sd).rows.length) (hc : c < (newV k w sd).w.toNat) : cellOf (newV k w sd) i c = emptyH k := by
  unfold cellOf newV at *
  dsimp only at *
  simp only [List.length_replicate] at hi
  rw [List.getD_eq_getElem?_getD, List.getD_eq_getElem?_getD, List.getElem?_replicate, if_pos hi]
  simp only [Option.getD_some]
  rw [List.getElem?_replicate, if_pos hc]; rfl
theorem tameV_whole (c : Conf2) : (tameV c).Whole ∧ (tameV c).Less ∧ (tameV c).all.g = 0 := by
  have hk1 : 2 ≤ tameK c := by unfold tameK; omega
  have hk2 : tameK c ≤ 1024 := by unfold tameK; omega
  refine ⟨⟨tameV_good c, empty_fine hk1 hk2, fun i j hi hj => ?_⟩, fun i j hi hj => ?_, rfl⟩
  · have e : cellOf (tameV c) i j = emptyH (tameK c) := cellOf_new hi hj
    rw [e]; exact ⟨empty_fine hk1 hk2, rfl, rfl⟩
  · have e : cellOf (tameV c) i j = emptyH (tameK c) := cellOf_new hi hj
    rw [e]; exact Nat.le_refl _
theorem madeGo_whole : ∀ l t g all, Grid.Whole g → Grid.Less g → g.all.g = 0 → (madeGo l t g all).1.Whole ∧ (madeGo l t g all).1.Less ∧ (madeGo l t g all).1.all.g = 0 := by
  intro l
  induction l with
  | nil => intro t g all h1 h2 h3; exact ⟨h1, h2, h3⟩
  | cons x r ih =>
    intro t g all h1 h2 h3
    unfold madeGo
    split
    · rename_i c
      obtain ⟨w1, w2, _, _, _, w6⟩ := whole_add h1 _ c
      exact ih _ _ _ w1 (w6 h2) (by rw [w2]; exact h3)
    · exact ih _ _ _ h1 h2 h3
theorem madeV_whole (c : Conf2) (l : List Event) : (madeV c l).1.Whole ∧ (madeV c l).1.Less ∧ (madeV c l).1.all.g = 0 := by
  obtain ⟨a, b, d⟩ := tameV_whole c
  exact madeGo_whole _ _ _ _ a b d

/-! Grids as one. -/
def ownE (g : Grid) (i c : Nat) (evs : List Event) : List Event := evs.filter fun e => decide (colN g e.k i = c)
def cellsE (l : List Grid) (i c : Nat) : List Hist := l.map fun g => cellOf g i c
noncomputable def mergedR (evs : List Event) (l : List Grid) (g : Grid) : List (List Hist) :=
  (List.range g.rows.length).map fun i => (List.range g.w.toNat).map fun c => (withV (ownE g i c evs) (cellsE l i c)).1
def zGrid : Grid := ⟨0, [], [], zeroH⟩
def likeG (g h : Grid) : Bool := decide (g.w = h.w) && decide (g.all.k = h.all.k) && decide (g.sd = h.sd)
noncomputable def mergeG (evs : List Event) (l : List Grid) : Grid × Int :=
  if l = [] then (zeroG, 1)
  else if l.any (fun g => !likeG g (l.headD zGrid)) = true then (zeroG, 9)
  else if evs.any (fun e => !decide (e.k < 2305843009213693951)) = true then (zeroG, 7)
  else if (withV evs (l.map Grid.all)).2 = 0 then (⟨(l.headD zGrid).w, (l.headD zGrid).sd, mergedR evs l (l.headD zGrid), (withV evs (l.map Grid.all)).1⟩, 0)
  else (zeroG, (withV evs (l.map Grid.all)).2)
/-- May cells be merged where all may? -/
def GridsOk (evs : List Event) (l : List Grid) : Prop :=
  (withV evs (l.map Grid.all)).2 = 0 → ∀ i c, i < (l.headD zGrid).rows.length → c < (l.headD zGrid).w.toNat → (withV (ownE (l.headD zGrid) i c evs) (cellsE l i c)).2 = 0
theorem sumT_map {α : Type} (f g : α → Hist) : ∀ l : List α, (∀ x ∈ l, totN 0 (f x).ls ≤ totN 0 (g x).ls) → sumT (l.map f) ≤ sumT (l.map g) := by
  intro l
  induction l with
  | nil => intro _; exact Nat.le_refl _
  | cons x r ih =>
    intro h
    rw [List.map_cons, List.map_cons, sumT_cons, sumT_cons]
    have := h x (by simp)
    have := ih (fun y hy => h y (by simp [hy]))
    omega
theorem sumE_filter (p : Event → Bool) (l : List Event) : sumE Event.w (l.filter p) ≤ sumE Event.w l := by
  induction l with
  | nil => exact Nat.le_refl _
  | cons x r ih =>
    rw [List.filter_cons, sumE_cons]
    split
    · rw [sumE_cons]; omega
    · omega
theorem maxG_map {α : Type} (f g : α → Hist) : ∀ l : List α, (∀ x ∈ l, (f x).g = (g x).g) → maxG (l.map f) = maxG (l.map g) := by
  have key : ∀ (l : List α) (a : Int), (∀ x ∈ l, (f x).g = (g x).g) → (l.map f).foldl (fun g h => max g h.g) a = (l.map g).foldl (fun g h => max g h.g) a := by
    intro l
    induction l with
    | nil => intro a _; rfl
    | cons x r ih =>
      intro a h
      rw [List.map_cons, List.map_cons, List.foldl_cons, List.foldl_cons, h x (by simp)]
      exact ih _ (fun y hy => h y (by simp [hy]))
  intro l h
  exact key l 0 h
theorem like_len {l : List Grid} (hw : ∀ g ∈ l, g.Whole) (hl : l.any (fun g => !likeG g (l.headD zGrid)) = false) : ∀ g ∈ l, g.w = (l.headD zGrid).w ∧ g.all.k = (l.headD zGrid).all.k ∧ g.sd = (l.headD zGrid).sd ∧ g.rows.length = (l.headD zGrid).rows.length := by
  intro g hg
  rw [List.any_eq_false] at hl
  have h := hl g hg
  unfold likeG at h
  simp only [Bool.not_eq_true', Bool.not_eq_false, Bool.and_eq_true, decide_eq_true_eq] at h
  obtain ⟨⟨h1, h2⟩, h3⟩ := h
  have hh : l.headD zGrid ∈ l := by cases l with | nil => cases hg | cons a r => simp
  refine ⟨h1, h2, h3, ?_⟩
  rw [← (hw g hg).good.sd, ← (hw _ hh).good.sd, h3]
theorem grids_came {evs : List Event} {l : List Grid} (hw : ∀ g ∈ l, g.Whole) (hl : l.any (fun g => !likeG g (l.headD zGrid)) = false) (c : Came (l.map Grid.all) evs) (i j : Nat) (hi : i < (l.headD zGrid).rows.length) (hj : j < (l.headD zGrid).w.toNat)
    (hlt : sumT (cellsE l i j) + sumE Event.w (ownE (l.headD zGrid) i j evs) ≤ 4503599627370496) : Came (cellsE l i j) (ownE (l.headD zGrid) i j evs) := by
  have hne : l ≠ [] := fun e => c.ne (by rw [e]; rfl)
  have hlen := like_len hw hl
  have hcell : ∀ g ∈ l, (cellOf g i j).Fine ∧ (cellOf g i j).k = g.all.k ∧ (cellOf g i j).g = g.all.g := fun g hg => by
    obtain ⟨h1, _, _, h4⟩ := hlen g hg
    exact (hw g hg).cell i j (by rw [h4]; exact hi) (by rw [h1]; exact hj)
  obtain ⟨a, r, rfl⟩ : ∃ a r, l = a :: r := by cases l with | nil => exact absurd rfl hne | cons a r => exact ⟨a, r, rfl⟩
  have hk0 := (hcell a (by simp)).2.1
  refine ⟨by simp [cellsE], fun h hh => ?_, fun h hh => ?_, ?_, fun e he => ?_, hlt⟩
  · obtain ⟨g, hg, rfl⟩ := List.mem_map.1 hh
    show _ = (cellOf a i j).k
    rw [hk0, (hcell g hg).2.1]
    exact (hlen g hg).2.1
  · obtain ⟨g, hg, rfl⟩ := List.mem_map.1 hh
    exact (hcell g hg).1
  · have : maxG (cellsE (a :: r) i j) = maxG ((a :: r).map Grid.all) := maxG_map _ _ _ (fun g hg => (hcell g hg).2.2)
    rw [this]; exact c.g
  · exact c.w e (List.mem_filter.1 he).1
theorem grids_ok {evs : List Event} {l : List Grid} (hw : ∀ g ∈ l, g.Whole) (hs : ∀ g ∈ l, g.Less) (hl : l.any (fun g => !likeG g (l.headD zGrid)) = false) (c : Came (l.map Grid.all) evs) : GridsOk evs l := by
  intro _ i j hi hj
  refine (with_ok (grids_came hw hl c i j hi hj ?_)).1
  have hlen := like_len hw hl
  have h1 : sumT (cellsE l i j) ≤ sumT (l.map Grid.all) := sumT_map _ _ _ (fun g hg => by
    obtain ⟨h1, _, _, h4⟩ := hlen g hg
    exact hs g hg i j (by rw [h4]; exact hi) (by rw [h1]; exact hj))
  have h2 : sumE Event.w (ownE (l.headD zGrid) i j evs) ≤ sumE Event.w evs := sumE_filter _ _
  have := c.tot
  omega
end Go.Sk
end

-- W12a
section
namespace Go.Sk
open Go Go.Proofs

def Buf.pv (b : Buf) : List PV := [.int .u64 b.late, .int .i64 b.room, .int .u64 b.mark, .int .u64 b.front, .sl (b.evs.map Event.pv)]
def Buf.av (b : Buf) : AV := .agg (b.pv.map .p)
attribute [go_sem] Buf.pv Buf.av
theorem evn_len {l : List Event} : ∀ el ∈ l.map Event.pv, el.length = 3 := by
  intro el h; obtain ⟨x, _, rfl⟩ := List.mem_map.1 h; rfl

theorem clone_ev (l : List Event) (hn : l.length < 1099511627776) : Pure Tryz.prog 63 [.p (.sl (l.map Event.pv))] (.p (.sl (l.map Event.pv))) := fun S => by
  refine callR_of Tryz.func63 rfl rfl (xc_ok (bitB 21) _ _ _ ?_)
  simp only [go_sem]
  refine ⟨fun h => ⟨S, Sub.refl _, by rw [h], rfl⟩, evn_len, by omega, by omega, tip_intro fun k loc hk => ?_⟩
  simp only [go_sem]
  (refine ⟨S, by (repeat (first | exact Sub.refl _ | refine Sub.setF ?_ (by first | assumption | simp only [*]) | refine Sub.setV ?_ (by first | assumption | simp only [*]))), ?_⟩); simp

end Go.Sk
end

-- WGa
section
namespace Go.Sk
open Go Go.Proofs

/-! Cells of a row of events. -/
theorem ev3_len {l : List Event} : ∀ el ∈ l.map Event.pv, el.length = 3 := by
  intro el h; obtain ⟨x, _, rfl⟩ := List.mem_map.1 h; rfl
theorem eflat_len (r : List Event) : (flatA (r.map Event.pv)).length = r.length * 3 := by rw [flatA_length (sz := 3) (by intro el h; obtain ⟨x, _, rfl⟩ := List.mem_map.1 h; rfl)]; simp
theorem eflat_cut (r : List Event) (t : List AV) : ∀ c, (h : c < r.length) → ((flatA (r.map Event.pv) ++ t).drop (c * 3)).take 3 = (r[c]).pv.map .p := by
  induction r with
  | nil => intro c h; simp at h
  | cons x r ih =>
    intro c h
    cases c with
    | zero => simp [flatA, Event.pv]
    | succ c =>
      have := ih c (by simpa using h)
      have e : flatA (List.map Event.pv (x :: r)) = x.pv.map .p ++ flatA (List.map Event.pv r) := by simp [flatA]
      rw [e, List.append_assoc, show (c + 1) * 3 = 3 + c * 3 by omega, ← List.drop_drop]
      simpa [Event.pv] using this
theorem eflat_put (r : List Event) (t : List AV) (y : Event) : ∀ c, (h : c < r.length) → splice (flatA (r.map Event.pv) ++ t) (c * 3) (y.pv.map .p) = flatA ((r.set c y).map Event.pv) ++ t := by
  induction r with
  | nil => intro c h; simp at h
  | cons x r ih =>
    intro c h
    have e : ∀ (x : Event) (r : List Event), flatA (List.map Event.pv (x :: r)) = x.pv.map .p ++ flatA (List.map Event.pv r) := by intro x r; simp [flatA]
    cases c with
    | zero => rw [List.set_cons_zero, e, e]; unfold splice; simp [Event.pv]
    | succ c =>
      have := ih c (by simpa using h)
      rw [List.set_cons_succ, e, e, List.append_assoc, List.append_assoc, ← this]
      generalize flatA (List.map Event.pv r) ++ t = F
      unfold splice
      rw [show (c + 1) * 3 = c * 3 + 3 by omega]
      simp only [Event.pv, List.map_cons, List.map_nil, List.cons_append, List.nil_append, List.length_cons, List.length_nil]
      rw [show c * 3 + 3 + (0 + 1 + 1 + 1) = (c * 3 + (0 + 1 + 1 + 1)) + 3 by omega]
      simp only [List.take_succ_cons, List.drop_succ_cons, List.cons_append]
theorem eflat_take (M : List Event) (R : List AV) (a : Nat) (h : a ≤ M.length) : (flatA (M.map Event.pv) ++ R).take (a * 3) = flatA ((M.take a).map Event.pv) := by
  have e : M.map Event.pv = (M.take a).map Event.pv ++ (M.drop a).map Event.pv := by rw [← List.map_append, List.take_append_drop]
  have e2 : flatA (M.map Event.pv) = flatA ((M.take a).map Event.pv) ++ flatA ((M.drop a).map Event.pv) := by rw [e]; unfold flatA; rw [List.flatMap_append]
  have hl : (flatA ((M.take a).map Event.pv)).length = a * 3 := by rw [eflat_len, List.length_take, Nat.min_eq_left h]
  rw [e2, List.append_assoc, ← hl, List.take_left']
  rfl
theorem clone_evs (r : List Event) (hr : r ≠ []) (hn : r.length < 1099511627776) (S : Store) : CallR Tryz.prog 63 [.p (evsP r)] S
    (fun x S' => ∃ b c, Fresh S b ∧ r.length ≤ c ∧ x = .ms b 3 0 r.length c ∧ S' = S.set (.r b) (.cells (flatA (r.map Event.pv) ++ List.replicate ((c - r.length) * 3) .top))) := by
  refine callR_of Tryz.func63 rfl rfl (xc_ok (bitB 21) _ _ _ ?_)
  simp only [go_sem, evsP]
  refine ⟨fun h => absurd h (by simpa using hr), ev3_len, by omega, by omega, own_intro (by simpa using hr) fun b c hb hc => ?_⟩
  simp only [go_sem]
  refine ⟨_, Sub.refl _, Or.inl ⟨b, c, hb, by simpa using hc, ?_, ?_⟩⟩ <;> simp
/-! Is an event of another column? -/
def offC (g : Grid) (i c : Nat) (e : Event) : Bool := colV (g.sd.getD i default) e.k g.w != (c : Int)
theorem column1 {S : Store} {c5 c6 c7 : Nat} (g : Grid) (r : List Grid) (i c : Nat) (e : Event) (hi : i < g.sd.length) (hs : ∀ s ∈ g.sd, s.Ok) (he : e.k < 18446744073709551616) (hw : g.w < 9223372036854775808)
    (h5 : S (.r c5) = some (.cells [.p (.sl ((g :: r).map Grid.pv))])) (h6 : S (.r c6) = some (.cells [i64 i])) (h7 : S (.r c7) = some (.cells [i64 c])) :
    CallR Tryz.prog 64 [e.av, .sp c5 0, .sp c6 0, .sp c7 0] S (fun x S' => x = bl (offC g i c e) ∧ S' = S) := by
  refine callR_of Tryz.func64 rfl rfl (xc_ok (bitB 63) _ _ _ ?_)
  simp only [go_sem]
  refine alloc_intro fun b hb => ?_
  have n5 := hb.ne h5
  have n6 := hb.ne h6
  have n7 := hb.ne h7
  simp only [go_sem]
  have hsd : g.sd.getD i default = g.sd[i] := by simp [List.getD_eq_getElem?_getD, hi]
  refine AWP.draw2 (bitB 63) mixed (by kernel_rfl) (fun j => i64 (colV (g.sd[i]) e.k g.w)) ?_
  simp only [go_sem, h5, h6, h7, n5, n6, n7, ltN' hi, getD_map' _ _ _ _ hi]
  refine ⟨(hash_Column g.sd[i] e.k g.w (hs _ (List.getElem_mem hi)) he hw).draw, S, Sub.set (Sub.refl _) hb _, Or.inl ⟨?_, rfl⟩⟩
  unfold offC
  rw [hsd]
structure Caps (S : Store) (c5 c6 c7 : Nat) (g : Grid) (r : List Grid) (i c : Nat) : Prop where
  ri : i < g.sd.length
  so : ∀ s ∈ g.sd, s.Ok
  w : g.w < 9223372036854775808
  h5 : S (.r c5) = some (.cells [.p (.sl ((g :: r).map Grid.pv))])
  h6 : S (.r c6) = some (.cells [i64 i])
  h7 : S (.r c7) = some (.cells [i64 c])
theorem Caps.one {S : Store} {c5 c6 c7 i c : Nat} {g : Grid} {r : List Grid} (h : Caps S c5 c6 c7 g r i c) (e : Event) (he : e.Ok) : CallR Tryz.prog 64 [e.av, .sp c5 0, .sp c6 0, .sp c7 0] S (fun x S' => x = bl (offC g i c e) ∧ S' = S) :=
  column1 g r i c e h.ri h.so he.k h.w h.h5 h.h6 h.h7
theorem index_ms {S : Store} {b cap c5 c6 c7 i c : Nat} {g : Grid} {r : List Grid} (h : Caps S c5 c6 c7 g r i c) (l : List Event) (R : List AV) (hn : l.length < 1099511627776) (hl : ∀ e ∈ l, e.Ok) (hb : S (.r b) = some (.cells (flatA (l.map Event.pv) ++ R))) :
    CallR Tryz.prog 51 [.ms b 3 0 l.length cap, .fn (.func 64) [] [.sp c5 0, .sp c6 0, .sp c7 0]] S (fun x S' => x = i64 (if l.any (offC g i c) = true then (l.findIdx (offC g i c) : Int) else -1) ∧ S' = S) := by
  refine callR_of Tryz.func51 rfl rfl (xc_ok (bitB 66483) _ _ _ ?_)
  simp only [go_sem]
  have hlen : (flatA (l.map Event.pv) ++ R).length = l.length * 3 + R.length := by rw [List.length_append, eflat_len]
  generalize hp : offC g i c = p
  refine AWP.roam (ι := Nat) (fun i => i ≤ l.length ∧ ∀ j (h : j < i) (h2 : j < l.length), p l[j] = false)
    (fun i => ⟨Env.get [(0, .ms b 3 0 l.length cap), (1, .fn (.func 64) [] [.sp c5 0, .sp c6 0, .sp c7 0]), (7, i64 l.length), (8, i64 i)], S, 19, []⟩) (fun i => l.length - i) 0 ⟨by simp, fun j h => by omega⟩ ?_ ?_
  · exact le_of (by simp only [go_sem] <;> rfl) (Sub.refl _) rfl rfl (by simp)
  · rintro j ⟨hj, hall⟩ ih
    refine AWPH.step (xc_ok (bitB 66483) _ _ _ ?_)
    by_cases q : j < l.length
    · have hcut := eflat_cut l R j q
      simp only [go_sem, q, hb, hcut]
      refine ⟨by rw [hlen]; omega, (h.one l[j] (hl _ (List.getElem_mem q))).useA ?_⟩
      rintro _ S' ⟨rfl, hS⟩
      rw [hS, hp]
      cases ho : p l[j]
      · simp only [go_sem]
        refine (ih (j + 1) ⟨q, fun a ha h2 => ?_⟩ (by omega)).back (by (repeat (first | exact Sub.refl _ | refine Sub.setF ?_ (by first | assumption | simp only [*]) | refine Sub.setV ?_ (by first | assumption | simp only [*])))) (by simp) ?_
        · rcases Nat.lt_or_ge a j with hj' | hj'
          · exact hall a hj' h2
          · obtain rfl : a = j := by omega
            exact ho
        · simp only [go_sem, wi_succ (show j < 4611686018427387904 by omega)]
      · simp only [go_sem]
        have h1 : l.any p = true := List.any_eq_true.2 ⟨_, List.getElem_mem q, ho⟩
        have h2 : l.findIdx p = j := (List.findIdx_eq q).2 ⟨ho, fun a ha => hall a ha (by omega)⟩
        (refine ⟨S, by (repeat (first | exact Sub.refl _ | refine Sub.setF ?_ (by first | assumption | simp only [*]) | refine Sub.setV ?_ (by first | assumption | simp only [*]))), ?_⟩); rw [if_pos h1, h2]; simp
    · obtain rfl : j = l.length := by omega
      simp only [go_sem, q]
      have h1 : ¬ l.any p = true := fun h => by
        obtain ⟨x, hx, h⟩ := List.any_eq_true.1 h
        obtain ⟨j, hj, rfl⟩ := List.getElem_of_mem hx
        rw [hall j hj hj] at h; cases h
      (refine ⟨S, by (repeat (first | exact Sub.refl _ | refine Sub.setF ?_ (by first | assumption | simp only [*]) | refine Sub.setV ?_ (by first | assumption | simp only [*]))), ?_⟩); rw [if_neg h1]; simp
theorem index_nil (S : Store) (l : List Event) (hl : l = []) (f : Nat) (cs : List AV) : CallR Tryz.prog 51 [.p (evsP l), .fn (.func f) [] cs] S (fun x S' => x = i64 (-1) ∧ S' = S) := by
  refine callR_of Tryz.func51 rfl rfl (xc_ok (bitB 66483) _ _ _ ?_)
  simp only [go_sem, evsP]
  have h0 : l.length = 0 := by rw [hl]; rfl
  refine AWP.roam (ι := Nat) (fun i => i = l.length)
    (fun i => ⟨Env.get [(0, .p (evsP l)), (1, .fn (.func f) [] cs), (7, i64 l.length), (8, i64 i)], S, 19, []⟩) (fun i => l.length - i) 0 h0.symm ?_ ?_
  · exact le_of (by simp only [go_sem, evsP, List.length_map] <;> rfl) (Sub.refl _) rfl rfl (by simp)
  · rintro i rfl ih
    refine AWPH.step (xc_ok (bitB 66483) _ _ _ ?_)
    simp only [go_sem, evsP, List.length_map]
    (refine ⟨S, by (repeat (first | exact Sub.refl _ | refine Sub.setF ?_ (by first | assumption | simp only [*]) | refine Sub.setV ?_ (by first | assumption | simp only [*]))), ?_⟩); simp
theorem delete_nil (S : Store) (l : List Event) (hl : l = []) (f : Nat) (cs : List AV) : CallR Tryz.prog 62 [.p (evsP l), .fn (.func f) [] cs] S (fun x S' => x = .p (evsP []) ∧ S' = S) := by
  refine callR_of Tryz.func62 rfl rfl (xc_ok (bitB 537399539) _ _ _ ?_)
  simp only [go_sem, evsP]
  have hi := index_nil S l hl f cs
  unfold evsP at hi
  refine hi.useA ?_
  rintro _ S' ⟨rfl, hS⟩
  rw [hS]
  have q : ((-1 : Int) == -1) = true := by decide
  simp only [go_sem, q]
  (refine ⟨S, by (repeat (first | exact Sub.refl _ | refine Sub.setF ?_ (by first | assumption | simp only [*]) | refine Sub.setV ?_ (by first | assumption | simp only [*]))), ?_⟩); simp [hl]
theorem Caps.sub {S T : Store} {c5 c6 c7 i c : Nat} {g : Grid} {r : List Grid} (h : Caps S c5 c6 c7 g r i c) (k : Sub S T) : Caps T c5 c6 c7 g r i c :=
  ⟨h.ri, h.so, h.w, k _ _ h.h5, k _ _ h.h6, k _ _ h.h7⟩
/-- So far: those that stay, ahead; what wasn't looked at, behind. -/
structure Del (q : Event → Bool) (l : List Event) (i j : Nat) (M : List Event) : Prop where
  len : M.length = l.length
  le : i ≤ j
  jl : j ≤ l.length
  pre : M.take i = (l.take j).filter q
  post : M.drop j = l.drop j
theorem Del.keep {q : Event → Bool} {l M : List Event} {i j : Nat} (h : Del q l i j M) (hj : j < l.length) (hq : q l[j] = true) : Del q l (i + 1) (j + 1) (M.set i l[j]) := by
  have hl := h.len
  have hle := h.le
  refine ⟨by rw [List.length_set, hl], by omega, hj, ?_, ?_⟩
  · rw [List.take_succ_eq_append_getElem (by rw [List.length_set]; omega), List.getElem_set_self, List.take_set_of_le (Nat.le_refl _), h.pre, List.take_succ_eq_append_getElem hj, List.filter_append]
    simp [hq]
  · rw [List.drop_set_of_lt (by omega), ← List.drop_drop, h.post, List.drop_drop]
theorem Del.skip {q : Event → Bool} {l M : List Event} {i j : Nat} (h : Del q l i j M) (hj : j < l.length) (hq : q l[j] = false) : Del q l i (j + 1) M := by
  have hle := h.le
  refine ⟨h.len, by omega, hj, ?_, ?_⟩
  · rw [h.pre, List.take_succ_eq_append_getElem hj, List.filter_append]
    simp [hq]
  · rw [← List.drop_drop, h.post, List.drop_drop]
theorem Del.get {q : Event → Bool} {l M : List Event} {i j : Nat} (h : Del q l i j M) (hj : j < l.length) : ∃ hm : j < M.length, M[j] = l[j] := by
  have hm : j < M.length := by rw [h.len]; exact hj
  refine ⟨hm, ?_⟩
  have e1 : (M.drop j)[0]? = some M[j] := by rw [List.getElem?_drop, Nat.add_zero, List.getElem?_eq_getElem hm]
  have e2 : (l.drop j)[0]? = some l[j] := by rw [List.getElem?_drop, Nat.add_zero, List.getElem?_eq_getElem hj]
  rw [h.post, e2] at e1
  simpa using e1.symm
theorem del_start (p : Event → Bool) (l : List Event) (h : l.any p = true) : l.findIdx p < l.length ∧ Del (fun e => !p e) l (l.findIdx p) (l.findIdx p + 1) l := by
  have hlt : l.findIdx p < l.length := by
    obtain ⟨x, hx, hp⟩ := List.any_eq_true.1 h
    exact List.findIdx_lt_length_of_exists ⟨x, hx, hp⟩
  refine ⟨hlt, rfl, by omega, hlt, ?_, rfl⟩
  rw [List.take_succ_eq_append_getElem hlt, List.filter_append]
  have h1 : p l[l.findIdx p] = true := List.findIdx_getElem (w := hlt)
  have h2 : (l.take (l.findIdx p)).filter (fun e => !p e) = l.take (l.findIdx p) := by
    rw [List.filter_eq_self]
    intro x hx
    obtain ⟨k, hk, rfl⟩ := List.getElem_of_mem hx
    rw [List.length_take] at hk
    have := List.not_of_lt_findIdx (p := p) (xs := l) (i := k) (by omega)
    simp only [List.getElem_take]
    simpa using this
  rw [h2]; simp [h1]
theorem del_end {q : Event → Bool} {l M : List Event} {i : Nat} (h : Del q l i l.length M) : M.take i = l.filter q := by rw [h.pre, List.take_length]
theorem set_known {S : Store} {k : Key} {x : Blk} (h : S k = some x) : S.set k x = S := by
  funext q
  by_cases e : q = k
  · subst e; rw [Store.set_same, h]
  · rw [Store.set_other _ _ e]
theorem sub_over {S : Store} {b d : Nat} {x y z : Blk} (yd : S (.r d) = none) : Sub (S.set (.r b) y) (((S.set (.r b) x).set (.r d) z).set (.r b) y) := by
  intro k w hk
  by_cases e : k = .r b
  · subst e; rw [Store.set_same] at hk ⊢; exact hk
  · rw [Store.set_other _ _ e] at hk ⊢
    have e2 : k ≠ .r d := by rintro rfl; rw [yd] at hk; cases hk
    rw [Store.set_other _ _ e2, Store.set_other _ _ e]; exact hk
theorem delete_ms {S : Store} {b cap c5 c6 c7 i c : Nat} {g : Grid} {r : List Grid} (h : Caps S c5 c6 c7 g r i c) (l : List Event) (R : List AV) (hn : l.length < 1099511627776) (hl : ∀ e ∈ l, e.Ok) (hcap : l.length ≤ cap) (hR : R.length = (cap - l.length) * 3) (n5 : ¬ b = c5 ∧ ¬ c5 = b) (n6 : ¬ b = c6 ∧ ¬ c6 = b) (n7 : ¬ b = c7 ∧ ¬ c7 = b) (hb : S (.r b) = some (.cells (flatA (l.map Event.pv) ++ R))) :
    CallR Tryz.prog 62 [.ms b 3 0 l.length cap, .fn (.func 64) [] [.sp c5 0, .sp c6 0, .sp c7 0]] S
      (fun x S' => ∃ R', x = .ms b 3 0 (l.filter (fun e => !offC g i c e)).length cap ∧ S' = S.set (.r b) (.cells (flatA ((l.filter (fun e => !offC g i c e)).map Event.pv) ++ R'))) := by
  refine callR_of Tryz.func62 rfl rfl (xc_ok (bitB 537399539) _ _ _ ?_)
  simp only [go_sem]
  refine (index_ms h l R hn hl hb).useA ?_
  rintro _ S' ⟨rfl, hS⟩
  rw [hS]
  clear hS
  cases ha : l.any (offC g i c)
  · have q : ((-1 : Int) == -1) = true := by decide
    rw [if_neg (by simp)]
    simp only [go_sem, q]
    have hf : l.filter (fun e => !offC g i c e) = l := by
      rw [List.filter_eq_self]
      intro x hx
      rw [List.any_eq_false] at ha
      simpa using ha x hx
    refine ⟨_, Sub.refl _, Or.inl ⟨R, ?_, ?_⟩⟩
    · rw [hf]
    · rw [hf, set_known hb]
  rw [if_pos rfl]
  obtain ⟨hlt, hD⟩ := del_start _ l ha
  generalize l.findIdx (offC g i c) = i0 at *
  have q0 : ((i0 : Int) == -1) = false := by simp
  have q1 : wi ((i0 : Int) + 1) = ((i0 + 1 : Nat) : Int) := wi_succ (show i0 < 4611686018427387904 by omega)
  simp only [go_sem, q0, q1]
  refine AWP.roam (ι := Nat × Nat × List Event) (fun y => Del (fun e => !offC g i c e) l y.1 y.2.1 y.2.2)
    (fun y => ⟨Env.get [(0, .ms b 3 0 l.length cap), (1, .fn (.func 64) [] [.sp c5 0, .sp c6 0, .sp c7 0]), (5, i64 y.1), (6, i64 y.2.1)], S.set (.r b) (.cells (flatA (y.2.2.map Event.pv) ++ R)), 42, []⟩) (fun y => l.length - y.2.1) (i0, i0 + 1, l) hD ?_ ?_
  · refine le_of (by simp only [go_sem] <;> rfl) ?_ rfl rfl (by simp)
    dsimp only
    rw [set_known hb]; exact Sub.refl _
  rintro ⟨a, j, M⟩ hD ih
  dsimp only at hD ih ⊢
  have hle := hD.le
  have hMl := hD.len
  have hfl : (flatA (M.map Event.pv) ++ R).length = l.length * 3 + R.length := by rw [List.length_append, eflat_len, hMl]
  refine AWPH.step (xc_ok (bitB 537399539) _ _ _ ?_)
  by_cases hj : j < l.length
  · obtain ⟨hm, hget⟩ := hD.get hj
    have hcut := eflat_cut M R j hm
    rw [hget] at hcut
    simp only [go_sem, hj, hcut]
    refine ⟨by rw [hfl]; omega, alloc_intro fun d hd => ?_⟩
    simp only [fresh_set] at hd
    have nd : ¬ d = b ∧ ¬ b = d := hd.1
    have yd : S (.r d) = none := hd.2
    have hC : Caps ((S.set (.r b) (.cells (flatA (M.map Event.pv) ++ R))).set (.r d) (.cells [u64 (l[j]).t, u64 (l[j]).k, u64 (l[j]).w])) c5 c6 c7 g r i c := by
      refine ⟨h.ri, h.so, h.w, ?_, ?_, ?_⟩
      · rw [Store.set_other _ _ (fun e => by cases e; exact absurd h.h5 (by rw [yd]; simp)), Store.set_other _ _ (rkey_ne n5.2)]; exact h.h5
      · rw [Store.set_other _ _ (fun e => by cases e; exact absurd h.h6 (by rw [yd]; simp)), Store.set_other _ _ (rkey_ne n6.2)]; exact h.h6
      · rw [Store.set_other _ _ (fun e => by cases e; exact absurd h.h7 (by rw [yd]; simp)), Store.set_other _ _ (rkey_ne n7.2)]; exact h.h7
    simp only [go_sem, nd]
    refine (hC.one l[j] (hl _ (List.getElem_mem hj))).useA ?_
    rintro _ S' ⟨rfl, hS⟩
    rw [hS]
    clear hS
    have qj : wi ((j : Int) + 1) = ((j + 1 : Nat) : Int) := wi_succ (show j < 4611686018427387904 by omega)
    have qa : wi ((a : Int) + 1) = ((a + 1 : Nat) : Int) := wi_succ (show a < 4611686018427387904 by omega)
    cases ho : offC g i c l[j]
    · simp only [go_sem, Bool.not_false, nd]
      have hput : List.take (a * 3) (flatA (List.map Event.pv M) ++ R) ++ [u64 l[j].t, u64 l[j].k, u64 l[j].w] ++ List.drop (a * 3 + 3) (flatA (List.map Event.pv M) ++ R) = flatA (List.map Event.pv (M.set a l[j])) ++ R := eflat_put M R l[j] a (by omega)
      refine ⟨by omega, by rw [hfl]; omega, (ih (a + 1, j + 1, M.set a l[j]) (hD.keep hj (by rw [ho]; rfl)) (by dsimp only; omega)).back ?_ (by simp) ?_⟩
      · dsimp only
        rw [hput]
        exact sub_over yd
      · simp only [go_sem, qj, qa]
    · simp only [go_sem, Bool.not_true, nd]
      refine (ih (a, j + 1, M) (hD.skip hj (by rw [ho]; rfl)) (by dsimp only; omega)).back ?_ (by simp) ?_
      · dsimp only
        exact Sub.set (Sub.refl _) (by rw [Store.set_other _ _ (rkey_ne nd.1)]; exact yd) _
      · simp only [go_sem, qj]
  · obtain rfl : j = l.length := by have := hD.jl; omega
    simp only [go_sem, hj]
    refine ⟨by omega, hcap, by rw [hfl]; omega, by omega, ?_⟩
    have ht : List.take (a * 3) (flatA (List.map Event.pv M) ++ R) = flatA ((l.filter (fun e => !offC g i c e)).map Event.pv) := by
      rw [eflat_take M R a (by omega), del_end hD]
    have hfa : (l.filter (fun e => !offC g i c e)).length = a := by
      rw [← del_end hD, List.length_take]; omega
    refine ⟨_, Sub.refl _, Or.inl ?_⟩
    rw [ht, List.append_assoc]
    exact ⟨_, by rw [hfa]; simp, rfl⟩
/-- What is left, as data; the copy is given up. -/
theorem delete_own {V : Store} {b cap c5 c6 c7 i c : Nat} {g : Grid} {r : List Grid} (h : Caps V c5 c6 c7 g r i c) (yb : V (.r b) = none) (l : List Event) (R : List AV) (hn : l.length < 1099511627776) (hl : ∀ e ∈ l, e.Ok) (hcap : l.length ≤ cap) (hR : R.length = (cap - l.length) * 3) :
    CallR Tryz.prog 62 [.ms b 3 0 l.length cap, .fn (.func 64) [] [.sp c5 0, .sp c6 0, .sp c7 0]] (V.set (.r b) (.cells (flatA (l.map Event.pv) ++ R)))
      (fun x S' => x = .p (evsP (l.filter (fun e => !offC g i c e))) ∧ S' = V) := by
  have n5 : ¬ b = c5 ∧ ¬ c5 = b := by constructor <;> rintro rfl <;> (have := h.h5; rw [yb] at this; cases this)
  have n6 : ¬ b = c6 ∧ ¬ c6 = b := by constructor <;> rintro rfl <;> (have := h.h6; rw [yb] at this; cases this)
  have n7 : ¬ b = c7 ∧ ¬ c7 = b := by constructor <;> rintro rfl <;> (have := h.h7; rw [yb] at this; cases this)
  refine (delete_ms (h.sub (Sub.set (Sub.refl _) yb _)) l R hn hl hcap hR n5 n6 n7 (Store.set_same _ _ _)).frz ?_
  rintro _ _ ⟨R', rfl, rfl⟩
  obtain ⟨M, hM⟩ : ∃ M, l.filter (fun e => !offC g i c e) = M := ⟨_, rfl⟩
  rw [hM]
  refine ⟨.p (evsP M), V, Frz.freeze (b := b) (m := M.length * 3) (cs := flatA (M.map Event.pv) ++ R') (Store.set_same _ _ _) (by rw [List.length_append, eflat_len]; omega) (fun k y hk => ?_) ?_, rfl, rfl⟩
  · have hne : k ≠ .r b := by rintro rfl; rw [yb] at hk; cases hk
    exact ⟨hne, Or.inl (by rw [Store.set_other _ _ hne, Store.set_other _ _ hne]; exact hk)⟩
  · refine Or.inl (Or.inl (Or.inr (Or.inr ⟨3, 0, M.length, cap, M.map Event.pv, rfl, by omega, rfl, List.length_map _, ev3_len, ?_⟩)))
    rw [List.drop_zero, eflat_take M R' _ (Nat.le_refl _), List.take_length]
end Go.Sk
end

-- WGb
section
namespace Go.Sk
open Go Go.Proofs

theorem own_eq (g : Grid) (i c : Nat) (evs : List Event) : evs.filter (fun e => !offC g i c e) = ownE g i c evs := by
  unfold ownE
  congr 1
  funext e
  unfold offC
  have hc : colV (g.sd.getD i default) e.k g.w = ((colN g e.k i : Nat) : Int) := by
    unfold colN; rw [Int.toNat_of_nonneg (colV_nn _ _ _)]
  rw [hc]
  by_cases h : colN g e.k i = c
  · subst h; simp
  · have : ¬ ((colN g e.k i : Nat) : Int) = (c : Int) := fun e => h (by exact_mod_cast e)
    simp [h, this]
theorem own_sub (g : Grid) (i c : Nat) (evs : List Event) : (ownE g i c evs).length ≤ evs.length ∧ ∀ e ∈ ownE g i c evs, e ∈ evs :=
  ⟨List.length_filter_le _ _, fun e he => (List.mem_filter.1 he).1⟩
/-- What a cell of grids asks. -/
structure Cut (l : List Grid) (i c : Nat) : Prop where
  n : l.length ≤ 1000
  row : ∀ g ∈ l, i < g.rows.length ∧ c < (g.rows.getD i []).length
  fine : ∀ g ∈ l, (cellOf g i c).Fine ∧ (cellOf g i c).g ≤ 4
theorem Cut.cell {l : List Grid} {i c : Nat} (h : Cut l i c) : (cellsE l i c).length = l.length ∧ (∀ x ∈ cellsE l i c, x.Fine) ∧ ∀ x ∈ cellsE l i c, x.g ≤ 4 := by
  unfold cellsE
  refine ⟨List.length_map _, fun x hx => ?_, fun x hx => ?_⟩
  · obtain ⟨g, hg, rfl⟩ := List.mem_map.1 hx; exact (h.fine g hg).1
  · obtain ⟨g, hg, rfl⟩ := List.mem_map.1 hx; exact (h.fine g hg).2
theorem cells_snoc (l : List Grid) (i c j : Nat) (hj : j < l.length) : (cellsE (l.take j) i c).map Hist.cs ++ [[.int .i64 (cellOf l[j] i c).k, .int .i64 (cellOf l[j] i c).g, .sl ((cellOf l[j] i c).ls.map lvE)]] = (cellsE (l.take (j + 1)) i c).map Hist.cs := by
  unfold cellsE
  rw [List.take_succ_eq_append_getElem hj, List.map_append, List.map_append]; rfl
set_option maxHeartbeats 1000000 in
theorem grid_column (evs : List Event) (g : Grid) (r : List Grid) (i c : Nat) (hn : evs.length < 1048576) (hev : ∀ e ∈ evs, e.Ok) (hi : i < g.sd.length) (hs : ∀ s ∈ g.sd, s.Ok) (hw : g.w < 9223372036854775808) (hci : c < 1048576) (hii : i < 1048576) (hC : Cut (g :: r) i c) :
    Pure Tryz.prog 25 [.p (evsP evs), .p (.sl ((g :: r).map Grid.pv)), i64 i, i64 c] (.tuple [(withV (ownE g i c evs) (cellsE (g :: r) i c)).1.av, i64 (withV (ownE g i c evs) (cellsE (g :: r) i c)).2]) := fun S => by
  have hWith := replay_With (ownE g i c evs) (cellsE (g :: r) i c) (by rw [hC.cell.1]; have := hC.n; omega) (by have := (own_sub g i c evs).1; omega) (fun e he => hev e ((own_sub g i c evs).2 e he)) hC.cell.2.1 hC.cell.2.2
  generalize withV (ownE g i c evs) (cellsE (g :: r) i c) = W at *
  have hC0 := hC
  obtain ⟨l, hl⟩ : ∃ l, g :: r = l := ⟨_, rfl⟩
  rw [hl] at hC hWith
  refine callR_of Tryz.func25 rfl rfl (xc_ok (bitB 260079) _ _ _ ?_)
  rw [hl]
  simp only [go_sem]
  refine alloc_intro fun c5 h5 => ?_
  simp only [go_sem]
  refine alloc_intro fun c6 h6 => ?_
  simp only [fresh_set] at h6
  simp only [go_sem, h6]
  refine alloc_intro fun c7 h7 => ?_
  simp only [fresh_set] at h7
  simp only [go_sem, h6, h7]
  refine alloc_intro fun c8 h8 => ?_
  simp only [fresh_set] at h8
  simp only [go_sem, h6, h7, h8]
  refine AWP.tip0 10 3 (by simp only [go_sem]) fun k hk => ?_
  simp only [freshv_setr] at hk
  obtain ⟨V, hV⟩ : ∃ V : Store, V = (((S.set (.r c5) (.cells [.p (.sl (l.map Grid.pv))])).set (.r c6) (.cells [i64 i])).set (.r c7) (.cells [i64 c])).set (.r c8) (.cells [i64 0, i64 0, .nils]) := ⟨_, rfl⟩
  have v5 : V (.r c5) = some (.cells [.p (.sl (l.map Grid.pv))]) := by rw [hV]; simp only [go_sem, h6, h7, h8]
  have v6 : V (.r c6) = some (.cells [i64 i]) := by rw [hV]; simp only [go_sem, h6, h7, h8]
  have v7 : V (.r c7) = some (.cells [i64 c]) := by rw [hV]; simp only [go_sem, h6, h7, h8]
  have v8 : V (.r c8) = some (.cells [i64 0, i64 0, .nils]) := by rw [hV]; simp only [go_sem, h6, h7, h8]
  have vk : V (.v k) = none := by rw [hV]; simp only [go_sem]; exact hk
  have vS : Sub S V := by rw [hV]; exact Sub.set (Sub.set (Sub.set (Sub.set (Sub.refl _) h5 _) h6.2 _) h7.2.2 _) h8.2.2.2 _
  simp only [go_sem]
  refine AWP.iterE (ι := Option Nat) (fun loc j => ⟨Env.get [(0, .p (evsP evs)), (5, .sp c5 0), (6, .sp c6 0), (7, .sp c7 0), (8, .sp c8 0), (10, .ts k 3 loc ((cellsE (l.take j) i c).map Hist.cs)), (14, .p (.sl (l.map Grid.pv))), (15, i64 l.length), (16, i64 j)],
    V.set (.v k) (.tip 3 j loc), 41, []⟩) l.length none ?_ ?_ ?_
  · refine le_of (by simp only [go_sem, h6, h7, h8, List.take_zero, cellsE, List.map_nil] <;> rfl) ?_ rfl rfl (by simp)
    rw [hV]; exact Sub.refl _
  · clear hV h5 h6 h7 h8 hk
    intro j loc hj ih
    have hjn := hC.n
    obtain ⟨r1, r2⟩ := hC.row _ (List.getElem_mem hj)
    have hgr : (l[j]).rows.getD i [] = (l[j]).rows[i] := by simp [List.getD_eq_getElem?_getD, r1]
    have r3 : c < ((l[j]).rows[i]).length := by rw [← hgr]; exact r2
    have hce : ((l[j]).rows[i])[c] = cellOf l[j] i c := by
      unfold cellOf; rw [hgr]; simp [List.getD_eq_getElem?_getD, r3]
    have hsn := cells_snoc l i c j hj
    have hqj : wi ((j : Int) + 1) = ((j + 1 : Nat) : Int) := wi_succ (show j < 4611686018427387904 by omega)
    have hcl : (cellsE (l.take j) i c).length = j := by unfold cellsE; rw [List.length_map, List.length_take]; omega
    have hcl1 : (cellsE (l.take (j + 1)) i c).length = j + 1 := by unfold cellsE; rw [List.length_map, List.length_take]; omega
    rw [← hce] at hsn
    refine AWPH.step (xc_ok (bitB 260079) _ _ _ ?_)
    simp only [go_sem, hj, ltN' hj, getD_map' _ _ _ _ hj, List.length_map]
    refine alloc_intro fun d hd => ?_
    simp only [fresh_set, fresh_setv] at hd
    have yd : V (.r d) = none := hd
    have n5 : ¬ c5 = d ∧ ¬ d = c5 := by constructor <;> rintro rfl <;> (rw [yd] at v5; cases v5)
    have n6 : ¬ c6 = d ∧ ¬ d = c6 := by constructor <;> rintro rfl <;> (rw [yd] at v6; cases v6)
    have n7 : ¬ c7 = d ∧ ¬ d = c7 := by constructor <;> rintro rfl <;> (rw [yd] at v7; cases v7)
    simp only [go_sem, n5, n6, n7]
    refine AWP.draw2 (bitB 260079) mixed (by kernel_rfl) (fun j => .top) ?_
    simp only [go_sem, n5, n6, n7, v6, v7, ltN' r1, ltN' r3, getD_map' _ _ _ _ r1, getD_map' _ _ _ _ r3, rowE_mk, rowP, List.length_map]
    refine ⟨by rintro el rfl; rfl, by rw [hcl], hist_len, by omega, by omega, grow_intro fun loc' => ?_⟩
    simp only [go_sem, hsn]
    refine (ih loc').back ?_ (by simp) ?_
    · ((try dsimp only); (repeat refine sub_set ?_ ?_) <;> first | ((repeat (first | exact Sub.refl _ | refine Sub.setF ?_ (by first | assumption | simp only [*]) | refine Sub.setV ?_ (by first | assumption | simp only [*]))); done) | (simp only [go_sem, hsn, hcl, hcl1, List.length_map, List.length_append]; done) | (simp only [go_sem, hsn, hcl, hcl1, List.length_map, List.length_append]; rfl) | rfl)
    · simp only [go_sem, hqj]
  · intro loc
    refine AWPH.step (xc_ok (bitB 260079) _ _ _ ?_)
    have hcn : (cellsE l i c).length = l.length := hC.cell.1
    simp only [go_sem, List.take_length]
    have hK : ∀ T : Store, Sub V T → Caps T c5 c6 c7 g r i c := fun T hT => ⟨hi, hs, hw, by rw [hl]; exact hT _ _ v5, hT _ _ v6, hT _ _ v7⟩
    have hend : ∀ T : Store, Sub S T → S (.r c8) = none → Sub S (T.set (.r c8) (.cells [i64 W.1.k, i64 W.1.g, .p (.sl (W.1.ls.map lvE))])) := fun T hT y8 => Sub.set hT y8 _
    by_cases he : evs = []
    · have how : ownE g i c evs = [] := by rw [he]; rfl
      rw [how] at hWith
      refine (clone_ev evs (by omega)).useA ?_
      simp only [go_sem]
      refine (delete_nil _ evs he _ _).useA ?_
      rintro _ S' ⟨rfl, hS⟩
      rw [hS]
      simp only [go_sem]
      refine hWith.useA ?_
      simp only [go_sem, v8]
      exact ⟨S, hend _ (Sub.set vS (none_of_sub vS vk) _) h8.2.2.2, Or.inl rfl⟩
    · refine (clone_evs evs he (by omega) _).useA ?_
      rintro _ _ ⟨b, cap, hb, hcap, rfl, rfl⟩
      simp only [fresh_setv] at hb
      have yb : V (.r b) = none := hb
      simp only [go_sem]
      refine (delete_own (hK _ (Sub.set (Sub.refl _) vk _)) (by simp only [go_sem]; exact yb) evs (List.replicate ((cap - evs.length) * 3) .top) (by omega) hev hcap (by rw [List.length_replicate])).useA ?_
      rintro _ _ ⟨rfl, rfl⟩
      rw [own_eq]
      simp only [go_sem]
      refine hWith.useA ?_
      simp only [go_sem, v8]
      exact ⟨S, hend _ (Sub.set vS (none_of_sub vS vk) _) h8.2.2.2, Or.inl rfl⟩
end Go.Sk
end

-- WGc
section
namespace Go.Sk
open Go Go.Proofs

theorem merge1 (e : Event) : Pure Tryz.prog 21 [e.av] (bl (!decide (e.k < 2305843009213693951))) := fun S => by
  refine callR_of Tryz.func21 rfl rfl (xc_ok (bitB 7) _ _ _ ?_)
  simp only [go_sem]
  refine alloc_intro fun b hb => ?_
  simp only [go_sem]
  refine (hash_Key e.k).useA ?_
  simp only [go_sem]
  (refine ⟨S, by (repeat (first | exact Sub.refl _ | refine Sub.setF ?_ (by first | assumption | simp only [*]) | refine Sub.setV ?_ (by first | assumption | simp only [*]))), ?_⟩); simp
structure MergeOk (evs : List Event) (l : List Grid) : Prop where
  ne : evs.length < 1048576
  ev : ∀ e ∈ evs, e.Ok
  n : l.length ≤ 1000
  whole : ∀ g ∈ l, g.Whole
  gen : ∀ g ∈ l, g.all.g ≤ 4
  cells : l.any (fun g => !likeG g (l.headD zGrid)) = false → GridsOk evs l
theorem MergeOk.alls {evs : List Event} {l : List Grid} (h : MergeOk evs l) : (l.map Grid.all).length ≤ 1000 ∧ (∀ x ∈ l.map Grid.all, x.Fine) ∧ ∀ x ∈ l.map Grid.all, x.g ≤ 4 := by
  refine ⟨by rw [List.length_map]; exact h.n, fun x hx => ?_, fun x hx => ?_⟩
  · obtain ⟨g, hg, rfl⟩ := List.mem_map.1 hx; exact (h.whole g hg).all
  · obtain ⟨g, hg, rfl⟩ := List.mem_map.1 hx; exact h.gen g hg
theorem MergeOk.cut {evs : List Event} {l : List Grid} (h : MergeOk evs l) (hl : l.any (fun g => !likeG g (l.headD zGrid)) = false) {i c : Nat} (hi : i < (l.headD zGrid).rows.length) (hc : c < (l.headD zGrid).w.toNat) : Cut l i c := by
  have hlen := like_len h.whole hl
  refine ⟨h.n, fun g hg => ?_, fun g hg => ?_⟩
  · obtain ⟨h1, _, _, h4⟩ := hlen g hg
    have hi' : i < g.rows.length := by rw [h4]; exact hi
    refine ⟨hi', ?_⟩
    rw [show g.rows.getD i [] = g.rows[i] by simp [List.getD_eq_getElem?_getD, hi'], (h.whole g hg).good.wid _ (List.getElem_mem hi'), h1]
    exact hc
  · obtain ⟨h1, _, _, h4⟩ := hlen g hg
    obtain ⟨a, _, b⟩ := (h.whole g hg).cell i c (by rw [h4]; exact hi) (by rw [h1]; exact hc)
    exact ⟨a, by rw [b]; exact h.gen g hg⟩
/-- So far: cells that were merged. -/
structure Laid (N : Nat → Nat → Hist) (n w i c : Nat) (rows : List (List Hist)) : Prop where
  len : rows.length = n
  wid : ∀ r ∈ rows, r.length = w
  new : ∀ a b, a < n → b < w → (a < i ∨ (a = i ∧ b < c)) → (rows.getD a []).getD b zeroH = N a b
theorem Laid.next {N : Nat → Nat → Hist} {n w i c : Nat} {rows : List (List Hist)} (h : Laid N n w i c rows) (hi : i < n) (hc : c < w) : Laid N n w i (c + 1) (rows.set i ((rows.getD i []).set c (N i c))) := by
  have hlt : i < rows.length := by rw [h.len]; exact hi
  have hg : rows.getD i [] = rows[i] := by simp [List.getD_eq_getElem?_getD, hlt]
  have hw : (rows.getD i []).length = w := by rw [hg]; exact h.wid _ (List.getElem_mem hlt)
  refine ⟨by rw [List.length_set, h.len], fun r hr => ?_, fun a b ha hb hab => ?_⟩
  · rcases List.mem_or_eq_of_mem_set hr with hr | rfl
    · exact h.wid r hr
    · rw [List.length_set]; exact hw
  · by_cases ea : a = i
    · subst ea
      rw [show (rows.set a ((rows.getD a []).set c (N a c))).getD a [] = (rows.getD a []).set c (N a c) by rw [List.getD_eq_getElem?_getD, List.getElem?_set_self hlt, Option.getD_some]]
      by_cases eb : b = c
      · subst eb
        rw [List.getD_eq_getElem?_getD, List.getElem?_set_self (by rw [hw]; exact hc), Option.getD_some]
      · rw [List.getD_eq_getElem?_getD, List.getElem?_set_ne (Ne.symm eb), ← List.getD_eq_getElem?_getD]
        exact h.new a b ha hb (by omega)
    · rw [show (rows.set i ((rows.getD i []).set c (N i c))).getD a [] = rows.getD a [] by rw [List.getD_eq_getElem?_getD, List.getElem?_set_ne (Ne.symm ea), ← List.getD_eq_getElem?_getD]]
      exact h.new a b ha hb (by omega)
theorem Laid.row {N : Nat → Nat → Hist} {n w i : Nat} {rows : List (List Hist)} (h : Laid N n w i w rows) : Laid N n w (i + 1) 0 rows :=
  ⟨h.len, h.wid, fun a b ha hb hab => h.new a b ha hb (by omega)⟩
theorem Laid.all {N : Nat → Nat → Hist} {n w : Nat} {rows : List (List Hist)} (h : Laid N n w n 0 rows) : rows = (List.range n).map fun i => (List.range w).map fun c => N i c := by
  apply List.ext_getElem
  · rw [h.len]; simp
  · intro a h1 h2
    have ha : a < n := by rw [h.len] at h1; exact h1
    simp only [List.getElem_map, List.getElem_range]
    have hw := h.wid _ (List.getElem_mem h1)
    apply List.ext_getElem
    · rw [hw]; simp
    · intro b h3 h4
      have hb : b < w := by rw [hw] at h3; exact h3
      simp only [List.getElem_map, List.getElem_range]
      have := h.new a b ha hb (Or.inl ha)
      rw [show rows.getD a [] = rows[a] by simp [List.getD_eq_getElem?_getD, h1], show (rows[a]).getD b zeroH = (rows[a])[b] by simp [List.getD_eq_getElem?_getD, h3]] at this
      exact this
theorem all_snoc (l : List Grid) (j : Nat) (hj : j < l.length) : ((l.take j).map Grid.all).map Hist.cs ++ [[.int .i64 (l[j]).all.k, .int .i64 (l[j]).all.g, .sl ((l[j]).all.ls.map lvE)]] = ((l.take (j + 1)).map Grid.all).map Hist.cs := by
  rw [List.take_succ_eq_append_getElem hj, List.map_append, List.map_append]; rfl
theorem likeG_eq (a b : Grid) : alikeV a b = likeG a b := rfl
set_option maxHeartbeats 2000000 in
set_option maxRecDepth 4000 in
theorem grid_Merge0 (evs : List Event) (l : List Grid) (h : MergeOk evs l) (S : Store) : CallR Tryz.prog 7 [.p (evsP evs), .p (.sl (l.map Grid.pv))] S
    (fun r S' => (r = .tuple [zeroG.av, i64 (mergeG evs l).2] ∧ mergeG evs l = (zeroG, (mergeG evs l).2) ∧ Sub S S') ∨ ∃ bo rb, (mergeG evs l).2 = 0 ∧ r = .tuple [.agg (gridM (mergeG evs l).1 bo rb.length), i64 0] ∧ Rows S bo (mergeG evs l).1.w.toNat rb (mergeG evs l).1.rows 0 S') := by
  refine callR_of Tryz.func7 rfl rfl (xc_ok (bitB 4835883404429763846766451) _ _ _ ?_)
  simp only [go_sem]
  refine alloc_intro fun c4 h4 => ?_
  have y4 : S (.r c4) = none := h4
  simp only [go_sem]
  by_cases hl0 : l = []
  · subst hl0
    have ha : mergeG evs [] = (zeroG, 1) := by unfold mergeG; rw [if_pos rfl]
    rw [ha]
    simp only [go_sem, List.map_nil, List.length_nil]
    exact ⟨S, Sub.set (Sub.refl _) y4 _, Or.inl (Or.inl ⟨by simp [zeroG, zeroH], Sub.refl _⟩)⟩
  obtain ⟨g, r, rfl⟩ : ∃ g r, l = g :: r := by cases l with | nil => exact absurd rfl hl0 | cons a b => exact ⟨a, b, rfl⟩
  have hw0 := h.whole g (by simp)
  have hsdn := hw0.good.sd
  have hnl : 0 < (g :: r).length := by simp
  have hget0 : ((g :: r).map Grid.pv).getD 0 [] = g.pv := rfl
  obtain ⟨l, hl⟩ : ∃ l, g :: r = l := ⟨_, rfl⟩
  rw [hl] at hnl hget0
  have hlb : (l.length == 0) = false := by rw [beq_eq_false_iff_ne]; omega
  have hhd : l.headD zGrid = g := by rw [← hl]; rfl
  have hlne : l ≠ [] := by rw [← hl]; simp
  rw [hl] at h
  have hln := h.n
  rw [hl]
  simp only [go_sem, hlb]
  refine AWP.tip0 6 3 (by simp only [go_sem]) fun k hk => ?_
  simp only [freshv_setr] at hk
  obtain ⟨V, hV⟩ : ∃ V : Store, V = S.set (.r c4) (.cells [i64 0, .nils, .nils, i64 0, i64 0, .nils]) := ⟨_, rfl⟩
  have v4 : V (.r c4) = some (.cells [i64 0, .nils, .nils, i64 0, i64 0, .nils]) := by rw [hV]; simp only [go_sem]
  have vS : Sub S V := by rw [hV]; exact Sub.set (Sub.refl _) y4 _
  have vk : V (.v k) = none := by rw [hV]; simp only [go_sem]; exact hk
  simp only [go_sem]
  refine AWP.roam (ι := Nat × Option Nat) (fun y => y.1 ≤ l.length ∧ ∀ x ∈ l.take y.1, likeG x g = true)
    (fun y => ⟨Env.get [(0, .p (evsP evs)), (1, .p (.sl (l.map Grid.pv))), (4, .sp c4 0), (6, .ts k 3 y.2 (((l.take y.1).map Grid.all).map Hist.cs)), (19, .p (.sl (l.map Grid.pv))), (20, i64 l.length), (21, i64 y.1)],
      V.set (.v k) (.tip 3 y.1 y.2), 86, []⟩) (fun y => l.length - y.1) (0, none) ⟨Nat.zero_le _, fun x hx => by simp at hx⟩ ?_ ?_
  · refine le_of (by simp only [go_sem, List.take_zero, List.map_nil] <;> rfl) ?_ rfl rfl (by simp)
    rw [hV]; exact Sub.refl _
  clear hV hk
  rintro ⟨j, loc⟩ ⟨hj, hall⟩ ih
  dsimp only at hj hall ih ⊢
  refine AWPH.step (xc_ok (bitB 4835883404429763846766451) _ _ _ ?_)
  by_cases cj : j < l.length
  · have hgj : l[j] ∈ l := List.getElem_mem cj
    have hwj := h.whole _ hgj
    have hsdj := hwj.good.sd
    have hnj := hwj.good.n
    have hsn := all_snoc l j cj
    have hqj : wi ((j : Int) + 1) = ((j + 1 : Nat) : Int) := wi_succ (show j < 4611686018427387904 by omega)
    have hcl : (l.take j).length = j := by rw [List.length_take]; omega
    have hcl1 : (l.take (j + 1)).length = j + 1 := by rw [List.length_take]; omega
    have hal := grid_alike l[j] g (by omega)
    rw [likeG_eq] at hal
    simp only [go_sem, cj, ltN' cj, getD_map' _ _ _ _ cj, List.length_map]
    refine alloc_intro fun d hd => ?_
    simp only [fresh_set, fresh_setv] at hd
    have yd : V (.r d) = none := hd
    have n4 : ¬ c4 = d ∧ ¬ d = c4 := by constructor <;> rintro rfl <;> (rw [yd] at v4; cases v4)
    simp only [go_sem, n4]
    refine AWP.draw2 (bitB 4835883404429763846766451) mixed (by kernel_rfl) (fun _ => bl (likeG l[j] g)) ?_
    simp only [go_sem, n4, hnl, hget0, Grid.pv]
    refine ⟨hal.draw, ?_⟩
    cases hlk : likeG l[j] g
    · simp only [go_sem, Bool.not_false, v4, n4]
      have hany : l.any (fun g => !likeG g (l.headD zGrid)) = true := List.any_eq_true.2 ⟨l[j], hgj, by rw [hhd, hlk]; rfl⟩
      have ha : mergeG evs l = (zeroG, 9) := by unfold mergeG; rw [if_neg hlne, if_pos hany]
      rw [ha]
      exact ⟨S, Sub.set (Sub.set (Sub.set vS (none_of_sub vS vk) _) (none_of_sub vS yd) _) y4 _, Or.inl (Or.inl ⟨by simp [zeroG, zeroH], rfl, Sub.refl _⟩)⟩
    · simp only [go_sem, Bool.not_true, n4]
      refine ⟨by rintro el rfl; rfl, by rw [hcl], hist_len, by omega, by omega, grow_intro fun loc' => ?_⟩
      simp only [go_sem, hsn]
      refine (ih (j + 1, loc') ⟨cj, fun x hx => ?_⟩ (by dsimp only; omega)).back ?_ (by simp) ?_
      · rw [List.take_succ_eq_append_getElem cj] at hx
        rcases List.mem_append.1 hx with hx | hx
        · exact hall x hx
        · obtain rfl := List.mem_singleton.1 hx; exact hlk
      · ((try dsimp only); (repeat refine sub_set ?_ ?_) <;> first | ((repeat (first | exact Sub.refl _ | refine Sub.setF ?_ (by first | assumption | simp only [*]) | refine Sub.setV ?_ (by first | assumption | simp only [*]))); done) | (simp only [go_sem, hsn, hcl, hcl1, List.length_map, List.length_append]; done) | (simp only [go_sem, hsn, hcl, hcl1, List.length_map, List.length_append]; rfl) | rfl)
      · simp only [go_sem, hqj]
  · obtain rfl : j = l.length := by omega
    rw [List.take_length] at hall
    have hany : l.any (fun g => !likeG g (l.headD zGrid)) = false := by
      rw [List.any_eq_false]
      intro x hx
      rw [hhd, hall x hx]; simp
    have hnotany : ¬ l.any (fun g => !likeG g (l.headD zGrid)) = true := by rw [hany]; simp
    obtain ⟨m1, m2, m3⟩ := h.alls
    simp only [go_sem, cj, List.take_length]
    refine (contains_any _ (fun e => !decide (e.k < 2305843009213693951)) merge1 evs (by have := h.ne; omega)).useA ?_
    cases hkey : evs.any (fun e => !decide (e.k < 2305843009213693951))
    rotate_left
    · simp only [go_sem, v4]
      have ha : mergeG evs l = (zeroG, 7) := by unfold mergeG; rw [if_neg hlne, if_neg hnotany, if_pos hkey]
      rw [ha]
      exact ⟨S, Sub.set (Sub.set vS (none_of_sub vS vk) _) y4 _, Or.inl (Or.inl ⟨by simp [zeroG, zeroH], rfl, Sub.refl _⟩)⟩
    have hnk : ¬ evs.any (fun e => !decide (e.k < 2305843009213693951)) = true := by rw [hkey]; simp
    simp only [go_sem]
    have hWith := replay_With evs (l.map Grid.all) (by omega) h.ne h.ev m2 m3
    refine hWith.useA ?_
    have hcut := fun i c => h.cut (i := i) (c := c) hany
    have hGO := h.cells hany
    rw [hhd] at hcut
    unfold GridsOk at hGO
    rw [hhd] at hGO
    generalize hW : withV evs (l.map Grid.all) = W at *
    simp only [go_sem]
    refine alloc_intro fun c9 h9 => ?_
    simp only [fresh_set, fresh_setv] at h9
    have y9 : V (.r c9) = none := h9
    have n49 : ¬ c9 = c4 ∧ ¬ c4 = c9 := by constructor <;> rintro rfl <;> (rw [y9] at v4; cases v4)
    simp only [go_sem, hnl, hget0, Grid.pv]
    have hwt : ((g.w.toNat : Nat) : Int) = g.w := by have := hw0.good.w1; clear n49; omega
    have hwt1 : 1 ≤ g.w.toNat := by have := hw0.good.w1; clear n49; omega
    have hwt2 : g.w.toNat < 1048576 := by have := hw0.good.w2; clear n49; omega
    have hnn := hw0.good.n
    have b4 : ((V.set (.v k) (.tip 3 l.length loc)).set (.r c9) (.cells [i64 W.1.k, i64 W.1.g, .p (.sl (W.1.ls.map lvE))])) (.r c4) = some (.cells [i64 0, .nils, .nils, i64 0, i64 0, .nils]) := by simp only [go_sem, n49]; exact v4
    have b9 : ((V.set (.v k) (.tip 3 l.length loc)).set (.r c9) (.cells [i64 W.1.k, i64 W.1.g, .p (.sl (W.1.ls.map lvE))])) (.r c9) = some (.cells [i64 W.1.k, i64 W.1.g, .p (.sl (W.1.ls.map lvE))]) := by simp only [go_sem]
    have bS : Sub S ((V.set (.v k) (.tip 3 l.length loc)).set (.r c9) (.cells [i64 W.1.k, i64 W.1.g, .p (.sl (W.1.ls.map lvE))])) := Sub.set (Sub.set vS (none_of_sub vS vk) _) (none_of_sub vS y9) _
    generalize (V.set (.v k) (.tip 3 l.length loc)).set (.r c9) (.cells [i64 W.1.k, i64 W.1.g, .p (.sl (W.1.ls.map lvE))]) = S1 at *
    clear v4 vS vk y9 hj hl0 hlb ih cj
    refine (copied g g.w.toNat hwt1 hwt2 (by clear n49; omega) (by clear n49; omega) hw0.good.wid _).useA ?_
    rintro _ U ⟨bo, rb, rfl, hR⟩
    have k4 := hR.sub _ _ b4
    have k9 := hR.sub _ _ b9
    simp only [go_sem, k4, k9, gridM]
    refine alloc_intro fun c11 h11 => ?_
    have u11 : U (.r c11) = none := h11
    have n4 : ¬ c11 = c4 ∧ ¬ c4 = c11 := by constructor <;> rintro rfl <;> (rw [u11] at k4; cases k4)
    have n9 : ¬ c11 = c9 ∧ ¬ c9 = c11 := by constructor <;> rintro rfl <;> (rw [u11] at k9; cases k9)
    simp only [go_sem, k4, k9, n4, n9]
    have T0 : ∃ T, T (.r c4) = some (.cells [i64 0, .nils, .nils, i64 0, i64 0, .nils]) ∧ T (.r c11) = some (.cells [i64 g.w, .p (.sl (g.sd.map Seed.pv)), .ms bo 1 0 g.rows.length g.rows.length, i64 W.1.k, i64 W.1.g, .p (.sl (W.1.ls.map lvE))]) ∧ Sub S T ∧ Rows T bo g.w.toNat rb g.rows 0 (U.set (.r c11) (.cells [i64 g.w, .p (.sl (g.sd.map Seed.pv)), .ms bo 1 0 g.rows.length g.rows.length, i64 W.1.k, i64 W.1.g, .p (.sl (W.1.ls.map lvE))])) := by
      have z11 : S1 (.r c11) = none := none_of_sub hR.sub u11
      refine ⟨_, ?_, ?_, ?_, hR.fresh (q := .r c11) u11 (.cells [i64 g.w, .p (.sl (g.sd.map Seed.pv)), .ms bo 1 0 g.rows.length g.rows.length, i64 W.1.k, i64 W.1.g, .p (.sl (W.1.ls.map lvE))])⟩
      · rw [Store.set_other _ _ (rkey_ne n4.2)]; exact b4
      · rw [Store.set_same]
      · exact Sub.set bS (none_of_sub bS z11) _
    obtain ⟨T, t4, t11, tS, hR2⟩ := T0
    have hrl : rb.length = g.rows.length := hR.len
    clear hR k4 k9
    have x11 := hR2.sub _ _ t11
    have hN : ∃ N : Nat → Nat → Hist, N = fun i c => (withV (ownE g i c evs) (cellsE l i c)).1 := ⟨_, rfl⟩
    obtain ⟨N, hN⟩ := hN
    obtain ⟨V2, hV2⟩ : ∃ V2, U.set (.r c11) (.cells [i64 g.w, .p (.sl (g.sd.map Seed.pv)), .ms bo 1 0 g.rows.length g.rows.length, i64 W.1.k, i64 W.1.g, .p (.sl (W.1.ls.map lvE))]) = V2 := ⟨_, rfl⟩
    rw [hV2] at hR2 x11
    refine AWP.roam (ι := Nat × Store × List (List Hist)) (fun y => y.1 ≤ g.rows.length ∧ (W.2 = 0 → Laid N g.rows.length g.w.toNat y.1 0 y.2.2) ∧ Rows T bo g.w.toNat rb y.2.2 0 y.2.1)
      (fun y => ⟨Env.get [(0, .p (evsP evs)), (1, .p (.sl (l.map Grid.pv))), (4, .sp c4 0), (10, i64 W.2), (11, .sp c11 0), (54, .ms bo 1 0 g.rows.length g.rows.length), (55, i64 g.rows.length), (56, i64 y.1)], y.2.1, 86, []⟩)
      (fun y => g.rows.length - y.1) (0, V2, g.rows) ⟨Nat.zero_le _, fun _ => ⟨rfl, hw0.good.wid, fun a b _ _ hab => by omega⟩, hR2⟩ ?_ ?_
    · refine le_of (by simp only [go_sem] <;> rfl) ?_ rfl rfl (by simp)
      rw [← hV2]; exact Sub.refl _
    rintro ⟨i, V, rows⟩ ⟨hi, hLd, hR⟩ ih
    dsimp only at hi hLd hR ih ⊢
    refine AWPH.step (xc_ok (bitB 4835883404429763846766451) _ _ _ ?_)
    by_cases ci : i < g.rows.length
    rotate_left
    · obtain rfl : i = g.rows.length := by clear n49 n4 n9; omega
      have x4 := hR.sub _ _ t4
      have x11 := hR.sub _ _ t11
      by_cases hz : W.2 = 0
      · have hrows := (hLd hz).all
        have ha : mergeG evs l = (⟨g.w, g.sd, rows, W.1⟩, 0) := by
          unfold mergeG
          rw [if_neg hlne, if_neg hnotany, if_neg hnk, hW, if_pos hz, hhd, hrows, hN]; rfl
        simp only [go_sem, ci, hz, x4, x11]
        refine ⟨_, Sub.refl _, Or.inl (Or.inr ⟨bo, rb, by rw [ha], by rw [ha, hrl], ?_⟩)⟩
        rw [ha]; exact (hR.known t4 _).base (Sub.set tS y4 _)
      · have hzb : (W.2 != 0) = true := by simpa using hz
        have ha : mergeG evs l = (zeroG, W.2) := by
          unfold mergeG
          rw [if_neg hlne, if_neg hnotany, if_neg hnk, hW, if_neg hz]
        simp only [go_sem, ci, hzb, x4, x11]
        exact ⟨_, Sub.refl _, Or.inl (Or.inl ⟨by rw [ha]; simp [zeroG, zeroH], by rw [ha], Sub.set (tS.trans hR.sub) y4 _⟩)⟩
    have hir : i < rb.length := by rw [hrl]; exact ci
    have vo := hR.outer
    obtain ⟨_, _, _, _⟩ := hR.row i hir
    have hget : (List.map (rowM g.w.toNat) rb ++ zcs [AV.nils] 0).getD (i * 1) .top = .ms (rb[i]).1 3 0 g.w.toNat (rb[i]).2 := by
      rw [Nat.mul_one]; simp [List.getD_eq_getElem?_getD, List.getElem?_append_left, hir, rowM]
    have hqi : wi ((i : Int) + 1) = ((i + 1 : Nat) : Int) := wi_succ (show i < 4611686018427387904 by clear n49 n4 n9; omega)
    simp only [go_sem, ci, vo, hget]
    refine ⟨by rw [List.length_append, List.length_map]; clear n49 n4 n9; omega, ?_⟩
    refine AWP.roam (ι := Nat × Store × List (List Hist)) (fun y => y.1 ≤ g.w.toNat ∧ (W.2 = 0 → Laid N g.rows.length g.w.toNat i y.1 y.2.2) ∧ Rows T bo g.w.toNat rb y.2.2 0 y.2.1)
      (fun y => ⟨Env.get [(0, .p (evsP evs)), (1, .p (.sl (l.map Grid.pv))), (4, .sp c4 0), (10, i64 W.2), (11, .sp c11 0), (12, i64 i), (13, .ms (rb[i]).1 3 0 g.w.toNat (rb[i]).2), (54, .ms bo 1 0 g.rows.length g.rows.length), (55, i64 g.rows.length), (56, i64 i), (62, i64 g.w.toNat), (63, i64 y.1)], y.2.1, 86, []⟩)
      (fun y => g.w.toNat - y.1) (0, V, rows) ⟨Nat.zero_le _, hLd, hR⟩ ?_ ?_
    · refine le_of (by simp only [go_sem] <;> rfl) (Sub.refl _) rfl rfl (by simp)
    rintro ⟨c, V', rows'⟩ ⟨hc, hLd', hR'⟩ jh
    dsimp only at hc hLd' hR' jh ⊢
    refine AWPH.step (xc_ok (bitB 4835883404429763846766451) _ _ _ ?_)
    by_cases cc : c < g.w.toNat
    rotate_left
    · obtain rfl : c = g.w.toNat := by clear n49 n4 n9; omega
      simp only [go_sem, cc]
      refine (ih (i + 1, V', rows') ⟨ci, fun hz => (hLd' hz).row, hR'⟩ (by dsimp only; clear n49 n4 n9; omega)).back (Sub.refl _) (by simp) ?_
      simp only [go_sem, hqi]
    have hqc : wi ((c : Int) + 1) = ((c + 1 : Nat) : Int) := wi_succ (show c < 4611686018427387904 by clear n49 n4 n9; omega)
    by_cases hz : W.2 = 0
    rotate_left
    · have hzb : (W.2 == 0) = false := by simpa using hz
      simp only [go_sem, cc, hzb]
      refine (jh (c + 1, V', rows') ⟨cc, fun h0 => absurd h0 hz, hR'⟩ (by dsimp only; clear n49 n4 n9; omega)).back (Sub.refl _) (by simp) ?_
      simp only [go_sem, hqc]
    have hcol := grid_column evs g r i c h.ne h.ev (by rw [hsdn]; exact ci) (fun s hs => Seed.ok_of_may (hw0.good.so s hs)) (by have := hw0.good.w2; clear n49 n4 n9; omega) (by clear n49 n4 n9; omega) (by clear n49 n4 n9; omega) (by rw [hl]; exact hcut i c ci cc)
    rw [hl] at hcol
    have hX2 := hGO hz i c ci cc
    have hX1 : (withV (ownE g i c evs) (cellsE l i c)).1 = N i c := by rw [hN]
    generalize withV (ownE g i c evs) (cellsE l i c) = X at *
    rw [hX2, hX1] at hcol
    obtain ⟨vr, _, _, _⟩ := hR'.row i hir
    have hri : i < rows'.length := by rw [← hR'.len]; exact hir
    have hrg : rows'.getD i [] = rows'[i] := by simp [List.getD_eq_getElem?_getD, hri]
    have hrw : (rows'[i]).length = g.w.toNat := hR'.wid _ (List.getElem_mem hri)
    have hcr : c < (rows'[i]).length := by rw [hrw]; exact cc
    rw [hrg] at vr
    have hput := flat_put rows'[i] (List.replicate (((rb[i]).2 - g.w.toNat) * 3) .top) (N i c) c hcr
    have hz2 : (W.2 == 0) = true := by simpa using hz
    simp only [go_sem, cc, hz2]
    refine hcol.useA ?_
    unfold rowB at vr
    simp only [go_sem, cc, vr]
    have hnext := (hLd' hz).next ci cc
    rw [hrg] at hnext
    have hR2 := hR'.setRow hir (r := (rows'[i]).set c (N i c)) (by rw [List.length_set]; exact hrw)
    unfold rowB at hR2
    refine ⟨by rw [List.length_append, hflat_len]; clear n49 n4 n9; omega, (jh (c + 1, _, rows'.set i ((rows'[i]).set c (N i c))) ⟨cc, fun _ => hnext, hR2⟩ (by dsimp only; clear n49 n4 n9; omega)).back ?_ (by simp) ?_⟩
    · dsimp only
      rw [← hput]
      exact Sub.refl _
    · simp only [go_sem, hqc, hz]
theorem grid_Merge (evs : List Event) (l : List Grid) (h : MergeOk evs l) : Pure Tryz.prog 7 [.p (evsP evs), .p (.sl (l.map Grid.pv))] (.tuple [(mergeG evs l).1.av, i64 (mergeG evs l).2]) := fun S => by
  refine (grid_Merge0 evs l h S).frz ?_
  rintro x S' (⟨rfl, h2, h3⟩ | ⟨bo, rb, h1, rfl, hR⟩)
  · refine ⟨_, S, Frz.forget h3, ?_, rfl⟩
    have : (mergeG evs l).1 = zeroG := by rw [h2]
    rw [this]
  · refine ⟨_, S, (frz_rows hR (Sub.refl _) (i64 (mergeG evs l).1.w) (.p (.sl ((mergeG evs l).1.sd.map Seed.pv))) (i64 (mergeG evs l).1.all.k) (i64 (mergeG evs l).1.all.g) (.p (.sl ((mergeG evs l).1.all.ls.map lvE))) (i64 0)).1, ?_, rfl⟩
    rw [h1]; rfl
end Go.Sk
end

-- A41
section
namespace Go.Sk

theorem nd_perm : ∀ (l m : List Nat), l.Nodup → m.Nodup → (∀ x, x ∈ l ↔ x ∈ m) → l.Perm m := by
  intro l
  induction l with
  | nil =>
    intro m _ _ h
    have : m = [] := List.eq_nil_iff_forall_not_mem.2 fun x hx => by simpa using (h x).2 hx
    subst this; exact List.Perm.refl _
  | cons a r ih =>
    intro m h1 h2 h
    have ha : a ∈ m := (h a).1 List.mem_cons_self
    obtain ⟨hna, hr⟩ := List.nodup_cons.1 h1
    have hp := List.perm_cons_erase ha
    refine ((ih (m.erase a) hr (h2.erase a) fun x => ?_).cons a).trans hp.symm
    rw [h2.mem_erase_iff]
    constructor
    · intro hx; exact ⟨by rintro rfl; exact hna hx, (h x).1 (List.mem_cons_of_mem _ hx)⟩
    · rintro ⟨hne, hx⟩
      rcases List.mem_cons.1 ((h x).2 hx) with e | e
      · exact absurd e hne
      · exact e
theorem nd_all (js : List Nat) (n : Nat) (h : js.Nodup) (hb : ∀ x ∈ js, x < n) (hl : js.length = n) : js.Perm (List.range n) := by
  have hp : js.Perm ((List.range n).filter fun x => decide (x ∈ js)) := nd_perm _ _ h (List.nodup_range.filter _) fun x => by
    rw [List.mem_filter, List.mem_range]; simp; exact fun hx => hb x hx
  have hlen := hp.length_eq
  have e : (List.range n).filter (fun x => decide (x ∈ js)) = List.range n := by
    refine List.filter_eq_self.2 ?_
    refine List.length_filter_eq_length_iff.1 ?_
    rw [← hlen, hl, List.length_range]
  rw [e] at hp; exact hp
theorem nd_lt (js : List Nat) (n : Nat) (h : js.Nodup) (hb : ∀ x ∈ js, x < n) (hl : js.length < n) : ∃ x, x < n ∧ x ∉ js := by
  apply Classical.byContradiction
  intro hc
  have hall : ∀ x, x < n → x ∈ js := fun x hx => Classical.byContradiction fun hn => hc ⟨x, hx, hn⟩
  have hp : js.Perm (List.range n) := nd_perm _ _ h List.nodup_range fun x => by
    rw [List.mem_range]; exact ⟨hb x, hall x⟩
  have := hp.length_eq
  rw [List.length_range] at this; omega
def pickL (m : List (Nat × Nat)) (js : List Nat) : List (Nat × Nat) := js.map fun j => m.getD j default
structure Picks (m : List (Nat × Nat)) (js : List Nat) : Prop where
  nd : js.Nodup
  lt : ∀ j ∈ js, j < m.length
  ord : Ord (pickL m js)
  rest : ∀ i ∈ js, ∀ j, j < m.length → j ∉ js → (m.getD i default).1 ≤ (m.getD j default).1
theorem picks_nil (m : List (Nat × Nat)) : Picks m [] := ⟨List.nodup_nil, fun j h => (by cases h), List.Pairwise.nil, fun i h => (by cases h)⟩
theorem picks_snoc {m : List (Nat × Nat)} {js : List Nat} (p : Picks m js) {a : Nat} (ha : a < m.length) (hn : a ∉ js) (hm : ∀ j, j < m.length → j ∉ js → (m.getD a default).1 ≤ (m.getD j default).1) : Picks m (js ++ [a]) := by
  refine ⟨?_, fun j hj => ?_, ?_, fun i hi j hj hjn => ?_⟩
  · rw [List.nodup_append]
    refine ⟨p.nd, by simp, fun x hx y hy => ?_⟩
    simp only [List.mem_singleton] at hy
    subst hy; rintro rfl; exact hn hx
  · rcases List.mem_append.1 hj with h | h
    · exact p.lt j h
    · rw [List.mem_singleton.1 h]; exact ha
  · unfold Ord pickL
    rw [List.map_append]
    refine List.pairwise_append.2 ⟨p.ord, by simp, fun x hx y hy => ?_⟩
    obtain ⟨i, hi, rfl⟩ := List.mem_map.1 hx
    simp only [List.map_cons, List.map_nil, List.mem_singleton] at hy
    subst hy
    exact p.rest i hi a ha hn
  · rw [List.mem_append, List.mem_singleton] at hjn
    rcases List.mem_append.1 hi with h | h
    · exact p.rest i h j hj (fun h => hjn (Or.inl h))
    · rw [List.mem_singleton.1 h]; exact hm j hj (fun h => hjn (Or.inl h))
theorem picks_all {m : List (Nat × Nat)} {js : List Nat} (p : Picks m js) (hl : js.length = m.length) : (pickL m js).Perm m := by
  have hp := (nd_all js m.length p.nd p.lt hl).map (fun j => m.getD j default)
  have e : (List.range m.length).map (fun j => m.getD j default) = m := by
    apply List.ext_getElem
    · simp
    · intro i h1 h2
      simp at h1
      simp [List.getD_eq_getElem?_getD, h2]
  rw [e] at hp; exact hp
def doneL (n : Nat) (js : List Nat) : List Bool := (List.range n).map fun j => decide (j ∈ js)
theorem done_len (n : Nat) (js : List Nat) : (doneL n js).length = n := by unfold doneL; simp
theorem done_get (n : Nat) (js : List Nat) (j : Nat) (h : j < n) : (doneL n js)[j]? = some (decide (j ∈ js)) := by unfold doneL; simp [h]
theorem done_set (n : Nat) (js : List Nat) (a : Nat) : (doneL n js).set a true = doneL n (js ++ [a]) := by
  apply List.ext_getElem
  · simp [doneL]
  · intro i h1 h2
    rw [List.getElem_set]
    unfold doneL
    by_cases e : a = i
    · simp [e]
    · have e' : ¬ i = a := fun h => e h.symm
      simp [e, e']
/-- What is so of the place of the least one, of the first i. -/
def LeastAt (m : List (Nat × Nat)) (js : List Nat) (i : Nat) (a : Int) : Prop :=
  (a = -1 ∧ ∀ j, j < i → j ∈ js) ∨ ∃ q : Nat, a = q ∧ q < i ∧ q ∉ js ∧ ∀ j, j < i → j ∉ js → (m.getD q default).1 ≤ (m.getD j default).1
theorem least_zero (m : List (Nat × Nat)) (js : List Nat) : LeastAt m js 0 (-1) := Or.inl ⟨rfl, fun j h => by omega⟩
theorem least_skip {m : List (Nat × Nat)} {js : List Nat} {i : Nat} {a : Int} (h : LeastAt m js i a) (hi : i ∈ js) : LeastAt m js (i + 1) a := by
  rcases h with ⟨rfl, h⟩ | ⟨q, rfl, h1, h2, h3⟩
  · refine Or.inl ⟨rfl, fun j hj => ?_⟩
    rcases Nat.lt_or_ge j i with c | c
    · exact h j c
    · obtain rfl : j = i := by omega
      exact hi
  · refine Or.inr ⟨q, rfl, by omega, h2, fun j hj hn => ?_⟩
    rcases Nat.lt_or_ge j i with c | c
    · exact h3 j c hn
    · obtain rfl : j = i := by omega
      exact absurd hi hn
theorem least_first {m : List (Nat × Nat)} {js : List Nat} {i : Nat} (h : LeastAt m js i (-1)) (hi : i ∉ js) : LeastAt m js (i + 1) i := by
  rcases h with ⟨_, h⟩ | ⟨q, e, _⟩
  · refine Or.inr ⟨i, rfl, by omega, hi, fun j hj hn => ?_⟩
    rcases Nat.lt_or_ge j i with c | c
    · exact absurd (h j c) hn
    · obtain rfl : j = i := by omega
      exact Nat.le_refl _
  · omega
theorem least_more {m : List (Nat × Nat)} {js : List Nat} {i q : Nat} (h : LeastAt m js i q) (hi : i ∉ js) :
    q < i ∧ ((m.getD i default).1 < (m.getD q default).1 → LeastAt m js (i + 1) i) ∧ (¬ (m.getD i default).1 < (m.getD q default).1 → LeastAt m js (i + 1) q) := by
  rcases h with ⟨e, _⟩ | ⟨q', e, h1, h2, h3⟩
  · omega
  · obtain rfl : q = q' := by omega
    refine ⟨h1, fun hlt => Or.inr ⟨i, rfl, by omega, hi, fun j hj hn => ?_⟩, fun hge => Or.inr ⟨q, rfl, by omega, h2, fun j hj hn => ?_⟩⟩
    · rcases Nat.lt_or_ge j i with c | c
      · have := h3 j c hn; omega
      · obtain rfl : j = i := by omega
        exact Nat.le_refl _
    · rcases Nat.lt_or_ge j i with c | c
      · exact h3 j c hn
      · obtain rfl : j = i := by omega
        omega
theorem picks_sub {m : List (Nat × Nat)} {js : List Nat} (p : Picks m js) : sumW (pickL m js) ≤ sumW m ∧ ∀ x ∈ pickL m js, x ∈ m := by
  constructor
  · have hp : (js ++ (List.range m.length).filter fun x => decide (x ∉ js)).Perm (List.range m.length) := by
      refine nd_perm _ _ ?_ List.nodup_range fun x => ?_
      · rw [List.nodup_append]
        refine ⟨p.nd, List.nodup_range.filter _, fun x hx y hy => ?_⟩
        have := (List.mem_filter.1 hy).2
        rintro rfl
        simp [hx] at this
      · rw [List.mem_append, List.mem_filter, List.mem_range]
        constructor
        · rintro (h | h)
          · exact p.lt x h
          · exact h.1
        · intro h
          by_cases hx : x ∈ js
          · exact Or.inl hx
          · exact Or.inr ⟨h, by simpa using hx⟩
    have h2 := hp.map (fun j => m.getD j default)
    rw [List.map_append] at h2
    have e : (List.range m.length).map (fun j => m.getD j default) = m := by
      apply List.ext_getElem
      · simp
      · intro i h1 h2
        simp at h1
        simp [List.getD_eq_getElem?_getD, h2]
    rw [e] at h2
    have h3 := sumW_perm h2
    rw [sumW_app] at h3
    show sumW (js.map fun j => m.getD j default) ≤ _
    omega
  · intro x hx
    obtain ⟨j, hj, rfl⟩ := List.mem_map.1 hx
    have hl := p.lt j hj
    rw [List.getD_eq_getElem?_getD, List.getElem?_eq_getElem hl]
    exact List.getElem_mem hl
theorem picks_good {k : Int} (h1 : 2 ≤ k) (h2 : k ≤ 1024) (g : Int) {m : List (Nat × Nat)} {js : List Nat} (p : Picks m js) (he : ∀ x ∈ m, x.1 ≤ 9223372036854775807 ∧ 1 ≤ x.2) (ht : sumW m ≤ 4503599627370496) : (foldH ⟨k, g, []⟩ (pickL m js)).Good := by
  obtain ⟨a, b⟩ := picks_sub p
  exact fold_good h1 h2 g p.ord (fun x hx => he x (b x hx)) (by omega)
theorem pickL_snoc (m : List (Nat × Nat)) (js : List Nat) (a : Nat) : pickL m (js ++ [a]) = pickL m js ++ [m.getD a default] := by unfold pickL; rw [List.map_append]; rfl
theorem least_end {m : List (Nat × Nat)} {js : List Nat} (p : Picks m js) (hl : js.length < m.length) {a : Int} (h : LeastAt m js m.length a) :
    ∃ q : Nat, a = q ∧ q < m.length ∧ q ∉ js ∧ ∀ j, j < m.length → j ∉ js → (m.getD q default).1 ≤ (m.getD j default).1 := by
  rcases h with ⟨_, h⟩ | h
  · obtain ⟨x, h1, h2⟩ := nd_lt js m.length p.nd p.lt hl
    exact absurd (h x h1) h2
  · exact h
end Go.Sk
end

-- W10i
section
namespace Go.Sk
open Go Go.Proofs

set_option maxHeartbeats 1000000 in
set_option maxRecDepth 4000 in
theorem ref10_least (m : List (Nat × Nat)) (js : List Nat) (hn : m.length < 1099511627776) {S : Store} {b c : Nat} (hb : S (.r b) = some (.cells ((doneL m.length js).map bl))) :
    CallR Tryz.prog 67 [.p (.sl (m.map lumE)), .ms b 1 0 m.length c] S (fun r S' => (∃ a : Int, r = i64 a ∧ LeastAt m js m.length a) ∧ S' = S) := by
  refine callR_of Tryz.func67 rfl rfl (xc_ok (bitB 17179870323) _ _ _ ?_)
  simp only [go_sem]
  refine AWP.roam (ι := Nat × Int) (fun x => x.1 ≤ m.length ∧ LeastAt m js x.1 x.2)
    (fun x => ⟨Env.get [(0, .p (.sl (m.map lumE))), (1, .ms b 1 0 m.length c), (5, i64 x.2), (6, i64 x.1)], S, 37, []⟩) (fun x => m.length - x.1) (0, -1) ⟨Nat.zero_le _, least_zero m js⟩ ?_ ?_
  · refine le_of (by simp only [go_sem] <;> rfl) (Sub.refl _) rfl rfl (by simp)
  · rintro ⟨i, a⟩ ⟨hi, hL⟩ ih
    dsimp only at hi hL ⊢
    have hqi : wi ((i : Int) + 1) = ((i + 1 : Nat) : Int) := wi_succ (show i < 4611686018427387904 by omega)
    refine AWPH.step (xc_ok (bitB 17179870323) _ _ _ ?_)
    by_cases hc : i < m.length
    rotate_left
    · obtain rfl : i = m.length := by omega
      simp only [go_sem, List.length_map]
      exact ⟨_, Sub.refl _, Or.inl ⟨⟨a, rfl, hL⟩, rfl⟩⟩
    have hdl := done_len m.length js
    have hdg := done_get m.length js i hc
    simp only [go_sem, hc, ltN' hc, List.length_map]
    have hdg3 : (List.map bl (doneL m.length js)).getD (i * 1) AV.top = bl (decide (i ∈ js)) := by
      rw [Nat.mul_one, List.getD_eq_getElem?_getD, List.getElem?_map, hdg]; rfl
    have hmi : (m.map lumE).getD i [] = [.int .u64 (m.getD i default).1, .int .u64 (m.getD i default).2] := by
      rw [getD_map' _ _ _ _ hc]; simp [List.getD_eq_getElem?_getD, hc, lumE]
    by_cases hj : i ∈ js
    · refine AWP.draw2 (bitB 17179870323) mixed (by kernel_rfl) (fun j => bl false) ?_
      simp only [go_sem, hc, ltN' hc, List.length_map, hb, hdl, hdg3, hj, decide_true, Bool.not_true]
      refine ⟨by omega, ?_⟩
      refine (ih (i + 1, a) ⟨hc, least_skip hL hj⟩ (by dsimp only; omega)).back (by (repeat (first | exact Sub.refl _ | refine Sub.setF ?_ (by first | assumption | simp only [*]) | refine Sub.setV ?_ (by first | assumption | simp only [*])))) (by simp) ?_
      simp only [go_sem, hqi]
    · by_cases ha : a < 0
      · obtain rfl : a = -1 := by
          rcases hL with ⟨e, _⟩ | ⟨q, e, _⟩
          · exact e
          · omega
        refine AWP.draw2 (bitB 17179870323) mixed (by kernel_rfl) (fun j => bl false) ?_
        simp only [go_sem, hc, ltN' hc, List.length_map, hb, hdl, hdg3, hj, ha, decide_false, Bool.not_false]
        refine ⟨by omega, ?_⟩
        refine (ih (i + 1, (i : Int)) ⟨hc, least_first hL hj⟩ (by dsimp only; omega)).back (by (repeat (first | exact Sub.refl _ | refine Sub.setF ?_ (by first | assumption | simp only [*]) | refine Sub.setV ?_ (by first | assumption | simp only [*])))) (by simp) ?_
        simp only [go_sem, hqi]
      · obtain ⟨q, rfl⟩ : ∃ q : Nat, a = q := ⟨a.toNat, by omega⟩
        obtain ⟨hq, hl1, hl2⟩ := least_more hL hj
        have hqm : q < m.length := by omega
        have hmq : (m.map lumE).getD q [] = [.int .u64 (m.getD q default).1, .int .u64 (m.getD q default).2] := by
          rw [getD_map' _ _ _ _ hqm]; simp [List.getD_eq_getElem?_getD, hqm, lumE]
        by_cases hlt : (m.getD i default).1 < (m.getD q default).1
        · refine AWP.draw2 (bitB 17179870323) mixed (by kernel_rfl) (fun j => bl false) ?_
          simp only [go_sem, hc, ltN' hc, List.length_map, hb, hdl, hdg3, hj, ha, decide_false, Bool.not_false, hmi, hmq, hqm, ltN' hqm, hlt]
          refine ⟨by omega, ?_⟩
          refine (ih (i + 1, (i : Int)) ⟨hc, hl1 hlt⟩ (by dsimp only; omega)).back (by (repeat (first | exact Sub.refl _ | refine Sub.setF ?_ (by first | assumption | simp only [*]) | refine Sub.setV ?_ (by first | assumption | simp only [*])))) (by simp) ?_
          simp only [go_sem, hqi]
        · refine AWP.draw2 (bitB 17179870323) mixed (by kernel_rfl) (fun j => bl false) ?_
          simp only [go_sem, hc, ltN' hc, List.length_map, hb, hdl, hdg3, hj, ha, decide_false, Bool.not_false, hmi, hmq, hqm, ltN' hqm, hlt]
          refine ⟨by omega, ?_⟩
          refine (ih (i + 1, (q : Int)) ⟨hc, hl2 hlt⟩ (by dsimp only; omega)).back (by (repeat (first | exact Sub.refl _ | refine Sub.setF ?_ (by first | assumption | simp only [*]) | refine Sub.setV ?_ (by first | assumption | simp only [*])))) (by simp) ?_
          simp only [go_sem, hqi]
end Go.Sk
end

-- W10j
section
namespace Go.Sk
open Go Go.Proofs

theorem came_iff {evs : List Event} {l : List Hist} (hf : ∀ h ∈ l, h.Fine) (h0 : (withV evs l).2 = 0) : Came l evs := by
  by_cases c1 : l = [] ∨ evs.any (fun e => e.w == 0) = true
  · rw [withV_e c1] at h0; simp at h0
  have hl : l ≠ [] := fun e => c1 (Or.inl e)
  have h1 : evs.any (fun e => e.w == 0) = false := by
    cases h : evs.any (fun e => e.w == 0) with
    | true => exact absurd (Or.inr h) c1
    | false => rfl
  cases h2 : l.any (fun h => h.k != (l.headD zeroH).k) with
  | true => rw [withV_k hl h1 h2] at h0; simp at h0
  | false =>
    by_cases h3 : 4 ≤ maxG l
    · rw [withV_g hl h1 h2 h3] at h0; simp at h0
    cases h4 : evs.any (fun e => decide (9223372036854775807 < e.t)) with
    | true => rw [withV_t hl h1 h2 h3 h4] at h0; simp at h0
    | false =>
      by_cases h5 : 4503599627370496 < sumT l + sumE Event.w evs
      · rw [withV_o hl h1 h2 h3 h4 h5] at h0; simp at h0
      exact came_of hf hl h1 h2 h3 h4 h5
theorem withV_no {evs : List Event} {l : List Hist} (hf : ∀ h ∈ l, h.Fine) (h0 : (withV evs l).2 ≠ 0) : (withV evs l).1 = zeroH := by
  by_cases c1 : l = [] ∨ evs.any (fun e => e.w == 0) = true
  · rw [withV_e c1]
  have hl : l ≠ [] := fun e => c1 (Or.inl e)
  have h1 : evs.any (fun e => e.w == 0) = false := by
    cases h : evs.any (fun e => e.w == 0) with
    | true => exact absurd (Or.inr h) c1
    | false => rfl
  cases h2 : l.any (fun h => h.k != (l.headD zeroH).k) with
  | true => rw [withV_k hl h1 h2]
  | false =>
    by_cases h3 : 4 ≤ maxG l
    · rw [withV_g hl h1 h2 h3]
    cases h4 : evs.any (fun e => decide (9223372036854775807 < e.t)) with
    | true => rw [withV_t hl h1 h2 h3 h4]
    | false =>
      by_cases h5 : 4503599627370496 < sumT l + sumE Event.w evs
      · rw [withV_o hl h1 h2 h3 h4 h5]
      exact absurd (withV_ok (came_of hf hl h1 h2 h3 h4 h5)) h0
set_option maxHeartbeats 2000000 in
set_option maxRecDepth 8000 in
theorem ref10_With (evs : List Event) (l : List Hist) (hn : l.length ≤ 1000) (hne : evs.length < 1048576) (hoe : ∀ e ∈ evs, e.Ok) (hf : ∀ h ∈ l, h.Fine) (hg4 : ∀ h ∈ l, h.g ≤ 4) :
    Pure Tryz.prog 27 [.p (evsP evs), .p (.sl (l.map Hist.cs))] (.tuple [(withV evs l).1.av, i64 (withV evs l).2]) := fun S => by
  refine callR_of Tryz.func27 rfl rfl (xc_ok (bitB 1180591761459196788723) _ _ _ ?_)
  simp only [go_sem]
  refine alloc_intro fun c4 h4 => ?_
  have y4 : S (.r c4) = none := h4
  simp only [go_sem]
  refine (ref10_bad evs l hn hne hoe hf hg4).useA ?_
  by_cases h0 : (withV evs l).2 = 0
  rotate_left
  · have e0 : ((withV evs l).2 != 0) = true := by simpa using h0
    rw [withV_no hf h0]
    simp only [go_sem, e0]
    (refine ⟨S, by (repeat (first | exact Sub.refl _ | refine Sub.setF ?_ (by first | assumption | simp only [*]) | refine Sub.setV ?_ (by first | assumption | simp only [*]))), ?_⟩); simp [zeroH]
  have hcm := came_iff hf h0
  have hl0 := hcm.ne
  have hlen : 0 < l.length := List.length_pos_iff.2 hl0
  have e0 : ((withV evs l).2 != 0) = false := by simpa using h0
  obtain ⟨k0, hk0⟩ : ∃ k0, (l.headD zeroH).k = k0 := ⟨_, rfl⟩
  have hk0' : (l[0]).k = k0 := by rw [← hk0]; cases l with | nil => exact absurd rfl hl0 | cons a r => rfl
  have hsl : ∀ h ∈ l, h.ls.length ≤ 53 ∧ totN 0 h.ls ≤ 4503599627370496 := fun h hh => ⟨(hf h hh).good.len, (hf h hh).good.tot⟩
  have hget0 : (l.map Hist.cs).getD 0 [] = [.int .i64 k0, .int .i64 (l[0]).g, .sl ((l[0]).ls.map lvE)] := by
    rw [getD_map' _ _ _ _ hlen, ← hk0']; rfl
  simp only [go_sem, e0, hlen, ltN' hlen, hget0, List.length_map]
  refine alloc_intro fun c7 h7 => ?_
  simp only [fresh_set] at h7
  have y7 : S (.r c7) = none := h7.2
  simp only [go_sem, h7]
  refine AWP.iter (fun i => ⟨Env.get [(0, .p (evsP evs)), (1, .p (.sl (l.map Hist.cs))), (4, .sp c4 0), (7, .sp c7 0), (8, i64 (maxG (l.take i))), (9, i64 i)],
    (S.set (.r c4) (.cells [i64 0, i64 0, .nils])).set (.r c7) (.cells [i64 k0, i64 0, .nils]), 99, []⟩) l.length ?_ ?_ ?_
  · refine le_of (by simp only [go_sem] <;> simp [maxG]) ?_ rfl rfl (by simp)
    ((try dsimp only); (repeat refine sub_set ?_ ?_) <;> first | ((repeat (first | exact Sub.refl _ | refine Sub.setF ?_ (by first | assumption | simp only [*]) | refine Sub.setV ?_ (by first | assumption | simp only [*]))); done) | (simp only [go_sem, h7]; done) | (simp only [go_sem, h7]; rfl) | rfl)
  · intro i hi ih
    have hsn := maxG_snoc l i hi
    have hqi : wi ((i : Int) + 1) = ((i + 1 : Nat) : Int) := wi_succ (show i < 4611686018427387904 by clear h7; omega)
    have hget : (l.map Hist.cs).getD i [] = [.int .i64 (l[i]).k, .int .i64 (l[i]).g, .sl ((l[i]).ls.map lvE)] := by
      rw [getD_map' _ _ _ _ hi]; rfl
    have emax : (if (l[i]).g > maxG (l.take i) then (l[i]).g else maxG (l.take i)) = maxG (l.take (i + 1)) := by rw [hsn]; split <;> omega
    refine AWPH.step (xc_ok (bitB 1180591761459196788723) _ _ _ ?_)
    simp only [go_sem, hi, ltN' hi, hget, List.length_map, emax]
    refine ih.back (by (repeat (first | exact Sub.refl _ | refine Sub.setF ?_ (by first | assumption | simp only [*]) | refine Sub.setV ?_ (by first | assumption | simp only [*])))) (by simp) ?_
    simp only [go_sem, hqi]
  · refine AWPH.step (xc_ok (bitB 1180591761459196788723) _ _ _ ?_)
    simp only [go_sem, h7, List.take_length, List.length_map]
    refine (ref10_lumps l (by omega) (fun h hh => (hf h hh).good) _).useA ?_
    rintro _ _ ⟨v, loc, hv, rfl, rfl⟩
    simp only [freshv_setr] at hv
    simp only [go_sem, h7, hv]
    have hRl := lumpsR_len l (fun h hh => (hf h hh).good)
    have hbig : ∀ i, (lumpsR l ++ evL (evs.take i)).length ≤ 61048576 := fun i => by
      have : (evL (evs.take i)).length ≤ evs.length := by unfold evL; rw [List.length_map, List.length_take]; omega
      rw [List.length_append]; omega
    refine AWP.iterE (ι := Option Nat) (fun loc i => ⟨Env.get [(0, .p (evsP evs)), (4, .sp c4 0), (7, .sp c7 0), (8, i64 (maxG l)), (10, .ts v 2 loc ((lumpsR l ++ evL (evs.take i)).map lumE)), (11, i64 i)],
      ((S.set (.r c4) (.cells [i64 0, i64 0, .nils])).set (.r c7) (.cells [i64 k0, i64 0, .nils])).set (.v v) (.tip 2 (lumpsR l ++ evL (evs.take i)).length loc), 99, []⟩) evs.length loc ?_ ?_ ?_
    · have q : lumpsR l ++ evL [] = lumpsR l := List.append_nil _
      refine le_of (by simp only [go_sem, List.take_zero, q] <;> rfl) ?_ rfl rfl (by simp)
      ((try dsimp only); (repeat refine sub_set ?_ ?_) <;> first | ((repeat (first | exact Sub.refl _ | refine Sub.setF ?_ (by first | assumption | simp only [*]) | refine Sub.setV ?_ (by first | assumption | simp only [*]))); done) | (simp only [go_sem, h7, hv, List.take_zero, q]; done) | (simp only [go_sem, h7, hv, List.take_zero, q]; rfl) | rfl)
    · intro i loc hi ih
      have hqi : wi ((i : Int) + 1) = ((i + 1 : Nat) : Int) := wi_succ (show i < 4611686018427387904 by clear h7; omega)
      have hb := hbig i
      have hnext : lumpsR l ++ evL (evs.take (i + 1)) = (lumpsR l ++ evL (evs.take i)) ++ [((evs[i]).t, (evs[i]).w)] := by
        unfold evL
        rw [List.take_succ_eq_append_getElem hi, List.map_append, List.append_assoc]; rfl
      rw [hnext] at ih
      generalize lumpsR l ++ evL (evs.take i) = M at *
      have hlx : (M ++ [((evs[i]).t, (evs[i]).w)]).length = M.length + 1 := by rw [List.length_append]; rfl
      have e5 : M.map lumE ++ [[.int .u64 (evs[i]).t, .int .u64 (evs[i]).w]] = (M ++ [((evs[i]).t, (evs[i]).w)]).map lumE := by rw [List.map_append]; rfl
      refine AWPH.step (xc_ok (bitB 1180591761459196788723) _ _ _ ?_)
      simp only [go_sem, evsP, hi, ltN' hi, List.length_map]
      refine AWP.draw2 (bitB 1180591761459196788723) mixed (by kernel_rfl) (fun j => bl false) ?_
      simp only [go_sem, evsP, hi, ltN' hi, getD_map' _ _ _ _ hi, List.length_map, hv]
      refine ⟨by rintro el rfl; rfl, lum_len, by clear h7; omega, by clear h7; omega, grow_intro fun loc' => ?_⟩
      simp only [go_sem, hv, hqi, e5]
      refine (ih loc').back ?_ (by simp) ?_
      · ((try dsimp only); (repeat refine sub_set ?_ ?_) <;> first | ((repeat (first | exact Sub.refl _ | refine Sub.setF ?_ (by first | assumption | simp only [*]) | refine Sub.setV ?_ (by first | assumption | simp only [*]))); done) | (simp only [go_sem, h7, hv, e5, hlx, List.length_map]; done) | (simp only [go_sem, h7, hv, e5, hlx, List.length_map]; rfl) | rfl)
      · simp only [go_sem, hqi, evsP]
    · intro loc
      have hb := hbig evs.length
      rw [List.take_length] at hb ⊢
      generalize hM : lumpsR l ++ evL evs = M at *
      refine AWPH.step (xc_ok (bitB 1180591761459196788723) _ _ _ ?_)
      have hMp : M.Perm (lumpsP l ++ evL evs) := by rw [← hM]; exact List.Perm.append_right _ (lumpsR_perm l)
      obtain ⟨hcl, hcs⟩ := came_lumps hcm
      have hMe : ∀ x ∈ M, x.1 ≤ 9223372036854775807 ∧ 1 ≤ x.2 := fun x hx => hcl x (hMp.mem_iff.1 hx)
      have hMs : sumW M ≤ 4503599627370496 := by rw [sumW_perm hMp, hcs]; exact hcm.tot
      have hfk := (hcm.fine _ (head_mem hcm.ne)).good
      have hk2 : 2 ≤ k0 := by rw [← hk0]; exact hfk.k0
      have hk3 : k0 ≤ 1024 := by rw [← hk0]; exact hfk.k1
      simp only [go_sem, h7, hv, evsP, List.length_map]
      refine ⟨by clear h7; omega, by clear h7; omega, make_intro fun b hbf => ?_⟩
      simp only [fresh_set, fresh_setv] at hbf
      have yb : S (.r b) = none := hbf.2.2
      simp only [go_sem, h7, hv, hbf]
      refine AWP.data 10 ?_
      have hz0 : zcs [bl false] M.length = (doneL M.length []).map bl := by
        apply List.ext_getElem
        · simp [zcs, doneL]
        · intro i h1 h2
          simp [zcs, doneL]
      simp only [go_sem, h7, hv, hbf, hz0]
      refine AWP.roam (ι := List Nat) (fun js => Picks M js ∧ js.length ≤ M.length)
        (fun js => ⟨Env.get [(4, .sp c4 0), (7, .sp c7 0), (8, i64 (maxG l)), (10, .p (.sl (M.map lumE))), (12, .ms b 1 0 M.length M.length), (13, i64 js.length)],
          ((S.set (.r c4) (.cells [i64 0, i64 0, .nils])).set (.r c7) (.cells [i64 (foldH ⟨k0, 0, []⟩ (pickL M js)).k, i64 (foldH ⟨k0, 0, []⟩ (pickL M js)).g, if js = [] then .nils else .p (.sl ((foldH ⟨k0, 0, []⟩ (pickL M js)).ls.map lvE))])).set (.r b) (.cells ((doneL M.length js).map bl)), 99, []⟩) (fun js => M.length - js.length) [] ⟨picks_nil M, Nat.zero_le _⟩ ?_ ?_
      · refine le_of (by simp only [go_sem, List.length_nil] <;> rfl) ?_ rfl rfl (by simp)
        rw [if_pos rfl]
        show Sub (((S.set (.r c4) (.cells [i64 0, i64 0, .nils])).set (.r c7) (.cells [i64 k0, i64 0, .nils])).set (.r b) (.cells ((doneL M.length []).map bl))) _
        ((try dsimp only); (repeat refine sub_set ?_ ?_) <;> first | ((repeat (first | exact Sub.refl _ | refine Sub.setF ?_ (by first | assumption | simp only [*]) | refine Sub.setV ?_ (by first | assumption | simp only [*]))); done) | (simp only [go_sem, h7, hv, hbf]; done) | (simp only [go_sem, h7, hv, hbf]; rfl) | rfl)
      · rintro js ⟨hp, hjl⟩ ih
        have hqi : wi ((js.length : Int) + 1) = ((js.length + 1 : Nat) : Int) := wi_succ (show js.length < 4611686018427387904 by clear h7; omega)
        refine AWPH.step (xc_ok (bitB 1180591761459196788723) _ _ _ ?_)
        by_cases hc : js.length < M.length
        · simp only [go_sem, h7, hv, hbf, hc, ltN' hc, List.length_map]
          refine (ref10_least M js (by clear h7; omega) (by simp only [go_sem, h7, hbf])).useA ?_
          rintro _ _ ⟨⟨a, rfl, hL⟩, rfl⟩
          obtain ⟨q, rfl, hq1, hq2, hq3⟩ := least_end hp hc hL
          have hp2 := picks_snoc hp hq1 hq2 hq3
          have hgood := picks_good hk2 hk3 0 hp hMe hMs
          have hqm : (M.map lumE).getD q [] = [.int .u64 (M.getD q default).1, .int .u64 (M.getD q default).2] := by
            rw [getD_map' _ _ _ _ hq1]; simp [List.getD_eq_getElem?_getD, hq1, lumE]
          have hqw : (M.getD q default).2 < 18446744073709551616 := by
            have := sumW_mem (l := M) (M.getD q default) (by rw [List.getD_eq_getElem?_getD, List.getElem?_eq_getElem hq1]; exact List.getElem_mem hq1)
            clear h7 hbf; omega
          have hfs : (addH (foldH ⟨k0, 0, []⟩ (pickL M js)) (M.getD q default).1 (M.getD q default).2).1 = foldH ⟨k0, 0, []⟩ (pickL M (js ++ [q])) := by rw [pickL_snoc, foldH_snoc]
          have hcall := ref06_addH (foldH ⟨k0, 0, []⟩ (pickL M js)) hgood.ok (M.getD q default).1 (M.getD q default).2 hqw
          have hdl := done_len M.length js
          have hds : List.take (q * 1) (List.map bl (doneL M.length js)) ++ [AV.p (PV.bool true)] ++ List.drop (q * 1 + 1) (List.map bl (doneL M.length js)) = (doneL M.length (js ++ [q])).map bl := by
            rw [Nat.mul_one, ← done_set, List.map_set, List.set_eq_take_append_cons_drop, if_pos (by rw [List.length_map, hdl]; exact hq1)]
            simp
          have hjs1 : (js ++ [q] = []) = False := by simp
          have hjl1 : (js ++ [q]).length = js.length + 1 := by rw [List.length_append]; rfl
          simp only [go_sem, h7, hv, hbf, hq1, ltN' hq1, List.length_map]
          refine ⟨by rw [hdl]; clear h7 hbf; omega, ?_⟩
          by_cases hj0 : js = []
          · have hF0 : foldH ⟨k0, 0, []⟩ (pickL M js) = ⟨k0, 0, []⟩ := by rw [hj0]; rfl
            refine AWP.draw2 (bitB 1180591761459196788723) mixed (by kernel_rfl) (fun j => .tuple [(addH (foldH ⟨k0, 0, []⟩ (pickL M js)) (M.getD q default).1 (M.getD q default).2).1.av, i64 (addH (foldH ⟨k0, 0, []⟩ (pickL M js)) (M.getD q default).1 (M.getD q default).2).2]) ?_
            rw [if_pos hj0, hF0, hds]
            rw [hF0] at hcall hfs
            simp only [go_sem, h7, hv, hbf, hq1, ltN' hq1, hqm, List.length_map]
            refine ⟨hcall.draw, alloc_intro fun c15 h15 => ?_⟩
            simp only [fresh_set] at h15
            rw [hfs]
            simp only [go_sem, h7, hv, hbf, h15]
            refine (ih (js ++ [q]) ⟨hp2, by rw [hjl1]; clear h7 hbf; omega⟩ (by rw [hjl1]; clear h7 hbf; omega)).back ?_ (by simp) ?_
            · ((try dsimp only); (repeat refine sub_set ?_ ?_) <;> first | ((repeat (first | exact Sub.refl _ | refine Sub.setF ?_ (by first | assumption | simp only [*]) | refine Sub.setV ?_ (by first | assumption | simp only [*]))); done) | (simp only [go_sem, h7, hv, hbf, h15, hjs1, if_false]; done) | (simp only [go_sem, h7, hv, hbf, h15, hjs1, if_false]; rfl) | rfl)
            · simp only [go_sem, hqi, hjl1]
          · refine AWP.draw2 (bitB 1180591761459196788723) mixed (by kernel_rfl) (fun j => .tuple [(addH (foldH ⟨k0, 0, []⟩ (pickL M js)) (M.getD q default).1 (M.getD q default).2).1.av, i64 (addH (foldH ⟨k0, 0, []⟩ (pickL M js)) (M.getD q default).1 (M.getD q default).2).2]) ?_
            rw [if_neg hj0, hds]
            simp only [go_sem, h7, hv, hbf, hq1, ltN' hq1, hqm, List.length_map]
            refine ⟨hcall.draw, alloc_intro fun c15 h15 => ?_⟩
            simp only [fresh_set] at h15
            rw [hfs]
            simp only [go_sem, h7, hv, hbf, h15]
            refine (ih (js ++ [q]) ⟨hp2, by rw [hjl1]; clear h7 hbf; omega⟩ (by rw [hjl1]; clear h7 hbf; omega)).back ?_ (by simp) ?_
            · ((try dsimp only); (repeat refine sub_set ?_ ?_) <;> first | ((repeat (first | exact Sub.refl _ | refine Sub.setF ?_ (by first | assumption | simp only [*]) | refine Sub.setV ?_ (by first | assumption | simp only [*]))); done) | (simp only [go_sem, h7, hv, hbf, h15, hjs1, if_false]; done) | (simp only [go_sem, h7, hv, hbf, h15, hjs1, if_false]; rfl) | rfl)
            · simp only [go_sem, hqi, hjl1]
        · have hjn : js.length = M.length := by clear h7 hbf; omega
          have hperm := (picks_all hp hjn).trans hMp
          obtain ⟨hw, _⟩ := with_any hcm hperm hp.ord 0
          obtain ⟨_, _, b3, b4, _⟩ := with_ok hcm
          have hmg := maxG_le (l := l) hg4
          have ew : wi (maxG l + 1) = maxG l + 1 := wi_id (by clear h7 hbf; omega) (by clear h7 hbf; omega)
          rw [hk0] at hw b3
          have hres : (withV evs l).1 = ⟨k0, maxG l + 1, (withV evs l).1.ls⟩ := by rw [← b3, ← b4]
          rw [h0, hres]
          rw [hw]
          simp only [go_sem, h7, hv, hbf, hc, List.length_map, ew]
          by_cases hj0 : js = []
          · rw [hj0] at hw
            have hls : (withV evs l).1.ls = [] := by
              have : (⟨k0, 0, []⟩ : Hist) = ⟨k0, 0, (withV evs l).1.ls⟩ := hw
              simpa using this.symm
            rw [if_pos hj0, hls]
            simp only [go_sem]
            refine ⟨S, Sub.set (Sub.set (Sub.set (Sub.set (Sub.set (Sub.refl _) y4 _) y7 _) yb _) y7 _) y4 _, ?_⟩
            exact Or.inl rfl
          · rw [if_neg hj0]
            simp only [go_sem]
            refine ⟨S, Sub.set (Sub.set (Sub.set (Sub.set (Sub.set (Sub.refl _) y4 _) y7 _) yb _) y7 _) y4 _, ?_⟩
            exact Or.inr rfl
end Go.Sk
end

-- WGd
section
namespace Go.Sk
open Go Go.Proofs

def forbV (evs : List Event) (l : List Grid) : Int :=
  if l = [] then 1
  else if l.any (fun g => !likeG g (l.headD zGrid)) = true then 9
  else if evs.any (fun e => !decide (e.k < 2305843009213693951)) = true then 7
  else 0
set_option maxHeartbeats 1000000 in
set_option maxRecDepth 8000 in
theorem ref15_forbids (evs : List Event) (l : List Grid) (hn : l.length ≤ 1000) (hne : evs.length < 1048576) (hs : ∀ g ∈ l, g.sd.length < 1048576) :
    Pure Tryz.prog 26 [.p (evsP evs), .p (.sl (l.map Grid.pv))] (i64 (forbV evs l)) := fun S => by
  refine callR_of Tryz.func26 rfl rfl (xc_ok (bitB 36970049341084410483) _ _ _ ?_)
  simp only [go_sem]
  by_cases hl0 : l = []
  · subst hl0
    have ha : forbV evs [] = 1 := by unfold forbV; rw [if_pos rfl]
    rw [ha]
    simp only [go_sem, List.map_nil, List.length_nil]
    (refine ⟨S, by (repeat (first | exact Sub.refl _ | refine Sub.setF ?_ (by first | assumption | simp only [*]) | refine Sub.setV ?_ (by first | assumption | simp only [*]))), ?_⟩); simp
  obtain ⟨g, r, rfl⟩ : ∃ g r, l = g :: r := by cases l with | nil => exact absurd rfl hl0 | cons a b => exact ⟨a, b, rfl⟩
  have hnl : 0 < (g :: r).length := by simp
  have hget0 : ((g :: r).map Grid.pv).getD 0 [] = g.pv := rfl
  obtain ⟨l, hl⟩ : ∃ l, g :: r = l := ⟨_, rfl⟩
  rw [hl] at hnl hget0 hn hs
  have hlb : (l.length == 0) = false := by rw [beq_eq_false_iff_ne]; omega
  have hhd : l.headD zGrid = g := by rw [← hl]; rfl
  have hlne : l ≠ [] := by rw [← hl]; simp
  rw [hl]
  simp only [go_sem, hlb]
  refine AWP.roam (ι := Nat) (fun j => j ≤ l.length ∧ ∀ x ∈ l.take j, likeG x g = true)
    (fun j => ⟨Env.get [(0, .p (evsP evs)), (1, .p (.sl (l.map Grid.pv))), (5, i64 j)], S, 66, []⟩) (fun j => l.length - j) 0 ⟨Nat.zero_le _, fun x hx => by simp at hx⟩ ?_ ?_
  · exact le_of (by simp only [go_sem] <;> rfl) (Sub.refl _) rfl rfl (by simp)
  rintro j ⟨hj, hall⟩ ih
  refine AWPH.step (xc_ok (bitB 36970049341084410483) _ _ _ ?_)
  by_cases cj : j < l.length
  · have hgj : l[j] ∈ l := List.getElem_mem cj
    have hqj : wi ((j : Int) + 1) = ((j + 1 : Nat) : Int) := wi_succ (show j < 4611686018427387904 by omega)
    have hal := ref15_alike l[j].sd g.sd (by have := hs _ hgj; omega)
    simp only [go_sem, cj, ltN' cj, getD_map' _ _ _ _ cj, List.length_map]
    refine AWP.draw2 (bitB 36970049341084410483) mixed (by kernel_rfl) (fun _ => bl (decide (l[j].sd = g.sd))) ?_
    have hlk : likeG l[j] g = (decide (l[j].w = g.w) && decide (l[j].all.k = g.all.k) && decide (l[j].sd = g.sd)) := rfl
    have hbad : likeG l[j] g = false → forbV evs l = 9 := fun hb => by
      unfold forbV
      rw [if_neg hlne, if_pos (List.any_eq_true.2 ⟨l[j], hgj, by rw [hhd, hb]; rfl⟩)]
    by_cases q1 : l[j].w = g.w
    rotate_left
    · have q1b : (l[j].w != g.w) = true := by simpa using q1
      have hb := hbad (by rw [hlk]; simp [q1])
      simp only [go_sem, q1b, cj, ltN' cj, getD_map' _ _ _ _ cj, hnl, hget0, Grid.pv, List.length_map]
      (refine ⟨S, by (repeat (first | exact Sub.refl _ | refine Sub.setF ?_ (by first | assumption | simp only [*]) | refine Sub.setV ?_ (by first | assumption | simp only [*]))), ?_⟩); rw [hb]; simp
    have q1b : (l[j].w != g.w) = false := by simpa using q1
    by_cases q2 : l[j].all.k = g.all.k
    rotate_left
    · have q2b : (l[j].all.k != g.all.k) = true := by simpa using q2
      have hb := hbad (by rw [hlk]; simp [q2])
      simp only [go_sem, q1b, q2b, cj, ltN' cj, getD_map' _ _ _ _ cj, hnl, hget0, Grid.pv, List.length_map]
      (refine ⟨S, by (repeat (first | exact Sub.refl _ | refine Sub.setF ?_ (by first | assumption | simp only [*]) | refine Sub.setV ?_ (by first | assumption | simp only [*]))), ?_⟩); rw [hb]; simp
    have q2b : (l[j].all.k != g.all.k) = false := by simpa using q2
    by_cases q3 : l[j].sd = g.sd
    rotate_left
    · have q3b : (!decide (l[j].sd = g.sd)) = true := by simp [q3]
      have hb := hbad (by rw [hlk]; simp [q3])
      simp only [go_sem, q1b, q2b, q3b, cj, ltN' cj, getD_map' _ _ _ _ cj, hnl, hget0, Grid.pv, List.length_map]
      refine ⟨hal.draw, ?_⟩
      (refine ⟨S, by (repeat (first | exact Sub.refl _ | refine Sub.setF ?_ (by first | assumption | simp only [*]) | refine Sub.setV ?_ (by first | assumption | simp only [*]))), ?_⟩); rw [hb]; simp
    have q3b : (!decide (l[j].sd = g.sd)) = false := by simp [q3]
    simp only [go_sem, q1b, q2b, q3b, cj, ltN' cj, getD_map' _ _ _ _ cj, hnl, hget0, Grid.pv, List.length_map]
    refine ⟨hal.draw, (ih (j + 1) ⟨cj, fun x hx => ?_⟩ (by omega)).back (by (repeat (first | exact Sub.refl _ | refine Sub.setF ?_ (by first | assumption | simp only [*]) | refine Sub.setV ?_ (by first | assumption | simp only [*])))) (by simp) ?_⟩
    · rw [List.take_succ_eq_append_getElem cj] at hx
      rcases List.mem_append.1 hx with hx | hx
      · exact hall x hx
      · obtain rfl := List.mem_singleton.1 hx; rw [hlk]; simp [q1, q2, q3]
    · simp only [go_sem, hqj]
  · obtain rfl : j = l.length := by omega
    rw [List.take_length] at hall
    have hany : ¬ l.any (fun g => !likeG g (l.headD zGrid)) = true := by
      rw [List.any_eq_true]
      rintro ⟨x, hx, hb⟩
      rw [hhd, hall x hx] at hb; simp at hb
    simp only [go_sem, cj, List.length_map]
    refine AWP.roam (ι := Nat) (fun j => j ≤ evs.length ∧ ∀ x ∈ evs.take j, x.k < 2305843009213693951)
      (fun j => ⟨Env.get [(0, .p (evsP evs)), (6, i64 j)], S, 66, []⟩) (fun j => evs.length - j) 0 ⟨Nat.zero_le _, fun x hx => by simp at hx⟩ ?_ ?_
    · exact le_of (by simp only [go_sem] <;> rfl) (Sub.refl _) rfl rfl (by simp)
    rintro j ⟨hj, hke⟩ jh
    refine AWPH.step (xc_ok (bitB 36970049341084410483) _ _ _ ?_)
    by_cases cj : j < evs.length
    · have hqj : wi ((j : Int) + 1) = ((j + 1 : Nat) : Int) := wi_succ (show j < 4611686018427387904 by omega)
      simp only [go_sem, cj, evsP, ltN' cj, getD_map' _ _ _ _ cj, List.length_map]
      refine (ref04_Key (evs[j]).k).useA ?_
      by_cases q : (evs[j]).k < 2305843009213693951
      · simp only [go_sem, q]
        refine (jh (j + 1) ⟨cj, fun x hx => ?_⟩ (by omega)).back (by (repeat (first | exact Sub.refl _ | refine Sub.setF ?_ (by first | assumption | simp only [*]) | refine Sub.setV ?_ (by first | assumption | simp only [*])))) (by simp) ?_
        · rw [List.take_succ_eq_append_getElem cj] at hx
          rcases List.mem_append.1 hx with hx | hx
          · exact hke x hx
          · obtain rfl := List.mem_singleton.1 hx; exact q
        · simp only [go_sem, hqj, evsP]
      · simp only [go_sem, q]
        have hb : forbV evs l = 7 := by
          unfold forbV
          rw [if_neg hlne, if_neg hany, if_pos (List.any_eq_true.2 ⟨evs[j], List.getElem_mem cj, by simp [q]⟩)]
        (refine ⟨S, by (repeat (first | exact Sub.refl _ | refine Sub.setF ?_ (by first | assumption | simp only [*]) | refine Sub.setV ?_ (by first | assumption | simp only [*]))), ?_⟩); rw [hb]; simp
    · obtain rfl : j = evs.length := by omega
      rw [List.take_length] at hke
      have hb : forbV evs l = 0 := by
        unfold forbV
        rw [if_neg hlne, if_neg hany, if_neg]
        rw [List.any_eq_true]
        rintro ⟨x, hx, hb⟩
        have := hke x hx
        simp at hb; omega
      simp only [go_sem, cj, evsP, List.length_map]
      (refine ⟨S, by (repeat (first | exact Sub.refl _ | refine Sub.setF ?_ (by first | assumption | simp only [*]) | refine Sub.setV ?_ (by first | assumption | simp only [*]))), ?_⟩); rw [hb]; simp
end Go.Sk
end
