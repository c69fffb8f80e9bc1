/- Texts W15p A22 A23 A23b W13p A14c A14d A23c A21 W15q, joined. -/
import Derived.Test.YtlbjacoigdpgfaaGreatW7
import Derived.Test.YtlbjacoigdpgfaaGreatW15i
import Derived.Test.YtlbjacoigdpgfaaGreatR16D
import Derived.Test.YtlbjacoigdpgfaaGreatW0
import Derived.Test.YtlbjacoigdpgfaaGreatR16C
import Derived.Test.YtlbjacoigdpgfaaGreatSkCr
set_option linter.unusedSimpArgs false
set_option linter.unusedVariables false
set_option linter.unusedSectionVars false
-- W15p
section
namespace Go.Sk
open Go Go.Proofs

/-- A grid without what is too old. -/
def dropGr (D : List (List Span) → List (List Span)) (g : Grid) : Grid := ⟨g.w, g.sd, g.rows.map (fun r => r.map (dropH D)), dropH D g.all⟩
structure Grid.Lo (g : Grid) : Prop where
  n : g.rows.length < 1048576
  w : ∀ r ∈ g.rows, r.length < 1048576
  all : g.all.ls.length < 1048576 ∧ ∀ l ∈ g.all.ls, l.length < 1048576
  hs : ∀ r ∈ g.rows, ∀ h ∈ r, h.ls.length < 1048576 ∧ ∀ l ∈ h.ls, l.length < 1048576

set_option maxHeartbeats 1000000 in
set_option maxRecDepth 8000 in
theorem ref15_Drop (g : Grid) (hg : g.Lo) (f w : Nat) : Pure Tryz.prog 116 [g.av, u64 f, u64 w] (dropGr (docD (oldV f w)) g).av := fun S => by
  have hnn := hg.n
  refine callR_of Tryz.func116 rfl rfl (xc_ok (bitB 34393294799) _ _ _ ?_)
  simp only [go_sem]
  refine alloc_intro fun c3 h3 => ?_
  simp only [go_sem]
  refine alloc_intro fun c6 h6 => ?_
  simp only [fresh_set] at h6
  simp only [go_sem, h6]
  refine AWP.draw2 (bitB 34393294799) mixed (by kernel_rfl) (fun j => (dropH (docD (oldV f w)) g.all).av) ?_
  simp only [go_sem, h6]
  refine ⟨(ref07_Drop g.all.k g.all.g g.all.ls f w hg.all.1 hg.all.2).draw, alloc_intro fun c7 h7 => ?_⟩
  simp only [fresh_set] at h7
  simp only [go_sem, h6, h7]
  obtain ⟨D, hD⟩ : ∃ D, docD (oldV f w) = D := ⟨_, rfl⟩
  rw [hD]
  refine AWP.tipB c7 2 1 (cs := [i64 g.w, .p (.sl (g.sd.map Seed.pv)), .nils, i64 g.all.k, i64 g.all.g, .p (.sl ((D g.all.ls).map lvE))]) (by simp only [go_sem, h7] <;> rfl) rfl fun kk hkk => ?_
  simp only [freshv_setr] at hkk
  simp only [List.set]
  have y3 : S (.r c3) = none := h3
  have y6 : S (.r c6) = none := h6.2
  have y7 : S (.r c7) = none := h7.2.2
  have yk : S (.v kk) = none := hkk
  obtain ⟨V, hV⟩ : ∃ V : Store, V = (S.set (.r c3) (.cells [i64 g.w, .p (.sl (g.sd.map Seed.pv)), .p (.sl (g.rows.map rowE)), i64 g.all.k, i64 g.all.g, .p (.sl (g.all.ls.map lvE))])).set (.r c6) (.cells [i64 0, .nils, .nils, i64 0, i64 0, .nils]) := ⟨_, rfl⟩
  have v3 : V (.r c3) = some (.cells [i64 g.w, .p (.sl (g.sd.map Seed.pv)), .p (.sl (g.rows.map rowE)), i64 g.all.k, i64 g.all.g, .p (.sl (g.all.ls.map lvE))]) := by rw [hV]; simp only [go_sem, h6]
  have v6 : V (.r c6) = some (.cells [i64 0, .nils, .nils, i64 0, i64 0, .nils]) := by rw [hV]; simp only [go_sem, h6]
  have v7 : V (.r c7) = none := by rw [hV]; simp only [go_sem, h7]; exact h7.2.2
  have vk : V (.v kk) = none := by rw [hV]; simp only [go_sem]; exact hkk
  have vS : Sub S V := by rw [hV]; exact Sub.set (Sub.set (Sub.refl _) y3 _) y6 _
  have n73 : ¬ c3 = c7 ∧ ¬ c7 = c3 := ⟨h7.2.1.2, h7.2.1.1⟩
  have n76 : ¬ c6 = c7 ∧ ¬ c7 = c6 := ⟨h7.1.2, h7.1.1⟩
  refine AWP.iterE (ι := Option Nat) (fun loc i => ⟨Env.get [(1, u64 f), (2, u64 w), (3, .sp c3 0), (6, .sp c6 0), (7, .sp c7 0), (8, i64 i)],
      (V.set (.v kk) (.tip 1 i loc)).set (.r c7) (.cells [i64 g.w, .p (.sl (g.sd.map Seed.pv)), .ts kk 1 loc (((g.rows.take i).map (fun r => r.map (dropH D))).map rowE), i64 g.all.k, i64 g.all.g, .p (.sl ((D g.all.ls).map lvE))]), 59, []⟩) g.rows.length none ?_ ?_ ?_
  · refine le_of (by simp only [go_sem] <;> simp) ?_ rfl rfl (by simp)
    rw [hV]
    ((try dsimp only); (repeat refine sub_set ?_ ?_) <;> first | ((repeat (first | exact Sub.refl _ | refine Sub.setF ?_ (by first | assumption | simp only [*]) | refine Sub.setV ?_ (by first | assumption | simp only [*]))); done) | (simp only [go_sem, h6, h7, hkk, List.take_zero, List.map_nil, dropH]; done) | (simp only [go_sem, h6, h7, hkk, List.take_zero, List.map_nil, dropH]; rfl) | rfl)
  · clear hV h6 h7 hkk
    intro i loc hi ih
    have hlen := hg.w _ (List.getElem_mem hi)
    refine AWPH.step (xc_ok (bitB 34393294799) _ _ _ ?_)
    simp only [go_sem, hi, ltN' hi, n73, v3, List.length_map]
    refine AWP.tip0 9 3 (by simp only [go_sem]) fun k2 hk2 => ?_
    simp only [freshv_setr, freshv_set] at hk2
    simp only [go_sem]
    have htl : (g.rows.take i).length = i := by rw [List.length_take]; omega
    have htl1 : (g.rows.take (i + 1)).length = i + 1 := by rw [List.length_take]; omega
    have hrow : List.map rowE (List.map (fun r => r.map (dropH D)) (g.rows.take i)) ++ [[.sl (((g.rows[i]).map (dropH D)).map Hist.cs)]] = List.map rowE (List.map (fun r => r.map (dropH D)) (g.rows.take (i + 1))) := by
      rw [List.take_succ_eq_append_getElem hi, List.map_append, List.map_append]; rfl
    have hq : wi ((i : Int) + 1) = ((i + 1 : Nat) : Int) := wi_succ (show i < 4611686018427387904 by omega)
    refine AWP.iterE (ι := Option Nat) (fun loc2 j => ⟨Env.get [(1, u64 f), (2, u64 w), (3, .sp c3 0), (6, .sp c6 0), (7, .sp c7 0), (8, i64 i), (9, .ts k2 3 loc2 ((((g.rows[i]).take j).map (dropH D)).map Hist.cs)), (10, i64 j)],
      ((V.set (.v kk) (.tip 1 i loc)).set (.r c7) (.cells [i64 g.w, .p (.sl (g.sd.map Seed.pv)), .ts kk 1 loc (((g.rows.take i).map (fun r => r.map (dropH D))).map rowE), i64 g.all.k, i64 g.all.g, .p (.sl ((D g.all.ls).map lvE))])).set (.v k2) (.tip 3 j loc2), 59, []⟩) (g.rows[i]).length none ?_ ?_ ?_
    · refine le_of (by simp only [go_sem, List.take_zero, List.map_nil] <;> rfl) ?_ rfl rfl (by simp)
      ((try dsimp only); (repeat refine sub_set ?_ ?_) <;> first | ((repeat (first | exact Sub.refl _ | refine Sub.setF ?_ (by first | assumption | simp only [*]) | refine Sub.setV ?_ (by first | assumption | simp only [*]))); done) | (simp only [go_sem, hk2]; done) | (simp only [go_sem, hk2]; rfl) | rfl)
    · intro j loc2 hj jh
      have hqj : wi ((j : Int) + 1) = ((j + 1 : Nat) : Int) := wi_succ (show j < 4611686018427387904 by omega)
      have htj : ((g.rows[i]).take j).length = j := by rw [List.length_take]; omega
      have htj1 : ((g.rows[i]).take (j + 1)).length = j + 1 := by rw [List.length_take]; omega
      have hcell : List.map Hist.cs (List.map (dropH D) ((g.rows[i]).take j)) ++ [[.int .i64 (g.rows[i][j]).k, .int .i64 (g.rows[i][j]).g, .sl ((D (g.rows[i][j]).ls).map lvE)]] = List.map Hist.cs (List.map (dropH D) ((g.rows[i]).take (j + 1))) := by
        rw [List.take_succ_eq_append_getElem hj, List.map_append, List.map_append]; rfl
      obtain ⟨q1, q2⟩ := hg.hs _ (List.getElem_mem hi) _ (List.getElem_mem hj)
      refine AWPH.step (xc_ok (bitB 34393294799) _ _ _ ?_)
      simp only [go_sem, hi, ltN' hi, n73, v3, List.length_map, getD_map' _ _ _ _ hi, rowE_mk, rowP, hj, ltN' hj, getD_map' _ _ _ _ hj]
      refine (ref07_Drop (g.rows[i][j]).k (g.rows[i][j]).g (g.rows[i][j]).ls f w q1 q2).useA ?_
      rw [hD]
      simp only [go_sem, hk2, htj, hcell]
      refine ⟨by rintro el rfl; rfl, hist_len, by omega, by omega, grow_intro fun loc' => ?_⟩
      simp only [go_sem, hk2, hcell]
      refine (jh loc').back ?_ (by simp) ?_
      · ((try dsimp only); (repeat refine sub_set ?_ ?_) <;> first | ((repeat (first | exact Sub.refl _ | refine Sub.setF ?_ (by first | assumption | simp only [*]) | refine Sub.setV ?_ (by first | assumption | simp only [*]))); done) | (simp only [go_sem, hk2, hcell, htj1, List.length_map]; done) | (simp only [go_sem, hk2, hcell, htj1, List.length_map]; rfl) | rfl)
      · simp only [go_sem, hqj]
    · intro loc2
      refine AWPH.step (xc_ok (bitB 34393294799) _ _ _ ?_)
      simp only [go_sem, hi, ltN' hi, n73, v3, vk, hk2, List.length_map, getD_map' _ _ _ _ hi, rowE_mk, rowP, List.take_length, htl, hrow]
      refine ⟨by rintro el rfl; rfl, row_len, by omega, by omega, grow_intro fun loc' => ?_⟩
      simp only [go_sem, n73, vk, hk2, hrow]
      refine (ih loc').back ?_ (by simp) ?_
      · ((try dsimp only); (repeat refine sub_set ?_ ?_) <;> first | ((repeat (first | exact Sub.refl _ | refine Sub.setF ?_ (by first | assumption | simp only [*]) | refine Sub.setV ?_ (by first | assumption | simp only [*]))); done) | (simp only [go_sem, n73, hk2, vk, htl1, hrow, List.length_map]; done) | (simp only [go_sem, n73, hk2, vk, htl1, hrow, List.length_map]; rfl) | rfl)
      · simp only [go_sem, hq]
  · intro loc
    refine AWPH.step (xc_ok (bitB 34393294799) _ _ _ ?_)
    simp only [go_sem, n73, v3, n76, v6, List.take_length, List.length_map]
    refine ⟨S, Sub.set (Sub.set (Sub.set vS yk _) y7 _) y6 _, ?_⟩
    simp [dropGr, dropH]
end Go.Sk
end

-- A22
section
namespace Go.Sk

structure Grid.Neat (g : Grid) : Prop where
  all : Tidy g.all.k.toNat g.all.ls
  hs : ∀ r ∈ g.rows, ∀ h ∈ r, Tidy h.k.toNat h.ls
theorem newV_neat (k w : Int) (sd : List Seed) : (newV k w sd).Neat := by
  refine ⟨empty_tidy _, fun r hr h hh => ?_⟩
  unfold newV at hr
  have := List.eq_of_mem_replicate hr
  subst this
  have := List.eq_of_mem_replicate hh
  subst this
  exact empty_tidy _
theorem rowsV_neat {g : Grid} (hg : g.Good) (hn : g.Neat) (e : Event) : ∀ i, i ≤ g.rows.length → (rowsV g e i).2 = 0 → ∀ r ∈ (rowsV g e i).1, ∀ h ∈ r, Tidy h.k.toNat h.ls := by
  intro i
  induction i with
  | zero => intro _ _; exact hn.hs
  | succ i ih =>
    intro hi h0
    have hse : rowsV g e (i + 1) = stepG g e i (rowsV g e i) := rfl
    unfold stepG at hse
    by_cases he : (rowsV g e i).2 = 0
    rotate_left
    · rw [if_neg he] at hse; rw [hse] at h0; exact absurd h0 he
    rw [if_pos he] at hse
    have h2 := ih (by omega) he
    obtain ⟨g1, g2⟩ := rowsV_good hg e i (by omega) he
    have hlt : i < (rowsV g e i).1.length := by rw [rowsV_len]; omega
    have hm : (rowsV g e i).1.getD i [] ∈ (rowsV g e i).1 := by
      rw [List.getD_eq_getElem?_getD, List.getElem?_eq_getElem hlt]; exact List.getElem_mem hlt
    have hc : colN g e.k i < ((rowsV g e i).1.getD i []).length := by rw [g1 _ hm]; exact colN_lt g hg.w1 _ _
    rw [hse] at h0 ⊢
    have hmm : ((rowsV g e i).1.getD i []).getD (colN g e.k i) zeroH ∈ (rowsV g e i).1.getD i [] := by
      generalize (rowsV g e i).1.getD i [] = rr at *
      rw [List.getD_eq_getElem?_getD, List.getElem?_eq_getElem hc]; exact List.getElem_mem hc
    have hgo := g2 _ hm _ hmm
    obtain ⟨_, k1, _, _⟩ := addH_good hgo e.t e.w h0
    have hT := (addH_tidy hgo (h2 _ hm _ hmm) e.t e.w h0).1
    intro r hr h hx
    rcases List.mem_or_eq_of_mem_set hr with hr | rfl
    · exact h2 r hr h hx
    · rcases List.mem_or_eq_of_mem_set hx with hx | rfl
      · exact h2 _ hm _ hx
      · rw [k1]; exact hT
theorem addG_neat {g : Grid} (hg : g.Good) (hn : g.Neat) (e : Event) (h : (addG g e).2 = 0) : (addG g e).1.Neat := by
  obtain ⟨h1, h2, h3⟩ := addG_ok h
  rw [h3]
  have h4 := rowsV_first g e _ h2
  refine ⟨?_, rowsV_neat hg hn e _ (Nat.le_refl _) h2⟩
  dsimp only
  rw [(addH_good hg.all _ _ h4).2.1]
  exact (addH_tidy hg.all hn.all e.t e.w h4).1
theorem drops_eq {g : Grid} (hg : g.Good) (hn : g.Neat) {o : Nat → Bool} (ho : Anti o) : dropGr (docD o) g = dropGr (dropG o) g := by
  unfold dropGr dropH
  rw [docD_eq ho hn.all hg.all.ne]
  congr 1
  apply List.map_congr_left
  intro r hr
  apply List.map_congr_left
  intro h hh
  rw [docD_eq ho (hn.hs r hr h hh) (hg.hs r hr h hh).ne]
theorem Grid.Good.lo {g : Grid} (h : g.Good) : g.Lo :=
  ⟨by have := h.n; omega, fun r hr => by have := h.wid r hr; have := h.w2; omega, ⟨by have := h.all.len; omega, fun l hl => by have := h.all.sm l hl; have := h.all.k1; omega⟩,
    fun r hr x hx => ⟨by have := (h.hs r hr x hx).len; omega, fun l hl => by have := (h.hs r hr x hx).sm l hl; have := (h.hs r hr x hx).k1; omega⟩⟩
theorem dropG_mem (o : Nat → Bool) : ∀ (ls : List (List Span)), (dropG o ls).length ≤ ls.length ∧ ∀ l ∈ dropG o ls, ∃ m ∈ ls, l.length ≤ m.length := by
  intro ls
  induction ls with
  | nil => exact ⟨Nat.le_refl _, fun l hl => (by cases hl)⟩
  | cons l r ih =>
    unfold dropG
    split
    · refine ⟨by simp; exact ih.1, fun x hx => ?_⟩
      rcases List.mem_cons.1 hx with rfl | hx
      · exact ⟨l, by simp, by simp⟩
      · obtain ⟨m, hm, hle⟩ := ih.2 x hx
        exact ⟨m, by simp [hm], hle⟩
    · exact ⟨by simp, fun x hx => by cases hx⟩
theorem dropH_small (o : Nat → Bool) {h : Hist} (g : h.Good) : (dropH (dropG o) h).Small := by
  have hm := dropG_mem o h.ls
  refine ⟨by have := g.len; have := hm.1; unfold dropH; dsimp only; omega, fun l hl => ?_⟩
  obtain ⟨m, hm2, hle⟩ := hm.2 l hl
  have := g.sm m hm2; have := g.k1; omega
theorem dropGr_small (o : Nat → Bool) {g : Grid} (h : g.Good) : (dropGr (dropG o) g).Small ∧ (dropGr (dropG o) g).Sz := by
  refine ⟨⟨by have := h.n; have := h.sd; unfold dropGr; dsimp only; omega, ⟨by have := h.n; simp [dropGr]; omega, fun r hr => ?_⟩, dropH_small o h.all⟩, ⟨by have := h.n; simp [dropGr]; omega, fun r hr => ?_⟩⟩
  · obtain ⟨r', hr', rfl⟩ := List.mem_map.1 hr
    refine ⟨by rw [List.length_map]; have := h.wid r' hr'; have := h.w2; omega, fun x hx => ?_⟩
    obtain ⟨y, hy, rfl⟩ := List.mem_map.1 hx
    exact dropH_small o (h.hs r' hr' y hy)
  · obtain ⟨r', hr', rfl⟩ := List.mem_map.1 hr
    rw [List.length_map]; have := h.wid r' hr'; have := h.w2; omega
end Go.Sk
end

-- A23
section
namespace Go.Sk

structure Ecm where (win : Nat) (b : Buf) (past : Grid)
  deriving DecidableEq
def zeroE : Ecm := ⟨0, zeroB, zeroG⟩
/-- Whose cell it is. -/
def inC (g : Grid) (i c : Nat) (e : Event) : Bool := decide (colN g e.k i = c)
noncomputable def passG (g : Grid) (out : List Event) : Grid := out.foldl (fun g e => (addG g e).1) g
noncomputable def passE (s : Ecm) (b : Buf) (out : List Event) : Ecm := ⟨s.win, b, dropGr (dropG (oldV b.front s.win)) (passG s.past out)⟩
/-- All, or a cell, and whose it is. -/
def Grid.At (g : Grid) (p : Event → Bool) (h : Hist) : Prop := (p = (fun _ => true) ∧ h = g.all) ∨ ∃ i c, i < g.rows.length ∧ c < g.w.toNat ∧ p = inC g i c ∧ h = cellOf g i c

theorem cell_get {g : Grid} (hw : ∀ r ∈ g.rows, r.length = g.w.toNat) {i c : Nat} (hi : i < g.rows.length) (hc : c < g.w.toNat) : ∃ h : c < (g.rows[i]).length, cellOf g i c = (g.rows[i])[c] := by
  have hlc : c < (g.rows[i]).length := by rw [hw _ (List.getElem_mem hi)]; exact hc
  refine ⟨hlc, ?_⟩
  unfold cellOf
  rw [show g.rows.getD i [] = g.rows[i] by simp [List.getD_eq_getElem?_getD, hi], show (g.rows[i]).getD c zeroH = (g.rows[i])[c] by simp [List.getD_eq_getElem?_getD, hlc]]
theorem Grid.Good.at' {g : Grid} (hg : g.Good) {p : Event → Bool} {h : Hist} (ha : g.At p h) : h.Good := by
  rcases ha with ⟨_, rfl⟩ | ⟨i, c, hi, hc, _, rfl⟩
  · exact hg.all
  · obtain ⟨hl, e⟩ := cell_get hg.wid hi hc
    rw [e]; exact hg.hs _ (List.getElem_mem hi) _ (List.getElem_mem hl)
/-- An event that is let in everywhere. -/
theorem addG_let {g : Grid} (hg : g.Good) {e : Event} (hk : e.k < 2305843009213693951) (hA : ∀ p h, g.At p h → p e = true → (addH h e.t e.w).2 = 0) :
    (addG g e).2 = 0 ∧ (addG g e).1.w = g.w ∧ (addG g e).1.sd = g.sd ∧ (addG g e).1.rows.length = g.rows.length ∧
    ∀ p h', (addG g e).1.At p h' → ∃ h, g.At p h ∧ h' = if p e = true then (addH h e.t e.w).1 else h := by
  have hr : ∀ m, m ≤ g.rows.length → (rowsV g e m).2 = 0 := by
    intro m
    induction m with
    | zero => intro _; exact hA _ _ (Or.inl ⟨rfl, rfl⟩) rfl
    | succ m ih =>
      intro hm
      have hse : rowsV g e (m + 1) = stepG g e m (rowsV g e m) := rfl
      unfold stepG at hse
      rw [if_pos (ih (by omega)), rowsV_later g e m m (Nat.le_refl _)] at hse
      rw [hse]
      exact hA (inC g m (colN g e.k m)) (cellOf g m (colN g e.k m)) (Or.inr ⟨m, _, by omega, colN_lt g hg.w1 _ _, rfl, rfl⟩) (by unfold inC; simp)
  have h0 := hr _ (Nat.le_refl _)
  have hAG : addG g e = (⟨g.w, g.sd, (rowsV g e g.rows.length).1, (addH g.all e.t e.w).1⟩, 0) := by
    unfold addG; rw [if_pos hk, if_pos h0]
  rw [hAG]
  dsimp only
  refine ⟨rfl, rfl, rfl, rowsV_len g e _, fun p h' ha => ?_⟩
  rcases ha with ⟨rfl, rfl⟩ | ⟨i, c, hi, hc, rfl, rfl⟩
  · exact ⟨_, Or.inl ⟨rfl, rfl⟩, by rw [if_pos rfl]⟩
  · dsimp only at hi hc ⊢
    rw [rowsV_len] at hi
    refine ⟨cellOf g i c, Or.inr ⟨i, c, hi, hc, rfl, rfl⟩, ?_⟩
    obtain ⟨a1, a2⟩ := rowsV_at g e _ (Nat.le_refl _) h0 i hi
    have hrl : (g.rows.getD i []).length = g.w.toNat := by
      rw [show g.rows.getD i [] = g.rows[i] by simp [List.getD_eq_getElem?_getD, hi]]; exact hg.wid _ (List.getElem_mem hi)
    show ((rowsV g e g.rows.length).1.getD i []).getD c zeroH = if inC g i c e = true then _ else _
    rw [a2]
    unfold inC
    by_cases hcc : colN g e.k i = c
    · subst hcc
      rw [if_pos (by simp), List.getD_eq_getElem?_getD, List.getElem?_set_self (by rw [hrl]; exact hc)]; rfl
    · rw [if_neg (by simpa using hcc), List.getD_eq_getElem?_getD, List.getElem?_set_ne hcc, ← List.getD_eq_getElem?_getD]; rfl

theorem sumE_filter (f : Event → Nat) (p : Event → Bool) : ∀ l : List Event, sumE f (l.filter p) = sumE (fun e => if p e = true then f e else 0) l := by
  intro l
  induction l with
  | nil => rfl
  | cons e r ih =>
    rw [sumE_cons, List.filter_cons]
    by_cases c : p e = true
    · rw [if_pos c, if_pos c, sumE_cons, ih]
    · rw [if_neg c, if_neg c, ih]; omega
theorem sumE_sub (f : Event → Nat) {l m : List Event} (h : l.Sublist m) : sumE f l ≤ sumE f m := by
  induction h with
  | slnil => exact Nat.le_refl _
  | cons a _ ih => rw [sumE_cons]; omega
  | cons_cons a _ ih => rw [sumE_cons, sumE_cons]; omega
theorem passV_cons (h : Hist) (e : Event) (r : List Event) : passV h (e :: r) = passV (addH h e.t e.w).1 r := rfl
/-- Events, one after the other. -/
theorem passG_ok : ∀ (out : List Event) (g : Grid) (f : Nat), g.Good → (∀ p h, g.At p h → Tidy h.k.toNat h.ls ∧ (∀ x ∈ flat h.ls, x.b ≤ f) ∧ totN 0 h.ls + sumE Event.w (out.filter p) ≤ 4503599627370496) → Srt out →
    (∀ e ∈ out, f ≤ e.t ∧ e.t ≤ 9223372036854775807 ∧ 1 ≤ e.w ∧ e.k < 2305843009213693951) →
    (passG g out).Good ∧ (passG g out).w = g.w ∧ (passG g out).sd = g.sd ∧ (passG g out).rows.length = g.rows.length ∧
    ∀ p h', (passG g out).At p h' → ∃ h, g.At p h ∧ h' = passV h (out.filter p) := by
  intro out
  induction out with
  | nil => intro g f hg _ _ _; exact ⟨hg, rfl, rfl, rfl, fun p h' ha => ⟨h', ha, rfl⟩⟩
  | cons e r ih =>
    intro g f hg hT hs he
    unfold Srt at hs
    rw [List.pairwise_cons] at hs
    obtain ⟨e1, e2, e3, e4⟩ := he e (by simp)
    have hlet : ∀ p h, g.At p h → p e = true → (addH h e.t e.w).2 = 0 ∧ ∀ x ∈ flat (addH h e.t e.w).1.ls, x.b ≤ e.t := fun p h ha hp => by
      obtain ⟨t1, t2, t3⟩ := hT p h ha
      rw [List.filter_cons_of_pos hp, sumE_cons] at t3
      exact addH_let t1 e2 e3 (fun x hx => Nat.le_trans (t2 x hx) e1) (by omega)
    obtain ⟨a1, a2, a3, a4, a5⟩ := addG_let hg e4 fun p h ha hp => (hlet p h ha hp).1
    obtain ⟨i1, i2, i3, i4, i5⟩ := ih (addG g e).1 e.t (addG_good hg e a1) (fun p h' ha => by
      obtain ⟨h, ha0, rfl⟩ := a5 p h' ha
      obtain ⟨t1, t2, t3⟩ := hT p h ha0
      by_cases hp : p e = true
      · rw [if_pos hp]
        rw [List.filter_cons_of_pos hp, sumE_cons] at t3
        obtain ⟨l1, l2⟩ := hlet p h ha0 hp
        obtain ⟨_, b2, _, b4⟩ := addH_good (hg.at' ha0) e.t e.w l1
        refine ⟨?_, l2, by omega⟩
        rw [b2]; exact (addH_tidy (hg.at' ha0) t1 e.t e.w l1).1
      · rw [if_neg hp]
        rw [List.filter_cons_of_neg hp] at t3
        exact ⟨t1, fun x hx => Nat.le_trans (t2 x hx) e1, t3⟩) hs.2 (fun x hx => ⟨hs.1 x hx, (he x (by simp [hx])).2⟩)
    refine ⟨i1, i2.trans a2, i3.trans a3, i4.trans a4, fun p h' ha => ?_⟩
    obtain ⟨h1, ha1, rfl⟩ := i5 p h' ha
    obtain ⟨h, ha0, rfl⟩ := a5 p h1 ha1
    refine ⟨h, ha0, ?_⟩
    by_cases hp : p e = true
    · rw [if_pos hp, List.filter_cons_of_pos hp, passV_cons]
    · rw [if_neg hp, List.filter_cons_of_neg hp]

theorem dropGr_good (o : Nat → Bool) {g : Grid} (h : g.Good) : (dropGr (dropG o) g).Good := by
  refine ⟨h.w1, h.w2, by unfold dropGr; simp; exact h.n, by unfold dropGr; simp; exact h.sd, fun r hr => ?_, dropH_good h.all, fun r hr x hx => ?_, h.so⟩
  · obtain ⟨r', hr', rfl⟩ := List.mem_map.1 hr
    rw [List.length_map]; exact h.wid r' hr'
  · obtain ⟨r', hr', rfl⟩ := List.mem_map.1 hr
    obtain ⟨y, hy, rfl⟩ := List.mem_map.1 hx
    exact dropH_good (h.hs r' hr' y hy)
theorem dropGr_at (o : Nat → Bool) {g : Grid} (hg : g.Good) {p : Event → Bool} {h' : Hist} (ha : (dropGr (dropG o) g).At p h') : ∃ h, g.At p h ∧ h' = dropH (dropG o) h := by
  rcases ha with ⟨rfl, rfl⟩ | ⟨i, c, hi, hc, rfl, rfl⟩
  · exact ⟨_, Or.inl ⟨rfl, rfl⟩, rfl⟩
  · have hi' : i < g.rows.length := by unfold dropGr at hi; simpa using hi
    refine ⟨cellOf g i c, Or.inr ⟨i, c, hi', hc, rfl, rfl⟩, ?_⟩
    obtain ⟨hl, e⟩ := cell_get hg.wid hi' hc
    obtain ⟨hl2, e2⟩ := cell_get (dropGr_good o hg).wid hi hc
    rw [e, e2]
    simp [dropGr]

/-- What is told of a cell alone, as a sketch by itself. -/
def Ecm.cut (s : Ecm) (p : Event → Bool) (h : Hist) : Skt := ⟨s.win, ⟨s.b.late, s.b.room, s.b.mark, s.b.front, s.b.evs.filter p⟩, h⟩
structure Ecm.Good (s : Ecm) : Prop where
  at' : ∀ p h, s.past.At p h → (s.cut p h).Good
  pg : s.past.Good
  n1 : 1 ≤ s.past.rows.length
  kk : ∀ p h, s.past.At p h → h.k = s.past.all.k
  ky : ∀ e ∈ s.b.evs, e.k < 2305843009213693951
def Ecm.Led (s : Ecm) (all : List Event) : Prop := ∀ p h, s.past.At p h → (s.cut p h).Led (all.filter p)
theorem Ecm.Good.top {s : Ecm} (hg : s.Good) : (Skt.mk s.win s.b s.past.all).Good := by
  have h := hg.at' _ _ (Or.inl ⟨rfl, rfl⟩)
  unfold Ecm.cut at h
  rw [List.filter_eq_self.2 (fun _ _ => rfl)] at h
  exact h
theorem Srt.filter {l : List Event} (h : Srt l) (p : Event → Bool) : Srt (l.filter p) := List.Pairwise.sublist (List.filter_sublist) h
/-- Passed on. -/
theorem passE_ok {s : Ecm} (hg : s.Good) {b' : Buf} {out evs : List Event} (q1 : b'.late = s.b.late) (q2 : b'.room = s.b.room) (q3 : s.b.mark ≤ b'.mark) (q3' : b'.mark ≤ 9223372036854775807) (q4 : s.b.front ≤ b'.front) (q5 : b'.front ≤ b'.mark)
    (q6 : evs = out ++ b'.evs) (q7 : ∀ e ∈ out, e.t ≤ b'.front) (q8 : ∀ e ∈ b'.evs, b'.front < e.t) (q9 : Srt out) (q10 : Srt b'.evs) (q11 : b'.evs.length ≤ b'.room.toNat)
    (hev : ∀ e ∈ evs, s.b.front ≤ e.t ∧ e.t ≤ b'.mark ∧ 1 ≤ e.w ∧ e.k < 2305843009213693951) (htot : ∀ p h, s.past.At p h → totN 0 h.ls + sumE Event.w (evs.filter p) ≤ 4503599627370496) :
    (passE s b' out).Good ∧ (passE s b' out).past.all.k = s.past.all.k ∧ (∀ i, (passG s.past (out.take i)).Good ∧ (passG s.past (out.take i)).Neat) ∧
    (∀ all new, s.Led all → (∀ p f, sumE f (evs.filter p) = sumE f (s.b.evs.filter p) + sumE f (new.filter p)) → (passE s b' out).Led (all ++ new)) := by
  have hpre : ∀ o' : List Event, o'.Sublist out → (passG s.past o').Good ∧ (passG s.past o').rows.length = s.past.rows.length ∧ (∀ p h', (passG s.past o').At p h' → ∃ h, s.past.At p h ∧ h' = passV h (o'.filter p)) ∧ (passG s.past o').Neat := by
    intro o' ho
    have hsl : ∀ p h, s.past.At p h → Tidy h.k.toNat h.ls ∧ (∀ x ∈ flat h.ls, x.b ≤ s.b.front) ∧ totN 0 h.ls + sumE Event.w (o'.filter p) ≤ 4503599627370496 := fun p h ha => by
      have h1 := hg.at' p h ha
      have h2 := htot p h ha
      have h3 : sumE Event.w (o'.filter p) ≤ sumE Event.w (evs.filter p) := by
        refine sumE_sub _ (List.Sublist.filter _ ?_)
        rw [q6]; exact ho.trans (List.sublist_append_left _ _)
      exact ⟨h1.pt, h1.pf, by omega⟩
    have hev' : ∀ e ∈ o', s.b.front ≤ e.t ∧ e.t ≤ 9223372036854775807 ∧ 1 ≤ e.w ∧ e.k < 2305843009213693951 := fun e he => by
      have h1 := hev e (by rw [q6]; exact List.mem_append_left _ (ho.subset he))
      exact ⟨h1.1, by omega, h1.2.2⟩
    have hso : Srt o' := List.Pairwise.sublist ho q9
    obtain ⟨i1, i2, i3, i4, i5⟩ := passG_ok o' s.past s.b.front hg.pg hsl hso hev'
    refine ⟨i1, i4, i5, ?_⟩
    have ht : ∀ p h', (passG s.past o').At p h' → Tidy h'.k.toNat h'.ls := fun p h' ha => by
      obtain ⟨h, ha0, rfl⟩ := i5 p h' ha
      obtain ⟨t1, t2, t3⟩ := hsl p h ha0
      exact (pass_ok (o'.filter p) h s.b.front (hg.pg.at' ha0) t1 t2 (hso.filter p) (fun e he => by have := hev' e ((List.mem_filter.1 he).1); exact ⟨this.1, this.2.1, this.2.2.1⟩) t3).2.1
    refine ⟨ht _ _ (Or.inl ⟨rfl, rfl⟩), fun r hr x hx => ?_⟩
    obtain ⟨i, hi, rfl⟩ := List.mem_iff_getElem.1 hr
    obtain ⟨c, hc, rfl⟩ := List.mem_iff_getElem.1 hx
    have hc' : c < (passG s.past o').w.toNat := by rw [← i1.wid _ (List.getElem_mem hi)]; exact hc
    obtain ⟨_, ec⟩ := cell_get i1.wid hi hc'
    rw [← ec]
    exact ht _ _ (Or.inr ⟨i, c, hi, hc', rfl, rfl⟩)
  obtain ⟨p1, p2, p3, _⟩ := hpre out (List.Sublist.refl _)
  have hslot : ∀ p h', (passE s b' out).past.At p h' → ∃ h, s.past.At p h ∧ (passE s b' out).cut p h' = passK (s.cut p h) ⟨b'.late, b'.room, b'.mark, b'.front, b'.evs.filter p⟩ (out.filter p) ∧
      (passK (s.cut p h) ⟨b'.late, b'.room, b'.mark, b'.front, b'.evs.filter p⟩ (out.filter p)).past = h' := fun p h' ha => by
    obtain ⟨h1, ha1, rfl⟩ := dropGr_at _ p1 ha
    obtain ⟨h, ha0, rfl⟩ := p3 p h1 ha1
    exact ⟨h, ha0, rfl, rfl⟩
  have hgen : ∀ p h, (ha0 : s.past.At p h) → _ := fun p h ha0 => passK_gen (hg.at' p h ha0) (b' := ⟨b'.late, b'.room, b'.mark, b'.front, b'.evs.filter p⟩) (out := out.filter p) (evs := evs.filter p) q1 q2 q3 q3' q4 q5 (by rw [q6, List.filter_append])
      (fun e he => q7 e ((List.mem_filter.1 he).1)) (fun e he => q8 e ((List.mem_filter.1 he).1)) (q9.filter p) (q10.filter p) (Nat.le_trans (List.length_filter_le _ _) q11)
      (fun e he => by have := hev e ((List.mem_filter.1 he).1); exact ⟨this.1, this.2.1, this.2.2.1⟩) (htot p h ha0)
  have hk : ∀ p h', (passE s b' out).past.At p h' → h'.k = s.past.all.k := fun p h' ha => by
    obtain ⟨h, ha0, _, e⟩ := hslot p h' ha
    have := (hgen p h ha0).2.1
    rw [e] at this
    exact this.trans (hg.kk p h ha0)
  refine ⟨⟨fun p h' ha => ?_, dropGr_good _ p1, ?_, fun p h' ha => ?_, fun e he => ?_⟩, hk _ _ (Or.inl ⟨rfl, rfl⟩), fun i => ?_, fun all new hl hn p h' ha => ?_⟩
  · obtain ⟨h, ha0, e, _⟩ := hslot p h' ha
    rw [e]; exact (hgen p h ha0).1
  · show 1 ≤ (dropGr _ _).rows.length
    unfold dropGr; simp only [List.length_map]; rw [p2]; exact hg.n1
  · rw [hk p h' ha]; exact (hk _ _ (Or.inl ⟨rfl, rfl⟩)).symm
  · exact (hev e (by rw [q6]; exact List.mem_append_right _ he)).2.2.2
  · obtain ⟨a, _, _, b⟩ := hpre (out.take i) (List.take_sublist _ _)
    exact ⟨a, b⟩
  · obtain ⟨h, ha0, e, _⟩ := hslot p h' ha
    rw [e, List.filter_append]
    exact (hgen p h ha0).2.2.2.2 _ _ (hl p h ha0) (fun f => hn p f)
end Go.Sk
end

-- A23b
section
namespace Go.Sk

def cellW (g : Grid) (evs : List Event) (i c : Nat) : Nat := totN 0 (cellOf g i c).ls + sumE Event.w (evs.filter (inC g i c))
/-- Is it not too heavy? -/
def lightG (g : Grid) (evs : List Event) : Bool :=
  decide (totN 0 g.all.ls + sumE Event.w evs ≤ 4503599627370496) && (List.range g.rows.length).all fun i => (List.range g.w.toNat).all fun c => decide (cellW g evs i c ≤ 4503599627370496)
theorem light_iff {g : Grid} {evs : List Event} : lightG g evs = true ↔ ∀ p h, g.At p h → totN 0 h.ls + sumE Event.w (evs.filter p) ≤ 4503599627370496 := by
  unfold lightG
  simp only [Bool.and_eq_true, decide_eq_true_eq, List.all_eq_true, List.mem_range]
  constructor
  · rintro ⟨h1, h2⟩ p h (⟨rfl, rfl⟩ | ⟨i, c, hi, hc, rfl, rfl⟩)
    · rw [List.filter_eq_self.2 (fun _ _ => rfl)]; exact h1
    · exact h2 i hi c hc
  · intro h
    refine ⟨?_, fun i hi c hc => h _ _ (Or.inr ⟨i, c, hi, hc, rfl, rfl⟩)⟩
    have := h _ _ (Or.inl ⟨rfl, rfl⟩)
    rwa [List.filter_eq_self.2 (fun _ _ => rfl)] at this
noncomputable def addE (s : Ecm) (e : Event) : Ecm × Int :=
  if e.k < 2305843009213693951 then
    if (pushB s.b e).2 = 0 then (if lightG s.past (s.b.evs ++ [e]) = true then (passE s (pushB s.b e).1.1 (pushB s.b e).1.2, 0) else (zeroE, 5)) else (zeroE, (pushB s.b e).2)
  else (zeroE, 7)
noncomputable def moveE (s : Ecm) (t : Nat) : Ecm × Int := if (moveB s.b t).2 = 0 then (passE s (moveB s.b t).1.1 (moveB s.b t).1.2, 0) else (zeroE, (moveB s.b t).2)
/-- A deed. -/
noncomputable def oneE (s : Ecm) (e : Event) : Ecm × Int := if e.w = 0 then moveE s e.t else addE s e
/-- What passing on needs. -/
def PreE (s : Ecm) (out : List Event) : Prop := ∀ i, (passG s.past (out.take i)).Good ∧ (passG s.past (out.take i)).Neat

theorem moveE_ok {s : Ecm} (hg : s.Good) (t : Nat) (hm : (moveB s.b t).2 = 0) :
    (passE s (moveB s.b t).1.1 (moveB s.b t).1.2).Good ∧ (passE s (moveB s.b t).1.1 (moveB s.b t).1.2).past.all.k = s.past.all.k ∧ PreE s (moveB s.b t).1.2 ∧
    ∀ all, s.Led all → (passE s (moveB s.b t).1.1 (moveB s.b t).1.2).Led all := by
  unfold moveB at hm ⊢
  by_cases ht : 9223372036854775807 < t
  · rw [if_pos ht] at hm; simp at hm
  rw [if_neg ht]
  dsimp only
  have hT := hg.top
  have hmk := hT.mkk
  have hfm := hT.fm
  dsimp only at hmk hfm
  obtain ⟨q1, q2, q3, q4, q5, q6, q7, q8, q9, q10, q11⟩ := settleB_ok (b := ⟨s.b.late, s.b.room, max s.b.mark t, s.b.front, s.b.evs⟩) hT.sr (by dsimp only; omega) (fun e he => by have := hT.ev e he; dsimp only at this ⊢; omega)
  dsimp only at q1 q2 q3 q4 q5 q6 q7 q8 q9 q10 q11
  obtain ⟨r1, r2, r3, r4⟩ := passE_ok hg (b' := (settleB ⟨s.b.late, s.b.room, max s.b.mark t, s.b.front, s.b.evs⟩).1) q1 q2 (by omega) (by omega) q4 (by omega) q6 q7 q8 q9 q10 (by rw [q2]; exact q11)
    (fun e he => by have := hT.ev e he; have := hg.ky e he; dsimp only at *; omega) (fun p h ha => (hg.at' p h ha).tot)
  refine ⟨r1, r2, r3, fun all hl => ?_⟩
  have := r4 all [] hl (fun p f => by rw [List.filter_nil, sumE_nil, Nat.add_zero])
  rwa [List.append_nil] at this
theorem addE_ok {s : Ecm} (hg : s.Good) (e : Event) (hk : e.k < 2305843009213693951) (hm : (pushB s.b e).2 = 0) (hh : lightG s.past (s.b.evs ++ [e]) = true) :
    (passE s (pushB s.b e).1.1 (pushB s.b e).1.2).Good ∧ (passE s (pushB s.b e).1.1 (pushB s.b e).1.2).past.all.k = s.past.all.k ∧ PreE s (pushB s.b e).1.2 ∧ e.w ≤ 4503599627370496 ∧
    ∀ all, s.Led all → (passE s (pushB s.b e).1.1 (pushB s.b e).1.2).Led (all ++ [e]) := by
  have hli := light_iff.1 hh
  unfold pushB at hm ⊢
  by_cases hw : e.w = 0
  · rw [if_pos hw] at hm; simp at hm
  rw [if_neg hw] at hm ⊢
  by_cases ht : 9223372036854775807 < e.t
  · rw [if_pos ht] at hm; simp at hm
  rw [if_neg ht] at hm ⊢
  by_cases hf : e.t < s.b.front
  · rw [if_pos hf] at hm; simp at hm
  rw [if_neg hf]
  dsimp only
  have hT := hg.top
  have hmk := hT.mkk
  have hfm := hT.fm
  dsimp only at hmk hfm
  have hin : ∀ x ∈ insE s.b.evs e, s.b.front ≤ x.t ∧ x.t ≤ max s.b.mark e.t ∧ 1 ≤ x.w ∧ x.k < 2305843009213693951 := fun x hx => by
    rcases insE_mem.1 hx with rfl | hx
    · omega
    · have := hT.ev x hx; have := hg.ky x hx; dsimp only at *; omega
  have hsf : ∀ (p : Event → Bool) f, sumE f ((insE s.b.evs e).filter p) = sumE f (s.b.evs.filter p) + sumE f (([e] : List Event).filter p) := fun p f => by
    rw [sumE_filter, sumE_ins, sumE_filter, sumE_filter, sumE_cons, sumE_nil, Nat.add_zero]
  obtain ⟨q1, q2, q3, q4, q5, q6, q7, q8, q9, q10, q11⟩ := settleB_ok (b := ⟨s.b.late, s.b.room, max s.b.mark e.t, s.b.front, insE s.b.evs e⟩) (insE_srt hT.sr e) (by dsimp only; omega) (fun x hx => by have := hin x hx; dsimp only; omega)
  dsimp only at q1 q2 q3 q4 q5 q6 q7 q8 q9 q10 q11
  have hap : ∀ p h, s.past.At p h → totN 0 h.ls + sumE Event.w ((insE s.b.evs e).filter p) ≤ 4503599627370496 := fun p h ha => by
    have := hli p h ha
    rw [List.filter_append, sumE_app] at this
    rw [hsf]; exact this
  obtain ⟨r1, r2, r3, r4⟩ := passE_ok hg (b' := (settleB ⟨s.b.late, s.b.room, max s.b.mark e.t, s.b.front, insE s.b.evs e⟩).1) q1 q2 (by omega) (by omega) q4 (by omega) q6 q7 q8 q9 q10 (by rw [q2]; exact q11)
    (fun x hx => by have := hin x hx; omega) hap
  refine ⟨r1, r2, r3, ?_, fun all hl => r4 all [e] hl hsf⟩
  have := hli _ _ (Or.inl ⟨rfl, rfl⟩)
  rw [List.filter_eq_self.2 (fun _ _ => rfl), sumE_app, sumE_cons] at this
  omega
/-- A deed that is done. -/
theorem oneE_ok {s : Ecm} (hg : s.Good) (e : Event) (h0 : (oneE s e).2 = 0) : (oneE s e).1.Good ∧ (oneE s e).1.past.all.k = s.past.all.k ∧ e.w ≤ 4503599627370496 ∧
    ∀ all, s.Led all → (oneE s e).1.Led (if 0 < e.w then all ++ [e] else all) := by
  unfold oneE at h0 ⊢
  by_cases hw : e.w = 0
  · rw [if_pos hw] at h0 ⊢
    unfold moveE at h0 ⊢
    by_cases hm : (moveB s.b e.t).2 = 0
    rotate_left
    · rw [if_neg hm] at h0; exact absurd h0 hm
    rw [if_pos hm]
    obtain ⟨r1, r2, r3, r4⟩ := moveE_ok hg e.t hm
    refine ⟨r1, r2, by omega, fun all hl => ?_⟩
    rw [if_neg (by omega)]; exact r4 all hl
  · rw [if_neg hw] at h0 ⊢
    unfold addE at h0 ⊢
    by_cases hk : e.k < 2305843009213693951
    rotate_left
    · rw [if_neg hk] at h0; simp at h0
    rw [if_pos hk] at h0 ⊢
    by_cases hm : (pushB s.b e).2 = 0
    rotate_left
    · rw [if_neg hm] at h0; exact absurd h0 hm
    rw [if_pos hm] at h0 ⊢
    by_cases hh : lightG s.past (s.b.evs ++ [e]) = true
    rotate_left
    · rw [if_neg hh] at h0; simp at h0
    rw [if_pos hh]
    obtain ⟨r1, r2, r3, r4, r5⟩ := addE_ok hg e hk hm hh
    refine ⟨r1, r2, r4, fun all hl => ?_⟩
    rw [if_pos (by omega)]; exact r5 all hl
/-- An empty one. -/
def newE (k : Int) (w : Int) (sd : List Seed) (win late : Nat) (room : Int) : Ecm := ⟨win, ⟨late, room, 0, 0, []⟩, newV k w sd⟩
theorem newV_at {k w : Int} {sd : List Seed} {p : Event → Bool} {h : Hist} (ha : (newV k w sd).At p h) : h = emptyH k := by
  rcases ha with ⟨_, rfl⟩ | ⟨i, c, hi, hc, _, rfl⟩
  · rfl
  · unfold cellOf newV at *
    dsimp only at *
    simp only [List.length_replicate] at hi
    rw [List.getD_eq_getElem?_getD, List.getD_eq_getElem?_getD, List.getElem?_replicate, if_pos hi]
    simp only [Option.getD_some]
    rw [List.getElem?_replicate, if_pos hc]; rfl
theorem newE_good {k w : Int} {sd : List Seed} {win late : Nat} {room : Int} (hV : (newV k w sd).Good) (h0 : 1 ≤ sd.length) (h1 : 2 ≤ k) (h2 : k ≤ 1024) (h3 : 1 ≤ win) (h4 : win ≤ 4611686018427387904) (h5 : late ≤ 4611686018427387904) (h6 : 1 ≤ room) (h7 : room ≤ 1024) :
    (newE k w sd win late room).Good ∧ (newE k w sd win late room).Led [] := by
  refine ⟨⟨fun p h ha => ?_, hV, by unfold newE newV; simp; exact h0, fun p h ha => ?_, fun e he => (by cases he)⟩, fun p h ha => ?_⟩
  · rw [newV_at ha]
    exact ⟨h3, h4, h5, h6, h7, Nat.zero_le _, Nat.zero_le _, fun e he => (by cases he), List.Pairwise.nil, Nat.zero_le _, emptyH_good h1 h2, empty_tidy _, fun x hx => (by cases hx), Nat.zero_le _⟩
  · rw [newV_at ha]; rfl
  · rw [newV_at ha]
    exact ⟨[], fun f => rfl, fun W _ _ => ⟨Nat.le_refl _, Nat.le_refl _⟩, fun e he => (by cases he)⟩
noncomputable def madeEo : List Event → Ecm → List Event → Ecm × List Event
  | [], s, all => (s, all)
  | e :: r, s, all => if (oneE s e).2 = 0 then madeEo r (oneE s e).1 (if 0 < e.w then all ++ [e] else all) else madeEo r s all
theorem madeEo_ok : ∀ (l : List Event) (s : Ecm) (all : List Event), s.Good → s.Led all → (madeEo l s all).1.Good ∧ (madeEo l s all).1.Led (madeEo l s all).2 ∧ (madeEo l s all).1.past.all.k = s.past.all.k ∧
    (madeEo l s all).2.length ≤ all.length + l.length ∧ ((∀ e ∈ all, e.w ≤ 4503599627370496) → ∀ e ∈ (madeEo l s all).2, e.w ≤ 4503599627370496) ∧ (∀ e ∈ (madeEo l s all).2, e ∈ all ∨ e ∈ l) := by
  intro l
  induction l with
  | nil => intro s all hg hl; exact ⟨hg, hl, rfl, Nat.le_refl _, fun h => h, fun e he => Or.inl he⟩
  | cons e r ih =>
    intro s all hg hl
    unfold madeEo
    by_cases c : (oneE s e).2 = 0
    · rw [if_pos c]
      obtain ⟨o1, o2, o4, o5⟩ := oneE_ok hg e c
      obtain ⟨i1, i2, i3, i5, i6, i7⟩ := ih _ _ o1 (o5 all hl)
      refine ⟨i1, i2, i3.trans o2, ?_, fun h => i6 fun x hx => ?_, fun x hx => ?_⟩
      · refine Nat.le_trans i5 ?_
        split <;> simp <;> omega
      · split at hx
        · rcases List.mem_append.1 hx with hx | hx
          · exact h x hx
          · simp only [List.mem_singleton] at hx; subst hx; exact o4
        · exact h x hx
      · rcases i7 x hx with hx | hx
        · split at hx
          · rcases List.mem_append.1 hx with hx | hx
            · exact Or.inl hx
            · simp only [List.mem_singleton] at hx; subst hx; exact Or.inr (by simp)
          · exact Or.inl hx
        · exact Or.inr (by simp [hx])
    · rw [if_neg c]
      obtain ⟨i1, i2, i3, i5, i6, i7⟩ := ih s all hg hl
      refine ⟨i1, i2, i3, by simp only [List.length_cons]; omega, i6, fun x hx => ?_⟩
      rcases i7 x hx with hx | hx
      · exact Or.inl hx
      · exact Or.inr (by simp [hx])
end Go.Sk
end

-- W13p
section
namespace Go.Sk

structure Event.Ok (e : Event) : Prop where
  t : e.t < 18446744073709551616
  k : e.k < 18446744073709551616
  w : e.w < 18446744073709551616
noncomputable def withinV (tick span : Nat) (e : Event) : Bool := decide (e.t ≤ tick) && (decide (span > tick) || decide (e.t > sub64 tick span))

noncomputable def sumV (p : Event → Bool) (q : Event → Nat) (n : Nat) (l : List Event) : Nat := l.foldl (fun n e => if p e = true then m64 (n + q e) else n) n
theorem sumV_snoc (p : Event → Bool) (q : Event → Nat) (n : Nat) (l : List Event) (i : Nat) (hi : i < l.length) : sumV p q n (l.take (i + 1)) = if p l[i] = true then m64 (sumV p q n (l.take i) + q l[i]) else sumV p q n (l.take i) := by
  unfold sumV; rw [List.take_succ_eq_append_getElem hi, List.foldl_append]; rfl

noncomputable def spanV (l : List Event) (tick span : Nat) : Nat := sumV (withinV tick span) Event.w 0 l

end Go.Sk
end

-- A14c
section
namespace Go.Sk

noncomputable def wtT (tick span : Nat) (e : Event) : Nat := if e.t ≤ tick ∧ inW tick span e.t = true then e.w else 0
theorem within_eq (tick span : Nat) (e : Event) : withinV tick span e = true ↔ (e.t ≤ tick ∧ inW tick span e.t = true) := by
  unfold withinV inW
  simp only [Bool.and_eq_true, decide_eq_true_eq, Bool.or_eq_true, gt_iff_lt]
theorem spanV_eq (tick span : Nat) : ∀ (l : List Event) (n : Nat), n + sumE (wtT tick span) l < 18446744073709551616 → sumV (withinV tick span) Event.w n l = n + sumE (wtT tick span) l := by
  intro l
  induction l with
  | nil => intro n _; rfl
  | cons e r ih =>
    intro n h
    rw [sumE_cons] at h ⊢
    show sumV _ _ (if withinV tick span e = true then m64 (n + e.w) else n) r = _
    unfold wtT at h ⊢
    by_cases c : withinV tick span e = true
    · rw [if_pos ((within_eq tick span e).1 c)] at h ⊢
      rw [if_pos c, m64_id (by omega), ih _ (by unfold wtT; omega)]; unfold wtT; omega
    · rw [if_neg (fun h => c ((within_eq tick span e).2 h))] at h ⊢
      rw [if_neg c, ih _ (by unfold wtT; omega)]; unfold wtT; omega
theorem wtT_le (tick span : Nat) (e : Event) : wtT tick span e ≤ e.w := by unfold wtT; split <;> omega
theorem sumE_congr {f g : Event → Nat} {l : List Event} (h : ∀ e ∈ l, f e = g e) : sumE f l = sumE g l := by
  unfold sumE; rw [List.map_congr_left h]
theorem win_old {front win tick span : Nat} (h1 : front ≤ tick) (h2 : tick ≤ 9223372036854775807) (h3 : span ≤ win) : ∀ x, oldV front win x = true → inW tick span x = false := by
  intro x hx
  unfold oldV at hx
  unfold inW
  simp only [Bool.and_eq_true, decide_eq_true_eq] at hx
  rw [sub64_eq' hx.1 (by omega)] at hx
  rw [sub64_eq' (f := tick) (by omega) (by omega)]
  simp only [Bool.or_eq_false_iff, decide_eq_false_iff_not]
  omega
/-- What a query tells, in plain numbers. -/
theorem told_eq {s : Skt} (hg : s.Good) (tick span : Nat) : spanV s.b.evs tick span = sumE (wtT tick span) s.b.evs ∧ estV s.past.ls tick span + spanV s.b.evs tick span ≤ 4503599627370496 ∧
    estV s.past.ls tick span = loL (inW tick span) 0 s.past.ls + (hiL (inW tick span) 0 s.past.ls - loL (inW tick span) 0 s.past.ls) / 2 := by
  have h1 := sumE_le (wtT_le tick span) s.b.evs
  have ht := hg.tot
  have e1 : spanV s.b.evs tick span = sumE (wtT tick span) s.b.evs := by
    unfold spanV; rw [spanV_eq _ _ _ _ (by omega), Nat.zero_add]
  obtain ⟨g1, g2, g3⟩ := est_eq hg.pt.val (by have := hg.pg.len; omega) hg.pg.tot tick span
  have g4 := hiL_le_tot (inW tick span) s.past.ls 0
  refine ⟨e1, by omega, g1⟩
theorem count_bound {s : Skt} (hg : s.Good) {all : List Event} (hl : s.Led all) {tick span : Nat} (h1 : s.b.front ≤ tick) (h2 : tick ≤ 9223372036854775807) (h3 : span ≤ s.win) :
    ∃ E, estV s.past.ls tick span + spanV s.b.evs tick span = E ∧ E ≤ 4503599627370496 ∧
      (s.past.k.toNat - 1) * sumE (wtT tick span) all ≤ s.past.k.toNat * E ∧ s.past.k.toNat * E ≤ (s.past.k.toNat + 1) * sumE (wtT tick span) all := by
  obtain ⟨e1, e2, e3⟩ := told_eq hg tick span
  obtain ⟨P, l1, l2, l3⟩ := hl
  obtain ⟨b1, b2⟩ := l2 _ (inW_mono tick span) (win_old h1 h2 h3)
  have hP : sumE (wtT tick span) P = sumE (wt (inW tick span)) P := sumE_congr fun e he => by
    have := l3 e he
    unfold wtT wt
    by_cases c : inW tick span e.t = true
    · rw [if_pos ⟨by omega, c⟩, if_pos c]
    · rw [if_neg (fun h => c h.2), if_neg c]
  have hA := l1 (wtT tick span)
  rw [hP] at hA
  have hk : 2 ≤ s.past.k.toNat := by have := hg.pg.k0; omega
  obtain ⟨c1, c2⟩ := est_bound hk hg.pt _ (inW_mono tick span) b1 b2
  rw [← e3] at c1 c2
  refine ⟨_, rfl, e2, ?_, ?_⟩
  · rw [hA, e1]
    have m1 : (s.past.k.toNat - 1) * (sumE (wt (inW tick span)) P + sumE (wtT tick span) s.b.evs) = (s.past.k.toNat - 1) * sumE (wt (inW tick span)) P + (s.past.k.toNat - 1) * sumE (wtT tick span) s.b.evs := Nat.mul_add _ _ _
    have m2 : s.past.k.toNat * (estV s.past.ls tick span + sumE (wtT tick span) s.b.evs) = s.past.k.toNat * estV s.past.ls tick span + s.past.k.toNat * sumE (wtT tick span) s.b.evs := Nat.mul_add _ _ _
    have := Nat.mul_le_mul_right (sumE (wtT tick span) s.b.evs) (show s.past.k.toNat - 1 ≤ s.past.k.toNat by omega)
    omega
  · rw [hA, e1]
    have m1 : (s.past.k.toNat + 1) * (sumE (wt (inW tick span)) P + sumE (wtT tick span) s.b.evs) = (s.past.k.toNat + 1) * sumE (wt (inW tick span)) P + (s.past.k.toNat + 1) * sumE (wtT tick span) s.b.evs := Nat.mul_add _ _ _
    have m2 : s.past.k.toNat * (estV s.past.ls tick span + sumE (wtT tick span) s.b.evs) = s.past.k.toNat * estV s.past.ls tick span + s.past.k.toNat * sumE (wtT tick span) s.b.evs := Nat.mul_add _ _ _
    have := Nat.mul_le_mul_right (sumE (wtT tick span) s.b.evs) (show s.past.k.toNat ≤ s.past.k.toNat + 1 by omega)
    omega

/-- An empty one. -/
def newK (k : Int) (win late : Nat) (room : Int) : Skt := ⟨win, ⟨late, room, 0, 0, []⟩, ⟨k, 0, []⟩⟩
theorem newK_good {k : Int} {win late : Nat} {room : Int} (h1 : 2 ≤ k) (h2 : k ≤ 1024) (h3 : 1 ≤ win) (h4 : win ≤ 4611686018427387904) (h5 : late ≤ 4611686018427387904) (h6 : 1 ≤ room) (h7 : room ≤ 1024) : (newK k win late room).Good ∧ (newK k win late room).Led [] :=
  ⟨⟨h3, h4, h5, h6, h7, Nat.zero_le _, Nat.zero_le _, fun e he => (by cases he), List.Pairwise.nil, Nat.zero_le _, ⟨h1, h2, fun l hl => (by cases hl), fun l hl => (by cases hl), Nat.zero_le _⟩, empty_tidy _, fun x hx => (by cases hx), Nat.zero_le _⟩,
   ⟨[], fun f => rfl, fun W _ _ => ⟨Nat.le_refl _, Nat.le_refl _⟩, fun e he => (by cases he)⟩⟩
noncomputable def madeKo : List Event → Skt → List Event → Skt × List Event
  | [], s, all => (s, all)
  | e :: r, s, all => if (oneK s e).2 = 0 then madeKo r (oneK s e).1 (if 0 < e.w then all ++ [e] else all) else madeKo r s all
noncomputable def madeK (k : Int) (n0 n1 : Nat) (l : List Event) : Skt × List Event := madeKo (l.take 30) (newK (2 + max k 0 % 30) (1 + n0 % 1000) (n1 % 100) (1 + (n1 % 7 : Nat))) []
theorem madeKo_ok : ∀ (l : List Event) (s : Skt) (all : List Event), s.Good → s.Led all → (madeKo l s all).1.Good ∧ (madeKo l s all).1.Led (madeKo l s all).2 ∧ (madeKo l s all).1.past.k = s.past.k ∧ (madeKo l s all).1.win = s.win ∧
    (madeKo l s all).2.length ≤ all.length + l.length ∧ ((∀ e ∈ all, e.w ≤ 4503599627370496) → ∀ e ∈ (madeKo l s all).2, e.w ≤ 4503599627370496) := by
  intro l
  induction l with
  | nil => intro s all hg hl; exact ⟨hg, hl, rfl, rfl, Nat.le_refl _, fun h => h⟩
  | cons e r ih =>
    intro s all hg hl
    unfold madeKo
    by_cases c : (oneK s e).2 = 0
    · rw [if_pos c]
      obtain ⟨o1, o2, o3, o4, o5⟩ := oneK_ok hg e c
      obtain ⟨i1, i2, i3, i4, i5, i6⟩ := ih _ _ o1 (o5 all hl)
      refine ⟨i1, i2, i3.trans o2, i4.trans o3, ?_, fun h => i6 fun x hx => ?_⟩
      · refine Nat.le_trans i5 ?_
        split <;> simp <;> omega
      · split at hx
        · rcases List.mem_append.1 hx with hx | hx
          · exact h x hx
          · simp only [List.mem_singleton] at hx; subst hx; exact o4
        · exact h x hx
    · rw [if_neg c]
      obtain ⟨i1, i2, i3, i4, i5, i6⟩ := ih s all hg hl
      exact ⟨i1, i2, i3, i4, by simp only [List.length_cons]; omega, i6⟩
end Go.Sk
end

-- A14d
section
namespace Go.Sk

structure Pre (s : Skt) (out : List Event) : Prop where
  good : ∀ i, i ≤ out.length → (passV s.past (out.take i)).Good
  tidy : Tidy (passV s.past out).k.toNat (passV s.past out).ls
  len : out.length < 1048576
  w : ∀ e ∈ out, e.w < 18446744073709551616
theorem mem_sumE (f : Event → Nat) {l : List Event} {e : Event} (h : e ∈ l) : f e ≤ sumE f l := by
  induction l with
  | nil => cases h
  | cons x r ih =>
    rw [sumE_cons]
    rcases List.mem_cons.1 h with rfl | h
    · omega
    · have := ih h; omega
theorem passK_pre {s : Skt} (hg : s.Good) {b : Buf} (hb1 : b.late = s.b.late) (hb2 : b.room = s.b.room) (hb3 : b.front = s.b.front) (hb4 : s.b.mark ≤ b.mark) (hb5 : b.mark ≤ 9223372036854775807) (hs : Srt b.evs)
    (hev : ∀ e ∈ b.evs, s.b.front ≤ e.t ∧ e.t ≤ b.mark ∧ 1 ≤ e.w) (htot : totN 0 s.past.ls + sumE Event.w b.evs ≤ 4503599627370496) (hl : b.evs.length < 1048576) : Pre s (settleB b).2 := by
  have hfm := hg.fm
  obtain ⟨q1, q2, q3, q4, q5, q6, q7, q8, q9, q10, q11⟩ := settleB_ok hs (by omega) (fun e he => (hev e he).2.1)
  generalize settleB b = R at *
  obtain ⟨b', out⟩ := R
  dsimp only at q6 q7 q9 ⊢
  have hout : ∀ e ∈ out, s.b.front ≤ e.t ∧ e.t ≤ 9223372036854775807 ∧ 1 ≤ e.w := fun e he => by
    have h1 := hev e (by rw [q6]; exact List.mem_append_left _ he)
    exact ⟨h1.1, by omega, h1.2.2⟩
  have hsum : sumE Event.w b.evs = sumE Event.w out + sumE Event.w b'.evs := by rw [q6, sumE_app]
  have hlen : b.evs.length = out.length + b'.evs.length := by rw [q6, List.length_append]
  obtain ⟨p1, p2, _⟩ := pass_ok out s.past s.b.front hg.pg hg.pt hg.pf q9 hout (by omega)
  refine ⟨fun i hi => ?_, p2, by omega, fun e he => by have := mem_sumE Event.w he; omega⟩
  have hsp := sumE_split Event.w out i
  exact (pass_ok (out.take i) s.past s.b.front hg.pg hg.pt hg.pf (q9.take i) (fun e he => hout e (List.mem_of_mem_take he)) (by omega)).1
theorem move_pre {s : Skt} (hg : s.Good) (t : Nat) (h : (moveB s.b t).2 = 0) : Pre s (moveB s.b t).1.2 := by
  unfold moveB at h ⊢
  by_cases ht : 9223372036854775807 < t
  · rw [if_pos ht] at h; simp at h
  rw [if_neg ht]
  have hmk := hg.mkk
  have hln := hg.len
  have hr2 := hg.r2
  exact passK_pre hg (b := ⟨s.b.late, s.b.room, max s.b.mark t, s.b.front, s.b.evs⟩) rfl rfl rfl (by dsimp only; omega) (by dsimp only; omega) hg.sr
    (fun x hx => by have := hg.ev x hx; dsimp only; omega) hg.tot (by dsimp only; omega)
theorem push_pre {s : Skt} (hg : s.Good) (e : Event) (h : (pushB s.b e).2 = 0) (hh : ¬ 4503599627370496 < totN 0 s.past.ls + sumE Event.w s.b.evs + e.w) : Pre s (pushB s.b e).1.2 := by
  unfold pushB at h ⊢
  by_cases hw : e.w = 0
  · rw [if_pos hw] at h; simp at h
  rw [if_neg hw] at h ⊢
  by_cases ht : 9223372036854775807 < e.t
  · rw [if_pos ht] at h; simp at h
  rw [if_neg ht] at h ⊢
  by_cases hf : e.t < s.b.front
  · rw [if_pos hf] at h; simp at h
  rw [if_neg hf]
  have hmk := hg.mkk
  have hln := hg.len
  have hr2 := hg.r2
  have hse := sumE_ins Event.w s.b.evs e
  have hil := insE_len s.b.evs e
  exact passK_pre hg (b := ⟨s.b.late, s.b.room, max s.b.mark e.t, s.b.front, insE s.b.evs e⟩) rfl rfl rfl (by dsimp only; omega) (by dsimp only; omega) (insE_srt hg.sr e)
    (fun x hx => by
      dsimp only at hx ⊢
      rcases insE_mem.1 hx with rfl | hx
      · omega
      · have := hg.ev x hx; omega) (by dsimp only; omega) (by dsimp only; omega)
/-- The weight of what waits. -/
theorem weight_eq : ∀ (l : List Event) (n : Nat), n + sumE Event.w l < 18446744073709551616 → sumV (fun _ => true) Event.w n l = n + sumE Event.w l := by
  intro l
  induction l with
  | nil => intro n _; rfl
  | cons e r ih =>
    intro n h
    rw [sumE_cons] at h ⊢
    show sumV _ _ (if true = true then m64 (n + e.w) else n) r = _
    rw [if_pos rfl, m64_id (by omega), ih _ (by omega)]; omega
theorem Skt.Good.wt {s : Skt} (hg : s.Good) : totV s.past.ls = totN 0 s.past.ls ∧ sumV (fun _ => true) Event.w 0 s.b.evs = sumE Event.w s.b.evs := by
  have := hg.tot
  refine ⟨totV_eq (by omega), ?_⟩
  rw [weight_eq _ _ (by omega), Nat.zero_add]
/-- What a query tells. -/
noncomputable def queryK (s : Skt) (tick span : Nat) : Nat × Int :=
  if tick < s.b.front ∨ 9223372036854775807 < tick then (0, 6) else if span = 0 ∨ s.win < span then (0, 8) else (m64 (estV s.past.ls tick span + spanV s.b.evs tick span), 0)
def sumU (l : List Nat) : Nat := l.sum
end Go.Sk
end

-- A23c
section
namespace Go.Sk

structure PassOk (s : Ecm) (out : List Event) : Prop where
  len : out.length < 1048576
  ok : ∀ e ∈ out, e.Ok
  pre : PreE s out
theorem Ecm.Good.evOk {s : Ecm} (hg : s.Good) : ∀ e ∈ s.b.evs, e.Ok := fun e he => by
  have hT := hg.top
  have h1 := hT.ev e he
  have h2 := hT.mkk
  have h3 := hT.tot
  have h4 := mem_sumE Event.w he
  have h5 := hg.ky e he
  dsimp only at h1 h2 h3
  constructor <;> omega
theorem Ecm.Good.evLen {s : Ecm} (hg : s.Good) : s.b.evs.length ≤ 1024 := by
  have hT := hg.top
  have h1 := hT.len
  have h2 := hT.r2
  have h3 := hT.r1
  dsimp only at h1 h2 h3
  omega
theorem move_passOk {s : Ecm} (hg : s.Good) (t : Nat) (h : (moveB s.b t).2 = 0) : PassOk s (moveB s.b t).1.2 := by
  obtain ⟨_, _, r3, _⟩ := moveE_ok hg t h
  have hl := hg.evLen
  refine ⟨?_, fun e he => ?_, r3⟩
  · unfold moveB
    split
    · simp
    · unfold settleB; dsimp only; rw [List.length_take]; omega
  · unfold moveB at he
    split at he
    · cases he
    · unfold settleB at he; exact hg.evOk e (List.mem_of_mem_take he)
theorem add_passOk {s : Ecm} (hg : s.Good) (e : Event) (he : e.Ok) (hk : e.k < 2305843009213693951) (hm : (pushB s.b e).2 = 0) (hh : lightG s.past (s.b.evs ++ [e]) = true) : PassOk s (pushB s.b e).1.2 := by
  obtain ⟨_, _, r3, _⟩ := addE_ok hg e hk hm hh
  have hl := hg.evLen
  have hi := insE_len s.b.evs e
  refine ⟨?_, fun x hx => ?_, r3⟩
  · unfold pushB
    split
    · simp
    split
    · simp
    split
    · simp
    · unfold settleB; dsimp only; rw [List.length_take]; omega
  · unfold pushB at hx
    split at hx
    · cases hx
    split at hx
    · cases hx
    split at hx
    · cases hx
    · unfold settleB at hx
      rcases insE_mem.1 (List.mem_of_mem_take hx) with rfl | h
      · exact he
      · exact hg.evOk x h
theorem passG_snoc (g : Grid) (out : List Event) (i : Nat) (h : i < out.length) : passG g (out.take (i + 1)) = (addG (passG g (out.take i)) out[i]).1 := by
  rw [List.take_succ_eq_append_getElem h]; unfold passG; rw [List.foldl_append]; rfl
end Go.Sk
end

-- A21
section
namespace Go.Sk
open Go Go.Proofs

open Classical in
/-- A store in which the rows' blocks are as given. -/
noncomputable def rowsS (E : Store) (w : Nat) (rb : List (Nat × Nat)) (rows : List (List Hist)) : Store := fun k =>
  if h : ∃ i, ∃ hi : i < rb.length, k = .r (rb[i]).1 then some (rowB w ((rb.getD h.choose (0, 0)).2) (rows.getD h.choose [])) else E k
def NoDup (rb : List (Nat × Nat)) : Prop := ∀ i j (hi : i < rb.length) (hj : j < rb.length), (rb[i]).1 = (rb[j]).1 → i = j
theorem rowsS_at {E : Store} {w : Nat} {rb : List (Nat × Nat)} {rows : List (List Hist)} (nd : NoDup rb) {i : Nat} (hi : i < rb.length) : rowsS E w rb rows (.r (rb[i]).1) = some (rowB w (rb[i]).2 (rows.getD i [])) := by
  have h : ∃ j, ∃ hj : j < rb.length, Key.r (rb[i]).1 = .r (rb[j]).1 := ⟨i, hi, rfl⟩
  unfold rowsS
  rw [dif_pos h]
  obtain ⟨hj, he⟩ := h.choose_spec
  have : i = h.choose := nd _ _ hi hj (by injection he)
  rw [← this]
  simp [List.getD_eq_getElem?_getD, hi]
theorem rowsS_ne {E : Store} {w : Nat} {rb : List (Nat × Nat)} {rows : List (List Hist)} {k : Key} (h : ∀ i (hi : i < rb.length), k ≠ .r (rb[i]).1) : rowsS E w rb rows k = E k := by
  unfold rowsS
  rw [dif_neg]
  rintro ⟨i, hi, e⟩
  exact h i hi e
theorem rowsS_set {E : Store} {w : Nat} {rb : List (Nat × Nat)} {rows : List (List Hist)} (nd : NoDup rb) {i : Nat} (hi : i < rb.length) (hl : i < rows.length) (r : List Hist) :
    (rowsS E w rb rows).set (.r (rb[i]).1) (rowB w (rb[i]).2 r) = rowsS E w rb (rows.set i r) := by
  funext k
  by_cases e : k = .r (rb[i]).1
  · subst e
    rw [Store.set_same, rowsS_at nd hi]
    simp [List.getD_eq_getElem?_getD, hl]
  · rw [Store.set_other _ _ e]
    by_cases h : ∃ j, ∃ hj : j < rb.length, k = .r (rb[j]).1
    · obtain ⟨j, hj, rfl⟩ := h
      rw [rowsS_at nd hj, rowsS_at nd hj]
      have : ¬ i = j := by rintro rfl; exact e rfl
      simp [List.getD_eq_getElem?_getD, List.getElem?_set, this]
    · rw [rowsS_ne (fun j hj e2 => h ⟨j, hj, e2⟩), rowsS_ne (fun j hj e2 => h ⟨j, hj, e2⟩)]

/-- The first k cells are changed. -/
def rowsK (F : Hist → Hist) (w : Nat) (rows : List (List Hist)) (k : Nat) : List (List Hist) := rows.mapIdx (fun i r => r.mapIdx (fun c h => if i * w + c < k then F h else h))
theorem rowsK_len (F : Hist → Hist) (w : Nat) (rows : List (List Hist)) (k : Nat) : (rowsK F w rows k).length = rows.length := by simp [rowsK]
theorem rowsK_getD (F : Hist → Hist) (w : Nat) (rows : List (List Hist)) (k : Nat) {i : Nat} (hi : i < rows.length) : (rowsK F w rows k).getD i [] = (rows[i]).mapIdx (fun c h => if i * w + c < k then F h else h) := by
  simp [rowsK, List.getD_eq_getElem?_getD, hi]
theorem rowsK_zero (F : Hist → Hist) (w : Nat) (rows : List (List Hist)) : rowsK F w rows 0 = rows := by
  apply List.ext_getElem (by simp [rowsK])
  intro i h1 h2
  simp only [rowsK, List.getElem_mapIdx]
  apply List.ext_getElem (by simp)
  intro j h3 h4
  simp
theorem rowsK_all (F : Hist → Hist) (w : Nat) (rows : List (List Hist)) (hw : ∀ r ∈ rows, r.length = w) : rowsK F w rows (rows.length * w) = rows.map (fun r => r.map F) := by
  apply List.ext_getElem (by simp [rowsK])
  intro i h1 h2
  rw [rowsK_len] at h1
  simp only [rowsK, List.getElem_mapIdx, List.getElem_map]
  have hl := hw _ (List.getElem_mem h1)
  apply List.ext_getElem (by simp)
  intro j h3 h4
  simp only [List.length_mapIdx] at h3
  simp only [List.getElem_mapIdx, List.getElem_map]
  rw [if_pos]
  have : (i + 1) * w ≤ rows.length * w := Nat.mul_le_mul_right _ h1
  rw [Nat.add_mul] at this; omega
theorem cell_lt {w i j a b : Nat} (hj : j < w) (hb : b < w) (h : a * w + b = i * w + j) : a = i ∧ b = j := by
  have h1 : (a * w + b) / w = a := by rw [Nat.mul_comm, Nat.mul_add_div (by omega), Nat.div_eq_of_lt hb, Nat.add_zero]
  have h2 : (i * w + j) / w = i := by rw [Nat.mul_comm, Nat.mul_add_div (by omega), Nat.div_eq_of_lt hj, Nat.add_zero]
  have : a = i := by rw [← h1, h, h2]
  subst this
  exact ⟨rfl, by omega⟩
theorem cell_div {w i j : Nat} (hj : j < w) : (i * w + j) / w = i ∧ (i * w + j) % w = j := by
  refine ⟨?_, ?_⟩
  · rw [Nat.mul_comm, Nat.mul_add_div (by omega), Nat.div_eq_of_lt hj, Nat.add_zero]
  · rw [Nat.mul_comm, Nat.mul_add_mod, Nat.mod_eq_of_lt hj]
theorem rowsK_step (F : Hist → Hist) (w : Nat) (rows : List (List Hist)) (hw : ∀ r ∈ rows, r.length = w) {i j : Nat} (hi : i < rows.length) (hj : j < w) :
    rowsK F w rows (i * w + j + 1) = (rowsK F w rows (i * w + j)).set i (((rowsK F w rows (i * w + j)).getD i []).set j (F ((rows[i])[j]'(by rw [hw _ (List.getElem_mem hi)]; exact hj)))) := by
  rw [rowsK_getD F w rows _ hi]
  apply List.ext_getElem (by simp [rowsK])
  intro a h1 h2
  rw [rowsK_len] at h1
  have hl := hw _ (List.getElem_mem h1)
  by_cases e : a = i
  · subst e
    rw [List.getElem_set_self]
    simp only [rowsK, List.getElem_mapIdx]
    apply List.ext_getElem (by simp)
    intro b h3 h4
    simp only [List.length_mapIdx] at h3
    simp only [List.getElem_mapIdx, List.getElem_set]
    by_cases eb : j = b
    · subst eb; simp
    · rw [if_neg eb]
      by_cases c : a * w + b < a * w + j
      · rw [if_pos (by omega), if_pos c]
      · rw [if_neg (by omega), if_neg c]
  · rw [List.getElem_set_ne (Ne.symm e)]
    simp only [rowsK, List.getElem_mapIdx]
    apply List.ext_getElem (by simp)
    intro b h3 h4
    simp only [List.length_mapIdx] at h3
    simp only [List.getElem_mapIdx]
    have : ¬ a * w + b = i * w + j := fun h => e (cell_lt hj (by omega) h).1
    by_cases c : a * w + b < i * w + j
    · rw [if_pos (by omega), if_pos c]
    · rw [if_neg (by omega), if_neg c]
/-- The cell that is changed next is as it was. -/
theorem rowsK_cell (F : Hist → Hist) (w : Nat) (rows : List (List Hist)) (hw : ∀ r ∈ rows, r.length = w) {i j : Nat} (hi : i < rows.length) (hj : j < w) :
    ∃ h : j < ((rowsK F w rows (i * w + j)).getD i []).length, ((rowsK F w rows (i * w + j)).getD i [])[j] = (rows[i])[j]'(by rw [hw _ (List.getElem_mem hi)]; exact hj) := by
  have hl := hw _ (List.getElem_mem hi)
  refine ⟨by rw [rowsK_getD F w rows _ hi]; simp [hl, hj], ?_⟩
  simp only [rowsK_getD F w rows _ hi, List.getElem_mapIdx]
  rw [if_neg (by omega)]
end Go.Sk
end

-- W15q
section
namespace Go.Sk
open Go Go.Proofs

theorem grid_cells (g : Grid) (bo n : Nat) (S : Store) : CallR Tryz.prog 123 [.agg (gridM g bo n)] S
    (fun r S' => ∃ b, Fresh S b ∧ r = .fn (.func 147) [] [.sp b 0] ∧ S' = S.set (.r b) (.cells (gridM g bo n))) := by
  refine callR_of Tryz.func123 rfl rfl (xc_ok (bitB 7) _ _ _ ?_)
  simp only [go_sem, gridM]
  refine alloc_intro fun b hb => ?_
  simp only [go_sem]
  exact ⟨_, Sub.refl _, Or.inl ⟨b, hb, rfl, rfl⟩⟩

def itemsC (w : Nat) (rb : List (Nat × Nat)) : Nat → List AV := fun k => [.sp (rb.getD (k / w) (0, 0)).1 (k % w * 3)]
set_option maxHeartbeats 1000000 in
set_option maxRecDepth 4000 in
theorem grid_cells1 (w n : Nat) (rb : List (Nat × Nat)) (hw : 1 ≤ w) (hw2 : w < 1048576) (hn : rb.length = n) (hn2 : n < 1048576) {T0 : Store} {b bo : Nat} {a0 a1 a3 a4 a5 : AV} (h1 : T0 (.r b) = some (.cells [a0, a1, .ms bo 1 0 n n, a3, a4, a5]))
    (h2 : T0 (.r bo) = some (.cells (rb.map (rowM w) ++ zcs [.nils] 0))) :
    SeqR Tryz.prog 147 [] [.sp b 0] T0 (n * w) (itemsC w rb) := by
  intro l J Jx hy E hd h0
  simp only [List.nil_append, List.singleton_append]
  refine callR_of Tryz.func147 rfl rfl (xc_ok (bitB 8505267) _ _ _ ?_)
  simp only [go_sem, h1]
  refine AWP.roam (ι := Nat × Store) (fun x => x.1 ≤ n ∧ Disj T0 x.2 ∧ J (x.1 * w) x.2)
    (fun x => ⟨Env.get [(0, .fn (.yield l) [] []), (1, .sp b 0), (7, .ms bo 1 0 n n), (8, i64 n), (9, i64 x.1)], Store.join x.2 T0, 26, []⟩) (fun x => n - x.1) (0, E) ⟨by simp, hd, by simpa using h0⟩ ?_ ?_
  · exact le_of (by simp only [go_sem] <;> rfl) (Sub.refl _) rfl rfl (by simp)
  · rintro ⟨i, E⟩ ⟨hi, hd, hJ⟩ ih
    dsimp only at hi hd hJ ⊢
    refine AWPH.step (xc_ok (bitB 8505267) _ _ _ ?_)
    by_cases c : i < n
    rotate_left
    · obtain rfl : i = n := by omega
      simp only [go_sem, c]
      exact ⟨_, Sub.refl _, Or.inl ⟨E, rfl, hd, Or.inl hJ⟩⟩
    have hir : i < rb.length := by omega
    have hget : (List.map (rowM w) rb ++ zcs [AV.nils] 0).getD (i * 1) AV.top = .ms (rb[i]).1 3 0 w (rb[i]).2 := by
      rw [Nat.mul_one]; simp [List.getD_eq_getElem?_getD, List.getElem?_append_left, hir, rowM]
    simp only [go_sem, c, h2, hget]
    refine ⟨by rw [List.length_append, List.length_map]; omega, ?_⟩
    refine AWP.roam (ι := Nat × Store) (fun x => x.1 ≤ w ∧ Disj T0 x.2 ∧ J (i * w + x.1) x.2)
      (fun x => ⟨Env.get [(0, .fn (.yield l) [] []), (1, .sp b 0), (4, .ms (rb[i]).1 3 0 w (rb[i]).2), (7, .ms bo 1 0 n n), (8, i64 n), (9, i64 i), (14, i64 w), (15, i64 x.1)], Store.join x.2 T0, 26, []⟩) (fun x => w - x.1) (0, E) ⟨by simp, hd, hJ⟩ ?_ ?_
    · exact le_of (by simp only [go_sem] <;> simp) (Sub.refl _) rfl rfl (by simp)
    · rintro ⟨j, E⟩ ⟨hj, hd, hJ⟩ jh
      dsimp only at hj hd hJ ⊢
      refine AWPH.step (xc_ok (bitB 8505267) _ _ _ ?_)
      by_cases cj : j < w
      rotate_left
      · obtain rfl : j = w := by omega
        simp only [go_sem, cj]
        refine (ih (i + 1, E) ⟨c, hd, by rw [Nat.add_mul, Nat.one_mul]; exact hJ⟩ (by dsimp only; omega)).back (Sub.refl _) (by simp) ?_
        simp only [go_sem, wi_succ (show i < 4611686018427387904 by omega)]
      have hkk : i * w + j < n * w := by
        have : (i + 1) * w ≤ n * w := Nat.mul_le_mul_right _ c
        rw [Nat.add_mul, Nat.one_mul] at this; omega
      have hyi := hy _ hkk E T0 (Sub.refl T0) hd hJ
      simp only [itemsC, (cell_div cj).1, (cell_div cj).2] at hyi
      rw [show rb.getD i (0, 0) = rb[i] by simp [List.getD_eq_getElem?_getD, hir]] at hyi
      have hjs : wi ((j : Int) + 1) = ((j + 1 : Nat) : Int) := wi_succ (show j < 4611686018427387904 by omega)
      simp only [go_sem, cj]
      refine hyi.useA rfl ?_
      rintro r S' ⟨E', rfl, hd2, ⟨rfl, hJ2⟩ | ⟨rfl, hJ2⟩⟩
      · simp only [go_sem]
        refine (jh (j + 1, E') ⟨cj, hd2, hJ2⟩ (by dsimp only; omega)).back (Sub.refl _) (by simp) ?_
        simp only [go_sem, hjs]
      · simp only [go_sem]
        exact ⟨_, Sub.refl _, Or.inl ⟨E', rfl, hd2, Or.inr hJ2⟩⟩
set_option maxHeartbeats 2000000 in
set_option maxRecDepth 8000 in
theorem grid_Drop0 (g : Grid) (hg : g.Lo) (w : Nat) (hw : 1 ≤ w) (hw2 : w < 1048576) (hwd : ∀ r ∈ g.rows, r.length = w) (hsd : g.sd.length < 1048576) (f wn : Nat) (S : Store) : CallR Tryz.prog 88 [g.av, u64 f, u64 wn] S
    (fun r S' => ∃ bo rb, r = .agg (gridM (dropGr (dropG (oldV f wn)) g) bo rb.length) ∧ Rows S bo w rb (dropGr (dropG (oldV f wn)) g).rows 0 S') := by
  have hnn := hg.n
  refine callR_of Tryz.func88 rfl rfl (xc_ok (bitB 393471) _ _ _ ?_)
  simp only [go_sem]
  refine alloc_intro fun c3 h3 => ?_
  simp only [go_sem]
  refine alloc_intro fun c4 h4 => ?_
  simp only [fresh_set] at h4
  simp only [go_sem, h4]
  refine alloc_intro fun c5 h5 => ?_
  simp only [fresh_set] at h5
  simp only [go_sem, h4, h5]
  refine alloc_intro fun c6 h6 => ?_
  simp only [fresh_set] at h6
  simp only [go_sem, h4, h5, h6]
  refine (copied g w hw hw2 hnn hsd hwd _).useA ?_
  rintro _ U ⟨bo, rb, rfl, hR⟩
  have u3 := hR.sub (.r c3) (.cells [i64 g.w, .p (.sl (g.sd.map Seed.pv)), .p (.sl (g.rows.map rowE)), i64 g.all.k, i64 g.all.g, .p (.sl (g.all.ls.map lvE))]) (by simp only [go_sem, h4, h5, h6])
  have u4 := hR.sub (.r c4) (.cells [u64 f]) (by simp only [go_sem, h4, h5, h6])
  have u5 := hR.sub (.r c5) (.cells [u64 wn]) (by simp only [go_sem, h4, h5, h6])
  have u6 := hR.sub (.r c6) (.cells [i64 0, .nils, .nils, i64 0, i64 0, .nils]) (by simp only [go_sem, h4, h5, h6])
  simp only [go_sem, u3, u4, u5, u6, h4, h5, h6, gridM]
  refine (exp_Drop g.all.k g.all.g g.all.ls f wn hg.all.1 hg.all.2).useA ?_
  obtain ⟨D, hD⟩ : ∃ D, dropG (oldV f wn) = D := ⟨_, rfl⟩
  rw [hD]
  simp only [go_sem, u3, u4, u5, u6, h4, h5, h6]
  have y3 : S (.r c3) = none := h3
  have y4 : S (.r c4) = none := h4.2
  have y5 : S (.r c5) = none := h5.2.2
  have y6 : S (.r c6) = none := h6.2.2.2
  have n46 : ¬ c4 = c6 ∧ ¬ c6 = c4 := ⟨h6.2.1.2, h6.2.1.1⟩
  have n36 : ¬ c3 = c6 ∧ ¬ c6 = c3 := ⟨h6.2.2.1.2, h6.2.2.1.1⟩
  obtain ⟨S0, hS0, s3, s4, s5, s6, sS⟩ : ∃ S0 : Store, Rows S0 bo w rb g.rows 0 U ∧ S0 (.r c3) = some (.cells [i64 g.w, .p (.sl (g.sd.map Seed.pv)), .p (.sl (g.rows.map rowE)), i64 g.all.k, i64 g.all.g, .p (.sl (g.all.ls.map lvE))]) ∧
      S0 (.r c4) = some (.cells [u64 f]) ∧ S0 (.r c5) = some (.cells [u64 wn]) ∧ S0 (.r c6) = some (.cells [i64 0, .nils, .nils, i64 0, i64 0, .nils]) ∧ Sub S S0 :=
    ⟨_, hR, by simp only [go_sem, h4, h5, h6], by simp only [go_sem, h4, h5, h6], by simp only [go_sem, h4, h5, h6], by simp only [go_sem, h4, h5, h6], Sub.set (Sub.set (Sub.set (Sub.set (Sub.refl _) y3 _) y4 _) y5 _) y6 _⟩
  clear hR h3 h4 h5 h6
  have n34 : ¬ c4 = c3 := by rintro rfl; rw [s3] at s4; simp at s4
  have n35 : ¬ c5 = c3 := by rintro rfl; rw [s3] at s5; simp at s5
  have hfold : [AV.p (PV.int IntKind.i64 g.w), .p (.sl (g.sd.map Seed.pv)), .ms bo 1 0 g.rows.length g.rows.length, .p (.int .i64 g.all.k), .p (.int .i64 g.all.g), .p (.sl ((D g.all.ls).map lvE))] = gridM ⟨g.w, g.sd, g.rows, dropH D g.all⟩ bo g.rows.length := rfl
  simp only [hfold]
  refine (grid_cells ⟨g.w, g.sd, g.rows, dropH D g.all⟩ bo g.rows.length _).useA ?_
  rintro _ _ ⟨b, hb, rfl, rfl⟩
  simp only [fresh_set] at hb
  have hrl := hS0.len
  have ub : U (.r b) = none := hb.2
  have nb3 : ¬ b = c3 := hb.1.1
  have E3 : ∃ X, X = AV.ms bo 1 0 g.rows.length g.rows.length := ⟨_, rfl⟩
  obtain ⟨E0, hE0⟩ : ∃ E0 : Store, E0 = S0.set (.r c3) (.cells (gridM ⟨g.w, g.sd, g.rows, dropH D g.all⟩ bo g.rows.length)) := ⟨_, rfl⟩
  have nd : NoDup rb := hS0.nd
  have srow : ∀ i (hi : i < rb.length), S0 (.r (rb[i]).1) = none ∧ ¬ (rb[i]).1 = bo ∧ ¬ (rb[i]).1 = c3 ∧ ¬ (rb[i]).1 = b := fun i hi => by
    obtain ⟨r1, r2, r3, r4⟩ := hS0.row i hi
    refine ⟨r2, r3, ?_, ?_⟩
    · intro e; rw [e, s3] at r2; cases r2
    · intro e; rw [e, ub] at r1; cases r1
  have e4 : E0 (.r c4) = some (.cells [u64 f]) := by rw [hE0, Store.set_other _ _ (rkey_ne n34)]; exact s4
  have e5 : E0 (.r c5) = some (.cells [u64 wn]) := by rw [hE0, Store.set_other _ _ (rkey_ne n35)]; exact s5
  have e6 : E0 (.r c6) = some (.cells [i64 0, .nils, .nils, i64 0, i64 0, .nils]) := by rw [hE0, Store.set_other _ _ (rkey_ne n36.2)]; exact s6
  have e3 : E0 (.r c3) = some (.cells (gridM ⟨g.w, g.sd, g.rows, dropH D g.all⟩ bo g.rows.length)) := by rw [hE0, Store.set_same]
  have ebo : E0 (.r bo) = none := by
    rw [hE0, Store.set_other _ _ (rkey_ne fun e => by have := hS0.fo; rw [e, s3] at this; cases this)]; exact hS0.fo
  have eb : E0 (.r b) = none := by
    rw [hE0, Store.set_other _ _ (rkey_ne nb3)]; exact none_of_sub hS0.sub ub
  have hbase : ∀ {c : Nat} {y : Blk}, E0 (.r c) = some y → (∀ i (hi : i < rb.length), ¬ (rb[i]).1 = c) → ∀ rows, rowsS E0 w rb rows (.r c) = some y := fun h hn rows => by
    rw [rowsS_ne (fun i hi e => hn i hi (by injection e with e; exact e.symm))]; exact h
  have hbno : ∀ rows, rowsS E0 w rb rows (.r b) = none := fun rows => by
    rw [rowsS_ne (fun i hi e => (srow i hi).2.2.2 (by injection e with e; exact e.symm))]; exact eb
  have hbbo : ∀ rows, rowsS E0 w rb rows (.r bo) = none := fun rows => by
    rw [rowsS_ne (fun i hi e => (srow i hi).2.1 (by injection e with e; exact e.symm))]; exact ebo
  have hr3 : ∀ i (hi : i < rb.length), ¬ (rb[i]).1 = c3 := fun i hi => (srow i hi).2.2.1
  have hr4 : ∀ i (hi : i < rb.length), ¬ (rb[i]).1 = c4 := fun i hi e => by have := (srow i hi).1; rw [e, s4] at this; cases this
  have hr5 : ∀ i (hi : i < rb.length), ¬ (rb[i]).1 = c5 := fun i hi e => by have := (srow i hi).1; rw [e, s5] at this; cases this
  have hr6 : ∀ i (hi : i < rb.length), ¬ (rb[i]).1 = c6 := fun i hi e => by have := (srow i hi).1; rw [e, s6] at this; cases this
  have hout := hS0.outer
  have nbo3 : ¬ bo = c3 := by rintro rfl; have := hS0.fo; rw [s3] at this; cases this
  have hseq := grid_cells1 w g.rows.length rb hw hw2 hrl hnn (T0 := (eS.set (.r b) (.cells (gridM ⟨g.w, g.sd, g.rows, dropH D g.all⟩ bo g.rows.length))).set (.r bo) (.cells (rb.map (rowM w) ++ zcs [.nils] 0))) (b := b) (bo := bo)
    (a0 := i64 g.w) (a1 := .p (.sl (g.sd.map Seed.pv))) (a3 := i64 g.all.k) (a4 := i64 g.all.g) (a5 := .p (.sl ((D g.all.ls).map lvE))) (by
      rw [Store.set_other _ _ (rkey_ne fun e => by rw [e] at ub; rw [ub] at hout; cases hout), Store.set_same]; rfl) (by rw [Store.set_same])
  simp only [go_sem]
  refine AWP.rangeE (ι := Unit) (f := 147) (first := []) (caps := [.sp b 0]) (by simp only [go_sem]) _
    (fun k _ => rowsS E0 w rb (rowsK (dropH D) w g.rows k)) () ?_ ?_ hseq (enterable_of Tryz.func147 rfl rfl) (fun _ _ => False) (fun _ _ => rfl) (by simp) ?_ ?_ ?_
  · refine sub_joinT (sub_joinT (sub_join0 ?_) ?_ ?_) ?_ ?_
    · rw [rowsK_zero]
      intro q y hq
      by_cases h : ∃ i, ∃ hi : i < rb.length, q = .r (rb[i]).1
      · obtain ⟨i, hi, rfl⟩ := h
        rw [rowsS_at nd hi] at hq
        rw [Store.set_other _ _ (rkey_ne (srow i hi).2.2.2), Store.set_other _ _ (rkey_ne (srow i hi).2.2.1), (hS0.row i hi).1]; exact hq
      · rw [rowsS_ne (fun i hi e => h ⟨i, hi, e⟩), hE0] at hq
        by_cases e : q = .r c3
        · subst e
          rw [Store.set_same] at hq
          rw [Store.set_other _ _ (rkey_ne fun e => nb3 e.symm), Store.set_same]; exact hq
        · rw [Store.set_other _ _ e] at hq
          have := hS0.sub _ _ hq
          rw [Store.set_other _ _ (by rintro rfl; rw [ub] at this; cases this), Store.set_other _ _ e]; exact this
    · rw [Store.set_same]
    · exact hbno _
    · rw [Store.set_other _ _ (rkey_ne fun e => by rw [e, ub] at hout; cases hout), Store.set_other _ _ (rkey_ne nbo3)]; exact hout
    · exact hbbo _
  · exact ((Disj.nil _).setT (hbno _) _).setT (hbbo _) _
  · intro k _ l hk T hT hdT
    refine xc_ok (bitB 393471) _ _ _ ?_
    simp only [go_sem, itemsC]
    refine ⟨_, Sub.refl _, hdT, fun T' hT' hdT' => ?_⟩
    refine xc_ok (bitB 393471) _ _ _ ?_
    obtain ⟨i, j, hi, hj, rfl⟩ : ∃ i j, i < g.rows.length ∧ j < w ∧ k = i * w + j := ⟨k / w, k % w, Nat.div_lt_of_lt_mul (by rw [Nat.mul_comm]; exact hk), Nat.mod_lt _ (by omega), by rw [Nat.mul_comm]; exact (Nat.div_add_mod k w).symm⟩
    have hir : i < rb.length := by rw [hrl]; exact hi
    obtain ⟨hcl, hcell⟩ := rowsK_cell (dropH D) w g.rows hwd hi hj
    simp only [go_sem, (cell_div hj).1, (cell_div hj).2]
    rw [show rb.getD i (0, 0) = rb[i] by simp [List.getD_eq_getElem?_getD, hir]]
    have hat := rowsS_at (E := E0) (w := w) (rows := rowsK (dropH D) w g.rows (i * w + j)) nd hir
    obtain ⟨R, hRR⟩ : ∃ R, (rowsK (dropH D) w g.rows (i * w + j)).getD i [] = R := ⟨_, rfl⟩
    have hstep := rowsK_step (dropH D) w g.rows hwd hi hj
    have hsl : i < (rowsK (dropH D) w g.rows (i * w + j)).length := by rw [rowsK_len]; exact hi
    have hset := rowsS_set (E := E0) (w := w) (rb := rb) nd hir hsl (R.set j (dropH D ((g.rows[i])[j]'(by rw [hwd _ (List.getElem_mem hi)]; exact hj))))
    obtain ⟨h, hh⟩ : ∃ h, (g.rows[i])[j]'(by rw [hwd _ (List.getElem_mem hi)]; exact hj) = h := ⟨_, rfl⟩
    have hlo := hg.hs _ (List.getElem_mem hi) _ (List.getElem_mem (show j < (g.rows[i]).length by rw [hwd _ (List.getElem_mem hi)]; exact hj))
    simp only [hRR] at hcl hcell hat hstep
    simp only [hh] at hcell hset hstep hlo
    have hcut := flat_cut R (List.replicate (((rb[i]).2 - w) * 3) AV.top) j hcl
    have hput := flat_put R (List.replicate (((rb[i]).2 - w) * 3) AV.top) (dropH D h) j hcl
    rw [hcell] at hcut
    have b4 := hbase e4 hr4 (rowsK (dropH D) w g.rows (i * w + j))
    have b5 := hbase e5 hr5 (rowsK (dropH D) w g.rows (i * w + j))
    have hlen : j * 3 + 3 ≤ (flatA (R.map Hist.cs) ++ List.replicate (((rb[i]).2 - w) * 3) AV.top).length := by rw [List.length_append, hflat_len]; omega
    unfold rowB at hat hset
    generalize flatA (R.map Hist.cs) ++ List.replicate (((rb[i]).2 - w) * 3) AV.top = FA at *
    refine AWP.draw2 (bitB 393471) mixed (by kernel_rfl) (fun q => (dropH D h).av) ?_
    have hex := exp_Drop h.k h.g h.ls f wn hlo.1 hlo.2
    rw [hD] at hex
    simp only [go_sem, hat, b4, b5, hcut, Hist.cs]
    have hput' : List.take (j * 3) FA ++ [AV.p (PV.int IntKind.i64 (dropH D h).k), AV.p (PV.int IntKind.i64 (dropH D h).g), AV.p (PV.sl (List.map lvE (dropH D h).ls))] ++ List.drop (j * 3 + 3) FA = _ := hput
    refine ⟨hlen, hex.draw, hlen, (), ?_, ?_⟩
    · rw [hput', join_set, hset, ← hstep]; exact Sub.refl _
    · rw [hstep, ← hset]; exact hdT'.setE hat _
  · intro _ d hd
    have hall := rowsK_all (dropH D) w g.rows hwd
    rw [hall] at hd ⊢
    have b3 := hbase e3 hr3 (g.rows.map (fun r => r.map (dropH D)))
    have b6 := hbase e6 hr6 (g.rows.map (fun r => r.map (dropH D)))
    have hjd := join_none hd
    have n3 : ¬ c3 = d ∧ ¬ d = c3 := by constructor <;> rintro rfl <;> (rw [b3] at hjd; cases hjd.2)
    have n6 : ¬ c6 = d ∧ ¬ d = c6 := by constructor <;> rintro rfl <;> (rw [b6] at hjd; cases hjd.2)
    simp only [go_sem, b3, b6, n3, n6, n36, gridM]
    have hT0 : ((eS.set (.r b) (.cells (gridM ⟨g.w, g.sd, g.rows, dropH D g.all⟩ bo g.rows.length))).set (.r bo) (.cells (rb.map (rowM w) ++ zcs [.nils] 0))) (.r bo) = some (.cells (rb.map (rowM w) ++ zcs [.nils] 0)) := Store.set_same _ _ _
    have ndbo : ¬ d = bo := by rintro rfl; rw [hT0] at hjd; cases hjd.1
    have ndrb : ∀ i (hi : i < rb.length), ¬ (rb[i]).1 = d := by
      rintro i hi rfl
      rw [rowsS_at nd hi] at hjd; cases hjd.2
    have sbo : S (.r bo) = none := none_of_sub sS hS0.fo
    have srb : ∀ i (hi : i < rb.length), S (.r (rb[i]).1) = none := fun i hi => none_of_sub sS (srow i hi).1
    have hE0q : ∀ q y, S q = some y → E0 q = some y := fun q y hq => by
      have : q ≠ .r c3 := by rintro rfl; rw [y3] at hq; cases hq
      rw [hE0, Store.set_other _ _ this]; exact sS _ _ hq
    have hbq : ∀ q y, S q = some y → rowsS E0 w rb (g.rows.map (fun r => r.map (dropH D))) q = some y := fun q y hq => by
      rw [rowsS_ne (fun i hi e => by rw [e, srb i hi] at hq; cases hq)]; exact hE0q q y hq
    have sd : S (.r d) = none := by
      cases e : S (.r d) with
      | none => rfl
      | some y => have := hbq _ _ e; rw [this] at hjd; cases hjd.2
    refine ⟨(rowsS S w rb (g.rows.map (fun r => r.map (dropH D)))).set (.r bo) (.cells (rb.map (rowM w) ++ zcs [.nils] 0)), ?_, ?_, Or.inl ⟨bo, rb, ?_, ?_⟩⟩
    · intro q y hq
      by_cases e : q = .r bo
      · subst e
        rw [Store.set_same] at hq
        have n1 : Key.r bo ≠ .r c6 := rkey_ne (by rintro rfl; rw [e6] at ebo; cases ebo)
        rw [Store.set_other _ _ n1, Store.set_other _ _ (rkey_ne fun e => ndbo e.symm)]
        unfold Store.join
        rw [hbbo]
        dsimp only
        rw [Store.set_same]
        exact hq
      · rw [Store.set_other _ _ e] at hq
        by_cases h : ∃ i, ∃ hi : i < rb.length, q = .r (rb[i]).1
        · obtain ⟨i, hi, rfl⟩ := h
          rw [rowsS_at nd hi] at hq
          rw [Store.set_other _ _ (rkey_ne (hr6 i hi)), Store.set_other _ _ (rkey_ne (ndrb i hi))]
          unfold Store.join
          rw [rowsS_at nd hi]; exact hq
        · rw [rowsS_ne (fun i hi e => h ⟨i, hi, e⟩)] at hq
          have n1 : q ≠ .r c6 := by rintro rfl; rw [y6] at hq; cases hq
          have n2 : q ≠ .r d := by rintro rfl; rw [sd] at hq; cases hq
          rw [Store.set_other _ _ n1, Store.set_other _ _ n2]
          unfold Store.join
          rw [hbq q y hq]
    · rintro _ rfl
      rw [Store.set_other _ _ (rkey_ne ndbo), rowsS_ne (fun i hi e => ndrb i hi (by injection e with e; exact e.symm))]; exact sd
    · rw [hrl]; rfl
    · refine ⟨by rw [hrl]; simp [dropGr], ?_, sbo, ?_, by rw [Store.set_same], fun i hi => ⟨?_, srb i hi, (srow i hi).2.1, (hS0.row i hi).2.2.2⟩, nd⟩
      · intro r hr
        obtain ⟨r', hr', rfl⟩ := List.mem_map.1 hr
        rw [List.length_map]; exact hwd _ hr'
      · intro q y hq
        rw [Store.set_other _ _ (by rintro rfl; rw [sbo] at hq; cases hq), rowsS_ne (fun i hi e => by rw [e, srb i hi] at hq; cases hq)]; exact hq
      · rw [Store.set_other _ _ (rkey_ne (srow i hi).2.1), rowsS_at nd hi]; rfl
  · intro e E' d _ h; exact h.elim

theorem grid_Drop (g : Grid) (hg : g.Lo) (hw : 1 ≤ g.w) (hw2 : g.w < 1048576) (hwd : ∀ r ∈ g.rows, r.length = g.w.toNat) (hsd : g.sd.length < 1048576) (f wn : Nat) :
    Pure Tryz.prog 88 [g.av, u64 f, u64 wn] (dropGr (dropG (oldV f wn)) g).av := fun S => by
  refine (grid_Drop0 g hg g.w.toNat (by omega) (by omega) hwd hsd f wn S).frz ?_
  rintro x S' ⟨bo, rb, rfl, hR⟩
  obtain ⟨G, hG⟩ : ∃ G, dropGr (dropG (oldV f wn)) g = G := ⟨_, rfl⟩
  rw [hG] at hR ⊢
  exact ⟨_, S, (frz_rows hR (Sub.refl _) (i64 G.w) (.p (.sl (G.sd.map Seed.pv))) (i64 G.all.k) (i64 G.all.g) (.p (.sl (G.all.ls.map lvE))) (i64 0)).2, rfl, rfl⟩
end Go.Sk
end
