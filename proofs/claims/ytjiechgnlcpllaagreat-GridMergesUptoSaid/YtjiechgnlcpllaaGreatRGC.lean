/- Texts W15c W15d A15 W15e W15f W15g W15h W8 W15i, joined. -/
import Derived.Test.YtjiechgnlcpllaaGreatRGB
import Derived.Test.YtjiechgnlcpllaaGreatSkRg
import Derived.Test.YtjiechgnlcpllaaGreatSkSq
import Derived.Test.YtjiechgnlcpllaaGreatRGA
set_option linter.unusedSimpArgs false
set_option linter.unusedVariables false
set_option linter.unusedSectionVars false
-- W15c
section
namespace Go.Sk
open Go Go.Proofs

theorem eq_hists (a b : List Hist) (ha : a.length < 1099511627776) (hl : ∀ h ∈ a, h.Small) :
    Pure Tryz.prog 45 [.p (rowP a), .p (rowP b), .fn (.func 13) [] []] (bl (decide (a = b))) := fun S => by
  refine callR_of Tryz.func45 rfl rfl (xc_ok (bitB 1074250695) _ _ _ ?_)
  simp only [go_sem, rowP]
  by_cases hlen : a.length = b.length
  rotate_left
  · have hn : (a.length != b.length) = true := by simpa using hlen
    have hne : ¬ a = b := fun e => hlen (by rw [e])
    simp only [go_sem, hn]
    (refine ⟨S, by (repeat (first | exact Sub.refl _ | refine Sub.setF ?_ (by first | assumption | simp only [*]) | refine Sub.setV ?_ (by first | assumption | simp only [*]))), ?_⟩); simp [hne]
  · have hn : (a.length != b.length) = false := by simpa using hlen
    simp only [go_sem, hn]
    refine AWP.roam (fun i : Nat => i ≤ a.length ∧ ∀ j, j < i → ∀ (h1 : j < a.length) (h2 : j < b.length), a[j] = b[j]) (fun i => ⟨Env.get [(1, .p (.sl (b.map Hist.cs))), (2, .fn (.func 13) [] []), (15, .p (.sl (a.map Hist.cs))), (16, i64 a.length), (17, i64 i)], S, 32, []⟩) (fun i => a.length - i) 0 ⟨by omega, fun j h => by omega⟩ ?_ ?_
    · exact le_of (by simp only [go_sem]; simp) (Sub.refl _) rfl rfl (by simp)
    · rintro i ⟨hi, hall⟩ ih
      refine AWPH.step (xc_ok (bitB 1074250695) _ _ _ ?_)
      by_cases h : i < a.length
      · have hb : i < b.length := by omega
        simp only [go_sem, h, hb, ltN' h, ltN' hb, getD_map' _ _ _ _ h, getD_map' _ _ _ _ hb]
        refine alloc_intro fun c hc => ?_
        simp only [go_sem, hb, ltN' hb, getD_map' _ _ _ _ hb]
        refine alloc_intro fun d hd => ?_
        simp only [fresh_set] at hd
        simp only [go_sem, hd]
        refine Pure.useF (first := []) (caps := []) (args := [(a[i]).av, (b[i]).av]) (a2 := [(a[i]).av, (b[i]).av]) (hist_Same a[i] b[i] (hl _ (List.getElem_mem h))) rfl ?_
        by_cases hq : a[i] = b[i]
        · simp only [go_sem, hq, Bool.not_true]
          refine (ih (i + 1) ⟨h, all_step hall fun _ _ => hq⟩ (by clear hd; omega)).back (by (repeat (first | exact Sub.refl _ | refine Sub.setF ?_ (by first | assumption | simp only [*]) | refine Sub.setV ?_ (by first | assumption | simp only [*])))) (by simp) ?_
          simp only [go_sem, wi_succ (show i < 4611686018427387904 by clear hd; omega)]
        · simp only [go_sem, hq, Bool.not_false]
          (refine ⟨S, by (repeat (first | exact Sub.refl _ | refine Sub.setF ?_ (by first | assumption | simp only [*]) | refine Sub.setV ?_ (by first | assumption | simp only [*]))), ?_⟩)
          have hne : ¬ a = b := by rintro rfl; exact hq rfl
          simp [hne]
      · obtain rfl : i = a.length := by omega
        simp only [go_sem]
        (refine ⟨S, by (repeat (first | exact Sub.refl _ | refine Sub.setF ?_ (by first | assumption | simp only [*]) | refine Sub.setV ?_ (by first | assumption | simp only [*]))), ?_⟩)
        have : a = b := eq_of_all hlen fun j h1 h2 => hall j h1 h1 h2
        simp [this]

theorem same1 (a b : List Hist) (ha : a.length < 1099511627776) (hl : ∀ h ∈ a, h.Small) :
    Pure Tryz.prog 44 [.p (rowP a), .p (rowP b)] (bl (decide (a = b))) := fun S => by
  refine callR_of Tryz.func44 rfl rfl (xc_ok (bitB 19) _ _ _ ?_)
  simp only [go_sem]
  refine (eq_hists a b ha hl).useA ?_
  simp only [go_sem]
  (refine ⟨S, by (repeat (first | exact Sub.refl _ | refine Sub.setF ?_ (by first | assumption | simp only [*]) | refine Sub.setV ?_ (by first | assumption | simp only [*]))), ?_⟩); simp

theorem rowE_mk (r : List Hist) : rowE r = [rowP r] := rfl
def RSmall (a : List (List Hist)) : Prop := a.length < 1099511627776 ∧ ∀ r ∈ a, r.length < 1099511627776 ∧ ∀ h ∈ r, h.Small
theorem eq_rows (a b : List (List Hist)) (ha : RSmall a) :
    Pure Tryz.prog 43 [.p (.sl (a.map rowE)), .p (.sl (b.map rowE)), .fn (.func 44) [] []] (bl (decide (a = b))) := fun S => by
  obtain ⟨ha, hl⟩ := ha
  refine callR_of Tryz.func43 rfl rfl (xc_ok (bitB 1074250695) _ _ _ ?_)
  simp only [go_sem]
  by_cases hlen : a.length = b.length
  rotate_left
  · have hn : (a.length != b.length) = true := by simpa using hlen
    have hne : ¬ a = b := fun e => hlen (by rw [e])
    simp only [go_sem, hn]
    (refine ⟨S, by (repeat (first | exact Sub.refl _ | refine Sub.setF ?_ (by first | assumption | simp only [*]) | refine Sub.setV ?_ (by first | assumption | simp only [*]))), ?_⟩); simp [hne]
  · have hn : (a.length != b.length) = false := by simpa using hlen
    simp only [go_sem, hn]
    refine AWP.roam (fun i : Nat => i ≤ a.length ∧ ∀ j, j < i → ∀ (h1 : j < a.length) (h2 : j < b.length), a[j] = b[j]) (fun i => ⟨Env.get [(1, .p (.sl (b.map rowE))), (2, .fn (.func 44) [] []), (15, .p (.sl (a.map rowE))), (16, i64 a.length), (17, i64 i)], S, 32, []⟩) (fun i => a.length - i) 0 ⟨by omega, fun j h => by omega⟩ ?_ ?_
    · exact le_of (by simp only [go_sem]; simp) (Sub.refl _) rfl rfl (by simp)
    · rintro i ⟨hi, hall⟩ ih
      refine AWPH.step (xc_ok (bitB 1074250695) _ _ _ ?_)
      by_cases h : i < a.length
      · have hb : i < b.length := by omega
        simp only [go_sem, h, hb, ltN' h, ltN' hb, getD_map' _ _ _ _ h, getD_map' _ _ _ _ hb, rowE_mk]
        refine Pure.useF (first := []) (caps := []) (args := [.p (rowP a[i]), .p (rowP b[i])]) (a2 := [.p (rowP a[i]), .p (rowP b[i])]) (same1 a[i] b[i] (hl _ (List.getElem_mem h)).1 (hl _ (List.getElem_mem h)).2) rfl ?_
        by_cases hq : a[i] = b[i]
        · simp only [go_sem, hq, Bool.not_true]
          refine (ih (i + 1) ⟨h, all_step hall fun _ _ => hq⟩ (by omega)).back (by (repeat (first | exact Sub.refl _ | refine Sub.setF ?_ (by first | assumption | simp only [*]) | refine Sub.setV ?_ (by first | assumption | simp only [*])))) (by simp) ?_
          simp only [go_sem, wi_succ (show i < 4611686018427387904 by omega)]
        · simp only [go_sem, hq, Bool.not_false]
          (refine ⟨S, by (repeat (first | exact Sub.refl _ | refine Sub.setF ?_ (by first | assumption | simp only [*]) | refine Sub.setV ?_ (by first | assumption | simp only [*]))), ?_⟩)
          have hne : ¬ a = b := by rintro rfl; exact hq rfl
          simp [hne]
      · obtain rfl : i = a.length := by omega
        simp only [go_sem]
        (refine ⟨S, by (repeat (first | exact Sub.refl _ | refine Sub.setF ?_ (by first | assumption | simp only [*]) | refine Sub.setV ?_ (by first | assumption | simp only [*]))), ?_⟩)
        have : a = b := eq_of_all hlen fun j h1 h2 => hall j h1 h1 h2
        simp [this]

structure Grid.Small (g : Grid) : Prop where
  sd : g.sd.length < 1099511627776
  rows : RSmall g.rows
  all : g.all.Small
theorem Grid.eq_iff (a b : Grid) : (a = b) = (a.w = b.w ∧ a.sd = b.sd ∧ a.rows = b.rows ∧ a.all = b.all) := by
  cases a; cases b; simp
theorem grid_Same (a b : Grid) (ha : a.Small) : Pure Tryz.prog 15 [a.av, b.av] (bl (decide (a = b))) := fun S => by
  refine callR_of Tryz.func15 rfl rfl (xc_ok (bitB 63) _ _ _ ?_)
  simp only [go_sem]
  refine alloc_intro fun c hc => ?_
  simp only [go_sem]
  refine alloc_intro fun d hd => ?_
  simp only [fresh_set] at hd
  simp only [go_sem, hd]
  refine (eq_rows a.rows b.rows ha.rows).useA ?_
  simp only [go_sem]
  by_cases h1 : a.rows = b.rows
  rotate_left
  · have e1 : decide (a.rows = b.rows) = false := decide_eq_false h1
    simp only [go_sem, e1]
    (refine ⟨S, by (repeat (first | exact Sub.refl _ | refine Sub.setF ?_ (by first | assumption | simp only [*]) | refine Sub.setV ?_ (by first | assumption | simp only [*]))), ?_⟩); simp [Grid.eq_iff, h1]
  have e1 : decide (a.rows = b.rows) = true := decide_eq_true h1
  simp only [go_sem, e1, hd]
  refine (grid_alike a b ha.sd).useA ?_
  simp only [go_sem]
  cases h2 : alikeV a b
  · simp only [go_sem]
    (refine ⟨S, by (repeat (first | exact Sub.refl _ | refine Sub.setF ?_ (by first | assumption | simp only [*]) | refine Sub.setV ?_ (by first | assumption | simp only [*]))), ?_⟩); have hne : ¬ a = b := by rintro rfl; simp [alikeV] at h2
    simp [hne]
  simp only [go_sem, hd]
  refine (hist_Same a.all b.all ha.all).useA ?_
  simp only [go_sem]
  (refine ⟨S, by (repeat (first | exact Sub.refl _ | refine Sub.setF ?_ (by first | assumption | simp only [*]) | refine Sub.setV ?_ (by first | assumption | simp only [*]))), ?_⟩); have h3 : a.w = b.w ∧ a.sd = b.sd := by simp only [alikeV, Bool.and_eq_true, decide_eq_true_eq] at h2; exact ⟨h2.1.1, h2.2⟩
  simp [Grid.eq_iff, h1, h3.1, h3.2]

set_option maxHeartbeats 1000000 in
theorem ref15_Same (a b : Grid) (ha : a.Small) : Pure Tryz.prog 9 [a.av, b.av] (bl (decide (a = b))) := fun S => by
  refine callR_of Tryz.func9 rfl rfl (xc_ok (bitB 19342831632638002285510783) _ _ _ ?_)
  simp only [go_sem]
  refine alloc_intro fun c hc => ?_
  simp only [go_sem]
  refine alloc_intro fun d hd => ?_
  simp only [fresh_set] at hd
  simp only [go_sem, hd]
  by_cases h1 : a.w = b.w
  rotate_left
  · have e1 : (a.w != b.w) = true := by simpa using h1
    simp only [go_sem, e1]
    (refine ⟨S, by (repeat (first | exact Sub.refl _ | refine Sub.setF ?_ (by first | assumption | simp only [*]) | refine Sub.setV ?_ (by first | assumption | simp only [*]))), ?_⟩); simp [Grid.eq_iff, h1]
  have e1 : (a.w != b.w) = false := by simpa using h1
  simp only [go_sem, e1, hd]
  refine (ref15_alike a.sd b.sd ha.sd).useA ?_
  by_cases h2 : a.sd = b.sd
  rotate_left
  · simp only [go_sem, h2, Bool.not_false]
    (refine ⟨S, by (repeat (first | exact Sub.refl _ | refine Sub.setF ?_ (by first | assumption | simp only [*]) | refine Sub.setV ?_ (by first | assumption | simp only [*]))), ?_⟩); simp [Grid.eq_iff, h2]
  simp only [go_sem, h2, hd, Bool.not_true]
  by_cases hlen : a.rows.length = b.rows.length
  rotate_left
  · have hn : (a.rows.length != b.rows.length) = true := by simpa using hlen
    have hne : ¬ a.rows = b.rows := fun e => hlen (by rw [e])
    simp only [go_sem, hn]
    (refine ⟨S, by (repeat (first | exact Sub.refl _ | refine Sub.setF ?_ (by first | assumption | simp only [*]) | refine Sub.setV ?_ (by first | assumption | simp only [*]))), ?_⟩); simp [Grid.eq_iff, hne]
  have hn : (a.rows.length != b.rows.length) = false := by simpa using hlen
  simp only [go_sem, hn, hd]
  refine (ref06_Same a.all b.all ha.all).useA ?_
  by_cases h3 : a.all = b.all
  rotate_left
  · simp only [go_sem, h3, Bool.not_false]
    (refine ⟨S, by (repeat (first | exact Sub.refl _ | refine Sub.setF ?_ (by first | assumption | simp only [*]) | refine Sub.setV ?_ (by first | assumption | simp only [*]))), ?_⟩); simp [Grid.eq_iff, h3]
  simp only [go_sem, h3, hd, Bool.not_true]
  obtain ⟨S1, hS1⟩ : ∃ T, (S.set (.r c) (.cells [i64 a.w, .p (.sl (a.sd.map Seed.pv)), .p (.sl (a.rows.map rowE)), i64 a.all.k, i64 a.all.g, .p (.sl (a.all.ls.map lvE))])).set (.r d) (.cells [i64 b.w, .p (.sl (b.sd.map Seed.pv)), .p (.sl (b.rows.map rowE)), i64 b.all.k, i64 b.all.g, .p (.sl (b.all.ls.map lvE))]) = T := ⟨_, rfl⟩
  refine AWP.roam (fun i : Nat => i ≤ a.rows.length ∧ ∀ j, j < i → ∀ (h1 : j < a.rows.length) (h2 : j < b.rows.length), a.rows[j] = b.rows[j])
    (fun i => ⟨Env.get [(2, .sp c 0), (3, .sp d 0), (5, i64 i)], (S.set (.r c) (.cells [i64 a.w, .p (.sl (a.sd.map Seed.pv)), .p (.sl (a.rows.map rowE)), i64 a.all.k, i64 a.all.g, .p (.sl (a.all.ls.map lvE))])).set (.r d) (.cells [i64 b.w, .p (.sl (b.sd.map Seed.pv)), .p (.sl (b.rows.map rowE)), i64 b.all.k, i64 b.all.g, .p (.sl (b.all.ls.map lvE))]), 85, []⟩) (fun i => a.rows.length - i) 0 ⟨by clear hd; omega, fun j h => by clear hd; omega⟩ ?_ ?_
  · refine le_of (by simp only [go_sem]; simp) ?_ rfl rfl (by simp)
    ((try dsimp only); (repeat refine sub_set ?_ ?_) <;> first | ((repeat (first | exact Sub.refl _ | refine Sub.setF ?_ (by first | assumption | simp only [*]) | refine Sub.setV ?_ (by first | assumption | simp only [*]))); done) | (simp only [go_sem, hd, h1, h2, h3]; done) | (simp only [go_sem, hd, h1, h2, h3]; rfl) | rfl)
  · rintro i ⟨hi, hall⟩ ih
    refine AWPH.step (xc_ok (bitB 19342831632638002285510783) _ _ _ ?_)
    by_cases hx : i < a.rows.length
    rotate_left
    · obtain rfl : i = a.rows.length := by clear hd; omega
      simp only [go_sem, hd]
      (refine ⟨S, by (repeat (first | exact Sub.refl _ | refine Sub.setF ?_ (by first | assumption | simp only [*]) | refine Sub.setV ?_ (by first | assumption | simp only [*]))), ?_⟩)
      have : a.rows = b.rows := eq_of_all hlen fun j h1 h2 => hall j h1 h1 h2
      simp [Grid.eq_iff, this, h1, h2, h3]
    have hb : i < b.rows.length := by clear hd; omega
    simp only [go_sem, hd, hx, hb, ltN' hx, ltN' hb, getD_map' _ _ _ _ hx, getD_map' _ _ _ _ hb, rowE_mk, rowP]
    refine AWP.draw2 (bitB 19342831632638002285510783) mixed (by kernel_rfl) (fun j => bl false) ?_
    simp only [go_sem, hd, hx, hb, ltN' hx, ltN' hb, getD_map' _ _ _ _ hx, getD_map' _ _ _ _ hb, rowE_mk, rowP]
    obtain ⟨hr1, hr2⟩ := ha.rows.2 _ (List.getElem_mem hx)
    obtain ⟨A, hA⟩ : ∃ A, a.rows[i] = A := ⟨_, rfl⟩
    obtain ⟨B, hB⟩ : ∃ B, b.rows[i] = B := ⟨_, rfl⟩
    rw [hA] at hr1 hr2
    by_cases hl2 : A.length = B.length
    rotate_left
    · have hn : (A.length != B.length) = true := by simpa using hl2
      have hne : ¬ a.rows = b.rows := by
        intro e
        apply hl2
        rw [← hA, ← hB]
        simp [e]
      simp only [go_sem, hA, hB, hn]
      (refine ⟨S, by (repeat (first | exact Sub.refl _ | refine Sub.setF ?_ (by first | assumption | simp only [*]) | refine Sub.setV ?_ (by first | assumption | simp only [*]))), ?_⟩); simp [Grid.eq_iff, hne]
    have hn2 : (A.length != B.length) = false := by simpa using hl2
    simp only [go_sem, hA, hB, hn2]
    refine AWP.roam (fun q : Nat => q ≤ A.length ∧ ∀ j, j < q → ∀ (h1 : j < A.length) (h2 : j < B.length), A[j] = B[j])
      (fun q => ⟨Env.get [(2, .sp c 0), (3, .sp d 0), (5, i64 i), (6, i64 q)], (S.set (.r c) (.cells [i64 a.w, .p (.sl (a.sd.map Seed.pv)), .p (.sl (a.rows.map rowE)), i64 a.all.k, i64 a.all.g, .p (.sl (a.all.ls.map lvE))])).set (.r d) (.cells [i64 b.w, .p (.sl (b.sd.map Seed.pv)), .p (.sl (b.rows.map rowE)), i64 b.all.k, i64 b.all.g, .p (.sl (b.all.ls.map lvE))]), 85, []⟩) (fun q => A.length - q) 0 ⟨by clear hd; omega, fun j h => by clear hd; omega⟩ ?_ ?_
    · refine le_of (by simp only [go_sem]; simp) ?_ rfl rfl (by simp)
      ((try dsimp only); (repeat refine sub_set ?_ ?_) <;> first | ((repeat (first | exact Sub.refl _ | refine Sub.setF ?_ (by first | assumption | simp only [*]) | refine Sub.setV ?_ (by first | assumption | simp only [*]))); done) | (simp only [go_sem, hd]; done) | (simp only [go_sem, hd]; rfl) | rfl)
    · rintro q ⟨hq, hall2⟩ ih2
      refine AWPH.step (xc_ok (bitB 19342831632638002285510783) _ _ _ ?_)
      by_cases hy : q < A.length
      rotate_left
      · obtain rfl : q = A.length := by clear hd; omega
        simp only [go_sem, hd, hx, hb, ltN' hx, ltN' hb, getD_map' _ _ _ _ hx, getD_map' _ _ _ _ hb, rowE_mk, rowP, hA, hB]
        have hAB : A = B := eq_of_all hl2 fun j h1 h2 => hall2 j h1 h1 h2
        refine (ih (i + 1) ⟨hx, all_step hall fun _ _ => by rw [hA, hB, hAB]⟩ (by clear hd; omega)).back ?_ (by simp) ?_
        · ((try dsimp only); (repeat refine sub_set ?_ ?_) <;> first | ((repeat (first | exact Sub.refl _ | refine Sub.setF ?_ (by first | assumption | simp only [*]) | refine Sub.setV ?_ (by first | assumption | simp only [*]))); done) | (simp only [go_sem, hd]; done) | (simp only [go_sem, hd]; rfl) | rfl)
        · simp only [go_sem, wi_succ (show i < 4611686018427387904 by have := ha.rows.1; clear hd; omega)]
      have hz : q < B.length := by clear hd; omega
      simp only [go_sem, hd, hx, hb, ltN' hx, ltN' hb, getD_map' _ _ _ _ hx, getD_map' _ _ _ _ hb, rowE_mk, rowP, hA, hB, hy, hz, ltN' hy, ltN' hz, getD_map' _ _ _ _ hy, getD_map' _ _ _ _ hz]
      refine AWP.draw2 (bitB 19342831632638002285510783) mixed (by kernel_rfl) (fun j => bl (decide (A[q] = B[q]))) ?_
      simp only [go_sem, hd, hx, hb, ltN' hx, ltN' hb, getD_map' _ _ _ _ hx, getD_map' _ _ _ _ hb, rowE_mk, rowP, hA, hB, hy, hz, ltN' hy, ltN' hz, getD_map' _ _ _ _ hy, getD_map' _ _ _ _ hz]
      refine ⟨(ref06_Same A[q] B[q] (hr2 _ (List.getElem_mem hy))).draw, ?_⟩
      by_cases hq : A[q] = B[q]
      · simp only [go_sem, hq, Bool.not_true]
        refine (ih2 (q + 1) ⟨hy, all_step hall2 fun _ _ => hq⟩ (by clear hd; omega)).back ?_ (by simp) ?_
        · ((try dsimp only); (repeat refine sub_set ?_ ?_) <;> first | ((repeat (first | exact Sub.refl _ | refine Sub.setF ?_ (by first | assumption | simp only [*]) | refine Sub.setV ?_ (by first | assumption | simp only [*]))); done) | (simp only [go_sem, hd]; done) | (simp only [go_sem, hd]; rfl) | rfl)
        · simp only [go_sem, wi_succ (show q < 4611686018427387904 by clear hd; omega)]
      · simp only [go_sem, hq, Bool.not_false]
        (refine ⟨S, by (repeat (first | exact Sub.refl _ | refine Sub.setF ?_ (by first | assumption | simp only [*]) | refine Sub.setV ?_ (by first | assumption | simp only [*]))), ?_⟩)
        have hne : ¬ a.rows = b.rows := by
          intro e
          apply hq
          subst hA; subst hB
          simp [e]
        simp [Grid.eq_iff, hne]
end Go.Sk
end

-- W15d
section
namespace Go.Sk
open Go Go.Proofs

theorem repeat_pure (c : List PV) (hc : c.length = 3) (w : Nat) (hw1 : 1 ≤ w) (hw2 : w < 1048576) : Pure Tryz.prog 37 [.p (.sl [c]), i64 w] (.p (.sl (List.replicate w c))) := fun S => repeat_hist c hc w hw1 hw2 S

set_option maxHeartbeats 1000000 in
theorem grid_New (k w : Int) (sd : List Seed) (hn : sd.length < 1048576) : Pure Tryz.prog 11 [i64 k, i64 w, .p (.sl (sd.map Seed.pv))]
    (.tuple [if confV k w sd = 0 then (newV k w sd).av else zeroG.av, i64 (confV k w sd)]) := fun S => by
  refine callR_of Tryz.func11 rfl rfl (xc_ok (bitB 15764806308990919) _ _ _ ?_)
  simp only [go_sem]
  refine alloc_intro fun c6 h6 => ?_
  simp only [go_sem]
  refine (hist_New k).useA ?_
  by_cases h1 : k < 2 ∨ k > 1024
  · have hcv : confV k w sd = 9 := by unfold confV; rw [if_pos (by omega)]
    rw [if_pos h1]
    simp only [go_sem]
    refine alloc_intro fun c8 h8 => ?_
    simp only [fresh_set] at h8
    have e9 : ((9 : Int) != 0) = true := by decide
    by_cases a1 : w ≥ 1
    rotate_left
    · simp only [go_sem, h8, a1, e9]
      (refine ⟨S, by (repeat (first | exact Sub.refl _ | refine Sub.setF ?_ (by first | assumption | simp only [*]) | refine Sub.setV ?_ (by first | assumption | simp only [*]))), ?_⟩); simp [hcv, zeroG, zeroH]
    by_cases a2 : w ≤ 256
    rotate_left
    · simp only [go_sem, h8, a1, a2, e9]
      (refine ⟨S, by (repeat (first | exact Sub.refl _ | refine Sub.setF ?_ (by first | assumption | simp only [*]) | refine Sub.setV ?_ (by first | assumption | simp only [*]))), ?_⟩); simp [hcv, zeroG, zeroH]
    by_cases a3 : (sd.length : Int) ≥ 1
    rotate_left
    · simp only [go_sem, h8, a1, a2, a3, e9]
      (refine ⟨S, by (repeat (first | exact Sub.refl _ | refine Sub.setF ?_ (by first | assumption | simp only [*]) | refine Sub.setV ?_ (by first | assumption | simp only [*]))), ?_⟩); simp [hcv, zeroG, zeroH]
    by_cases a4 : (sd.length : Int) ≤ 8
    rotate_left
    · simp only [go_sem, h8, a1, a2, a3, a4, e9]
      (refine ⟨S, by (repeat (first | exact Sub.refl _ | refine Sub.setF ?_ (by first | assumption | simp only [*]) | refine Sub.setV ?_ (by first | assumption | simp only [*]))), ?_⟩); simp [hcv, zeroG, zeroH]
    simp only [go_sem, h8, a1, a2, a3, a4, e9]
    (refine ⟨S, by (repeat (first | exact Sub.refl _ | refine Sub.setF ?_ (by first | assumption | simp only [*]) | refine Sub.setV ?_ (by first | assumption | simp only [*]))), ?_⟩); simp [hcv, zeroG, zeroH]
  rw [if_neg h1]
  simp only [go_sem]
  refine alloc_intro fun c8 h8 => ?_
  simp only [fresh_set] at h8
  by_cases h2 : w < 1 ∨ w > 256 ∨ sd.length < 1 ∨ sd.length > 8
  · have hcv : confV k w sd = 9 := by unfold confV; rw [if_pos (by clear h8; omega)]
    by_cases a1 : w ≥ 1
    rotate_left
    · simp only [go_sem, h8, a1, bne_self_eq_false]
      (refine ⟨S, by (repeat (first | exact Sub.refl _ | refine Sub.setF ?_ (by first | assumption | simp only [*]) | refine Sub.setV ?_ (by first | assumption | simp only [*]))), ?_⟩); simp [hcv, zeroG, zeroH]
    by_cases a2 : w ≤ 256
    rotate_left
    · simp only [go_sem, h8, a1, a2, bne_self_eq_false]
      (refine ⟨S, by (repeat (first | exact Sub.refl _ | refine Sub.setF ?_ (by first | assumption | simp only [*]) | refine Sub.setV ?_ (by first | assumption | simp only [*]))), ?_⟩); simp [hcv, zeroG, zeroH]
    by_cases a3 : (sd.length : Int) ≥ 1
    rotate_left
    · simp only [go_sem, h8, a1, a2, a3, bne_self_eq_false]
      (refine ⟨S, by (repeat (first | exact Sub.refl _ | refine Sub.setF ?_ (by first | assumption | simp only [*]) | refine Sub.setV ?_ (by first | assumption | simp only [*]))), ?_⟩); simp [hcv, zeroG, zeroH]
    by_cases a4 : (sd.length : Int) ≤ 8
    rotate_left
    · simp only [go_sem, h8, a1, a2, a3, a4, bne_self_eq_false]
      (refine ⟨S, by (repeat (first | exact Sub.refl _ | refine Sub.setF ?_ (by first | assumption | simp only [*]) | refine Sub.setV ?_ (by first | assumption | simp only [*]))), ?_⟩); simp [hcv, zeroG, zeroH]
    exfalso; clear h8; omega
  have a1 : w ≥ 1 := by clear h8; omega
  have a2 : w ≤ 256 := by clear h8; omega
  have a3 : (sd.length : Int) ≥ 1 := by clear h8; omega
  have a4 : (sd.length : Int) ≤ 8 := by clear h8; omega
  simp only [go_sem, h8, a1, a2, a3, a4, bne_self_eq_false]
  refine (contains_odd sd (by clear h8; omega)).useA ?_
  have hc : ¬ (k < 2 ∨ k > 1024 ∨ w < 1 ∨ w > 256 ∨ sd.length < 1 ∨ sd.length > 8) := by clear h8; omega
  cases ho : sd.all Seed.may
  · have hcv : confV k w sd = 1 := by unfold confV; rw [if_neg hc, ho]; rfl
    simp only [go_sem, h8, Bool.not_false]
    (refine ⟨S, by (repeat (first | exact Sub.refl _ | refine Sub.setF ?_ (by first | assumption | simp only [*]) | refine Sub.setV ?_ (by first | assumption | simp only [*]))), ?_⟩); simp [hcv, zeroG, zeroH]
  have hcv : confV k w sd = 0 := by unfold confV; rw [if_neg hc, ho]; rfl
  simp only [go_sem, h8, Bool.not_true]
  obtain ⟨w, rfl⟩ : ∃ w' : Nat, w = w' := ⟨w.toNat, by clear h8; omega⟩
  refine AWP.draw2 (bitB 15764806308990919) mixed (by kernel_rfl) (fun j => .p (.sl (sd.map Seed.pv))) ?_
  simp only [go_sem, h8]
  refine ⟨(clone_seeds sd (by clear h8; omega)).draw, ?_⟩
  refine alloc_intro fun c11 h11 => ?_
  simp only [fresh_set] at h11
  simp only [go_sem, h8, h11]
  refine AWP.tipB c11 2 1 (cs := [i64 w, .p (.sl (sd.map Seed.pv)), .nils, i64 k, i64 0, .p (.sl [])]) (by simp only [go_sem, h11]) rfl fun kk hkk => ?_
  simp only [freshv_setr] at hkk
  simp only [List.set]
  have g6 : S (.r c6) = none := h6
  have g8 : S (.r c8) = none := h8.2
  have g11 : S (.r c11) = none := h11.2.2
  refine AWP.iterE (ι := Option Nat) (fun loc i => ⟨Env.get [(0, i64 k), (1, i64 w), (2, .p (.sl (sd.map Seed.pv))), (6, .sp c6 0), (8, .sp c8 0), (11, .sp c11 0), (51, i64 sd.length), (52, i64 i)],
    (((S.set (.r c6) (.cells [i64 0, .nils, .nils, i64 0, i64 0, .nils])).set (.r c8) (.cells [i64 k, i64 0, .p (.sl [])])).set (.v kk) (.tip 1 i loc)).set (.r c11) (.cells [i64 w, .p (.sl (sd.map Seed.pv)), .ts kk 1 loc ((List.replicate i (List.replicate w (emptyH k))).map rowE), i64 k, i64 0, .p (.sl [])]), 65, []⟩) sd.length none ?_ ?_ ?_
  · refine le_of (by simp only [go_sem] <;> rfl) ?_ rfl rfl (by simp)
    ((try dsimp only); (repeat refine sub_set ?_ ?_) <;> first | ((repeat (first | exact Sub.refl _ | refine Sub.setF ?_ (by first | assumption | simp only [*]) | refine Sub.setV ?_ (by first | assumption | simp only [*]))); done) | (simp only [go_sem, h8, h11, hkk, List.replicate_zero, List.map_nil, List.length_nil]; done) | (simp only [go_sem, h8, h11, hkk, List.replicate_zero, List.map_nil, List.length_nil]; rfl) | rfl)
  · intro i loc hi ih
    have hq : wi ((i : Int) + 1) = ((i + 1 : Nat) : Int) := wi_succ (show i < 4611686018427387904 by clear h8 h11; omega)
    have q2 : (i + 1) * 24 ≤ 140737488355328 := by clear h8 h11 hkk; omega
    have q3 : i + 1 < 4611686018427387904 := by clear h8 h11 hkk; omega
    have q4 : 1 ≤ w ∧ w < 1048576 := by clear h8 h11 hkk; omega
    refine AWPH.step (xc_ok (bitB 15764806308990919) _ _ _ ?_)
    simp only [go_sem, hi, ltN' hi]
    refine AWP.draw2 (bitB 15764806308990919) mixed (by kernel_rfl) (fun j => .p (.sl (List.replicate w [.int .i64 k, .int .i64 0, .sl []]))) ?_
    simp only [go_sem, h8, h11, hkk]
    refine ⟨(repeat_pure [.int .i64 k, .int .i64 0, .sl []] rfl w q4.1 q4.2).draw, ?_⟩
    simp only [go_sem, h8, h11, hkk, List.length_map, List.length_replicate]
    refine ⟨by rintro el rfl; rfl, row_len, q2, q3, grow_intro fun loc' => ?_⟩
    simp only [go_sem, h8, h11, hkk, hq]
    have er : List.map rowE (List.replicate i (List.replicate w (emptyH k))) ++ [[.sl (List.replicate w [.int .i64 k, .int .i64 0, .sl []])]] = List.map rowE (List.replicate (i + 1) (List.replicate w (emptyH k))) := by
      rw [show List.replicate w [PV.int .i64 k, .int .i64 0, .sl []] = (List.replicate w (emptyH k)).map Hist.cs by rw [List.map_replicate]; rfl]
      exact rows_rep _ i
    refine (ih loc').back ?_ (by simp) ?_
    · ((try dsimp only); (repeat refine sub_set ?_ ?_) <;> first | ((repeat (first | exact Sub.refl _ | refine Sub.setF ?_ (by first | assumption | simp only [*]) | refine Sub.setV ?_ (by first | assumption | simp only [*]))); done) | (simp only [go_sem, h8, h11, hkk, List.length_map, List.length_replicate, er]; done) | (simp only [go_sem, h8, h11, hkk, List.length_map, List.length_replicate, er]; rfl) | rfl)
    · simp only [go_sem, hq]
  · intro loc
    refine AWPH.step (xc_ok (bitB 15764806308990919) _ _ _ ?_)
    simp only [go_sem, h8, h11, hkk]
    refine ⟨S, ?_, ?_⟩
    · refine Sub.set (Sub.set (Sub.set (Sub.set (Sub.set (Sub.refl _) g6 _) g8 _) hkk _) g11 _) g6 _
    · simp [hcv, newV, emptyH]

theorem clone_row (r : List Hist) (hr : r ≠ []) (hn : r.length < 1099511627776) (S : Store) : CallR Tryz.prog 61 [.p (rowP r)] S
    (fun x S' => ∃ b c, Fresh S b ∧ r.length ≤ c ∧ x = .ms b 3 0 r.length c ∧ S' = S.set (.r b) (.cells (flatA (r.map Hist.cs) ++ List.replicate ((c - r.length) * 3) .top))) := by
  refine callR_of Tryz.func61 rfl rfl (xc_ok (bitB 21) _ _ _ ?_)
  simp only [go_sem, rowP]
  refine ⟨fun h => absurd h (by simpa using hr), hist_len, by omega, by omega, own_intro (by simpa using hr) fun b c hb hc => ?_⟩
  simp only [go_sem]
  refine ⟨_, Sub.refl _, Or.inl ⟨b, c, hb, by simpa using hc, ?_, ?_⟩⟩ <;> simp
end Go.Sk
end

-- A15
section
namespace Go.Sk
open Go Go.Proofs

def rowM (w : Nat) (p : Nat × Nat) : AV := .ms p.1 3 0 w p.2
def rowB (w c : Nat) (r : List Hist) : Blk := .cells (flatA (r.map Hist.cs) ++ List.replicate ((c - w) * 3) .top)
/-- rows: the rows; m: how many places of the outer block are still empty. -/
structure Rows (S0 : Store) (bo w : Nat) (rb : List (Nat × Nat)) (rows : List (List Hist)) (m : Nat) (U : Store) : Prop where
  len : rb.length = rows.length
  wid : ∀ r ∈ rows, r.length = w
  fo : S0 (.r bo) = none
  sub : Sub S0 U
  outer : U (.r bo) = some (.cells (rb.map (rowM w) ++ zcs [.nils] m))
  row : ∀ i (h : i < rb.length), U (.r (rb[i]).1) = some (rowB w (rb[i]).2 (rows.getD i [])) ∧ S0 (.r (rb[i]).1) = none ∧ ¬ (rb[i]).1 = bo ∧ w ≤ (rb[i]).2
  nd : ∀ i j (hi : i < rb.length) (hj : j < rb.length), (rb[i]).1 = (rb[j]).1 → i = j

theorem Rows.start {S : Store} {bo w m : Nat} (h : S (.r bo) = none) : Rows S bo w [] [] m (S.set (.r bo) (.cells (zcs [.nils] m))) :=
  ⟨rfl, fun _ h => (by simp at h), h, Sub.set (Sub.refl _) h _, by rw [Store.set_same]; rfl, fun i h => by simp at h, fun i j h => by simp at h⟩

theorem splice_next (A : List AV) (m : Nat) (x : AV) : splice (A ++ zcs [.nils] (m + 1)) (0 + A.length * 1) [x] = A ++ [x] ++ zcs [.nils] m := by
  have : zcs [AV.nils] (m + 1) = AV.nils :: zcs [AV.nils] m := by unfold zcs; rw [List.replicate_succ]; rfl
  rw [this]
  unfold splice
  simp [List.take_append_of_le_length, List.drop_append]

theorem none_of_sub {S U : Store} {k : Key} (h : Sub S U) (hk : U k = none) : S k = none := by
  cases e : S k with
  | none => rfl
  | some x => have := h _ _ e; rw [hk] at this; cases this
theorem rkey_ne {a b : Nat} (h : ¬ a = b) : ¬ (Key.r a) = .r b := fun e => h (by injection e)

theorem Rows.grow {S0 U : Store} {bo w m : Nat} {rb : List (Nat × Nat)} {rows : List (List Hist)} (h : Rows S0 bo w rb rows (m + 1) U) {b c : Nat} {r : List Hist} (hb : U (.r b) = none) (hr : r.length = w) (hc : w ≤ c) :
    Rows S0 bo w (rb ++ [(b, c)]) (rows ++ [r]) m ((U.set (.r b) (rowB w c r)).set (.r bo) (.cells (rb.map (rowM w) ++ [.ms b 3 0 w c] ++ zcs [.nils] m))) := by
  have nb : ¬ b = bo := by rintro rfl; rw [h.outer] at hb; cases hb
  have n0 : S0 (.r b) = none := none_of_sub h.sub hb
  have nr : ∀ i (hi : i < rb.length), ¬ (rb[i]).1 = b := by rintro i hi rfl; rw [(h.row i hi).1] at hb; cases hb
  refine ⟨by simp [h.len], ?_, h.fo, ?_, ?_, ?_, ?_⟩
  · intro x hx
    rcases List.mem_append.1 hx with hx | hx
    · exact h.wid x hx
    · simp only [List.mem_singleton] at hx; subst hx; exact hr
  · intro k x hk
    have h1 : k ≠ .r b := by rintro rfl; rw [n0] at hk; cases hk
    have h2 : k ≠ .r bo := by rintro rfl; rw [h.fo] at hk; cases hk
    rw [Store.set_other _ _ h2, Store.set_other _ _ h1]; exact h.sub _ _ hk
  · rw [Store.set_same]; simp [rowM]
  · intro i hi
    by_cases c1 : i < rb.length
    · rw [List.getElem_append_left c1]
      obtain ⟨r1, r2, r3, r4⟩ := h.row i c1
      refine ⟨?_, r2, r3, r4⟩
      rw [Store.set_other _ _ (rkey_ne r3), Store.set_other _ _ (rkey_ne (nr i c1)), r1]
      congr 1
      have c2 : i < rows.length := by rw [← h.len]; exact c1
      simp [List.getD_eq_getElem?_getD, List.getElem?_append_left c2]
    · simp only [List.length_append, List.length_singleton] at hi
      obtain rfl : i = rb.length := by omega
      simp only [List.getElem_concat_length]
      refine ⟨?_, n0, nb, hc⟩
      rw [Store.set_other _ _ (rkey_ne nb), Store.set_same]
      congr 1
      simp [List.getD_eq_getElem?_getD, h.len]
  · intro i j hi hj e
    simp only [List.length_append, List.length_singleton] at hi hj
    by_cases c1 : i < rb.length <;> by_cases c2 : j < rb.length
    · rw [List.getElem_append_left c1, List.getElem_append_left c2] at e; exact h.nd i j c1 c2 e
    · obtain rfl : j = rb.length := by omega
      rw [List.getElem_append_left c1] at e; simp only [List.getElem_concat_length] at e; exact absurd e (nr i c1)
    · obtain rfl : i = rb.length := by omega
      rw [List.getElem_append_left c2] at e; simp only [List.getElem_concat_length] at e; exact absurd e.symm (nr j c2)
    · omega

/-- Another block is written, or new. -/
theorem Rows.other {S0 U : Store} {bo w m : Nat} {rb : List (Nat × Nat)} {rows : List (List Hist)} (h : Rows S0 bo w rb rows m U) {q : Key} (x : Blk) (h1 : q ≠ .r bo) (h2 : ∀ i (h : i < rb.length), q ≠ .r (rb[i]).1) :
    Rows (S0.set q x) bo w rb rows m (U.set q x) := by
  refine ⟨h.len, h.wid, ?_, ?_, ?_, fun i hi => ?_, h.nd⟩
  · rw [Store.set_other _ _ h1.symm]; exact h.fo
  · intro k y hk
    by_cases e : k = q
    · subst e; rw [Store.set_same] at hk ⊢; exact hk
    · rw [Store.set_other _ _ e] at hk ⊢; exact h.sub _ _ hk
  · rw [Store.set_other _ _ h1.symm]; exact h.outer
  · obtain ⟨r1, r2, r3, r4⟩ := h.row i hi
    have hn := h2 i hi
    exact ⟨by rw [Store.set_other _ _ hn.symm]; exact r1, by rw [Store.set_other _ _ hn.symm]; exact r2, r3, r4⟩
theorem Rows.known {S0 U : Store} {bo w m : Nat} {rb : List (Nat × Nat)} {rows : List (List Hist)} (h : Rows S0 bo w rb rows m U) {q : Key} {y : Blk} (hq : S0 q = some y) (x : Blk) : Rows (S0.set q x) bo w rb rows m (U.set q x) :=
  h.other x (by rintro rfl; rw [h.fo] at hq; cases hq) (fun i hi => by rintro rfl; rw [(h.row i hi).2.1] at hq; cases hq)
theorem Rows.fresh {S0 U : Store} {bo w m : Nat} {rb : List (Nat × Nat)} {rows : List (List Hist)} (h : Rows S0 bo w rb rows m U) {q : Key} (hq : U q = none) (x : Blk) : Rows (S0.set q x) bo w rb rows m (U.set q x) :=
  h.other x (by rintro rfl; rw [h.outer] at hq; cases hq) (fun i hi => by rintro rfl; rw [(h.row i hi).1] at hq; cases hq)

theorem Rows.base {S S0 U : Store} {bo w m : Nat} {rb : List (Nat × Nat)} {rows : List (List Hist)} (h : Rows S0 bo w rb rows m U) (hs : Sub S S0) : Rows S bo w rb rows m U :=
  ⟨h.len, h.wid, none_of_sub hs h.fo, hs.trans h.sub, h.outer, fun i hi => let ⟨r1, r2, r3, r4⟩ := h.row i hi; ⟨r1, none_of_sub hs r2, r3, r4⟩, h.nd⟩
theorem next_cells {A : List AV} {m i : Nat} (hA : A.length = i) (x : AV) : List.take (i * 1) (A ++ zcs [.nils] (m + 1)) ++ [x] ++ List.drop (i * 1 + 1) (A ++ zcs [.nils] (m + 1)) = A ++ [x] ++ zcs [.nils] m := by
  have := splice_next A m x
  subst hA
  unfold splice at this
  rw [Nat.zero_add] at this
  exact this

/-- A cell of a row is written. -/
theorem Rows.setRow {S0 U : Store} {bo w m : Nat} {rb : List (Nat × Nat)} {rows : List (List Hist)} (h : Rows S0 bo w rb rows m U) {i : Nat} (hi : i < rb.length) {r : List Hist} (hr : r.length = w) :
    Rows S0 bo w rb (rows.set i r) m (U.set (.r (rb[i]).1) (rowB w (rb[i]).2 r)) := by
  obtain ⟨r1, r2, r3, r4⟩ := h.row i hi
  refine ⟨by simp [h.len], ?_, h.fo, ?_, ?_, fun j hj => ?_, h.nd⟩
  · intro x hx
    rcases List.mem_or_eq_of_mem_set hx with hx | rfl
    · exact h.wid x hx
    · exact hr
  · intro k y hk
    have : k ≠ .r (rb[i]).1 := by rintro rfl; rw [r2] at hk; cases hk
    rw [Store.set_other _ _ this]; exact h.sub _ _ hk
  · rw [Store.set_other _ _ (rkey_ne fun e => r3 e.symm)]; exact h.outer
  · obtain ⟨s1, s2, s3, s4⟩ := h.row j hj
    refine ⟨?_, s2, s3, s4⟩
    by_cases e : j = i
    · subst e; rw [Store.set_same]; congr 2
      have : j < rows.length := by rw [← h.len]; exact hj
      simp [List.getD_eq_getElem?_getD, this]
    · rw [Store.set_other _ _ (rkey_ne fun e2 => e (h.nd _ _ _ _ e2)), s1]; congr 2
      simp [List.getD_eq_getElem?_getD, List.getElem?_set, Ne.symm e]

/-! Cells of a row. -/
theorem flat_cut (r : List Hist) (t : List AV) : ∀ c, (h : c < r.length) → ((flatA (r.map Hist.cs) ++ t).drop (c * 3)).take 3 = (r[c]).cs.map .p := by
  induction r with
  | nil => intro c h; simp at h
  | cons x r ih =>
    intro c h
    cases c with
    | zero => simp [flatA, Hist.cs]
    | succ c =>
      have := ih c (by simpa using h)
      have e : flatA (List.map Hist.cs (x :: r)) = x.cs.map .p ++ flatA (List.map Hist.cs r) := by simp [flatA]
      rw [e, List.append_assoc, show (c + 1) * 3 = 3 + c * 3 by omega, ← List.drop_drop]
      simpa [Hist.cs] using this
theorem flat_put (r : List Hist) (t : List AV) (y : Hist) : ∀ c, (h : c < r.length) → splice (flatA (r.map Hist.cs) ++ t) (c * 3) (y.cs.map .p) = flatA ((r.set c y).map Hist.cs) ++ t := by
  induction r with
  | nil => intro c h; simp at h
  | cons x r ih =>
    intro c h
    have e : ∀ (x : Hist) (r : List Hist), flatA (List.map Hist.cs (x :: r)) = x.cs.map .p ++ flatA (List.map Hist.cs r) := by intro x r; simp [flatA]
    cases c with
    | zero => rw [List.set_cons_zero, e, e]; unfold splice; simp [Hist.cs]
    | succ c =>
      have := ih c (by simpa using h)
      rw [List.set_cons_succ, e, e, List.append_assoc, List.append_assoc, ← this]
      generalize flatA (List.map Hist.cs r) ++ t = F
      unfold splice
      rw [show (c + 1) * 3 = c * 3 + 3 by omega]
      simp only [Hist.cs, List.map_cons, List.map_nil, List.cons_append, List.nil_append, List.length_cons, List.length_nil]
      rw [show c * 3 + 3 + (0 + 1 + 1 + 1) = (c * 3 + (0 + 1 + 1 + 1)) + 3 by omega]
      simp only [List.take_succ_cons, List.drop_succ_cons, List.cons_append]
theorem hflat_len (r : List Hist) : (flatA (r.map Hist.cs)).length = r.length * 3 := by rw [flatA_length (sz := 3) hist_len]; simp

/-! All as data. -/
def mixC (w : Nat) (rb : List (Nat × Nat)) (rows : List (List Hist)) (j : Nat) : List AV := (List.range rb.length).map fun i => if i < j then .p (rowP (rows.getD i [])) else rowM w (rb.getD i (0, 0))
open Classical in
noncomputable def mixS (S U : Store) (bo w : Nat) (rb : List (Nat × Nat)) (rows : List (List Hist)) (j : Nat) : Store := fun k =>
  if k = .r bo then some (.cells (mixC w rb rows j)) else if ∃ i, j ≤ i ∧ ∃ h : i < rb.length, k = .r (rb[i]).1 then U k else S k
theorem mixC_len {w : Nat} {rb : List (Nat × Nat)} {rows : List (List Hist)} {j : Nat} : (mixC w rb rows j).length = rb.length := by simp [mixC]
theorem mixC_getD {w : Nat} {rb : List (Nat × Nat)} {rows : List (List Hist)} {j i : Nat} (h : i < rb.length) : (mixC w rb rows j).getD i .top = if i < j then .p (rowP (rows.getD i [])) else rowM w (rb.getD i (0, 0)) := by
  simp [mixC, List.getD_eq_getElem?_getD, h]

theorem frz_rows {S0 S U : Store} {bo w : Nat} {rb : List (Nat × Nat)} {rows : List (List Hist)} (h : Rows S0 bo w rb rows 0 U) (hS : Sub S S0) (a0 a1 a3 a4 a5 e : AV) :
    Frz U (.tuple [.agg [a0, a1, .ms bo 1 0 rb.length rb.length, a3, a4, a5], e]) S (.tuple [.agg [a0, a1, .p (.sl (rows.map rowE)), a3, a4, a5], e]) ∧
    Frz U (.agg [a0, a1, .ms bo 1 0 rb.length rb.length, a3, a4, a5]) S (.agg [a0, a1, .p (.sl (rows.map rowE)), a3, a4, a5]) := by
  have sbo : S (.r bo) = none := none_of_sub hS h.fo
  have srb : ∀ i (hi : i < rb.length), S (.r (rb[i]).1) = none := fun i hi => none_of_sub hS (h.row i hi).2.1
  have step0 : ∀ x, Frz U x (mixS S U bo w rb rows 0) x := by
    intro x
    apply Frz.forget
    intro k y hk
    unfold mixS at hk
    split at hk
    · rename_i e1
      subst e1
      rw [h.outer]
      rw [← hk]
      congr 2
      apply List.ext_getElem (by simp [mixC, zcs])
      intro i h1 h2
      have hi : i < rb.length := by simpa [zcs] using h1
      simp [mixC, zcs, hi]
    · split at hk
      · exact hk
      · exact h.sub _ _ (hS _ _ hk)
  have step : ∀ x j, j < rb.length → Frz (mixS S U bo w rb rows j) x (mixS S U bo w rb rows (j + 1)) x := by
    intro x j hj
    obtain ⟨r1, r2, r3, r4⟩ := h.row j hj
    have hw : (rows.getD j []).length = w := by
      have : j < rows.length := by rw [← h.len]; exact hj
      rw [show rows.getD j [] = rows[j] by simp [List.getD_eq_getElem?_getD, this]]
      exact h.wid _ (List.getElem_mem this)
    refine Frz.freeze (b := (rb[j]).1) (m := w * 3) (cs := flatA ((rows.getD j []).map Hist.cs) ++ List.replicate (((rb[j]).2 - w) * 3) .top) ?_ ?_ ?_ (Or.inl (Or.inl (Or.inl rfl)))
    · unfold mixS
      rw [if_neg (rkey_ne r3), if_pos ⟨j, Nat.le_refl _, hj, rfl⟩, r1]; rfl
    · rw [List.length_append, hflat_len, hw]; omega
    · intro k y hk
      unfold mixS at hk
      split at hk
      · rename_i e1
        subst e1
        refine ⟨rkey_ne fun e => r3 e.symm, Or.inr ⟨mixC w rb rows j, mixC w rb rows (j + 1), by unfold mixS; rw [if_pos rfl], by injection hk with hk; exact hk.symm, by rw [mixC_len, mixC_len], fun i hi => ?_⟩⟩
        rw [mixC_len] at hi
        rw [mixC_getD hi, mixC_getD hi]
        by_cases c1 : i < j
        · rw [if_pos c1, if_pos (by omega)]; exact Or.inl rfl
        · by_cases c2 : i = j
          · subst c2
            rw [if_neg c1, if_pos (by omega)]
            refine Or.inr (Or.inr ⟨3, 0, w, (rb[i]).2, (rows.getD i []).map Hist.cs, ?_, by omega, rfl, by rw [List.length_map]; exact hw, hist_len, ?_⟩)
            · simp [rowM, List.getD_eq_getElem?_getD, hi]
            · rw [List.drop_zero, List.take_append_of_le_length (by rw [hflat_len, hw]; exact Nat.le_refl _), List.take_of_length_le (by rw [hflat_len, hw]; exact Nat.le_refl _)]
          · rw [if_neg c1, if_neg (by omega)]; exact Or.inl rfl
      · rename_i e1
        split at hk
        · rename_i e2
          obtain ⟨i, hi1, hi2, rfl⟩ := e2
          refine ⟨rkey_ne fun e => ?_, Or.inl ?_⟩
          · have := h.nd _ _ _ _ e; omega
          · unfold mixS; rw [if_neg e1, if_pos ⟨i, by omega, hi2, rfl⟩]; exact hk
        · rename_i e2
          refine ⟨?_, Or.inl ?_⟩
          · rintro rfl; rw [srb j hj] at hk; cases hk
          · unfold mixS; rw [if_neg e1, if_neg ?_]; exact hk
            rintro ⟨i, hi1, hi2, rfl⟩
            rw [srb i hi2] at hk; cases hk
  have all : ∀ x j, j ≤ rb.length → Frz U x (mixS S U bo w rb rows j) x := by
    intro x j
    induction j with
    | zero => intro _; exact step0 x
    | succ j ih => intro hj; exact (ih (by omega)).trans (step x j (by omega))
  have hbo : mixS S U bo w rb rows rb.length (.r bo) = some (.cells (mixC w rb rows rb.length)) := by unfold mixS; rw [if_pos rfl]
  have hflat : mixC w rb rows rb.length = flatA (rows.map rowE) := by
    apply List.ext_getElem
    · rw [mixC_len, flatA_length (sz := 1) row_len, h.len]; simp
    · intro i h1 h2
      have hi : i < rb.length := by rw [mixC_len] at h1; exact h1
      have hi2 : i < rows.length := by rw [← h.len]; exact hi
      have e1 := flatA_getD (sz := 1) (els := rows.map rowE) row_len i 0 (by simpa using hi2) (by omega)
      rw [Nat.mul_one, Nat.add_zero, List.getD_eq_getElem?_getD, List.getElem?_eq_getElem h2, Option.getD_some] at e1
      rw [e1]
      have e2 := mixC_getD (w := w) (rows := rows) (j := rb.length) hi
      rw [if_pos hi, List.getD_eq_getElem?_getD, List.getElem?_eq_getElem h1, Option.getD_some] at e2
      rw [e2]
      simp [List.getD_eq_getElem?_getD, hi2, rowE]
  have hlast : ∀ k y, S k = some y → k ≠ .r bo ∧ fzB bo rb.length (mixC w rb rows rb.length) (mixS S U bo w rb rows rb.length k) y := by
    intro k y hk
    have n1 : k ≠ .r bo := by rintro rfl; rw [sbo] at hk; cases hk
    refine ⟨n1, Or.inl ?_⟩
    unfold mixS
    rw [if_neg n1, if_neg ?_]; exact hk
    rintro ⟨i, hi1, hi2, rfl⟩
    omega
  have one : fz1 bo rb.length (mixC w rb rows rb.length) (.ms bo 1 0 rb.length rb.length) (.p (.sl (rows.map rowE))) := by
    refine Or.inr (Or.inr ⟨1, 0, rb.length, rb.length, rows.map rowE, rfl, by omega, rfl, by rw [List.length_map, h.len], row_len, ?_⟩)
    rw [List.drop_zero, Nat.mul_one, List.take_of_length_le (by rw [mixC_len]; exact Nat.le_refl _), hflat]
  have agg : fz2 bo rb.length (mixC w rb rows rb.length) (.agg [a0, a1, .ms bo 1 0 rb.length rb.length, a3, a4, a5]) (.agg [a0, a1, .p (.sl (rows.map rowE)), a3, a4, a5]) :=
    Or.inr ⟨_, _, rfl, rfl, fzL_cons (Or.inl rfl) (fzL_cons (Or.inl rfl) (fzL_cons one (fzL_cons (Or.inl rfl) (fzL_cons (Or.inl rfl) (fzL_cons (Or.inl rfl) (fzL_nil _ _ _))))))⟩
  refine ⟨(all _ rb.length (Nat.le_refl _)).trans (Frz.freeze hbo (by rw [mixC_len]; exact Nat.le_refl _) hlast (Or.inr ⟨_, _, rfl, rfl, rfl, fun i hi => ?_⟩)), (all _ rb.length (Nat.le_refl _)).trans (Frz.freeze hbo (by rw [mixC_len]; exact Nat.le_refl _) hlast (Or.inl agg))⟩
  match i, hi with
  | 0, _ => exact agg
  | 1, _ => exact Or.inl (Or.inl rfl)
end Go.Sk
end

-- W15e
section
namespace Go.Sk
open Go Go.Proofs

def gridM (g : Grid) (bo n : Nat) : List AV := [i64 g.w, .p (.sl (g.sd.map Seed.pv)), .ms bo 1 0 n n, i64 g.all.k, i64 g.all.g, .p (.sl (g.all.ls.map lvE))]
set_option maxHeartbeats 1000000 in
theorem copied (g : Grid) (w : Nat) (hw : 1 ≤ w) (hw2 : w < 1048576) (hn : g.rows.length < 1048576) (hsd : g.sd.length < 1048576) (hr : ∀ r ∈ g.rows, r.length = w) (S : Store) :
    CallR Tryz.prog 24 [g.av] S (fun r S' => ∃ bo rb, r = .agg (gridM g bo g.rows.length) ∧ Rows S bo w rb g.rows 0 S') := by
  refine callR_of Tryz.func24 rfl rfl (xc_ok (bitB 30783) _ _ _ ?_)
  simp only [go_sem]
  refine alloc_intro fun c1 h1 => ?_
  simp only [go_sem]
  refine alloc_intro fun c2 h2 => ?_
  simp only [fresh_set] at h2
  simp only [go_sem, h2, List.length_map]
  refine ⟨by clear h2; omega, by clear h2; omega, make_intro fun bo hbo => ?_⟩
  simp only [fresh_set] at hbo
  simp only [go_sem, h2, hbo]
  have k1 : (((S.set (.r c1) (.cells [i64 g.w, .p (.sl (g.sd.map Seed.pv)), .p (.sl (g.rows.map rowE)), i64 g.all.k, i64 g.all.g, .p (.sl (g.all.ls.map lvE))])).set (.r c2) (.cells [i64 0, .nils, .nils, i64 0, i64 0, .nils])) (.r c1)) = some (.cells [i64 g.w, .p (.sl (g.sd.map Seed.pv)), .p (.sl (g.rows.map rowE)), i64 g.all.k, i64 g.all.g, .p (.sl (g.all.ls.map lvE))]) := by simp only [go_sem, h2]
  have k2 : (((S.set (.r c1) (.cells [i64 g.w, .p (.sl (g.sd.map Seed.pv)), .p (.sl (g.rows.map rowE)), i64 g.all.k, i64 g.all.g, .p (.sl (g.all.ls.map lvE))])).set (.r c2) (.cells [i64 0, .nils, .nils, i64 0, i64 0, .nils])) (.r c2)) = some (.cells [i64 0, .nils, .nils, i64 0, i64 0, .nils]) := by simp only [go_sem, h2]
  have hS1 : Sub S ((S.set (.r c1) (.cells [i64 g.w, .p (.sl (g.sd.map Seed.pv)), .p (.sl (g.rows.map rowE)), i64 g.all.k, i64 g.all.g, .p (.sl (g.all.ls.map lvE))])).set (.r c2) (.cells [i64 0, .nils, .nils, i64 0, i64 0, .nils])) := Sub.set (Sub.set (Sub.refl _) h1 _) h2.2 _
  have kbo : ((S.set (.r c1) (.cells [i64 g.w, .p (.sl (g.sd.map Seed.pv)), .p (.sl (g.rows.map rowE)), i64 g.all.k, i64 g.all.g, .p (.sl (g.all.ls.map lvE))])).set (.r c2) (.cells [i64 0, .nils, .nils, i64 0, i64 0, .nils])) (.r bo) = none := by
    have := hbo.2.2
    simp [Store.set, hbo.1, hbo.2.1]; exact this
  generalize (S.set (.r c1) (.cells [i64 g.w, .p (.sl (g.sd.map Seed.pv)), .p (.sl (g.rows.map rowE)), i64 g.all.k, i64 g.all.g, .p (.sl (g.all.ls.map lvE))])).set (.r c2) (.cells [i64 0, .nils, .nils, i64 0, i64 0, .nils]) = S1 at *
  refine AWP.roam (ι := Nat × List (Nat × Nat) × Store) (fun y => y.1 ≤ g.rows.length ∧ y.2.1.length = y.1 ∧ Rows S1 bo w y.2.1 (g.rows.take y.1) (g.rows.length - y.1) y.2.2)
    (fun y => ⟨Env.get [(1, .sp c1 0), (2, .sp c2 0), (3, .ms bo 1 0 g.rows.length g.rows.length), (11, .p (.sl (g.rows.map rowE))), (12, i64 g.rows.length), (13, i64 y.1)], y.2.2, 31, []⟩) (fun y => g.rows.length - y.1) (0, [], S1.set (.r bo) (.cells (zcs [.nils] g.rows.length))) ⟨Nat.zero_le _, rfl, by rw [List.take_zero]; exact Rows.start kbo⟩ ?_ ?_
  · exact le_of (by simp only [go_sem] <;> rfl) (Sub.refl _) rfl rfl (by simp)
  · rintro ⟨i, rb, U⟩ ⟨hi, hl, hR⟩ ih
    dsimp only at hi hl hR ⊢
    refine AWPH.step (xc_ok (bitB 30783) _ _ _ ?_)
    by_cases c : i < g.rows.length
    rotate_left
    · obtain rfl : i = g.rows.length := by clear h2 hbo; omega
      have u1 := hR.sub _ _ k1
      have u2 := hR.sub _ _ k2
      rw [Nat.sub_self, List.take_length] at hR
      simp only [go_sem, u1, u2]
      refine (clone_seeds g.sd (by clear h2 hbo; omega)).useA ?_
      simp only [go_sem, u1, u2, h2]
      have f1 : S (.r c1) = none := h1
      have f2 : S (.r c2) = none := h2.2
      have hne : Key.r c2 ≠ .r c1 := rkey_ne h2.1.1
      exact ⟨_, Sub.refl _, Or.inl ⟨bo, rb, rfl, Rows.base ((hR.known k1 _).known ((Store.set_other _ _ hne).trans k2) _) (Sub.set (Sub.set hS1 f1 _) f2 _)⟩⟩
    have hri : g.rows[i].length = w := hr _ (List.getElem_mem c)
    obtain ⟨q, hq⟩ : ∃ q, g.rows.length - i = q + 1 := ⟨g.rows.length - i - 1, by clear h2 hbo; omega⟩
    rw [hq] at hR
    have ub := hR.outer
    simp only [go_sem, c, ltN' c, getD_map' _ _ _ _ c, rowE_mk]
    refine (clone_row g.rows[i] (by intro e; rw [e] at hri; simp at hri; omega) (by clear h2 hbo; omega) U).useA ?_
    rintro _ _ ⟨b, cc, hb, hc, rfl, rfl⟩
    have nb : ¬ bo = b ∧ ¬ b = bo := by constructor <;> rintro rfl <;> (rw [show U (.r _) = none from hb] at ub; cases ub)
    simp only [go_sem, ltN' c, nb, ub]
    refine ⟨by rw [List.length_append, List.length_map, zcs_length, hl]; simp, ?_⟩
    rw [next_cells (by rw [List.length_map, hl])]
    have hR2 := hR.grow (b := b) (c := cc) hb hri (hri ▸ hc)
    unfold rowB at hR2
    rw [← List.take_succ_eq_append_getElem c, show q = g.rows.length - (i + 1) by clear h2 hbo nb; omega] at hR2
    rw [hri] at *
    refine (ih (i + 1, rb ++ [(b, cc)], _) ⟨c, by simp [hl], hR2⟩ (by dsimp only; clear h2 hbo nb; omega)).back ?_ (by simp) ?_
    · dsimp only
      rw [show g.rows.length - (i + 1) = q by clear h2 hbo nb; omega]
      exact Sub.refl _
    · simp only [go_sem, wi_succ (show i < 4611686018427387904 by clear h2 hbo nb; omega)]
end Go.Sk
end

-- W15f
section
namespace Go.Sk
open Go Go.Proofs

theorem change_to (cc b o : Nat) (t k w : Nat) (err : Int) (cs : List AV) (h : Hist) (S : Store) (hcc : S (.r cc) = some (.cells [u64 t, u64 k, u64 w, i64 err])) (hb : S (.r b) = some (.cells cs)) (hne : ¬ b = cc ∧ ¬ cc = b)
    (hcut : (cs.drop o).take 3 = h.cs.map .p) (hlen : o + 3 ≤ cs.length) (hok : h.Ok) (hw : w < 18446744073709551616) :
    CallR Tryz.prog 38 [.sp cc 0, .sp b o] S
      (fun _ S' => (err = 0 → S' = (S.set (.r b) (.cells (splice cs o ((addH h t w).1.cs.map .p)))).set (.r cc) (.cells [u64 t, u64 k, u64 w, i64 (addH h t w).2])) ∧ (¬ err = 0 → S' = S)) := by
  refine callR_of Tryz.func38 rfl rfl (xc_ok (bitB 259) _ _ _ ?_)
  simp only [go_sem, hcc]
  by_cases c : err = 0
  rotate_left
  · have e : (err == 0) = false := by simpa using c
    simp only [go_sem, e]
    exact ⟨_, Sub.refl _, Or.inl ⟨fun h => absurd h c, fun _ => rfl⟩⟩
  subst c
  simp only [go_sem, beq_self_eq_true]
  refine AWP.draw2 (bitB 259) mixed (by kernel_rfl) (fun j => .tuple [(addH h t w).1.av, i64 (addH h t w).2]) ?_
  simp only [go_sem, hcc, hb, hne, hcut]
  exact ⟨hlen, (hist_addH h hok t w hw).draw, hlen, _, Sub.refl _, Or.inl rfl⟩

/-! What an event does to a grid. -/
def colN (g : Grid) (x i : Nat) : Nat := (colV (g.sd.getD i default) x g.w).toNat
noncomputable def stepG (g : Grid) (e : Event) (i : Nat) (y : List (List Hist) × Int) : List (List Hist) × Int :=
  if y.2 = 0 then (y.1.set i ((y.1.getD i []).set (colN g e.k i) (addH ((y.1.getD i []).getD (colN g e.k i) zeroH) e.t e.w).1), (addH ((y.1.getD i []).getD (colN g e.k i) zeroH) e.t e.w).2) else y
noncomputable def rowsV (g : Grid) (e : Event) : Nat → List (List Hist) × Int
  | 0 => (g.rows, (addH g.all e.t e.w).2)
  | i + 1 => stepG g e i (rowsV g e i)
noncomputable def addG (g : Grid) (e : Event) : Grid × Int :=
  if e.k < 2305843009213693951 then
    if (rowsV g e g.rows.length).2 = 0 then (⟨g.w, g.sd, (rowsV g e g.rows.length).1, (addH g.all e.t e.w).1⟩, 0) else (zeroG, (rowsV g e g.rows.length).2)
  else (zeroG, 7)
structure Grid.Ok (g : Grid) : Prop where
  w1 : 1 ≤ g.w
  w2 : g.w < 1048576
  n : g.rows.length < 1048576
  sd : g.sd.length = g.rows.length
  wid : ∀ r ∈ g.rows, r.length = g.w.toNat
  all : g.all.Ok
  hs : ∀ r ∈ g.rows, ∀ h ∈ r, h.Ok
  so : ∀ s ∈ g.sd, s.Ok
theorem colN_lt (g : Grid) (h : 1 ≤ g.w) (x i : Nat) : colN g x i < g.w.toNat := by
  unfold colN colV
  split
  · simp; omega
  · rw [Int.toNat_natCast]; exact Nat.mod_lt _ (by omega)
theorem colV_nn (s : Seed) (x : Nat) (w : Int) : 0 ≤ colV s x w := by
  unfold colV; split
  · exact Int.le_refl _
  · exact Int.natCast_nonneg _
theorem rowsV_len (g : Grid) (e : Event) : ∀ i, (rowsV g e i).1.length = g.rows.length := by
  intro i
  induction i with
  | zero => rfl
  | succ i ih => unfold rowsV stepG; split <;> simp [ih]
theorem rowsV_later (g : Grid) (e : Event) : ∀ i j, i ≤ j → (rowsV g e i).1.getD j [] = g.rows.getD j [] := by
  intro i
  induction i with
  | zero => intro j _; rfl
  | succ i ih =>
    intro j hj
    unfold rowsV stepG
    split
    · rw [← ih j (by omega)]
      simp [List.getD_eq_getElem?_getD, List.getElem?_set, show ¬ i = j by omega]
    · exact ih j (by omega)
theorem rowsV_stop (g : Grid) (e : Event) (i : Nat) (h : ¬ (rowsV g e i).2 = 0) : ∀ j, rowsV g e (i + j) = rowsV g e i := by
  intro j
  induction j with
  | zero => rfl
  | succ j ih => show stepG g e (i + j) (rowsV g e (i + j)) = _; rw [ih]; unfold stepG; rw [if_neg h]
end Go.Sk
end

-- W15g
section
namespace Go.Sk
open Go Go.Proofs

set_option maxHeartbeats 1000000 in
theorem grid_Add0 (g : Grid) (e : Event) (hg : g.Ok) (hk : e.k < 18446744073709551616) (hw : e.w < 18446744073709551616) (S : Store) : CallR Tryz.prog 12 [g.av, e.av] S
    (fun r S' => (r = .tuple [zeroG.av, i64 (addG g e).2] ∧ ¬ (addG g e).2 = 0 ∧ addG g e = (zeroG, (addG g e).2) ∧ Sub S S') ∨ ∃ bo rb, (addG g e).2 = 0 ∧ r = .tuple [.agg (gridM (addG g e).1 bo rb.length), i64 0] ∧ Rows S bo g.w.toNat rb (addG g e).1.rows 0 S') := by
  refine callR_of Tryz.func12 rfl rfl (xc_ok (bitB 562953979957759) _ _ _ ?_)
  simp only [go_sem]
  refine alloc_intro fun c2 h2 => ?_
  simp only [go_sem]
  refine alloc_intro fun c3 h3 => ?_
  simp only [fresh_set] at h3
  simp only [go_sem, h3]
  refine alloc_intro fun c4 h4 => ?_
  simp only [fresh_set] at h4
  simp only [go_sem, h3, h4]
  refine (hash_Key e.k).useA ?_
  by_cases ck : e.k < 2305843009213693951
  rotate_left
  · simp only [go_sem, ck, Bool.not_false, h4]
    have ha : addG g e = (zeroG, 7) := by unfold addG; rw [if_neg ck]
    refine ⟨S, by (repeat (first | exact Sub.refl _ | refine Sub.setF ?_ (by first | assumption | simp only [*]) | refine Sub.setV ?_ (by first | assumption | simp only [*]))), Or.inl (Or.inl ⟨?_, ?_, ?_, Sub.refl _⟩)⟩ <;> rw [ha]
    · simp [zeroG, zeroH]
    · decide
  simp only [go_sem, ck, Bool.not_true, h3, h4]
  have hwt : ((g.w.toNat : Nat) : Int) = g.w := by have := hg.w1; clear h3 h4; omega
  have hwt1 : 1 ≤ g.w.toNat := by have := hg.w1; clear h3 h4; omega
  have hwt2 : g.w.toNat < 1048576 := by have := hg.w2; clear h3 h4; omega
  have hnn := hg.n
  have hsdn := hg.sd
  refine (copied g g.w.toNat hwt1 hwt2 hnn (by clear h3 h4; omega) hg.wid _).useA ?_
  rintro _ U ⟨bo, rb, rfl, hR⟩
  have k2 := hR.sub (.r c2) (.cells [i64 g.w, .p (.sl (g.sd.map Seed.pv)), .p (.sl (g.rows.map rowE)), i64 g.all.k, i64 g.all.g, .p (.sl (g.all.ls.map lvE))]) (by simp only [go_sem, h3, h4])
  have k3 := hR.sub (.r c3) (.cells [u64 e.t, u64 e.k, u64 e.w]) (by simp only [go_sem, h3, h4])
  have k4 := hR.sub (.r c4) (.cells [i64 0, .nils, .nils, i64 0, i64 0, .nils]) (by simp only [go_sem, h3, h4])
  have n32 : ¬ c3 = c2 ∧ ¬ c2 = c3 := h3.1
  have n43 : ¬ c4 = c3 ∧ ¬ c3 = c4 := h4.1
  have n42 : ¬ c4 = c2 ∧ ¬ c2 = c4 := h4.2.1
  have gs : ∀ i, i < rb.length → ∃ h : i < g.rows.length, True := fun i h => ⟨by rw [← hR.len]; exact h, trivial⟩
  simp only [go_sem, k2, k3, k4, n32, n43, n42, gridM]
  refine alloc_intro fun c18 h18 => ?_
  simp only [fresh_set] at h18
  have n2 : ¬ c18 = c2 ∧ ¬ c2 = c18 := h18.1
  have u18 : U (.r c18) = none := h18.2
  have n3 : ¬ c18 = c3 ∧ ¬ c3 = c18 := by constructor <;> rintro rfl <;> (rw [u18] at k3; cases k3)
  have n4 : ¬ c18 = c4 ∧ ¬ c4 = c18 := by constructor <;> rintro rfl <;> (rw [u18] at k4; cases k4)
  simp only [go_sem, k2, k3, k4, n32, n43, n42, n2, n3, n4]
  refine (change_to c18 c2 3 e.t e.k e.w 0 [i64 g.w, .p (.sl (g.sd.map Seed.pv)), .ms bo 1 0 g.rows.length g.rows.length, i64 g.all.k, i64 g.all.g, .p (.sl (g.all.ls.map lvE))] g.all _ (by simp only [go_sem, n2]) (by simp only [go_sem, n2]) ⟨n2.2, n2.1⟩ rfl (by simp) hg.all hw).useA ?_
  rintro _ V ⟨hV0, _⟩
  have hV := hV0 rfl
  clear ‹¬ (0 : Int) = 0 → _›
  have y2 : S (.r c2) = none := h2
  have y3 : S (.r c3) = none := h3.2
  have y4 : S (.r c4) = none := h4.2.2
  have z18 : S (.r c18) = none := none_of_sub ((Sub.set (Sub.set (Sub.set (Sub.refl _) y2 _) y3 _) y4 _).trans hR.sub) u18
  have T0 : ∃ T, T (.r c2) = some (.cells [i64 g.w, .p (.sl (g.sd.map Seed.pv)), .ms bo 1 0 g.rows.length g.rows.length, i64 (addH g.all e.t e.w).1.k, i64 (addH g.all e.t e.w).1.g, .p (.sl ((addH g.all e.t e.w).1.ls.map lvE))]) ∧
      T (.r c3) = some (.cells [u64 e.t, u64 e.k, u64 e.w]) ∧ T (.r c4) = some (.cells [i64 0, .nils, .nils, i64 0, i64 0, .nils]) ∧
      T (.r c18) = some (.cells [u64 e.t, u64 e.k, u64 e.w, i64 (addH g.all e.t e.w).2]) ∧ Sub S T ∧ Rows T bo g.w.toNat rb g.rows 0 V := by
    have hRT := (((hR.known (q := .r c2) (y := .cells [i64 g.w, .p (.sl (g.sd.map Seed.pv)), .p (.sl (g.rows.map rowE)), i64 g.all.k, i64 g.all.g, .p (.sl (g.all.ls.map lvE))]) (by simp only [go_sem, n42, n32]) (.cells [i64 g.w, .p (.sl (g.sd.map Seed.pv)), .ms bo 1 0 g.rows.length g.rows.length, i64 g.all.k, i64 g.all.g, .p (.sl (g.all.ls.map lvE))])).fresh (q := .r c18) (by simp only [go_sem, n2]; exact u18) (.cells [u64 e.t, u64 e.k, u64 e.w, i64 0])).known (q := .r c2)
      (y := .cells [i64 g.w, .p (.sl (g.sd.map Seed.pv)), .ms bo 1 0 g.rows.length g.rows.length, i64 g.all.k, i64 g.all.g, .p (.sl (g.all.ls.map lvE))]) (by simp only [go_sem, n2]) (.cells (splice [i64 g.w, .p (.sl (g.sd.map Seed.pv)), .ms bo 1 0 g.rows.length g.rows.length, i64 g.all.k, i64 g.all.g, .p (.sl (g.all.ls.map lvE))] 3 ((addH g.all e.t e.w).1.cs.map .p)))).known (q := .r c18)
      (y := .cells [u64 e.t, u64 e.k, u64 e.w, i64 0]) (by simp only [go_sem, n2]) (.cells [u64 e.t, u64 e.k, u64 e.w, i64 (addH g.all e.t e.w).2])
    rw [← hV] at hRT
    refine ⟨_, ?_, ?_, ?_, ?_, ?_, hRT⟩
    · simp only [go_sem, n2] <;> rfl
    · simp only [go_sem, n2, n3, n32, n43]
    · simp only [go_sem, n2, n3, n4, n32, n43, n42]
    · simp only [go_sem]
    · have z2 : S (.r c2) = none := h2
      have z3 : S (.r c3) = none := h3.2
      have z4 : S (.r c4) = none := h4.2.2
      exact Sub.set (Sub.set (Sub.set (Sub.set (Sub.set (Sub.set (Sub.set (Sub.refl _) z2 _) z3 _) z4 _) z2 _) z18 _) z2 _) z18 _
  obtain ⟨T, t2, t3, t4, t18, tS, hR2⟩ := T0
  clear hV hV0 hR k2 k3 k4
  have v2 := hR2.sub _ _ t2
  have v3 := hR2.sub _ _ t3
  have v4 := hR2.sub _ _ t4
  have v18 := hR2.sub _ _ t18
  simp only [go_sem, v2, v3]
  refine (hash_Columns g.sd e.k g.w (by clear h3 h4 h18 n2 n3 n4 n32 n43 n42; omega) hg.so hk (by have := hg.w2; clear h3 h4 h18 n2 n3 n4 n32 n43 n42; omega)).useA ?_
  have hcl : (colsL g.sd e.k g.w).length = g.rows.length := by rw [← hsdn]; simp [colsL]
  simp only [go_sem, List.length_map, hcl]
  refine AWP.roam (ι := Nat × Store) (fun y => y.1 ≤ g.rows.length ∧ ∃ T, T (.r c2) = some (.cells [i64 g.w, .p (.sl (g.sd.map Seed.pv)), .ms bo 1 0 g.rows.length g.rows.length, i64 (addH g.all e.t e.w).1.k, i64 (addH g.all e.t e.w).1.g, .p (.sl ((addH g.all e.t e.w).1.ls.map lvE))]) ∧
      T (.r c4) = some (.cells [i64 0, .nils, .nils, i64 0, i64 0, .nils]) ∧
      T (.r c18) = some (.cells [u64 e.t, u64 e.k, u64 e.w, i64 (rowsV g e y.1).2]) ∧ Sub S T ∧ Rows T bo g.w.toNat rb (rowsV g e y.1).1 0 y.2)
    (fun y => ⟨Env.get [(2, .sp c2 0), (4, .sp c4 0), (6, .sp c18 0), (28, .p (.sl ((colsL g.sd e.k g.w).map colE))), (29, i64 g.rows.length), (30, i64 y.1)], y.2, 56, []⟩) (fun y => g.rows.length - y.1) (0, V) ⟨Nat.zero_le _, T, t2, t4, t18, tS, hR2⟩ ?_ ?_
  · exact le_of (by simp only [go_sem] <;> rfl) (Sub.refl _) rfl rfl (by simp)
  clear hR2 v2 v3 v4 v18 t2 t3 t4 t18 tS T V
  rintro ⟨i, V⟩ ⟨hi, T, t2, t4, t18, tS, hR⟩ ih
  dsimp only at hi t2 t4 t18 tS hR ⊢
  have v2 := hR.sub _ _ t2
  have v4 := hR.sub _ _ t4
  have v18 := hR.sub _ _ t18
  have hrl : rb.length = g.rows.length := by rw [hR.len, rowsV_len]
  refine AWPH.step (xc_ok (bitB 562953979957759) _ _ _ ?_)
  by_cases c : i < g.rows.length
  rotate_left
  · obtain rfl : i = g.rows.length := by clear h3 h4 h18 n2 n3 n4 n32 n43 n42; omega
    simp only [go_sem, v2, v18]
    by_cases er : (rowsV g e g.rows.length).2 = 0
    · have eb : ((rowsV g e g.rows.length).2 != 0) = false := by simpa using er
      have ha : addG g e = (⟨g.w, g.sd, (rowsV g e g.rows.length).1, (addH g.all e.t e.w).1⟩, 0) := by unfold addG; rw [if_pos ck, if_pos er]
      simp only [go_sem, eb, v2, v4]
      have z4 : S (.r c4) = none := h4.2.2
      refine ⟨_, Sub.refl _, Or.inl (Or.inr ⟨bo, rb, by rw [ha], by rw [ha, hrl], ?_⟩)⟩
      rw [ha]; exact (hR.known t4 _).base (Sub.set tS z4 _)
    · have eb : ((rowsV g e g.rows.length).2 != 0) = true := by simpa using er
      have ha : addG g e = (zeroG, (rowsV g e g.rows.length).2) := by unfold addG; rw [if_pos ck, if_neg er]
      simp only [go_sem, eb]
      refine AWP.orders (bitB 562953979957759) mixed [[0,1,2,3,4,5,6],[0,1,2,3,5,4,6],[0,1,2,5,3,4,6],[0,1,5,2,3,4,6],[0,5,1,2,3,4,6],[1,0,2,3,4,5,6],[1,0,2,3,5,4,6],[1,0,2,5,3,4,6],[1,0,5,2,3,4,6],[1,2,0,3,4,5,6],[1,2,0,3,5,4,6],[1,2,0,5,3,4,6],[1,2,3,0,4,5,6],[1,2,3,0,5,4,6],[1,2,3,4,0,5,6]] (by kernel_rfl) ?_
      have z4 : S (.r c4) = none := h4.2.2
      simp only [List.forall_mem_cons, List.not_mem_nil, false_implies, implies_true, and_true, opsAt, List.getElem?_cons_zero, List.getElem?_cons_succ]
      refine ⟨?_, ?_, ?_, ?_, ?_, ?_, ?_, ?_, ?_, ?_, ?_, ?_, ?_, ?_, ?_⟩
      all_goals
        simp only [go_sem, v2, v4, v18, n4]
        refine ⟨_, Sub.refl _, Or.inl (Or.inl ⟨?_, ?_, ?_, Sub.set (tS.trans hR.sub) z4 _⟩)⟩ <;> rw [ha]
        · simp [zeroG, zeroH]
        · exact er
  have hci : (colsL g.sd e.k g.w)[i]'(by rw [hcl]; exact c) = ((colN g e.k i : Nat) : Int) := by
    have hcs : i < g.sd.length := by rw [hsdn]; exact c
    unfold colN
    simp only [colsL, List.getElem_map]
    rw [show g.sd.getD i default = g.sd[i] by simp [List.getD_eq_getElem?_getD, hcs], Int.toNat_of_nonneg (colV_nn _ _ _)]
  have hcb : colN g e.k i < g.w.toNat := colN_lt g hg.w1 e.k i
  have hir : i < rb.length := by rw [hrl]; exact c
  have vo := hR.outer
  obtain ⟨vr, _, vne, vcap⟩ := hR.row i hir
  have hget : (List.map (rowM g.w.toNat) rb ++ zcs [AV.nils] 0).getD (i * 1) .top = .ms (rb[i]).1 3 0 g.w.toNat (rb[i]).2 := by
    rw [Nat.mul_one]; simp [List.getD_eq_getElem?_getD, List.getElem?_append_left, hir, rowM]
  simp only [go_sem, c, ltN' c, getD_map' _ _ _ _ (show i < (colsL g.sd e.k g.w).length by rw [hcl]; exact c), colE, hci, v2, vo, hget]
  have hri : (rowsV g e i).1.getD i [] = g.rows[i] := by rw [rowsV_later g e i i (Nat.le_refl _)]; simp [List.getD_eq_getElem?_getD, c]
  have hrw : g.rows[i].length = g.w.toNat := hg.wid _ (List.getElem_mem c)
  have hcr : colN g e.k i < g.rows[i].length := by rw [hrw]; exact hcb
  have hok : (g.rows[i][colN g e.k i]).Ok := hg.hs _ (List.getElem_mem c) _ (List.getElem_mem hcr)
  have hzd : (g.rows[i]).getD (colN g e.k i) zeroH = g.rows[i][colN g e.k i] := by simp [List.getD_eq_getElem?_getD, hcr]
  have trb : T (.r (rb[i]).1) = none := (hR.row i hir).2.1
  have nrb : ¬ (rb[i]).1 = c18 ∧ ¬ c18 = (rb[i]).1 := by constructor <;> (intro e; first | (rw [e] at trb; rw [trb] at t18; cases t18) | (rw [← e] at trb; rw [trb] at t18; cases t18))
  rw [hri] at vr
  have hse : rowsV g e (i + 1) = stepG g e i (rowsV g e i) := rfl
  unfold stepG at hse
  rw [hri, hzd] at hse
  refine ⟨by rw [hcl]; exact c, by rw [List.length_append, List.length_map]; clear h3 h4 h18 n2 n3 n4 n32 n43 n42 nrb vne; omega, hcb, ?_⟩
  refine (change_to c18 (rb[i]).1 (colN g e.k i * 3) e.t e.k e.w (rowsV g e i).2 _ g.rows[i][colN g e.k i] V v18 vr nrb (flat_cut _ _ _ hcr) (by rw [List.length_append, hflat_len]; clear h3 h4 h18 n2 n3 n4 n32 n43 n42 nrb vne; omega) hok hw).useA ?_
  rintro _ V' ⟨hV1, hV2⟩
  have hq : wi ((i : Int) + 1) = ((i + 1 : Nat) : Int) := wi_succ (show i < 4611686018427387904 by clear h3 h4 h18 n2 n3 n4 n32 n43 n42 nrb vne; omega)
  have hT : ∃ T, T (.r c2) = some (.cells [i64 g.w, .p (.sl (g.sd.map Seed.pv)), .ms bo 1 0 g.rows.length g.rows.length, i64 (addH g.all e.t e.w).1.k, i64 (addH g.all e.t e.w).1.g, .p (.sl ((addH g.all e.t e.w).1.ls.map lvE))]) ∧
      T (.r c4) = some (.cells [i64 0, .nils, .nils, i64 0, i64 0, .nils]) ∧
      T (.r c18) = some (.cells [u64 e.t, u64 e.k, u64 e.w, i64 (rowsV g e (i + 1)).2]) ∧ Sub S T ∧ Rows T bo g.w.toNat rb (rowsV g e (i + 1)).1 0 V' := by
    by_cases er : (rowsV g e i).2 = 0
    · rw [if_pos er] at hse
      rw [hV1 er, hse, flat_put _ _ _ _ hcr]
      refine ⟨_, ?_, ?_, ?_, ?_, (hR.setRow hir (by rw [List.length_set]; exact hrw)).known t18 _⟩
      · rw [Store.set_other _ _ (rkey_ne n2.2)]; exact t2
      · rw [Store.set_other _ _ (rkey_ne n4.2)]; exact t4
      · rw [Store.set_same]
      · exact Sub.set tS z18 _
    · rw [if_neg er] at hse
      rw [hV2 er, hse]
      exact ⟨T, t2, t4, t18, tS, hR⟩
  simp only [go_sem]
  refine (ih (i + 1, V') ⟨c, hT⟩ (by dsimp only; clear h3 h4 h18 n2 n3 n4 n32 n43 n42 nrb vne; omega)).back ?_ (by simp) ?_
  · exact Sub.refl _
  · simp only [go_sem, hq]
end Go.Sk
end

-- W15h
section
namespace Go.Sk
open Go Go.Proofs

theorem grid_Add (g : Grid) (e : Event) (hg : g.Ok) (hk : e.k < 18446744073709551616) (hw : e.w < 18446744073709551616) : Pure Tryz.prog 12 [g.av, e.av] (.tuple [(addG g e).1.av, i64 (addG g e).2]) := fun S => by
  refine (grid_Add0 g e hg hk hw S).frz ?_
  rintro x S' (⟨rfl, h1, h2, h3⟩ | ⟨bo, rb, h1, rfl, hR⟩)
  · refine ⟨_, S, Frz.forget h3, ?_, rfl⟩
    have : (addG g e).1 = zeroG := by rw [h2]
    rw [this]
  · refine ⟨_, S, (frz_rows hR (Sub.refl _) (i64 (addG g e).1.w) (.p (.sl ((addG g e).1.sd.map Seed.pv))) (i64 (addG g e).1.all.k) (i64 (addG g e).1.all.g) (.p (.sl ((addG g e).1.all.ls.map lvE))) (i64 0)).1, ?_, rfl⟩
    rw [h1]; rfl

set_option maxHeartbeats 1000000 in
theorem ref15_Add (g : Grid) (e : Event) (hg : g.Ok) (hk : e.k < 18446744073709551616) (hw : e.w < 18446744073709551616) : Pure Tryz.prog 17 [g.av, e.av] (.tuple [(addG g e).1.av, i64 (addG g e).2]) := fun S => by
  have hwt : ((g.w.toNat : Nat) : Int) = g.w := by have := hg.w1; omega
  have hwt1 : 1 ≤ g.w.toNat := by have := hg.w1; omega
  have hwt2 : g.w.toNat < 1048576 := by have := hg.w2; omega
  have hnn := hg.n
  have hsdn := hg.sd
  refine callR_of Tryz.func17 rfl rfl (xc_ok (bitB 75557863734711490330623) _ _ _ ?_)
  simp only [go_sem]
  refine alloc_intro fun c2 h2 => ?_
  simp only [go_sem]
  refine alloc_intro fun c3 h3 => ?_
  simp only [fresh_set] at h3
  simp only [go_sem, h3]
  refine alloc_intro fun c4 h4 => ?_
  simp only [fresh_set] at h4
  simp only [go_sem, h3, h4]
  refine (ref04_Key e.k).useA ?_
  by_cases ck : e.k < 2305843009213693951
  rotate_left
  · simp only [go_sem, ck, Bool.not_false, h4]
    have ha : addG g e = (zeroG, 7) := by unfold addG; rw [if_neg ck]
    (refine ⟨S, by (repeat (first | exact Sub.refl _ | refine Sub.setF ?_ (by first | assumption | simp only [*]) | refine Sub.setV ?_ (by first | assumption | simp only [*]))), ?_⟩); rw [ha]; simp [zeroG, zeroH]
  simp only [go_sem, ck, Bool.not_true, h3, h4]
  refine (ref06_addH g.all hg.all e.t e.w hw).useA ?_
  simp only [go_sem, h3, h4]
  refine alloc_intro fun c6 h6 => ?_
  simp only [fresh_set] at h6
  by_cases er : (addH g.all e.t e.w).2 = 0
  rotate_left
  · have eb : ((addH g.all e.t e.w).2 != 0) = true := by simpa using er
    have ha : addG g e = (zeroG, (addH g.all e.t e.w).2) := by
      have h0 : ¬ (rowsV g e 0).2 = 0 := er
      have h1 := rowsV_stop g e 0 h0 g.rows.length
      rw [Nat.zero_add] at h1
      unfold addG; rw [if_pos ck, h1, if_neg h0]; rfl
    simp only [go_sem, eb, h4, h6]
    (refine ⟨S, by (repeat (first | exact Sub.refl _ | refine Sub.setF ?_ (by first | assumption | simp only [*]) | refine Sub.setV ?_ (by first | assumption | simp only [*]))), ?_⟩); rw [ha]; simp [zeroG, zeroH]
  have eb : ((addH g.all e.t e.w).2 != 0) = false := by simpa using er
  simp only [go_sem, eb, h3, h4, h6]
  refine alloc_intro fun c8 h8 => ?_
  simp only [fresh_set] at h8
  simp only [go_sem, h3, h4, h6, h8]
  refine AWP.tipB c8 2 1 (cs := [i64 g.w, .p (.sl (g.sd.map Seed.pv)), .nils, i64 (addH g.all e.t e.w).1.k, i64 (addH g.all e.t e.w).1.g, .p (.sl ((addH g.all e.t e.w).1.ls.map lvE))]) (by simp only [go_sem, h8]) rfl fun kk hkk => ?_
  simp only [freshv_setr] at hkk
  simp only [List.set]
  have y2 : S (.r c2) = none := h2
  have y3 : S (.r c3) = none := h3.2
  have y4 : S (.r c4) = none := h4.2.2
  have y6 : S (.r c6) = none := h6.2.2.2
  have y8 : S (.r c8) = none := h8.2.2.2.2
  refine AWP.roam (ι := Nat × Option Nat) (fun y => y.1 ≤ g.rows.length ∧ (rowsV g e y.1).2 = 0)
    (fun y => ⟨Env.get [(2, .sp c2 0), (3, .sp c3 0), (4, .sp c4 0), (8, .sp c8 0), (9, i64 y.1)],
      (((((S.set (.r c2) (.cells [i64 g.w, .p (.sl (g.sd.map Seed.pv)), .p (.sl (g.rows.map rowE)), i64 g.all.k, i64 g.all.g, .p (.sl (g.all.ls.map lvE))])).set (.r c3) (.cells [u64 e.t, u64 e.k, u64 e.w])).set (.r c4) (.cells [i64 0, .nils, .nils, i64 0, i64 0, .nils]))).set (.v kk) (.tip 1 y.1 y.2)).set (.r c8) (.cells [i64 g.w, .p (.sl (g.sd.map Seed.pv)), .ts kk 1 y.2 (((rowsV g e y.1).1.take y.1).map rowE), i64 (addH g.all e.t e.w).1.k, i64 (addH g.all e.t e.w).1.g, .p (.sl ((addH g.all e.t e.w).1.ls.map lvE))]), 90, []⟩)
    (fun y => g.rows.length - y.1) (0, none) ⟨Nat.zero_le _, er⟩ ?_ ?_
  · refine le_of (by simp only [go_sem] <;> rfl) ?_ rfl rfl (by simp)
    ((try dsimp only); (repeat refine sub_set ?_ ?_) <;> first | ((repeat (first | exact Sub.refl _ | refine Sub.setF ?_ (by first | assumption | simp only [*]) | refine Sub.setV ?_ (by first | assumption | simp only [*]))); done) | (simp only [go_sem, h3, h4, h6, h8, hkk, List.take_zero, List.map_nil]; done) | (simp only [go_sem, h3, h4, h6, h8, hkk, List.take_zero, List.map_nil]; rfl) | rfl)
  rintro ⟨i, loc⟩ ⟨hi, he0⟩ ih
  dsimp only at hi he0 ⊢
  refine AWPH.step (AWP.seqA (xc_ok (bitB 75557863734711490330623) _ _ _ ?_))
  have hlen1 := rowsV_len g e i
  by_cases c : i < g.rows.length
  rotate_left
  · obtain rfl : i = g.rows.length := by clear h3 h4 h6 h8; omega
    simp only [go_sem, h3, h4, h6, h8, hsdn]
    have ha : addG g e = (⟨g.w, g.sd, (rowsV g e g.rows.length).1, (addH g.all e.t e.w).1⟩, 0) := by unfold addG; rw [if_pos ck, if_pos he0]
    refine ⟨S, Sub.set (Sub.set (Sub.set (Sub.set (Sub.set (Sub.set (Sub.refl _) y2 _) y3 _) y4 _) hkk _) y8 _) y4 _, Or.inl ⟨?_, rfl⟩⟩
    rw [ha, List.take_of_length_le (by rw [hlen1]; exact Nat.le_refl _)]
  simp only [go_sem, h3, h4, h6, h8, hsdn, c]
  have hcs : i < g.sd.length := by rw [hsdn]; exact c
  have hri : (rowsV g e i).1.getD i [] = g.rows[i] := by rw [rowsV_later g e i i (Nat.le_refl _)]; simp [List.getD_eq_getElem?_getD, c]
  have hrw : g.rows[i].length = g.w.toNat := hg.wid _ (List.getElem_mem c)
  have hrne : g.rows[i] ≠ [] := by intro e0; rw [e0] at hrw; simp at hrw; clear h3 h4 h6 h8; omega
  refine AWP.seqA (AWP.blockA (AWP.seqA (xc_ok (bitB 75557863734711490330623) _ _ _ ?_)))
  simp only [go_sem, h3, h4, h6, h8, ltN' c, getD_map' _ _ _ _ c, rowE_mk, rowP]
  have hrl1 : g.rows[i].length < 1048576 := by rw [hrw]; exact hwt2
  refine ⟨hist_len, by clear h3 h4 h6 h8; omega, by clear h3 h4 h6 h8; omega, own_intro (by simpa using hrne) fun b cap hb hcap => ?_⟩
  simp only [fresh_set, fresh_setv] at hb
  simp only [List.nil_append, List.length_map] at hcap ⊢
  simp only [go_sem, h3, h4, h6, h8, hb]
  refine AWP.seqA (AWP.draw2 (bitB 75557863734711490330623) mixed (by kernel_rfl) (fun j => i64 (colV g.sd[i] e.k g.w)) ?_)
  simp only [go_sem, h3, h4, h6, h8, hb, hcs, ltN' hcs, getD_map' _ _ _ _ hcs]
  refine ⟨(ref04_Column g.sd[i] e.k g.w (hg.so _ (List.getElem_mem hcs)) hk (by have := hg.w2; clear h3 h4 h6 h8 hb; omega)).draw, ?_⟩
  have hci : colV g.sd[i] e.k g.w = ((colN g e.k i : Nat) : Int) := by
    unfold colN
    rw [show g.sd.getD i default = g.sd[i] by simp [List.getD_eq_getElem?_getD, hcs], Int.toNat_of_nonneg (colV_nn _ _ _)]
  have hcb : colN g e.k i < g.w.toNat := colN_lt g hg.w1 e.k i
  simp only [go_sem, hci]
  have hcr : colN g e.k i < g.rows[i].length := by rw [hrw]; exact hcb
  have hok : (g.rows[i][colN g e.k i]).Ok := hg.hs _ (List.getElem_mem c) _ (List.getElem_mem hcr)
  have hzd : (g.rows[i]).getD (colN g e.k i) zeroH = g.rows[i][colN g e.k i] := by simp [List.getD_eq_getElem?_getD, hcr]
  have hse : rowsV g e (i + 1) = stepG g e i (rowsV g e i) := rfl
  unfold stepG at hse
  rw [if_pos he0, hri, hzd] at hse
  have hcut := flat_cut g.rows[i] (List.replicate ((cap - g.rows[i].length) * 3) .top) (colN g e.k i) hcr
  have hput := fun y => flat_put g.rows[i] (List.replicate ((cap - g.rows[i].length) * 3) .top) y (colN g e.k i) hcr
  have hlen3 : colN g e.k i * 3 + 3 ≤ (flatA (List.map Hist.cs g.rows[i]) ++ List.replicate ((cap - g.rows[i].length) * 3) AV.top).length := by rw [List.length_append, hflat_len]; clear h3 h4 h6 h8 hb; omega
  generalize g.rows[i][colN g e.k i] = hh at *
  generalize hX : addH hh e.t e.w = X at *
  refine AWP.seqA (AWP.draw2 (bitB 75557863734711490330623) mixed (by kernel_rfl) (fun j => .tuple [X.1.av, i64 X.2]) ?_)
  simp only [go_sem, h3, h4, h6, h8, hb, hcut]
  refine ⟨hcr, hlen3, (hX ▸ (ref06_addH hh hok e.t e.w hw)).draw, alloc_intro fun c12 h12 => ?_⟩
  simp only [fresh_set, fresh_setv] at h12
  simp only [go_sem, h3, h4, h6, h8, hb, h12]
  have hchk : i + 1 ≤ g.rows.length := c
  by_cases ex : X.2 = 0
  rotate_left
  · have exb : (X.2 != 0) = true := by simpa using ex
    have ha : addG g e = (zeroG, X.2) := by
      have h0 : ¬ (rowsV g e (i + 1)).2 = 0 := by rw [hse]; exact ex
      have h1 := rowsV_stop g e (i + 1) h0 (g.rows.length - (i + 1))
      rw [show i + 1 + (g.rows.length - (i + 1)) = g.rows.length by clear h3 h4 h6 h8 hb h12; omega] at h1
      unfold addG; rw [if_pos ck, h1, if_neg h0, hse]
    refine AWP.seqA (xc_ok (bitB 75557863734711490330623) _ _ _ ?_)
    simp only [go_sem, exb, h3, h4, h6, h8, hb, h12]
    have yb : S (.r b) = none := hb.2.2.2.2
    have y12 : S (.r c12) = none := h12.2.2.2.2.2
    refine ⟨S, ?_, ?_⟩
    · exact Sub.set (Sub.set (Sub.set (Sub.set (Sub.set (Sub.set (Sub.set (Sub.set (Sub.refl _) y2 _) y3 _) y4 _) hkk _) y8 _) yb _) y12 _) y4 _
    · rw [ha]; simp [zeroG, zeroH]
  have exb : (X.2 != 0) = false := by simpa using ex
  refine AWP.seqA (xc_ok (bitB 75557863734711490330623) _ _ _ ?_)
  simp only [go_sem, exb, h3, h4, h6, h8, hb, h12]
  refine AWP.seqA (xc_ok (bitB 75557863734711490330623) _ _ _ ?_)
  simp only [go_sem, h3, h4, h6, h8, hb, h12]
  refine ⟨hcr, hlen3, ?_⟩
  obtain ⟨T, hT⟩ : ∃ T, (((((S.set (.r c2) (.cells [i64 g.w, .p (.sl (g.sd.map Seed.pv)), .p (.sl (g.rows.map rowE)), i64 g.all.k, i64 g.all.g, .p (.sl (g.all.ls.map lvE))])).set (.r c3) (.cells [u64 e.t, u64 e.k, u64 e.w])).set (.r c4) (.cells [i64 0, .nils, .nils, i64 0, i64 0, .nils]))).set (.v kk) (.tip 1 i loc)).set (.r c8) (.cells [i64 g.w, .p (.sl (g.sd.map Seed.pv)), .ts kk 1 loc (((rowsV g e i).1.take i).map rowE), i64 (addH g.all e.t e.w).1.k, i64 (addH g.all e.t e.w).1.g, .p (.sl ((addH g.all e.t e.w).1.ls.map lvE))]) = T := ⟨_, rfl⟩
  have Tb : T (.r b) = none := by rw [← hT]; simp only [go_sem, hb]; exact hb.2.2.2.2
  have T12 : T (.r c12) = none := by rw [← hT]; simp only [go_sem, h12]; exact h12.2.2.2.2.2
  simp only [hT]
  obtain ⟨R, hR⟩ : ∃ R, g.rows[i].set (colN g e.k i) X.1 = R := ⟨_, rfl⟩
  have hRl : R.length = g.w.toNat := by rw [← hR, List.length_set]; exact hrw
  have hput' := hput X.1
  rw [hR] at hput'
  refine AWP.fz (s' := ⟨Env.get [(2, .sp c2 0), (3, .sp c3 0), (4, .sp c4 0), (8, .sp c8 0), (9, i64 i), (10, .p (rowP R))], T, 90, []⟩) ?_ (StFz.env (b := b) (m := g.w.toNat * 3) (cs := flatA (R.map Hist.cs) ++ List.replicate ((cap - g.rows[i].length) * 3) .top) ?_ ?_ ?_ ?_ (by simp))
  rotate_left
  · simp only [go_sem, h12]
    exact congrArg (fun z => some (Blk.cells z)) hput'
  · rw [List.length_append, hflat_len, hRl]; exact Nat.le_add_right _ _
  · intro q y hq
    have n1 : q ≠ .r b := by rintro rfl; rw [Tb] at hq; cases hq
    have n2 : q ≠ .r c12 := by rintro rfl; rw [T12] at hq; cases hq
    refine ⟨n1, Or.inl ?_⟩
    first
      | (rw [Store.set_other _ _ n2, Store.set_other _ _ n1]; exact hq)
      | (rw [Store.set_other _ _ n1, Store.set_other _ _ n2]; exact hq)
      | (rw [Store.set_other _ _ n1, Store.set_other _ _ n2, Store.set_other _ _ n1]; exact hq)
  · refine ⟨Or.inl (Or.inl (Or.inl (by simp only [go_sem]))), Or.inl (Or.inl (Or.inl (by simp only [go_sem]))), Or.inl (Or.inl (Or.inl (by simp only [go_sem]))), Or.inl (Or.inl (Or.inl (by simp only [go_sem]))), Or.inl (Or.inl (Or.inl (by simp only [go_sem]))), Or.inl (Or.inl (Or.inr (Or.inr ⟨3, 0, g.w.toNat, cap, R.map Hist.cs, ?_, by omega, rfl, by rw [List.length_map]; exact hRl, hist_len, ?_⟩))), trivial⟩
    · simp only [go_sem, hrw]
    · rw [List.drop_zero, List.take_append_of_le_length (by rw [hflat_len, hRl]; exact Nat.le_refl _), List.take_of_length_le (by rw [hflat_len, hRl]; exact Nat.le_refl _)]
  subst hT
  refine xc_ok (bitB 75557863734711490330623) _ _ _ ?_
  simp only [go_sem, h3, h4, h6, h8, hkk]
  have htk : (List.take i (rowsV g e i).1).length = i := by rw [List.length_take, hlen1]; exact Nat.min_eq_left hi
  have e5 : List.map rowE (List.take i (rowsV g e i).1) ++ [[rowP R]] = List.map rowE (List.take (i + 1) (rowsV g e (i + 1)).1) := by
    have hl2 : i < ((rowsV g e i).1.set i R).length := by rw [List.length_set, hlen1]; exact c
    rw [hse, hR]
    dsimp only
    rw [List.take_succ_eq_append_getElem hl2, List.map_append]
    congr 1
    · rw [List.take_set_of_le (Nat.le_refl _)]
    · simp [rowE]
  have hq : wi ((i : Int) + 1) = ((i + 1 : Nat) : Int) := wi_succ (show i < 4611686018427387904 by clear h3 h4 h6 h8 hb h12; omega)
  rw [htk]
  refine ⟨by rintro el rfl; rfl, rfl, row_len, by clear h3 h4 h6 h8 hb h12; omega, by clear h3 h4 h6 h8 hb h12; omega, grow_intro fun loc' => ?_⟩
  simp only [go_sem, h3, h4, h6, h8, hkk, e5]
  refine xc_ok (bitB 75557863734711490330623) _ _ _ ?_
  simp only [go_sem, hq]
  have hl3 : (List.take (i + 1) (rowsV g e (i + 1)).1).length = i + 1 := by
    rw [List.length_take, rowsV_len]; exact Nat.min_eq_left hchk
  rw [hl3]
  refine (ih (i + 1, loc') ⟨hchk, by rw [hse]; exact ex⟩ (by dsimp only; clear h3 h4 h6 h8 hb h12; omega)).back ?_ (by simp) ?_
  · ((try dsimp only); (repeat refine sub_set ?_ ?_) <;> first | ((repeat (first | exact Sub.refl _ | refine Sub.setF ?_ (by first | assumption | simp only [*]) | refine Sub.setV ?_ (by first | assumption | simp only [*]))); done) | (simp only [go_sem, h3, h4, h6, h8, hkk]; done) | (simp only [go_sem, h3, h4, h6, h8, hkk]; rfl) | rfl)
  · simp only [go_sem, hq]
end Go.Sk
end

-- W8
section
namespace Go.Sk
open Go Go.Proofs

/-- Is a tick within? -/
noncomputable def inW (tick span t : Nat) : Bool := decide (tick < span) || decide (sub64 tick span < t)
/-- All buckets, in turn, and their units. -/
def bucksF : Nat → List (List Span) → List (Span × Nat)
  | _, [] => []
  | i, l :: r => l.map (fun s => (s, i)) ++ bucksF (i + 1) r
noncomputable def units (i : Nat) : Nat := m64 (1 * 2 ^ min i 64)
noncomputable def partStep (tick span : Nat) (p : Nat × Nat) (x : Span × Nat) : Nat × Nat :=
  if inW tick span x.1.a = true then (m64 (p.1 + units x.2), p.2) else if inW tick span x.1.b = true then (p.1, m64 (p.2 + units x.2)) else p
noncomputable def partsF (tick span : Nat) (p : Nat × Nat) (l : List (Span × Nat)) : Nat × Nat := l.foldl (partStep tick span) p
noncomputable def partsV (ls : List (List Span)) (tick span : Nat) : Nat × Nat := partsF tick span (0, 0) (bucksF 0 ls)
noncomputable def estV (ls : List (List Span)) (tick span : Nat) : Nat := m64 ((partsV ls tick span).1 + (partsV ls tick span).2 / 2)
theorem partsF_lt (tick span : Nat) (l : List (Span × Nat)) : ∀ p : Nat × Nat, p.1 < 18446744073709551616 → p.2 < 18446744073709551616 → (partsF tick span p l).1 < 18446744073709551616 ∧ (partsF tick span p l).2 < 18446744073709551616 := by
  induction l with
  | nil => intro p h1 h2; exact ⟨h1, h2⟩
  | cons x r ih =>
    intro p h1 h2
    show (partsF tick span (partStep tick span p x) r).1 < _ ∧ _
    refine ih _ ?_ ?_ <;> (unfold partStep; repeat' split) <;> first | assumption | (rw [m64_eq]; exact Nat.mod_lt _ (by decide))
theorem partsV_lt (ls : List (List Span)) (tick span : Nat) : (partsV ls tick span).1 < 18446744073709551616 ∧ (partsV ls tick span).2 < 18446744073709551616 := partsF_lt _ _ _ _ (by decide) (by decide)

theorem parts_within {S : Store} {b1 b2 : Nat} (t tick span : Nat) (h1 : S (.r b1) = some (.cells [u64 span])) (h2 : S (.r b2) = some (.cells [u64 tick])) :
    CallR Tryz.prog 94 [u64 t, .sp b1 0, .sp b2 0] S (fun r S' => r = bl (inW tick span t) ∧ S' = S) := by
  refine callR_of Tryz.func94 rfl rfl (xc_ok (bitB 23) _ _ _ ?_)
  simp only [go_sem, h1, h2]
  by_cases hc : tick < span
  · simp only [go_sem, h1, h2, hc]
    (refine ⟨S, by (repeat (first | exact Sub.refl _ | refine Sub.setF ?_ (by first | assumption | simp only [*]) | refine Sub.setV ?_ (by first | assumption | simp only [*]))), ?_⟩); simp [inW, hc]
  · simp only [go_sem, h1, h2, hc]
    (refine ⟨S, by (repeat (first | exact Sub.refl _ | refine Sub.setF ?_ (by first | assumption | simp only [*]) | refine Sub.setV ?_ (by first | assumption | simp only [*]))), ?_⟩); simp [inW, hc]

theorem bucks_app : ∀ (ls m : List (List Span)) (i : Nat), bucksF i (ls ++ m) = bucksF i ls ++ bucksF (i + ls.length) m := by
  intro ls
  induction ls with
  | nil => intro m i; simp [bucksF]
  | cons l r ih => intro m i; simp only [List.cons_append, bucksF, ih, List.append_assoc, List.length_cons]; rw [show i + 1 + r.length = i + (r.length + 1) from by omega]
/-- The buckets ahead of the j-th one of level i. -/
theorem bucks_at (ls : List (List Span)) (i : Nat) (hi : i < ls.length) (j : Nat) (hj : j < ls[i].length) :
    bucksF 0 (ls.take i) ++ (ls[i].take (j + 1)).map (fun s => (s, i)) = (bucksF 0 (ls.take i) ++ (ls[i].take j).map (fun s => (s, i))) ++ [(ls[i][j], i)] := by
  rw [List.take_succ_eq_append_getElem hj, List.map_append, List.append_assoc]; rfl
theorem bucks_next (ls : List (List Span)) (i : Nat) (hi : i < ls.length) : bucksF 0 (ls.take (i + 1)) = bucksF 0 (ls.take i) ++ ls[i].map (fun s => (s, i)) := by
  rw [List.take_succ_eq_append_getElem hi, bucks_app]
  simp [bucksF, Nat.min_eq_left (Nat.le_of_lt hi)]
theorem bucks_get (ls : List (List Span)) (i : Nat) (hi : i < ls.length) (j : Nat) (hj : j < ls[i].length) :
    (bucksF 0 (ls.take i)).length + j < (bucksF 0 ls).length ∧ (bucksF 0 ls).getD ((bucksF 0 (ls.take i)).length + j) default = (ls[i][j], i) := by
  have e : bucksF 0 ls = bucksF 0 (ls.take i) ++ (ls[i].map (fun s => (s, i)) ++ bucksF (i + 1) (ls.drop (i + 1))) := by
    have h1 : ls = ls.take i ++ ls[i] :: ls.drop (i + 1) := by rw [← List.drop_eq_getElem_cons hi, List.take_append_drop]
    have h2 := bucks_app (ls.take i) (ls[i] :: ls.drop (i + 1)) 0
    rw [← h1] at h2
    rw [h2]
    simp [bucksF, Nat.min_eq_left (Nat.le_of_lt hi)]
  have hlt : (bucksF 0 (ls.take i)).length + j < (bucksF 0 ls).length := by rw [e]; simp; omega
  refine ⟨hlt, ?_⟩
  rw [List.getD_eq_getElem?_getD, e, List.getElem?_append_right (by omega), Nat.add_sub_cancel_left, List.getElem?_append_left (by simpa using hj)]
  simp [hj]
theorem parts_snoc (tick span : Nat) (p : Nat × Nat) (l : List (Span × Nat)) (x : Span × Nat) : partsF tick span p (l ++ [x]) = partStep tick span (partsF tick span p l) x := by
  unfold partsF; rw [List.foldl_append]; rfl

noncomputable def itemsB (l : List (Span × Nat)) : Nat → List AV := fun k => [(l.getD k default).1.av, u64 (units (l.getD k default).2)]

set_option maxHeartbeats 1000000 in
set_option maxRecDepth 4000 in
theorem est_buckets1 (k g : Int) (ls : List (List Span)) (hn : ls.length < 1099511627776) (hl : ∀ l ∈ ls, l.length < 1099511627776) {T0 : Store} {b : Nat} (h1 : T0 (.r b) = some (.cells [i64 k, i64 g, .p (.sl (ls.map lvE))])) :
    SeqR Tryz.prog 115 [] [.sp b 0] T0 (bucksF 0 ls).length (itemsB (bucksF 0 ls)) := by
  intro l J Jx hy E hd h0
  simp only [List.nil_append, List.singleton_append]
  refine callR_of Tryz.func115 rfl rfl (xc_ok (bitB 67604315) _ _ _ ?_)
  simp only [go_sem, h1]
  refine AWP.roam (ι := Nat × Store) (fun x => x.1 ≤ ls.length ∧ Disj T0 x.2 ∧ J (bucksF 0 (ls.take x.1)).length x.2)
    (fun x => ⟨Env.get [(0, .fn (.yield l) [] []), (1, .sp b 0), (8, .p (.sl (ls.map lvE))), (9, i64 ls.length), (10, i64 x.1)], Store.join x.2 T0, 29, []⟩) (fun x => ls.length - x.1) (0, E) ⟨by simp, hd, h0⟩ ?_ ?_
  · exact le_of (by simp only [go_sem] <;> rfl) (Sub.refl _) rfl rfl (by simp)
  · rintro ⟨i, E⟩ ⟨hi, hd, hJ⟩ ih
    dsimp only at hi hd hJ ⊢
    refine AWPH.step (xc_ok (bitB 67604315) _ _ _ ?_)
    by_cases c : i < ls.length
    rotate_left
    · obtain rfl : i = ls.length := by omega
      rw [List.take_length] at hJ
      simp only [go_sem]
      exact ⟨_, Sub.refl _, Or.inl ⟨E, rfl, hd, Or.inl hJ⟩⟩
    have hll := hl _ (List.getElem_mem c)
    simp only [go_sem, c, ltN' c, getD_map' _ _ _ _ c, lvE_mk]
    refine AWP.roam (ι := Nat × Store) (fun x => x.1 ≤ ls[i].length ∧ Disj T0 x.2 ∧ J ((bucksF 0 (ls.take i)).length + x.1) x.2)
      (fun x => ⟨Env.get [(0, .fn (.yield l) [] []), (1, .sp b 0), (3, i64 i), (8, .p (.sl (ls.map lvE))), (9, i64 ls.length), (10, i64 i), (15, .p (lvP ls[i])), (16, i64 ls[i].length), (17, i64 x.1)], Store.join x.2 T0, 29, []⟩) (fun x => ls[i].length - x.1) (0, E) ⟨by simp, hd, hJ⟩ ?_ ?_
    · exact le_of (by simp only [go_sem, lvP] <;> simp) (Sub.refl _) rfl rfl (by simp)
    · rintro ⟨j, E⟩ ⟨hj, hd, hJ⟩ jh
      dsimp only at hj hd hJ ⊢
      refine AWPH.step (xc_ok (bitB 67604315) _ _ _ ?_)
      by_cases cj : j < ls[i].length
      rotate_left
      · obtain rfl : j = ls[i].length := by omega
        simp only [go_sem, lvP]
        refine (ih (i + 1, E) ⟨c, hd, by rw [bucks_next ls i c]; simpa using hJ⟩ (by dsimp only; omega)).back (Sub.refl _) (by simp) ?_
        simp only [go_sem, wi_succ (show i < 4611686018427387904 by omega)]
      have hget := bucks_get ls i c j cj
      simp only [go_sem, lvP, cj, ltN' cj, getD_map' _ _ _ _ cj]
      refine alloc_intro fun d hfd => ?_
      have hfd' := join_none hfd
      simp only [go_sem]
      rw [join_set]
      have hyi := hy _ hget.1 E (T0.set (.r d) (.cells [u64 (ls[i][j]).a, u64 (ls[i][j]).b])) ((Sub.refl T0).set hfd'.2 _) (hd.setT hfd'.1 _) hJ
      simp only [itemsB, hget.2] at hyi
      have hjs : wi ((j : Int) + 1) = ((j + 1 : Nat) : Int) := wi_succ (show j < 4611686018427387904 by omega)
      refine AWP.orders (bitB 67604315) mixed [[0,1,2,3,4,5],[0,2,1,3,4,5],[0,2,3,1,4,5],[1,0,2,3,4,5],[1,2,0,3,4,5],[1,2,3,0,4,5],[2,0,1,3,4,5],[2,0,3,1,4,5],[2,1,0,3,4,5],[2,1,3,0,4,5],[2,3,0,1,4,5],[2,3,1,0,4,5]] (by kernel_rfl) ?_
      simp only [List.forall_mem_cons, List.not_mem_nil, false_implies, implies_true, and_true, opsAt, List.getElem?_cons_zero, List.getElem?_cons_succ]
      refine ⟨?_, ?_, ?_, ?_, ?_, ?_, ?_, ?_, ?_, ?_, ?_, ?_⟩
      all_goals
        simp only [go_sem]
        refine hyi.useA rfl ?_
        rintro r S' ⟨E', rfl, hd2, ⟨rfl, hJ2⟩ | ⟨rfl, hJ2⟩⟩
        · obtain ⟨hd3, hed⟩ := hd2.unsetT hfd'.2
          simp only [go_sem]
          refine (jh (j + 1, E') ⟨cj, hd3, by rw [← Nat.add_assoc]; exact hJ2⟩ (by dsimp only; omega)).back (sub_join_set hfd'.2 hed) (by simp) ?_
          simp only [go_sem, hjs, lvP]
        · obtain ⟨hd3, hed⟩ := hd2.unsetT hfd'.2
          simp only [go_sem]
          exact ⟨_, sub_join_set hfd'.2 hed, Or.inl ⟨E', rfl, hd3, Or.inr hJ2⟩⟩

theorem est_buckets (k g : Int) (ls : List (List Span)) (S : Store) : CallR Tryz.prog 95 [(Hist.mk k g ls).av] S
    (fun r S' => ∃ b, Fresh S b ∧ r = .fn (.func 115) [] [.sp b 0] ∧ S' = S.set (.r b) (.cells [i64 k, i64 g, .p (.sl (ls.map lvE))])) := by
  refine callR_of Tryz.func95 rfl rfl (xc_ok (bitB 7) _ _ _ ?_)
  simp only [go_sem]
  refine alloc_intro fun b hb => ?_
  simp only [go_sem]
  exact ⟨_, Sub.refl _, Or.inl ⟨b, hb, rfl, rfl⟩⟩

set_option maxHeartbeats 1000000 in
set_option maxRecDepth 4000 in
theorem est_Parts (k g : Int) (ls : List (List Span)) (tick span : Nat) (hn : ls.length < 1099511627776) (hl : ∀ l ∈ ls, l.length < 1099511627776) :
    Pure Tryz.prog 74 [(Hist.mk k g ls).av, u64 tick, u64 span] (.tuple [u64 (partsV ls tick span).1, u64 (partsV ls tick span).2]) := fun S => by
  refine callR_of Tryz.func74 rfl rfl (xc_ok (bitB 67608575) _ _ _ ?_)
  simp only [go_sem]
  refine alloc_intro fun c3 h3 => ?_
  simp only [go_sem]
  refine alloc_intro fun c4 h4 => ?_
  simp only [fresh_set] at h4
  simp only [go_sem, h4]
  refine alloc_intro fun c5 h5 => ?_
  simp only [fresh_set] at h5
  simp only [go_sem, h4, h5]
  refine alloc_intro fun c8 h8 => ?_
  simp only [fresh_set] at h8
  simp only [go_sem, h4, h5, h8]
  refine alloc_intro fun c9 h9 => ?_
  simp only [fresh_set] at h9
  simp only [go_sem, h4, h5, h8, h9]
  refine alloc_intro fun c10 h10 => ?_
  simp only [fresh_set] at h10
  simp only [go_sem, h4, h5, h8, h9, h10]
  refine (est_buckets k g ls _).useA ?_
  rintro _ _ ⟨b, hb, rfl, rfl⟩
  simp only [fresh_set] at hb
  simp only [go_sem, h4, h5, h8, h9, h10, hb]
  obtain ⟨L, hL⟩ : ∃ L, bucksF 0 ls = L := ⟨_, rfl⟩
  have hseq := est_buckets1 k g ls hn hl (T0 := eS.set (.r b) (.cells [i64 k, i64 g, .p (.sl (ls.map lvE))])) (b := b) (by simp only [go_sem])
  have hpv : partsV ls tick span = partsF tick span (0, 0) L := by unfold partsV; rw [hL]
  rw [hL] at hseq
  rw [hpv]
  have g4 : S (.r c4) = none := h4.2
  have g5 : S (.r c5) = none := h5.2.2
  have g8 : S (.r c8) = none := h8.2.2.2
  have g9 : S (.r c9) = none := h9.2.2.2.2
  have g10 : S (.r c10) = none := h10.2.2.2.2.2
  have gb : S (.r b) = none := hb.2.2.2.2.2.2.2.2
  refine AWP.rangeE (ι := Unit) (f := 115) (first := []) (caps := [.sp b 0]) (by simp only [go_sem]) _
    (fun j _ => ((((S.set (.r c4) (.cells [u64 tick])).set (.r c5) (.cells [u64 span])).set (.r c8) (.cells [.fn (.func 94) [] [.sp c5 0, .sp c4 0]])).set (.r c9) (.cells [u64 (partsF tick span (0, 0) (L.take j)).1])).set (.r c10) (.cells [u64 (partsF tick span (0, 0) (L.take j)).2])) ()
    ?_ ?_ hseq (enterable_of Tryz.func115 rfl rfl) (fun _ _ => False) (fun _ _ => rfl) (by simp) ?_ ?_ ?_
  · refine sub_joinT (sub_join0 ?_) ?_ ?_
    · ((try dsimp only); (repeat refine sub_set ?_ ?_) <;> first | ((repeat (first | exact Sub.refl _ | refine Sub.setF ?_ (by first | assumption | simp only [*]) | refine Sub.setV ?_ (by first | assumption | simp only [*]))); done) | (simp only [go_sem, h4, h5, h8, h9, h10, hb, List.take_zero, partsF, List.foldl_nil]; done) | (simp only [go_sem, h4, h5, h8, h9, h10, hb, List.take_zero, partsF, List.foldl_nil]; rfl) | rfl)
    all_goals simp only [go_sem, h4, h5, h8, h9, h10, hb, gb]
  · refine (Disj.nil _).setT ?_ _
    simp only [go_sem, h4, h5, h8, h9, h10, hb, gb]
  · intro j _ l hj T hT hdT
    refine xc_ok (bitB 67608575) _ _ _ ?_
    simp only [go_sem, itemsB]
    refine alloc_intro fun e he => ?_
    have hje := join_none he
    obtain ⟨x, hx⟩ : ∃ x, L.getD j default = x := ⟨_, rfl⟩
    have hsn : partsF tick span (0, 0) (L.take (j + 1)) = partStep tick span (partsF tick span (0, 0) (L.take j)) x := by
      rw [List.take_succ_eq_append_getElem hj, parts_snoc, ← hx]; simp [List.getD_eq_getElem?_getD, hj]
    simp only [hx]
    simp only [go_sem]
    refine ⟨_, by rw [join_set]; exact Sub.refl _, hdT.set hje.1 _, fun T' hT' hdT' => ?_⟩
    refine xc_ok (bitB 67608575) _ _ _ ?_
    have n4 : ¬ c4 = e ∧ ¬ e = c4 := by constructor <;> rintro rfl <;> simp [Store.set, h5, h8, h9, h10] at hje
    have n5 : ¬ c5 = e ∧ ¬ e = c5 := by constructor <;> rintro rfl <;> simp [Store.set, h8, h9, h10] at hje
    have n8 : ¬ c8 = e ∧ ¬ e = c8 := by constructor <;> rintro rfl <;> simp [Store.set, h9, h10] at hje
    have n9 : ¬ c9 = e ∧ ¬ e = c9 := by constructor <;> rintro rfl <;> simp [Store.set, h10] at hje
    have n10 : ¬ c10 = e ∧ ¬ e = c10 := by constructor <;> rintro rfl <;> simp [Store.set] at hje
    have ge : S (.r e) = none := by have := hje.2; simpa [Store.set, n4, n5, n8, n9, n10] using this
    simp only [go_sem, h4, h5, h8, h9, h10, n4, n5, n8, n9, n10]
    refine (parts_within x.1.a tick span ?_ ?_).useA ?_
    · simp only [go_sem, h4, h5, h8, h9, h10, n4, n5, n8, n9, n10]
    · simp only [go_sem, h4, h5, h8, h9, h10, n4, n5, n8, n9, n10]
    rintro _ _ ⟨rfl, rfl⟩
    cases q1 : inW tick span x.1.a
    · simp only [go_sem, h4, h5, h8, h9, h10, n4, n5, n8, n9, n10]
      refine (parts_within x.1.b tick span ?_ ?_).useA ?_
      · simp only [go_sem, h4, h5, h8, h9, h10, n4, n5, n8, n9, n10]
      · simp only [go_sem, h4, h5, h8, h9, h10, n4, n5, n8, n9, n10]
      rintro _ _ ⟨rfl, rfl⟩
      cases q2 : inW tick span x.1.b
      · simp only [go_sem, h4, h5, h8, h9, h10, n4, n5, n8, n9, n10]
        have hps : partsF tick span (0, 0) (L.take (j + 1)) = partsF tick span (0, 0) (L.take j) := by rw [hsn]; simp [partStep, q1, q2]
        simp only [hps]
        refine ⟨(), ?_, ?_⟩
        · refine Sub.joinD ?_ hdT'
          ((try dsimp only); (repeat refine sub_set ?_ ?_) <;> first | ((repeat (first | exact Sub.refl _ | refine Sub.setF ?_ (by first | assumption | simp only [*]) | refine Sub.setV ?_ (by first | assumption | simp only [*]))); done) | (simp only [go_sem, h4, h5, h8, h9, h10, n4, n5, n8, n9, n10, g4, g5, g8, g9, g10]; done) | (simp only [go_sem, h4, h5, h8, h9, h10, n4, n5, n8, n9, n10, g4, g5, g8, g9, g10]; rfl) | rfl)
        · (intro q; refine (hdT' q).elim (fun e => Or.inl ?_) (fun e => Or.inr e); simp only [set_none_iff] at e ⊢; simp only [e, not_false_eq_true, and_self])
      · simp only [go_sem, h4, h5, h8, h9, h10, n4, n5, n8, n9, n10]
        have hps : partsF tick span (0, 0) (L.take (j + 1)) = ((partsF tick span (0, 0) (L.take j)).1, m64 ((partsF tick span (0, 0) (L.take j)).2 + units x.2)) := by rw [hsn]; simp [partStep, q1, q2]
        simp only [hps]
        refine ⟨(), ?_, ?_⟩
        · rw [join_set]
          refine Sub.joinD ?_ (hdT'.setE (y := .cells [u64 (partsF tick span (0, 0) (L.take j)).2]) (by simp only [go_sem, h4, h5, h8, h9, h10, n4, n5, n8, n9, n10]) _)
          ((try dsimp only); (repeat refine sub_set ?_ ?_) <;> first | ((repeat (first | exact Sub.refl _ | refine Sub.setF ?_ (by first | assumption | simp only [*]) | refine Sub.setV ?_ (by first | assumption | simp only [*]))); done) | (simp only [go_sem, h4, h5, h8, h9, h10, n4, n5, n8, n9, n10, g4, g5, g8, g9, g10]; done) | (simp only [go_sem, h4, h5, h8, h9, h10, n4, n5, n8, n9, n10, g4, g5, g8, g9, g10]; rfl) | rfl)
        · (intro q; refine (hdT' q).elim (fun e => Or.inl ?_) (fun e => Or.inr e); simp only [set_none_iff] at e ⊢; simp only [e, not_false_eq_true, and_self])
    · simp only [go_sem, h4, h5, h8, h9, h10, n4, n5, n8, n9, n10]
      have hps : partsF tick span (0, 0) (L.take (j + 1)) = (m64 ((partsF tick span (0, 0) (L.take j)).1 + units x.2), (partsF tick span (0, 0) (L.take j)).2) := by rw [hsn]; simp [partStep, q1]
      simp only [hps]
      refine ⟨(), ?_, ?_⟩
      · rw [join_set]
        refine Sub.joinD ?_ (hdT'.setE (y := .cells [u64 (partsF tick span (0, 0) (L.take j)).1]) (by simp only [go_sem, h4, h5, h8, h9, h10, n4, n5, n8, n9, n10]) _)
        ((try dsimp only); (repeat refine sub_set ?_ ?_) <;> first | ((repeat (first | exact Sub.refl _ | refine Sub.setF ?_ (by first | assumption | simp only [*]) | refine Sub.setV ?_ (by first | assumption | simp only [*]))); done) | (simp only [go_sem, h4, h5, h8, h9, h10, n4, n5, n8, n9, n10, g4, g5, g8, g9, g10]; done) | (simp only [go_sem, h4, h5, h8, h9, h10, n4, n5, n8, n9, n10, g4, g5, g8, g9, g10]; rfl) | rfl)
      · (intro q; refine (hdT' q).elim (fun e => Or.inl ?_) (fun e => Or.inr e); simp only [set_none_iff] at e ⊢; simp only [e, not_false_eq_true, and_self])
  · intro _ d hd
    have hjd := join_none hd
    have n9 : ¬ c9 = d ∧ ¬ d = c9 := by constructor <;> rintro rfl <;> simp [Store.set, h10] at hjd
    have n10 : ¬ c10 = d ∧ ¬ d = c10 := by constructor <;> rintro rfl <;> simp [Store.set] at hjd
    simp only [go_sem, List.take_length, h4, h5, h8, h9, h10, n9, n10]
    refine AWP.draw2 (bitB 67608575) mixed (by kernel_rfl) (fun i => bl false) ?_
    simp only [go_sem, h4, h5, h8, h9, h10, n9, n10]
    have n4 : ¬ c4 = d ∧ ¬ d = c4 := by constructor <;> rintro rfl <;> simp [Store.set, h5, h8, h9, h10] at hjd
    have n5 : ¬ c5 = d ∧ ¬ d = c5 := by constructor <;> rintro rfl <;> simp [Store.set, h8, h9, h10] at hjd
    have n8 : ¬ c8 = d ∧ ¬ d = c8 := by constructor <;> rintro rfl <;> simp [Store.set, h9, h10] at hjd
    have gd : S (.r d) = none := by have := hjd.2; simpa [Store.set, n4, n5, n8, n9, n10] using this
    refine ⟨S, Sub.set (Sub.joinL ?_) gd _, fun r hr => hr ▸ gd, by simp⟩
    (repeat (first | exact Sub.refl _ | refine Sub.setF ?_ (by first | assumption | simp only [*]) | refine Sub.setV ?_ (by first | assumption | simp only [*])))
  · intro e E' d _ h; exact h.elim

theorem est_Of (k g : Int) (ls : List (List Span)) (tick span : Nat) (hn : ls.length < 1099511627776) (hl : ∀ l ∈ ls, l.length < 1099511627776) :
    Pure Tryz.prog 41 [(Hist.mk k g ls).av, u64 tick, u64 span] (u64 (estV ls tick span)) := fun S => by
  refine callR_of Tryz.func41 rfl rfl (xc_ok (bitB 463) _ _ _ ?_)
  simp only [go_sem]
  refine alloc_intro fun b hb => ?_
  simp only [go_sem]
  refine (est_Parts k g ls tick span hn hl).useA ?_
  simp only [go_sem]
  (refine ⟨S, by (repeat (first | exact Sub.refl _ | refine Sub.setF ?_ (by first | assumption | simp only [*]) | refine Sub.setV ?_ (by first | assumption | simp only [*]))), ?_⟩); simp [estV]
end Go.Sk
end

-- W15i
section
namespace Go.Sk
open Go Go.Proofs

theorem hist_rep (l : List Hist) (j : Nat) (h : j < l.length) : List.map Hist.cs (l.take j) ++ [[.int .i64 (l[j]).k, .int .i64 (l[j]).g, .sl ((l[j]).ls.map lvE)]] = List.map Hist.cs (l.take (j + 1)) := by
  rw [List.take_succ_eq_append_getElem h, List.map_append]; rfl
theorem row_more (l : List (List Hist)) (j : Nat) (h : j < l.length) : List.map rowE (l.take j) ++ [[.sl ((l[j]).map Hist.cs)]] = List.map rowE (l.take (j + 1)) := by
  rw [List.take_succ_eq_append_getElem h, List.map_append]; rfl
theorem take_len {α : Type} {l : List α} {j : Nat} (h : j ≤ l.length) : (l.take j).length = j := by rw [List.length_take]; exact Nat.min_eq_left h

theorem hists (l : List Hist) (hn : l.length < 1048576) : Pure Tryz.prog 18 [.p (.sl (l.map Hist.cs))] (.p (.sl (l.map Hist.cs))) := fun S => by
  refine callR_of Tryz.func18 rfl rfl (xc_ok (bitB 285) _ _ _ ?_)
  simp only [go_sem]
  refine AWP.tip0 3 3 (by simp only [go_sem]) fun k hk => ?_
  simp only [go_sem]
  refine AWP.iterE (ι := Option Nat) (fun loc j => ⟨Env.get [(0, .p (.sl (l.map Hist.cs))), (3, .ts k 3 loc ((l.take j).map Hist.cs)), (4, i64 j)], S.set (.v k) (.tip 3 j loc), 31, []⟩) l.length none ?_ ?_ ?_
  · refine le_of (by simp only [go_sem, List.take_zero, List.map_nil] <;> rfl) ?_ rfl rfl (by simp)
    ((try dsimp only); (repeat refine sub_set ?_ ?_) <;> first | ((repeat (first | exact Sub.refl _ | refine Sub.setF ?_ (by first | assumption | simp only [*]) | refine Sub.setV ?_ (by first | assumption | simp only [*]))); done) | (simp only [go_sem, hk]; done) | (simp only [go_sem, hk]; rfl) | rfl)
  · intro j loc hj jh
    have hqj : wi ((j : Int) + 1) = ((j + 1 : Nat) : Int) := wi_succ (show j < 4611686018427387904 by omega)
    have htl : (l.take j).length = j := take_len (by omega)
    have htl1 : (l.take (j + 1)).length = j + 1 := take_len (by omega)
    refine AWPH.step (xc_ok (bitB 285) _ _ _ ?_)
    simp only [go_sem, hj, ltN' hj, getD_map' _ _ _ _ hj]
    refine AWP.draw2 (bitB 285) mixed (by kernel_rfl) (fun j => bl false) ?_
    simp only [go_sem, hj, ltN' hj, getD_map' _ _ _ _ hj, hk, List.length_map, htl]
    refine ⟨by rintro el rfl; rfl, hist_len, by omega, by omega, grow_intro fun loc' => ?_⟩
    simp only [go_sem, hk, hqj, hist_rep l j hj]
    refine (jh loc').back ?_ (by simp) ?_
    · ((try dsimp only); (repeat refine sub_set ?_ ?_) <;> first | ((repeat (first | exact Sub.refl _ | refine Sub.setF ?_ (by first | assumption | simp only [*]) | refine Sub.setV ?_ (by first | assumption | simp only [*]))); done) | (simp only [go_sem, hk, List.length_map, htl1, hist_rep l j hj]; done) | (simp only [go_sem, hk, List.length_map, htl1, hist_rep l j hj]; rfl) | rfl)
    · simp only [go_sem, hqj]
  · intro loc
    refine AWPH.step (xc_ok (bitB 285) _ _ _ ?_)
    simp only [go_sem, hk, List.take_length]
    refine ⟨S, Sub.set (Sub.refl _) hk _, ?_⟩
    simp
theorem theirs (l : List Hist) (hn : l.length < 1048576) : Pure Tryz.prog 31 [.p (.sl (l.map Hist.cs))] (.p (.sl (l.map Hist.cs))) := fun S => by
  refine callR_of Tryz.func31 rfl rfl (xc_ok (bitB 285) _ _ _ ?_)
  simp only [go_sem]
  refine AWP.tip0 3 3 (by simp only [go_sem]) fun k hk => ?_
  simp only [go_sem]
  refine AWP.iterE (ι := Option Nat) (fun loc j => ⟨Env.get [(0, .p (.sl (l.map Hist.cs))), (3, .ts k 3 loc ((l.take j).map Hist.cs)), (4, i64 j)], S.set (.v k) (.tip 3 j loc), 31, []⟩) l.length none ?_ ?_ ?_
  · refine le_of (by simp only [go_sem, List.take_zero, List.map_nil] <;> rfl) ?_ rfl rfl (by simp)
    ((try dsimp only); (repeat refine sub_set ?_ ?_) <;> first | ((repeat (first | exact Sub.refl _ | refine Sub.setF ?_ (by first | assumption | simp only [*]) | refine Sub.setV ?_ (by first | assumption | simp only [*]))); done) | (simp only [go_sem, hk]; done) | (simp only [go_sem, hk]; rfl) | rfl)
  · intro j loc hj jh
    have hqj : wi ((j : Int) + 1) = ((j + 1 : Nat) : Int) := wi_succ (show j < 4611686018427387904 by omega)
    have htl : (l.take j).length = j := take_len (by omega)
    have htl1 : (l.take (j + 1)).length = j + 1 := take_len (by omega)
    refine AWPH.step (xc_ok (bitB 285) _ _ _ ?_)
    simp only [go_sem, hj, ltN' hj, getD_map' _ _ _ _ hj]
    refine AWP.draw2 (bitB 285) mixed (by kernel_rfl) (fun j => bl false) ?_
    simp only [go_sem, hj, ltN' hj, getD_map' _ _ _ _ hj, hk, List.length_map, htl]
    refine ⟨by rintro el rfl; rfl, hist_len, by omega, by omega, grow_intro fun loc' => ?_⟩
    simp only [go_sem, hk, hqj, hist_rep l j hj]
    refine (jh loc').back ?_ (by simp) ?_
    · ((try dsimp only); (repeat refine sub_set ?_ ?_) <;> first | ((repeat (first | exact Sub.refl _ | refine Sub.setF ?_ (by first | assumption | simp only [*]) | refine Sub.setV ?_ (by first | assumption | simp only [*]))); done) | (simp only [go_sem, hk, List.length_map, htl1, hist_rep l j hj]; done) | (simp only [go_sem, hk, List.length_map, htl1, hist_rep l j hj]; rfl) | rfl)
    · simp only [go_sem, hqj]
  · intro loc
    refine AWPH.step (xc_ok (bitB 285) _ _ _ ?_)
    simp only [go_sem, hk, List.take_length]
    refine ⟨S, Sub.set (Sub.refl _) hk _, ?_⟩
    simp

structure Grid.Sz (g : Grid) : Prop where
  n : g.rows.length < 1048576
  w : ∀ r ∈ g.rows, r.length < 1048576
set_option maxHeartbeats 1000000 in
theorem laid (g : Grid) (hg : g.Sz) : Pure Tryz.prog 6 [g.av] g.av := fun S => by
  have hnn := hg.n
  refine callR_of Tryz.func6 rfl rfl (xc_ok (bitB 16777247) _ _ _ ?_)
  simp only [go_sem]
  refine alloc_intro fun c1 h1 => ?_
  simp only [go_sem]
  refine alloc_intro fun c2 h2 => ?_
  simp only [fresh_set] at h2
  simp only [go_sem, h2]
  refine alloc_intro fun c3 h3 => ?_
  simp only [fresh_set] at h3
  simp only [go_sem, h2, h3]
  have y1 : S (.r c1) = none := h1
  have y2 : S (.r c2) = none := h2.2
  have y3 : S (.r c3) = none := h3.2.2
  refine AWP.tipB c3 2 1 (cs := [i64 g.w, .p (.sl (g.sd.map Seed.pv)), .nils, i64 g.all.k, i64 g.all.g, .p (.sl (g.all.ls.map lvE))]) (by simp only [go_sem, h3]) rfl fun kk hkk => ?_
  simp only [freshv_setr] at hkk
  simp only [List.set]
  refine AWP.iterE (ι := Option Nat) (fun loc i => ⟨Env.get [(1, .sp c1 0), (2, .sp c2 0), (3, .sp c3 0), (4, i64 i)],
    ((((S.set (.r c1) (.cells [i64 g.w, .p (.sl (g.sd.map Seed.pv)), .p (.sl (g.rows.map rowE)), i64 g.all.k, i64 g.all.g, .p (.sl (g.all.ls.map lvE))])).set (.r c2) (.cells [i64 0, .nils, .nils, i64 0, i64 0, .nils])).set (.v kk) (.tip 1 i loc)).set (.r c3) (.cells [i64 g.w, .p (.sl (g.sd.map Seed.pv)), .ts kk 1 loc ((g.rows.take i).map rowE), i64 g.all.k, i64 g.all.g, .p (.sl (g.all.ls.map lvE))])), 39, []⟩) g.rows.length none ?_ ?_ ?_
  · refine le_of (by simp only [go_sem] <;> rfl) ?_ rfl rfl (by simp)
    ((try dsimp only); (repeat refine sub_set ?_ ?_) <;> first | ((repeat (first | exact Sub.refl _ | refine Sub.setF ?_ (by first | assumption | simp only [*]) | refine Sub.setV ?_ (by first | assumption | simp only [*]))); done) | (simp only [go_sem, h2, h3, hkk, List.take_zero, List.map_nil]; done) | (simp only [go_sem, h2, h3, hkk, List.take_zero, List.map_nil]; rfl) | rfl)
  · intro i loc hi ih
    have hq : wi ((i : Int) + 1) = ((i + 1 : Nat) : Int) := wi_succ (show i < 4611686018427387904 by clear h2 h3; omega)
    have htl : (g.rows.take i).length = i := take_len (by clear h2 h3; omega)
    have htl1 : (g.rows.take (i + 1)).length = i + 1 := take_len (by clear h2 h3; omega)
    refine AWPH.step (xc_ok (bitB 16777247) _ _ _ ?_)
    simp only [go_sem, h2, h3, hi, ltN' hi, getD_map' _ _ _ _ hi]
    refine AWP.draw2 (bitB 16777247) mixed (by kernel_rfl) (fun j => .p (.sl ((g.rows[i]).map Hist.cs))) ?_
    simp only [go_sem, h2, h3, hkk, hi, ltN' hi, getD_map' _ _ _ _ hi, rowE_mk, rowP, List.length_map, htl]
    refine ⟨(hists g.rows[i] (hg.w _ (List.getElem_mem hi))).draw, by rintro el rfl; rfl, row_len, by clear h2 h3; omega, by clear h2 h3; omega, grow_intro fun loc' => ?_⟩
    simp only [go_sem, h2, h3, hkk, hq, row_more g.rows i hi]
    refine (ih loc').back ?_ (by simp) ?_
    · ((try dsimp only); (repeat refine sub_set ?_ ?_) <;> first | ((repeat (first | exact Sub.refl _ | refine Sub.setF ?_ (by first | assumption | simp only [*]) | refine Sub.setV ?_ (by first | assumption | simp only [*]))); done) | (simp only [go_sem, h2, h3, hkk, List.length_map, htl1, row_more g.rows i hi]; done) | (simp only [go_sem, h2, h3, hkk, List.length_map, htl1, row_more g.rows i hi]; rfl) | rfl)
    · simp only [go_sem, hq]
  · intro loc
    refine AWPH.step (xc_ok (bitB 16777247) _ _ _ ?_)
    simp only [go_sem, h2, h3, hkk, List.take_length]
    refine ⟨S, ?_, ?_⟩
    · exact Sub.set (Sub.set (Sub.set (Sub.set (Sub.set (Sub.refl _) y1 _) y2 _) hkk _) y3 _) y2 _
    · simp
set_option maxHeartbeats 1000000 in
theorem back (g : Grid) (hg : g.Sz) : Pure Tryz.prog 10 [g.av] g.av := fun S => by
  have hnn := hg.n
  refine callR_of Tryz.func10 rfl rfl (xc_ok (bitB 16777247) _ _ _ ?_)
  simp only [go_sem]
  refine alloc_intro fun c1 h1 => ?_
  simp only [go_sem]
  refine alloc_intro fun c2 h2 => ?_
  simp only [fresh_set] at h2
  simp only [go_sem, h2]
  refine alloc_intro fun c3 h3 => ?_
  simp only [fresh_set] at h3
  simp only [go_sem, h2, h3]
  have y1 : S (.r c1) = none := h1
  have y2 : S (.r c2) = none := h2.2
  have y3 : S (.r c3) = none := h3.2.2
  refine AWP.tipB c3 2 1 (cs := [i64 g.w, .p (.sl (g.sd.map Seed.pv)), .nils, i64 g.all.k, i64 g.all.g, .p (.sl (g.all.ls.map lvE))]) (by simp only [go_sem, h3]) rfl fun kk hkk => ?_
  simp only [freshv_setr] at hkk
  simp only [List.set]
  refine AWP.iterE (ι := Option Nat) (fun loc i => ⟨Env.get [(1, .sp c1 0), (2, .sp c2 0), (3, .sp c3 0), (4, i64 i)],
    ((((S.set (.r c1) (.cells [i64 g.w, .p (.sl (g.sd.map Seed.pv)), .p (.sl (g.rows.map rowE)), i64 g.all.k, i64 g.all.g, .p (.sl (g.all.ls.map lvE))])).set (.r c2) (.cells [i64 0, .nils, .nils, i64 0, i64 0, .nils])).set (.v kk) (.tip 1 i loc)).set (.r c3) (.cells [i64 g.w, .p (.sl (g.sd.map Seed.pv)), .ts kk 1 loc ((g.rows.take i).map rowE), i64 g.all.k, i64 g.all.g, .p (.sl (g.all.ls.map lvE))])), 39, []⟩) g.rows.length none ?_ ?_ ?_
  · refine le_of (by simp only [go_sem] <;> rfl) ?_ rfl rfl (by simp)
    ((try dsimp only); (repeat refine sub_set ?_ ?_) <;> first | ((repeat (first | exact Sub.refl _ | refine Sub.setF ?_ (by first | assumption | simp only [*]) | refine Sub.setV ?_ (by first | assumption | simp only [*]))); done) | (simp only [go_sem, h2, h3, hkk, List.take_zero, List.map_nil]; done) | (simp only [go_sem, h2, h3, hkk, List.take_zero, List.map_nil]; rfl) | rfl)
  · intro i loc hi ih
    have hq : wi ((i : Int) + 1) = ((i + 1 : Nat) : Int) := wi_succ (show i < 4611686018427387904 by clear h2 h3; omega)
    have htl : (g.rows.take i).length = i := take_len (by clear h2 h3; omega)
    have htl1 : (g.rows.take (i + 1)).length = i + 1 := take_len (by clear h2 h3; omega)
    refine AWPH.step (xc_ok (bitB 16777247) _ _ _ ?_)
    simp only [go_sem, h2, h3, hi, ltN' hi, getD_map' _ _ _ _ hi]
    refine AWP.draw2 (bitB 16777247) mixed (by kernel_rfl) (fun j => .p (.sl ((g.rows[i]).map Hist.cs))) ?_
    simp only [go_sem, h2, h3, hkk, hi, ltN' hi, getD_map' _ _ _ _ hi, rowE_mk, rowP, List.length_map, htl]
    refine ⟨(theirs g.rows[i] (hg.w _ (List.getElem_mem hi))).draw, by rintro el rfl; rfl, row_len, by clear h2 h3; omega, by clear h2 h3; omega, grow_intro fun loc' => ?_⟩
    simp only [go_sem, h2, h3, hkk, hq, row_more g.rows i hi]
    refine (ih loc').back ?_ (by simp) ?_
    · ((try dsimp only); (repeat refine sub_set ?_ ?_) <;> first | ((repeat (first | exact Sub.refl _ | refine Sub.setF ?_ (by first | assumption | simp only [*]) | refine Sub.setV ?_ (by first | assumption | simp only [*]))); done) | (simp only [go_sem, h2, h3, hkk, List.length_map, htl1, row_more g.rows i hi]; done) | (simp only [go_sem, h2, h3, hkk, List.length_map, htl1, row_more g.rows i hi]; rfl) | rfl)
    · simp only [go_sem, hq]
  · intro loc
    refine AWPH.step (xc_ok (bitB 16777247) _ _ _ ?_)
    simp only [go_sem, h2, h3, hkk, List.take_length]
    refine ⟨S, ?_, ?_⟩
    · exact Sub.set (Sub.set (Sub.set (Sub.set (Sub.set (Sub.refl _) y1 _) y2 _) hkk _) y3 _) y2 _
    · simp

noncomputable def rowV (g : Grid) (row : Int) (x t n : Nat) : Nat :=
  if 0 ≤ row ∧ row < g.rows.length ∧ x < 2305843009213693951 then estV ((g.rows.getD row.toNat []).getD (colN g x row.toNat) zeroH).ls t n else 0
theorem Hist.Ok.sm {h : Hist} (ok : h.Ok) : h.ls.length < 1099511627776 ∧ ∀ l ∈ h.ls, l.length < 1099511627776 := ⟨by have := ok.ls; omega, fun l hl => by have := ok.ll l hl; omega⟩
set_option maxHeartbeats 1000000 in
theorem grid_Row (g : Grid) (hg : g.Ok) (row : Int) (x t n : Nat) (hx : x < 18446744073709551616) : Pure Tryz.prog 14 [g.av, i64 row, u64 x, u64 t, u64 n] (u64 (rowV g row x t n)) := fun S => by
  refine callR_of Tryz.func14 rfl rfl (xc_ok (bitB 16778303) _ _ _ ?_)
  simp only [go_sem]
  refine alloc_intro fun c5 h5 => ?_
  by_cases a1 : row < 0
  · simp only [go_sem, a1]
    (refine ⟨S, by (repeat (first | exact Sub.refl _ | refine Sub.setF ?_ (by first | assumption | simp only [*]) | refine Sub.setV ?_ (by first | assumption | simp only [*]))), ?_⟩); simp [rowV, show ¬ 0 ≤ row by omega]
  by_cases a2 : row ≥ g.rows.length
  · simp only [go_sem, a1, a2, List.length_map]
    (refine ⟨S, by (repeat (first | exact Sub.refl _ | refine Sub.setF ?_ (by first | assumption | simp only [*]) | refine Sub.setV ?_ (by first | assumption | simp only [*]))), ?_⟩); simp [rowV, show ¬ row < g.rows.length by omega]
  simp only [go_sem, a1, a2, List.length_map]
  refine (hash_Key x).useA ?_
  by_cases a3 : x < 2305843009213693951
  rotate_left
  · simp only [go_sem, a3, Bool.not_false]
    (refine ⟨S, by (repeat (first | exact Sub.refl _ | refine Sub.setF ?_ (by first | assumption | simp only [*]) | refine Sub.setV ?_ (by first | assumption | simp only [*]))), ?_⟩); simp [rowV, a3]
  simp only [go_sem, a3, Bool.not_true]
  obtain ⟨i, rfl⟩ : ∃ i : Nat, row = i := ⟨row.toNat, by omega⟩
  have hi : i < g.rows.length := by omega
  have hcs : i < g.sd.length := by rw [hg.sd]; exact hi
  have hci : colV g.sd[i] x g.w = ((colN g x i : Nat) : Int) := by
    unfold colN
    rw [show g.sd.getD i default = g.sd[i] by simp [List.getD_eq_getElem?_getD, hcs], Int.toNat_of_nonneg (colV_nn _ _ _)]
  have hcr : colN g x i < g.rows[i].length := by rw [hg.wid _ (List.getElem_mem hi)]; exact colN_lt g hg.w1 x i
  have hok := (hg.hs _ (List.getElem_mem hi) _ (List.getElem_mem hcr)).sm
  have hrv : rowV g i x t n = estV (g.rows[i][colN g x i]).ls t n := by
    unfold rowV
    rw [if_pos ⟨by omega, by omega, a3⟩, Int.toNat_natCast, show g.rows.getD i [] = g.rows[i] by simp [List.getD_eq_getElem?_getD, hi], show (g.rows[i]).getD (colN g x i) zeroH = g.rows[i][colN g x i] by simp [List.getD_eq_getElem?_getD, hcr]]
  have hw2 := hg.w2
  refine AWP.draw2 (bitB 16778303) mixed (by kernel_rfl) (fun j => if j = 13 then i64 (colN g x i) else u64 (rowV g i x t n)) ?_
  simp only [go_sem, hi, ltN' hi, hcs, ltN' hcs, getD_map' _ _ _ _ hi, getD_map' _ _ _ _ hcs, rowE_mk, rowP]
  refine ⟨hci ▸ (hash_Column g.sd[i] x g.w (hg.so _ (List.getElem_mem hcs)) hx (by omega)).draw, ?_⟩
  simp only [go_sem, ltN' hcr, hcr, getD_map' _ _ _ _ hcr]
  refine ⟨hrv ▸ (est_Of (g.rows[i][colN g x i]).k (g.rows[i][colN g x i]).g (g.rows[i][colN g x i]).ls t n hok.1 hok.2).draw, ?_⟩
  (refine ⟨S, by (repeat (first | exact Sub.refl _ | refine Sub.setF ?_ (by first | assumption | simp only [*]) | refine Sub.setV ?_ (by first | assumption | simp only [*]))), ?_⟩); simp
end Go.Sk
end
