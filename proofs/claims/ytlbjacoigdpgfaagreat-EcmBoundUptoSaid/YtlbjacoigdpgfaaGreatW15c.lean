/- Walks: grids that are the same. -/
import Derived.Test.YtlbjacoigdpgfaaGreatW15b
set_option linter.unusedSimpArgs false
set_option linter.unusedVariables false
set_option linter.unusedSectionVars false
namespace Go.Sk
open Go Go.Proofs

theorem eq_hists (a b : List Hist) (ha : a.length < 1099511627776) (hl : ∀ h ∈ a, h.Small) :
    Pure Tryz.prog 97 [.p (rowP a), .p (rowP b), .fn (.func 98) [] []] (bl (decide (a = b))) := fun S => by
  refine callR_of Tryz.func97 rfl rfl (xc_ok (bitB 1074250695) _ _ _ ?_)
  simp only [go_sem, rowP]
  by_cases hlen : a.length = b.length
  rotate_left
  · have hn : (a.length != b.length) = true := by simpa using hlen
    have hne : ¬ a = b := fun e => hlen (by rw [e])
    simp only [go_sem, hn]
    (refine ⟨S, by (repeat (first | exact Sub.refl _ | refine Sub.setF ?_ (by first | assumption | simp only [*]) | refine Sub.setV ?_ (by first | assumption | simp only [*]))), ?_⟩); simp [hne]
  · have hn : (a.length != b.length) = false := by simpa using hlen
    simp only [go_sem, hn]
    refine AWP.roam (fun i : Nat => i ≤ a.length ∧ ∀ j, j < i → ∀ (h1 : j < a.length) (h2 : j < b.length), a[j] = b[j]) (fun i => ⟨Env.get [(1, .p (.sl (b.map Hist.cs))), (2, .fn (.func 98) [] []), (15, .p (.sl (a.map Hist.cs))), (16, i64 a.length), (17, i64 i)], S, 32, []⟩) (fun i => a.length - i) 0 ⟨by omega, fun j h => by omega⟩ ?_ ?_
    · exact le_of (by simp only [go_sem]; simp) (Sub.refl _) rfl rfl (by simp)
    · rintro i ⟨hi, hall⟩ ih
      refine AWPH.step (xc_ok (bitB 1074250695) _ _ _ ?_)
      by_cases h : i < a.length
      · have hb : i < b.length := by omega
        simp only [go_sem, h, hb, ltN' h, ltN' hb, getD_map' _ _ _ _ h, getD_map' _ _ _ _ hb]
        refine alloc_intro fun c hc => ?_
        simp only [go_sem, hb, ltN' hb, getD_map' _ _ _ _ hb]
        refine alloc_intro fun d hd => ?_
        simp only [fresh_set] at hd
        simp only [go_sem, hd]
        refine Pure.useF (first := []) (caps := []) (args := [(a[i]).av, (b[i]).av]) (a2 := [(a[i]).av, (b[i]).av]) (hist_Same a[i] b[i] (hl _ (List.getElem_mem h))) rfl ?_
        by_cases hq : a[i] = b[i]
        · simp only [go_sem, hq, Bool.not_true]
          refine (ih (i + 1) ⟨h, all_step hall fun _ _ => hq⟩ (by clear hd; omega)).back (by (repeat (first | exact Sub.refl _ | refine Sub.setF ?_ (by first | assumption | simp only [*]) | refine Sub.setV ?_ (by first | assumption | simp only [*])))) (by simp) ?_
          simp only [go_sem, wi_succ (show i < 4611686018427387904 by clear hd; omega)]
        · simp only [go_sem, hq, Bool.not_false]
          (refine ⟨S, by (repeat (first | exact Sub.refl _ | refine Sub.setF ?_ (by first | assumption | simp only [*]) | refine Sub.setV ?_ (by first | assumption | simp only [*]))), ?_⟩)
          have hne : ¬ a = b := by rintro rfl; exact hq rfl
          simp [hne]
      · obtain rfl : i = a.length := by omega
        simp only [go_sem]
        (refine ⟨S, by (repeat (first | exact Sub.refl _ | refine Sub.setF ?_ (by first | assumption | simp only [*]) | refine Sub.setV ?_ (by first | assumption | simp only [*]))), ?_⟩)
        have : a = b := eq_of_all hlen fun j h1 h2 => hall j h1 h1 h2
        simp [this]

theorem same1 (a b : List Hist) (ha : a.length < 1099511627776) (hl : ∀ h ∈ a, h.Small) :
    Pure Tryz.prog 96 [.p (rowP a), .p (rowP b)] (bl (decide (a = b))) := fun S => by
  refine callR_of Tryz.func96 rfl rfl (xc_ok (bitB 19) _ _ _ ?_)
  simp only [go_sem]
  refine (eq_hists a b ha hl).useA ?_
  simp only [go_sem]
  (refine ⟨S, by (repeat (first | exact Sub.refl _ | refine Sub.setF ?_ (by first | assumption | simp only [*]) | refine Sub.setV ?_ (by first | assumption | simp only [*]))), ?_⟩); simp

theorem rowE_mk (r : List Hist) : rowE r = [rowP r] := rfl
def RSmall (a : List (List Hist)) : Prop := a.length < 1099511627776 ∧ ∀ r ∈ a, r.length < 1099511627776 ∧ ∀ h ∈ r, h.Small
theorem eq_rows (a b : List (List Hist)) (ha : RSmall a) :
    Pure Tryz.prog 95 [.p (.sl (a.map rowE)), .p (.sl (b.map rowE)), .fn (.func 96) [] []] (bl (decide (a = b))) := fun S => by
  obtain ⟨ha, hl⟩ := ha
  refine callR_of Tryz.func95 rfl rfl (xc_ok (bitB 1074250695) _ _ _ ?_)
  simp only [go_sem]
  by_cases hlen : a.length = b.length
  rotate_left
  · have hn : (a.length != b.length) = true := by simpa using hlen
    have hne : ¬ a = b := fun e => hlen (by rw [e])
    simp only [go_sem, hn]
    (refine ⟨S, by (repeat (first | exact Sub.refl _ | refine Sub.setF ?_ (by first | assumption | simp only [*]) | refine Sub.setV ?_ (by first | assumption | simp only [*]))), ?_⟩); simp [hne]
  · have hn : (a.length != b.length) = false := by simpa using hlen
    simp only [go_sem, hn]
    refine AWP.roam (fun i : Nat => i ≤ a.length ∧ ∀ j, j < i → ∀ (h1 : j < a.length) (h2 : j < b.length), a[j] = b[j]) (fun i => ⟨Env.get [(1, .p (.sl (b.map rowE))), (2, .fn (.func 96) [] []), (15, .p (.sl (a.map rowE))), (16, i64 a.length), (17, i64 i)], S, 32, []⟩) (fun i => a.length - i) 0 ⟨by omega, fun j h => by omega⟩ ?_ ?_
    · exact le_of (by simp only [go_sem]; simp) (Sub.refl _) rfl rfl (by simp)
    · rintro i ⟨hi, hall⟩ ih
      refine AWPH.step (xc_ok (bitB 1074250695) _ _ _ ?_)
      by_cases h : i < a.length
      · have hb : i < b.length := by omega
        simp only [go_sem, h, hb, ltN' h, ltN' hb, getD_map' _ _ _ _ h, getD_map' _ _ _ _ hb, rowE_mk]
        refine Pure.useF (first := []) (caps := []) (args := [.p (rowP a[i]), .p (rowP b[i])]) (a2 := [.p (rowP a[i]), .p (rowP b[i])]) (same1 a[i] b[i] (hl _ (List.getElem_mem h)).1 (hl _ (List.getElem_mem h)).2) rfl ?_
        by_cases hq : a[i] = b[i]
        · simp only [go_sem, hq, Bool.not_true]
          refine (ih (i + 1) ⟨h, all_step hall fun _ _ => hq⟩ (by omega)).back (by (repeat (first | exact Sub.refl _ | refine Sub.setF ?_ (by first | assumption | simp only [*]) | refine Sub.setV ?_ (by first | assumption | simp only [*])))) (by simp) ?_
          simp only [go_sem, wi_succ (show i < 4611686018427387904 by omega)]
        · simp only [go_sem, hq, Bool.not_false]
          (refine ⟨S, by (repeat (first | exact Sub.refl _ | refine Sub.setF ?_ (by first | assumption | simp only [*]) | refine Sub.setV ?_ (by first | assumption | simp only [*]))), ?_⟩)
          have hne : ¬ a = b := by rintro rfl; exact hq rfl
          simp [hne]
      · obtain rfl : i = a.length := by omega
        simp only [go_sem]
        (refine ⟨S, by (repeat (first | exact Sub.refl _ | refine Sub.setF ?_ (by first | assumption | simp only [*]) | refine Sub.setV ?_ (by first | assumption | simp only [*]))), ?_⟩)
        have : a = b := eq_of_all hlen fun j h1 h2 => hall j h1 h1 h2
        simp [this]

structure Grid.Small (g : Grid) : Prop where
  sd : g.sd.length < 1099511627776
  rows : RSmall g.rows
  all : g.all.Small
theorem Grid.eq_iff (a b : Grid) : (a = b) = (a.w = b.w ∧ a.sd = b.sd ∧ a.rows = b.rows ∧ a.all = b.all) := by
  cases a; cases b; simp
theorem grid_Same (a b : Grid) (ha : a.Small) : Pure Tryz.prog 55 [a.av, b.av] (bl (decide (a = b))) := fun S => by
  refine callR_of Tryz.func55 rfl rfl (xc_ok (bitB 63) _ _ _ ?_)
  simp only [go_sem]
  refine alloc_intro fun c hc => ?_
  simp only [go_sem]
  refine alloc_intro fun d hd => ?_
  simp only [fresh_set] at hd
  simp only [go_sem, hd]
  refine (eq_rows a.rows b.rows ha.rows).useA ?_
  simp only [go_sem]
  by_cases h1 : a.rows = b.rows
  rotate_left
  · have e1 : decide (a.rows = b.rows) = false := decide_eq_false h1
    simp only [go_sem, e1]
    (refine ⟨S, by (repeat (first | exact Sub.refl _ | refine Sub.setF ?_ (by first | assumption | simp only [*]) | refine Sub.setV ?_ (by first | assumption | simp only [*]))), ?_⟩); simp [Grid.eq_iff, h1]
  have e1 : decide (a.rows = b.rows) = true := decide_eq_true h1
  simp only [go_sem, e1, hd]
  refine (grid_alike a b ha.sd).useA ?_
  simp only [go_sem]
  cases h2 : alikeV a b
  · simp only [go_sem]
    (refine ⟨S, by (repeat (first | exact Sub.refl _ | refine Sub.setF ?_ (by first | assumption | simp only [*]) | refine Sub.setV ?_ (by first | assumption | simp only [*]))), ?_⟩); have hne : ¬ a = b := by rintro rfl; simp [alikeV] at h2
    simp [hne]
  simp only [go_sem, hd]
  refine (hist_Same a.all b.all ha.all).useA ?_
  simp only [go_sem]
  (refine ⟨S, by (repeat (first | exact Sub.refl _ | refine Sub.setF ?_ (by first | assumption | simp only [*]) | refine Sub.setV ?_ (by first | assumption | simp only [*]))), ?_⟩); have h3 : a.w = b.w ∧ a.sd = b.sd := by simp only [alikeV, Bool.and_eq_true, decide_eq_true_eq] at h2; exact ⟨h2.1.1, h2.2⟩
  simp [Grid.eq_iff, h1, h3.1, h3.2]

set_option maxHeartbeats 1000000 in
theorem ref15_Same (a b : Grid) (ha : a.Small) : Pure Tryz.prog 66 [a.av, b.av] (bl (decide (a = b))) := fun S => by
  refine callR_of Tryz.func66 rfl rfl (xc_ok (bitB 19342831632638002285510783) _ _ _ ?_)
  simp only [go_sem]
  refine alloc_intro fun c hc => ?_
  simp only [go_sem]
  refine alloc_intro fun d hd => ?_
  simp only [fresh_set] at hd
  simp only [go_sem, hd]
  by_cases h1 : a.w = b.w
  rotate_left
  · have e1 : (a.w != b.w) = true := by simpa using h1
    simp only [go_sem, e1]
    (refine ⟨S, by (repeat (first | exact Sub.refl _ | refine Sub.setF ?_ (by first | assumption | simp only [*]) | refine Sub.setV ?_ (by first | assumption | simp only [*]))), ?_⟩); simp [Grid.eq_iff, h1]
  have e1 : (a.w != b.w) = false := by simpa using h1
  simp only [go_sem, e1, hd]
  refine (ref15_alike a.sd b.sd ha.sd).useA ?_
  by_cases h2 : a.sd = b.sd
  rotate_left
  · simp only [go_sem, h2, Bool.not_false]
    (refine ⟨S, by (repeat (first | exact Sub.refl _ | refine Sub.setF ?_ (by first | assumption | simp only [*]) | refine Sub.setV ?_ (by first | assumption | simp only [*]))), ?_⟩); simp [Grid.eq_iff, h2]
  simp only [go_sem, h2, hd, Bool.not_true]
  by_cases hlen : a.rows.length = b.rows.length
  rotate_left
  · have hn : (a.rows.length != b.rows.length) = true := by simpa using hlen
    have hne : ¬ a.rows = b.rows := fun e => hlen (by rw [e])
    simp only [go_sem, hn]
    (refine ⟨S, by (repeat (first | exact Sub.refl _ | refine Sub.setF ?_ (by first | assumption | simp only [*]) | refine Sub.setV ?_ (by first | assumption | simp only [*]))), ?_⟩); simp [Grid.eq_iff, hne]
  have hn : (a.rows.length != b.rows.length) = false := by simpa using hlen
  simp only [go_sem, hn, hd]
  refine (ref06_Same a.all b.all ha.all).useA ?_
  by_cases h3 : a.all = b.all
  rotate_left
  · simp only [go_sem, h3, Bool.not_false]
    (refine ⟨S, by (repeat (first | exact Sub.refl _ | refine Sub.setF ?_ (by first | assumption | simp only [*]) | refine Sub.setV ?_ (by first | assumption | simp only [*]))), ?_⟩); simp [Grid.eq_iff, h3]
  simp only [go_sem, h3, hd, Bool.not_true]
  obtain ⟨S1, hS1⟩ : ∃ T, (S.set (.r c) (.cells [i64 a.w, .p (.sl (a.sd.map Seed.pv)), .p (.sl (a.rows.map rowE)), i64 a.all.k, i64 a.all.g, .p (.sl (a.all.ls.map lvE))])).set (.r d) (.cells [i64 b.w, .p (.sl (b.sd.map Seed.pv)), .p (.sl (b.rows.map rowE)), i64 b.all.k, i64 b.all.g, .p (.sl (b.all.ls.map lvE))]) = T := ⟨_, rfl⟩
  refine AWP.roam (fun i : Nat => i ≤ a.rows.length ∧ ∀ j, j < i → ∀ (h1 : j < a.rows.length) (h2 : j < b.rows.length), a.rows[j] = b.rows[j])
    (fun i => ⟨Env.get [(2, .sp c 0), (3, .sp d 0), (5, i64 i)], (S.set (.r c) (.cells [i64 a.w, .p (.sl (a.sd.map Seed.pv)), .p (.sl (a.rows.map rowE)), i64 a.all.k, i64 a.all.g, .p (.sl (a.all.ls.map lvE))])).set (.r d) (.cells [i64 b.w, .p (.sl (b.sd.map Seed.pv)), .p (.sl (b.rows.map rowE)), i64 b.all.k, i64 b.all.g, .p (.sl (b.all.ls.map lvE))]), 85, []⟩) (fun i => a.rows.length - i) 0 ⟨by clear hd; omega, fun j h => by clear hd; omega⟩ ?_ ?_
  · refine le_of (by simp only [go_sem]; simp) ?_ rfl rfl (by simp)
    ((try dsimp only); (repeat refine sub_set ?_ ?_) <;> first | ((repeat (first | exact Sub.refl _ | refine Sub.setF ?_ (by first | assumption | simp only [*]) | refine Sub.setV ?_ (by first | assumption | simp only [*]))); done) | (simp only [go_sem, hd, h1, h2, h3]; done) | (simp only [go_sem, hd, h1, h2, h3]; rfl) | rfl)
  · rintro i ⟨hi, hall⟩ ih
    refine AWPH.step (xc_ok (bitB 19342831632638002285510783) _ _ _ ?_)
    by_cases hx : i < a.rows.length
    rotate_left
    · obtain rfl : i = a.rows.length := by clear hd; omega
      simp only [go_sem, hd]
      (refine ⟨S, by (repeat (first | exact Sub.refl _ | refine Sub.setF ?_ (by first | assumption | simp only [*]) | refine Sub.setV ?_ (by first | assumption | simp only [*]))), ?_⟩)
      have : a.rows = b.rows := eq_of_all hlen fun j h1 h2 => hall j h1 h1 h2
      simp [Grid.eq_iff, this, h1, h2, h3]
    have hb : i < b.rows.length := by clear hd; omega
    simp only [go_sem, hd, hx, hb, ltN' hx, ltN' hb, getD_map' _ _ _ _ hx, getD_map' _ _ _ _ hb, rowE_mk, rowP]
    refine AWP.draw2 (bitB 19342831632638002285510783) mixed (by kernel_rfl) (fun j => bl false) ?_
    simp only [go_sem, hd, hx, hb, ltN' hx, ltN' hb, getD_map' _ _ _ _ hx, getD_map' _ _ _ _ hb, rowE_mk, rowP]
    obtain ⟨hr1, hr2⟩ := ha.rows.2 _ (List.getElem_mem hx)
    obtain ⟨A, hA⟩ : ∃ A, a.rows[i] = A := ⟨_, rfl⟩
    obtain ⟨B, hB⟩ : ∃ B, b.rows[i] = B := ⟨_, rfl⟩
    rw [hA] at hr1 hr2
    by_cases hl2 : A.length = B.length
    rotate_left
    · have hn : (A.length != B.length) = true := by simpa using hl2
      have hne : ¬ a.rows = b.rows := by
        intro e
        apply hl2
        rw [← hA, ← hB]
        simp [e]
      simp only [go_sem, hA, hB, hn]
      (refine ⟨S, by (repeat (first | exact Sub.refl _ | refine Sub.setF ?_ (by first | assumption | simp only [*]) | refine Sub.setV ?_ (by first | assumption | simp only [*]))), ?_⟩); simp [Grid.eq_iff, hne]
    have hn2 : (A.length != B.length) = false := by simpa using hl2
    simp only [go_sem, hA, hB, hn2]
    refine AWP.roam (fun q : Nat => q ≤ A.length ∧ ∀ j, j < q → ∀ (h1 : j < A.length) (h2 : j < B.length), A[j] = B[j])
      (fun q => ⟨Env.get [(2, .sp c 0), (3, .sp d 0), (5, i64 i), (6, i64 q)], (S.set (.r c) (.cells [i64 a.w, .p (.sl (a.sd.map Seed.pv)), .p (.sl (a.rows.map rowE)), i64 a.all.k, i64 a.all.g, .p (.sl (a.all.ls.map lvE))])).set (.r d) (.cells [i64 b.w, .p (.sl (b.sd.map Seed.pv)), .p (.sl (b.rows.map rowE)), i64 b.all.k, i64 b.all.g, .p (.sl (b.all.ls.map lvE))]), 85, []⟩) (fun q => A.length - q) 0 ⟨by clear hd; omega, fun j h => by clear hd; omega⟩ ?_ ?_
    · refine le_of (by simp only [go_sem]; simp) ?_ rfl rfl (by simp)
      ((try dsimp only); (repeat refine sub_set ?_ ?_) <;> first | ((repeat (first | exact Sub.refl _ | refine Sub.setF ?_ (by first | assumption | simp only [*]) | refine Sub.setV ?_ (by first | assumption | simp only [*]))); done) | (simp only [go_sem, hd]; done) | (simp only [go_sem, hd]; rfl) | rfl)
    · rintro q ⟨hq, hall2⟩ ih2
      refine AWPH.step (xc_ok (bitB 19342831632638002285510783) _ _ _ ?_)
      by_cases hy : q < A.length
      rotate_left
      · obtain rfl : q = A.length := by clear hd; omega
        simp only [go_sem, hd, hx, hb, ltN' hx, ltN' hb, getD_map' _ _ _ _ hx, getD_map' _ _ _ _ hb, rowE_mk, rowP, hA, hB]
        have hAB : A = B := eq_of_all hl2 fun j h1 h2 => hall2 j h1 h1 h2
        refine (ih (i + 1) ⟨hx, all_step hall fun _ _ => by rw [hA, hB, hAB]⟩ (by clear hd; omega)).back ?_ (by simp) ?_
        · ((try dsimp only); (repeat refine sub_set ?_ ?_) <;> first | ((repeat (first | exact Sub.refl _ | refine Sub.setF ?_ (by first | assumption | simp only [*]) | refine Sub.setV ?_ (by first | assumption | simp only [*]))); done) | (simp only [go_sem, hd]; done) | (simp only [go_sem, hd]; rfl) | rfl)
        · simp only [go_sem, wi_succ (show i < 4611686018427387904 by have := ha.rows.1; clear hd; omega)]
      have hz : q < B.length := by clear hd; omega
      simp only [go_sem, hd, hx, hb, ltN' hx, ltN' hb, getD_map' _ _ _ _ hx, getD_map' _ _ _ _ hb, rowE_mk, rowP, hA, hB, hy, hz, ltN' hy, ltN' hz, getD_map' _ _ _ _ hy, getD_map' _ _ _ _ hz]
      refine AWP.draw2 (bitB 19342831632638002285510783) mixed (by kernel_rfl) (fun j => bl (decide (A[q] = B[q]))) ?_
      simp only [go_sem, hd, hx, hb, ltN' hx, ltN' hb, getD_map' _ _ _ _ hx, getD_map' _ _ _ _ hb, rowE_mk, rowP, hA, hB, hy, hz, ltN' hy, ltN' hz, getD_map' _ _ _ _ hy, getD_map' _ _ _ _ hz]
      refine ⟨(ref06_Same A[q] B[q] (hr2 _ (List.getElem_mem hy))).draw, ?_⟩
      by_cases hq : A[q] = B[q]
      · simp only [go_sem, hq, Bool.not_true]
        refine (ih2 (q + 1) ⟨hy, all_step hall2 fun _ _ => hq⟩ (by clear hd; omega)).back ?_ (by simp) ?_
        · ((try dsimp only); (repeat refine sub_set ?_ ?_) <;> first | ((repeat (first | exact Sub.refl _ | refine Sub.setF ?_ (by first | assumption | simp only [*]) | refine Sub.setV ?_ (by first | assumption | simp only [*]))); done) | (simp only [go_sem, hd]; done) | (simp only [go_sem, hd]; rfl) | rfl)
        · simp only [go_sem, wi_succ (show q < 4611686018427387904 by clear hd; omega)]
      · simp only [go_sem, hq, Bool.not_false]
        (refine ⟨S, by (repeat (first | exact Sub.refl _ | refine Sub.setF ?_ (by first | assumption | simp only [*]) | refine Sub.setV ?_ (by first | assumption | simp only [*]))), ?_⟩)
        have hne : ¬ a.rows = b.rows := by
          intro e
          apply hq
          subst hA; subst hB
          simp [e]
        simp [Grid.eq_iff, hne]
end Go.Sk
