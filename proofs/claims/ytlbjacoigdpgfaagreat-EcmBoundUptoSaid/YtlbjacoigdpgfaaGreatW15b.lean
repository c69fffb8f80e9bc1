/- Walks: grids: whether they are alike; new ones. -/
import Derived.Test.YtlbjacoigdpgfaaGreatR16C
set_option linter.unusedSimpArgs false
set_option linter.unusedVariables false
set_option linter.unusedSectionVars false
namespace Go.Sk
open Go Go.Proofs

theorem seed_eq (x y : Seed) : (x.a == y.a && x.b == y.b) = decide (x = y) := by
  cases x; cases y
  rw [Bool.eq_iff_iff]; simp
theorem eq_seeds (a b : List Seed) (ha : a.length < 1099511627776) : Pure Tryz.prog 127 [.p (.sl (a.map Seed.pv)), .p (.sl (b.map Seed.pv))] (bl (decide (a = b))) := fun S => by
  refine callR_of Tryz.func127 rfl rfl (xc_ok (bitB 16806963) _ _ _ ?_)
  simp only [go_sem]
  by_cases hlen : a.length = b.length
  rotate_left
  · have hn : (a.length != b.length) = true := by simpa using hlen
    have hne : ¬ a = b := fun e => hlen (by rw [e])
    simp only [go_sem, hn]
    (refine ⟨S, by (repeat (first | exact Sub.refl _ | refine Sub.setF ?_ (by first | assumption | simp only [*]) | refine Sub.setV ?_ (by first | assumption | simp only [*]))), ?_⟩); simp [hne]
  · have hn : (a.length != b.length) = false := by simpa using hlen
    simp only [go_sem, hn]
    refine AWP.roam (fun i : Nat => i ≤ a.length ∧ ∀ j, j < i → ∀ (h1 : j < a.length) (h2 : j < b.length), a[j] = b[j]) (fun i => ⟨Env.get [(0, .p (.sl (a.map Seed.pv))), (1, .p (.sl (b.map Seed.pv))), (12, i64 a.length), (13, i64 i)], S, 26, []⟩) (fun i => a.length - i) 0 ⟨by omega, fun j h => by omega⟩ ?_ ?_
    · exact le_of (by simp only [go_sem]; simp) (Sub.refl _) rfl rfl (by simp)
    · rintro i ⟨hi, hall⟩ ih
      refine AWPH.step (xc_ok (bitB 16806963) _ _ _ ?_)
      by_cases h : i < a.length
      · have hb : i < b.length := by omega
        simp only [go_sem, h, hb, ltN' h, ltN' hb, getD_map' _ _ _ _ h, getD_map' _ _ _ _ hb]
        refine AWP.draw2 (bitB 16806963) mixed (by kernel_rfl) (fun j => bl false) ?_
        simp only [go_sem, h, hb, ltN' h, ltN' hb, getD_map' _ _ _ _ h, getD_map' _ _ _ _ hb, seed_eq]
        by_cases hq : a[i] = b[i]
        · simp only [go_sem, hq, Bool.not_true]
          refine (ih (i + 1) ⟨h, all_step hall fun _ _ => hq⟩ (by omega)).back (by (repeat (first | exact Sub.refl _ | refine Sub.setF ?_ (by first | assumption | simp only [*]) | refine Sub.setV ?_ (by first | assumption | simp only [*])))) (by simp) ?_
          simp only [go_sem, wi_succ (show i < 4611686018427387904 by omega)]
        · simp only [go_sem, hq, Bool.not_false]
          (refine ⟨S, by (repeat (first | exact Sub.refl _ | refine Sub.setF ?_ (by first | assumption | simp only [*]) | refine Sub.setV ?_ (by first | assumption | simp only [*]))), ?_⟩)
          have hne : ¬ a = b := by rintro rfl; exact hq rfl
          simp [hne]
      · obtain rfl : i = a.length := by omega
        simp only [go_sem]
        (refine ⟨S, by (repeat (first | exact Sub.refl _ | refine Sub.setF ?_ (by first | assumption | simp only [*]) | refine Sub.setV ?_ (by first | assumption | simp only [*]))), ?_⟩)
        have : a = b := eq_of_all hlen fun j h1 h2 => hall j h1 h1 h2
        simp [this]
theorem ref15_alike (a b : List Seed) (ha : a.length < 1099511627776) : Pure Tryz.prog 103 [.p (.sl (a.map Seed.pv)), .p (.sl (b.map Seed.pv))] (bl (decide (a = b))) := fun S => by
  refine callR_of Tryz.func103 rfl rfl (xc_ok (bitB 33571891) _ _ _ ?_)
  simp only [go_sem]
  by_cases hlen : a.length = b.length
  rotate_left
  · have hn : (a.length != b.length) = true := by simpa using hlen
    have hne : ¬ a = b := fun e => hlen (by rw [e])
    simp only [go_sem, hn]
    (refine ⟨S, by (repeat (first | exact Sub.refl _ | refine Sub.setF ?_ (by first | assumption | simp only [*]) | refine Sub.setV ?_ (by first | assumption | simp only [*]))), ?_⟩); simp [hne]
  · have hn : (a.length != b.length) = false := by simpa using hlen
    simp only [go_sem, hn]
    refine AWP.roam (fun i : Nat => i ≤ a.length ∧ ∀ j, j < i → ∀ (h1 : j < a.length) (h2 : j < b.length), a[j] = b[j]) (fun i => ⟨Env.get [(0, .p (.sl (a.map Seed.pv))), (1, .p (.sl (b.map Seed.pv))), (5, i64 i)], S, 26, []⟩) (fun i => a.length - i) 0 ⟨by omega, fun j h => by omega⟩ ?_ ?_
    · exact le_of (by simp only [go_sem]; simp) (Sub.refl _) rfl rfl (by simp)
    · rintro i ⟨hi, hall⟩ ih
      refine AWPH.step (xc_ok (bitB 33571891) _ _ _ ?_)
      by_cases h : i < a.length
      · have hb : i < b.length := by omega
        simp only [go_sem, h, hb, ltN' h, ltN' hb, getD_map' _ _ _ _ h, getD_map' _ _ _ _ hb]
        refine AWP.draw2 (bitB 33571891) mixed (by kernel_rfl) (fun j => bl false) ?_
        simp only [go_sem, h, hb, ltN' h, ltN' hb, getD_map' _ _ _ _ h, getD_map' _ _ _ _ hb, seed_eq]
        by_cases hq : a[i] = b[i]
        · simp only [go_sem, hq, Bool.not_true]
          refine (ih (i + 1) ⟨h, all_step hall fun _ _ => hq⟩ (by omega)).back (by (repeat (first | exact Sub.refl _ | refine Sub.setF ?_ (by first | assumption | simp only [*]) | refine Sub.setV ?_ (by first | assumption | simp only [*])))) (by simp) ?_
          simp only [go_sem, wi_succ (show i < 4611686018427387904 by omega)]
        · simp only [go_sem, hq, Bool.not_false]
          (refine ⟨S, by (repeat (first | exact Sub.refl _ | refine Sub.setF ?_ (by first | assumption | simp only [*]) | refine Sub.setV ?_ (by first | assumption | simp only [*]))), ?_⟩)
          have hne : ¬ a = b := by rintro rfl; exact hq rfl
          simp [hne]
      · obtain rfl : i = a.length := by omega
        simp only [go_sem]
        (refine ⟨S, by (repeat (first | exact Sub.refl _ | refine Sub.setF ?_ (by first | assumption | simp only [*]) | refine Sub.setV ?_ (by first | assumption | simp only [*]))), ?_⟩)
        have : a = b := eq_of_all hlen fun j h1 h2 => hall j h1 h1 h2
        simp [this]

def alikeV (a b : Grid) : Bool := decide (a.w = b.w) && decide (a.all.k = b.all.k) && decide (a.sd = b.sd)
theorem grid_alike (a b : Grid) (ha : a.sd.length < 1099511627776) : Pure Tryz.prog 99 [a.av, b.av] (bl (alikeV a b)) := fun S => by
  refine callR_of Tryz.func99 rfl rfl (xc_ok (bitB 31) _ _ _ ?_)
  simp only [go_sem]
  refine alloc_intro fun c hc => ?_
  simp only [go_sem]
  refine alloc_intro fun d hd => ?_
  simp only [fresh_set] at hd
  simp only [go_sem, hd]
  by_cases h1 : a.w = b.w
  rotate_left
  · have e1 : (a.w == b.w) = false := by simpa using h1
    simp only [go_sem, e1]
    (refine ⟨S, by (repeat (first | exact Sub.refl _ | refine Sub.setF ?_ (by first | assumption | simp only [*]) | refine Sub.setV ?_ (by first | assumption | simp only [*]))), ?_⟩); simp [alikeV, h1]
  have e1 : (a.w == b.w) = true := by simpa using h1
  simp only [go_sem, hd, e1]
  by_cases h2 : a.all.k = b.all.k
  rotate_left
  · have e2 : (a.all.k == b.all.k) = false := by simpa using h2
    simp only [go_sem, e2]
    (refine ⟨S, by (repeat (first | exact Sub.refl _ | refine Sub.setF ?_ (by first | assumption | simp only [*]) | refine Sub.setV ?_ (by first | assumption | simp only [*]))), ?_⟩); simp [alikeV, h2]
  have e2 : (a.all.k == b.all.k) = true := by simpa using h2
  simp only [go_sem, hd, e2]
  refine (eq_seeds a.sd b.sd ha).useA ?_
  simp only [go_sem]
  (refine ⟨S, by (repeat (first | exact Sub.refl _ | refine Sub.setF ?_ (by first | assumption | simp only [*]) | refine Sub.setV ?_ (by first | assumption | simp only [*]))), ?_⟩); simp [alikeV, h1, h2]

/-- What forbids a grid. -/
def confV (k w : Int) (sd : List Seed) : Int := if k < 2 ∨ k > 1024 ∨ w < 1 ∨ w > 256 ∨ sd.length < 1 ∨ sd.length > 8 then 9 else if sd.all Seed.may then 0 else 1
def emptyH (k : Int) : Hist := ⟨k, 0, []⟩
def newV (k w : Int) (sd : List Seed) : Grid := ⟨w, sd, List.replicate sd.length (List.replicate w.toNat (emptyH k)), emptyH k⟩
def zeroG : Grid := ⟨0, [], [], zeroH⟩

theorem ref15_Conf (k w : Int) (sd : List Seed) (hn : sd.length < 1099511627776) : Pure Tryz.prog 26 [i64 k, i64 w, .p (.sl (sd.map Seed.pv))] (i64 (confV k w sd)) := fun S => by
  refine callR_of Tryz.func26 rfl rfl (xc_ok (bitB 1104075030727) _ _ _ ?_)
  simp only [go_sem]
  refine (ref06_May k).useA ?_
  by_cases h1 : k < 2 ∨ k > 1024
  · have e1 : (decide (k ≥ 2) && decide (k ≤ 1024)) = false := by
      rw [Bool.eq_false_iff]; simp; omega
    simp only [go_sem, e1, Bool.not_false]
    (refine ⟨S, by (repeat (first | exact Sub.refl _ | refine Sub.setF ?_ (by first | assumption | simp only [*]) | refine Sub.setV ?_ (by first | assumption | simp only [*]))), ?_⟩); simp [confV]; omega
  have e1 : (decide (k ≥ 2) && decide (k ≤ 1024)) = true := by simp; omega
  simp only [go_sem, e1, Bool.not_true]
  by_cases h2 : w < 1
  · simp only [go_sem, h2]
    (refine ⟨S, by (repeat (first | exact Sub.refl _ | refine Sub.setF ?_ (by first | assumption | simp only [*]) | refine Sub.setV ?_ (by first | assumption | simp only [*]))), ?_⟩); simp [confV, h2]
  simp only [go_sem, h2]
  by_cases h3 : w > 256
  · simp only [go_sem, h3]
    (refine ⟨S, by (repeat (first | exact Sub.refl _ | refine Sub.setF ?_ (by first | assumption | simp only [*]) | refine Sub.setV ?_ (by first | assumption | simp only [*]))), ?_⟩); simp [confV, h3]
  simp only [go_sem, h3]
  by_cases h4 : (sd.length : Int) < 1
  · simp only [go_sem, h4]
    (refine ⟨S, by (repeat (first | exact Sub.refl _ | refine Sub.setF ?_ (by first | assumption | simp only [*]) | refine Sub.setV ?_ (by first | assumption | simp only [*]))), ?_⟩); simp [confV, show sd.length < 1 by omega]
  simp only [go_sem, h4]
  by_cases h5 : (sd.length : Int) > 8
  · simp only [go_sem, h5]
    (refine ⟨S, by (repeat (first | exact Sub.refl _ | refine Sub.setF ?_ (by first | assumption | simp only [*]) | refine Sub.setV ?_ (by first | assumption | simp only [*]))), ?_⟩); simp [confV, show sd.length > 8 by omega]
  simp only [go_sem, h5]
  have hc : ¬ (k < 2 ∨ k > 1024 ∨ w < 1 ∨ w > 256 ∨ sd.length < 1 ∨ sd.length > 8) := by omega
  refine AWP.roam (ι := Nat) (fun i => i ≤ sd.length ∧ ∀ j (h : j < i) (h2 : j < sd.length), (sd[j]).may = true)
    (fun i => ⟨Env.get [(2, .p (.sl (sd.map Seed.pv))), (7, i64 i)], S, 41, []⟩) (fun i => sd.length - i) 0 ⟨by simp, fun j h => by omega⟩ ?_ ?_
  · exact le_of (by simp only [go_sem] <;> rfl) (Sub.refl _) rfl rfl (by simp)
  · rintro i ⟨hi, hall⟩ ih
    refine AWPH.step (xc_ok (bitB 1104075030727) _ _ _ ?_)
    by_cases c : i < sd.length
    · simp only [go_sem, c, ltN' c, getD_map' _ _ _ _ c]
      refine (ref04_May sd[i]).useA ?_
      cases ho : (sd[i]).may
      · simp only [go_sem, Bool.not_false]
        have : sd.all Seed.may = false := by
          rw [Bool.eq_false_iff]; intro h
          have := List.all_eq_true.1 h _ (List.getElem_mem c)
          rw [ho] at this; cases this
        have hcv : confV k w sd = 1 := by unfold confV; rw [if_neg hc, this]; rfl
        (refine ⟨S, by (repeat (first | exact Sub.refl _ | refine Sub.setF ?_ (by first | assumption | simp only [*]) | refine Sub.setV ?_ (by first | assumption | simp only [*]))), ?_⟩); simp [hcv]
      · simp only [go_sem, Bool.not_true]
        refine (ih (i + 1) ⟨c, fun j h h2 => ?_⟩ (by omega)).back (by (repeat (first | exact Sub.refl _ | refine Sub.setF ?_ (by first | assumption | simp only [*]) | refine Sub.setV ?_ (by first | assumption | simp only [*])))) (by simp) ?_
        · rcases Nat.lt_or_ge j i with hj | hj
          · exact hall j hj h2
          · obtain rfl : j = i := by omega
            exact ho
        · simp only [go_sem, wi_succ (show i < 4611686018427387904 by omega)]
    · obtain rfl : i = sd.length := by omega
      simp only [go_sem]
      have : sd.all Seed.may = true := List.all_eq_true.2 fun s hs => by
        obtain ⟨j, hj, rfl⟩ := List.getElem_of_mem hs
        exact hall j hj hj
      have hcv : confV k w sd = 0 := by unfold confV; rw [if_neg hc, this]; rfl
      (refine ⟨S, by (repeat (first | exact Sub.refl _ | refine Sub.setF ?_ (by first | assumption | simp only [*]) | refine Sub.setV ?_ (by first | assumption | simp only [*]))), ?_⟩); simp [hcv]

theorem row_rep (k : Int) (j : Nat) : List.map Hist.cs (List.replicate j (emptyH k)) ++ [[.int .i64 k, .int .i64 0, .sl []]] = List.map Hist.cs (List.replicate (j + 1) (emptyH k)) := by
  rw [List.replicate_succ', List.map_append]; rfl
theorem rows_rep (r : List Hist) (j : Nat) : List.map rowE (List.replicate j r) ++ [[.sl (r.map Hist.cs)]] = List.map rowE (List.replicate (j + 1) r) := by
  rw [List.replicate_succ', List.map_append]; rfl

set_option maxHeartbeats 1000000 in
theorem ref15_New (k : Int) (w : Nat) (sd : List Seed) (hw : w < 1048576) (hn : sd.length < 1048576) : Pure Tryz.prog 29 [i64 k, i64 w, .p (.sl (sd.map Seed.pv))] (newV k w sd).av := fun S => by
  refine callR_of Tryz.func29 rfl rfl (xc_ok (bitB 17303495) _ _ _ ?_)
  simp only [go_sem]
  refine alloc_intro fun c6 h6 => ?_
  simp only [go_sem]
  refine alloc_intro fun c7 h7 => ?_
  simp only [fresh_set] at h7
  have g6 : S (.r c6) = none := h6
  have g7 : S (.r c7) = none := h7.2
  simp only [go_sem, h7]
  refine AWP.tipB c7 2 1 (cs := [i64 w, .p (.sl (sd.map Seed.pv)), .nils, i64 k, i64 0, .nils]) (by simp only [go_sem, h7]) rfl fun kk hkk => ?_
  simp only [freshv_setr] at hkk
  simp only [List.set]
  refine AWP.iterE (ι := Option Nat) (fun loc i => ⟨Env.get [(0, i64 k), (1, i64 w), (2, .p (.sl (sd.map Seed.pv))), (6, .sp c6 0), (7, .sp c7 0), (8, i64 i)],
    ((S.set (.r c6) (.cells [i64 0, .nils, .nils, i64 0, i64 0, .nils])).set (.v kk) (.tip 1 i loc)).set (.r c7) (.cells [i64 w, .p (.sl (sd.map Seed.pv)), .ts kk 1 loc ((List.replicate i (List.replicate w (emptyH k))).map rowE), i64 k, i64 0, .nils]), 39, []⟩) sd.length none ?_ ?_ ?_
  · refine le_of (by simp only [go_sem] <;> rfl) ?_ rfl rfl (by simp)
    ((try dsimp only); (repeat refine sub_set ?_ ?_) <;> first | ((repeat (first | exact Sub.refl _ | refine Sub.setF ?_ (by first | assumption | simp only [*]) | refine Sub.setV ?_ (by first | assumption | simp only [*]))); done) | (simp only [go_sem, h7, hkk, List.replicate_zero, List.map_nil, List.length_nil]; done) | (simp only [go_sem, h7, hkk, List.replicate_zero, List.map_nil, List.length_nil]; rfl) | rfl)
  · intro i loc hi ih
    refine AWPH.step (xc_ok (bitB 17303495) _ _ _ ?_)
    have hq : wi ((i : Int) + 1) = ((i + 1 : Nat) : Int) := wi_succ (show i < 4611686018427387904 by clear h7; omega)
    simp only [go_sem, hi, ltN' hi]
    refine AWP.tip0 9 3 (by simp only [go_sem]) fun k9 hk9 => ?_
    simp only [freshv_setr, freshv_set] at hk9
    simp only [go_sem]
    refine AWP.iterE (ι := Option Nat) (fun loc9 j => ⟨Env.get [(0, i64 k), (1, i64 w), (2, .p (.sl (sd.map Seed.pv))), (6, .sp c6 0), (7, .sp c7 0), (8, i64 i), (9, .ts k9 3 loc9 ((List.replicate j (emptyH k)).map Hist.cs)), (10, i64 j)],
      (((S.set (.r c6) (.cells [i64 0, .nils, .nils, i64 0, i64 0, .nils])).set (.v kk) (.tip 1 i loc)).set (.r c7) (.cells [i64 w, .p (.sl (sd.map Seed.pv)), .ts kk 1 loc ((List.replicate i (List.replicate w (emptyH k))).map rowE), i64 k, i64 0, .nils])).set (.v k9) (.tip 3 j loc9), 39, []⟩) w none ?_ ?_ ?_
    · refine le_of (by simp only [go_sem, List.replicate_zero, List.map_nil] <;> rfl) ?_ rfl rfl (by simp)
      ((try dsimp only); (repeat refine sub_set ?_ ?_) <;> first | ((repeat (first | exact Sub.refl _ | refine Sub.setF ?_ (by first | assumption | simp only [*]) | refine Sub.setV ?_ (by first | assumption | simp only [*]))); done) | (simp only [go_sem, h7, hkk, hk9, List.replicate_zero, List.map_nil, List.length_nil]; done) | (simp only [go_sem, h7, hkk, hk9, List.replicate_zero, List.map_nil, List.length_nil]; rfl) | rfl)
    · intro j loc9 hj jh
      have hqj : wi ((j : Int) + 1) = ((j + 1 : Nat) : Int) := wi_succ (show j < 4611686018427387904 by clear h7 hk9; omega)
      have q2 : (j + 1) * 40 ≤ 140737488355328 := by clear h7 hk9; omega
      have q3 : j + 1 < 4611686018427387904 := by clear h7 hk9; omega
      refine AWPH.step (xc_ok (bitB 17303495) _ _ _ ?_)
      simp only [go_sem, ltN' hj, hk9, List.length_map, List.length_replicate]
      refine ⟨by rintro el rfl; rfl, hist_len, q2, q3, grow_intro fun loc' => ?_⟩
      simp only [go_sem, hk9, hqj, row_rep]
      refine (jh loc').back ?_ (by simp) ?_
      · ((try dsimp only); (repeat refine sub_set ?_ ?_) <;> first | ((repeat (first | exact Sub.refl _ | refine Sub.setF ?_ (by first | assumption | simp only [*]) | refine Sub.setV ?_ (by first | assumption | simp only [*]))); done) | (simp only [go_sem, h7, hkk, hk9, List.length_map, List.length_replicate, row_rep]; done) | (simp only [go_sem, h7, hkk, hk9, List.length_map, List.length_replicate, row_rep]; rfl) | rfl)
      · simp only [go_sem, hqj, row_rep]
    · intro loc9
      have q2 : (i + 1) * 24 ≤ 140737488355328 := by clear h7 hk9; omega
      have q3 : i + 1 < 4611686018427387904 := by clear h7 hk9; omega
      refine AWPH.step (xc_ok (bitB 17303495) _ _ _ ?_)
      simp only [go_sem, h7, hkk, hk9, List.length_map, List.length_replicate]
      refine ⟨by rintro el rfl; rfl, row_len, q2, q3, grow_intro fun loc' => ?_⟩
      simp only [go_sem, h7, hkk, hk9, hq, rows_rep]
      refine (ih loc').back ?_ (by simp) ?_
      · ((try dsimp only); (repeat refine sub_set ?_ ?_) <;> first | ((repeat (first | exact Sub.refl _ | refine Sub.setF ?_ (by first | assumption | simp only [*]) | refine Sub.setV ?_ (by first | assumption | simp only [*]))); done) | (simp only [go_sem, h7, hkk, hk9, List.length_map, List.length_replicate, rows_rep]; done) | (simp only [go_sem, h7, hkk, hk9, List.length_map, List.length_replicate, rows_rep]; rfl) | rfl)
      · simp only [go_sem, hq]
  · intro loc
    refine AWPH.step (xc_ok (bitB 17303495) _ _ _ ?_)
    simp only [go_sem, h7, hkk]
    refine ⟨S, ?_, ?_⟩
    · refine Sub.set (Sub.set (Sub.set (Sub.set (Sub.refl _) g6 _) hkk _) g7 _) g6 _
    · simp [newV, emptyH]
end Go.Sk
