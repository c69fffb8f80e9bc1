/- Walks: grids told one way and the other; rows. -/
import Derived.Test.YtlbjacoigdpgfaaGreatR16H
import Derived.Test.YtlbjacoigdpgfaaGreatW8
set_option linter.unusedSimpArgs false
set_option linter.unusedVariables false
set_option linter.unusedSectionVars false
namespace Go.Sk
open Go Go.Proofs

theorem hist_rep (l : List Hist) (j : Nat) (h : j < l.length) : List.map Hist.cs (l.take j) ++ [[.int .i64 (l[j]).k, .int .i64 (l[j]).g, .sl ((l[j]).ls.map lvE)]] = List.map Hist.cs (l.take (j + 1)) := by
  rw [List.take_succ_eq_append_getElem h, List.map_append]; rfl
theorem row_more (l : List (List Hist)) (j : Nat) (h : j < l.length) : List.map rowE (l.take j) ++ [[.sl ((l[j]).map Hist.cs)]] = List.map rowE (l.take (j + 1)) := by
  rw [List.take_succ_eq_append_getElem h, List.map_append]; rfl
theorem take_len {α : Type} {l : List α} {j : Nat} (h : j ≤ l.length) : (l.take j).length = j := by rw [List.length_take]; exact Nat.min_eq_left h

theorem hists (l : List Hist) (hn : l.length < 1048576) : Pure Tryz.prog 75 [.p (.sl (l.map Hist.cs))] (.p (.sl (l.map Hist.cs))) := fun S => by
  refine callR_of Tryz.func75 rfl rfl (xc_ok (bitB 285) _ _ _ ?_)
  simp only [go_sem]
  refine AWP.tip0 3 3 (by simp only [go_sem]) fun k hk => ?_
  simp only [go_sem]
  refine AWP.iterE (ι := Option Nat) (fun loc j => ⟨Env.get [(0, .p (.sl (l.map Hist.cs))), (3, .ts k 3 loc ((l.take j).map Hist.cs)), (4, i64 j)], S.set (.v k) (.tip 3 j loc), 31, []⟩) l.length none ?_ ?_ ?_
  · refine le_of (by simp only [go_sem, List.take_zero, List.map_nil] <;> rfl) ?_ rfl rfl (by simp)
    ((try dsimp only); (repeat refine sub_set ?_ ?_) <;> first | ((repeat (first | exact Sub.refl _ | refine Sub.setF ?_ (by first | assumption | simp only [*]) | refine Sub.setV ?_ (by first | assumption | simp only [*]))); done) | (simp only [go_sem, hk]; done) | (simp only [go_sem, hk]; rfl) | rfl)
  · intro j loc hj jh
    have hqj : wi ((j : Int) + 1) = ((j + 1 : Nat) : Int) := wi_succ (show j < 4611686018427387904 by omega)
    have htl : (l.take j).length = j := take_len (by omega)
    have htl1 : (l.take (j + 1)).length = j + 1 := take_len (by omega)
    refine AWPH.step (xc_ok (bitB 285) _ _ _ ?_)
    simp only [go_sem, hj, ltN' hj, getD_map' _ _ _ _ hj]
    refine AWP.draw2 (bitB 285) mixed (by kernel_rfl) (fun j => bl false) ?_
    simp only [go_sem, hj, ltN' hj, getD_map' _ _ _ _ hj, hk, List.length_map, htl]
    refine ⟨by rintro el rfl; rfl, hist_len, by omega, by omega, grow_intro fun loc' => ?_⟩
    simp only [go_sem, hk, hqj, hist_rep l j hj]
    refine (jh loc').back ?_ (by simp) ?_
    · ((try dsimp only); (repeat refine sub_set ?_ ?_) <;> first | ((repeat (first | exact Sub.refl _ | refine Sub.setF ?_ (by first | assumption | simp only [*]) | refine Sub.setV ?_ (by first | assumption | simp only [*]))); done) | (simp only [go_sem, hk, List.length_map, htl1, hist_rep l j hj]; done) | (simp only [go_sem, hk, List.length_map, htl1, hist_rep l j hj]; rfl) | rfl)
    · simp only [go_sem, hqj]
  · intro loc
    refine AWPH.step (xc_ok (bitB 285) _ _ _ ?_)
    simp only [go_sem, hk, List.take_length]
    refine ⟨S, Sub.set (Sub.refl _) hk _, ?_⟩
    simp
theorem theirs (l : List Hist) (hn : l.length < 1048576) : Pure Tryz.prog 64 [.p (.sl (l.map Hist.cs))] (.p (.sl (l.map Hist.cs))) := fun S => by
  refine callR_of Tryz.func64 rfl rfl (xc_ok (bitB 285) _ _ _ ?_)
  simp only [go_sem]
  refine AWP.tip0 3 3 (by simp only [go_sem]) fun k hk => ?_
  simp only [go_sem]
  refine AWP.iterE (ι := Option Nat) (fun loc j => ⟨Env.get [(0, .p (.sl (l.map Hist.cs))), (3, .ts k 3 loc ((l.take j).map Hist.cs)), (4, i64 j)], S.set (.v k) (.tip 3 j loc), 31, []⟩) l.length none ?_ ?_ ?_
  · refine le_of (by simp only [go_sem, List.take_zero, List.map_nil] <;> rfl) ?_ rfl rfl (by simp)
    ((try dsimp only); (repeat refine sub_set ?_ ?_) <;> first | ((repeat (first | exact Sub.refl _ | refine Sub.setF ?_ (by first | assumption | simp only [*]) | refine Sub.setV ?_ (by first | assumption | simp only [*]))); done) | (simp only [go_sem, hk]; done) | (simp only [go_sem, hk]; rfl) | rfl)
  · intro j loc hj jh
    have hqj : wi ((j : Int) + 1) = ((j + 1 : Nat) : Int) := wi_succ (show j < 4611686018427387904 by omega)
    have htl : (l.take j).length = j := take_len (by omega)
    have htl1 : (l.take (j + 1)).length = j + 1 := take_len (by omega)
    refine AWPH.step (xc_ok (bitB 285) _ _ _ ?_)
    simp only [go_sem, hj, ltN' hj, getD_map' _ _ _ _ hj]
    refine AWP.draw2 (bitB 285) mixed (by kernel_rfl) (fun j => bl false) ?_
    simp only [go_sem, hj, ltN' hj, getD_map' _ _ _ _ hj, hk, List.length_map, htl]
    refine ⟨by rintro el rfl; rfl, hist_len, by omega, by omega, grow_intro fun loc' => ?_⟩
    simp only [go_sem, hk, hqj, hist_rep l j hj]
    refine (jh loc').back ?_ (by simp) ?_
    · ((try dsimp only); (repeat refine sub_set ?_ ?_) <;> first | ((repeat (first | exact Sub.refl _ | refine Sub.setF ?_ (by first | assumption | simp only [*]) | refine Sub.setV ?_ (by first | assumption | simp only [*]))); done) | (simp only [go_sem, hk, List.length_map, htl1, hist_rep l j hj]; done) | (simp only [go_sem, hk, List.length_map, htl1, hist_rep l j hj]; rfl) | rfl)
    · simp only [go_sem, hqj]
  · intro loc
    refine AWPH.step (xc_ok (bitB 285) _ _ _ ?_)
    simp only [go_sem, hk, List.take_length]
    refine ⟨S, Sub.set (Sub.refl _) hk _, ?_⟩
    simp

structure Grid.Sz (g : Grid) : Prop where
  n : g.rows.length < 1048576
  w : ∀ r ∈ g.rows, r.length < 1048576
set_option maxHeartbeats 1000000 in
theorem laid (g : Grid) (hg : g.Sz) : Pure Tryz.prog 36 [g.av] g.av := fun S => by
  have hnn := hg.n
  refine callR_of Tryz.func36 rfl rfl (xc_ok (bitB 16777247) _ _ _ ?_)
  simp only [go_sem]
  refine alloc_intro fun c1 h1 => ?_
  simp only [go_sem]
  refine alloc_intro fun c2 h2 => ?_
  simp only [fresh_set] at h2
  simp only [go_sem, h2]
  refine alloc_intro fun c3 h3 => ?_
  simp only [fresh_set] at h3
  simp only [go_sem, h2, h3]
  have y1 : S (.r c1) = none := h1
  have y2 : S (.r c2) = none := h2.2
  have y3 : S (.r c3) = none := h3.2.2
  refine AWP.tipB c3 2 1 (cs := [i64 g.w, .p (.sl (g.sd.map Seed.pv)), .nils, i64 g.all.k, i64 g.all.g, .p (.sl (g.all.ls.map lvE))]) (by simp only [go_sem, h3]) rfl fun kk hkk => ?_
  simp only [freshv_setr] at hkk
  simp only [List.set]
  refine AWP.iterE (ι := Option Nat) (fun loc i => ⟨Env.get [(1, .sp c1 0), (2, .sp c2 0), (3, .sp c3 0), (4, i64 i)],
    ((((S.set (.r c1) (.cells [i64 g.w, .p (.sl (g.sd.map Seed.pv)), .p (.sl (g.rows.map rowE)), i64 g.all.k, i64 g.all.g, .p (.sl (g.all.ls.map lvE))])).set (.r c2) (.cells [i64 0, .nils, .nils, i64 0, i64 0, .nils])).set (.v kk) (.tip 1 i loc)).set (.r c3) (.cells [i64 g.w, .p (.sl (g.sd.map Seed.pv)), .ts kk 1 loc ((g.rows.take i).map rowE), i64 g.all.k, i64 g.all.g, .p (.sl (g.all.ls.map lvE))])), 39, []⟩) g.rows.length none ?_ ?_ ?_
  · refine le_of (by simp only [go_sem] <;> rfl) ?_ rfl rfl (by simp)
    ((try dsimp only); (repeat refine sub_set ?_ ?_) <;> first | ((repeat (first | exact Sub.refl _ | refine Sub.setF ?_ (by first | assumption | simp only [*]) | refine Sub.setV ?_ (by first | assumption | simp only [*]))); done) | (simp only [go_sem, h2, h3, hkk, List.take_zero, List.map_nil]; done) | (simp only [go_sem, h2, h3, hkk, List.take_zero, List.map_nil]; rfl) | rfl)
  · intro i loc hi ih
    have hq : wi ((i : Int) + 1) = ((i + 1 : Nat) : Int) := wi_succ (show i < 4611686018427387904 by clear h2 h3; omega)
    have htl : (g.rows.take i).length = i := take_len (by clear h2 h3; omega)
    have htl1 : (g.rows.take (i + 1)).length = i + 1 := take_len (by clear h2 h3; omega)
    refine AWPH.step (xc_ok (bitB 16777247) _ _ _ ?_)
    simp only [go_sem, h2, h3, hi, ltN' hi, getD_map' _ _ _ _ hi]
    refine AWP.draw2 (bitB 16777247) mixed (by kernel_rfl) (fun j => .p (.sl ((g.rows[i]).map Hist.cs))) ?_
    simp only [go_sem, h2, h3, hkk, hi, ltN' hi, getD_map' _ _ _ _ hi, rowE_mk, rowP, List.length_map, htl]
    refine ⟨(hists g.rows[i] (hg.w _ (List.getElem_mem hi))).draw, by rintro el rfl; rfl, row_len, by clear h2 h3; omega, by clear h2 h3; omega, grow_intro fun loc' => ?_⟩
    simp only [go_sem, h2, h3, hkk, hq, row_more g.rows i hi]
    refine (ih loc').back ?_ (by simp) ?_
    · ((try dsimp only); (repeat refine sub_set ?_ ?_) <;> first | ((repeat (first | exact Sub.refl _ | refine Sub.setF ?_ (by first | assumption | simp only [*]) | refine Sub.setV ?_ (by first | assumption | simp only [*]))); done) | (simp only [go_sem, h2, h3, hkk, List.length_map, htl1, row_more g.rows i hi]; done) | (simp only [go_sem, h2, h3, hkk, List.length_map, htl1, row_more g.rows i hi]; rfl) | rfl)
    · simp only [go_sem, hq]
  · intro loc
    refine AWPH.step (xc_ok (bitB 16777247) _ _ _ ?_)
    simp only [go_sem, h2, h3, hkk, List.take_length]
    refine ⟨S, ?_, ?_⟩
    · exact Sub.set (Sub.set (Sub.set (Sub.set (Sub.set (Sub.refl _) y1 _) y2 _) hkk _) y3 _) y2 _
    · simp
set_option maxHeartbeats 1000000 in
theorem back (g : Grid) (hg : g.Sz) : Pure Tryz.prog 27 [g.av] g.av := fun S => by
  have hnn := hg.n
  refine callR_of Tryz.func27 rfl rfl (xc_ok (bitB 16777247) _ _ _ ?_)
  simp only [go_sem]
  refine alloc_intro fun c1 h1 => ?_
  simp only [go_sem]
  refine alloc_intro fun c2 h2 => ?_
  simp only [fresh_set] at h2
  simp only [go_sem, h2]
  refine alloc_intro fun c3 h3 => ?_
  simp only [fresh_set] at h3
  simp only [go_sem, h2, h3]
  have y1 : S (.r c1) = none := h1
  have y2 : S (.r c2) = none := h2.2
  have y3 : S (.r c3) = none := h3.2.2
  refine AWP.tipB c3 2 1 (cs := [i64 g.w, .p (.sl (g.sd.map Seed.pv)), .nils, i64 g.all.k, i64 g.all.g, .p (.sl (g.all.ls.map lvE))]) (by simp only [go_sem, h3]) rfl fun kk hkk => ?_
  simp only [freshv_setr] at hkk
  simp only [List.set]
  refine AWP.iterE (ι := Option Nat) (fun loc i => ⟨Env.get [(1, .sp c1 0), (2, .sp c2 0), (3, .sp c3 0), (4, i64 i)],
    ((((S.set (.r c1) (.cells [i64 g.w, .p (.sl (g.sd.map Seed.pv)), .p (.sl (g.rows.map rowE)), i64 g.all.k, i64 g.all.g, .p (.sl (g.all.ls.map lvE))])).set (.r c2) (.cells [i64 0, .nils, .nils, i64 0, i64 0, .nils])).set (.v kk) (.tip 1 i loc)).set (.r c3) (.cells [i64 g.w, .p (.sl (g.sd.map Seed.pv)), .ts kk 1 loc ((g.rows.take i).map rowE), i64 g.all.k, i64 g.all.g, .p (.sl (g.all.ls.map lvE))])), 39, []⟩) g.rows.length none ?_ ?_ ?_
  · refine le_of (by simp only [go_sem] <;> rfl) ?_ rfl rfl (by simp)
    ((try dsimp only); (repeat refine sub_set ?_ ?_) <;> first | ((repeat (first | exact Sub.refl _ | refine Sub.setF ?_ (by first | assumption | simp only [*]) | refine Sub.setV ?_ (by first | assumption | simp only [*]))); done) | (simp only [go_sem, h2, h3, hkk, List.take_zero, List.map_nil]; done) | (simp only [go_sem, h2, h3, hkk, List.take_zero, List.map_nil]; rfl) | rfl)
  · intro i loc hi ih
    have hq : wi ((i : Int) + 1) = ((i + 1 : Nat) : Int) := wi_succ (show i < 4611686018427387904 by clear h2 h3; omega)
    have htl : (g.rows.take i).length = i := take_len (by clear h2 h3; omega)
    have htl1 : (g.rows.take (i + 1)).length = i + 1 := take_len (by clear h2 h3; omega)
    refine AWPH.step (xc_ok (bitB 16777247) _ _ _ ?_)
    simp only [go_sem, h2, h3, hi, ltN' hi, getD_map' _ _ _ _ hi]
    refine AWP.draw2 (bitB 16777247) mixed (by kernel_rfl) (fun j => .p (.sl ((g.rows[i]).map Hist.cs))) ?_
    simp only [go_sem, h2, h3, hkk, hi, ltN' hi, getD_map' _ _ _ _ hi, rowE_mk, rowP, List.length_map, htl]
    refine ⟨(theirs g.rows[i] (hg.w _ (List.getElem_mem hi))).draw, by rintro el rfl; rfl, row_len, by clear h2 h3; omega, by clear h2 h3; omega, grow_intro fun loc' => ?_⟩
    simp only [go_sem, h2, h3, hkk, hq, row_more g.rows i hi]
    refine (ih loc').back ?_ (by simp) ?_
    · ((try dsimp only); (repeat refine sub_set ?_ ?_) <;> first | ((repeat (first | exact Sub.refl _ | refine Sub.setF ?_ (by first | assumption | simp only [*]) | refine Sub.setV ?_ (by first | assumption | simp only [*]))); done) | (simp only [go_sem, h2, h3, hkk, List.length_map, htl1, row_more g.rows i hi]; done) | (simp only [go_sem, h2, h3, hkk, List.length_map, htl1, row_more g.rows i hi]; rfl) | rfl)
    · simp only [go_sem, hq]
  · intro loc
    refine AWPH.step (xc_ok (bitB 16777247) _ _ _ ?_)
    simp only [go_sem, h2, h3, hkk, List.take_length]
    refine ⟨S, ?_, ?_⟩
    · exact Sub.set (Sub.set (Sub.set (Sub.set (Sub.set (Sub.refl _) y1 _) y2 _) hkk _) y3 _) y2 _
    · simp

noncomputable def rowV (g : Grid) (row : Int) (x t n : Nat) : Nat :=
  if 0 ≤ row ∧ row < g.rows.length ∧ x < 2305843009213693951 then estV ((g.rows.getD row.toNat []).getD (colN g x row.toNat) zeroH).ls t n else 0
theorem Hist.Ok.sm {h : Hist} (ok : h.Ok) : h.ls.length < 1099511627776 ∧ ∀ l ∈ h.ls, l.length < 1099511627776 := ⟨by have := ok.ls; omega, fun l hl => by have := ok.ll l hl; omega⟩
set_option maxHeartbeats 1000000 in
theorem grid_Row (g : Grid) (hg : g.Ok) (row : Int) (x t n : Nat) (hx : x < 18446744073709551616) : Pure Tryz.prog 34 [g.av, i64 row, u64 x, u64 t, u64 n] (u64 (rowV g row x t n)) := fun S => by
  refine callR_of Tryz.func34 rfl rfl (xc_ok (bitB 16778303) _ _ _ ?_)
  simp only [go_sem]
  refine alloc_intro fun c5 h5 => ?_
  by_cases a1 : row < 0
  · simp only [go_sem, a1]
    (refine ⟨S, by (repeat (first | exact Sub.refl _ | refine Sub.setF ?_ (by first | assumption | simp only [*]) | refine Sub.setV ?_ (by first | assumption | simp only [*]))), ?_⟩); simp [rowV, show ¬ 0 ≤ row by omega]
  by_cases a2 : row ≥ g.rows.length
  · simp only [go_sem, a1, a2, List.length_map]
    (refine ⟨S, by (repeat (first | exact Sub.refl _ | refine Sub.setF ?_ (by first | assumption | simp only [*]) | refine Sub.setV ?_ (by first | assumption | simp only [*]))), ?_⟩); simp [rowV, show ¬ row < g.rows.length by omega]
  simp only [go_sem, a1, a2, List.length_map]
  refine (hash_Key x).useA ?_
  by_cases a3 : x < 2305843009213693951
  rotate_left
  · simp only [go_sem, a3, Bool.not_false]
    (refine ⟨S, by (repeat (first | exact Sub.refl _ | refine Sub.setF ?_ (by first | assumption | simp only [*]) | refine Sub.setV ?_ (by first | assumption | simp only [*]))), ?_⟩); simp [rowV, a3]
  simp only [go_sem, a3, Bool.not_true]
  obtain ⟨i, rfl⟩ : ∃ i : Nat, row = i := ⟨row.toNat, by omega⟩
  have hi : i < g.rows.length := by omega
  have hcs : i < g.sd.length := by rw [hg.sd]; exact hi
  have hci : colV g.sd[i] x g.w = ((colN g x i : Nat) : Int) := by
    unfold colN
    rw [show g.sd.getD i default = g.sd[i] by simp [List.getD_eq_getElem?_getD, hcs], Int.toNat_of_nonneg (colV_nn _ _ _)]
  have hcr : colN g x i < g.rows[i].length := by rw [hg.wid _ (List.getElem_mem hi)]; exact colN_lt g hg.w1 x i
  have hok := (hg.hs _ (List.getElem_mem hi) _ (List.getElem_mem hcr)).sm
  have hrv : rowV g i x t n = estV (g.rows[i][colN g x i]).ls t n := by
    unfold rowV
    rw [if_pos ⟨by omega, by omega, a3⟩, Int.toNat_natCast, show g.rows.getD i [] = g.rows[i] by simp [List.getD_eq_getElem?_getD, hi], show (g.rows[i]).getD (colN g x i) zeroH = g.rows[i][colN g x i] by simp [List.getD_eq_getElem?_getD, hcr]]
  have hw2 := hg.w2
  refine AWP.draw2 (bitB 16778303) mixed (by kernel_rfl) (fun j => if j = 13 then i64 (colN g x i) else u64 (rowV g i x t n)) ?_
  simp only [go_sem, hi, ltN' hi, hcs, ltN' hcs, getD_map' _ _ _ _ hi, getD_map' _ _ _ _ hcs, rowE_mk, rowP]
  refine ⟨hci ▸ (hash_Column g.sd[i] x g.w (hg.so _ (List.getElem_mem hcs)) hx (by omega)).draw, ?_⟩
  simp only [go_sem, ltN' hcr, hcr, getD_map' _ _ _ _ hcr]
  refine ⟨hrv ▸ (est_Of (g.rows[i][colN g x i]).k (g.rows[i][colN g x i]).g (g.rows[i][colN g x i]).ls t n hok.1 hok.2).draw, ?_⟩
  (refine ⟨S, by (repeat (first | exact Sub.refl _ | refine Sub.setF ?_ (by first | assumption | simp only [*]) | refine Sub.setV ?_ (by first | assumption | simp only [*]))), ?_⟩); simp
theorem ref15_Row (g : Grid) (hg : g.Ok) (row : Int) (x t n : Nat) (hx : x < 18446744073709551616) : Pure Tryz.prog 40 [g.av, i64 row, u64 x, u64 t, u64 n] (u64 (rowV g row x t n)) := fun S => by
  refine callR_of Tryz.func40 rfl rfl (xc_ok (bitB 33557567) _ _ _ ?_)
  simp only [go_sem]
  refine alloc_intro fun c5 h5 => ?_
  by_cases a1 : row < 0
  · simp only [go_sem, a1]
    (refine ⟨S, by (repeat (first | exact Sub.refl _ | refine Sub.setF ?_ (by first | assumption | simp only [*]) | refine Sub.setV ?_ (by first | assumption | simp only [*]))), ?_⟩); simp [rowV, show ¬ 0 ≤ row by omega]
  by_cases a2 : row ≥ g.rows.length
  · simp only [go_sem, a1, a2, List.length_map]
    (refine ⟨S, by (repeat (first | exact Sub.refl _ | refine Sub.setF ?_ (by first | assumption | simp only [*]) | refine Sub.setV ?_ (by first | assumption | simp only [*]))), ?_⟩); simp [rowV, show ¬ row < g.rows.length by omega]
  simp only [go_sem, a1, a2, List.length_map]
  refine (ref04_Key x).useA ?_
  by_cases a3 : x < 2305843009213693951
  rotate_left
  · simp only [go_sem, a3, Bool.not_false]
    (refine ⟨S, by (repeat (first | exact Sub.refl _ | refine Sub.setF ?_ (by first | assumption | simp only [*]) | refine Sub.setV ?_ (by first | assumption | simp only [*]))), ?_⟩); simp [rowV, a3]
  simp only [go_sem, a3, Bool.not_true]
  obtain ⟨i, rfl⟩ : ∃ i : Nat, row = i := ⟨row.toNat, by omega⟩
  have hi : i < g.rows.length := by omega
  have hcs : i < g.sd.length := by rw [hg.sd]; exact hi
  have hci : colV g.sd[i] x g.w = ((colN g x i : Nat) : Int) := by
    unfold colN
    rw [show g.sd.getD i default = g.sd[i] by simp [List.getD_eq_getElem?_getD, hcs], Int.toNat_of_nonneg (colV_nn _ _ _)]
  have hcr : colN g x i < g.rows[i].length := by rw [hg.wid _ (List.getElem_mem hi)]; exact colN_lt g hg.w1 x i
  have hok := (hg.hs _ (List.getElem_mem hi) _ (List.getElem_mem hcr)).sm
  have hrv : rowV g i x t n = estV (g.rows[i][colN g x i]).ls t n := by
    unfold rowV
    rw [if_pos ⟨by omega, by omega, a3⟩, Int.toNat_natCast, show g.rows.getD i [] = g.rows[i] by simp [List.getD_eq_getElem?_getD, hi], show (g.rows[i]).getD (colN g x i) zeroH = g.rows[i][colN g x i] by simp [List.getD_eq_getElem?_getD, hcr]]
  have hw2 := hg.w2
  refine AWP.draw2 (bitB 33557567) mixed (by kernel_rfl) (fun j => i64 (colN g x i)) ?_
  simp only [go_sem, hcs, ltN' hcs, getD_map' _ _ _ _ hcs]
  refine ⟨hci ▸ (ref04_Column g.sd[i] x g.w (hg.so _ (List.getElem_mem hcs)) hx (by omega)).draw, ?_⟩
  simp only [go_sem, hi, ltN' hi, getD_map' _ _ _ _ hi, rowE_mk, rowP, ltN' hcr, hcr, getD_map' _ _ _ _ hcr]
  refine (hrv ▸ (ref08_Of (g.rows[i][colN g x i]).k (g.rows[i][colN g x i]).g (g.rows[i][colN g x i]).ls t n hok.1 hok.2)).useA ?_
  simp only [go_sem]
  (refine ⟨S, by (repeat (first | exact Sub.refl _ | refine Sub.setF ?_ (by first | assumption | simp only [*]) | refine Sub.setV ?_ (by first | assumption | simp only [*]))), ?_⟩); simp
end Go.Sk
