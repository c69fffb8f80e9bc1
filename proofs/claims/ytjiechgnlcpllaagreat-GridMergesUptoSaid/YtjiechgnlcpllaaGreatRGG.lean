/- Texts WGe WGf LGm, joined. -/
import Derived.Test.YtjiechgnlcpllaaGreatRGF
import Derived.Test.YtjiechgnlcpllaaGreatRGD
set_option linter.unusedSimpArgs false
set_option linter.unusedVariables false
set_option linter.unusedSectionVars false
-- WGe
section
namespace Go.Sk
open Go Go.Proofs

theorem own_take (g : Grid) (i c : Nat) (evs : List Event) (j : Nat) (hj : j < evs.length) : ownE g i c (evs.take (j + 1)) = ownE g i c (evs.take j) ++ (if colN g (evs[j]).k i = c then [evs[j]] else []) := by
  unfold ownE
  rw [List.take_succ_eq_append_getElem hj, List.filter_append]
  congr 1
  by_cases h : colN g (evs[j]).k i = c <;> simp [h]
theorem ev_snoc (M : List Event) (e : Event) : M.map Event.pv ++ [[.int .u64 e.t, .int .u64 e.k, .int .u64 e.w]] = (M ++ [e]).map Event.pv := by rw [List.map_append]; rfl
set_option maxHeartbeats 1000000 in
set_option maxRecDepth 8000 in
theorem ref15_column (evs : List Event) (g : Grid) (r : List Grid) (i c : Nat) (hn : evs.length < 1048576) (hev : ∀ e ∈ evs, e.Ok) (hi : i < g.sd.length) (hs : ∀ s ∈ g.sd, s.Ok) (hw : g.w < 9223372036854775808) (hci : c < 1048576) (hii : i < 1048576) (hC : Cut (g :: r) i c) :
    Pure Tryz.prog 28 [.p (evsP evs), .p (.sl ((g :: r).map Grid.pv)), i64 i, i64 c] (.tuple [.p (evsP (ownE g i c evs)), .p (.sl ((cellsE (g :: r) i c).map Hist.cs))]) := fun S => by
  have hnl : 0 < (g :: r).length := by simp
  have hget0 : ((g :: r).map Grid.pv).getD 0 [] = g.pv := rfl
  have hci2 : ∀ e : Event, colV (g.sd.getD i default) e.k g.w = ((colN g e.k i : Nat) : Int) := fun e => by
    unfold colN; rw [Int.toNat_of_nonneg (colV_nn _ _ _)]
  have hsd : g.sd.getD i default = g.sd[i] := by simp [List.getD_eq_getElem?_getD, hi]
  rw [hsd] at hci2
  obtain ⟨l, hl⟩ : ∃ l, g :: r = l := ⟨_, rfl⟩
  rw [hl] at hC hnl hget0
  refine callR_of Tryz.func28 rfl rfl (xc_ok (bitB 563224831475471) _ _ _ ?_)
  rw [hl]
  simp only [go_sem]
  refine AWP.tip0 10 3 (by simp only [go_sem]) fun k hk => ?_
  refine AWP.tip0 11 3 (by simp only [go_sem]) fun k2 hk2 => ?_
  simp only [freshv_set] at hk2
  simp only [go_sem]
  refine AWP.iterE (ι := Option Nat) (fun loc j => ⟨Env.get [(0, .p (evsP evs)), (1, .p (.sl (l.map Grid.pv))), (2, i64 i), (3, i64 c), (10, .ts k 3 loc ((ownE g i c (evs.take j)).map Event.pv)), (11, .ts k2 3 none []), (12, i64 j)],
    (S.set (.v k) (.tip 3 (ownE g i c (evs.take j)).length loc)).set (.v k2) (.tip 3 0 none), 68, []⟩) evs.length none ?_ ?_ ?_
  · refine le_of (by simp only [go_sem, List.take_zero, ownE, List.filter_nil, List.map_nil] <;> rfl) ?_ rfl rfl (by simp)
    exact Sub.refl _
  · intro j loc hj ih
    have hqj : wi ((j : Int) + 1) = ((j + 1 : Nat) : Int) := wi_succ (show j < 4611686018427387904 by omega)
    have hot := own_take g i c evs j hj
    have hol : (ownE g i c (evs.take j)).length ≤ 1048576 := by
      have := (own_sub g i c (evs.take j)).1
      rw [List.length_take] at this; omega
    rw [hot] at ih
    generalize ownE g i c (evs.take j) = M at *
    refine AWPH.step (xc_ok (bitB 563224831475471) _ _ _ ?_)
    simp only [go_sem, hj, evsP, List.length_map]
    refine AWP.draw2 (bitB 563224831475471) mixed (by kernel_rfl) (fun _ => i64 (colV g.sd[i] (evs[j]).k g.w)) ?_
    simp only [go_sem, hj, ltN' hj, getD_map' _ _ _ _ hj, evsP, hnl, hget0, Grid.pv, ltN' hi, getD_map' _ _ _ _ hi, List.length_map]
    refine ⟨(ref04_Column g.sd[i] (evs[j]).k g.w (hs _ (List.getElem_mem hi)) (hev _ (List.getElem_mem hj)).k hw).draw, ?_⟩
    by_cases q : colN g (evs[j]).k i = c
    · have qb : (colV g.sd[i] (evs[j]).k g.w == (c : Int)) = true := by rw [hci2, q]; simp
      rw [if_pos q] at ih
      have e5 := ev_snoc M evs[j]
      have hl1 : (M ++ [evs[j]]).length = M.length + 1 := by rw [List.length_append]; rfl
      simp only [go_sem, qb, hj, ltN' hj, getD_map' _ _ _ _ hj, evsP, List.length_map, hk2]
      refine ⟨by rintro el rfl; rfl, ev3_len, by omega, by omega, grow_intro fun loc' => ?_⟩
      simp only [go_sem, hk2, e5]
      refine (ih loc').back ?_ (by simp) ?_
      · ((try dsimp only); (repeat refine sub_set ?_ ?_) <;> first | ((repeat (first | exact Sub.refl _ | refine Sub.setF ?_ (by first | assumption | simp only [*]) | refine Sub.setV ?_ (by first | assumption | simp only [*]))); done) | (simp only [go_sem, hk2, e5, hl1, List.length_map]; done) | (simp only [go_sem, hk2, e5, hl1, List.length_map]; rfl) | rfl)
      · simp only [go_sem, hqj, evsP]
    · have qb : (colV g.sd[i] (evs[j]).k g.w == (c : Int)) = false := by
        rw [hci2]; rw [beq_eq_false_iff_ne]; intro e; exact q (by exact_mod_cast e)
      rw [if_neg q, List.append_nil] at ih
      simp only [go_sem, qb]
      refine (ih loc).back (by (repeat (first | exact Sub.refl _ | refine Sub.setF ?_ (by first | assumption | simp only [*]) | refine Sub.setV ?_ (by first | assumption | simp only [*])))) (by simp) ?_
      simp only [go_sem, hqj, evsP]
  · intro loc
    rw [List.take_length]
    obtain ⟨V, hV⟩ : ∃ V, S.set (.v k) (.tip 3 (ownE g i c evs).length loc) = V := ⟨_, rfl⟩
    rw [hV]
    have vk : V (.v k2) = none := by rw [← hV]; simp only [go_sem, hk2]; exact hk2.2
    refine AWPH.step (xc_ok (bitB 563224831475471) _ _ _ ?_)
    simp only [go_sem, evsP, List.length_map]
    refine AWP.iterE (ι := Option Nat) (fun loc2 j => ⟨Env.get [(0, .p (.sl (evs.map Event.pv))), (1, .p (.sl (l.map Grid.pv))), (2, i64 i), (3, i64 c), (10, .ts k 3 loc ((ownE g i c evs).map Event.pv)), (11, .ts k2 3 loc2 ((cellsE (l.take j) i c).map Hist.cs)), (13, i64 j)],
      V.set (.v k2) (.tip 3 j loc2), 68, []⟩) l.length none ?_ ?_ ?_
    · refine le_of (by simp only [go_sem, List.take_zero, cellsE, List.map_nil] <;> rfl) ?_ rfl rfl (by simp)
      exact Sub.refl _
    · intro j loc2 hj ih
      have hjn := hC.n
      obtain ⟨r1, r2⟩ := hC.row _ (List.getElem_mem hj)
      have hgr : (l[j]).rows.getD i [] = (l[j]).rows[i] := by simp [List.getD_eq_getElem?_getD, r1]
      have r3 : c < ((l[j]).rows[i]).length := by rw [← hgr]; exact r2
      have hce : ((l[j]).rows[i])[c] = cellOf l[j] i c := by
        unfold cellOf; rw [hgr]; simp [List.getD_eq_getElem?_getD, r3]
      have hsn := cells_snoc l i c j hj
      have hqj : wi ((j : Int) + 1) = ((j + 1 : Nat) : Int) := wi_succ (show j < 4611686018427387904 by omega)
      have hcl : (cellsE (l.take j) i c).length = j := by unfold cellsE; rw [List.length_map, List.length_take]; omega
      have hcl1 : (cellsE (l.take (j + 1)) i c).length = j + 1 := by unfold cellsE; rw [List.length_map, List.length_take]; omega
      rw [← hce] at hsn
      refine AWPH.step (xc_ok (bitB 563224831475471) _ _ _ ?_)
      simp only [go_sem, hj, ltN' hj, getD_map' _ _ _ _ hj, List.length_map, ltN' r1, ltN' r3, getD_map' _ _ _ _ r1, getD_map' _ _ _ _ r3, rowE_mk, rowP, Grid.pv]
      refine ⟨by rintro el rfl; rfl, by rw [hcl], hist_len, by omega, by omega, grow_intro fun loc' => ?_⟩
      simp only [go_sem, hsn]
      refine (ih loc').back ?_ (by simp) ?_
      · ((try dsimp only); (repeat refine sub_set ?_ ?_) <;> first | ((repeat (first | exact Sub.refl _ | refine Sub.setF ?_ (by first | assumption | simp only [*]) | refine Sub.setV ?_ (by first | assumption | simp only [*]))); done) | (simp only [go_sem, hsn, hcl, hcl1, List.length_map, List.length_append]; done) | (simp only [go_sem, hsn, hcl, hcl1, List.length_map, List.length_append]; rfl) | rfl)
      · simp only [go_sem, hqj]
    · intro loc2
      refine AWPH.step (xc_ok (bitB 563224831475471) _ _ _ ?_)
      simp only [go_sem, List.take_length, List.length_map]
      refine ⟨S, Sub.set (by rw [← hV]; exact Sub.set (Sub.refl _) hk _) hk2.2 _, ?_⟩
      exact Or.inl rfl
theorem forb_merge {evs : List Event} {l : List Grid} : (forbV evs l ≠ 0 → mergeG evs l = (zeroG, forbV evs l)) ∧
    (forbV evs l = 0 → l ≠ [] ∧ l.any (fun g => !likeG g (l.headD zGrid)) = false ∧ ((withV evs (l.map Grid.all)).2 ≠ 0 → mergeG evs l = (zeroG, (withV evs (l.map Grid.all)).2)) ∧
      ((withV evs (l.map Grid.all)).2 = 0 → mergeG evs l = (⟨(l.headD zGrid).w, (l.headD zGrid).sd, mergedR evs l (l.headD zGrid), (withV evs (l.map Grid.all)).1⟩, 0))) := by
  unfold forbV mergeG
  by_cases h1 : l = []
  · rw [if_pos h1, if_pos h1]; exact ⟨fun _ => rfl, fun h => absurd h (by decide)⟩
  rw [if_neg h1, if_neg h1]
  by_cases h2 : l.any (fun g => !likeG g (l.headD zGrid)) = true
  · rw [if_pos h2, if_pos h2]; exact ⟨fun _ => rfl, fun h => absurd h (by decide)⟩
  rw [if_neg h2, if_neg h2]
  by_cases h3 : evs.any (fun e => !decide (e.k < 2305843009213693951)) = true
  · rw [if_pos h3, if_pos h3]; exact ⟨fun _ => rfl, fun h => absurd h (by decide)⟩
  rw [if_neg h3, if_neg h3]
  refine ⟨fun h => absurd rfl h, fun _ => ⟨h1, by simpa using h2, fun h => by rw [if_neg h], fun h => by rw [if_pos h]⟩⟩
set_option maxHeartbeats 1000000 in
set_option maxRecDepth 8000 in
theorem ref15_Merge (evs : List Event) (l : List Grid) (h : MergeOk evs l) : Pure Tryz.prog 8 [.p (evsP evs), .p (.sl (l.map Grid.pv))] (.tuple [(mergeG evs l).1.av, i64 (mergeG evs l).2]) := fun S => by
  have hln := h.n
  obtain ⟨m1, m2, m3⟩ := h.alls
  refine callR_of Tryz.func8 rfl rfl (xc_ok (bitB 4951779120394569611049697267) _ _ _ ?_)
  simp only [go_sem]
  refine alloc_intro fun c4 h4 => ?_
  have y4 : S (.r c4) = none := h4
  simp only [go_sem]
  refine (ref15_forbids evs l h.n h.ne (fun g hg => by have := (h.whole g hg).good.sd; have := (h.whole g hg).good.n; omega)).useA ?_
  obtain ⟨f1, f2⟩ := forb_merge (evs := evs) (l := l)
  by_cases h0 : forbV evs l = 0
  rotate_left
  · have h0b : (forbV evs l != 0) = true := by simpa using h0
    simp only [go_sem, h0b]
    have ha := f1 h0
    (refine ⟨S, by (repeat (first | exact Sub.refl _ | refine Sub.setF ?_ (by first | assumption | simp only [*]) | refine Sub.setV ?_ (by first | assumption | simp only [*]))), ?_⟩); rw [ha]; simp [zeroG, zeroH]
  obtain ⟨hlne, hany, f3, f4⟩ := f2 h0
  clear f1 f2
  have h0b : (forbV evs l != 0) = false := by simpa using h0
  obtain ⟨g, hhd⟩ : ∃ g, l.headD zGrid = g := ⟨_, rfl⟩
  have hgl : g ∈ l := by rw [← hhd]; cases l with | nil => exact absurd rfl hlne | cons a b => simp
  obtain ⟨r, hlr⟩ : ∃ r, l = g :: r := by cases l with | nil => exact absurd rfl hlne | cons a b => exact ⟨b, by rw [← hhd]; rfl⟩
  have hnl : 0 < l.length := List.length_pos_iff.2 hlne
  have hget0 : (l.map Grid.pv).getD 0 [] = g.pv := by rw [hlr]; rfl
  have hw0 := h.whole g hgl
  have hsdn := hw0.good.sd
  have hnn := hw0.good.n
  have hwt : ((g.w.toNat : Nat) : Int) = g.w := by have := hw0.good.w1; omega
  have hwt2 : g.w.toNat < 1048576 := by have := hw0.good.w2; omega
  simp only [go_sem, h0b]
  refine AWP.tip0 7 3 (by simp only [go_sem]) fun k hk => ?_
  simp only [freshv_setr] at hk
  obtain ⟨V, hV⟩ : ∃ V : Store, V = S.set (.r c4) (.cells [i64 0, .nils, .nils, i64 0, i64 0, .nils]) := ⟨_, rfl⟩
  have v4 : V (.r c4) = some (.cells [i64 0, .nils, .nils, i64 0, i64 0, .nils]) := by rw [hV]; simp only [go_sem]
  have vS : Sub S V := by rw [hV]; exact Sub.set (Sub.refl _) y4 _
  have vk : V (.v k) = none := by rw [hV]; simp only [go_sem]; exact hk
  simp only [go_sem]
  refine AWP.iterE (ι := Option Nat) (fun loc j => ⟨Env.get [(0, .p (evsP evs)), (1, .p (.sl (l.map Grid.pv))), (4, .sp c4 0), (7, .ts k 3 loc (((l.take j).map Grid.all).map Hist.cs)), (8, i64 j)], V.set (.v k) (.tip 3 j loc), 106, []⟩) l.length none ?_ ?_ ?_
  · refine le_of (by simp only [go_sem, List.take_zero, List.map_nil] <;> rfl) ?_ rfl rfl (by simp)
    rw [hV]; exact Sub.refl _
  · clear hV hk
    intro j loc hj ih
    have hsn := all_snoc l j hj
    have hqj : wi ((j : Int) + 1) = ((j + 1 : Nat) : Int) := wi_succ (show j < 4611686018427387904 by omega)
    have hcl : (l.take j).length = j := by rw [List.length_take]; omega
    have hcl1 : (l.take (j + 1)).length = j + 1 := by rw [List.length_take]; omega
    refine AWPH.step (xc_ok (bitB 4951779120394569611049697267) _ _ _ ?_)
    simp only [go_sem, hj, ltN' hj, getD_map' _ _ _ _ hj, Grid.pv, List.length_map]
    refine ⟨by rintro el rfl; rfl, by rw [hcl], hist_len, by omega, by omega, grow_intro fun loc' => ?_⟩
    simp only [go_sem, hsn]
    refine (ih loc').back ?_ (by simp) ?_
    · ((try dsimp only); (repeat refine sub_set ?_ ?_) <;> first | ((repeat (first | exact Sub.refl _ | refine Sub.setF ?_ (by first | assumption | simp only [*]) | refine Sub.setV ?_ (by first | assumption | simp only [*]))); done) | (simp only [go_sem, hsn, hcl, hcl1, List.length_map, List.length_append]; done) | (simp only [go_sem, hsn, hcl, hcl1, List.length_map, List.length_append]; rfl) | rfl)
    · simp only [go_sem, hqj]
  · intro loc
    refine AWPH.step (xc_ok (bitB 4951779120394569611049697267) _ _ _ ?_)
    simp only [go_sem, List.take_length, List.length_map]
    have hWith := ref10_With evs (l.map Grid.all) (by omega) h.ne h.ev m2 m3
    refine hWith.useA ?_
    have hGO := h.cells hany
    have hcut := fun i c => h.cut (i := i) (c := c) hany
    rw [hhd] at hcut
    unfold GridsOk at hGO
    rw [hhd] at hGO f4
    generalize hW : withV evs (l.map Grid.all) = W at *
    simp only [go_sem]
    refine alloc_intro fun c9 h9 => ?_
    simp only [fresh_set, fresh_setv] at h9
    have y9 : V (.r c9) = none := h9
    have n49 : ¬ c9 = c4 ∧ ¬ c4 = c9 := by constructor <;> rintro rfl <;> (rw [y9] at v4; cases v4)
    by_cases hz : W.2 = 0
    rotate_left
    · have hzb : (W.2 != 0) = true := by simpa using hz
      simp only [go_sem, hzb, n49, v4]
      have ha := f3 hz
      refine ⟨S, Sub.set (Sub.set (Sub.set vS (none_of_sub vS vk) _) (none_of_sub vS y9) _) y4 _, ?_⟩
      rw [ha]; simp [zeroG, zeroH]
    have hzb : (W.2 != 0) = false := by simpa using hz
    have ha := f4 hz
    simp only [go_sem, hzb, n49]
    refine AWP.draw2 (bitB 4951779120394569611049697267) mixed (by kernel_rfl) (fun _ => .top) ?_
    simp only [go_sem, hnl, hget0, Grid.pv, n49]
    refine alloc_intro fun c11 h11 => ?_
    simp only [fresh_set, fresh_setv] at h11
    have y11 : V (.r c11) = none := h11.2
    have n4 : ¬ c11 = c4 ∧ ¬ c4 = c11 := by constructor <;> rintro rfl <;> (rw [y11] at v4; cases v4)
    have n9 : ¬ c11 = c9 ∧ ¬ c9 = c11 := h11.1
    simp only [go_sem, n4, n9]
    obtain ⟨U, hU⟩ : ∃ U : Store, U = (V.set (.v k) (.tip 3 l.length loc)).set (.r c9) (.cells [i64 W.1.k, i64 W.1.g, .p (.sl (W.1.ls.map lvE))]) := ⟨_, rfl⟩
    have u4 : U (.r c4) = some (.cells [i64 0, .nils, .nils, i64 0, i64 0, .nils]) := by rw [hU]; simp only [go_sem, n49]; exact v4
    have uS : Sub S U := by rw [hU]; exact Sub.set (Sub.set vS (none_of_sub vS vk) _) (none_of_sub vS y9) _
    have u11 : U (.r c11) = none := by rw [hU]; simp only [go_sem, n9]; exact y11
    rw [← hU]
    refine AWP.tipB c11 2 1 (cs := [i64 g.w, .p (.sl (g.sd.map Seed.pv)), .nils, i64 W.1.k, i64 W.1.g, .p (.sl (W.1.ls.map lvE))]) (by simp only [go_sem] <;> rfl) rfl fun kk hkk => ?_
    simp only [freshv_setr] at hkk
    simp only [List.set]
    have uk : U (.v kk) = none := hkk
    clear hU v4 vS vk y9 y11 hV
    obtain ⟨N, hN⟩ : ∃ N : Nat → Nat → Hist, N = fun i c => (withV (ownE g i c evs) (cellsE l i c)).1 := ⟨_, rfl⟩
    have hmr : mergedR evs l g = (List.range g.rows.length).map fun i => (List.range g.w.toNat).map (N i) := by rw [hN]; rfl
    rw [hmr] at ha
    refine AWP.iterE (ι := Option Nat) (fun loc i => ⟨Env.get [(0, .p (evsP evs)), (1, .p (.sl (l.map Grid.pv))), (4, .sp c4 0), (11, .sp c11 0), (12, i64 i)],
      (U.set (.v kk) (.tip 1 i loc)).set (.r c11) (.cells [i64 g.w, .p (.sl (g.sd.map Seed.pv)), .ts kk 1 loc (((List.range i).map fun i => (List.range g.w.toNat).map (N i)).map rowE), i64 W.1.k, i64 W.1.g, .p (.sl (W.1.ls.map lvE))]), 106, []⟩) g.rows.length none ?_ ?_ ?_
    · refine le_of (by simp only [go_sem] <;> rfl) ?_ rfl rfl (by simp)
      dsimp only
      ((try dsimp only); (repeat refine sub_set ?_ ?_) <;> first | ((repeat (first | exact Sub.refl _ | refine Sub.setF ?_ (by first | assumption | simp only [*]) | refine Sub.setV ?_ (by first | assumption | simp only [*]))); done) | (simp only [go_sem, hkk, List.range_zero, List.map_nil]; done) | (simp only [go_sem, hkk, List.range_zero, List.map_nil]; rfl) | rfl)
    · intro i loc hi ih
      have his : i < g.sd.length := by rw [hsdn]; exact hi
      have hqi : wi ((i : Int) + 1) = ((i + 1 : Nat) : Int) := wi_succ (show i < 4611686018427387904 by clear n49 n4 n9 h11; omega)
      refine AWPH.step (xc_ok (bitB 4951779120394569611049697267) _ _ _ ?_)
      simp only [go_sem, hi, his, hnl, hget0, Grid.pv, hsdn, List.length_map]
      refine AWP.tip0 13 3 (by simp only [go_sem]) fun k2 hk2 => ?_
      simp only [freshv_setr, freshv_set] at hk2
      simp only [go_sem]
      have hrow : List.map rowE ((List.range i).map fun i => (List.range g.w.toNat).map (N i)) ++ [[.sl (((List.range g.w.toNat).map (N i)).map Hist.cs)]] = List.map rowE ((List.range (i + 1)).map fun i => (List.range g.w.toNat).map (N i)) := by
        rw [List.range_succ, List.map_append, List.map_append]; rfl
      refine AWP.iterE (ι := Option Nat) (fun loc2 c => ⟨Env.get [(0, .p (evsP evs)), (1, .p (.sl (l.map Grid.pv))), (4, .sp c4 0), (11, .sp c11 0), (12, i64 i), (13, .ts k2 3 loc2 (((List.range c).map (N i)).map Hist.cs)), (14, i64 c)],
        ((U.set (.v kk) (.tip 1 i loc)).set (.r c11) (.cells [i64 g.w, .p (.sl (g.sd.map Seed.pv)), .ts kk 1 loc (((List.range i).map fun i => (List.range g.w.toNat).map (N i)).map rowE), i64 W.1.k, i64 W.1.g, .p (.sl (W.1.ls.map lvE))])).set (.v k2) (.tip 3 c loc2), 106, []⟩) g.w.toNat none ?_ ?_ ?_
      · refine le_of (by simp only [go_sem, List.range_zero, List.map_nil] <;> rfl) ?_ rfl rfl (by simp)
        exact Sub.refl _
      · intro c loc2 hc jh
        have hqc : wi ((c : Int) + 1) = ((c + 1 : Nat) : Int) := wi_succ (show c < 4611686018427387904 by clear n49 n4 n9 h11; omega)
        have hcg : (c : Int) < g.w := by clear n49 n4 n9 h11; omega
        have hcol := ref15_column evs g r i c h.ne h.ev his (fun s hs => Seed.ok_of_may (hw0.good.so s hs)) (by have := hw0.good.w2; clear n49 n4 n9 h11; omega) (by clear n49 n4 n9 h11; omega) (by clear n49 n4 n9 h11; omega) (by rw [← hlr]; exact hcut i c hi hc)
        rw [← hlr] at hcol
        have hX2 := hGO hz i c hi hc
        have hC := hcut i c hi hc
        have hWi := ref10_With (ownE g i c evs) (cellsE l i c) (by rw [hC.cell.1]; exact h.n) (by have := (own_sub g i c evs).1; have := h.ne; clear n49 n4 n9 h11; omega) (fun e he => h.ev e ((own_sub g i c evs).2 e he)) hC.cell.2.1 hC.cell.2.2
        have hX1 : (withV (ownE g i c evs) (cellsE l i c)).1 = N i c := by rw [hN]
        rw [hX2, hX1] at hWi
        have hcell : List.map Hist.cs ((List.range c).map (N i)) ++ [[.int .i64 (N i c).k, .int .i64 (N i c).g, .sl ((N i c).ls.map lvE)]] = List.map Hist.cs ((List.range (c + 1)).map (N i)) := by
          rw [List.range_succ, List.map_append, List.map_append]; rfl
        refine AWPH.step (xc_ok (bitB 4951779120394569611049697267) _ _ _ ?_)
        simp only [go_sem, hcg, hnl, hget0, Grid.pv, List.length_map]
        refine hcol.useA ?_
        simp only [go_sem]
        refine hWi.useA ?_
        simp only [go_sem]
        refine alloc_intro fun c17 h17 => ?_
        simp only [fresh_set, fresh_setv] at h17
        have hrl : (List.range c ++ [c]).length = c + 1 := by simp
        have hw3 : g.w.toNat + 1 ≤ 1048576 := hwt2
        simp only [go_sem, h17, hk2]
        refine ⟨by rintro el rfl; rfl, by simp, hist_len, by simp only [List.length_map, List.length_range]; clear n49 n4 n9 h11 h17; omega, by simp only [List.length_map, List.length_range]; clear n49 n4 n9 h11 h17; omega, grow_intro fun loc' => ?_⟩
        simp only [go_sem, h17, hcell]
        refine (jh loc').back ?_ (by simp) ?_
        · ((try dsimp only); (repeat refine sub_set ?_ ?_) <;> first | ((repeat (first | exact Sub.refl _ | refine Sub.setF ?_ (by first | assumption | simp only [*]) | refine Sub.setV ?_ (by first | assumption | simp only [*]))); done) | (simp only [go_sem, h17, hk2, hcell, hrl, List.length_map, List.length_range]; done) | (simp only [go_sem, h17, hk2, hcell, hrl, List.length_map, List.length_range]; rfl) | rfl)
        · simp only [go_sem, hqc]
      · intro loc2
        refine AWPH.step (xc_ok (bitB 4951779120394569611049697267) _ _ _ ?_)
        have hno : ¬ ((g.w.toNat : Int) < g.w) := by clear n49 n4 n9 h11; omega
        have hrn : (List.range i ++ [i]).length = i + 1 := by simp
        simp only [go_sem, hnl, hget0, Grid.pv, List.length_map, hno, hkk, hk2, hrow]
        refine ⟨by rintro el rfl; rfl, by simp, row_len, by simp only [List.length_map, List.length_range]; clear n49 n4 n9 h11; omega, by simp only [List.length_map, List.length_range]; clear n49 n4 n9 h11; omega, grow_intro fun loc' => ?_⟩
        simp only [go_sem, hkk, hk2, hrow]
        refine (ih loc').back ?_ (by simp) ?_
        · ((try dsimp only); (repeat refine sub_set ?_ ?_) <;> first | ((repeat (first | exact Sub.refl _ | refine Sub.setF ?_ (by first | assumption | simp only [*]) | refine Sub.setV ?_ (by first | assumption | simp only [*]))); done) | (simp only [go_sem, hkk, hk2, hrow, hrn, List.length_map, List.length_range]; done) | (simp only [go_sem, hkk, hk2, hrow, hrn, List.length_map, List.length_range]; rfl) | rfl)
        · simp only [go_sem, hqi]
    · intro loc
      refine AWPH.step (xc_ok (bitB 4951779120394569611049697267) _ _ _ ?_)
      simp only [go_sem, hnl, hget0, Grid.pv, hsdn, List.length_map, u4, n4]
      refine ⟨S, Sub.set (Sub.set (Sub.set uS (none_of_sub uS uk) _) (none_of_sub uS u11) _) y4 _, ?_⟩
      rw [ha]
      simp
end Go.Sk
end

-- WGf
section
namespace Go.Sk
open Go Go.Proofs

theorem merge_good {evs : List Event} {l : List Grid} (h : MergeOk evs l) : (mergeG evs l).1.Small ∧ (mergeG evs l).1.Sz := by
  obtain ⟨f1, f2⟩ := forb_merge (evs := evs) (l := l)
  by_cases h0 : forbV evs l = 0
  rotate_left
  · rw [f1 h0]; exact ⟨zeroG_small, zeroG_sz⟩
  obtain ⟨hlne, hany, f3, f4⟩ := f2 h0
  by_cases hz : (withV evs (l.map Grid.all)).2 = 0
  rotate_left
  · rw [f3 hz]; exact ⟨zeroG_small, zeroG_sz⟩
  rw [f4 hz]
  obtain ⟨m1, m2, m3⟩ := h.alls
  have hgl : l.headD zGrid ∈ l := by cases l with | nil => exact absurd rfl hlne | cons a b => simp
  have hw0 := (h.whole _ hgl).good
  have hW := (with_ok (came_iff m2 hz)).2.1
  have hcell : ∀ i c, i < (l.headD zGrid).rows.length → c < (l.headD zGrid).w.toNat → (withV (ownE (l.headD zGrid) i c evs) (cellsE l i c)).1.Good := fun i c hi hc =>
    (with_ok (came_iff (h.cut hany hi hc).cell.2.1 (h.cells hany hz i c hi hc))).2.1.good
  have hg : Grid.Good ⟨(l.headD zGrid).w, (l.headD zGrid).sd, mergedR evs l (l.headD zGrid), (withV evs (l.map Grid.all)).1⟩ := by
    unfold mergedR
    refine ⟨hw0.w1, hw0.w2, by simp only [List.length_map, List.length_range]; exact hw0.n, by simp only [List.length_map, List.length_range]; exact hw0.sd, fun r hr => ?_, hW.good, fun r hr x hx => ?_, hw0.so⟩
    · obtain ⟨i, _, rfl⟩ := List.mem_map.1 hr
      simp
    · obtain ⟨i, hi, rfl⟩ := List.mem_map.1 hr
      obtain ⟨c, hc, rfl⟩ := List.mem_map.1 hx
      exact hcell i c (List.mem_range.1 hi) (List.mem_range.1 hc)
  exact ⟨hg.small, hg.sz⟩

theorem grid_len {l : List Grid} : ∀ el ∈ l.map Grid.pv, el.length = 6 := by
  intro el h; obtain ⟨x, _, rfl⟩ := List.mem_map.1 h; rfl
def evlE (l : List Event) : List PV := [.sl (l.map Event.pv)]
noncomputable def gridAt (c d : Conf2) (l : List (List Event)) (i : Nat) : Grid := (madeV (if i = 2 then d else c) (l.getD i [])).1
noncomputable def gridsV (c d : Conf2) (l : List (List Event)) : List Grid := (List.range l.length).map (gridAt c d l)
theorem grids_ready (c d : Conf2) (l : List (List Event)) (evs : List Event) (hl : l.length ≤ 3) (hne : evs.length < 1048576) (hev : ∀ e ∈ evs, e.Ok) : MergeOk evs (gridsV c d l) := by
  have hm : ∀ g ∈ gridsV c d l, g.Whole ∧ g.Less ∧ g.all.g = 0 := fun g hg => by
    obtain ⟨i, _, rfl⟩ := List.mem_map.1 hg
    exact madeV_whole _ _
  refine ⟨hne, hev, by unfold gridsV; rw [List.length_map, List.length_range]; omega, fun g hg => (hm g hg).1, fun g hg => by rw [(hm g hg).2.2]; decide, fun hany => fun hz => ?_⟩
  have hf : ∀ x ∈ (gridsV c d l).map Grid.all, x.Fine := fun x hx => by
    obtain ⟨g, hg, rfl⟩ := List.mem_map.1 hx; exact (hm g hg).1.all
  exact grids_ok (fun g hg => (hm g hg).1) (fun g hg => (hm g hg).2.1) hany (came_iff hf hz) hz
set_option maxHeartbeats 2000000 in
set_option maxRecDepth 8000 in
theorem law_GridMerges (c d : Conf2) (l : List (List Event)) (evs : List Event) (hcn : c.sd.length ≤ 1048576) (hck : c.k < 9223372036854775808) (hcw : c.w < 9223372036854775808) (hdn : d.sd.length ≤ 1048576) (hdk : d.k < 9223372036854775808) (hdw : d.w < 9223372036854775808)
    (hl : ∀ x ∈ l, (∀ e ∈ x, e.Ok) ∧ x.length ≤ 1048576) (hll : l.length ≤ 1048576) (hev : ∀ e ∈ evs, e.Ok) (hel : evs.length ≤ 1048576) :
    CallsR Tryz.prog 3 [.agg [i64 c.k, i64 c.w, .p (.sl (c.sd.map Seed.pv)), i64 d.k, i64 d.w, .p (.sl (d.sd.map Seed.pv))], .p (.sl (l.map evlE)), .p (evsP evs)] noS (fun x _ => x = bl true) := by
  generalize noS = S
  refine callsR_of Tryz.func3 rfl (xc_ok (bitB 139653799887) _ _ _ ?_)
  simp only [go_sem]
  refine alloc_intro fun c3 h3 => ?_
  simp only [go_sem]
  refine awake.useA ?_
  have y3 : S (.r c3) = none := h3
  by_cases c1 : (l.length : Int) > 3
  · simp only [go_sem, c1, List.length_map]
    exact ⟨_, Sub.refl _⟩
  by_cases c2 : (evs.length : Int) > 10
  · simp only [go_sem, c1, c2, evsP, List.length_map]
    exact ⟨_, Sub.refl _⟩
  simp only [go_sem, c1, c2, evsP, List.length_map]
  refine AWP.tip0 8 6 (by simp only [go_sem]) fun v1 hv1 => ?_
  refine AWP.tip0 9 6 (by simp only [go_sem]) fun v2 hv2 => ?_
  simp only [freshv_setr, freshv_set] at hv1 hv2
  obtain ⟨V, hV⟩ : ∃ V : Store, V = S.set (.r c3) (.cells [i64 c.k, i64 c.w, .p (.sl (c.sd.map Seed.pv)), i64 d.k, i64 d.w, .p (.sl (d.sd.map Seed.pv))]) := ⟨_, rfl⟩
  have k3 : V (.r c3) = some (.cells [i64 c.k, i64 c.w, .p (.sl (c.sd.map Seed.pv)), i64 d.k, i64 d.w, .p (.sl (d.sd.map Seed.pv))]) := by rw [hV]; simp only [go_sem]
  have kS : Sub S V := by rw [hV]; exact Sub.set (Sub.refl _) y3 _
  have n1 : V (.v v1) = none := by rw [hV]; simp only [go_sem]; exact hv1
  have n2 : V (.v v2) = none := by rw [hV]; simp only [go_sem]; exact hv2.2
  have hln : l.length ≤ 3 := by omega
  have hR := grids_ready c d l evs hln (by omega) hev
  have hHl : (gridsV c d l).length = l.length := by unfold gridsV; rw [List.length_map, List.length_range]
  simp only [go_sem]
  refine AWP.iterE (ι := Option Nat × Option Nat) (fun x i => ⟨Env.get [(1, .p (.sl (l.map evlE))), (2, .p (.sl (evs.map Event.pv))), (3, .sp c3 0), (7, bl true), (8, .ts v1 6 x.1 (((gridsV c d l).take i).map Grid.pv)), (9, .ts v2 6 x.2 (((gridsV c d l).take i).map Grid.pv)), (10, i64 i)],
    (V.set (.v v1) (.tip 6 i x.1)).set (.v v2) (.tip 6 i x.2), 82, []⟩) l.length (none, none) ?_ ?_ ?_
  · refine le_of (by simp only [go_sem, List.take_zero, List.map_nil] <;> rfl) ?_ rfl rfl (by simp)
    rw [hV]; exact Sub.refl _
  · clear hV h3
    rintro i ⟨loc1, loc2⟩ hi ih
    have hqi : wi ((i : Int) + 1) = ((i + 1 : Nat) : Int) := wi_succ (show i < 4611686018427387904 by clear hv2; omega)
    obtain ⟨ho, hxl⟩ := hl _ (List.getElem_mem hi)
    have hmi : i < (gridsV c d l).length := by rw [hHl]; exact hi
    have hmg : (gridsV c d l)[i] = gridAt c d l i := by simp only [gridsV, List.getElem_map, List.getElem_range]
    have hli : l.getD i [] = l[i] := by simp [List.getD_eq_getElem?_getD, hi]
    have htl : ((gridsV c d l).take i).length = i := by rw [List.length_take]; exact Nat.min_eq_left (Nat.le_of_lt hmi)
    have htl1 : ((gridsV c d l).take (i + 1)).length = i + 1 := by rw [List.length_take]; exact Nat.min_eq_left hmi
    have hget : (l.map evlE).getD i [] = [.sl ((l[i]).map Event.pv)] := by rw [getD_map' _ _ _ _ hi]; rfl
    have hgs : (gridAt c d l i).Sz := by unfold gridAt; exact (madeV_good _ _).sz
    have hlaid := laid (gridAt c d l i) hgs
    obtain ⟨G, hG⟩ : ∃ G, gridAt c d l i = G := ⟨_, rfl⟩
    have hrep : List.map Grid.pv ((gridsV c d l).take i) ++ [[.int .i64 G.w, .sl (G.sd.map Seed.pv), .sl (G.rows.map rowE), .int .i64 G.all.k, .int .i64 G.all.g, .sl (G.all.ls.map lvE)]] = List.map Grid.pv ((gridsV c d l).take (i + 1)) := by
      rw [List.take_succ_eq_append_getElem hmi, List.map_append, hmg, hG]; rfl
    rw [hG] at hlaid
    refine AWPH.step (xc_ok (bitB 139653799887) _ _ _ ?_)
    by_cases i2 : i = 2
    · have hGe : (madeV d (l[i])).1 = G := by rw [← hG]; unfold gridAt; rw [if_pos i2, hli]
      have hm := ref15_Made d l[i] (by clear hv2; omega) hdk hdw (by clear hv2; omega) ho
      rw [hGe] at hm
      generalize (madeV d l[i]).2 = A at *
      have i2b : ((i : Int) == 2) = true := by subst i2; rfl
      simp only [go_sem, hi, ltN' hi, k3, List.length_map]
      refine alloc_intro fun c11 h11 => ?_
      simp only [fresh_set, fresh_setv] at h11
      have y11 : V (.r c11) = none := h11
      have m3 : ¬ c11 = c3 ∧ ¬ c3 = c11 := by constructor <;> rintro rfl <;> (rw [y11] at k3; cases k3)
      simp only [go_sem, i2b, m3, k3]
      refine ⟨by decide, by decide, ?_⟩
      refine AWP.draw2 (bitB 139653799887) mixed (by kernel_rfl) (fun _ => .tuple [G.av, .p (evsP A)]) ?_
      simp only [go_sem, hi, ltN' hi, hget, List.length_map]
      refine ⟨hm.draw, alloc_intro fun c12 h12 => ?_⟩
      simp only [fresh_set, fresh_setv] at h12
      simp only [go_sem, h12, hv2, htl, List.length_map]
      refine ⟨by rintro el rfl; rfl, grid_len, by clear hv2 h11 h12 m3; omega, by clear hv2 h11 h12 m3; omega, grow_intro fun loc1' => ?_⟩
      simp only [go_sem, h12, hv2, htl, hrep, List.length_map]
      refine hlaid.useA ?_
      simp only [go_sem, h12, hv2, htl, hrep, List.length_map]
      refine ⟨by rintro el rfl; rfl, grid_len, by clear hv2 h11 h12 m3; omega, by clear hv2 h11 h12 m3; omega, grow_intro fun loc2' => ?_⟩
      simp only [go_sem, h12, hv2, htl, hrep, List.length_map]
      refine (ih (loc1', loc2')).back ?_ (by simp) ?_
      · ((try dsimp only); (repeat refine sub_set ?_ ?_) <;> first | ((repeat (first | exact Sub.refl _ | refine Sub.setF ?_ (by first | assumption | simp only [*]) | refine Sub.setV ?_ (by first | assumption | simp only [*]))); done) | (simp only [go_sem, h12, hv2, hrep, htl1, List.length_map]; done) | (simp only [go_sem, h12, hv2, hrep, htl1, List.length_map]; rfl) | rfl)
      · simp only [go_sem, hqi]
    · have hGe : (madeV c (l[i])).1 = G := by rw [← hG]; unfold gridAt; rw [if_neg i2, hli]
      have hm := ref15_Made c l[i] (by clear hv2; omega) hck hcw (by clear hv2; omega) ho
      rw [hGe] at hm
      generalize (madeV c l[i]).2 = A at *
      have i2b : ((i : Int) == 2) = false := by rw [beq_eq_false_iff_ne]; clear hv2; omega
      simp only [go_sem, hi, ltN' hi, k3, List.length_map]
      refine alloc_intro fun c11 h11 => ?_
      simp only [fresh_set, fresh_setv] at h11
      have y11 : V (.r c11) = none := h11
      have m3 : ¬ c11 = c3 ∧ ¬ c3 = c11 := by constructor <;> rintro rfl <;> (rw [y11] at k3; cases k3)
      simp only [go_sem, i2b, m3, k3]
      refine AWP.draw2 (bitB 139653799887) mixed (by kernel_rfl) (fun _ => .tuple [G.av, .p (evsP A)]) ?_
      simp only [go_sem, hi, ltN' hi, hget, List.length_map]
      refine ⟨hm.draw, alloc_intro fun c12 h12 => ?_⟩
      simp only [fresh_set, fresh_setv] at h12
      simp only [go_sem, h12, hv2, htl, List.length_map]
      refine ⟨by rintro el rfl; rfl, grid_len, by clear hv2 h11 h12 m3; omega, by clear hv2 h11 h12 m3; omega, grow_intro fun loc1' => ?_⟩
      simp only [go_sem, h12, hv2, htl, hrep, List.length_map]
      refine hlaid.useA ?_
      simp only [go_sem, h12, hv2, htl, hrep, List.length_map]
      refine ⟨by rintro el rfl; rfl, grid_len, by clear hv2 h11 h12 m3; omega, by clear hv2 h11 h12 m3; omega, grow_intro fun loc2' => ?_⟩
      simp only [go_sem, h12, hv2, htl, hrep, List.length_map]
      refine (ih (loc1', loc2')).back ?_ (by simp) ?_
      · ((try dsimp only); (repeat refine sub_set ?_ ?_) <;> first | ((repeat (first | exact Sub.refl _ | refine Sub.setF ?_ (by first | assumption | simp only [*]) | refine Sub.setV ?_ (by first | assumption | simp only [*]))); done) | (simp only [go_sem, h12, hv2, hrep, htl1, List.length_map]; done) | (simp only [go_sem, h12, hv2, hrep, htl1, List.length_map]; rfl) | rfl)
      · simp only [go_sem, hqi]
  · rintro ⟨loc1, loc2⟩
    refine AWPH.step (xc_ok (bitB 139653799887) _ _ _ ?_)
    rw [← hHl, List.take_length, hHl]
    simp only [go_sem, List.length_map]
    obtain ⟨g1, g2⟩ := merge_good hR
    refine (grid_Merge evs _ hR).useA ?_
    have hMr := ref15_Merge evs _ hR
    have hbk := back (mergeG evs (gridsV c d l)).1 g2
    have hsm := ref15_Same (mergeG evs (gridsV c d l)).1 (mergeG evs (gridsV c d l)).1 g1
    rw [decide_eq_true (rfl : (mergeG evs (gridsV c d l)).1 = (mergeG evs (gridsV c d l)).1)] at hsm
    generalize mergeG evs (gridsV c d l) = M at *
    simp only [go_sem]
    refine alloc_intro fun c14 h14 => ?_
    simp only [fresh_set, fresh_setv] at h14
    simp only [go_sem]
    refine hMr.useA ?_
    simp only [go_sem]
    refine alloc_intro fun c16 h16 => ?_
    simp only [fresh_set, fresh_setv] at h16
    simp only [go_sem, h16]
    refine AWP.draw2 (bitB 139653799887) mixed (by kernel_rfl) (fun j => if j = 8 then M.1.av else bl true) ?_
    have hb : (M.2 == M.2) = true := by simp
    simp only [go_sem, h16, hb]
    exact ⟨hbk.draw, hsm.draw, _, Sub.refl _⟩
end Go.Sk
end

-- LGm
section
namespace Go.Sk
open Go Go.Proofs Go.ChangeShapes Go.WideShapes Go.ChangeAt Go.RowKit

theorem shConfs : shOf Tryz.prog 8 25 = some [.int .i64, .int .i64, .sl [.int .u64, .int .u64], .int .i64, .int .i64, .sl [.int .u64, .int .u64]] := by kernel_rfl
theorem shEvl : shOf Tryz.prog 8 26 = some [.sl [.sl [.int .u64, .int .u64, .int .u64]]] := by kernel_rfl
theorem fit_evl {N : Nat} {pv : PV} (h : Fit N (.sl [.sl [.int .u64, .int .u64, .int .u64]]) pv) : ∃ l : List (List Event), pv = .sl (l.map evlE) ∧ (∀ x ∈ l, (∀ d ∈ x, d.Ok) ∧ x.length ≤ N) ∧ l.length ≤ N := by
  refine fit_list (pvf := evlE) (ok := fun x : List Event => (∀ d ∈ x, d.Ok) ∧ x.length ≤ N) h (fun l hl hf => ?_)
  obtain ⟨a, rfl, ha⟩ := fit_one hl hf
  obtain ⟨x, rfl, h1, h2⟩ := fit_events ha
  exact ⟨x, rfl, h1, h2⟩
section
variable {H : Type} {enc : TypeId × Value → H}
set_option maxRecDepth 100000 in
theorem arg_confs {W : World} {base : Nat} {v : Value} {d : DataW H} {p : List MemPlace} (hok : Value.okWide Tryz.prog W .any base 25 v) (h : DataW.Trod enc Tryz.prog W 0 (fun _ => true) true 25 v d p) (hN : YtjiechgnlcpllaaGreat.Rows.uptoBulk d ≤ 1048576) :
    ∃ c d : Conf2, c.Ok ∧ d.Ok ∧ RepA (allD W) W v (.agg [i64 c.k, i64 c.w, .p (.sl (c.sd.map Seed.pv)), i64 d.k, i64 d.w, .p (.sl (d.sd.map Seed.pv))]) := by
  obtain ⟨pvs, hl, hf, hr⟩ := arg_agg (N := 1048576) (f := 8) (bulkOk H) shConfs (by rw [Tryz.underlying25]) hok h hN
  match pvs, hl with
  | [a, b, c, d, e, f], _ =>
    obtain ⟨x, ⟨hx0, hx⟩, e1⟩ := fit_i64 (hf 0 (by simp))
    obtain ⟨y, ⟨hy0, hy⟩, e2⟩ := fit_i64 (hf 1 (by simp))
    obtain ⟨s, e3, hs, hsn⟩ := fit_seeds (hf 2 (by simp))
    obtain ⟨z, ⟨hz0, hz⟩, e4⟩ := fit_i64 (hf 3 (by simp))
    obtain ⟨w, ⟨hw0, hw⟩, e5⟩ := fit_i64 (hf 4 (by simp))
    obtain ⟨t, e6, ht, htn⟩ := fit_seeds (hf 5 (by simp))
    simp at e1 e2 e3 e4 e5 e6
    subst e1; subst e2; subst e3; subst e4; subst e5; subst e6
    exact ⟨⟨x, y, s⟩, ⟨z, w, t⟩, ⟨hx, hy, hx0, hy0, hs, hsn⟩, ⟨hz, hw, hz0, hw0, ht, htn⟩, hr⟩
set_option maxRecDepth 100000 in
theorem arg_evl {W : World} {base N : Nat} {v : Value} {d : DataW H} {p : List MemPlace} (hok : Value.okWide Tryz.prog W .any base 26 v) (h : DataW.Trod enc Tryz.prog W 0 (fun _ => true) true 26 v d p) (hN : YtjiechgnlcpllaaGreat.Rows.uptoBulk d ≤ N) :
    ∃ l : List (List Event), ((∀ x ∈ l, (∀ d ∈ x, d.Ok) ∧ x.length ≤ N) ∧ l.length ≤ N) ∧ RepA (allD W) W v (.p (.sl (l.map evlE))) := by
  obtain ⟨a, n, c, rfl⟩ := okWide_slice Tryz.underlying26 hok
  obtain ⟨pv, hf, hr⟩ := arg_one (N := N) (f := 8) (bulkOk H) shEvl (fun c h => by cases h) h hN
  obtain ⟨l, rfl, h1, h2⟩ := fit_evl hf
  exact ⟨l, ⟨h1, h2⟩, hr⟩
end
namespace gridMerges
set_option maxRecDepth 100000 in
theorem contract (H : Type) (enc : TypeId × Value → H) (W : World) (base : Nat) (args : Array Value) (ds gs : List (DataW H)) (before : List MemPlace)
    (hval : ∀ (j : Nat) t v, Tryz.f3.params[j]? = some t → args[j]? = some v → Value.okWide Tryz.prog W .any base t v)
    (hW : DataW.Whole enc Tryz.prog Tryz.f3.params.toList YtjiechgnlcpllaaGreat.Rows.gridMergesSpec.vars false W args.toList ds gs before) (hk : YtjiechgnlcpllaaGreat.Rows.uptoSmall H (ds ++ gs) = true) :
    Calls Tryz.prog 3 args W fun e W' => ∃ v, e = .returned v ∧ YtjiechgnlcpllaaGreat.Rows.gridMergesSpec.post enc Tryz.prog Tryz.f3 false true false false W args v W' := by
  have hW' := hW
  obtain ⟨p, q, hA0, hV, rfl, hfz, hnd⟩ := hW
  have hA : DataW.TrodAll enc Tryz.prog W 0 (fun _ => true) true Tryz.f3.params.toList args.toList ds p := hA0
  rw [Tryz.params3] at hA hval
  obtain ⟨v0, vs0, d0, ds0, p0, q0, hargs, rfl, rfl, h0, r0⟩ := trodAll_cons hA
  obtain ⟨v1, vs1, d1, ds1, p1, q1, rfl, rfl, rfl, h1, r1⟩ := trodAll_cons r0
  obtain ⟨v2, vs2, d2, ds2, p2, q2, rfl, rfl, rfl, h2, r2⟩ := trodAll_cons r1
  obtain ⟨rfl, rfl, rfl⟩ := trodAll_nil r2
  obtain ⟨rfl, rfl⟩ := trodVars_none hV
  obtain rfl : args = #[v0, v1, v2] := by cases args; simp_all
  have hb : YtjiechgnlcpllaaGreat.Rows.uptoBulkAll ([d0, d1, d2] ++ []) ≤ 1048576 := of_decide_eq_true hk
  obtain ⟨b0, hb⟩ := small_cons hb
  obtain ⟨b1, hb⟩ := small_cons hb
  obtain ⟨b2, hb⟩ := small_cons hb
  obtain ⟨c, d, hc, hd, rep0⟩ := arg_confs (hval 0 25 v0 rfl rfl) h0 b0
  obtain ⟨l, hl, rep1⟩ := arg_evl (hval 1 26 v1 rfl rfl) h1 b1
  obtain ⟨evs, hev, hel, rep2⟩ := arg_events (hval 2 27 v2 rfl rfl) h2 b2
  refine ((law_GridMerges c d l evs hc.n hc.k hc.w hd.n hd.k hd.w hl.1 hl.2 hev hel) (allD W) W #[v0, v1, v2] (rel_all W) ⟨rfl, fun i hi => ?_⟩).mono ?_
  · match i, hi with
    | 0, _ => exact rep0
    | 1, _ => exact rep1
    | 2, _ => exact rep2
  · rintro e W' ⟨v, rfl, x, S', D', rfl, _, hrep, hE⟩
    cases hrep with
    | p hrep =>
    cases hrep
    exact ⟨_, rfl, bridge kids full hW' rfl (by rw [Tryz.params3]; decide) rfl Tryz.underlying4 rfl rfl rfl hE.still⟩

set_option maxRecDepth 100000 in
theorem lifted (os : Os) (started : os.Started) (H : Type) (enc : TypeId × Value → H) (F : Stop.Interp) :
    ReturnsInHanded {} Tryz.checked os 3 .any ((YtjiechgnlcpllaaGreat.Rows.OpenSpec.upto YtjiechgnlcpllaaGreat.Rows.gridMergesSpec).pre6 enc Tryz.prog Tryz.f3 YtjiechgnlcpllaaGreat.Rows.gridMergesUptoRow.domain false) (((YtjiechgnlcpllaaGreat.Rows.OpenSpec.upto YtjiechgnlcpllaaGreat.Rows.gridMergesSpec).at F).post enc Tryz.prog Tryz.f3 false true false false) := by
  refine returnsInHanded_of_cond (C := Tryz.checked) (s := YtjiechgnlcpllaaGreat.Rows.OpenSpec.upto YtjiechgnlcpllaaGreat.Rows.gridMergesSpec) (k := YtjiechgnlcpllaaGreat.Rows.uptoSmall) rfl own started (by kernel_rfl) Tryz.func3
    (OpenSpec.witness (enc := enc) (C := Tryz.checked) (s := YtjiechgnlcpllaaGreat.Rows.OpenSpec.upto YtjiechgnlcpllaaGreat.Rows.gridMergesSpec) (k := YtjiechgnlcpllaaGreat.Rows.uptoSmall) rfl false ⟨#[], #[.agg #[.int .i64 0, .int .i64 0, .slice none 0 0, .int .i64 0, .int .i64 0, .slice none 0 0], .slice none 0 0, .slice none 0 0], []⟩ 12 (by kernel_rfl) (by kernel_rfl) (by kernel_rfl)
      (x := ([.agg [.agg [.lit (.int .i64 0), .lit (.int .i64 0), .nil], .agg [.lit (.int .i64 0), .lit (.int .i64 0), .nil]], .nil, .nil], [], [])) (by kernel_rfl) rfl (by kernel_rfl)) ?_
  intro W base args ds gs before hval hW _ hk _
  exact contract H enc W base args ds gs before hval hW hk

theorem j1 : (YtjiechgnlcpllaaGreat.Rows.gridMergesUptoRow.inPlace == Tryz.prog.inPlace 3) = true := by kernel_rfl
theorem j2 : (YtjiechgnlcpllaaGreat.Rows.gridMergesUptoRow.unfollowed == Tryz.prog.unfollowed 3) = true := by kernel_rfl
theorem j3 : (YtjiechgnlcpllaaGreat.Rows.gridMergesUptoRow.recurses == Tryz.prog.recurses 3) = true := by kernel_rfl
theorem j4 : (YtjiechgnlcpllaaGreat.Rows.gridMergesUptoRow.named == Tryz.prog.varsNamed 3) = true := by kernel_rfl
theorem j5 : (YtjiechgnlcpllaaGreat.Rows.gridMergesUptoRow.plainKeys == Tryz.prog.plainKeys) = true := by kernel_rfl
theorem j6 : (YtjiechgnlcpllaaGreat.Rows.gridMergesUptoRow.lifted == Tryz.prog.liftsFinal) = true := by kernel_rfl
theorem j7 : (Tryz.prog.make == some YtjiechgnlcpllaaGreat.Rows.gridMergesUptoRow.make) = true := by kernel_rfl
set_option maxRecDepth 100000 in
theorem jf : joinedFacts Tryz.prog 3 Tryz.f3 (YtjiechgnlcpllaaGreat.Rows.OpenSpec.upto YtjiechgnlcpllaaGreat.Rows.gridMergesSpec).bare YtjiechgnlcpllaaGreat.Rows.gridMergesUptoRow = true := by
  unfold joinedFacts
  exact and_ok (and_ok (and_ok (and_ok (and_ok (and_ok (and_ok (and_ok (and_ok (and_ok (and_ok (and_ok (and_ok (and_ok (and_ok (and_ok (and_ok (and_ok (and_ok (and_ok (and_ok (and_ok (and_ok (and_ok (and_ok (and_ok (and_ok (and_ok (and_ok (and_ok (and_ok (by kernel_rfl) j_laid) j_maps) (by kernel_rfl)) (by kernel_rfl)) (by kernel_rfl)) (by kernel_rfl)) (by kernel_rfl)) (by kernel_rfl)) j1) j2) j3) j4) (by kernel_rfl)) (by kernel_rfl)) (by kernel_rfl)) (by kernel_rfl)) (by kernel_rfl)) (by kernel_rfl)) (by kernel_rfl)) (by kernel_rfl)) (by kernel_rfl)) j5) (by kernel_rfl)) j_heard) j_enter) j6) j7) (by kernel_rfl)) (by kernel_rfl)) (by kernel_rfl)) (by kernel_rfl)
end gridMerges
theorem _root_.Go.Proofs.YtjiechgnlcpllaaGreat.gridMerges_proved : YtjiechgnlcpllaaGreat.Rows.GridMergesUptoSaid :=
  OpenClaim.holds_of_cond 3 Tryz.f3 rfl rfl rfl rfl rfl rfl rfl ⟨rfl, rfl, rfl, rfl, rfl⟩ rfl rfl rfl rfl rfl (by kernel_rfl) Tryz.func3 gridMerges.jf
    (of_decide_eq_true (by kernel_rfl)) (by unfold Func.isWrapper; first | (rw [if_pos (by decide +kernel)]; kernel_rfl) | (rw [if_neg (by decide +kernel)]; exact ⟨rfl, rfl⟩))
    (fun os started H enc _ F => gridMerges.lifted os started H enc F)
#print axioms Go.Proofs.YtjiechgnlcpllaaGreat.gridMerges_proved
end Go.Sk
end
