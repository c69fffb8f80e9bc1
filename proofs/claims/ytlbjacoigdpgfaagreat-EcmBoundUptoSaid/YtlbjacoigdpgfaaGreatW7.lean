/- Walks: what is too old. -/
import Derived.Test.YtlbjacoigdpgfaaGreatR16D
import Derived.Test.YtlbjacoigdpgfaaGreatW6d
import Derived.Test.YtlbjacoigdpgfaaGreatSkSc
import Derived.Test.YtlbjacoigdpgfaaGreatSkRg
set_option linter.unusedSimpArgs false
set_option linter.unusedVariables false
set_option linter.unusedSectionVars false
namespace Go.Sk
open Go Go.Proofs

theorem exp_Old (t f w : Nat) : Pure Tryz.prog 146 [u64 t, u64 f, u64 w] (bl (oldV f w t)) := fun S => by
  refine callR_of Tryz.func146 rfl rfl (xc_ok (bitB 71) _ _ _ ?_)
  simp only [go_sem]
  by_cases h1 : w ≤ f
  · simp only [go_sem, h1]
    (refine ⟨S, by (repeat (first | exact Sub.refl _ | refine Sub.setF ?_ (by first | assumption | simp only [*]) | refine Sub.setV ?_ (by first | assumption | simp only [*]))), ?_⟩); simp [oldV, h1]
  · simp only [go_sem, h1]
    (refine ⟨S, by (repeat (first | exact Sub.refl _ | refine Sub.setF ?_ (by first | assumption | simp only [*]) | refine Sub.setV ?_ (by first | assumption | simp only [*]))), ?_⟩); simp [oldV, h1]
theorem ref07_Old (t f w : Nat) : Pure Tryz.prog 156 [u64 t, u64 f, u64 w] (bl (oldV f w t)) := fun S => by
  refine callR_of Tryz.func156 rfl rfl (xc_ok (bitB 71) _ _ _ ?_)
  simp only [go_sem]
  by_cases h1 : w ≤ f
  · simp only [go_sem, h1]
    (refine ⟨S, by (repeat (first | exact Sub.refl _ | refine Sub.setF ?_ (by first | assumption | simp only [*]) | refine Sub.setV ?_ (by first | assumption | simp only [*]))), ?_⟩); simp [oldV, h1]
  · simp only [go_sem, h1]
    (refine ⟨S, by (repeat (first | exact Sub.refl _ | refine Sub.setF ?_ (by first | assumption | simp only [*]) | refine Sub.setV ?_ (by first | assumption | simp only [*]))), ?_⟩); simp [oldV, h1]
theorem exp_Drop1 {S : Store} {b1 b2 : Nat} (s : Span) (f w : Nat) (h1 : S (.r b1) = some (.cells [u64 f])) (h2 : S (.r b2) = some (.cells [u64 w])) :
    CallR Tryz.prog 145 [s.av, .sp b1 0, .sp b2 0] S (fun r S' => r = bl (oldV f w s.b) ∧ S' = S) := by
  refine callR_of Tryz.func145 rfl rfl (xc_ok (bitB 31) _ _ _ ?_)
  simp only [go_sem]
  refine alloc_intro fun b hb => ?_
  have n1 := hb.ne h1; have n2 := hb.ne h2
  simp only [go_sem, h1, h2, n1, n2]
  refine (exp_Old s.b f w).useA ?_
  simp only [go_sem]
  (refine ⟨S, by (repeat (first | exact Sub.refl _ | refine Sub.setF ?_ (by first | assumption | simp only [*]) | refine Sub.setV ?_ (by first | assumption | simp only [*]))), ?_⟩); simp

set_option maxHeartbeats 1000000 in
set_option maxRecDepth 8000 in
theorem exp_Drop (k g : Int) (ls : List (List Span)) (f w : Nat) (hn : ls.length < 1048576) (hl : ∀ l ∈ ls, l.length < 1048576) :
    Pure Tryz.prog 122 [(Hist.mk k g ls).av, u64 f, u64 w] (Hist.mk k g (dropG (oldV f w) ls)).av := fun S => by
  refine callR_of Tryz.func122 rfl rfl (xc_ok (bitB 69741846015) _ _ _ ?_)
  simp only [go_sem]
  refine alloc_intro fun c3 h3 => ?_
  simp only [go_sem]
  refine alloc_intro fun c4 h4 => ?_
  simp only [fresh_set] at h4
  simp only [go_sem, h4]
  refine alloc_intro fun c5 h5 => ?_
  simp only [fresh_set] at h5
  simp only [go_sem, h4, h5]
  refine alloc_intro fun c6 h6 => ?_
  simp only [fresh_set] at h6
  simp only [go_sem, h4, h5, h6]
  refine AWP.scope (xc_ok (bitB 69741846015) _ _ _ ?_)
  simp only [go_sem, h4, h5, h6]
  refine alloc_intro fun c8 h8 => ?_
  simp only [fresh_set] at h8
  simp only [go_sem, h4, h5, h6, h8]
  refine AWP.tipB c8 2 1 (cs := [i64 k, i64 g, .nils]) (by simp only [go_sem, h8]) rfl fun kk hkk => ?_
  simp only [freshv_setr] at hkk
  simp only [List.set]
  have y3 : S (.r c3) = none := h3
  have y4 : S (.r c4) = none := h4.2
  have y5 : S (.r c5) = none := h5.2.2
  have y6 : S (.r c6) = none := h6.2.2.2
  obtain ⟨o, ho⟩ : ∃ o, oldV f w = o := ⟨_, rfl⟩
  obtain ⟨V, hV⟩ : ∃ V : Store, V = (((S.set (.r c3) (.cells [i64 k, i64 g, .p (.sl (ls.map lvE))])).set (.r c4) (.cells [u64 f])).set (.r c5) (.cells [u64 w])).set (.r c6) (.cells [i64 0, i64 0, .nils]) := ⟨_, rfl⟩
  have v4 : V (.r c4) = some (.cells [u64 f]) := by rw [hV]; simp only [go_sem, h4, h5, h6]
  have v5 : V (.r c5) = some (.cells [u64 w]) := by rw [hV]; simp only [go_sem, h4, h5, h6]
  have v6 : V (.r c6) = some (.cells [i64 0, i64 0, .nils]) := by rw [hV]; simp only [go_sem, h4, h5, h6]
  have v8 : V (.r c8) = none := by rw [hV]; simp only [go_sem, h8]; exact h8.2.2.2.2
  have vk : V (.v kk) = none := by rw [hV]; simp only [go_sem]; exact hkk
  have vS : Sub S V := by rw [hV]; exact Sub.set (Sub.set (Sub.set (Sub.set (Sub.refl _) y3 _) y4 _) y5 _) y6 _
  have y8 : S (.r c8) = none := h8.2.2.2.2
  have yk : S (.v kk) = none := hkk
  have n84 : ¬ c4 = c8 ∧ ¬ c8 = c4 := ⟨h8.2.2.1.2, h8.2.2.1.1⟩
  have n85 : ¬ c5 = c8 ∧ ¬ c8 = c5 := ⟨h8.2.1.2, h8.2.1.1⟩
  have n86 : ¬ c6 = c8 ∧ ¬ c8 = c6 := ⟨h8.1.2, h8.1.1⟩
  rw [ho]
  refine AWP.roam (ι := Nat × Option Nat) (fun x => x.1 ≤ ls.length ∧ dropG o ls = (ls.take x.1).map (fun l => l.drop (oldN o l)) ++ dropG o (ls.drop x.1))
    (fun x => ⟨Env.get [(4, .sp c4 0), (5, .sp c5 0), (6, .sp c6 0), (7, .fn (.func 145) [] [.sp c4 0, .sp c5 0]), (8, .sp c8 0), (20, .p (.sl (ls.map lvE))), (21, i64 ls.length), (22, i64 x.1)],
      (V.set (.v kk) (.tip 1 x.1 x.2)).set (.r c8) (.cells [i64 k, i64 g, .ts kk 1 x.2 ((((ls.take x.1).map (fun l => l.drop (oldN o l)))).map lvE)]), 52, []⟩) (fun x => ls.length - x.1) (0, none) ⟨Nat.zero_le _, by simp⟩ ?_ ?_
  · refine le_of (by simp only [go_sem, List.length_map] <;> rfl) ?_ rfl rfl (by simp)
    rw [hV]
    ((try dsimp only); (repeat refine sub_set ?_ ?_) <;> first | ((repeat (first | exact Sub.refl _ | refine Sub.setF ?_ (by first | assumption | simp only [*]) | refine Sub.setV ?_ (by first | assumption | simp only [*]))); done) | (simp only [go_sem, h4, h5, h6, h8, hkk, List.take_zero, List.map_nil]; done) | (simp only [go_sem, h4, h5, h6, h8, hkk, List.take_zero, List.map_nil]; rfl) | rfl)
  clear hV h4 h5 h6 h8 hkk y3 y4 y5
  rintro ⟨i, loc⟩ ⟨hi, hG⟩ ih
  dsimp only at hi hG ⊢
  refine AWPH.step (xc_ok (bitB 69741846015) _ _ _ ?_)
  by_cases ci : i < ls.length
  rotate_left
  · obtain rfl : i = ls.length := by omega
    rw [List.drop_length, List.take_length] at hG
    simp only [dropG, List.append_nil] at hG
    simp only [go_sem, n86, v6, List.take_length, ← hG]
    refine ⟨S, ?_, ?_⟩
    · exact Sub.set (Sub.set (Sub.set vS yk _) y8 _) y6 _
    · simp
  simp only [go_sem, ci, ltN' ci, getD_map' _ _ _ _ ci, lvE_mk, List.length_map]
  have hlen := hl _ (List.getElem_mem ci)
  have hcons : ls.drop i = ls[i] :: ls.drop (i + 1) := List.drop_eq_getElem_cons ci
  have hgi : dropG o (ls.drop i) = if oldN o ls[i] < (ls[i]).length then (ls[i]).drop (oldN o ls[i]) :: dropG o (ls.drop (i + 1)) else [] := by rw [hcons]; rfl
  refine AWP.roam (ι := Nat) (fun j => j ≤ oldN o ls[i]) (fun j => ⟨Env.get [(4, .sp c4 0), (5, .sp c5 0), (6, .sp c6 0), (7, .fn (.func 145) [] [.sp c4 0, .sp c5 0]), (8, .sp c8 0), (10, .p (lvP ls[i])), (20, .p (.sl (ls.map lvE))), (21, i64 ls.length), (22, i64 i), (26, .p (lvP ls[i])), (27, i64 (ls[i]).length), (28, i64 j)],
      (V.set (.v kk) (.tip 1 i loc)).set (.r c8) (.cells [i64 k, i64 g, .ts kk 1 loc ((((ls.take i).map (fun l => l.drop (oldN o l)))).map lvE)]), 52, []⟩) (fun j => (ls[i]).length - j) 0 (Nat.zero_le _) ?_ ?_
  · exact le_of (by simp only [go_sem, lvP, List.length_map] <;> simp) (Sub.refl _) rfl rfl (by simp)
  intro j hj jh
  have hol := oldN_le o ls[i]
  refine AWPH.step (xc_ok (bitB 69741846015) _ _ _ ?_)
  by_cases cj : j < (ls[i]).length
  rotate_left
  · have hz : ¬ oldN o ls[i] < (ls[i]).length := by omega
    rw [hgi, if_neg hz, List.append_nil] at hG
    simp only [go_sem, n86, v6, cj, ← hG]
    refine ⟨S, ?_, ?_⟩
    · exact Sub.set (Sub.set (Sub.set vS yk _) y8 _) y6 _
    · simp
  simp only [go_sem, cj, ltN' cj, lvP, getD_map' _ _ _ _ cj]
  refine alloc_intro fun c12 h12 => ?_
  simp only [fresh_set, fresh_setv] at h12
  have n4 := h12.2.ne v4
  have n5 := h12.2.ne v5
  simp only [go_sem, h12]
  refine (exp_Drop1 ls[i][j] f w (b1 := c4) (b2 := c5) ?_ ?_).useA ?_
  · simp only [go_sem, n84, n4, v4]
  · simp only [go_sem, n85, n5, v5]
  rintro _ _ ⟨rfl, rfl⟩
  rw [ho]
  have hst := oldN_step o ls[i] j cj hj
  cases hc : o (ls[i][j]).b
  · obtain rfl := hst.2 hc
    simp only [go_sem, h12]
    refine AWP.draw2 (bitB 69741846015) mixed (by kernel_rfl) (fun j => bl false) ?_
    have htl : (ls.take i).length = i := by rw [List.length_take]; omega
    have htl1 : (ls.take (i + 1)).length = i + 1 := by rw [List.length_take]; omega
    have hsl : List.take ((ls[i]).length - oldN o ls[i]) (List.drop (oldN o ls[i]) (List.map Span.pv ls[i])) = ((ls[i]).drop (oldN o ls[i])).map Span.pv := by
      rw [← List.map_drop]
      exact List.take_of_length_le (by simp)
    have hrow : List.map lvE (List.map (fun l => l.drop (oldN o l)) (ls.take i)) ++ [[.sl (((ls[i]).drop (oldN o ls[i])).map Span.pv)]] = List.map lvE (List.map (fun l => l.drop (oldN o l)) (ls.take (i + 1))) := by
      rw [List.take_succ_eq_append_getElem ci, List.map_append, List.map_append]; rfl
    simp only [go_sem, n84, n85, h12, n4, n5, htl, hsl, hrow]
    refine ⟨span_len, hol, by rintro el rfl; rfl, lvE_len, by omega, by omega, grow_intro fun loc' => ?_⟩
    simp only [go_sem, n84, n85, h12, n4, n5, vk]
    refine (ih (i + 1, loc') ⟨ci, ?_⟩ (by dsimp only; omega)).back ?_ (by simp) ?_
    · rw [hG, hgi, if_pos cj, List.take_succ_eq_append_getElem ci, List.map_append, List.append_assoc]; rfl
    · ((try dsimp only); (repeat refine sub_set ?_ ?_) <;> first | ((repeat (first | exact Sub.refl _ | refine Sub.setF ?_ (by first | assumption | simp only [*]) | refine Sub.setV ?_ (by first | assumption | simp only [*]))); done) | (simp only [go_sem, h12, n4, n5, vk, htl1, hrow]; done) | (simp only [go_sem, h12, n4, n5, vk, htl1, hrow]; rfl) | rfl)
    · simp only [go_sem, wi_succ (show i < 4611686018427387904 by omega)]
  · simp only [go_sem, h12]
    refine (jh (j + 1) (hst.1 hc) (by omega)).back ?_ (by simp) ?_
    · ((try dsimp only); (repeat refine sub_set ?_ ?_) <;> first | ((repeat (first | exact Sub.refl _ | refine Sub.setF ?_ (by first | assumption | simp only [*]) | refine Sub.setV ?_ (by first | assumption | simp only [*]))); done) | (simp only [go_sem, h12]; done) | (simp only [go_sem, h12]; rfl) | rfl)
    · simp only [go_sem, lvP, wi_succ (show j < 4611686018427387904 by omega)]
theorem stayF_snoc (o : Nat → Bool) (l : List Span) (j : Nat) (h : j < l.length) : stayF o (l.take (j + 1)) = if o (l[j]).b = true then stayF o (l.take j) else stayF o (l.take j) ++ [l[j]] := by
  unfold stayF
  rw [List.take_succ_eq_append_getElem h, List.filter_append]
  by_cases c : o (l[j]).b = true
  · rw [if_pos c]; simp [c]
  · rw [if_neg c]; simp [c]
theorem stayF_len (o : Nat → Bool) (l : List Span) : (stayF o l).length ≤ l.length := List.length_filter_le _ _
theorem docD_snoc (o : Nat → Bool) (ls : List (List Span)) (i : Nat) (h : i < ls.length) : manyF 0 0 ((ls.take (i + 1)).map (stayF o)) = if stayF o ls[i] = [] then manyF 0 0 ((ls.take i).map (stayF o)) else i + 1 := by
  rw [List.take_succ_eq_append_getElem h, List.map_append]
  simp only [List.map_cons, List.map_nil]
  rw [manyF_snoc]
  simp [Nat.min_eq_left (Nat.le_of_lt h)]

set_option maxHeartbeats 1000000 in
set_option maxRecDepth 8000 in
theorem ref07_Drop (k g : Int) (ls : List (List Span)) (f w : Nat) (hn : ls.length < 1048576) (hl : ∀ l ∈ ls, l.length < 1048576) :
    Pure Tryz.prog 140 [(Hist.mk k g ls).av, u64 f, u64 w] (Hist.mk k g (docD (oldV f w) ls)).av := fun S => by
  refine callR_of Tryz.func140 rfl rfl (xc_ok (bitB 73787046665731968975) _ _ _ ?_)
  simp only [go_sem]
  refine alloc_intro fun c3 h3 => ?_
  simp only [go_sem]
  refine alloc_intro fun c6 h6 => ?_
  simp only [fresh_set] at h6
  simp only [go_sem, h6]
  refine alloc_intro fun c7 h7 => ?_
  simp only [fresh_set] at h7
  simp only [go_sem, h6, h7]
  refine AWP.tipB c7 2 1 (cs := [i64 k, i64 g, .nils]) (by simp only [go_sem, h7]) rfl fun kk hkk => ?_
  simp only [freshv_setr] at hkk
  simp only [List.set]
  have y3 : S (.r c3) = none := h3
  have y6 : S (.r c6) = none := h6.2
  have y7 : S (.r c7) = none := h7.2.2
  have yk : S (.v kk) = none := hkk
  obtain ⟨o, ho⟩ : ∃ o, oldV f w = o := ⟨_, rfl⟩
  obtain ⟨V, hV⟩ : ∃ V : Store, V = (S.set (.r c3) (.cells [i64 k, i64 g, .p (.sl (ls.map lvE))])).set (.r c6) (.cells [i64 0, i64 0, .nils]) := ⟨_, rfl⟩
  have v3 : V (.r c3) = some (.cells [i64 k, i64 g, .p (.sl (ls.map lvE))]) := by rw [hV]; simp only [go_sem, h6]
  have v6 : V (.r c6) = some (.cells [i64 0, i64 0, .nils]) := by rw [hV]; simp only [go_sem, h6]
  have v7 : V (.r c7) = none := by rw [hV]; simp only [go_sem, h7]; exact h7.2.2
  have vk : V (.v kk) = none := by rw [hV]; simp only [go_sem]; exact hkk
  have vS : Sub S V := by rw [hV]; exact Sub.set (Sub.set (Sub.refl _) y3 _) y6 _
  have n73 : ¬ c3 = c7 ∧ ¬ c7 = c3 := ⟨h7.2.1.2, h7.2.1.1⟩
  have n76 : ¬ c6 = c7 ∧ ¬ c7 = c6 := ⟨h7.1.2, h7.1.1⟩
  rw [ho]
  refine AWP.iterE (ι := Option Nat) (fun loc i => ⟨Env.get [(1, u64 f), (2, u64 w), (3, .sp c3 0), (6, .sp c6 0), (7, .sp c7 0), (8, i64 (manyF 0 0 ((ls.take i).map (stayF o)))), (9, i64 i)],
      (V.set (.v kk) (.tip 1 i loc)).set (.r c7) (.cells [i64 k, i64 g, .ts kk 1 loc (((ls.take i).map (stayF o)).map lvE)]), 75, []⟩) ls.length none ?_ ?_ ?_
  · refine le_of (by simp only [go_sem, List.take_zero, List.map_nil, manyF] <;> simp) ?_ rfl rfl (by simp)
    rw [hV]
    ((try dsimp only); (repeat refine sub_set ?_ ?_) <;> first | ((repeat (first | exact Sub.refl _ | refine Sub.setF ?_ (by first | assumption | simp only [*]) | refine Sub.setV ?_ (by first | assumption | simp only [*]))); done) | (simp only [go_sem, h6, h7, hkk, List.take_zero, List.map_nil]; done) | (simp only [go_sem, h6, h7, hkk, List.take_zero, List.map_nil]; rfl) | rfl)
  · clear hV h6 h7 hkk
    intro i loc hi ih
    have hlen := hl _ (List.getElem_mem hi)
    refine AWPH.step (xc_ok (bitB 73787046665731968975) _ _ _ ?_)
    simp only [go_sem, hi, ltN' hi, n73, v3, List.length_map]
    refine AWP.tip0 10 2 (by simp only [go_sem]) fun k2 hk2 => ?_
    simp only [freshv_setr, freshv_set] at hk2
    have htl : (ls.take i).length = i := by rw [List.length_take]; omega
    have htl1 : (ls.take (i + 1)).length = i + 1 := by rw [List.length_take]; omega
    have hrow : List.map lvE (List.map (stayF o) (ls.take i)) ++ [[.sl ((stayF o ls[i]).map Span.pv)]] = List.map lvE (List.map (stayF o) (ls.take (i + 1))) := by
      rw [List.take_succ_eq_append_getElem hi, List.map_append, List.map_append]; rfl
    have hsn := docD_snoc o ls i hi
    have hq : wi ((i : Int) + 1) = ((i + 1 : Nat) : Int) := wi_succ (show i < 4611686018427387904 by omega)
    refine AWP.iterE (ι := Option Nat) (fun loc2 j => ⟨Env.get [(1, u64 f), (2, u64 w), (3, .sp c3 0), (6, .sp c6 0), (7, .sp c7 0), (8, i64 (manyF 0 0 ((ls.take i).map (stayF o)))), (9, i64 i), (10, .ts k2 2 loc2 ((stayF o ((ls[i]).take j)).map Span.pv)), (11, i64 j)],
      ((V.set (.v kk) (.tip 1 i loc)).set (.r c7) (.cells [i64 k, i64 g, .ts kk 1 loc (((ls.take i).map (stayF o)).map lvE)])).set (.v k2) (.tip 2 (stayF o ((ls[i]).take j)).length loc2), 75, []⟩) (ls[i]).length none ?_ ?_ ?_
    · have h00 : stayF o [] = [] := rfl
      refine le_of (by simp only [go_sem, List.take_zero, List.map_nil, h00] <;> rfl) ?_ rfl rfl (by simp)
      ((try dsimp only); (repeat refine sub_set ?_ ?_) <;> first | ((repeat (first | exact Sub.refl _ | refine Sub.setF ?_ (by first | assumption | simp only [*]) | refine Sub.setV ?_ (by first | assumption | simp only [*]))); done) | (simp only [go_sem, hk2, List.take_zero, h00, List.length_nil]; done) | (simp only [go_sem, hk2, List.take_zero, h00, List.length_nil]; rfl) | rfl)
    · intro j loc2 hj jh
      have hqj : wi ((j : Int) + 1) = ((j + 1 : Nat) : Int) := wi_succ (show j < 4611686018427387904 by omega)
      have hsj := stayF_snoc o ls[i] j hj
      have hsl := stayF_len o ((ls[i]).take j)
      rw [List.length_take] at hsl
      refine AWPH.step (xc_ok (bitB 73787046665731968975) _ _ _ ?_)
      simp only [go_sem, hi, ltN' hi, n73, v3, List.length_map, getD_map' _ _ _ _ hi, lvE_mk, hj, ltN' hj, getD_map' _ _ _ _ hj]
      refine (ref07_Old (ls[i][j]).b f w).useA ?_
      rw [ho]
      cases hc : o (ls[i][j]).b
      · rw [hc, if_neg (by decide)] at hsj
        have hmj : (stayF o ((ls[i]).take j)).map Span.pv ++ [[.int .u64 (ls[i][j]).a, .int .u64 (ls[i][j]).b]] = (stayF o ((ls[i]).take (j + 1))).map Span.pv := by rw [hsj, List.map_append]; rfl
        have hlj : (stayF o ((ls[i]).take (j + 1))).length = (stayF o ((ls[i]).take j)).length + 1 := by rw [hsj]; simp
        simp only [go_sem, hk2, hi, ltN' hi, n73, v3, List.length_map, getD_map' _ _ _ _ hi, lvE_mk, hj, ltN' hj, getD_map' _ _ _ _ hj]
        refine ⟨by rintro el rfl; rfl, span_len, by omega, by omega, grow_intro fun loc' => ?_⟩
        simp only [go_sem, hk2, hmj]
        refine (jh loc').back ?_ (by simp) ?_
        · ((try dsimp only); (repeat refine sub_set ?_ ?_) <;> first | ((repeat (first | exact Sub.refl _ | refine Sub.setF ?_ (by first | assumption | simp only [*]) | refine Sub.setV ?_ (by first | assumption | simp only [*]))); done) | (simp only [go_sem, hk2, hmj, hlj, List.length_map]; done) | (simp only [go_sem, hk2, hmj, hlj, List.length_map]; rfl) | rfl)
        · simp only [go_sem, hqj]
      · rw [hc, if_pos rfl] at hsj
        simp only [go_sem]
        refine (jh loc2).back ?_ (by simp) ?_
        · ((try dsimp only); (repeat refine sub_set ?_ ?_) <;> first | ((repeat (first | exact Sub.refl _ | refine Sub.setF ?_ (by first | assumption | simp only [*]) | refine Sub.setV ?_ (by first | assumption | simp only [*]))); done) | (simp only [go_sem, hk2, hsj]; done) | (simp only [go_sem, hk2, hsj]; rfl) | rfl)
        · simp only [go_sem, hqj, hsj]
    · intro loc2
      refine AWPH.step (xc_ok (bitB 73787046665731968975) _ _ _ ?_)
      simp only [go_sem, hi, ltN' hi, n73, v3, vk, hk2, List.length_map, getD_map' _ _ _ _ hi, lvE_mk, List.take_length, htl, hrow]
      refine ⟨by rintro el rfl; rfl, lvE_len, by omega, by omega, grow_intro fun loc' => ?_⟩
      simp only [go_sem, n73, vk, hk2, hrow]
      by_cases he : stayF o ls[i] = []
      · rw [if_pos he] at hsn
        have hd0 : decide (0 < (stayF o ls[i]).length) = false := by rw [he]; rfl
        simp only [go_sem, hd0]
        refine (ih loc').back ?_ (by simp) ?_
        · ((try dsimp only); (repeat refine sub_set ?_ ?_) <;> first | ((repeat (first | exact Sub.refl _ | refine Sub.setF ?_ (by first | assumption | simp only [*]) | refine Sub.setV ?_ (by first | assumption | simp only [*]))); done) | (simp only [go_sem, n73, hk2, vk, htl1, hrow, List.length_map]; done) | (simp only [go_sem, n73, hk2, vk, htl1, hrow, List.length_map]; rfl) | rfl)
        · simp only [go_sem, hq, hsn]
      · rw [if_neg he] at hsn
        have hd0 : decide (0 < (stayF o ls[i]).length) = true := decide_eq_true (List.length_pos_iff.2 he)
        simp only [go_sem, hd0]
        refine (ih loc').back ?_ (by simp) ?_
        · ((try dsimp only); (repeat refine sub_set ?_ ?_) <;> first | ((repeat (first | exact Sub.refl _ | refine Sub.setF ?_ (by first | assumption | simp only [*]) | refine Sub.setV ?_ (by first | assumption | simp only [*]))); done) | (simp only [go_sem, n73, hk2, vk, htl1, hrow, List.length_map]; done) | (simp only [go_sem, n73, hk2, vk, htl1, hrow, List.length_map]; rfl) | rfl)
        · simp only [go_sem, hq, hsn]
  · intro loc
    refine AWPH.step (xc_ok (bitB 73787046665731968975) _ _ _ ?_)
    simp only [go_sem, n73, v3, n76, v6, List.take_length, List.length_map]
    refine ⟨lvE_len, by have := manyF_le (List.map (stayF o) ls) 0 0 (Nat.le_refl _); simpa using this, S, Sub.set (Sub.set (Sub.set vS yk _) y7 _) y6 _, ?_⟩
    simp [docD, List.map_take]
end Go.Sk
