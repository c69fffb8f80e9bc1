/- Texts W7 W14a W13 W13w W13s W14b W14c W14f W14d W14e, joined. -/
import Derived.Test.YtlbjacoigdpgfaaR14A
import Derived.Test.YtlbjacoigdpgfaaW6d
import Derived.Test.YtlbjacoigdpgfaaSkSc
import Derived.Test.YtlbjacoigdpgfaaSkRg
import Derived.Test.YtlbjacoigdpgfaaSkDf
import Derived.Test.YtlbjacoigdpgfaaW8
set_option linter.unusedSimpArgs false
set_option linter.unusedVariables false
set_option linter.unusedSectionVars false
-- W7
section
namespace Go.Sk
open Go Go.Proofs

theorem exp_Old (t f w : Nat) : Pure Try.prog 88 [u64 t, u64 f, u64 w] (bl (oldV f w t)) := fun S => by
  refine callR_of Try.func88 rfl rfl (xc_ok (bitB 71) _ _ _ ?_)
  simp only [go_sem, decide_true, decide_false, Nat.lt_irrefl]
  by_cases h1 : w ≤ f
  · simp only [go_sem, decide_true, decide_false, Nat.lt_irrefl, h1]
    (refine ⟨S, by (repeat (first | exact Sub.refl _ | refine Sub.setF ?_ (by first | assumption | exact And.right (by assumption) | exact And.right (And.right (by assumption)) | exact And.right (And.right (And.right (by assumption))) | exact And.right (And.right (And.right (And.right (by assumption)))) | exact And.right (And.right (And.right (And.right (And.right (by assumption))))) | exact And.right (And.right (And.right (And.right (And.right (And.right (by assumption)))))) | exact And.right (And.right (And.right (And.right (And.right (And.right (And.right (by assumption))))))) | exact And.right (And.right (And.right (And.right (And.right (And.right (And.right (And.right (by assumption)))))))) | exact And.right (And.right (And.right (And.right (And.right (And.right (And.right (And.right (And.right (by assumption)))))))))) | refine Sub.setV ?_ (by first | assumption | exact And.right (by assumption) | exact And.right (And.right (by assumption)) | exact And.right (And.right (And.right (by assumption))) | exact And.right (And.right (And.right (And.right (by assumption)))) | exact And.right (And.right (And.right (And.right (And.right (by assumption))))) | exact And.right (And.right (And.right (And.right (And.right (And.right (by assumption)))))) | exact And.right (And.right (And.right (And.right (And.right (And.right (And.right (by assumption))))))) | exact And.right (And.right (And.right (And.right (And.right (And.right (And.right (And.right (by assumption)))))))) | exact And.right (And.right (And.right (And.right (And.right (And.right (And.right (And.right (And.right (by assumption)))))))))))), ?_⟩); simp [oldV, h1]
  · simp only [go_sem, decide_true, decide_false, Nat.lt_irrefl, h1]
    (refine ⟨S, by (repeat (first | exact Sub.refl _ | refine Sub.setF ?_ (by first | assumption | exact And.right (by assumption) | exact And.right (And.right (by assumption)) | exact And.right (And.right (And.right (by assumption))) | exact And.right (And.right (And.right (And.right (by assumption)))) | exact And.right (And.right (And.right (And.right (And.right (by assumption))))) | exact And.right (And.right (And.right (And.right (And.right (And.right (by assumption)))))) | exact And.right (And.right (And.right (And.right (And.right (And.right (And.right (by assumption))))))) | exact And.right (And.right (And.right (And.right (And.right (And.right (And.right (And.right (by assumption)))))))) | exact And.right (And.right (And.right (And.right (And.right (And.right (And.right (And.right (And.right (by assumption)))))))))) | refine Sub.setV ?_ (by first | assumption | exact And.right (by assumption) | exact And.right (And.right (by assumption)) | exact And.right (And.right (And.right (by assumption))) | exact And.right (And.right (And.right (And.right (by assumption)))) | exact And.right (And.right (And.right (And.right (And.right (by assumption))))) | exact And.right (And.right (And.right (And.right (And.right (And.right (by assumption)))))) | exact And.right (And.right (And.right (And.right (And.right (And.right (And.right (by assumption))))))) | exact And.right (And.right (And.right (And.right (And.right (And.right (And.right (And.right (by assumption)))))))) | exact And.right (And.right (And.right (And.right (And.right (And.right (And.right (And.right (And.right (by assumption)))))))))))), ?_⟩); simp [oldV, h1]
theorem ref07_Old (t f w : Nat) : Pure Try.prog 86 [u64 t, u64 f, u64 w] (bl (oldV f w t)) := fun S => by
  refine callR_of Try.func86 rfl rfl (xc_ok (bitB 71) _ _ _ ?_)
  simp only [go_sem, decide_true, decide_false, Nat.lt_irrefl]
  by_cases h1 : w ≤ f
  · simp only [go_sem, decide_true, decide_false, Nat.lt_irrefl, h1]
    (refine ⟨S, by (repeat (first | exact Sub.refl _ | refine Sub.setF ?_ (by first | assumption | exact And.right (by assumption) | exact And.right (And.right (by assumption)) | exact And.right (And.right (And.right (by assumption))) | exact And.right (And.right (And.right (And.right (by assumption)))) | exact And.right (And.right (And.right (And.right (And.right (by assumption))))) | exact And.right (And.right (And.right (And.right (And.right (And.right (by assumption)))))) | exact And.right (And.right (And.right (And.right (And.right (And.right (And.right (by assumption))))))) | exact And.right (And.right (And.right (And.right (And.right (And.right (And.right (And.right (by assumption)))))))) | exact And.right (And.right (And.right (And.right (And.right (And.right (And.right (And.right (And.right (by assumption)))))))))) | refine Sub.setV ?_ (by first | assumption | exact And.right (by assumption) | exact And.right (And.right (by assumption)) | exact And.right (And.right (And.right (by assumption))) | exact And.right (And.right (And.right (And.right (by assumption)))) | exact And.right (And.right (And.right (And.right (And.right (by assumption))))) | exact And.right (And.right (And.right (And.right (And.right (And.right (by assumption)))))) | exact And.right (And.right (And.right (And.right (And.right (And.right (And.right (by assumption))))))) | exact And.right (And.right (And.right (And.right (And.right (And.right (And.right (And.right (by assumption)))))))) | exact And.right (And.right (And.right (And.right (And.right (And.right (And.right (And.right (And.right (by assumption)))))))))))), ?_⟩); simp [oldV, h1]
  · simp only [go_sem, decide_true, decide_false, Nat.lt_irrefl, h1]
    (refine ⟨S, by (repeat (first | exact Sub.refl _ | refine Sub.setF ?_ (by first | assumption | exact And.right (by assumption) | exact And.right (And.right (by assumption)) | exact And.right (And.right (And.right (by assumption))) | exact And.right (And.right (And.right (And.right (by assumption)))) | exact And.right (And.right (And.right (And.right (And.right (by assumption))))) | exact And.right (And.right (And.right (And.right (And.right (And.right (by assumption)))))) | exact And.right (And.right (And.right (And.right (And.right (And.right (And.right (by assumption))))))) | exact And.right (And.right (And.right (And.right (And.right (And.right (And.right (And.right (by assumption)))))))) | exact And.right (And.right (And.right (And.right (And.right (And.right (And.right (And.right (And.right (by assumption)))))))))) | refine Sub.setV ?_ (by first | assumption | exact And.right (by assumption) | exact And.right (And.right (by assumption)) | exact And.right (And.right (And.right (by assumption))) | exact And.right (And.right (And.right (And.right (by assumption)))) | exact And.right (And.right (And.right (And.right (And.right (by assumption))))) | exact And.right (And.right (And.right (And.right (And.right (And.right (by assumption)))))) | exact And.right (And.right (And.right (And.right (And.right (And.right (And.right (by assumption))))))) | exact And.right (And.right (And.right (And.right (And.right (And.right (And.right (And.right (by assumption)))))))) | exact And.right (And.right (And.right (And.right (And.right (And.right (And.right (And.right (And.right (by assumption)))))))))))), ?_⟩); simp [oldV, h1]
theorem exp_Drop1 {S : Store} {b1 b2 : Nat} (s : Span) (f w : Nat) (h1 : S (.r b1) = some (.cells [u64 f])) (h2 : S (.r b2) = some (.cells [u64 w])) :
    CallR Try.prog 87 [s.av, .sp b1 0, .sp b2 0] S (fun r S' => r = bl (oldV f w s.b) ∧ S' = S) := by
  refine callR_of Try.func87 rfl rfl (xc_ok (bitB 31) _ _ _ ?_)
  simp only [go_sem, decide_true, decide_false, Nat.lt_irrefl]
  refine alloc_intro fun b hb => ?_
  have n1 := hb.ne h1; have n2 := hb.ne h2
  simp only [go_sem, decide_true, decide_false, Nat.lt_irrefl, h1, h2, n1, n2]
  refine (exp_Old s.b f w).useA ?_
  simp only [go_sem, decide_true, decide_false, Nat.lt_irrefl]
  (refine ⟨S, by (repeat (first | exact Sub.refl _ | refine Sub.setF ?_ (by first | assumption | exact And.right (by assumption) | exact And.right (And.right (by assumption)) | exact And.right (And.right (And.right (by assumption))) | exact And.right (And.right (And.right (And.right (by assumption)))) | exact And.right (And.right (And.right (And.right (And.right (by assumption))))) | exact And.right (And.right (And.right (And.right (And.right (And.right (by assumption)))))) | exact And.right (And.right (And.right (And.right (And.right (And.right (And.right (by assumption))))))) | exact And.right (And.right (And.right (And.right (And.right (And.right (And.right (And.right (by assumption)))))))) | exact And.right (And.right (And.right (And.right (And.right (And.right (And.right (And.right (And.right (by assumption)))))))))) | refine Sub.setV ?_ (by first | assumption | exact And.right (by assumption) | exact And.right (And.right (by assumption)) | exact And.right (And.right (And.right (by assumption))) | exact And.right (And.right (And.right (And.right (by assumption)))) | exact And.right (And.right (And.right (And.right (And.right (by assumption))))) | exact And.right (And.right (And.right (And.right (And.right (And.right (by assumption)))))) | exact And.right (And.right (And.right (And.right (And.right (And.right (And.right (by assumption))))))) | exact And.right (And.right (And.right (And.right (And.right (And.right (And.right (And.right (by assumption)))))))) | exact And.right (And.right (And.right (And.right (And.right (And.right (And.right (And.right (And.right (by assumption)))))))))))), ?_⟩); simp

set_option maxHeartbeats 1000000 in
set_option maxRecDepth 8000 in
theorem exp_Drop (k g : Int) (ls : List (List Span)) (f w : Nat) (hn : ls.length < 1048576) (hl : ∀ l ∈ ls, l.length < 1048576) :
    Pure Try.prog 73 [(Hist.mk k g ls).av, u64 f, u64 w] (Hist.mk k g (dropG (oldV f w) ls)).av := fun S => by
  refine callR_of Try.func73 rfl rfl (xc_ok (bitB 69741846015) _ _ _ ?_)
  simp only [go_sem, decide_true, decide_false, Nat.lt_irrefl]
  refine alloc_intro fun c3 h3 => ?_
  simp only [go_sem, decide_true, decide_false, Nat.lt_irrefl]
  refine alloc_intro fun c4 h4 => ?_
  simp only [fresh_set] at h4
  simp only [go_sem, decide_true, decide_false, Nat.lt_irrefl, h4]
  refine alloc_intro fun c5 h5 => ?_
  simp only [fresh_set] at h5
  simp only [go_sem, decide_true, decide_false, Nat.lt_irrefl, h4, h5]
  refine alloc_intro fun c6 h6 => ?_
  simp only [fresh_set] at h6
  simp only [go_sem, decide_true, decide_false, Nat.lt_irrefl, h4, h5, h6]
  refine AWP.scope (xc_ok (bitB 69741846015) _ _ _ ?_)
  simp only [go_sem, decide_true, decide_false, Nat.lt_irrefl, h4, h5, h6]
  refine alloc_intro fun c8 h8 => ?_
  simp only [fresh_set] at h8
  simp only [go_sem, decide_true, decide_false, Nat.lt_irrefl, h4, h5, h6, h8]
  refine AWP.tipB c8 2 1 (cs := [i64 k, i64 g, .nils]) (by simp only [go_sem, decide_true, decide_false, Nat.lt_irrefl, h8]) rfl fun kk hkk => ?_
  simp only [freshv_setr] at hkk
  simp only [List.set]
  have y3 : S (.r c3) = none := h3
  have y4 : S (.r c4) = none := h4.2
  have y5 : S (.r c5) = none := h5.2.2
  have y6 : S (.r c6) = none := h6.2.2.2
  obtain ⟨o, ho⟩ : ∃ o, oldV f w = o := ⟨_, rfl⟩
  obtain ⟨V, hV⟩ : ∃ V : Store, V = (((S.set (.r c3) (.cells [i64 k, i64 g, .p (.sl (ls.map lvE))])).set (.r c4) (.cells [u64 f])).set (.r c5) (.cells [u64 w])).set (.r c6) (.cells [i64 0, i64 0, .nils]) := ⟨_, rfl⟩
  have v4 : V (.r c4) = some (.cells [u64 f]) := by rw [hV]; simp only [go_sem, decide_true, decide_false, Nat.lt_irrefl, h4, h5, h6]
  have v5 : V (.r c5) = some (.cells [u64 w]) := by rw [hV]; simp only [go_sem, decide_true, decide_false, Nat.lt_irrefl, h4, h5, h6]
  have v6 : V (.r c6) = some (.cells [i64 0, i64 0, .nils]) := by rw [hV]; simp only [go_sem, decide_true, decide_false, Nat.lt_irrefl, h4, h5, h6]
  have v8 : V (.r c8) = none := by rw [hV]; simp only [go_sem, decide_true, decide_false, Nat.lt_irrefl, h8]; exact h8.2.2.2.2
  have vk : V (.v kk) = none := by rw [hV]; simp only [go_sem, decide_true, decide_false, Nat.lt_irrefl]; exact hkk
  have vS : Sub S V := by rw [hV]; exact Sub.set (Sub.set (Sub.set (Sub.set (Sub.refl _) y3 _) y4 _) y5 _) y6 _
  have y8 : S (.r c8) = none := h8.2.2.2.2
  have yk : S (.v kk) = none := hkk
  have n84 : ¬ c4 = c8 ∧ ¬ c8 = c4 := ⟨h8.2.2.1.2, h8.2.2.1.1⟩
  have n85 : ¬ c5 = c8 ∧ ¬ c8 = c5 := ⟨h8.2.1.2, h8.2.1.1⟩
  have n86 : ¬ c6 = c8 ∧ ¬ c8 = c6 := ⟨h8.1.2, h8.1.1⟩
  rw [ho]
  refine AWP.roam (ι := Nat × Option Nat) (fun x => x.1 ≤ ls.length ∧ dropG o ls = (ls.take x.1).map (fun l => l.drop (oldN o l)) ++ dropG o (ls.drop x.1))
    (fun x => ⟨Env.get [(4, .sp c4 0), (5, .sp c5 0), (6, .sp c6 0), (7, .fn (.func 87) [] [.sp c4 0, .sp c5 0]), (8, .sp c8 0), (20, .p (.sl (ls.map lvE))), (21, i64 ls.length), (22, i64 x.1)],
      (V.set (.v kk) (.tip 1 x.1 x.2)).set (.r c8) (.cells [i64 k, i64 g, .ts kk 1 x.2 ((((ls.take x.1).map (fun l => l.drop (oldN o l)))).map lvE)]), 52, []⟩) (fun x => ls.length - x.1) (0, none) ⟨Nat.zero_le _, by simp⟩ ?_ ?_
  · refine le_of (by simp only [go_sem, decide_true, decide_false, Nat.lt_irrefl, List.length_map] <;> rfl) ?_ rfl rfl (by simp)
    rw [hV]
    ((try dsimp only); (repeat refine sub_set ?_ ?_) <;> first | ((repeat (first | exact Sub.refl _ | refine Sub.setF ?_ (by first | assumption | exact And.right (by assumption) | exact And.right (And.right (by assumption)) | exact And.right (And.right (And.right (by assumption))) | exact And.right (And.right (And.right (And.right (by assumption)))) | exact And.right (And.right (And.right (And.right (And.right (by assumption))))) | exact And.right (And.right (And.right (And.right (And.right (And.right (by assumption)))))) | exact And.right (And.right (And.right (And.right (And.right (And.right (And.right (by assumption))))))) | exact And.right (And.right (And.right (And.right (And.right (And.right (And.right (And.right (by assumption)))))))) | exact And.right (And.right (And.right (And.right (And.right (And.right (And.right (And.right (And.right (by assumption)))))))))) | refine Sub.setV ?_ (by first | assumption | exact And.right (by assumption) | exact And.right (And.right (by assumption)) | exact And.right (And.right (And.right (by assumption))) | exact And.right (And.right (And.right (And.right (by assumption)))) | exact And.right (And.right (And.right (And.right (And.right (by assumption))))) | exact And.right (And.right (And.right (And.right (And.right (And.right (by assumption)))))) | exact And.right (And.right (And.right (And.right (And.right (And.right (And.right (by assumption))))))) | exact And.right (And.right (And.right (And.right (And.right (And.right (And.right (And.right (by assumption)))))))) | exact And.right (And.right (And.right (And.right (And.right (And.right (And.right (And.right (And.right (by assumption)))))))))))); done) | (simp only [go_sem, decide_true, decide_false, Nat.lt_irrefl, h4, h5, h6, h8, hkk, List.take_zero, List.map_nil]; done) | (simp only [go_sem, decide_true, decide_false, Nat.lt_irrefl, h4, h5, h6, h8, hkk, List.take_zero, List.map_nil]; rfl) | rfl)
  clear hV h4 h5 h6 h8 hkk y3 y4 y5
  rintro ⟨i, loc⟩ ⟨hi, hG⟩ ih
  dsimp only at hi hG ⊢
  refine AWPH.step (xc_ok (bitB 69741846015) _ _ _ ?_)
  by_cases ci : i < ls.length
  rotate_left
  · obtain rfl : i = ls.length := by omega
    rw [List.drop_length, List.take_length] at hG
    simp only [dropG, List.append_nil] at hG
    simp only [go_sem, decide_true, decide_false, Nat.lt_irrefl, n86, v6, List.take_length, ← hG]
    refine ⟨S, ?_, ?_⟩
    · exact Sub.set (Sub.set (Sub.set vS yk _) y8 _) y6 _
    · simp
  simp only [go_sem, decide_true, decide_false, Nat.lt_irrefl, ci, ltN' ci, getD_map' _ _ _ _ ci, lvE_mk, List.length_map]
  have hlen := hl _ (List.getElem_mem ci)
  have hcons : ls.drop i = ls[i] :: ls.drop (i + 1) := List.drop_eq_getElem_cons ci
  have hgi : dropG o (ls.drop i) = if oldN o ls[i] < (ls[i]).length then (ls[i]).drop (oldN o ls[i]) :: dropG o (ls.drop (i + 1)) else [] := by rw [hcons]; rfl
  refine AWP.roam (ι := Nat) (fun j => j ≤ oldN o ls[i]) (fun j => ⟨Env.get [(4, .sp c4 0), (5, .sp c5 0), (6, .sp c6 0), (7, .fn (.func 87) [] [.sp c4 0, .sp c5 0]), (8, .sp c8 0), (10, .p (lvP ls[i])), (20, .p (.sl (ls.map lvE))), (21, i64 ls.length), (22, i64 i), (26, .p (lvP ls[i])), (27, i64 (ls[i]).length), (28, i64 j)],
      (V.set (.v kk) (.tip 1 i loc)).set (.r c8) (.cells [i64 k, i64 g, .ts kk 1 loc ((((ls.take i).map (fun l => l.drop (oldN o l)))).map lvE)]), 52, []⟩) (fun j => (ls[i]).length - j) 0 (Nat.zero_le _) ?_ ?_
  · exact le_of (by simp only [go_sem, decide_true, decide_false, Nat.lt_irrefl, lvP, List.length_map] <;> simp) (Sub.refl _) rfl rfl (by simp)
  intro j hj jh
  have hol := oldN_le o ls[i]
  refine AWPH.step (xc_ok (bitB 69741846015) _ _ _ ?_)
  by_cases cj : j < (ls[i]).length
  rotate_left
  · have hz : ¬ oldN o ls[i] < (ls[i]).length := by omega
    rw [hgi, if_neg hz, List.append_nil] at hG
    simp only [go_sem, decide_true, decide_false, Nat.lt_irrefl, n86, v6, cj, ← hG]
    refine ⟨S, ?_, ?_⟩
    · exact Sub.set (Sub.set (Sub.set vS yk _) y8 _) y6 _
    · simp
  simp only [go_sem, decide_true, decide_false, Nat.lt_irrefl, cj, ltN' cj, lvP, getD_map' _ _ _ _ cj]
  refine alloc_intro fun c12 h12 => ?_
  simp only [fresh_set, fresh_setv] at h12
  have n4 := h12.2.ne v4
  have n5 := h12.2.ne v5
  simp only [go_sem, decide_true, decide_false, Nat.lt_irrefl, h12]
  refine (exp_Drop1 ls[i][j] f w (b1 := c4) (b2 := c5) ?_ ?_).useA ?_
  · simp only [go_sem, decide_true, decide_false, Nat.lt_irrefl, n84, n4, v4]
  · simp only [go_sem, decide_true, decide_false, Nat.lt_irrefl, n85, n5, v5]
  rintro _ _ ⟨rfl, rfl⟩
  rw [ho]
  have hst := oldN_step o ls[i] j cj hj
  cases hc : o (ls[i][j]).b
  · obtain rfl := hst.2 hc
    simp only [go_sem, decide_true, decide_false, Nat.lt_irrefl, h12]
    refine AWP.draw2 (bitB 69741846015) mixed (by kernel_rfl) (fun j => bl false) ?_
    have htl : (ls.take i).length = i := by rw [List.length_take]; omega
    have htl1 : (ls.take (i + 1)).length = i + 1 := by rw [List.length_take]; omega
    have hsl : List.take ((ls[i]).length - oldN o ls[i]) (List.drop (oldN o ls[i]) (List.map Span.pv ls[i])) = ((ls[i]).drop (oldN o ls[i])).map Span.pv := by
      rw [← List.map_drop]
      exact List.take_of_length_le (by simp)
    have hrow : List.map lvE (List.map (fun l => l.drop (oldN o l)) (ls.take i)) ++ [[.sl (((ls[i]).drop (oldN o ls[i])).map Span.pv)]] = List.map lvE (List.map (fun l => l.drop (oldN o l)) (ls.take (i + 1))) := by
      rw [List.take_succ_eq_append_getElem ci, List.map_append, List.map_append]; rfl
    simp only [go_sem, decide_true, decide_false, Nat.lt_irrefl, n84, n85, h12, n4, n5, htl, hsl, hrow]
    refine ⟨span_len, hol, by rintro el rfl; rfl, lvE_len, by omega, by omega, grow_intro fun loc' => ?_⟩
    simp only [go_sem, decide_true, decide_false, Nat.lt_irrefl, n84, n85, h12, n4, n5, vk]
    refine (ih (i + 1, loc') ⟨ci, ?_⟩ (by dsimp only; omega)).back ?_ (by simp) ?_
    · rw [hG, hgi, if_pos cj, List.take_succ_eq_append_getElem ci, List.map_append, List.append_assoc]; rfl
    · ((try dsimp only); (repeat refine sub_set ?_ ?_) <;> first | ((repeat (first | exact Sub.refl _ | refine Sub.setF ?_ (by first | assumption | exact And.right (by assumption) | exact And.right (And.right (by assumption)) | exact And.right (And.right (And.right (by assumption))) | exact And.right (And.right (And.right (And.right (by assumption)))) | exact And.right (And.right (And.right (And.right (And.right (by assumption))))) | exact And.right (And.right (And.right (And.right (And.right (And.right (by assumption)))))) | exact And.right (And.right (And.right (And.right (And.right (And.right (And.right (by assumption))))))) | exact And.right (And.right (And.right (And.right (And.right (And.right (And.right (And.right (by assumption)))))))) | exact And.right (And.right (And.right (And.right (And.right (And.right (And.right (And.right (And.right (by assumption)))))))))) | refine Sub.setV ?_ (by first | assumption | exact And.right (by assumption) | exact And.right (And.right (by assumption)) | exact And.right (And.right (And.right (by assumption))) | exact And.right (And.right (And.right (And.right (by assumption)))) | exact And.right (And.right (And.right (And.right (And.right (by assumption))))) | exact And.right (And.right (And.right (And.right (And.right (And.right (by assumption)))))) | exact And.right (And.right (And.right (And.right (And.right (And.right (And.right (by assumption))))))) | exact And.right (And.right (And.right (And.right (And.right (And.right (And.right (And.right (by assumption)))))))) | exact And.right (And.right (And.right (And.right (And.right (And.right (And.right (And.right (And.right (by assumption)))))))))))); done) | (simp only [go_sem, decide_true, decide_false, Nat.lt_irrefl, h12, n4, n5, vk, htl1, hrow]; done) | (simp only [go_sem, decide_true, decide_false, Nat.lt_irrefl, h12, n4, n5, vk, htl1, hrow]; rfl) | rfl)
    · simp only [go_sem, decide_true, decide_false, Nat.lt_irrefl, wi_succ (show i < 4611686018427387904 by omega)]
  · simp only [go_sem, decide_true, decide_false, Nat.lt_irrefl, h12]
    refine (jh (j + 1) (hst.1 hc) (by omega)).back ?_ (by simp) ?_
    · ((try dsimp only); (repeat refine sub_set ?_ ?_) <;> first | ((repeat (first | exact Sub.refl _ | refine Sub.setF ?_ (by first | assumption | exact And.right (by assumption) | exact And.right (And.right (by assumption)) | exact And.right (And.right (And.right (by assumption))) | exact And.right (And.right (And.right (And.right (by assumption)))) | exact And.right (And.right (And.right (And.right (And.right (by assumption))))) | exact And.right (And.right (And.right (And.right (And.right (And.right (by assumption)))))) | exact And.right (And.right (And.right (And.right (And.right (And.right (And.right (by assumption))))))) | exact And.right (And.right (And.right (And.right (And.right (And.right (And.right (And.right (by assumption)))))))) | exact And.right (And.right (And.right (And.right (And.right (And.right (And.right (And.right (And.right (by assumption)))))))))) | refine Sub.setV ?_ (by first | assumption | exact And.right (by assumption) | exact And.right (And.right (by assumption)) | exact And.right (And.right (And.right (by assumption))) | exact And.right (And.right (And.right (And.right (by assumption)))) | exact And.right (And.right (And.right (And.right (And.right (by assumption))))) | exact And.right (And.right (And.right (And.right (And.right (And.right (by assumption)))))) | exact And.right (And.right (And.right (And.right (And.right (And.right (And.right (by assumption))))))) | exact And.right (And.right (And.right (And.right (And.right (And.right (And.right (And.right (by assumption)))))))) | exact And.right (And.right (And.right (And.right (And.right (And.right (And.right (And.right (And.right (by assumption)))))))))))); done) | (simp only [go_sem, decide_true, decide_false, Nat.lt_irrefl, h12]; done) | (simp only [go_sem, decide_true, decide_false, Nat.lt_irrefl, h12]; rfl) | rfl)
    · simp only [go_sem, decide_true, decide_false, Nat.lt_irrefl, lvP, wi_succ (show j < 4611686018427387904 by omega)]
theorem stayF_snoc (o : Nat → Bool) (l : List Span) (j : Nat) (h : j < l.length) : stayF o (l.take (j + 1)) = if o (l[j]).b = true then stayF o (l.take j) else stayF o (l.take j) ++ [l[j]] := by
  unfold stayF
  rw [List.take_succ_eq_append_getElem h, List.filter_append]
  by_cases c : o (l[j]).b = true
  · rw [if_pos c]; simp [c]
  · rw [if_neg c]; simp [c]
theorem stayF_len (o : Nat → Bool) (l : List Span) : (stayF o l).length ≤ l.length := List.length_filter_le _ _
theorem docD_snoc (o : Nat → Bool) (ls : List (List Span)) (i : Nat) (h : i < ls.length) : manyF 0 0 ((ls.take (i + 1)).map (stayF o)) = if stayF o ls[i] = [] then manyF 0 0 ((ls.take i).map (stayF o)) else i + 1 := by
  rw [List.take_succ_eq_append_getElem h, List.map_append]
  simp only [List.map_cons, List.map_nil]
  rw [manyF_snoc]
  simp [Nat.min_eq_left (Nat.le_of_lt h)]

set_option maxHeartbeats 1000000 in
set_option maxRecDepth 8000 in
theorem ref07_Drop (k g : Int) (ls : List (List Span)) (f w : Nat) (hn : ls.length < 1048576) (hl : ∀ l ∈ ls, l.length < 1048576) :
    Pure Try.prog 70 [(Hist.mk k g ls).av, u64 f, u64 w] (Hist.mk k g (docD (oldV f w) ls)).av := fun S => by
  refine callR_of Try.func70 rfl rfl (xc_ok (bitB 73787046665731968975) _ _ _ ?_)
  simp only [go_sem, decide_true, decide_false, Nat.lt_irrefl]
  refine alloc_intro fun c3 h3 => ?_
  simp only [go_sem, decide_true, decide_false, Nat.lt_irrefl]
  refine alloc_intro fun c6 h6 => ?_
  simp only [fresh_set] at h6
  simp only [go_sem, decide_true, decide_false, Nat.lt_irrefl, h6]
  refine alloc_intro fun c7 h7 => ?_
  simp only [fresh_set] at h7
  simp only [go_sem, decide_true, decide_false, Nat.lt_irrefl, h6, h7]
  refine AWP.tipB c7 2 1 (cs := [i64 k, i64 g, .nils]) (by simp only [go_sem, decide_true, decide_false, Nat.lt_irrefl, h7]) rfl fun kk hkk => ?_
  simp only [freshv_setr] at hkk
  simp only [List.set]
  have y3 : S (.r c3) = none := h3
  have y6 : S (.r c6) = none := h6.2
  have y7 : S (.r c7) = none := h7.2.2
  have yk : S (.v kk) = none := hkk
  obtain ⟨o, ho⟩ : ∃ o, oldV f w = o := ⟨_, rfl⟩
  obtain ⟨V, hV⟩ : ∃ V : Store, V = (S.set (.r c3) (.cells [i64 k, i64 g, .p (.sl (ls.map lvE))])).set (.r c6) (.cells [i64 0, i64 0, .nils]) := ⟨_, rfl⟩
  have v3 : V (.r c3) = some (.cells [i64 k, i64 g, .p (.sl (ls.map lvE))]) := by rw [hV]; simp only [go_sem, decide_true, decide_false, Nat.lt_irrefl, h6]
  have v6 : V (.r c6) = some (.cells [i64 0, i64 0, .nils]) := by rw [hV]; simp only [go_sem, decide_true, decide_false, Nat.lt_irrefl, h6]
  have v7 : V (.r c7) = none := by rw [hV]; simp only [go_sem, decide_true, decide_false, Nat.lt_irrefl, h7]; exact h7.2.2
  have vk : V (.v kk) = none := by rw [hV]; simp only [go_sem, decide_true, decide_false, Nat.lt_irrefl]; exact hkk
  have vS : Sub S V := by rw [hV]; exact Sub.set (Sub.set (Sub.refl _) y3 _) y6 _
  have n73 : ¬ c3 = c7 ∧ ¬ c7 = c3 := ⟨h7.2.1.2, h7.2.1.1⟩
  have n76 : ¬ c6 = c7 ∧ ¬ c7 = c6 := ⟨h7.1.2, h7.1.1⟩
  rw [ho]
  refine AWP.iterE (ι := Option Nat) (fun loc i => ⟨Env.get [(1, u64 f), (2, u64 w), (3, .sp c3 0), (6, .sp c6 0), (7, .sp c7 0), (8, i64 (manyF 0 0 ((ls.take i).map (stayF o)))), (9, i64 i)],
      (V.set (.v kk) (.tip 1 i loc)).set (.r c7) (.cells [i64 k, i64 g, .ts kk 1 loc (((ls.take i).map (stayF o)).map lvE)]), 75, []⟩) ls.length none ?_ ?_ ?_
  · refine le_of (by simp only [go_sem, decide_true, decide_false, Nat.lt_irrefl, List.take_zero, List.map_nil, manyF] <;> simp) ?_ rfl rfl (by simp)
    rw [hV]
    ((try dsimp only); (repeat refine sub_set ?_ ?_) <;> first | ((repeat (first | exact Sub.refl _ | refine Sub.setF ?_ (by first | assumption | exact And.right (by assumption) | exact And.right (And.right (by assumption)) | exact And.right (And.right (And.right (by assumption))) | exact And.right (And.right (And.right (And.right (by assumption)))) | exact And.right (And.right (And.right (And.right (And.right (by assumption))))) | exact And.right (And.right (And.right (And.right (And.right (And.right (by assumption)))))) | exact And.right (And.right (And.right (And.right (And.right (And.right (And.right (by assumption))))))) | exact And.right (And.right (And.right (And.right (And.right (And.right (And.right (And.right (by assumption)))))))) | exact And.right (And.right (And.right (And.right (And.right (And.right (And.right (And.right (And.right (by assumption)))))))))) | refine Sub.setV ?_ (by first | assumption | exact And.right (by assumption) | exact And.right (And.right (by assumption)) | exact And.right (And.right (And.right (by assumption))) | exact And.right (And.right (And.right (And.right (by assumption)))) | exact And.right (And.right (And.right (And.right (And.right (by assumption))))) | exact And.right (And.right (And.right (And.right (And.right (And.right (by assumption)))))) | exact And.right (And.right (And.right (And.right (And.right (And.right (And.right (by assumption))))))) | exact And.right (And.right (And.right (And.right (And.right (And.right (And.right (And.right (by assumption)))))))) | exact And.right (And.right (And.right (And.right (And.right (And.right (And.right (And.right (And.right (by assumption)))))))))))); done) | (simp only [go_sem, decide_true, decide_false, Nat.lt_irrefl, h6, h7, hkk, List.take_zero, List.map_nil]; done) | (simp only [go_sem, decide_true, decide_false, Nat.lt_irrefl, h6, h7, hkk, List.take_zero, List.map_nil]; rfl) | rfl)
  · clear hV h6 h7 hkk
    intro i loc hi ih
    have hlen := hl _ (List.getElem_mem hi)
    refine AWPH.step (xc_ok (bitB 73787046665731968975) _ _ _ ?_)
    simp only [go_sem, decide_true, decide_false, Nat.lt_irrefl, hi, ltN' hi, n73, v3, List.length_map]
    refine AWP.tip0 10 2 (by simp only [go_sem, decide_true, decide_false, Nat.lt_irrefl]) fun k2 hk2 => ?_
    simp only [freshv_setr, freshv_set] at hk2
    have htl : (ls.take i).length = i := by rw [List.length_take]; omega
    have htl1 : (ls.take (i + 1)).length = i + 1 := by rw [List.length_take]; omega
    have hrow : List.map lvE (List.map (stayF o) (ls.take i)) ++ [[.sl ((stayF o ls[i]).map Span.pv)]] = List.map lvE (List.map (stayF o) (ls.take (i + 1))) := by
      rw [List.take_succ_eq_append_getElem hi, List.map_append, List.map_append]; rfl
    have hsn := docD_snoc o ls i hi
    have hq : wi ((i : Int) + 1) = ((i + 1 : Nat) : Int) := wi_succ (show i < 4611686018427387904 by omega)
    refine AWP.iterE (ι := Option Nat) (fun loc2 j => ⟨Env.get [(1, u64 f), (2, u64 w), (3, .sp c3 0), (6, .sp c6 0), (7, .sp c7 0), (8, i64 (manyF 0 0 ((ls.take i).map (stayF o)))), (9, i64 i), (10, .ts k2 2 loc2 ((stayF o ((ls[i]).take j)).map Span.pv)), (11, i64 j)],
      ((V.set (.v kk) (.tip 1 i loc)).set (.r c7) (.cells [i64 k, i64 g, .ts kk 1 loc (((ls.take i).map (stayF o)).map lvE)])).set (.v k2) (.tip 2 (stayF o ((ls[i]).take j)).length loc2), 75, []⟩) (ls[i]).length none ?_ ?_ ?_
    · have h00 : stayF o [] = [] := rfl
      refine le_of (by simp only [go_sem, decide_true, decide_false, Nat.lt_irrefl, List.take_zero, List.map_nil, h00] <;> rfl) ?_ rfl rfl (by simp)
      ((try dsimp only); (repeat refine sub_set ?_ ?_) <;> first | ((repeat (first | exact Sub.refl _ | refine Sub.setF ?_ (by first | assumption | exact And.right (by assumption) | exact And.right (And.right (by assumption)) | exact And.right (And.right (And.right (by assumption))) | exact And.right (And.right (And.right (And.right (by assumption)))) | exact And.right (And.right (And.right (And.right (And.right (by assumption))))) | exact And.right (And.right (And.right (And.right (And.right (And.right (by assumption)))))) | exact And.right (And.right (And.right (And.right (And.right (And.right (And.right (by assumption))))))) | exact And.right (And.right (And.right (And.right (And.right (And.right (And.right (And.right (by assumption)))))))) | exact And.right (And.right (And.right (And.right (And.right (And.right (And.right (And.right (And.right (by assumption)))))))))) | refine Sub.setV ?_ (by first | assumption | exact And.right (by assumption) | exact And.right (And.right (by assumption)) | exact And.right (And.right (And.right (by assumption))) | exact And.right (And.right (And.right (And.right (by assumption)))) | exact And.right (And.right (And.right (And.right (And.right (by assumption))))) | exact And.right (And.right (And.right (And.right (And.right (And.right (by assumption)))))) | exact And.right (And.right (And.right (And.right (And.right (And.right (And.right (by assumption))))))) | exact And.right (And.right (And.right (And.right (And.right (And.right (And.right (And.right (by assumption)))))))) | exact And.right (And.right (And.right (And.right (And.right (And.right (And.right (And.right (And.right (by assumption)))))))))))); done) | (simp only [go_sem, decide_true, decide_false, Nat.lt_irrefl, hk2, List.take_zero, h00, List.length_nil]; done) | (simp only [go_sem, decide_true, decide_false, Nat.lt_irrefl, hk2, List.take_zero, h00, List.length_nil]; rfl) | rfl)
    · intro j loc2 hj jh
      have hqj : wi ((j : Int) + 1) = ((j + 1 : Nat) : Int) := wi_succ (show j < 4611686018427387904 by omega)
      have hsj := stayF_snoc o ls[i] j hj
      have hsl := stayF_len o ((ls[i]).take j)
      rw [List.length_take] at hsl
      refine AWPH.step (xc_ok (bitB 73787046665731968975) _ _ _ ?_)
      simp only [go_sem, decide_true, decide_false, Nat.lt_irrefl, hi, ltN' hi, n73, v3, List.length_map, getD_map' _ _ _ _ hi, lvE_mk, hj, ltN' hj, getD_map' _ _ _ _ hj]
      refine (ref07_Old (ls[i][j]).b f w).useA ?_
      rw [ho]
      cases hc : o (ls[i][j]).b
      · rw [hc, if_neg (by decide)] at hsj
        have hmj : (stayF o ((ls[i]).take j)).map Span.pv ++ [[.int .u64 (ls[i][j]).a, .int .u64 (ls[i][j]).b]] = (stayF o ((ls[i]).take (j + 1))).map Span.pv := by rw [hsj, List.map_append]; rfl
        have hlj : (stayF o ((ls[i]).take (j + 1))).length = (stayF o ((ls[i]).take j)).length + 1 := by rw [hsj]; simp
        simp only [go_sem, decide_true, decide_false, Nat.lt_irrefl, hk2, hi, ltN' hi, n73, v3, List.length_map, getD_map' _ _ _ _ hi, lvE_mk, hj, ltN' hj, getD_map' _ _ _ _ hj]
        refine ⟨by rintro el rfl; rfl, span_len, by omega, by omega, grow_intro fun loc' => ?_⟩
        simp only [go_sem, decide_true, decide_false, Nat.lt_irrefl, hk2, hmj]
        refine (jh loc').back ?_ (by simp) ?_
        · ((try dsimp only); (repeat refine sub_set ?_ ?_) <;> first | ((repeat (first | exact Sub.refl _ | refine Sub.setF ?_ (by first | assumption | exact And.right (by assumption) | exact And.right (And.right (by assumption)) | exact And.right (And.right (And.right (by assumption))) | exact And.right (And.right (And.right (And.right (by assumption)))) | exact And.right (And.right (And.right (And.right (And.right (by assumption))))) | exact And.right (And.right (And.right (And.right (And.right (And.right (by assumption)))))) | exact And.right (And.right (And.right (And.right (And.right (And.right (And.right (by assumption))))))) | exact And.right (And.right (And.right (And.right (And.right (And.right (And.right (And.right (by assumption)))))))) | exact And.right (And.right (And.right (And.right (And.right (And.right (And.right (And.right (And.right (by assumption)))))))))) | refine Sub.setV ?_ (by first | assumption | exact And.right (by assumption) | exact And.right (And.right (by assumption)) | exact And.right (And.right (And.right (by assumption))) | exact And.right (And.right (And.right (And.right (by assumption)))) | exact And.right (And.right (And.right (And.right (And.right (by assumption))))) | exact And.right (And.right (And.right (And.right (And.right (And.right (by assumption)))))) | exact And.right (And.right (And.right (And.right (And.right (And.right (And.right (by assumption))))))) | exact And.right (And.right (And.right (And.right (And.right (And.right (And.right (And.right (by assumption)))))))) | exact And.right (And.right (And.right (And.right (And.right (And.right (And.right (And.right (And.right (by assumption)))))))))))); done) | (simp only [go_sem, decide_true, decide_false, Nat.lt_irrefl, hk2, hmj, hlj, List.length_map]; done) | (simp only [go_sem, decide_true, decide_false, Nat.lt_irrefl, hk2, hmj, hlj, List.length_map]; rfl) | rfl)
        · simp only [go_sem, decide_true, decide_false, Nat.lt_irrefl, hqj]
      · rw [hc, if_pos rfl] at hsj
        simp only [go_sem, decide_true, decide_false, Nat.lt_irrefl]
        refine (jh loc2).back ?_ (by simp) ?_
        · ((try dsimp only); (repeat refine sub_set ?_ ?_) <;> first | ((repeat (first | exact Sub.refl _ | refine Sub.setF ?_ (by first | assumption | exact And.right (by assumption) | exact And.right (And.right (by assumption)) | exact And.right (And.right (And.right (by assumption))) | exact And.right (And.right (And.right (And.right (by assumption)))) | exact And.right (And.right (And.right (And.right (And.right (by assumption))))) | exact And.right (And.right (And.right (And.right (And.right (And.right (by assumption)))))) | exact And.right (And.right (And.right (And.right (And.right (And.right (And.right (by assumption))))))) | exact And.right (And.right (And.right (And.right (And.right (And.right (And.right (And.right (by assumption)))))))) | exact And.right (And.right (And.right (And.right (And.right (And.right (And.right (And.right (And.right (by assumption)))))))))) | refine Sub.setV ?_ (by first | assumption | exact And.right (by assumption) | exact And.right (And.right (by assumption)) | exact And.right (And.right (And.right (by assumption))) | exact And.right (And.right (And.right (And.right (by assumption)))) | exact And.right (And.right (And.right (And.right (And.right (by assumption))))) | exact And.right (And.right (And.right (And.right (And.right (And.right (by assumption)))))) | exact And.right (And.right (And.right (And.right (And.right (And.right (And.right (by assumption))))))) | exact And.right (And.right (And.right (And.right (And.right (And.right (And.right (And.right (by assumption)))))))) | exact And.right (And.right (And.right (And.right (And.right (And.right (And.right (And.right (And.right (by assumption)))))))))))); done) | (simp only [go_sem, decide_true, decide_false, Nat.lt_irrefl, hk2, hsj]; done) | (simp only [go_sem, decide_true, decide_false, Nat.lt_irrefl, hk2, hsj]; rfl) | rfl)
        · simp only [go_sem, decide_true, decide_false, Nat.lt_irrefl, hqj, hsj]
    · intro loc2
      refine AWPH.step (xc_ok (bitB 73787046665731968975) _ _ _ ?_)
      simp only [go_sem, decide_true, decide_false, Nat.lt_irrefl, hi, ltN' hi, n73, v3, vk, hk2, List.length_map, getD_map' _ _ _ _ hi, lvE_mk, List.take_length, htl, hrow]
      refine ⟨by rintro el rfl; rfl, lvE_len, by omega, by omega, grow_intro fun loc' => ?_⟩
      simp only [go_sem, decide_true, decide_false, Nat.lt_irrefl, n73, vk, hk2, hrow]
      by_cases he : stayF o ls[i] = []
      · rw [if_pos he] at hsn
        have hd0 : decide (0 < (stayF o ls[i]).length) = false := by rw [he]; rfl
        simp only [go_sem, decide_true, decide_false, Nat.lt_irrefl, hd0]
        refine (ih loc').back ?_ (by simp) ?_
        · ((try dsimp only); (repeat refine sub_set ?_ ?_) <;> first | ((repeat (first | exact Sub.refl _ | refine Sub.setF ?_ (by first | assumption | exact And.right (by assumption) | exact And.right (And.right (by assumption)) | exact And.right (And.right (And.right (by assumption))) | exact And.right (And.right (And.right (And.right (by assumption)))) | exact And.right (And.right (And.right (And.right (And.right (by assumption))))) | exact And.right (And.right (And.right (And.right (And.right (And.right (by assumption)))))) | exact And.right (And.right (And.right (And.right (And.right (And.right (And.right (by assumption))))))) | exact And.right (And.right (And.right (And.right (And.right (And.right (And.right (And.right (by assumption)))))))) | exact And.right (And.right (And.right (And.right (And.right (And.right (And.right (And.right (And.right (by assumption)))))))))) | refine Sub.setV ?_ (by first | assumption | exact And.right (by assumption) | exact And.right (And.right (by assumption)) | exact And.right (And.right (And.right (by assumption))) | exact And.right (And.right (And.right (And.right (by assumption)))) | exact And.right (And.right (And.right (And.right (And.right (by assumption))))) | exact And.right (And.right (And.right (And.right (And.right (And.right (by assumption)))))) | exact And.right (And.right (And.right (And.right (And.right (And.right (And.right (by assumption))))))) | exact And.right (And.right (And.right (And.right (And.right (And.right (And.right (And.right (by assumption)))))))) | exact And.right (And.right (And.right (And.right (And.right (And.right (And.right (And.right (And.right (by assumption)))))))))))); done) | (simp only [go_sem, decide_true, decide_false, Nat.lt_irrefl, n73, hk2, vk, htl1, hrow, List.length_map]; done) | (simp only [go_sem, decide_true, decide_false, Nat.lt_irrefl, n73, hk2, vk, htl1, hrow, List.length_map]; rfl) | rfl)
        · simp only [go_sem, decide_true, decide_false, Nat.lt_irrefl, hq, hsn]
      · rw [if_neg he] at hsn
        have hd0 : decide (0 < (stayF o ls[i]).length) = true := decide_eq_true (List.length_pos_iff.2 he)
        simp only [go_sem, decide_true, decide_false, Nat.lt_irrefl, hd0]
        refine (ih loc').back ?_ (by simp) ?_
        · ((try dsimp only); (repeat refine sub_set ?_ ?_) <;> first | ((repeat (first | exact Sub.refl _ | refine Sub.setF ?_ (by first | assumption | exact And.right (by assumption) | exact And.right (And.right (by assumption)) | exact And.right (And.right (And.right (by assumption))) | exact And.right (And.right (And.right (And.right (by assumption)))) | exact And.right (And.right (And.right (And.right (And.right (by assumption))))) | exact And.right (And.right (And.right (And.right (And.right (And.right (by assumption)))))) | exact And.right (And.right (And.right (And.right (And.right (And.right (And.right (by assumption))))))) | exact And.right (And.right (And.right (And.right (And.right (And.right (And.right (And.right (by assumption)))))))) | exact And.right (And.right (And.right (And.right (And.right (And.right (And.right (And.right (And.right (by assumption)))))))))) | refine Sub.setV ?_ (by first | assumption | exact And.right (by assumption) | exact And.right (And.right (by assumption)) | exact And.right (And.right (And.right (by assumption))) | exact And.right (And.right (And.right (And.right (by assumption)))) | exact And.right (And.right (And.right (And.right (And.right (by assumption))))) | exact And.right (And.right (And.right (And.right (And.right (And.right (by assumption)))))) | exact And.right (And.right (And.right (And.right (And.right (And.right (And.right (by assumption))))))) | exact And.right (And.right (And.right (And.right (And.right (And.right (And.right (And.right (by assumption)))))))) | exact And.right (And.right (And.right (And.right (And.right (And.right (And.right (And.right (And.right (by assumption)))))))))))); done) | (simp only [go_sem, decide_true, decide_false, Nat.lt_irrefl, n73, hk2, vk, htl1, hrow, List.length_map]; done) | (simp only [go_sem, decide_true, decide_false, Nat.lt_irrefl, n73, hk2, vk, htl1, hrow, List.length_map]; rfl) | rfl)
        · simp only [go_sem, decide_true, decide_false, Nat.lt_irrefl, hq, hsn]
  · intro loc
    refine AWPH.step (xc_ok (bitB 73787046665731968975) _ _ _ ?_)
    simp only [go_sem, decide_true, decide_false, Nat.lt_irrefl, n73, v3, n76, v6, List.take_length, List.length_map]
    refine ⟨lvE_len, by have := manyF_le (List.map (stayF o) ls) 0 0 (Nat.le_refl _); simpa using this, S, Sub.set (Sub.set (Sub.set vS yk _) y7 _) y6 _, ?_⟩
    simp [docD, List.map_take]
end Go.Sk
end

-- W14a
section
namespace Go.Sk
open Go Go.Proofs

def Skt.pv (s : Skt) : List PV := [.int .u64 s.win, .int .u64 s.b.late, .int .i64 s.b.room, .int .u64 s.b.mark, .int .u64 s.b.front, .sl (s.b.evs.map Event.pv), .int .i64 s.past.k, .int .i64 s.past.g, .sl (s.past.ls.map lvE)]
def Skt.av (s : Skt) : AV := .agg (s.pv.map .p)
attribute [go_sem] Skt.pv Skt.av
def Hist.Lo (h : Hist) : Prop := h.ls.length < 1048576 ∧ ∀ l ∈ h.ls, l.length < 1048576

theorem count_drop {T : Store} {c : Nat} (s : Skt) (hl : s.past.Lo) (hc : T (.r c) = some (.cells (s.pv.map .p))) :
    DefR Try.prog 56 [.sp c 0] T (fun T' => T' = T.set (.r c) (.cells ((Skt.mk s.win s.b (dropH (dropG (oldV s.b.front s.win)) s.past)).pv.map .p))) := by
  refine defR_of Try.func56 rfl (xc_ok (bitB 1) _ _ _ ?_)
  have hex := exp_Drop s.past.k s.past.g s.past.ls s.b.front s.win hl.1 hl.2
  simp only [Skt.pv, List.map_cons, List.map_nil] at hc
  simp only [go_sem, decide_true, decide_false, Nat.lt_irrefl]
  refine AWP.draw2 (bitB 1) mixed (by kernel_rfl) (fun j => (dropH (dropG (oldV s.b.front s.win)) s.past).av) ?_
  simp only [go_sem, decide_true, decide_false, Nat.lt_irrefl, hc]
  exact ⟨hex.draw, _, Sub.refl _, Or.inl rfl⟩
theorem Hist.Good.lo {h : Hist} (g : h.Good) : h.Lo := ⟨by have := g.len; omega, fun l hl => by have := g.sm l hl; have := g.k1; omega⟩
theorem passV_snoc (h : Hist) (out : List Event) (i : Nat) (hi : i < out.length) : passV h (out.take (i + 1)) = (addH (passV h (out.take i)) (out[i]).t (out[i]).w).1 := by
  unfold passV; rw [List.take_succ_eq_append_getElem hi, List.foldl_append]; rfl
set_option maxHeartbeats 1000000 in
set_option maxRecDepth 4000 in
theorem count_pass (s : Skt) (b : Buf) (out : List Event) (ho : out.length < 1048576) (hw : ∀ e ∈ out, e.w < 18446744073709551616) (hok : ∀ i, i ≤ out.length → (passV s.past (out.take i)).Good) :
    Pure Try.prog 33 [s.av, b.av, .p (evsP out)] (passK s b out).av := fun S => by
  refine callR_ofD Try.func33 rfl rfl ?_
  refine AWPD.seqN (xc_ok (bitB 491871) _ _ _ ?_)
  simp only [go_sem, decide_true, decide_false, Nat.lt_irrefl]
  refine alloc_intro fun c3 h3 => ?_
  simp only [go_sem, decide_true, decide_false, Nat.lt_irrefl]
  refine alloc_intro fun c4 h4 => ?_
  simp only [fresh_set] at h4
  simp only [go_sem, decide_true, decide_false, Nat.lt_irrefl, h4]
  refine alloc_intro fun c6 h6 => ?_
  simp only [fresh_set] at h6
  simp only [go_sem, decide_true, decide_false, Nat.lt_irrefl, h4, h6]
  refine AWPD.seqN (xc_ok (bitB 491871) _ _ _ ?_)
  simp only [go_sem, decide_true, decide_false, Nat.lt_irrefl, h4, h6]
  refine AWPD.seqR (AWPD.region rfl rfl rfl (enterable_of Try.func56 rfl rfl) rfl ⟨rfl, ?_⟩)
  refine xc_ok (bitB 491871) _ _ _ ?_
  simp only [go_sem, decide_true, decide_false, Nat.lt_irrefl, h4, h6, evsP, List.length_map]
  have y3 : S (.r c3) = none := h3
  have y4 : S (.r c4) = none := h4.2
  have y6 : S (.r c6) = none := h6.2.2
  refine AWP.iter (fun i => ⟨Env.get [(6, .sp c6 0), (15, .p (.sl (out.map Event.pv))), (16, i64 out.length), (17, i64 i)], S.set (.r c6) (.cells ((Skt.mk s.win b (passV s.past (out.take i))).pv.map .p)), 34, []⟩) out.length ?_ ?_ ?_
  · refine le_of (by simp only [go_sem, decide_true, decide_false, Nat.lt_irrefl] <;> simp) ?_ rfl rfl (by simp)
    simp only [Skt.pv, List.map_cons, List.map_nil]
    ((try dsimp only); (repeat refine sub_set ?_ ?_) <;> first | ((repeat (first | exact Sub.refl _ | refine Sub.setF ?_ (by first | assumption | exact And.right (by assumption) | exact And.right (And.right (by assumption)) | exact And.right (And.right (And.right (by assumption))) | exact And.right (And.right (And.right (And.right (by assumption)))) | exact And.right (And.right (And.right (And.right (And.right (by assumption))))) | exact And.right (And.right (And.right (And.right (And.right (And.right (by assumption)))))) | exact And.right (And.right (And.right (And.right (And.right (And.right (And.right (by assumption))))))) | exact And.right (And.right (And.right (And.right (And.right (And.right (And.right (And.right (by assumption)))))))) | exact And.right (And.right (And.right (And.right (And.right (And.right (And.right (And.right (And.right (by assumption)))))))))) | refine Sub.setV ?_ (by first | assumption | exact And.right (by assumption) | exact And.right (And.right (by assumption)) | exact And.right (And.right (And.right (by assumption))) | exact And.right (And.right (And.right (And.right (by assumption)))) | exact And.right (And.right (And.right (And.right (And.right (by assumption))))) | exact And.right (And.right (And.right (And.right (And.right (And.right (by assumption)))))) | exact And.right (And.right (And.right (And.right (And.right (And.right (And.right (by assumption))))))) | exact And.right (And.right (And.right (And.right (And.right (And.right (And.right (And.right (by assumption)))))))) | exact And.right (And.right (And.right (And.right (And.right (And.right (And.right (And.right (And.right (by assumption)))))))))))); done) | (simp only [go_sem, decide_true, decide_false, Nat.lt_irrefl, h4, h6, List.take_zero]; done) | (simp only [go_sem, decide_true, decide_false, Nat.lt_irrefl, h4, h6, List.take_zero]; rfl) | rfl)
    done
  · intro i hi ih
    refine AWPH.step (xc_ok (bitB 491871) _ _ _ ?_)
    simp only [go_sem, decide_true, decide_false, Nat.lt_irrefl, hi, ltN' hi, getD_map' _ _ _ _ hi]
    refine alloc_intro fun c8 h8 => ?_
    simp only [fresh_set] at h8
    simp only [go_sem, decide_true, decide_false, Nat.lt_irrefl, h8]
    refine (hist_addH (passV s.past (out.take i)) (hok i (by omega)).ok (out[i]).t (out[i]).w (hw _ (List.getElem_mem hi))).useA ?_
    have hs := passV_snoc s.past out i hi
    rw [← hs]
    simp only [go_sem, decide_true, decide_false, Nat.lt_irrefl, h8]
    refine ih.back ?_ (by simp) ?_
    · simp only [Skt.pv, List.map_cons, List.map_nil]
      ((try dsimp only); (repeat refine sub_set ?_ ?_) <;> first | ((repeat (first | exact Sub.refl _ | refine Sub.setF ?_ (by first | assumption | exact And.right (by assumption) | exact And.right (And.right (by assumption)) | exact And.right (And.right (And.right (by assumption))) | exact And.right (And.right (And.right (And.right (by assumption)))) | exact And.right (And.right (And.right (And.right (And.right (by assumption))))) | exact And.right (And.right (And.right (And.right (And.right (And.right (by assumption)))))) | exact And.right (And.right (And.right (And.right (And.right (And.right (And.right (by assumption))))))) | exact And.right (And.right (And.right (And.right (And.right (And.right (And.right (And.right (by assumption)))))))) | exact And.right (And.right (And.right (And.right (And.right (And.right (And.right (And.right (And.right (by assumption)))))))))) | refine Sub.setV ?_ (by first | assumption | exact And.right (by assumption) | exact And.right (And.right (by assumption)) | exact And.right (And.right (And.right (by assumption))) | exact And.right (And.right (And.right (And.right (by assumption)))) | exact And.right (And.right (And.right (And.right (And.right (by assumption))))) | exact And.right (And.right (And.right (And.right (And.right (And.right (by assumption)))))) | exact And.right (And.right (And.right (And.right (And.right (And.right (And.right (by assumption))))))) | exact And.right (And.right (And.right (And.right (And.right (And.right (And.right (And.right (by assumption)))))))) | exact And.right (And.right (And.right (And.right (And.right (And.right (And.right (And.right (And.right (by assumption)))))))))))); done) | (simp only [go_sem, decide_true, decide_false, Nat.lt_irrefl, h8]; done) | (simp only [go_sem, decide_true, decide_false, Nat.lt_irrefl, h8]; rfl) | rfl)
      done
    · simp only [go_sem, decide_true, decide_false, Nat.lt_irrefl, wi_succ (show i < 4611686018427387904 by omega)]
  · refine AWPH.step (xc_ok (bitB 491871) _ _ _ ?_)
    simp only [go_sem, decide_true, decide_false, Nat.lt_irrefl, List.take_length]
    have hfin := hok out.length (Nat.le_refl _)
    rw [List.take_length] at hfin
    refine (count_drop ⟨s.win, b, passV s.past out⟩ hfin.lo (by rw [Store.set_same]; rfl)).mono ?_
    rintro _ rfl
    simp only [go_sem, decide_true, decide_false, Nat.lt_irrefl, List.map_cons, List.map_nil]
    refine ⟨S, ?_, ?_⟩
    · repeat' first
        | exact Sub.refl _
        | refine Sub.set ?_ (by assumption) _
    · simp [passK]
end Go.Sk
end

-- W13
section
namespace Go.Sk
open Go Go.Proofs

theorem scan_within1 {S : Store} {b1 b2 : Nat} (tick span : Nat) (e : Event) (h1 : S (.r b1) = some (.cells [u64 tick])) (h2 : S (.r b2) = some (.cells [u64 span])) :
    CallR Try.prog 66 [e.av, .sp b1 0, .sp b2 0] S (fun r S' => r = bl (withinV tick span e) ∧ S' = S) := by
  refine callR_of Try.func66 rfl rfl (xc_ok (bitB 31) _ _ _ ?_)
  simp only [go_sem]
  refine alloc_intro fun b hb => ?_
  have n1 := hb.ne h1; have n2 := hb.ne h2
  simp only [go_sem, h1, h2, n1, n2]
  (first | refine dec_split (fun hc => ?_) (fun hc => ?_) | refine gdd_split (fun hc => ?_) (fun hc => ?_) | refine bool_split (fun hc => ?_) (fun hc => ?_) | refine gd_split (fun hc => ?_) (fun hc => ?_)) <;> simp only [go_sem, h1, h2, n1, n2]
  · (first | refine dec_split (fun hd => ?_) (fun hd => ?_) | refine gdd_split (fun hd => ?_) (fun hd => ?_) | refine bool_split (fun hd => ?_) (fun hd => ?_) | refine gd_split (fun hd => ?_) (fun hd => ?_)) <;> simp only [go_sem, h1, h2, n1, n2]
    · (refine ⟨S, by (repeat (first | exact Sub.refl _ | refine Sub.setF ?_ (by first | assumption | exact And.right (by assumption) | exact And.right (And.right (by assumption)) | exact And.right (And.right (And.right (by assumption))) | exact And.right (And.right (And.right (And.right (by assumption)))) | exact And.right (And.right (And.right (And.right (And.right (by assumption))))) | exact And.right (And.right (And.right (And.right (And.right (And.right (by assumption)))))) | exact And.right (And.right (And.right (And.right (And.right (And.right (And.right (by assumption))))))) | exact And.right (And.right (And.right (And.right (And.right (And.right (And.right (And.right (by assumption)))))))) | exact And.right (And.right (And.right (And.right (And.right (And.right (And.right (And.right (And.right (by assumption)))))))))) | refine Sub.setV ?_ (by first | assumption | exact And.right (by assumption) | exact And.right (And.right (by assumption)) | exact And.right (And.right (And.right (by assumption))) | exact And.right (And.right (And.right (And.right (by assumption)))) | exact And.right (And.right (And.right (And.right (And.right (by assumption))))) | exact And.right (And.right (And.right (And.right (And.right (And.right (by assumption)))))) | exact And.right (And.right (And.right (And.right (And.right (And.right (And.right (by assumption))))))) | exact And.right (And.right (And.right (And.right (And.right (And.right (And.right (And.right (by assumption)))))))) | exact And.right (And.right (And.right (And.right (And.right (And.right (And.right (And.right (And.right (by assumption)))))))))))), ?_⟩); simp [withinV, hc, hd]
    · (refine ⟨S, by (repeat (first | exact Sub.refl _ | refine Sub.setF ?_ (by first | assumption | exact And.right (by assumption) | exact And.right (And.right (by assumption)) | exact And.right (And.right (And.right (by assumption))) | exact And.right (And.right (And.right (And.right (by assumption)))) | exact And.right (And.right (And.right (And.right (And.right (by assumption))))) | exact And.right (And.right (And.right (And.right (And.right (And.right (by assumption)))))) | exact And.right (And.right (And.right (And.right (And.right (And.right (And.right (by assumption))))))) | exact And.right (And.right (And.right (And.right (And.right (And.right (And.right (And.right (by assumption)))))))) | exact And.right (And.right (And.right (And.right (And.right (And.right (And.right (And.right (And.right (by assumption)))))))))) | refine Sub.setV ?_ (by first | assumption | exact And.right (by assumption) | exact And.right (And.right (by assumption)) | exact And.right (And.right (And.right (by assumption))) | exact And.right (And.right (And.right (And.right (by assumption)))) | exact And.right (And.right (And.right (And.right (And.right (by assumption))))) | exact And.right (And.right (And.right (And.right (And.right (And.right (by assumption)))))) | exact And.right (And.right (And.right (And.right (And.right (And.right (And.right (by assumption))))))) | exact And.right (And.right (And.right (And.right (And.right (And.right (And.right (And.right (by assumption)))))))) | exact And.right (And.right (And.right (And.right (And.right (And.right (And.right (And.right (And.right (by assumption)))))))))))), ?_⟩); simp [withinV, hc, hd]
  · (refine ⟨S, by (repeat (first | exact Sub.refl _ | refine Sub.setF ?_ (by first | assumption | exact And.right (by assumption) | exact And.right (And.right (by assumption)) | exact And.right (And.right (And.right (by assumption))) | exact And.right (And.right (And.right (And.right (by assumption)))) | exact And.right (And.right (And.right (And.right (And.right (by assumption))))) | exact And.right (And.right (And.right (And.right (And.right (And.right (by assumption)))))) | exact And.right (And.right (And.right (And.right (And.right (And.right (And.right (by assumption))))))) | exact And.right (And.right (And.right (And.right (And.right (And.right (And.right (And.right (by assumption)))))))) | exact And.right (And.right (And.right (And.right (And.right (And.right (And.right (And.right (And.right (by assumption)))))))))) | refine Sub.setV ?_ (by first | assumption | exact And.right (by assumption) | exact And.right (And.right (by assumption)) | exact And.right (And.right (And.right (by assumption))) | exact And.right (And.right (And.right (And.right (by assumption)))) | exact And.right (And.right (And.right (And.right (And.right (by assumption))))) | exact And.right (And.right (And.right (And.right (And.right (And.right (by assumption)))))) | exact And.right (And.right (And.right (And.right (And.right (And.right (And.right (by assumption))))))) | exact And.right (And.right (And.right (And.right (And.right (And.right (And.right (And.right (by assumption)))))))) | exact And.right (And.right (And.right (And.right (And.right (And.right (And.right (And.right (And.right (by assumption)))))))))))), ?_⟩); simp [withinV, hc]

theorem scan_weight (e : Event) : Pure Try.prog 45 [e.av] (u64 e.w) := fun S => by
  refine callR_of Try.func45 rfl rfl (xc_ok (bitB 7) _ _ _ ?_)
  simp only [go_sem]
  refine alloc_intro fun b hb => ?_
  simp only [go_sem]
  (refine ⟨S, by (repeat (first | exact Sub.refl _ | refine Sub.setF ?_ (by first | assumption | exact And.right (by assumption) | exact And.right (And.right (by assumption)) | exact And.right (And.right (And.right (by assumption))) | exact And.right (And.right (And.right (And.right (by assumption)))) | exact And.right (And.right (And.right (And.right (And.right (by assumption))))) | exact And.right (And.right (And.right (And.right (And.right (And.right (by assumption)))))) | exact And.right (And.right (And.right (And.right (And.right (And.right (And.right (by assumption))))))) | exact And.right (And.right (And.right (And.right (And.right (And.right (And.right (And.right (by assumption)))))))) | exact And.right (And.right (And.right (And.right (And.right (And.right (And.right (And.right (And.right (by assumption)))))))))) | refine Sub.setV ?_ (by first | assumption | exact And.right (by assumption) | exact And.right (And.right (by assumption)) | exact And.right (And.right (And.right (by assumption))) | exact And.right (And.right (And.right (And.right (by assumption)))) | exact And.right (And.right (And.right (And.right (And.right (by assumption))))) | exact And.right (And.right (And.right (And.right (And.right (And.right (by assumption)))))) | exact And.right (And.right (And.right (And.right (And.right (And.right (And.right (by assumption))))))) | exact And.right (And.right (And.right (And.right (And.right (And.right (And.right (And.right (by assumption)))))))) | exact And.right (And.right (And.right (And.right (And.right (And.right (And.right (And.right (And.right (by assumption)))))))))))), ?_⟩); simp

theorem scan_within (t s : Nat) (S : Store) : CallR Try.prog 44 [u64 t, u64 s] S (fun r S' => ∃ b1 b2, Fresh S b1 ∧ Fresh S b2 ∧ (¬ b1 = b2 ∧ ¬ b2 = b1) ∧ r = .fn (.func 66) [] [.sp b1 0, .sp b2 0] ∧ S' = (S.set (.r b1) (.cells [u64 t])).set (.r b2) (.cells [u64 s])) := by
  refine callR_of Try.func44 rfl rfl (xc_ok (bitB 31) _ _ _ ?_)
  simp only [go_sem]
  refine alloc_intro fun b hb => ?_
  simp only [go_sem]
  refine alloc_intro fun b' hb' => ?_
  simp only [fresh_set] at hb'
  simp only [go_sem, hb']
  exact ⟨_, Sub.refl _, Or.inl ⟨b, b', hb, hb'.2, ⟨hb'.1.2, hb'.1.1⟩, rfl, rfl⟩⟩

theorem scan_sum {S : Store} (l : List Event) (f g : AV) (p : Event → Bool) (q : Event → Nat) (hl : l.length < 4611686018427387904) (hf : ∀ e ∈ l, PureF Try.prog S f [e.av] (bl (p e))) (hg : ∀ e ∈ l, PureF Try.prog S g [e.av] (u64 (q e))) :
    CallR Try.prog 43 [.p (evsP l), f, g] S (fun r S' => r = u64 (sumV p q 0 l) ∧ S' = S) := by
  refine callR_of Try.func43 rfl rfl (xc_ok (bitB 278215) _ _ _ ?_)
  simp only [go_sem, evsP]
  refine AWP.iter (fun i => ⟨Env.get [(1, f), (2, g), (7, u64 (sumV p q 0 (l.take i))), (10, .p (.sl (l.map Event.pv))), (11, i64 l.length), (12, i64 i)], S, 26, []⟩) l.length ?_ ?_ ?_
  · exact le_of (by simp only [go_sem]; simp [sumV]) (Sub.refl _) rfl rfl (by simp)
  · intro i hi ih
    have hm := List.getElem_mem hi
    refine AWPH.step (xc_ok (bitB 278215) _ _ _ ?_)
    simp only [go_sem, decide_true, decide_false, Nat.lt_irrefl, hi, ltN' hi, getD_map' _ _ _ _ hi]
    refine alloc_intro fun b hb => ?_
    simp only [go_sem]
    have hm0 := hf _ hm
    cases hp : p l[i]
    · refine hm0.useA rfl (by (repeat (first | exact KeepAll.refl _ | refine KeepAll.setF ?_ (by first | assumption | exact And.right (by assumption) | exact And.right (And.right (by assumption)) | exact And.right (And.right (And.right (by assumption))) | exact And.right (And.right (And.right (And.right (by assumption)))) | exact And.right (And.right (And.right (And.right (And.right (by assumption))))) | exact And.right (And.right (And.right (And.right (And.right (And.right (by assumption)))))) | exact And.right (And.right (And.right (And.right (And.right (And.right (And.right (by assumption))))))) | exact And.right (And.right (And.right (And.right (And.right (And.right (And.right (And.right (by assumption)))))))) | exact And.right (And.right (And.right (And.right (And.right (And.right (And.right (And.right (And.right (by assumption)))))))))) | refine KeepAll.setV ?_ (by first | assumption | exact And.right (by assumption) | exact And.right (And.right (by assumption)) | exact And.right (And.right (And.right (by assumption))) | exact And.right (And.right (And.right (And.right (by assumption)))) | exact And.right (And.right (And.right (And.right (And.right (by assumption))))) | exact And.right (And.right (And.right (And.right (And.right (And.right (by assumption)))))) | exact And.right (And.right (And.right (And.right (And.right (And.right (And.right (by assumption))))))) | exact And.right (And.right (And.right (And.right (And.right (And.right (And.right (And.right (by assumption)))))))) | exact And.right (And.right (And.right (And.right (And.right (And.right (And.right (And.right (And.right (by assumption))))))))))))) ?_
      simp only [go_sem, decide_true, decide_false, Nat.lt_irrefl, hp]
      refine ih.back (by (repeat (first | exact Sub.refl _ | refine Sub.setF ?_ (by first | assumption | exact And.right (by assumption) | exact And.right (And.right (by assumption)) | exact And.right (And.right (And.right (by assumption))) | exact And.right (And.right (And.right (And.right (by assumption)))) | exact And.right (And.right (And.right (And.right (And.right (by assumption))))) | exact And.right (And.right (And.right (And.right (And.right (And.right (by assumption)))))) | exact And.right (And.right (And.right (And.right (And.right (And.right (And.right (by assumption))))))) | exact And.right (And.right (And.right (And.right (And.right (And.right (And.right (And.right (by assumption)))))))) | exact And.right (And.right (And.right (And.right (And.right (And.right (And.right (And.right (And.right (by assumption)))))))))) | refine Sub.setV ?_ (by first | assumption | exact And.right (by assumption) | exact And.right (And.right (by assumption)) | exact And.right (And.right (And.right (by assumption))) | exact And.right (And.right (And.right (And.right (by assumption)))) | exact And.right (And.right (And.right (And.right (And.right (by assumption))))) | exact And.right (And.right (And.right (And.right (And.right (And.right (by assumption)))))) | exact And.right (And.right (And.right (And.right (And.right (And.right (And.right (by assumption))))))) | exact And.right (And.right (And.right (And.right (And.right (And.right (And.right (And.right (by assumption)))))))) | exact And.right (And.right (And.right (And.right (And.right (And.right (And.right (And.right (And.right (by assumption))))))))))))) (by simp) ?_
      simp only [go_sem, decide_true, decide_false, Nat.lt_irrefl, sumV_snoc p q 0 l i hi, hp, wi_succ (show i < 4611686018427387904 by omega)]
    · refine hm0.useA rfl (by (repeat (first | exact KeepAll.refl _ | refine KeepAll.setF ?_ (by first | assumption | exact And.right (by assumption) | exact And.right (And.right (by assumption)) | exact And.right (And.right (And.right (by assumption))) | exact And.right (And.right (And.right (And.right (by assumption)))) | exact And.right (And.right (And.right (And.right (And.right (by assumption))))) | exact And.right (And.right (And.right (And.right (And.right (And.right (by assumption)))))) | exact And.right (And.right (And.right (And.right (And.right (And.right (And.right (by assumption))))))) | exact And.right (And.right (And.right (And.right (And.right (And.right (And.right (And.right (by assumption)))))))) | exact And.right (And.right (And.right (And.right (And.right (And.right (And.right (And.right (And.right (by assumption)))))))))) | refine KeepAll.setV ?_ (by first | assumption | exact And.right (by assumption) | exact And.right (And.right (by assumption)) | exact And.right (And.right (And.right (by assumption))) | exact And.right (And.right (And.right (And.right (by assumption)))) | exact And.right (And.right (And.right (And.right (And.right (by assumption))))) | exact And.right (And.right (And.right (And.right (And.right (And.right (by assumption)))))) | exact And.right (And.right (And.right (And.right (And.right (And.right (And.right (by assumption))))))) | exact And.right (And.right (And.right (And.right (And.right (And.right (And.right (And.right (by assumption)))))))) | exact And.right (And.right (And.right (And.right (And.right (And.right (And.right (And.right (And.right (by assumption))))))))))))) ?_
      simp only [go_sem, decide_true, decide_false, Nat.lt_irrefl, hp]
      refine (hg _ hm).useA rfl (by (repeat (first | exact KeepAll.refl _ | refine KeepAll.setF ?_ (by first | assumption | exact And.right (by assumption) | exact And.right (And.right (by assumption)) | exact And.right (And.right (And.right (by assumption))) | exact And.right (And.right (And.right (And.right (by assumption)))) | exact And.right (And.right (And.right (And.right (And.right (by assumption))))) | exact And.right (And.right (And.right (And.right (And.right (And.right (by assumption)))))) | exact And.right (And.right (And.right (And.right (And.right (And.right (And.right (by assumption))))))) | exact And.right (And.right (And.right (And.right (And.right (And.right (And.right (And.right (by assumption)))))))) | exact And.right (And.right (And.right (And.right (And.right (And.right (And.right (And.right (And.right (by assumption)))))))))) | refine KeepAll.setV ?_ (by first | assumption | exact And.right (by assumption) | exact And.right (And.right (by assumption)) | exact And.right (And.right (And.right (by assumption))) | exact And.right (And.right (And.right (And.right (by assumption)))) | exact And.right (And.right (And.right (And.right (And.right (by assumption))))) | exact And.right (And.right (And.right (And.right (And.right (And.right (by assumption)))))) | exact And.right (And.right (And.right (And.right (And.right (And.right (And.right (by assumption))))))) | exact And.right (And.right (And.right (And.right (And.right (And.right (And.right (And.right (by assumption)))))))) | exact And.right (And.right (And.right (And.right (And.right (And.right (And.right (And.right (And.right (by assumption))))))))))))) ?_
      simp only [go_sem, decide_true, decide_false, Nat.lt_irrefl]
      refine ih.back (by (repeat (first | exact Sub.refl _ | refine Sub.setF ?_ (by first | assumption | exact And.right (by assumption) | exact And.right (And.right (by assumption)) | exact And.right (And.right (And.right (by assumption))) | exact And.right (And.right (And.right (And.right (by assumption)))) | exact And.right (And.right (And.right (And.right (And.right (by assumption))))) | exact And.right (And.right (And.right (And.right (And.right (And.right (by assumption)))))) | exact And.right (And.right (And.right (And.right (And.right (And.right (And.right (by assumption))))))) | exact And.right (And.right (And.right (And.right (And.right (And.right (And.right (And.right (by assumption)))))))) | exact And.right (And.right (And.right (And.right (And.right (And.right (And.right (And.right (And.right (by assumption)))))))))) | refine Sub.setV ?_ (by first | assumption | exact And.right (by assumption) | exact And.right (And.right (by assumption)) | exact And.right (And.right (And.right (by assumption))) | exact And.right (And.right (And.right (And.right (by assumption)))) | exact And.right (And.right (And.right (And.right (And.right (by assumption))))) | exact And.right (And.right (And.right (And.right (And.right (And.right (by assumption)))))) | exact And.right (And.right (And.right (And.right (And.right (And.right (And.right (by assumption))))))) | exact And.right (And.right (And.right (And.right (And.right (And.right (And.right (And.right (by assumption)))))))) | exact And.right (And.right (And.right (And.right (And.right (And.right (And.right (And.right (And.right (by assumption))))))))))))) (by simp) ?_
      simp only [go_sem, decide_true, decide_false, Nat.lt_irrefl, sumV_snoc p q 0 l i hi, hp, wi_succ (show i < 4611686018427387904 by omega)]
  · refine AWPH.step (xc_ok (bitB 278215) _ _ _ ?_)
    simp only [go_sem, decide_true, decide_false, Nat.lt_irrefl, List.take_length]
    (refine ⟨S, by (repeat (first | exact Sub.refl _ | refine Sub.setF ?_ (by first | assumption | exact And.right (by assumption) | exact And.right (And.right (by assumption)) | exact And.right (And.right (And.right (by assumption))) | exact And.right (And.right (And.right (And.right (by assumption)))) | exact And.right (And.right (And.right (And.right (And.right (by assumption))))) | exact And.right (And.right (And.right (And.right (And.right (And.right (by assumption)))))) | exact And.right (And.right (And.right (And.right (And.right (And.right (And.right (by assumption))))))) | exact And.right (And.right (And.right (And.right (And.right (And.right (And.right (And.right (by assumption)))))))) | exact And.right (And.right (And.right (And.right (And.right (And.right (And.right (And.right (And.right (by assumption)))))))))) | refine Sub.setV ?_ (by first | assumption | exact And.right (by assumption) | exact And.right (And.right (by assumption)) | exact And.right (And.right (And.right (by assumption))) | exact And.right (And.right (And.right (And.right (by assumption)))) | exact And.right (And.right (And.right (And.right (And.right (by assumption))))) | exact And.right (And.right (And.right (And.right (And.right (And.right (by assumption)))))) | exact And.right (And.right (And.right (And.right (And.right (And.right (And.right (by assumption))))))) | exact And.right (And.right (And.right (And.right (And.right (And.right (And.right (And.right (by assumption)))))))) | exact And.right (And.right (And.right (And.right (And.right (And.right (And.right (And.right (And.right (by assumption)))))))))))), ?_⟩); simp
end Go.Sk
end

-- W13w
section
namespace Go.Sk
open Go Go.Proofs

theorem ref13_Within (tick span : Nat) (e : Event) : Pure Try.prog 29 [e.av, u64 tick, u64 span] (bl (withinV tick span e)) := fun S => by
  refine callR_of Try.func29 rfl rfl (xc_ok (bitB 79) _ _ _ ?_)
  simp only [go_sem, decide_true, decide_false, Nat.lt_irrefl]
  refine alloc_intro fun b hb => ?_
  simp only [go_sem, decide_true, decide_false, Nat.lt_irrefl]
  (first | refine dec_split (fun hc => ?_) (fun hc => ?_) | refine gdd_split (fun hc => ?_) (fun hc => ?_) | refine bool_split (fun hc => ?_) (fun hc => ?_) | refine gd_split (fun hc => ?_) (fun hc => ?_)) <;> simp only [go_sem, decide_true, decide_false, Nat.lt_irrefl]
  · (first | refine dec_split (fun hd => ?_) (fun hd => ?_) | refine gdd_split (fun hd => ?_) (fun hd => ?_) | refine bool_split (fun hd => ?_) (fun hd => ?_) | refine gd_split (fun hd => ?_) (fun hd => ?_)) <;> simp only [go_sem, decide_true, decide_false, Nat.lt_irrefl]
    · (refine ⟨S, by (repeat (first | exact Sub.refl _ | refine Sub.setF ?_ (by first | assumption | exact And.right (by assumption) | exact And.right (And.right (by assumption)) | exact And.right (And.right (And.right (by assumption))) | exact And.right (And.right (And.right (And.right (by assumption)))) | exact And.right (And.right (And.right (And.right (And.right (by assumption))))) | exact And.right (And.right (And.right (And.right (And.right (And.right (by assumption)))))) | exact And.right (And.right (And.right (And.right (And.right (And.right (And.right (by assumption))))))) | exact And.right (And.right (And.right (And.right (And.right (And.right (And.right (And.right (by assumption)))))))) | exact And.right (And.right (And.right (And.right (And.right (And.right (And.right (And.right (And.right (by assumption)))))))))) | refine Sub.setV ?_ (by first | assumption | exact And.right (by assumption) | exact And.right (And.right (by assumption)) | exact And.right (And.right (And.right (by assumption))) | exact And.right (And.right (And.right (And.right (by assumption)))) | exact And.right (And.right (And.right (And.right (And.right (by assumption))))) | exact And.right (And.right (And.right (And.right (And.right (And.right (by assumption)))))) | exact And.right (And.right (And.right (And.right (And.right (And.right (And.right (by assumption))))))) | exact And.right (And.right (And.right (And.right (And.right (And.right (And.right (And.right (by assumption)))))))) | exact And.right (And.right (And.right (And.right (And.right (And.right (And.right (And.right (And.right (by assumption)))))))))))), ?_⟩); simp [withinV, hc, hd]
    · (refine ⟨S, by (repeat (first | exact Sub.refl _ | refine Sub.setF ?_ (by first | assumption | exact And.right (by assumption) | exact And.right (And.right (by assumption)) | exact And.right (And.right (And.right (by assumption))) | exact And.right (And.right (And.right (And.right (by assumption)))) | exact And.right (And.right (And.right (And.right (And.right (by assumption))))) | exact And.right (And.right (And.right (And.right (And.right (And.right (by assumption)))))) | exact And.right (And.right (And.right (And.right (And.right (And.right (And.right (by assumption))))))) | exact And.right (And.right (And.right (And.right (And.right (And.right (And.right (And.right (by assumption)))))))) | exact And.right (And.right (And.right (And.right (And.right (And.right (And.right (And.right (And.right (by assumption)))))))))) | refine Sub.setV ?_ (by first | assumption | exact And.right (by assumption) | exact And.right (And.right (by assumption)) | exact And.right (And.right (And.right (by assumption))) | exact And.right (And.right (And.right (And.right (by assumption)))) | exact And.right (And.right (And.right (And.right (And.right (by assumption))))) | exact And.right (And.right (And.right (And.right (And.right (And.right (by assumption)))))) | exact And.right (And.right (And.right (And.right (And.right (And.right (And.right (by assumption))))))) | exact And.right (And.right (And.right (And.right (And.right (And.right (And.right (And.right (by assumption)))))))) | exact And.right (And.right (And.right (And.right (And.right (And.right (And.right (And.right (And.right (by assumption)))))))))))), ?_⟩); simp [withinV, hc, hd]
  · (refine ⟨S, by (repeat (first | exact Sub.refl _ | refine Sub.setF ?_ (by first | assumption | exact And.right (by assumption) | exact And.right (And.right (by assumption)) | exact And.right (And.right (And.right (by assumption))) | exact And.right (And.right (And.right (And.right (by assumption)))) | exact And.right (And.right (And.right (And.right (And.right (by assumption))))) | exact And.right (And.right (And.right (And.right (And.right (And.right (by assumption)))))) | exact And.right (And.right (And.right (And.right (And.right (And.right (And.right (by assumption))))))) | exact And.right (And.right (And.right (And.right (And.right (And.right (And.right (And.right (by assumption)))))))) | exact And.right (And.right (And.right (And.right (And.right (And.right (And.right (And.right (And.right (by assumption)))))))))) | refine Sub.setV ?_ (by first | assumption | exact And.right (by assumption) | exact And.right (And.right (by assumption)) | exact And.right (And.right (And.right (by assumption))) | exact And.right (And.right (And.right (And.right (by assumption)))) | exact And.right (And.right (And.right (And.right (And.right (by assumption))))) | exact And.right (And.right (And.right (And.right (And.right (And.right (by assumption)))))) | exact And.right (And.right (And.right (And.right (And.right (And.right (And.right (by assumption))))))) | exact And.right (And.right (And.right (And.right (And.right (And.right (And.right (And.right (by assumption)))))))) | exact And.right (And.right (And.right (And.right (And.right (And.right (And.right (And.right (And.right (by assumption)))))))))))), ?_⟩); simp [withinV, hc]

end Go.Sk
end

-- W13s
section
namespace Go.Sk
open Go Go.Proofs

theorem within_pf {S : Store} {b1 b2 : Nat} (tick span : Nat) (e : Event) (h1 : S (.r b1) = some (.cells [u64 tick])) (h2 : S (.r b2) = some (.cells [u64 span])) :
    PureF Try.prog S (.fn (.func 66) [] [.sp b1 0, .sp b2 0]) [e.av] (bl (withinV tick span e)) :=
  fun _ hS => FunR.of_call (scan_within1 tick span e (hS.get h1) (hS.get h2))
theorem weight_pf (S : Store) (e : Event) : PureF Try.prog S (.fn (.func 45) [] []) [e.av] (u64 e.w) :=
  fun S' _ => FunR.of_call (scan_weight e S')

theorem scan_Sum (l : List Event) (tick span : Nat) (hl : l.length < 4611686018427387904) : Pure Try.prog 26 [.p (evsP l), u64 tick, u64 span] (u64 (spanV l tick span)) := fun S => by
  refine callR_of Try.func26 rfl rfl (xc_ok (bitB 71) _ _ _ ?_)
  simp only [go_sem, decide_true, decide_false, Nat.lt_irrefl]
  refine (scan_within tick span S).useA ?_
  rintro _ _ ⟨b1, b2, f1, f2, ⟨n1, n2⟩, rfl, rfl⟩
  simp only [go_sem, decide_true, decide_false, Nat.lt_irrefl]
  refine (scan_sum l _ _ (withinV tick span) Event.w hl (fun e _ => within_pf tick span e (b1 := b1) (b2 := b2) (by simp [Store.set, n1]) (by simp [Store.set])) (fun e _ => weight_pf _ e)).useA ?_
  rintro _ _ ⟨rfl, rfl⟩
  simp only [go_sem, decide_true, decide_false, Nat.lt_irrefl]
  (refine ⟨S, by (repeat (first | exact Sub.refl _ | refine Sub.setF ?_ (by first | assumption | exact And.right (by assumption) | exact And.right (And.right (by assumption)) | exact And.right (And.right (And.right (by assumption))) | exact And.right (And.right (And.right (And.right (by assumption)))) | exact And.right (And.right (And.right (And.right (And.right (by assumption))))) | exact And.right (And.right (And.right (And.right (And.right (And.right (by assumption)))))) | exact And.right (And.right (And.right (And.right (And.right (And.right (And.right (by assumption))))))) | exact And.right (And.right (And.right (And.right (And.right (And.right (And.right (And.right (by assumption)))))))) | exact And.right (And.right (And.right (And.right (And.right (And.right (And.right (And.right (And.right (by assumption)))))))))) | refine Sub.setV ?_ (by first | assumption | exact And.right (by assumption) | exact And.right (And.right (by assumption)) | exact And.right (And.right (And.right (by assumption))) | exact And.right (And.right (And.right (And.right (by assumption)))) | exact And.right (And.right (And.right (And.right (And.right (by assumption))))) | exact And.right (And.right (And.right (And.right (And.right (And.right (by assumption)))))) | exact And.right (And.right (And.right (And.right (And.right (And.right (And.right (by assumption))))))) | exact And.right (And.right (And.right (And.right (And.right (And.right (And.right (And.right (by assumption)))))))) | exact And.right (And.right (And.right (And.right (And.right (And.right (And.right (And.right (And.right (by assumption)))))))))))), ?_⟩); simp [spanV]

theorem ref13_Sum (l : List Event) (tick span : Nat) (hl : l.length < 4611686018427387904) : Pure Try.prog 15 [.p (evsP l), u64 tick, u64 span] (u64 (spanV l tick span)) := fun S => by
  refine callR_of Try.func15 rfl rfl (xc_ok (bitB 2101703) _ _ _ ?_)
  simp only [go_sem, decide_true, decide_false, Nat.lt_irrefl, evsP]
  refine AWP.iter (fun i => ⟨Env.get [(0, .p (.sl (l.map Event.pv))), (1, u64 tick), (2, u64 span), (7, u64 (spanV (l.take i) tick span)), (8, i64 i)], S, 30, []⟩) l.length ?_ ?_ ?_
  · exact le_of (by simp only [go_sem, decide_true, decide_false, Nat.lt_irrefl]; simp [spanV, sumV]) (Sub.refl _) rfl rfl (by simp)
  · intro i hi ih
    refine AWPH.step (xc_ok (bitB 2101703) _ _ _ ?_)
    simp only [go_sem, decide_true, decide_false, Nat.lt_irrefl, hi, ltN' hi, getD_map' _ _ _ _ hi]
    refine (ref13_Within tick span l[i]).useA ?_
    cases hp : withinV tick span l[i]
    · simp only [go_sem, decide_true, decide_false, Nat.lt_irrefl]
      refine ih.back (by (repeat (first | exact Sub.refl _ | refine Sub.setF ?_ (by first | assumption | exact And.right (by assumption) | exact And.right (And.right (by assumption)) | exact And.right (And.right (And.right (by assumption))) | exact And.right (And.right (And.right (And.right (by assumption)))) | exact And.right (And.right (And.right (And.right (And.right (by assumption))))) | exact And.right (And.right (And.right (And.right (And.right (And.right (by assumption)))))) | exact And.right (And.right (And.right (And.right (And.right (And.right (And.right (by assumption))))))) | exact And.right (And.right (And.right (And.right (And.right (And.right (And.right (And.right (by assumption)))))))) | exact And.right (And.right (And.right (And.right (And.right (And.right (And.right (And.right (And.right (by assumption)))))))))) | refine Sub.setV ?_ (by first | assumption | exact And.right (by assumption) | exact And.right (And.right (by assumption)) | exact And.right (And.right (And.right (by assumption))) | exact And.right (And.right (And.right (And.right (by assumption)))) | exact And.right (And.right (And.right (And.right (And.right (by assumption))))) | exact And.right (And.right (And.right (And.right (And.right (And.right (by assumption)))))) | exact And.right (And.right (And.right (And.right (And.right (And.right (And.right (by assumption))))))) | exact And.right (And.right (And.right (And.right (And.right (And.right (And.right (And.right (by assumption)))))))) | exact And.right (And.right (And.right (And.right (And.right (And.right (And.right (And.right (And.right (by assumption))))))))))))) (by simp) ?_
      simp only [go_sem, decide_true, decide_false, Nat.lt_irrefl, spanV, sumV_snoc _ _ 0 l i hi, hp, wi_succ (show i < 4611686018427387904 by omega)]
    · simp only [go_sem, decide_true, decide_false, Nat.lt_irrefl, hi, ltN' hi, getD_map' _ _ _ _ hi]
      refine ih.back (by (repeat (first | exact Sub.refl _ | refine Sub.setF ?_ (by first | assumption | exact And.right (by assumption) | exact And.right (And.right (by assumption)) | exact And.right (And.right (And.right (by assumption))) | exact And.right (And.right (And.right (And.right (by assumption)))) | exact And.right (And.right (And.right (And.right (And.right (by assumption))))) | exact And.right (And.right (And.right (And.right (And.right (And.right (by assumption)))))) | exact And.right (And.right (And.right (And.right (And.right (And.right (And.right (by assumption))))))) | exact And.right (And.right (And.right (And.right (And.right (And.right (And.right (And.right (by assumption)))))))) | exact And.right (And.right (And.right (And.right (And.right (And.right (And.right (And.right (And.right (by assumption)))))))))) | refine Sub.setV ?_ (by first | assumption | exact And.right (by assumption) | exact And.right (And.right (by assumption)) | exact And.right (And.right (And.right (by assumption))) | exact And.right (And.right (And.right (And.right (by assumption)))) | exact And.right (And.right (And.right (And.right (And.right (by assumption))))) | exact And.right (And.right (And.right (And.right (And.right (And.right (by assumption)))))) | exact And.right (And.right (And.right (And.right (And.right (And.right (And.right (by assumption))))))) | exact And.right (And.right (And.right (And.right (And.right (And.right (And.right (And.right (by assumption)))))))) | exact And.right (And.right (And.right (And.right (And.right (And.right (And.right (And.right (And.right (by assumption))))))))))))) (by simp) ?_
      simp only [go_sem, decide_true, decide_false, Nat.lt_irrefl, spanV, sumV_snoc _ _ 0 l i hi, hp, wi_succ (show i < 4611686018427387904 by omega)]
  · refine AWPH.step (xc_ok (bitB 2101703) _ _ _ ?_)
    simp only [go_sem, decide_true, decide_false, Nat.lt_irrefl, List.take_length]
    (refine ⟨S, by (repeat (first | exact Sub.refl _ | refine Sub.setF ?_ (by first | assumption | exact And.right (by assumption) | exact And.right (And.right (by assumption)) | exact And.right (And.right (And.right (by assumption))) | exact And.right (And.right (And.right (And.right (by assumption)))) | exact And.right (And.right (And.right (And.right (And.right (by assumption))))) | exact And.right (And.right (And.right (And.right (And.right (And.right (by assumption)))))) | exact And.right (And.right (And.right (And.right (And.right (And.right (And.right (by assumption))))))) | exact And.right (And.right (And.right (And.right (And.right (And.right (And.right (And.right (by assumption)))))))) | exact And.right (And.right (And.right (And.right (And.right (And.right (And.right (And.right (And.right (by assumption)))))))))) | refine Sub.setV ?_ (by first | assumption | exact And.right (by assumption) | exact And.right (And.right (by assumption)) | exact And.right (And.right (And.right (by assumption))) | exact And.right (And.right (And.right (And.right (by assumption)))) | exact And.right (And.right (And.right (And.right (And.right (by assumption))))) | exact And.right (And.right (And.right (And.right (And.right (And.right (by assumption)))))) | exact And.right (And.right (And.right (And.right (And.right (And.right (And.right (by assumption))))))) | exact And.right (And.right (And.right (And.right (And.right (And.right (And.right (And.right (by assumption)))))))) | exact And.right (And.right (And.right (And.right (And.right (And.right (And.right (And.right (And.right (by assumption)))))))))))), ?_⟩); simp

end Go.Sk
end

-- W14b
section
namespace Go.Sk
open Go Go.Proofs

theorem Skt.Good.sz {s : Skt} (hg : s.Good) : s.b.Sz ∧ s.b.evs.length < 1048576 := ⟨⟨by have := hg.r1; omega, by have := hg.mkk; omega, by have := hg.len; have := hg.r2; omega⟩, by have := hg.len; have := hg.r2; omega⟩
theorem count_room (a b c : Nat) (ha : a < 18446744073709551616) (hb : b < 18446744073709551616) (hc : c < 18446744073709551616) : Pure Try.prog 35 [.p (.sl [[.int .u64 a], [.int .u64 b], [.int .u64 c]])] (bl (decide (a + b + c ≤ 4503599627370496))) := fun S => by
  obtain ⟨l, hl⟩ : ∃ l : List Nat, l = [a, b, c] := ⟨_, rfl⟩
  have hle : PV.sl [[.int .u64 a], [.int .u64 b], [.int .u64 c]] = .sl (l.map nE) := by rw [hl]; rfl
  have hs : a + b + c = l.sum := by rw [hl]; simp; omega
  have hn : l.length < 1048576 := by rw [hl]; simp
  rw [hle, hs]
  clear hl hle hs
  refine callR_of Try.func35 rfl rfl (xc_ok (bitB 17389) _ _ _ ?_)
  simp only [go_sem, decide_true, decide_false, Nat.lt_irrefl]
  refine AWP.roam (ι := Nat) (fun i => i ≤ l.length ∧ (l.take i).sum ≤ 4503599627370496)
    (fun i => ⟨Env.get [(3, u64 (4503599627370496 - (l.take i).sum)), (6, .p (.sl (l.map nE))), (7, i64 l.length), (8, i64 i)], S, 19, []⟩) (fun i => l.length - i) 0 ⟨Nat.zero_le _, by simp⟩ ?_ ?_
  · exact le_of (by simp only [go_sem, decide_true, decide_false, Nat.lt_irrefl, List.length_map] <;> simp) (Sub.refl _) rfl rfl (by simp)
  · intro i ⟨hi, hsum⟩ ih
    refine AWPH.step (xc_ok (bitB 17389) _ _ _ ?_)
    have hdr : l.sum = (l.take i).sum + (l.drop i).sum := by conv => lhs; rw [← List.take_append_drop i l, List.sum_append]
    by_cases c : i < l.length
    · have hd2 : (l.drop i).sum = l[i] + (l.drop (i + 1)).sum := by rw [List.drop_eq_getElem_cons c, List.sum_cons]
      have ht2 : (l.take (i + 1)).sum = (l.take i).sum + l[i] := by rw [List.take_succ_eq_append_getElem c, List.sum_append]; simp
      by_cases hc : 4503599627370496 - (l.take i).sum < l[i]
      · simp only [go_sem, decide_true, decide_false, Nat.lt_irrefl, c, ltN' c, getD_map' _ _ _ _ c, nE, List.length_map, hc]
        (refine ⟨S, by (repeat (first | exact Sub.refl _ | refine Sub.setF ?_ (by first | assumption | exact And.right (by assumption) | exact And.right (And.right (by assumption)) | exact And.right (And.right (And.right (by assumption))) | exact And.right (And.right (And.right (And.right (by assumption)))) | exact And.right (And.right (And.right (And.right (And.right (by assumption))))) | exact And.right (And.right (And.right (And.right (And.right (And.right (by assumption)))))) | exact And.right (And.right (And.right (And.right (And.right (And.right (And.right (by assumption))))))) | exact And.right (And.right (And.right (And.right (And.right (And.right (And.right (And.right (by assumption)))))))) | exact And.right (And.right (And.right (And.right (And.right (And.right (And.right (And.right (And.right (by assumption)))))))))) | refine Sub.setV ?_ (by first | assumption | exact And.right (by assumption) | exact And.right (And.right (by assumption)) | exact And.right (And.right (And.right (by assumption))) | exact And.right (And.right (And.right (And.right (by assumption)))) | exact And.right (And.right (And.right (And.right (And.right (by assumption))))) | exact And.right (And.right (And.right (And.right (And.right (And.right (by assumption)))))) | exact And.right (And.right (And.right (And.right (And.right (And.right (And.right (by assumption))))))) | exact And.right (And.right (And.right (And.right (And.right (And.right (And.right (And.right (by assumption)))))))) | exact And.right (And.right (And.right (And.right (And.right (And.right (And.right (And.right (And.right (by assumption)))))))))))), ?_⟩); simp; omega
      · have hsb : sub64 (4503599627370496 - (l.take i).sum) l[i] = 4503599627370496 - (l.take (i + 1)).sum := by rw [sub64_le (by omega) (by omega)]; omega
        simp only [go_sem, decide_true, decide_false, Nat.lt_irrefl, c, ltN' c, getD_map' _ _ _ _ c, nE, List.length_map, hc, hsb]
        refine (ih (i + 1) ⟨c, by omega⟩ (by omega)).back (Sub.refl _) (by simp) ?_
        simp only [go_sem, decide_true, decide_false, Nat.lt_irrefl, nE, List.length_map, wi_succ (show i < 4611686018427387904 by omega)]
    · obtain rfl : i = l.length := by omega
      rw [List.take_length] at hsum
      simp only [go_sem, decide_true, decide_false, Nat.lt_irrefl, c, List.length_map]
      (refine ⟨S, by (repeat (first | exact Sub.refl _ | refine Sub.setF ?_ (by first | assumption | exact And.right (by assumption) | exact And.right (And.right (by assumption)) | exact And.right (And.right (And.right (by assumption))) | exact And.right (And.right (And.right (And.right (by assumption)))) | exact And.right (And.right (And.right (And.right (And.right (by assumption))))) | exact And.right (And.right (And.right (And.right (And.right (And.right (by assumption)))))) | exact And.right (And.right (And.right (And.right (And.right (And.right (And.right (by assumption))))))) | exact And.right (And.right (And.right (And.right (And.right (And.right (And.right (And.right (by assumption)))))))) | exact And.right (And.right (And.right (And.right (And.right (And.right (And.right (And.right (And.right (by assumption)))))))))) | refine Sub.setV ?_ (by first | assumption | exact And.right (by assumption) | exact And.right (And.right (by assumption)) | exact And.right (And.right (And.right (by assumption))) | exact And.right (And.right (And.right (And.right (by assumption)))) | exact And.right (And.right (And.right (And.right (And.right (by assumption))))) | exact And.right (And.right (And.right (And.right (And.right (And.right (by assumption)))))) | exact And.right (And.right (And.right (And.right (And.right (And.right (And.right (by assumption))))))) | exact And.right (And.right (And.right (And.right (And.right (And.right (And.right (And.right (by assumption)))))))) | exact And.right (And.right (And.right (And.right (And.right (And.right (And.right (And.right (And.right (by assumption)))))))))))), ?_⟩); simp [hsum]

set_option maxHeartbeats 1000000 in
set_option maxRecDepth 4000 in
theorem count_Add (s : Skt) (hg : s.Good) (e : Event) (he : e.Ok) : Pure Try.prog 18 [s.av, e.av] (.tuple [(addK s e).1.av, i64 (addK s e).2]) := fun S => by
  obtain ⟨hz, hn⟩ := hg.sz
  obtain ⟨w1, w2⟩ := hg.wt
  have htot := hg.tot
  refine callR_of Try.func18 rfl rfl (xc_ok (bitB 4325887) _ _ _ ?_)
  simp only [go_sem, decide_true, decide_false, Nat.lt_irrefl]
  refine alloc_intro fun c2 h2 => ?_
  simp only [go_sem, decide_true, decide_false, Nat.lt_irrefl]
  refine alloc_intro fun c3 h3 => ?_
  simp only [fresh_set] at h3
  simp only [go_sem, decide_true, decide_false, Nat.lt_irrefl, h3]
  refine alloc_intro fun c4 h4 => ?_
  simp only [fresh_set] at h4
  simp only [go_sem, decide_true, decide_false, Nat.lt_irrefl, h3, h4]
  refine (buf_Push s.b hz hn e).useA ?_
  have hpre := push_pre hg e
  have hres : addK s e = if (pushB s.b e).2 = 0 then (if 4503599627370496 < totN 0 s.past.ls + sumE Event.w s.b.evs + e.w then (zeroK, 5) else (passK s (pushB s.b e).1.1 (pushB s.b e).1.2, 0)) else (zeroK, (pushB s.b e).2) := rfl
  rw [hres]
  generalize pushB s.b e = R at *
  obtain ⟨⟨b', out⟩, bad⟩ := R
  dsimp only at hpre ⊢
  simp only [go_sem, decide_true, decide_false, Nat.lt_irrefl, h3, h4]
  refine alloc_intro fun c6 h6 => ?_
  simp only [fresh_set] at h6
  have y2 : S (.r c2) = none := h2
  have y3 : S (.r c3) = none := h3.2
  have y4 : S (.r c4) = none := h4.2.2
  have y6 : S (.r c6) = none := h6.2.2.2
  by_cases h0 : bad = 0
  rotate_left
  · have h0b : (bad != 0) = true := by simpa using h0
    simp only [go_sem, decide_true, decide_false, Nat.lt_irrefl, h3, h4, h6, h0b]
    refine ⟨S, ?_, ?_⟩
    · repeat' first
        | exact Sub.refl _
        | refine Sub.set ?_ (by assumption) _
    · rw [if_neg h0]; simp [zeroK, zeroB, zeroH]
  have h0b : (bad != 0) = false := by simpa using h0
  simp only [go_sem, decide_true, decide_false, Nat.lt_irrefl, h3, h4, h6, h0b]
  have hroom := count_room (totN 0 s.past.ls) (sumE Event.w s.b.evs) e.w (by omega) (by omega) he.w
  have hT := hist_Total s.past.k s.past.g s.past.ls (by have := hg.pg.len; omega)
  have hW := buf_Weight s.b (by omega)
  rw [w1] at hT
  rw [w2] at hW
  have zk : zeroK.av = .agg [u64 0, u64 0, i64 0, u64 0, u64 0, .p (.sl []), i64 0, i64 0, .p (.sl [])] := rfl
  by_cases hh : 4503599627370496 < totN 0 s.past.ls + sumE Event.w s.b.evs + e.w
  · rw [decide_eq_false (by omega)] at hroom
    refine AWP.draw2 (bitB 4325887) mixed (by kernel_rfl) (fun j => if j = 2 then u64 (totN 0 s.past.ls) else if j = 5 then u64 (sumE Event.w s.b.evs) else bl false) ?_
    simp only [go_sem, decide_true, decide_false, Nat.lt_irrefl, h3, h4, h6]
    refine ⟨hT.draw, hW.draw, hroom.draw, S, ?_, ?_⟩
    · repeat' first
        | exact Sub.refl _
        | refine Sub.set ?_ (by assumption) _
    · rw [if_pos h0, if_pos hh]; simp [zeroK, zeroB, zeroH]
  · rw [decide_eq_true (by omega)] at hroom
    have hp := hpre h0 hh
    refine AWP.draw2 (bitB 4325887) mixed (by kernel_rfl) (fun j => if j = 2 then u64 (totN 0 s.past.ls) else if j = 5 then u64 (sumE Event.w s.b.evs) else bl true) ?_
    simp only [go_sem, decide_true, decide_false, Nat.lt_irrefl, h3, h4, h6]
    refine ⟨hT.draw, hW.draw, hroom.draw, ?_⟩
    refine (count_pass s b' out hp.len hp.w hp.good).useA ?_
    simp only [go_sem, decide_true, decide_false, Nat.lt_irrefl, h3, h4, h6]
    refine ⟨S, ?_, ?_⟩
    · repeat' first
        | exact Sub.refl _
        | refine Sub.set ?_ (by assumption) _
    · rw [if_pos h0, if_neg hh]; simp
set_option maxHeartbeats 1000000 in
set_option maxRecDepth 4000 in
theorem count_Move (s : Skt) (hg : s.Good) (t : Nat) : Pure Try.prog 17 [s.av, u64 t] (.tuple [(moveK s t).1.av, i64 (moveK s t).2]) := fun S => by
  obtain ⟨hz, hn⟩ := hg.sz
  refine callR_of Try.func17 rfl rfl (xc_ok (bitB 262647) _ _ _ ?_)
  simp only [go_sem, decide_true, decide_false, Nat.lt_irrefl]
  refine alloc_intro fun c2 h2 => ?_
  simp only [go_sem, decide_true, decide_false, Nat.lt_irrefl]
  refine alloc_intro fun c4 h4 => ?_
  simp only [fresh_set] at h4
  simp only [go_sem, decide_true, decide_false, Nat.lt_irrefl, h4]
  refine (buf_Move s.b hz t).useA ?_
  have hpre := move_pre hg t
  have hres : moveK s t = if (moveB s.b t).2 = 0 then (passK s (moveB s.b t).1.1 (moveB s.b t).1.2, 0) else (zeroK, (moveB s.b t).2) := rfl
  rw [hres]
  generalize moveB s.b t = R at *
  obtain ⟨⟨b', out⟩, bad⟩ := R
  dsimp only at hpre ⊢
  simp only [go_sem, decide_true, decide_false, Nat.lt_irrefl, h4]
  refine alloc_intro fun c6 h6 => ?_
  simp only [fresh_set] at h6
  have y2 : S (.r c2) = none := h2
  have y4 : S (.r c4) = none := h4.2
  have y6 : S (.r c6) = none := h6.2.2
  by_cases h0 : bad = 0
  rotate_left
  · have h0b : (bad != 0) = true := by simpa using h0
    simp only [go_sem, decide_true, decide_false, Nat.lt_irrefl, h4, h6, h0b]
    refine ⟨S, ?_, ?_⟩
    · repeat' first
        | exact Sub.refl _
        | refine Sub.set ?_ (by assumption) _
    · rw [if_neg h0]; simp [zeroK, zeroB, zeroH]
  have h0b : (bad != 0) = false := by simpa using h0
  have hp := hpre h0
  simp only [go_sem, decide_true, decide_false, Nat.lt_irrefl, h4, h6, h0b]
  refine (count_pass s b' out hp.len hp.w hp.good).useA ?_
  simp only [go_sem, decide_true, decide_false, Nat.lt_irrefl, h4, h6]
  refine ⟨S, ?_, ?_⟩
  · repeat' first
      | exact Sub.refl _
      | refine Sub.set ?_ (by assumption) _
  · rw [if_pos h0]; simp
theorem count_Query (s : Skt) (hg : s.Good) (tick span : Nat) : Pure Try.prog 12 [s.av, u64 tick, u64 span] (.tuple [u64 (queryK s tick span).1, i64 (queryK s tick span).2]) := fun S => by
  obtain ⟨hz, hn⟩ := hg.sz
  have hE := est_Of s.past.k s.past.g s.past.ls tick span (by have := hg.pg.len; omega) (fun l hl => by have := hg.pg.sm l hl; have := hg.pg.k1; omega)
  have hQ := scan_Sum s.b.evs tick span (by omega)
  refine callR_of Try.func12 rfl rfl (xc_ok (bitB 262607) _ _ _ ?_)
  simp only [go_sem, decide_true, decide_false, Nat.lt_irrefl]
  refine alloc_intro fun c3 h3 => ?_
  simp only [go_sem, decide_true, decide_false, Nat.lt_irrefl]
  by_cases q1 : tick < s.b.front
  · simp only [go_sem, decide_true, decide_false, Nat.lt_irrefl, q1]
    (refine ⟨S, by (repeat (first | exact Sub.refl _ | refine Sub.setF ?_ (by first | assumption | exact And.right (by assumption) | exact And.right (And.right (by assumption)) | exact And.right (And.right (And.right (by assumption))) | exact And.right (And.right (And.right (And.right (by assumption)))) | exact And.right (And.right (And.right (And.right (And.right (by assumption))))) | exact And.right (And.right (And.right (And.right (And.right (And.right (by assumption)))))) | exact And.right (And.right (And.right (And.right (And.right (And.right (And.right (by assumption))))))) | exact And.right (And.right (And.right (And.right (And.right (And.right (And.right (And.right (by assumption)))))))) | exact And.right (And.right (And.right (And.right (And.right (And.right (And.right (And.right (And.right (by assumption)))))))))) | refine Sub.setV ?_ (by first | assumption | exact And.right (by assumption) | exact And.right (And.right (by assumption)) | exact And.right (And.right (And.right (by assumption))) | exact And.right (And.right (And.right (And.right (by assumption)))) | exact And.right (And.right (And.right (And.right (And.right (by assumption))))) | exact And.right (And.right (And.right (And.right (And.right (And.right (by assumption)))))) | exact And.right (And.right (And.right (And.right (And.right (And.right (And.right (by assumption))))))) | exact And.right (And.right (And.right (And.right (And.right (And.right (And.right (And.right (by assumption)))))))) | exact And.right (And.right (And.right (And.right (And.right (And.right (And.right (And.right (And.right (by assumption)))))))))))), ?_⟩); simp [queryK, q1]
  by_cases q2 : 9223372036854775807 < tick
  · simp only [go_sem, decide_true, decide_false, Nat.lt_irrefl, q1, q2]
    (refine ⟨S, by (repeat (first | exact Sub.refl _ | refine Sub.setF ?_ (by first | assumption | exact And.right (by assumption) | exact And.right (And.right (by assumption)) | exact And.right (And.right (And.right (by assumption))) | exact And.right (And.right (And.right (And.right (by assumption)))) | exact And.right (And.right (And.right (And.right (And.right (by assumption))))) | exact And.right (And.right (And.right (And.right (And.right (And.right (by assumption)))))) | exact And.right (And.right (And.right (And.right (And.right (And.right (And.right (by assumption))))))) | exact And.right (And.right (And.right (And.right (And.right (And.right (And.right (And.right (by assumption)))))))) | exact And.right (And.right (And.right (And.right (And.right (And.right (And.right (And.right (And.right (by assumption)))))))))) | refine Sub.setV ?_ (by first | assumption | exact And.right (by assumption) | exact And.right (And.right (by assumption)) | exact And.right (And.right (And.right (by assumption))) | exact And.right (And.right (And.right (And.right (by assumption)))) | exact And.right (And.right (And.right (And.right (And.right (by assumption))))) | exact And.right (And.right (And.right (And.right (And.right (And.right (by assumption)))))) | exact And.right (And.right (And.right (And.right (And.right (And.right (And.right (by assumption))))))) | exact And.right (And.right (And.right (And.right (And.right (And.right (And.right (And.right (by assumption)))))))) | exact And.right (And.right (And.right (And.right (And.right (And.right (And.right (And.right (And.right (by assumption)))))))))))), ?_⟩); simp [queryK, q2]
  by_cases q3 : span = 0
  · have g3 : (span == 0) = true := by simpa using q3
    simp only [go_sem, decide_true, decide_false, Nat.lt_irrefl, q1, q2, g3]
    (refine ⟨S, by (repeat (first | exact Sub.refl _ | refine Sub.setF ?_ (by first | assumption | exact And.right (by assumption) | exact And.right (And.right (by assumption)) | exact And.right (And.right (And.right (by assumption))) | exact And.right (And.right (And.right (And.right (by assumption)))) | exact And.right (And.right (And.right (And.right (And.right (by assumption))))) | exact And.right (And.right (And.right (And.right (And.right (And.right (by assumption)))))) | exact And.right (And.right (And.right (And.right (And.right (And.right (And.right (by assumption))))))) | exact And.right (And.right (And.right (And.right (And.right (And.right (And.right (And.right (by assumption)))))))) | exact And.right (And.right (And.right (And.right (And.right (And.right (And.right (And.right (And.right (by assumption)))))))))) | refine Sub.setV ?_ (by first | assumption | exact And.right (by assumption) | exact And.right (And.right (by assumption)) | exact And.right (And.right (And.right (by assumption))) | exact And.right (And.right (And.right (And.right (by assumption)))) | exact And.right (And.right (And.right (And.right (And.right (by assumption))))) | exact And.right (And.right (And.right (And.right (And.right (And.right (by assumption)))))) | exact And.right (And.right (And.right (And.right (And.right (And.right (And.right (by assumption))))))) | exact And.right (And.right (And.right (And.right (And.right (And.right (And.right (And.right (by assumption)))))))) | exact And.right (And.right (And.right (And.right (And.right (And.right (And.right (And.right (And.right (by assumption)))))))))))), ?_⟩); simp [queryK, q1, q2, q3]
  have g3 : (span == 0) = false := by simpa using q3
  by_cases q4 : s.win < span
  · simp only [go_sem, decide_true, decide_false, Nat.lt_irrefl, q1, q2, g3, q4]
    (refine ⟨S, by (repeat (first | exact Sub.refl _ | refine Sub.setF ?_ (by first | assumption | exact And.right (by assumption) | exact And.right (And.right (by assumption)) | exact And.right (And.right (And.right (by assumption))) | exact And.right (And.right (And.right (And.right (by assumption)))) | exact And.right (And.right (And.right (And.right (And.right (by assumption))))) | exact And.right (And.right (And.right (And.right (And.right (And.right (by assumption)))))) | exact And.right (And.right (And.right (And.right (And.right (And.right (And.right (by assumption))))))) | exact And.right (And.right (And.right (And.right (And.right (And.right (And.right (And.right (by assumption)))))))) | exact And.right (And.right (And.right (And.right (And.right (And.right (And.right (And.right (And.right (by assumption)))))))))) | refine Sub.setV ?_ (by first | assumption | exact And.right (by assumption) | exact And.right (And.right (by assumption)) | exact And.right (And.right (And.right (by assumption))) | exact And.right (And.right (And.right (And.right (by assumption)))) | exact And.right (And.right (And.right (And.right (And.right (by assumption))))) | exact And.right (And.right (And.right (And.right (And.right (And.right (by assumption)))))) | exact And.right (And.right (And.right (And.right (And.right (And.right (And.right (by assumption))))))) | exact And.right (And.right (And.right (And.right (And.right (And.right (And.right (And.right (by assumption)))))))) | exact And.right (And.right (And.right (And.right (And.right (And.right (And.right (And.right (And.right (by assumption)))))))))))), ?_⟩); simp [queryK, q1, q2, q3, q4]
  simp only [go_sem, decide_true, decide_false, Nat.lt_irrefl, q1, q2, g3, q4]
  refine AWP.draw2 (bitB 262607) mixed (by kernel_rfl) (fun j => if j = 4 then u64 (estV s.past.ls tick span) else u64 (spanV s.b.evs tick span)) ?_
  simp only [go_sem, decide_true, decide_false, Nat.lt_irrefl]
  refine ⟨hE.draw, hQ.draw, ?_⟩
  (refine ⟨S, by (repeat (first | exact Sub.refl _ | refine Sub.setF ?_ (by first | assumption | exact And.right (by assumption) | exact And.right (And.right (by assumption)) | exact And.right (And.right (And.right (by assumption))) | exact And.right (And.right (And.right (And.right (by assumption)))) | exact And.right (And.right (And.right (And.right (And.right (by assumption))))) | exact And.right (And.right (And.right (And.right (And.right (And.right (by assumption)))))) | exact And.right (And.right (And.right (And.right (And.right (And.right (And.right (by assumption))))))) | exact And.right (And.right (And.right (And.right (And.right (And.right (And.right (And.right (by assumption)))))))) | exact And.right (And.right (And.right (And.right (And.right (And.right (And.right (And.right (And.right (by assumption)))))))))) | refine Sub.setV ?_ (by first | assumption | exact And.right (by assumption) | exact And.right (And.right (by assumption)) | exact And.right (And.right (And.right (by assumption))) | exact And.right (And.right (And.right (And.right (by assumption)))) | exact And.right (And.right (And.right (And.right (And.right (by assumption))))) | exact And.right (And.right (And.right (And.right (And.right (And.right (by assumption)))))) | exact And.right (And.right (And.right (And.right (And.right (And.right (And.right (by assumption))))))) | exact And.right (And.right (And.right (And.right (And.right (And.right (And.right (And.right (by assumption)))))))) | exact And.right (And.right (And.right (And.right (And.right (And.right (And.right (And.right (And.right (by assumption)))))))))))), ?_⟩); simp [queryK, q1, q2, q3, q4]
end Go.Sk
end

-- W14c
section
namespace Go.Sk
open Go Go.Proofs

structure Skt.Small (s : Skt) : Prop where
  e : s.b.evs.length < 1099511627776
  h : s.past.Small
theorem Skt.Good.small {s : Skt} (hg : s.Good) : s.Small := ⟨by have := hg.len; have := hg.r2; omega, hg.pg.small⟩
theorem zeroK_small : zeroK.Small := ⟨by decide, ⟨by decide, fun l hl => by cases hl⟩⟩
set_option maxHeartbeats 1000000 in
set_option maxRecDepth 8000 in
theorem count_Same (x y : Skt) (hx : x.Small) : Pure Try.prog 19 [x.av, y.av] (bl (decide (x = y))) := fun S => by
  have hb := buf_Same x.b y.b hx.e
  have hh := hist_Same x.past y.past hx.h
  refine callR_of Try.func19 rfl rfl (xc_ok (bitB 31) _ _ _ ?_)
  simp only [go_sem, decide_true, decide_false, Nat.lt_irrefl]
  refine alloc_intro fun c2 h2 => ?_
  simp only [go_sem, decide_true, decide_false, Nat.lt_irrefl]
  refine alloc_intro fun c3 h3 => ?_
  simp only [fresh_set] at h3
  have hd : x = y ↔ x.win = y.win ∧ x.b = y.b ∧ x.past = y.past := by cases x; cases y; simp
  by_cases q1 : x.win = y.win
  rotate_left
  · have g1 : (x.win == y.win) = false := by simpa using q1
    simp only [go_sem, decide_true, decide_false, Nat.lt_irrefl, h3, g1]
    (refine ⟨S, by (repeat (first | exact Sub.refl _ | refine Sub.setF ?_ (by first | assumption | exact And.right (by assumption) | exact And.right (And.right (by assumption)) | exact And.right (And.right (And.right (by assumption))) | exact And.right (And.right (And.right (And.right (by assumption)))) | exact And.right (And.right (And.right (And.right (And.right (by assumption))))) | exact And.right (And.right (And.right (And.right (And.right (And.right (by assumption)))))) | exact And.right (And.right (And.right (And.right (And.right (And.right (And.right (by assumption))))))) | exact And.right (And.right (And.right (And.right (And.right (And.right (And.right (And.right (by assumption)))))))) | exact And.right (And.right (And.right (And.right (And.right (And.right (And.right (And.right (And.right (by assumption)))))))))) | refine Sub.setV ?_ (by first | assumption | exact And.right (by assumption) | exact And.right (And.right (by assumption)) | exact And.right (And.right (And.right (by assumption))) | exact And.right (And.right (And.right (And.right (by assumption)))) | exact And.right (And.right (And.right (And.right (And.right (by assumption))))) | exact And.right (And.right (And.right (And.right (And.right (And.right (by assumption)))))) | exact And.right (And.right (And.right (And.right (And.right (And.right (And.right (by assumption))))))) | exact And.right (And.right (And.right (And.right (And.right (And.right (And.right (And.right (by assumption)))))))) | exact And.right (And.right (And.right (And.right (And.right (And.right (And.right (And.right (And.right (by assumption)))))))))))), ?_⟩); simp [hd, q1]
  have g1 : (x.win == y.win) = true := by simpa using q1
  simp only [go_sem, decide_true, decide_false, Nat.lt_irrefl, h3, g1]
  by_cases q2 : x.b = y.b
  rotate_left
  · rw [decide_eq_false q2] at hb
    refine hb.useA ?_
    simp only [go_sem, decide_true, decide_false, Nat.lt_irrefl, h3]
    (refine ⟨S, by (repeat (first | exact Sub.refl _ | refine Sub.setF ?_ (by first | assumption | exact And.right (by assumption) | exact And.right (And.right (by assumption)) | exact And.right (And.right (And.right (by assumption))) | exact And.right (And.right (And.right (And.right (by assumption)))) | exact And.right (And.right (And.right (And.right (And.right (by assumption))))) | exact And.right (And.right (And.right (And.right (And.right (And.right (by assumption)))))) | exact And.right (And.right (And.right (And.right (And.right (And.right (And.right (by assumption))))))) | exact And.right (And.right (And.right (And.right (And.right (And.right (And.right (And.right (by assumption)))))))) | exact And.right (And.right (And.right (And.right (And.right (And.right (And.right (And.right (And.right (by assumption)))))))))) | refine Sub.setV ?_ (by first | assumption | exact And.right (by assumption) | exact And.right (And.right (by assumption)) | exact And.right (And.right (And.right (by assumption))) | exact And.right (And.right (And.right (And.right (by assumption)))) | exact And.right (And.right (And.right (And.right (And.right (by assumption))))) | exact And.right (And.right (And.right (And.right (And.right (And.right (by assumption)))))) | exact And.right (And.right (And.right (And.right (And.right (And.right (And.right (by assumption))))))) | exact And.right (And.right (And.right (And.right (And.right (And.right (And.right (And.right (by assumption)))))))) | exact And.right (And.right (And.right (And.right (And.right (And.right (And.right (And.right (And.right (by assumption)))))))))))), ?_⟩); simp [hd, q2]
  rw [decide_eq_true q2] at hb
  refine hb.useA ?_
  simp only [go_sem, decide_true, decide_false, Nat.lt_irrefl, h3]
  refine hh.useA ?_
  simp only [go_sem, decide_true, decide_false, Nat.lt_irrefl, h3]
  (refine ⟨S, by (repeat (first | exact Sub.refl _ | refine Sub.setF ?_ (by first | assumption | exact And.right (by assumption) | exact And.right (And.right (by assumption)) | exact And.right (And.right (And.right (by assumption))) | exact And.right (And.right (And.right (And.right (by assumption)))) | exact And.right (And.right (And.right (And.right (And.right (by assumption))))) | exact And.right (And.right (And.right (And.right (And.right (And.right (by assumption)))))) | exact And.right (And.right (And.right (And.right (And.right (And.right (And.right (by assumption))))))) | exact And.right (And.right (And.right (And.right (And.right (And.right (And.right (And.right (by assumption)))))))) | exact And.right (And.right (And.right (And.right (And.right (And.right (And.right (And.right (And.right (by assumption)))))))))) | refine Sub.setV ?_ (by first | assumption | exact And.right (by assumption) | exact And.right (And.right (by assumption)) | exact And.right (And.right (And.right (by assumption))) | exact And.right (And.right (And.right (And.right (by assumption)))) | exact And.right (And.right (And.right (And.right (And.right (by assumption))))) | exact And.right (And.right (And.right (And.right (And.right (And.right (by assumption)))))) | exact And.right (And.right (And.right (And.right (And.right (And.right (And.right (by assumption))))))) | exact And.right (And.right (And.right (And.right (And.right (And.right (And.right (And.right (by assumption)))))))) | exact And.right (And.right (And.right (And.right (And.right (And.right (And.right (And.right (And.right (by assumption)))))))))))), ?_⟩); simp [hd, q1, q2]
set_option maxHeartbeats 1000000 in
set_option maxRecDepth 8000 in
theorem ref14_Same (x y : Skt) (hx : x.Small) : Pure Try.prog 24 [x.av, y.av] (bl (decide (x = y))) := fun S => by
  have hb := ref12_Same x.b y.b hx.e
  have hh := ref06_Same x.past y.past hx.h
  refine callR_of Try.func24 rfl rfl (xc_ok (bitB 31) _ _ _ ?_)
  simp only [go_sem, decide_true, decide_false, Nat.lt_irrefl]
  refine alloc_intro fun c2 h2 => ?_
  simp only [go_sem, decide_true, decide_false, Nat.lt_irrefl]
  refine alloc_intro fun c3 h3 => ?_
  simp only [fresh_set] at h3
  have hd : x = y ↔ x.win = y.win ∧ x.b = y.b ∧ x.past = y.past := by cases x; cases y; simp
  by_cases q1 : x.win = y.win
  rotate_left
  · have g1 : (x.win == y.win) = false := by simpa using q1
    simp only [go_sem, decide_true, decide_false, Nat.lt_irrefl, h3, g1]
    (refine ⟨S, by (repeat (first | exact Sub.refl _ | refine Sub.setF ?_ (by first | assumption | exact And.right (by assumption) | exact And.right (And.right (by assumption)) | exact And.right (And.right (And.right (by assumption))) | exact And.right (And.right (And.right (And.right (by assumption)))) | exact And.right (And.right (And.right (And.right (And.right (by assumption))))) | exact And.right (And.right (And.right (And.right (And.right (And.right (by assumption)))))) | exact And.right (And.right (And.right (And.right (And.right (And.right (And.right (by assumption))))))) | exact And.right (And.right (And.right (And.right (And.right (And.right (And.right (And.right (by assumption)))))))) | exact And.right (And.right (And.right (And.right (And.right (And.right (And.right (And.right (And.right (by assumption)))))))))) | refine Sub.setV ?_ (by first | assumption | exact And.right (by assumption) | exact And.right (And.right (by assumption)) | exact And.right (And.right (And.right (by assumption))) | exact And.right (And.right (And.right (And.right (by assumption)))) | exact And.right (And.right (And.right (And.right (And.right (by assumption))))) | exact And.right (And.right (And.right (And.right (And.right (And.right (by assumption)))))) | exact And.right (And.right (And.right (And.right (And.right (And.right (And.right (by assumption))))))) | exact And.right (And.right (And.right (And.right (And.right (And.right (And.right (And.right (by assumption)))))))) | exact And.right (And.right (And.right (And.right (And.right (And.right (And.right (And.right (And.right (by assumption)))))))))))), ?_⟩); simp [hd, q1]
  have g1 : (x.win == y.win) = true := by simpa using q1
  simp only [go_sem, decide_true, decide_false, Nat.lt_irrefl, h3, g1]
  by_cases q2 : x.b = y.b
  rotate_left
  · rw [decide_eq_false q2] at hb
    refine hb.useA ?_
    simp only [go_sem, decide_true, decide_false, Nat.lt_irrefl, h3]
    (refine ⟨S, by (repeat (first | exact Sub.refl _ | refine Sub.setF ?_ (by first | assumption | exact And.right (by assumption) | exact And.right (And.right (by assumption)) | exact And.right (And.right (And.right (by assumption))) | exact And.right (And.right (And.right (And.right (by assumption)))) | exact And.right (And.right (And.right (And.right (And.right (by assumption))))) | exact And.right (And.right (And.right (And.right (And.right (And.right (by assumption)))))) | exact And.right (And.right (And.right (And.right (And.right (And.right (And.right (by assumption))))))) | exact And.right (And.right (And.right (And.right (And.right (And.right (And.right (And.right (by assumption)))))))) | exact And.right (And.right (And.right (And.right (And.right (And.right (And.right (And.right (And.right (by assumption)))))))))) | refine Sub.setV ?_ (by first | assumption | exact And.right (by assumption) | exact And.right (And.right (by assumption)) | exact And.right (And.right (And.right (by assumption))) | exact And.right (And.right (And.right (And.right (by assumption)))) | exact And.right (And.right (And.right (And.right (And.right (by assumption))))) | exact And.right (And.right (And.right (And.right (And.right (And.right (by assumption)))))) | exact And.right (And.right (And.right (And.right (And.right (And.right (And.right (by assumption))))))) | exact And.right (And.right (And.right (And.right (And.right (And.right (And.right (And.right (by assumption)))))))) | exact And.right (And.right (And.right (And.right (And.right (And.right (And.right (And.right (And.right (by assumption)))))))))))), ?_⟩); simp [hd, q2]
  rw [decide_eq_true q2] at hb
  refine hb.useA ?_
  simp only [go_sem, decide_true, decide_false, Nat.lt_irrefl, h3]
  refine hh.useA ?_
  simp only [go_sem, decide_true, decide_false, Nat.lt_irrefl, h3]
  (refine ⟨S, by (repeat (first | exact Sub.refl _ | refine Sub.setF ?_ (by first | assumption | exact And.right (by assumption) | exact And.right (And.right (by assumption)) | exact And.right (And.right (And.right (by assumption))) | exact And.right (And.right (And.right (And.right (by assumption)))) | exact And.right (And.right (And.right (And.right (And.right (by assumption))))) | exact And.right (And.right (And.right (And.right (And.right (And.right (by assumption)))))) | exact And.right (And.right (And.right (And.right (And.right (And.right (And.right (by assumption))))))) | exact And.right (And.right (And.right (And.right (And.right (And.right (And.right (And.right (by assumption)))))))) | exact And.right (And.right (And.right (And.right (And.right (And.right (And.right (And.right (And.right (by assumption)))))))))) | refine Sub.setV ?_ (by first | assumption | exact And.right (by assumption) | exact And.right (And.right (by assumption)) | exact And.right (And.right (And.right (by assumption))) | exact And.right (And.right (And.right (And.right (by assumption)))) | exact And.right (And.right (And.right (And.right (And.right (by assumption))))) | exact And.right (And.right (And.right (And.right (And.right (And.right (by assumption)))))) | exact And.right (And.right (And.right (And.right (And.right (And.right (And.right (by assumption))))))) | exact And.right (And.right (And.right (And.right (And.right (And.right (And.right (And.right (by assumption)))))))) | exact And.right (And.right (And.right (And.right (And.right (And.right (And.right (And.right (And.right (by assumption)))))))))))), ?_⟩); simp [hd, q1, q2]
set_option maxRecDepth 8000 in
theorem made14 (x : Skt) : Pure Try.prog 13 [x.av] x.av := fun S => by
  refine callR_of Try.func13 rfl rfl (xc_ok (bitB 31) _ _ _ ?_)
  simp only [go_sem, decide_true, decide_false, Nat.lt_irrefl]
  refine alloc_intro fun c1 h1 => ?_
  simp only [go_sem, decide_true, decide_false, Nat.lt_irrefl]
  refine alloc_intro fun c2 h2 => ?_
  simp only [fresh_set] at h2
  simp only [go_sem, decide_true, decide_false, Nat.lt_irrefl, h2]
  refine alloc_intro fun c3 h3 => ?_
  simp only [fresh_set] at h3
  simp only [go_sem, decide_true, decide_false, Nat.lt_irrefl, h2, h3]
  refine alloc_intro fun c4 h4 => ?_
  simp only [fresh_set] at h4
  simp only [go_sem, decide_true, decide_false, Nat.lt_irrefl, h2, h3, h4]
  have y1 : S (.r c1) = none := h1
  have y2 : S (.r c2) = none := h2.2
  have y3 : S (.r c3) = none := h3.2.2
  have y4 : S (.r c4) = none := h4.2.2.2
  refine ⟨S, ?_, ?_⟩
  · repeat' first
      | exact Sub.refl _
      | refine Sub.set ?_ (by assumption) _
  · simp
set_option maxRecDepth 8000 in
theorem same14 (x y : Skt) (hx : x.Small) : Pure Try.prog 9 [x.av, y.av] (bl (decide (x = y))) := fun S => by
  refine callR_of Try.func9 rfl rfl (xc_ok (bitB 127) _ _ _ ?_)
  simp only [go_sem, decide_true, decide_false, Nat.lt_irrefl]
  refine alloc_intro fun c1 h1 => ?_
  simp only [go_sem, decide_true, decide_false, Nat.lt_irrefl]
  refine alloc_intro fun c2 h2 => ?_
  simp only [fresh_set] at h2
  simp only [go_sem, decide_true, decide_false, Nat.lt_irrefl, h2]
  refine alloc_intro fun c3 h3 => ?_
  simp only [fresh_set] at h3
  simp only [go_sem, decide_true, decide_false, Nat.lt_irrefl, h2, h3]
  refine alloc_intro fun c4 h4 => ?_
  simp only [fresh_set] at h4
  simp only [go_sem, decide_true, decide_false, Nat.lt_irrefl, h2, h3, h4]
  refine (ref14_Same x y hx).useA ?_
  simp only [go_sem, decide_true, decide_false, Nat.lt_irrefl]
  have y1 : S (.r c1) = none := h1
  have y2 : S (.r c2) = none := h2.2
  have y3 : S (.r c3) = none := h3.2.2
  have y4 : S (.r c4) = none := h4.2.2.2
  refine ⟨S, ?_, ?_⟩
  · repeat' first
      | exact Sub.refl _
      | refine Sub.set ?_ (by assumption) _
  · simp
def confK (k : Int) (win late : Nat) (room : Int) : Bool := decide (1 ≤ win ∧ win ≤ 4611686018427387904 ∧ (2 ≤ k ∧ k ≤ 1024) ∧ late ≤ 4611686018427387904 ∧ 1 ≤ room ∧ room ≤ 1024)
theorem ref14_New (k : Int) (win late : Nat) (room : Int) : Pure Try.prog 10 [i64 k, u64 win, u64 late, i64 room] (newK k win late room).av := fun S => by
  refine callR_of Try.func10 rfl rfl (xc_ok (bitB 271) _ _ _ ?_)
  simp only [go_sem, decide_true, decide_false, Nat.lt_irrefl]
  refine alloc_intro fun c8 h8 => ?_
  simp only [go_sem, decide_true, decide_false, Nat.lt_irrefl]
  (refine ⟨S, by (repeat (first | exact Sub.refl _ | refine Sub.setF ?_ (by first | assumption | exact And.right (by assumption) | exact And.right (And.right (by assumption)) | exact And.right (And.right (And.right (by assumption))) | exact And.right (And.right (And.right (And.right (by assumption)))) | exact And.right (And.right (And.right (And.right (And.right (by assumption))))) | exact And.right (And.right (And.right (And.right (And.right (And.right (by assumption)))))) | exact And.right (And.right (And.right (And.right (And.right (And.right (And.right (by assumption))))))) | exact And.right (And.right (And.right (And.right (And.right (And.right (And.right (And.right (by assumption)))))))) | exact And.right (And.right (And.right (And.right (And.right (And.right (And.right (And.right (And.right (by assumption)))))))))) | refine Sub.setV ?_ (by first | assumption | exact And.right (by assumption) | exact And.right (And.right (by assumption)) | exact And.right (And.right (And.right (by assumption))) | exact And.right (And.right (And.right (And.right (by assumption)))) | exact And.right (And.right (And.right (And.right (And.right (by assumption))))) | exact And.right (And.right (And.right (And.right (And.right (And.right (by assumption)))))) | exact And.right (And.right (And.right (And.right (And.right (And.right (And.right (by assumption))))))) | exact And.right (And.right (And.right (And.right (And.right (And.right (And.right (And.right (by assumption)))))))) | exact And.right (And.right (And.right (And.right (And.right (And.right (And.right (And.right (And.right (by assumption)))))))))))), ?_⟩); simp [newK]
theorem ref14_Conf (k : Int) (win late : Nat) (room : Int) : Pure Try.prog 8 [i64 k, u64 win, u64 late, i64 room] (bl (confK k win late room)) := fun S => by
  have hm := ref06_May k
  have hc := ref12_Conf late room
  refine callR_of Try.func8 rfl rfl (xc_ok (bitB 271) _ _ _ ?_)
  simp only [go_sem, decide_true, decide_false, Nat.lt_irrefl]
  by_cases q1 : 1 ≤ win
  rotate_left
  · simp only [go_sem, decide_true, decide_false, Nat.lt_irrefl, q1]
    (refine ⟨S, by (repeat (first | exact Sub.refl _ | refine Sub.setF ?_ (by first | assumption | exact And.right (by assumption) | exact And.right (And.right (by assumption)) | exact And.right (And.right (And.right (by assumption))) | exact And.right (And.right (And.right (And.right (by assumption)))) | exact And.right (And.right (And.right (And.right (And.right (by assumption))))) | exact And.right (And.right (And.right (And.right (And.right (And.right (by assumption)))))) | exact And.right (And.right (And.right (And.right (And.right (And.right (And.right (by assumption))))))) | exact And.right (And.right (And.right (And.right (And.right (And.right (And.right (And.right (by assumption)))))))) | exact And.right (And.right (And.right (And.right (And.right (And.right (And.right (And.right (And.right (by assumption)))))))))) | refine Sub.setV ?_ (by first | assumption | exact And.right (by assumption) | exact And.right (And.right (by assumption)) | exact And.right (And.right (And.right (by assumption))) | exact And.right (And.right (And.right (And.right (by assumption)))) | exact And.right (And.right (And.right (And.right (And.right (by assumption))))) | exact And.right (And.right (And.right (And.right (And.right (And.right (by assumption)))))) | exact And.right (And.right (And.right (And.right (And.right (And.right (And.right (by assumption))))))) | exact And.right (And.right (And.right (And.right (And.right (And.right (And.right (And.right (by assumption)))))))) | exact And.right (And.right (And.right (And.right (And.right (And.right (And.right (And.right (And.right (by assumption)))))))))))), ?_⟩); simp [confK, q1]
  by_cases q2 : win ≤ 4611686018427387904
  rotate_left
  · simp only [go_sem, decide_true, decide_false, Nat.lt_irrefl, q1, q2]
    (refine ⟨S, by (repeat (first | exact Sub.refl _ | refine Sub.setF ?_ (by first | assumption | exact And.right (by assumption) | exact And.right (And.right (by assumption)) | exact And.right (And.right (And.right (by assumption))) | exact And.right (And.right (And.right (And.right (by assumption)))) | exact And.right (And.right (And.right (And.right (And.right (by assumption))))) | exact And.right (And.right (And.right (And.right (And.right (And.right (by assumption)))))) | exact And.right (And.right (And.right (And.right (And.right (And.right (And.right (by assumption))))))) | exact And.right (And.right (And.right (And.right (And.right (And.right (And.right (And.right (by assumption)))))))) | exact And.right (And.right (And.right (And.right (And.right (And.right (And.right (And.right (And.right (by assumption)))))))))) | refine Sub.setV ?_ (by first | assumption | exact And.right (by assumption) | exact And.right (And.right (by assumption)) | exact And.right (And.right (And.right (by assumption))) | exact And.right (And.right (And.right (And.right (by assumption)))) | exact And.right (And.right (And.right (And.right (And.right (by assumption))))) | exact And.right (And.right (And.right (And.right (And.right (And.right (by assumption)))))) | exact And.right (And.right (And.right (And.right (And.right (And.right (And.right (by assumption))))))) | exact And.right (And.right (And.right (And.right (And.right (And.right (And.right (And.right (by assumption)))))))) | exact And.right (And.right (And.right (And.right (And.right (And.right (And.right (And.right (And.right (by assumption)))))))))))), ?_⟩); simp [confK, q1, q2]
  simp only [go_sem, decide_true, decide_false, Nat.lt_irrefl, q1, q2]
  by_cases q3 : 2 ≤ k ∧ k ≤ 1024
  rotate_left
  · have e3 : (decide (k ≥ 2) && decide (k ≤ 1024)) = false := by rw [Bool.eq_false_iff]; intro h; simp at h; exact q3 ⟨h.1, h.2⟩
    rw [e3] at hm
    refine hm.useA ?_
    simp only [go_sem, decide_true, decide_false, Nat.lt_irrefl]
    (refine ⟨S, by (repeat (first | exact Sub.refl _ | refine Sub.setF ?_ (by first | assumption | exact And.right (by assumption) | exact And.right (And.right (by assumption)) | exact And.right (And.right (And.right (by assumption))) | exact And.right (And.right (And.right (And.right (by assumption)))) | exact And.right (And.right (And.right (And.right (And.right (by assumption))))) | exact And.right (And.right (And.right (And.right (And.right (And.right (by assumption)))))) | exact And.right (And.right (And.right (And.right (And.right (And.right (And.right (by assumption))))))) | exact And.right (And.right (And.right (And.right (And.right (And.right (And.right (And.right (by assumption)))))))) | exact And.right (And.right (And.right (And.right (And.right (And.right (And.right (And.right (And.right (by assumption)))))))))) | refine Sub.setV ?_ (by first | assumption | exact And.right (by assumption) | exact And.right (And.right (by assumption)) | exact And.right (And.right (And.right (by assumption))) | exact And.right (And.right (And.right (And.right (by assumption)))) | exact And.right (And.right (And.right (And.right (And.right (by assumption))))) | exact And.right (And.right (And.right (And.right (And.right (And.right (by assumption)))))) | exact And.right (And.right (And.right (And.right (And.right (And.right (And.right (by assumption))))))) | exact And.right (And.right (And.right (And.right (And.right (And.right (And.right (And.right (by assumption)))))))) | exact And.right (And.right (And.right (And.right (And.right (And.right (And.right (And.right (And.right (by assumption)))))))))))), ?_⟩); simp [confK, q3]
  have e3 : (decide (k ≥ 2) && decide (k ≤ 1024)) = true := by simp; omega
  rw [e3] at hm
  refine hm.useA ?_
  simp only [go_sem, decide_true, decide_false, Nat.lt_irrefl]
  refine hc.useA ?_
  simp only [go_sem, decide_true, decide_false, Nat.lt_irrefl]
  (refine ⟨S, by (repeat (first | exact Sub.refl _ | refine Sub.setF ?_ (by first | assumption | exact And.right (by assumption) | exact And.right (And.right (by assumption)) | exact And.right (And.right (And.right (by assumption))) | exact And.right (And.right (And.right (And.right (by assumption)))) | exact And.right (And.right (And.right (And.right (And.right (by assumption))))) | exact And.right (And.right (And.right (And.right (And.right (And.right (by assumption)))))) | exact And.right (And.right (And.right (And.right (And.right (And.right (And.right (by assumption))))))) | exact And.right (And.right (And.right (And.right (And.right (And.right (And.right (And.right (by assumption)))))))) | exact And.right (And.right (And.right (And.right (And.right (And.right (And.right (And.right (And.right (by assumption)))))))))) | refine Sub.setV ?_ (by first | assumption | exact And.right (by assumption) | exact And.right (And.right (by assumption)) | exact And.right (And.right (And.right (by assumption))) | exact And.right (And.right (And.right (And.right (by assumption)))) | exact And.right (And.right (And.right (And.right (And.right (by assumption))))) | exact And.right (And.right (And.right (And.right (And.right (And.right (by assumption)))))) | exact And.right (And.right (And.right (And.right (And.right (And.right (And.right (by assumption))))))) | exact And.right (And.right (And.right (And.right (And.right (And.right (And.right (And.right (by assumption)))))))) | exact And.right (And.right (And.right (And.right (And.right (And.right (And.right (And.right (And.right (by assumption)))))))))))), ?_⟩); simp [confK, q1, q2, q3]
set_option maxHeartbeats 1000000 in
set_option maxRecDepth 8000 in
theorem count_New (k : Int) (win late : Nat) (room : Int) : Pure Try.prog 7 [i64 k, u64 win, u64 late, i64 room] (.tuple [if confK k win late room = true then (newK k win late room).av else zeroK.av, i64 (if confK k win late room = true then 0 else 9)]) := fun S => by
  have hH0 := hist_New k
  have hB0 := buf_New late room
  obtain ⟨X, ex, hX, hH⟩ : ∃ X ex, (k < 2 ∨ k > 1024 → ex = (9 : Int)) ∧ (¬ (k < 2 ∨ k > 1024) → ex = 0 ∧ X = Hist.mk k 0 []) ∧ Pure Try.prog 20 [i64 k] (.tuple [X.av, i64 ex]) := by
    by_cases c : k < 2 ∨ k > 1024
    · rw [if_pos c] at hH0; exact ⟨zeroH, 9, fun _ => rfl, fun h => absurd c h, hH0⟩
    · rw [if_neg c] at hH0; exact ⟨Hist.mk k 0 [], 0, fun h => absurd h c, fun _ => ⟨rfl, rfl⟩, hH0⟩
  obtain ⟨hX2, hH⟩ := hH
  obtain ⟨Y, ey, hY, hY2, hB⟩ : ∃ Y ey, (4611686018427387904 < late ∨ room < 1 ∨ 1024 < room → ey = (9 : Int)) ∧ (¬ (4611686018427387904 < late ∨ room < 1 ∨ 1024 < room) → ey = 0 ∧ Y = Buf.mk late room 0 0 []) ∧ Pure Try.prog 21 [u64 late, i64 room] (.tuple [Y.av, i64 ey]) := by
    by_cases c : 4611686018427387904 < late ∨ room < 1 ∨ 1024 < room
    · rw [if_pos c] at hB0; exact ⟨zeroB, 9, fun _ => rfl, fun h => absurd c h, hB0⟩
    · rw [if_neg c] at hB0; exact ⟨Buf.mk late room 0 0 [], 0, fun h => absurd h c, fun _ => ⟨rfl, rfl⟩, hB0⟩
  clear hH0 hB0
  refine callR_of Try.func7 rfl rfl (xc_ok (bitB 274877923087) _ _ _ ?_)
  simp only [go_sem, decide_true, decide_false, Nat.lt_irrefl]
  refine alloc_intro fun c8 h8 => ?_
  simp only [go_sem, decide_true, decide_false, Nat.lt_irrefl]
  refine hH.useA ?_
  simp only [go_sem, decide_true, decide_false, Nat.lt_irrefl]
  refine alloc_intro fun c10 h10 => ?_
  simp only [fresh_set] at h10
  simp only [go_sem, decide_true, decide_false, Nat.lt_irrefl, h10]
  refine hB.useA ?_
  simp only [go_sem, decide_true, decide_false, Nat.lt_irrefl, h10]
  refine alloc_intro fun c12 h12 => ?_
  simp only [fresh_set] at h12
  have y8 : S (.r c8) = none := h8
  have y10 : S (.r c10) = none := h10.2
  have y12 : S (.r c12) = none := h12.2.2
  by_cases q1 : k < 2 ∨ k > 1024
  · have g1 : (ex != 0) = true := by rw [hX q1]; rfl
    simp only [go_sem, decide_true, decide_false, Nat.lt_irrefl, h10, h12, g1]
    refine ⟨S, ?_, ?_⟩
    · repeat' first
        | exact Sub.refl _
        | refine Sub.set ?_ (by assumption) _
    · have hc : confK k win late room = false := by unfold confK; rw [decide_eq_false]; omega
      rw [hc]; simp [zeroK, zeroB, zeroH]
  obtain ⟨rfl, rfl⟩ := hX2 q1
  by_cases q2 : 4611686018427387904 < late ∨ room < 1 ∨ 1024 < room
  · have g2 : (ey != 0) = true := by rw [hY q2]; rfl
    simp only [go_sem, decide_true, decide_false, Nat.lt_irrefl, h10, h12, g2, bne_self_eq_false]
    refine ⟨S, ?_, ?_⟩
    · repeat' first
        | exact Sub.refl _
        | refine Sub.set ?_ (by assumption) _
    · have hc : confK k win late room = false := by unfold confK; rw [decide_eq_false]; omega
      rw [hc]; simp [zeroK, zeroB, zeroH]
  obtain ⟨rfl, rfl⟩ := hY2 q2
  by_cases q3 : win < 1
  · simp only [go_sem, decide_true, decide_false, Nat.lt_irrefl, h10, h12, q3, bne_self_eq_false]
    refine ⟨S, ?_, ?_⟩
    · repeat' first
        | exact Sub.refl _
        | refine Sub.set ?_ (by assumption) _
    · have hc : confK k win late room = false := by unfold confK; rw [decide_eq_false]; omega
      rw [hc]; simp [zeroK, zeroB, zeroH]
  by_cases q4 : 4611686018427387904 < win
  · simp only [go_sem, decide_true, decide_false, Nat.lt_irrefl, h10, h12, q3, q4, bne_self_eq_false]
    refine ⟨S, ?_, ?_⟩
    · repeat' first
        | exact Sub.refl _
        | refine Sub.set ?_ (by assumption) _
    · have hc : confK k win late room = false := by unfold confK; rw [decide_eq_false]; omega
      rw [hc]; simp [zeroK, zeroB, zeroH]
  simp only [go_sem, decide_true, decide_false, Nat.lt_irrefl, h10, h12, q3, q4, bne_self_eq_false]
  have hy : confK k win late room = true := by unfold confK; rw [decide_eq_true]; omega
  refine ⟨S, ?_, ?_⟩
  · repeat' first
      | exact Sub.refl _
      | refine Sub.set ?_ (by assumption) _
  · rw [hy]; simp [newK]
end Go.Sk
end

-- W14f
section
namespace Go.Sk
open Go Go.Proofs

def s14 : Skt := ⟨10, ⟨2, 9, 5, 3, [⟨5, 0, 3⟩]⟩, ⟨2, 0, []⟩⟩
theorem push14 : pushB ⟨2, 9, 0, 0, []⟩ ⟨5, 0, 3⟩ = ((⟨2, 9, 5, 3, [⟨5, 0, 3⟩]⟩, []), 0) := by
  have h : settleN 9 [⟨5, 0, 3⟩] 3 = (3, 0) := by rw [settleN_end (by decide)]; rfl
  unfold pushB
  rw [if_neg (by decide), if_neg (by decide), if_neg (by decide)]
  unfold settleB
  show ((Buf.mk _ _ _ (settleN 9 [⟨5, 0, 3⟩] 3).1 (List.drop (settleN 9 [⟨5, 0, 3⟩] 3).2 _), List.take (settleN 9 [⟨5, 0, 3⟩] 3).2 _), (0 : Int)) = _
  rw [h]; rfl
theorem add14 : addK (newK 2 10 2 9) ⟨5, 0, 3⟩ = (s14, 0) := by
  unfold addK newK
  dsimp only
  rw [push14, if_pos rfl, if_neg (by decide)]
  rfl
theorem qa14 : queryK s14 5 10 = (3, 0) := by
  have h1 : estV ([] : List (List Span)) 5 10 = 0 := by
    show m64 (0 + 0 / 2) = 0
    exact m64_id (by decide)
  have h2 : spanV [⟨5, 0, 3⟩] 5 10 = 3 := by
    show (if withinV 5 10 ⟨5, 0, 3⟩ = true then m64 (0 + 3) else 0) = 3
    rw [if_pos (by unfold withinV; decide), m64_id (by decide)]
  unfold queryK s14
  dsimp only
  rw [if_neg (by decide), if_neg (by decide), h1, h2, m64_id (by decide)]
theorem qb14 : queryK s14 2 10 = (0, 6) := by
  unfold queryK
  rw [if_pos (by decide)]
theorem g14 : (newK 2 10 2 9).Good := (newK_good (by decide) (by decide) (by decide) (by decide) (by decide) (by decide) (by decide)).1
theorem gs14 : s14.Good := by
  have h : (oneK (newK 2 10 2 9) ⟨5, 0, 3⟩) = (s14, 0) := by unfold oneK; rw [if_neg (by decide)]; exact add14
  have := (oneK_ok g14 ⟨5, 0, 3⟩ (by rw [h])).1
  rw [h] at this; exact this
set_option maxHeartbeats 1000000 in
set_option maxRecDepth 8000 in
theorem awake14 : Pure Try.prog 6 [] (bl true) := fun S => by
  have hN := count_New 2 10 2 9
  have hc : confK 2 10 2 9 = true := by decide
  rw [hc] at hN
  simp only [if_true] at hN
  have hA := count_Add (newK 2 10 2 9) g14 ⟨5, 0, 3⟩ ⟨by decide, by decide, by decide⟩
  rw [add14] at hA
  have hQ := count_Query s14 gs14 5 10
  rw [qa14] at hQ
  have hR := count_Query s14 gs14 2 10
  rw [qb14] at hR
  have hS := count_Same s14 s14 gs14.small
  rw [decide_eq_true (rfl : s14 = s14)] at hS
  have hD := count_Same (newK 2 10 2 9) s14 g14.small
  rw [decide_eq_false (by decide)] at hD
  refine callR_of Try.func6 rfl rfl (xc_ok (bitB 383) _ _ _ ?_)
  simp only [go_sem, decide_true, decide_false, Nat.lt_irrefl]
  refine hN.useA ?_
  simp only [go_sem, decide_true, decide_false, Nat.lt_irrefl]
  refine alloc_intro fun c1 h1 => ?_
  simp only [go_sem, decide_true, decide_false, Nat.lt_irrefl]
  refine hA.useA ?_
  simp only [go_sem, decide_true, decide_false, Nat.lt_irrefl]
  refine alloc_intro fun c3 h3 => ?_
  simp only [fresh_set] at h3
  simp only [go_sem, decide_true, decide_false, Nat.lt_irrefl, h3]
  refine hQ.useA ?_
  simp only [go_sem, decide_true, decide_false, Nat.lt_irrefl, h3]
  refine hR.useA ?_
  simp only [go_sem, decide_true, decide_false, Nat.lt_irrefl, h3, beq_self_eq_true]
  refine hS.useA ?_
  simp only [go_sem, decide_true, decide_false, Nat.lt_irrefl, h3]
  refine hD.useA ?_
  simp only [go_sem, decide_true, decide_false, Nat.lt_irrefl, h3]
  have y1 : S (.r c1) = none := h1
  have y3 : S (.r c3) = none := h3.2
  exact ⟨S, by repeat' first | exact Sub.refl _ | refine Sub.set ?_ (by assumption) _, Or.inl rfl⟩
end Go.Sk
end

-- W14d
section
namespace Go.Sk
open Go Go.Proofs

theorem Hist.Ok.lo {h : Hist} (g : h.Good) : h.Lo := g.lo
set_option maxHeartbeats 1000000 in
set_option maxRecDepth 4000 in
theorem ref14_pass (s : Skt) (b : Buf) (out : List Event) (hp : Pre s out) : Pure Try.prog 48 [(Skt.mk s.win b s.past).av, .p (evsP out)] (passK s b out).av := fun S => by
  have hn := hp.len
  refine callR_of Try.func48 rfl rfl (xc_ok (bitB 2167) _ _ _ ?_)
  simp only [go_sem, decide_true, decide_false, Nat.lt_irrefl]
  refine alloc_intro fun c2 h2 => ?_
  simp only [go_sem, decide_true, decide_false, Nat.lt_irrefl]
  refine alloc_intro fun c4 h4 => ?_
  simp only [fresh_set] at h4
  simp only [go_sem, decide_true, decide_false, Nat.lt_irrefl, h4]
  have y2 : S (.r c2) = none := h2
  have y4 : S (.r c4) = none := h4.2
  have n42 : ¬ c4 = c2 ∧ ¬ c2 = c4 := h4.1
  refine AWP.iter (fun i => ⟨Env.get [(1, .p (evsP out)), (2, .sp c2 0), (4, .sp c4 0), (5, i64 i)], (S.set (.r c2) (.cells [u64 s.win, u64 b.late, i64 b.room, u64 b.mark, u64 b.front, .p (.sl (b.evs.map Event.pv)), i64 (passV s.past (out.take i)).k, i64 (passV s.past (out.take i)).g, .p (.sl ((passV s.past (out.take i)).ls.map lvE))])).set (.r c4) (.cells [u64 0, u64 0, i64 0, u64 0, u64 0, .nils, i64 0, i64 0, .nils]), 42, []⟩) out.length ?_ ?_ ?_
  · refine le_of (by simp only [go_sem, decide_true, decide_false, Nat.lt_irrefl] <;> simp) ?_ rfl rfl (by simp)
    have h0 : passV s.past [] = s.past := rfl
    ((try dsimp only); (repeat refine sub_set ?_ ?_) <;> first | ((repeat (first | exact Sub.refl _ | refine Sub.setF ?_ (by first | assumption | exact And.right (by assumption) | exact And.right (And.right (by assumption)) | exact And.right (And.right (And.right (by assumption))) | exact And.right (And.right (And.right (And.right (by assumption)))) | exact And.right (And.right (And.right (And.right (And.right (by assumption))))) | exact And.right (And.right (And.right (And.right (And.right (And.right (by assumption)))))) | exact And.right (And.right (And.right (And.right (And.right (And.right (And.right (by assumption))))))) | exact And.right (And.right (And.right (And.right (And.right (And.right (And.right (And.right (by assumption)))))))) | exact And.right (And.right (And.right (And.right (And.right (And.right (And.right (And.right (And.right (by assumption)))))))))) | refine Sub.setV ?_ (by first | assumption | exact And.right (by assumption) | exact And.right (And.right (by assumption)) | exact And.right (And.right (And.right (by assumption))) | exact And.right (And.right (And.right (And.right (by assumption)))) | exact And.right (And.right (And.right (And.right (And.right (by assumption))))) | exact And.right (And.right (And.right (And.right (And.right (And.right (by assumption)))))) | exact And.right (And.right (And.right (And.right (And.right (And.right (And.right (by assumption))))))) | exact And.right (And.right (And.right (And.right (And.right (And.right (And.right (And.right (by assumption)))))))) | exact And.right (And.right (And.right (And.right (And.right (And.right (And.right (And.right (And.right (by assumption)))))))))))); done) | (simp only [go_sem, decide_true, decide_false, Nat.lt_irrefl, n42, List.take_zero, h0]; done) | (simp only [go_sem, decide_true, decide_false, Nat.lt_irrefl, n42, List.take_zero, h0]; rfl) | rfl)
  · intro i hi ih
    have hgo := hp.good i (by omega)
    refine AWPH.step (xc_ok (bitB 2167) _ _ _ ?_)
    simp only [go_sem, decide_true, decide_false, Nat.lt_irrefl, evsP, hi, ltN' hi, List.length_map]
    refine AWP.draw2 (bitB 2167) mixed (by kernel_rfl) (fun j => .tuple [(addH (passV s.past (out.take i)) (out[i]).t (out[i]).w).1.av, i64 (addH (passV s.past (out.take i)) (out[i]).t (out[i]).w).2]) ?_
    simp only [go_sem, decide_true, decide_false, Nat.lt_irrefl, evsP, n42, hi, ltN' hi, getD_map' _ _ _ _ hi]
    refine ⟨(ref06_addH (passV s.past (out.take i)) hgo.ok (out[i]).t (out[i]).w (hp.w _ (List.getElem_mem hi))).draw, alloc_intro fun c6 h6 => ?_⟩
    simp only [fresh_set] at h6
    have hs := passV_snoc s.past out i hi
    rw [← hs]
    simp only [go_sem, decide_true, decide_false, Nat.lt_irrefl, n42, h6]
    refine ih.back ?_ (by simp) ?_
    · ((try dsimp only); (repeat refine sub_set ?_ ?_) <;> first | ((repeat (first | exact Sub.refl _ | refine Sub.setF ?_ (by first | assumption | exact And.right (by assumption) | exact And.right (And.right (by assumption)) | exact And.right (And.right (And.right (by assumption))) | exact And.right (And.right (And.right (And.right (by assumption)))) | exact And.right (And.right (And.right (And.right (And.right (by assumption))))) | exact And.right (And.right (And.right (And.right (And.right (And.right (by assumption)))))) | exact And.right (And.right (And.right (And.right (And.right (And.right (And.right (by assumption))))))) | exact And.right (And.right (And.right (And.right (And.right (And.right (And.right (And.right (by assumption)))))))) | exact And.right (And.right (And.right (And.right (And.right (And.right (And.right (And.right (And.right (by assumption)))))))))) | refine Sub.setV ?_ (by first | assumption | exact And.right (by assumption) | exact And.right (And.right (by assumption)) | exact And.right (And.right (And.right (by assumption))) | exact And.right (And.right (And.right (And.right (by assumption)))) | exact And.right (And.right (And.right (And.right (And.right (by assumption))))) | exact And.right (And.right (And.right (And.right (And.right (And.right (by assumption)))))) | exact And.right (And.right (And.right (And.right (And.right (And.right (And.right (by assumption))))))) | exact And.right (And.right (And.right (And.right (And.right (And.right (And.right (And.right (by assumption)))))))) | exact And.right (And.right (And.right (And.right (And.right (And.right (And.right (And.right (And.right (by assumption)))))))))))); done) | (simp only [go_sem, decide_true, decide_false, Nat.lt_irrefl, n42, h6]; done) | (simp only [go_sem, decide_true, decide_false, Nat.lt_irrefl, n42, h6]; rfl) | rfl)
    · simp only [go_sem, decide_true, decide_false, Nat.lt_irrefl, evsP, wi_succ (show i < 4611686018427387904 by omega)]
  · refine AWPH.step (xc_ok (bitB 2167) _ _ _ ?_)
    have hfin := hp.good out.length (Nat.le_refl _)
    have htd := hp.tidy
    rw [List.take_length] at hfin
    have hD := ref07_Drop (passV s.past out).k (passV s.past out).g (passV s.past out).ls b.front s.win hfin.lo.1 hfin.lo.2
    rw [docD_eq (oldV_anti b.front s.win) htd hfin.ne] at hD
    simp only [go_sem, decide_true, decide_false, Nat.lt_irrefl, evsP, n42, List.length_map, List.take_length]
    refine hD.useA ?_
    simp only [go_sem, decide_true, decide_false, Nat.lt_irrefl, n42]
    refine ⟨S, ?_, ?_⟩
    · repeat' first
        | exact Sub.refl _
        | refine Sub.set ?_ (by assumption) _
    · simp [passK, dropH]
theorem ref14_heavy (a c : Nat) (ha : a ≤ 4503599627370496) : Pure Try.prog 50 [u64 a, u64 c] (bl (decide (4503599627370496 < a + c))) := fun S => by
  refine callR_of Try.func50 rfl rfl (xc_ok (bitB 19) _ _ _ ?_)
  simp only [go_sem, decide_true, decide_false, Nat.lt_irrefl]
  by_cases q1 : 4503599627370496 < c
  · simp only [go_sem, decide_true, decide_false, Nat.lt_irrefl, q1]
    (refine ⟨S, by (repeat (first | exact Sub.refl _ | refine Sub.setF ?_ (by first | assumption | exact And.right (by assumption) | exact And.right (And.right (by assumption)) | exact And.right (And.right (And.right (by assumption))) | exact And.right (And.right (And.right (And.right (by assumption)))) | exact And.right (And.right (And.right (And.right (And.right (by assumption))))) | exact And.right (And.right (And.right (And.right (And.right (And.right (by assumption)))))) | exact And.right (And.right (And.right (And.right (And.right (And.right (And.right (by assumption))))))) | exact And.right (And.right (And.right (And.right (And.right (And.right (And.right (And.right (by assumption)))))))) | exact And.right (And.right (And.right (And.right (And.right (And.right (And.right (And.right (And.right (by assumption)))))))))) | refine Sub.setV ?_ (by first | assumption | exact And.right (by assumption) | exact And.right (And.right (by assumption)) | exact And.right (And.right (And.right (by assumption))) | exact And.right (And.right (And.right (And.right (by assumption)))) | exact And.right (And.right (And.right (And.right (And.right (by assumption))))) | exact And.right (And.right (And.right (And.right (And.right (And.right (by assumption)))))) | exact And.right (And.right (And.right (And.right (And.right (And.right (And.right (by assumption))))))) | exact And.right (And.right (And.right (And.right (And.right (And.right (And.right (And.right (by assumption)))))))) | exact And.right (And.right (And.right (And.right (And.right (And.right (And.right (And.right (And.right (by assumption)))))))))))), ?_⟩); simp; omega
  · have hm : m64 (a + c) = a + c := m64_id (by omega)
    simp only [go_sem, decide_true, decide_false, Nat.lt_irrefl, q1, hm]
    (refine ⟨S, by (repeat (first | exact Sub.refl _ | refine Sub.setF ?_ (by first | assumption | exact And.right (by assumption) | exact And.right (And.right (by assumption)) | exact And.right (And.right (And.right (by assumption))) | exact And.right (And.right (And.right (And.right (by assumption)))) | exact And.right (And.right (And.right (And.right (And.right (by assumption))))) | exact And.right (And.right (And.right (And.right (And.right (And.right (by assumption)))))) | exact And.right (And.right (And.right (And.right (And.right (And.right (And.right (by assumption))))))) | exact And.right (And.right (And.right (And.right (And.right (And.right (And.right (And.right (by assumption)))))))) | exact And.right (And.right (And.right (And.right (And.right (And.right (And.right (And.right (And.right (by assumption)))))))))) | refine Sub.setV ?_ (by first | assumption | exact And.right (by assumption) | exact And.right (And.right (by assumption)) | exact And.right (And.right (And.right (by assumption))) | exact And.right (And.right (And.right (And.right (by assumption)))) | exact And.right (And.right (And.right (And.right (And.right (by assumption))))) | exact And.right (And.right (And.right (And.right (And.right (And.right (by assumption)))))) | exact And.right (And.right (And.right (And.right (And.right (And.right (And.right (by assumption))))))) | exact And.right (And.right (And.right (And.right (And.right (And.right (And.right (And.right (by assumption)))))))) | exact And.right (And.right (And.right (And.right (And.right (And.right (And.right (And.right (And.right (by assumption)))))))))))), ?_⟩); simp
theorem ref14_Asked (b : Buf) (win tick span : Nat) : Pure Try.prog 27 [b.av, u64 win, u64 tick, u64 span] (i64 (if tick < b.front ∨ 9223372036854775807 < tick then 6 else if span = 0 ∨ win < span then 8 else 0)) := fun S => by
  refine callR_of Try.func27 rfl rfl (xc_ok (bitB 8454431) _ _ _ ?_)
  simp only [go_sem, decide_true, decide_false, Nat.lt_irrefl]
  refine alloc_intro fun c4 h4 => ?_
  simp only [go_sem, decide_true, decide_false, Nat.lt_irrefl]
  by_cases q1 : tick < b.front
  · simp only [go_sem, decide_true, decide_false, Nat.lt_irrefl, q1]
    (refine ⟨S, by (repeat (first | exact Sub.refl _ | refine Sub.setF ?_ (by first | assumption | exact And.right (by assumption) | exact And.right (And.right (by assumption)) | exact And.right (And.right (And.right (by assumption))) | exact And.right (And.right (And.right (And.right (by assumption)))) | exact And.right (And.right (And.right (And.right (And.right (by assumption))))) | exact And.right (And.right (And.right (And.right (And.right (And.right (by assumption)))))) | exact And.right (And.right (And.right (And.right (And.right (And.right (And.right (by assumption))))))) | exact And.right (And.right (And.right (And.right (And.right (And.right (And.right (And.right (by assumption)))))))) | exact And.right (And.right (And.right (And.right (And.right (And.right (And.right (And.right (And.right (by assumption)))))))))) | refine Sub.setV ?_ (by first | assumption | exact And.right (by assumption) | exact And.right (And.right (by assumption)) | exact And.right (And.right (And.right (by assumption))) | exact And.right (And.right (And.right (And.right (by assumption)))) | exact And.right (And.right (And.right (And.right (And.right (by assumption))))) | exact And.right (And.right (And.right (And.right (And.right (And.right (by assumption)))))) | exact And.right (And.right (And.right (And.right (And.right (And.right (And.right (by assumption))))))) | exact And.right (And.right (And.right (And.right (And.right (And.right (And.right (And.right (by assumption)))))))) | exact And.right (And.right (And.right (And.right (And.right (And.right (And.right (And.right (And.right (by assumption)))))))))))), ?_⟩); simp [q1]
  by_cases q2 : 9223372036854775807 < tick
  · simp only [go_sem, decide_true, decide_false, Nat.lt_irrefl, q1, q2]
    (refine ⟨S, by (repeat (first | exact Sub.refl _ | refine Sub.setF ?_ (by first | assumption | exact And.right (by assumption) | exact And.right (And.right (by assumption)) | exact And.right (And.right (And.right (by assumption))) | exact And.right (And.right (And.right (And.right (by assumption)))) | exact And.right (And.right (And.right (And.right (And.right (by assumption))))) | exact And.right (And.right (And.right (And.right (And.right (And.right (by assumption)))))) | exact And.right (And.right (And.right (And.right (And.right (And.right (And.right (by assumption))))))) | exact And.right (And.right (And.right (And.right (And.right (And.right (And.right (And.right (by assumption)))))))) | exact And.right (And.right (And.right (And.right (And.right (And.right (And.right (And.right (And.right (by assumption)))))))))) | refine Sub.setV ?_ (by first | assumption | exact And.right (by assumption) | exact And.right (And.right (by assumption)) | exact And.right (And.right (And.right (by assumption))) | exact And.right (And.right (And.right (And.right (by assumption)))) | exact And.right (And.right (And.right (And.right (And.right (by assumption))))) | exact And.right (And.right (And.right (And.right (And.right (And.right (by assumption)))))) | exact And.right (And.right (And.right (And.right (And.right (And.right (And.right (by assumption))))))) | exact And.right (And.right (And.right (And.right (And.right (And.right (And.right (And.right (by assumption)))))))) | exact And.right (And.right (And.right (And.right (And.right (And.right (And.right (And.right (And.right (by assumption)))))))))))), ?_⟩); simp [q2]
  by_cases q3 : span = 0
  · have g3 : (span == 0) = true := by simpa using q3
    simp only [go_sem, decide_true, decide_false, Nat.lt_irrefl, q1, q2, g3]
    (refine ⟨S, by (repeat (first | exact Sub.refl _ | refine Sub.setF ?_ (by first | assumption | exact And.right (by assumption) | exact And.right (And.right (by assumption)) | exact And.right (And.right (And.right (by assumption))) | exact And.right (And.right (And.right (And.right (by assumption)))) | exact And.right (And.right (And.right (And.right (And.right (by assumption))))) | exact And.right (And.right (And.right (And.right (And.right (And.right (by assumption)))))) | exact And.right (And.right (And.right (And.right (And.right (And.right (And.right (by assumption))))))) | exact And.right (And.right (And.right (And.right (And.right (And.right (And.right (And.right (by assumption)))))))) | exact And.right (And.right (And.right (And.right (And.right (And.right (And.right (And.right (And.right (by assumption)))))))))) | refine Sub.setV ?_ (by first | assumption | exact And.right (by assumption) | exact And.right (And.right (by assumption)) | exact And.right (And.right (And.right (by assumption))) | exact And.right (And.right (And.right (And.right (by assumption)))) | exact And.right (And.right (And.right (And.right (And.right (by assumption))))) | exact And.right (And.right (And.right (And.right (And.right (And.right (by assumption)))))) | exact And.right (And.right (And.right (And.right (And.right (And.right (And.right (by assumption))))))) | exact And.right (And.right (And.right (And.right (And.right (And.right (And.right (And.right (by assumption)))))))) | exact And.right (And.right (And.right (And.right (And.right (And.right (And.right (And.right (And.right (by assumption)))))))))))), ?_⟩); simp [q1, q2, q3]
  have g3 : (span == 0) = false := by simpa using q3
  by_cases q4 : win < span
  · simp only [go_sem, decide_true, decide_false, Nat.lt_irrefl, q1, q2, g3, q4]
    (refine ⟨S, by (repeat (first | exact Sub.refl _ | refine Sub.setF ?_ (by first | assumption | exact And.right (by assumption) | exact And.right (And.right (by assumption)) | exact And.right (And.right (And.right (by assumption))) | exact And.right (And.right (And.right (And.right (by assumption)))) | exact And.right (And.right (And.right (And.right (And.right (by assumption))))) | exact And.right (And.right (And.right (And.right (And.right (And.right (by assumption)))))) | exact And.right (And.right (And.right (And.right (And.right (And.right (And.right (by assumption))))))) | exact And.right (And.right (And.right (And.right (And.right (And.right (And.right (And.right (by assumption)))))))) | exact And.right (And.right (And.right (And.right (And.right (And.right (And.right (And.right (And.right (by assumption)))))))))) | refine Sub.setV ?_ (by first | assumption | exact And.right (by assumption) | exact And.right (And.right (by assumption)) | exact And.right (And.right (And.right (by assumption))) | exact And.right (And.right (And.right (And.right (by assumption)))) | exact And.right (And.right (And.right (And.right (And.right (by assumption))))) | exact And.right (And.right (And.right (And.right (And.right (And.right (by assumption)))))) | exact And.right (And.right (And.right (And.right (And.right (And.right (And.right (by assumption))))))) | exact And.right (And.right (And.right (And.right (And.right (And.right (And.right (And.right (by assumption)))))))) | exact And.right (And.right (And.right (And.right (And.right (And.right (And.right (And.right (And.right (by assumption)))))))))))), ?_⟩); simp [q1, q2, q3, q4]
  · simp only [go_sem, decide_true, decide_false, Nat.lt_irrefl, q1, q2, g3, q4]
    (refine ⟨S, by (repeat (first | exact Sub.refl _ | refine Sub.setF ?_ (by first | assumption | exact And.right (by assumption) | exact And.right (And.right (by assumption)) | exact And.right (And.right (And.right (by assumption))) | exact And.right (And.right (And.right (And.right (by assumption)))) | exact And.right (And.right (And.right (And.right (And.right (by assumption))))) | exact And.right (And.right (And.right (And.right (And.right (And.right (by assumption)))))) | exact And.right (And.right (And.right (And.right (And.right (And.right (And.right (by assumption))))))) | exact And.right (And.right (And.right (And.right (And.right (And.right (And.right (And.right (by assumption)))))))) | exact And.right (And.right (And.right (And.right (And.right (And.right (And.right (And.right (And.right (by assumption)))))))))) | refine Sub.setV ?_ (by first | assumption | exact And.right (by assumption) | exact And.right (And.right (by assumption)) | exact And.right (And.right (And.right (by assumption))) | exact And.right (And.right (And.right (And.right (by assumption)))) | exact And.right (And.right (And.right (And.right (And.right (by assumption))))) | exact And.right (And.right (And.right (And.right (And.right (And.right (by assumption)))))) | exact And.right (And.right (And.right (And.right (And.right (And.right (And.right (by assumption))))))) | exact And.right (And.right (And.right (And.right (And.right (And.right (And.right (And.right (by assumption)))))))) | exact And.right (And.right (And.right (And.right (And.right (And.right (And.right (And.right (And.right (by assumption)))))))))))), ?_⟩); simp [q1, q2, q3, q4]
theorem ref14_Query (s : Skt) (hg : s.Good) (tick span : Nat) : Pure Try.prog 14 [s.av, u64 tick, u64 span] (.tuple [u64 (queryK s tick span).1, i64 (queryK s tick span).2]) := fun S => by
  obtain ⟨hz, hn⟩ := hg.sz
  have hE := ref08_Of s.past.k s.past.g s.past.ls tick span (by have := hg.pg.len; omega) (fun l hl => by have := hg.pg.sm l hl; have := hg.pg.k1; omega)
  have hQ := ref13_Sum s.b.evs tick span (by omega)
  have hA := ref14_Asked s.b s.win tick span
  refine callR_of Try.func14 rfl rfl (xc_ok (bitB 131535) _ _ _ ?_)
  simp only [go_sem, decide_true, decide_false, Nat.lt_irrefl]
  refine alloc_intro fun c3 h3 => ?_
  simp only [go_sem, decide_true, decide_false, Nat.lt_irrefl]
  refine hA.useA ?_
  by_cases q1 : tick < s.b.front ∨ 9223372036854775807 < tick
  · rw [if_pos q1]
    have g : ((6 : Int) != 0) = true := by decide
    simp only [go_sem, decide_true, decide_false, Nat.lt_irrefl, g]
    (refine ⟨S, by (repeat (first | exact Sub.refl _ | refine Sub.setF ?_ (by first | assumption | exact And.right (by assumption) | exact And.right (And.right (by assumption)) | exact And.right (And.right (And.right (by assumption))) | exact And.right (And.right (And.right (And.right (by assumption)))) | exact And.right (And.right (And.right (And.right (And.right (by assumption))))) | exact And.right (And.right (And.right (And.right (And.right (And.right (by assumption)))))) | exact And.right (And.right (And.right (And.right (And.right (And.right (And.right (by assumption))))))) | exact And.right (And.right (And.right (And.right (And.right (And.right (And.right (And.right (by assumption)))))))) | exact And.right (And.right (And.right (And.right (And.right (And.right (And.right (And.right (And.right (by assumption)))))))))) | refine Sub.setV ?_ (by first | assumption | exact And.right (by assumption) | exact And.right (And.right (by assumption)) | exact And.right (And.right (And.right (by assumption))) | exact And.right (And.right (And.right (And.right (by assumption)))) | exact And.right (And.right (And.right (And.right (And.right (by assumption))))) | exact And.right (And.right (And.right (And.right (And.right (And.right (by assumption)))))) | exact And.right (And.right (And.right (And.right (And.right (And.right (And.right (by assumption))))))) | exact And.right (And.right (And.right (And.right (And.right (And.right (And.right (And.right (by assumption)))))))) | exact And.right (And.right (And.right (And.right (And.right (And.right (And.right (And.right (And.right (by assumption)))))))))))), ?_⟩); simp [queryK, q1]
  rw [if_neg q1]
  by_cases q2 : span = 0 ∨ s.win < span
  · rw [if_pos q2]
    have g : ((8 : Int) != 0) = true := by decide
    simp only [go_sem, decide_true, decide_false, Nat.lt_irrefl, g]
    (refine ⟨S, by (repeat (first | exact Sub.refl _ | refine Sub.setF ?_ (by first | assumption | exact And.right (by assumption) | exact And.right (And.right (by assumption)) | exact And.right (And.right (And.right (by assumption))) | exact And.right (And.right (And.right (And.right (by assumption)))) | exact And.right (And.right (And.right (And.right (And.right (by assumption))))) | exact And.right (And.right (And.right (And.right (And.right (And.right (by assumption)))))) | exact And.right (And.right (And.right (And.right (And.right (And.right (And.right (by assumption))))))) | exact And.right (And.right (And.right (And.right (And.right (And.right (And.right (And.right (by assumption)))))))) | exact And.right (And.right (And.right (And.right (And.right (And.right (And.right (And.right (And.right (by assumption)))))))))) | refine Sub.setV ?_ (by first | assumption | exact And.right (by assumption) | exact And.right (And.right (by assumption)) | exact And.right (And.right (And.right (by assumption))) | exact And.right (And.right (And.right (And.right (by assumption)))) | exact And.right (And.right (And.right (And.right (And.right (by assumption))))) | exact And.right (And.right (And.right (And.right (And.right (And.right (by assumption)))))) | exact And.right (And.right (And.right (And.right (And.right (And.right (And.right (by assumption))))))) | exact And.right (And.right (And.right (And.right (And.right (And.right (And.right (And.right (by assumption)))))))) | exact And.right (And.right (And.right (And.right (And.right (And.right (And.right (And.right (And.right (by assumption)))))))))))), ?_⟩); simp [queryK, q1, q2]
  rw [if_neg q2]
  simp only [go_sem, decide_true, decide_false, Nat.lt_irrefl, bne_self_eq_false]
  refine AWP.draw2 (bitB 131535) mixed (by kernel_rfl) (fun j => if j = 4 then u64 (estV s.past.ls tick span) else u64 (spanV s.b.evs tick span)) ?_
  simp only [go_sem, decide_true, decide_false, Nat.lt_irrefl]
  refine ⟨hE.draw, hQ.draw, ?_⟩
  (refine ⟨S, by (repeat (first | exact Sub.refl _ | refine Sub.setF ?_ (by first | assumption | exact And.right (by assumption) | exact And.right (And.right (by assumption)) | exact And.right (And.right (And.right (by assumption))) | exact And.right (And.right (And.right (And.right (by assumption)))) | exact And.right (And.right (And.right (And.right (And.right (by assumption))))) | exact And.right (And.right (And.right (And.right (And.right (And.right (by assumption)))))) | exact And.right (And.right (And.right (And.right (And.right (And.right (And.right (by assumption))))))) | exact And.right (And.right (And.right (And.right (And.right (And.right (And.right (And.right (by assumption)))))))) | exact And.right (And.right (And.right (And.right (And.right (And.right (And.right (And.right (And.right (by assumption)))))))))) | refine Sub.setV ?_ (by first | assumption | exact And.right (by assumption) | exact And.right (And.right (by assumption)) | exact And.right (And.right (And.right (by assumption))) | exact And.right (And.right (And.right (And.right (by assumption)))) | exact And.right (And.right (And.right (And.right (And.right (by assumption))))) | exact And.right (And.right (And.right (And.right (And.right (And.right (by assumption)))))) | exact And.right (And.right (And.right (And.right (And.right (And.right (And.right (by assumption))))))) | exact And.right (And.right (And.right (And.right (And.right (And.right (And.right (And.right (by assumption)))))))) | exact And.right (And.right (And.right (And.right (And.right (And.right (And.right (And.right (And.right (by assumption)))))))))))), ?_⟩); simp [queryK, q1, q2]
set_option maxHeartbeats 1000000 in
set_option maxRecDepth 4000 in
theorem ref14_Add (s : Skt) (hg : s.Good) (e : Event) (he : e.Ok) : Pure Try.prog 31 [s.av, e.av] (.tuple [(addK s e).1.av, i64 (addK s e).2]) := fun S => by
  obtain ⟨hz, hn⟩ := hg.sz
  obtain ⟨w1, w2⟩ := hg.wt
  have htot := hg.tot
  refine callR_of Try.func31 rfl rfl (xc_ok (bitB 1074004479) _ _ _ ?_)
  simp only [go_sem, decide_true, decide_false, Nat.lt_irrefl]
  refine alloc_intro fun c2 h2 => ?_
  simp only [go_sem, decide_true, decide_false, Nat.lt_irrefl]
  refine alloc_intro fun c3 h3 => ?_
  simp only [fresh_set] at h3
  simp only [go_sem, decide_true, decide_false, Nat.lt_irrefl, h3]
  refine alloc_intro fun c4 h4 => ?_
  simp only [fresh_set] at h4
  simp only [go_sem, decide_true, decide_false, Nat.lt_irrefl, h3, h4]
  refine (ref12_Push s.b hz hn hg.sr e).useA ?_
  have hpre := push_pre hg e
  have hres : addK s e = if (pushB s.b e).2 = 0 then (if 4503599627370496 < totN 0 s.past.ls + sumE Event.w s.b.evs + e.w then (zeroK, 5) else (passK s (pushB s.b e).1.1 (pushB s.b e).1.2, 0)) else (zeroK, (pushB s.b e).2) := rfl
  rw [hres]
  generalize pushB s.b e = R at *
  obtain ⟨⟨b', out⟩, bad⟩ := R
  dsimp only at hpre ⊢
  simp only [go_sem, decide_true, decide_false, Nat.lt_irrefl, h3, h4]
  refine alloc_intro fun c6 h6 => ?_
  simp only [fresh_set] at h6
  have y2 : S (.r c2) = none := h2
  have y3 : S (.r c3) = none := h3.2
  have y4 : S (.r c4) = none := h4.2.2
  have y6 : S (.r c6) = none := h6.2.2.2
  by_cases h0 : bad = 0
  rotate_left
  · have h0b : (bad != 0) = true := by simpa using h0
    simp only [go_sem, decide_true, decide_false, Nat.lt_irrefl, h3, h4, h6, h0b]
    refine ⟨S, ?_, ?_⟩
    · repeat' first
        | exact Sub.refl _
        | refine Sub.set ?_ (by assumption) _
    · rw [if_neg h0]; simp [zeroK, zeroB, zeroH]
  have h0b : (bad != 0) = false := by simpa using h0
  simp only [go_sem, decide_true, decide_false, Nat.lt_irrefl, h3, h4, h6, h0b]
  have hT := ref06_Total s.past.k s.past.g s.past.ls (by have := hg.pg.len; omega)
  have hW := ref12_Weight s.b (by omega)
  rw [w1] at hT
  rw [w2] at hW
  have hH := ref14_heavy (totN 0 s.past.ls + sumE Event.w s.b.evs) e.w htot
  have hm : m64 (totN 0 s.past.ls + sumE Event.w s.b.evs) = totN 0 s.past.ls + sumE Event.w s.b.evs := m64_id (by omega)
  by_cases hh : 4503599627370496 < totN 0 s.past.ls + sumE Event.w s.b.evs + e.w
  · rw [decide_eq_true hh] at hH
    refine AWP.draw2 (bitB 1074004479) mixed (by kernel_rfl) (fun j => if j = 2 then u64 (totN 0 s.past.ls) else if j = 5 then u64 (sumE Event.w s.b.evs) else bl true) ?_
    simp only [go_sem, decide_true, decide_false, Nat.lt_irrefl, h3, h4, h6, hm]
    refine ⟨hT.draw, hW.draw, hH.draw, S, ?_, ?_⟩
    · repeat' first
        | exact Sub.refl _
        | refine Sub.set ?_ (by assumption) _
    · rw [if_pos h0, if_pos hh]; simp [zeroK, zeroB, zeroH]
  · rw [decide_eq_false hh] at hH
    have hp := hpre h0 hh
    refine AWP.draw2 (bitB 1074004479) mixed (by kernel_rfl) (fun j => if j = 2 then u64 (totN 0 s.past.ls) else if j = 5 then u64 (sumE Event.w s.b.evs) else bl false) ?_
    simp only [go_sem, decide_true, decide_false, Nat.lt_irrefl, h3, h4, h6, hm]
    refine ⟨hT.draw, hW.draw, hH.draw, ?_⟩
    refine (ref14_pass s b' out hp).useA ?_
    simp only [go_sem, decide_true, decide_false, Nat.lt_irrefl, h3, h4, h6]
    refine ⟨S, ?_, ?_⟩
    · repeat' first
        | exact Sub.refl _
        | refine Sub.set ?_ (by assumption) _
    · rw [if_pos h0, if_neg hh]; simp
set_option maxHeartbeats 1000000 in
set_option maxRecDepth 4000 in
theorem ref14_Move (s : Skt) (hg : s.Good) (t : Nat) : Pure Try.prog 30 [s.av, u64 t] (.tuple [(moveK s t).1.av, i64 (moveK s t).2]) := fun S => by
  obtain ⟨hz, hn⟩ := hg.sz
  refine callR_of Try.func30 rfl rfl (xc_ok (bitB 262647) _ _ _ ?_)
  simp only [go_sem, decide_true, decide_false, Nat.lt_irrefl]
  refine alloc_intro fun c2 h2 => ?_
  simp only [go_sem, decide_true, decide_false, Nat.lt_irrefl]
  refine alloc_intro fun c4 h4 => ?_
  simp only [fresh_set] at h4
  simp only [go_sem, decide_true, decide_false, Nat.lt_irrefl, h4]
  refine (ref12_Move s.b hz hg.sr t).useA ?_
  have hpre := move_pre hg t
  have hres : moveK s t = if (moveB s.b t).2 = 0 then (passK s (moveB s.b t).1.1 (moveB s.b t).1.2, 0) else (zeroK, (moveB s.b t).2) := rfl
  rw [hres]
  generalize moveB s.b t = R at *
  obtain ⟨⟨b', out⟩, bad⟩ := R
  dsimp only at hpre ⊢
  simp only [go_sem, decide_true, decide_false, Nat.lt_irrefl, h4]
  refine alloc_intro fun c6 h6 => ?_
  simp only [fresh_set] at h6
  have y2 : S (.r c2) = none := h2
  have y4 : S (.r c4) = none := h4.2
  have y6 : S (.r c6) = none := h6.2.2
  by_cases h0 : bad = 0
  rotate_left
  · have h0b : (bad != 0) = true := by simpa using h0
    simp only [go_sem, decide_true, decide_false, Nat.lt_irrefl, h4, h6, h0b]
    refine ⟨S, ?_, ?_⟩
    · repeat' first
        | exact Sub.refl _
        | refine Sub.set ?_ (by assumption) _
    · rw [if_neg h0]; simp [zeroK, zeroB, zeroH]
  have h0b : (bad != 0) = false := by simpa using h0
  have hp := hpre h0
  simp only [go_sem, decide_true, decide_false, Nat.lt_irrefl, h4, h6, h0b]
  refine (ref14_pass s b' out hp).useA ?_
  simp only [go_sem, decide_true, decide_false, Nat.lt_irrefl, h4, h6]
  refine ⟨S, ?_, ?_⟩
  · repeat' first
      | exact Sub.refl _
      | refine Sub.set ?_ (by assumption) _
  · rw [if_pos h0]; simp
theorem ref14_One (s : Skt) (hg : s.Good) (e : Event) (he : e.Ok) : Pure Try.prog 16 [s.av, e.av] (.tuple [(oneK s e).1.av, i64 (oneK s e).2]) := fun S => by
  refine callR_of Try.func16 rfl rfl (xc_ok (bitB 319) _ _ _ ?_)
  simp only [go_sem, decide_true, decide_false, Nat.lt_irrefl]
  refine alloc_intro fun c2 h2 => ?_
  simp only [go_sem, decide_true, decide_false, Nat.lt_irrefl]
  refine alloc_intro fun c3 h3 => ?_
  simp only [fresh_set] at h3
  simp only [go_sem, decide_true, decide_false, Nat.lt_irrefl, h3]
  refine alloc_intro fun c4 h4 => ?_
  simp only [fresh_set] at h4
  have y2 : S (.r c2) = none := h2
  have y3 : S (.r c3) = none := h3.2
  have y4 : S (.r c4) = none := h4.2.2
  by_cases c : e.w = 0
  · have g : (e.w == 0) = true := by simpa using c
    have h1 : oneK s e = moveK s e.t := by unfold oneK; rw [if_pos c]
    rw [h1]
    simp only [go_sem, decide_true, decide_false, Nat.lt_irrefl, h3, h4, g]
    refine (ref14_Move s hg e.t).useA ?_
    simp only [go_sem, decide_true, decide_false, Nat.lt_irrefl, h3, h4]
    refine ⟨S, ?_, ?_⟩
    · repeat' first
        | exact Sub.refl _
        | refine Sub.set ?_ (by assumption) _
    · simp
  · have g : (e.w == 0) = false := by simpa using c
    have h1 : oneK s e = addK s e := by unfold oneK; rw [if_neg c]
    rw [h1]
    simp only [go_sem, decide_true, decide_false, Nat.lt_irrefl, h3, h4, g]
    refine (ref14_Add s hg e he).useA ?_
    simp only [go_sem, decide_true, decide_false, Nat.lt_irrefl, h3, h4]
    refine ⟨S, ?_, ?_⟩
    · repeat' first
        | exact Sub.refl _
        | refine Sub.set ?_ (by assumption) _
    · simp
end Go.Sk
end

-- W14e
section
namespace Go.Sk
open Go Go.Proofs

set_option maxHeartbeats 2000000 in
set_option maxRecDepth 8000 in
theorem ref14_Made (k : Int) (n0 n1 : Nat) (l : List Event) (hk0 : -9223372036854775808 ≤ k) (hk : k < 9223372036854775808) (b0 : n0 < 18446744073709551616) (b1 : n1 < 18446744073709551616) (hl : l.length < 1099511627776) (ho : ∀ e ∈ l, e.Ok) :
    Pure Try.prog 11 [i64 k, u64 n0, u64 n1, .p (evsP l)] (.tuple [(madeK k n0 n1 l).1.av, .p (evsP (madeK k n0 n1 l).2)]) := fun S => by
  refine callR_of Try.func11 rfl rfl (xc_ok (bitB 289356344778063631) _ _ _ ?_)
  simp only [go_sem, decide_true, decide_false, Nat.lt_irrefl, evsP]
  refine alloc_intro fun c8 h8 => ?_
  simp only [go_sem, decide_true, decide_false, Nat.lt_irrefl]
  have q1 : wi (max k 0 % 30) = max k 0 % 30 := wi_id (by omega) (by omega)
  have q2 : wi (2 + max k 0 % 30) = 2 + max k 0 % 30 := wi_id (by omega) (by omega)
  have q3 : m64 (1 + n0 % 1000) = 1 + n0 % 1000 := m64_id (by omega)
  have q4 : wi ((n1 % 7 : Nat) : Int) = ((n1 % 7 : Nat) : Int) := wi_id (by omega) (by omega)
  have q5 : wi (1 + ((n1 % 7 : Nat) : Int)) = 1 + ((n1 % 7 : Nat) : Int) := wi_id (by omega) (by omega)
  have q0 : (if (0 : Int) > k then 0 else k).tmod 30 = max k 0 % 30 := by
    have : (if (0 : Int) > k then 0 else k) = max k 0 := by split <;> omega
    rw [this, Int.tmod_eq_emod_of_nonneg (by omega)]
  simp only [go_sem, decide_true, decide_false, Nat.lt_irrefl, q0, q1, q2, q3]
  refine ⟨by decide, ?_⟩
  have hN := ref14_New (2 + max k 0 % 30) (1 + n0 % 1000) (n1 % 100) (1 + (n1 % 7 : Nat))
  simp only [go_sem, decide_true, decide_false, Nat.lt_irrefl, q0, q1, q2, q3, q4, q5]
  refine hN.useA ?_
  simp only [go_sem, decide_true, decide_false, Nat.lt_irrefl, q0, q1, q2, q3, q4, q5]
  refine alloc_intro fun c10 h10 => ?_
  simp only [fresh_set] at h10
  simp only [go_sem, decide_true, decide_false, Nat.lt_irrefl, h10]
  have y8 : S (.r c8) = none := h8
  have y10 : S (.r c10) = none := h10.2
  have hnew := (newK_good (k := 2 + max k 0 % 30) (win := 1 + n0 % 1000) (late := n1 % 100) (room := 1 + (n1 % 7 : Nat)) (by omega) (by omega) (by omega) (by omega) (by omega) (by omega) (by omega)).1
  have hm0 : madeKo ((l.take 30).drop 0) (newK (2 + max k 0 % 30) (1 + n0 % 1000) (n1 % 100) (1 + (n1 % 7 : Nat))) [] = madeK k n0 n1 l := by rw [List.drop_zero]; rfl
  generalize newK (2 + max k 0 % 30) (1 + n0 % 1000) (n1 % 100) (1 + (n1 % 7 : Nat)) = s0 at hN hnew hm0 ⊢
  clear hN q0 q1 q2 q3 q4 q5
  refine AWP.tip0 11 3 (by simp only [go_sem, decide_true, decide_false, Nat.lt_irrefl]) fun v hv => ?_
  simp only [freshv_setr] at hv
  simp only [go_sem, decide_true, decide_false, Nat.lt_irrefl]
  refine AWP.roam (ι := Nat × Skt × List Event × Option Nat) (fun y => y.1 ≤ l.length ∧ y.1 ≤ 30 ∧ y.2.1.Good ∧ y.2.2.1.length ≤ y.1 ∧ madeKo ((l.take 30).drop y.1) y.2.1 y.2.2.1 = madeK k n0 n1 l)
    (fun y => ⟨Env.get [(3, .p (evsP l)), (8, .sp c8 0), (10, .sp c10 0), (11, .ts v 3 y.2.2.2 (y.2.2.1.map Event.pv)), (12, i64 y.1)],
      ((S.set (.r c8) (.cells [u64 0, u64 0, i64 0, u64 0, u64 0, .nils, i64 0, i64 0, .nils])).set (.r c10) (.cells [u64 y.2.1.win, u64 y.2.1.b.late, i64 y.2.1.b.room, u64 y.2.1.b.mark, u64 y.2.1.b.front, .p (.sl (y.2.1.b.evs.map Event.pv)), i64 y.2.1.past.k, i64 y.2.1.past.g, .p (.sl (y.2.1.past.ls.map lvE))])).set (.v v) (.tip 3 y.2.2.1.length y.2.2.2), 69, []⟩)
    (fun y => l.length - y.1) (0, s0, [], none) ⟨Nat.zero_le _, Nat.zero_le _, hnew, Nat.le_refl _, hm0⟩ ?_ ?_
  · refine le_of (by simp only [go_sem, decide_true, decide_false, Nat.lt_irrefl, evsP] <;> rfl) ?_ rfl rfl (by simp)
    ((try dsimp only); (repeat refine sub_set ?_ ?_) <;> first | ((repeat (first | exact Sub.refl _ | refine Sub.setF ?_ (by first | assumption | exact And.right (by assumption) | exact And.right (And.right (by assumption)) | exact And.right (And.right (And.right (by assumption))) | exact And.right (And.right (And.right (And.right (by assumption)))) | exact And.right (And.right (And.right (And.right (And.right (by assumption))))) | exact And.right (And.right (And.right (And.right (And.right (And.right (by assumption)))))) | exact And.right (And.right (And.right (And.right (And.right (And.right (And.right (by assumption))))))) | exact And.right (And.right (And.right (And.right (And.right (And.right (And.right (And.right (by assumption)))))))) | exact And.right (And.right (And.right (And.right (And.right (And.right (And.right (And.right (And.right (by assumption)))))))))) | refine Sub.setV ?_ (by first | assumption | exact And.right (by assumption) | exact And.right (And.right (by assumption)) | exact And.right (And.right (And.right (by assumption))) | exact And.right (And.right (And.right (And.right (by assumption)))) | exact And.right (And.right (And.right (And.right (And.right (by assumption))))) | exact And.right (And.right (And.right (And.right (And.right (And.right (by assumption)))))) | exact And.right (And.right (And.right (And.right (And.right (And.right (And.right (by assumption))))))) | exact And.right (And.right (And.right (And.right (And.right (And.right (And.right (And.right (by assumption)))))))) | exact And.right (And.right (And.right (And.right (And.right (And.right (And.right (And.right (And.right (by assumption)))))))))))); done) | (simp only [go_sem, decide_true, decide_false, Nat.lt_irrefl, h10, hv, List.map_nil, List.length_nil]; done) | (simp only [go_sem, decide_true, decide_false, Nat.lt_irrefl, h10, hv, List.map_nil, List.length_nil]; rfl) | rfl)
  rintro ⟨i, s, all, loc⟩ ⟨hi, hi2, hg, hall, hm⟩ ih
  dsimp only at hi hi2 hg hall hm ⊢
  refine AWPH.step (xc_ok (bitB 289356344778063631) _ _ _ ?_)
  have hlen2 : (l.take 30).length = min 30 l.length := List.length_take
  have stop : ¬ (i < l.length ∧ i < 30) → (s, all) = madeK k n0 n1 l := by
    intro hc
    rw [List.drop_of_length_le (by rw [hlen2]; clear h10; omega)] at hm
    exact hm
  by_cases c1 : i < l.length
  rotate_left
  · simp only [go_sem, decide_true, decide_false, Nat.lt_irrefl, c1, h10, evsP, List.length_map]
    have := stop (fun h => c1 h.1)
    refine ⟨S, ?_, ?_⟩
    · repeat' first | exact Sub.refl _ | refine Sub.set ?_ (by assumption) _
    · rw [← this]; simp
  by_cases c2' : (i : Int) < 30
  rotate_left
  · simp only [go_sem, decide_true, decide_false, Nat.lt_irrefl, c1, c2', h10, evsP, List.length_map]
    have := stop (fun h => c2' (by clear h10; omega))
    refine ⟨S, ?_, ?_⟩
    · repeat' first | exact Sub.refl _ | refine Sub.set ?_ (by assumption) _
    · rw [← this]; simp
  have hok : (l[i]).Ok := ho _ (List.getElem_mem c1)
  have hq : wi ((i : Int) + 1) = ((i + 1 : Nat) : Int) := wi_succ (show i < 4611686018427387904 by clear h10; omega)
  simp only [go_sem, decide_true, decide_false, Nat.lt_irrefl, c1, c2', h10, evsP, ltN' c1, getD_map' _ _ _ _ c1, List.length_map]
  refine AWP.draw2 (bitB 289356344778063631) mixed (by kernel_rfl) (fun j => .tuple [(oneK s (l[i])).1.av, i64 (oneK s (l[i])).2]) ?_
  simp only [go_sem, decide_true, decide_false, Nat.lt_irrefl, c1, h10, evsP, ltN' c1, getD_map' _ _ _ _ c1]
  refine ⟨(ref14_One s hg (l[i]) hok).draw, ?_⟩
  have hdrop : (l.take 30).drop i = l[i] :: (l.take 30).drop (i + 1) := by
    rw [List.drop_eq_getElem_cons (by rw [hlen2]; clear h10; omega)]
    congr 1
    rw [List.getElem_take]
  rw [hdrop] at hm
  unfold madeKo at hm
  have hgd := oneK_ok hg (l[i])
  generalize oneK s (l[i]) = X at *
  refine alloc_intro fun c13 h13 => ?_
  simp only [fresh_set, fresh_setv] at h13
  by_cases ex : X.2 = 0
  rotate_left
  · have exb : (X.2 == 0) = false := by simpa using ex
    rw [if_neg ex] at hm
    simp only [go_sem, decide_true, decide_false, Nat.lt_irrefl, exb, h10, h13, hv]
    refine (ih (i + 1, s, all, loc) ⟨c1, by dsimp only; clear h10 h13; omega, hg, by dsimp only; clear h10 h13; omega, hm⟩ (by dsimp only; clear h10 h13; omega)).back ?_ (by simp) ?_
    · ((try dsimp only); (repeat refine sub_set ?_ ?_) <;> first | ((repeat (first | exact Sub.refl _ | refine Sub.setF ?_ (by first | assumption | exact And.right (by assumption) | exact And.right (And.right (by assumption)) | exact And.right (And.right (And.right (by assumption))) | exact And.right (And.right (And.right (And.right (by assumption)))) | exact And.right (And.right (And.right (And.right (And.right (by assumption))))) | exact And.right (And.right (And.right (And.right (And.right (And.right (by assumption)))))) | exact And.right (And.right (And.right (And.right (And.right (And.right (And.right (by assumption))))))) | exact And.right (And.right (And.right (And.right (And.right (And.right (And.right (And.right (by assumption)))))))) | exact And.right (And.right (And.right (And.right (And.right (And.right (And.right (And.right (And.right (by assumption)))))))))) | refine Sub.setV ?_ (by first | assumption | exact And.right (by assumption) | exact And.right (And.right (by assumption)) | exact And.right (And.right (And.right (by assumption))) | exact And.right (And.right (And.right (And.right (by assumption)))) | exact And.right (And.right (And.right (And.right (And.right (by assumption))))) | exact And.right (And.right (And.right (And.right (And.right (And.right (by assumption)))))) | exact And.right (And.right (And.right (And.right (And.right (And.right (And.right (by assumption))))))) | exact And.right (And.right (And.right (And.right (And.right (And.right (And.right (And.right (by assumption)))))))) | exact And.right (And.right (And.right (And.right (And.right (And.right (And.right (And.right (And.right (by assumption)))))))))))); done) | (simp only [go_sem, decide_true, decide_false, Nat.lt_irrefl, h10, h13, hv]; done) | (simp only [go_sem, decide_true, decide_false, Nat.lt_irrefl, h10, h13, hv]; rfl) | rfl)
    · simp only [go_sem, decide_true, decide_false, Nat.lt_irrefl, hq, evsP]
  have exb : (X.2 == 0) = true := by simpa using ex
  rw [if_pos ex] at hm
  simp only [go_sem, decide_true, decide_false, Nat.lt_irrefl, exb, h10, h13, hv, ltN' c1, getD_map' _ _ _ _ c1]
  by_cases ew : 0 < (l[i]).w
  rotate_left
  · rw [if_neg ew] at hm
    simp only [go_sem, decide_true, decide_false, Nat.lt_irrefl, ew, h10, h13, hv]
    refine (ih (i + 1, X.1, all, loc) ⟨c1, by dsimp only; clear h10 h13; omega, (hgd ex).1, by dsimp only; clear h10 h13; omega, hm⟩ (by dsimp only; clear h10 h13; omega)).back ?_ (by simp) ?_
    · ((try dsimp only); (repeat refine sub_set ?_ ?_) <;> first | ((repeat (first | exact Sub.refl _ | refine Sub.setF ?_ (by first | assumption | exact And.right (by assumption) | exact And.right (And.right (by assumption)) | exact And.right (And.right (And.right (by assumption))) | exact And.right (And.right (And.right (And.right (by assumption)))) | exact And.right (And.right (And.right (And.right (And.right (by assumption))))) | exact And.right (And.right (And.right (And.right (And.right (And.right (by assumption)))))) | exact And.right (And.right (And.right (And.right (And.right (And.right (And.right (by assumption))))))) | exact And.right (And.right (And.right (And.right (And.right (And.right (And.right (And.right (by assumption)))))))) | exact And.right (And.right (And.right (And.right (And.right (And.right (And.right (And.right (And.right (by assumption)))))))))) | refine Sub.setV ?_ (by first | assumption | exact And.right (by assumption) | exact And.right (And.right (by assumption)) | exact And.right (And.right (And.right (by assumption))) | exact And.right (And.right (And.right (And.right (by assumption)))) | exact And.right (And.right (And.right (And.right (And.right (by assumption))))) | exact And.right (And.right (And.right (And.right (And.right (And.right (by assumption)))))) | exact And.right (And.right (And.right (And.right (And.right (And.right (And.right (by assumption))))))) | exact And.right (And.right (And.right (And.right (And.right (And.right (And.right (And.right (by assumption)))))))) | exact And.right (And.right (And.right (And.right (And.right (And.right (And.right (And.right (And.right (by assumption)))))))))))); done) | (simp only [go_sem, decide_true, decide_false, Nat.lt_irrefl, h10, h13, hv]; done) | (simp only [go_sem, decide_true, decide_false, Nat.lt_irrefl, h10, h13, hv]; rfl) | rfl)
    · simp only [go_sem, decide_true, decide_false, Nat.lt_irrefl, hq, evsP]
  rw [if_pos ew] at hm
  simp only [go_sem, decide_true, decide_false, Nat.lt_irrefl, ew, h10, h13, hv, ltN' c1, getD_map' _ _ _ _ c1]
  have e5 : List.map Event.pv all ++ [[.int .u64 (l[i]).t, .int .u64 (l[i]).k, .int .u64 (l[i]).w]] = List.map Event.pv (all ++ [l[i]]) := by rw [List.map_append]; rfl
  refine ⟨by rintro el rfl; rfl, evn_len, by clear h10 h13; omega, by clear h10 h13; omega, grow_intro fun loc' => ?_⟩
  simp only [go_sem, decide_true, decide_false, Nat.lt_irrefl, h10, h13, hv, e5, hq]
  refine (ih (i + 1, X.1, all ++ [l[i]], loc') ⟨c1, by dsimp only; clear h10 h13; omega, (hgd ex).1, by simp; clear h10 h13; omega, hm⟩ (by dsimp only; clear h10 h13; omega)).back ?_ (by simp) ?_
  · ((try dsimp only); (repeat refine sub_set ?_ ?_) <;> first | ((repeat (first | exact Sub.refl _ | refine Sub.setF ?_ (by first | assumption | exact And.right (by assumption) | exact And.right (And.right (by assumption)) | exact And.right (And.right (And.right (by assumption))) | exact And.right (And.right (And.right (And.right (by assumption)))) | exact And.right (And.right (And.right (And.right (And.right (by assumption))))) | exact And.right (And.right (And.right (And.right (And.right (And.right (by assumption)))))) | exact And.right (And.right (And.right (And.right (And.right (And.right (And.right (by assumption))))))) | exact And.right (And.right (And.right (And.right (And.right (And.right (And.right (And.right (by assumption)))))))) | exact And.right (And.right (And.right (And.right (And.right (And.right (And.right (And.right (And.right (by assumption)))))))))) | refine Sub.setV ?_ (by first | assumption | exact And.right (by assumption) | exact And.right (And.right (by assumption)) | exact And.right (And.right (And.right (by assumption))) | exact And.right (And.right (And.right (And.right (by assumption)))) | exact And.right (And.right (And.right (And.right (And.right (by assumption))))) | exact And.right (And.right (And.right (And.right (And.right (And.right (by assumption)))))) | exact And.right (And.right (And.right (And.right (And.right (And.right (And.right (by assumption))))))) | exact And.right (And.right (And.right (And.right (And.right (And.right (And.right (And.right (by assumption)))))))) | exact And.right (And.right (And.right (And.right (And.right (And.right (And.right (And.right (And.right (by assumption)))))))))))); done) | (simp only [go_sem, decide_true, decide_false, Nat.lt_irrefl, h10, h13, hv, List.length_map, e5]; done) | (simp only [go_sem, decide_true, decide_false, Nat.lt_irrefl, h10, h13, hv, List.length_map, e5]; rfl) | rfl)
  · simp only [go_sem, decide_true, decide_false, Nat.lt_irrefl, hq, evsP, e5]
end Go.Sk
end
