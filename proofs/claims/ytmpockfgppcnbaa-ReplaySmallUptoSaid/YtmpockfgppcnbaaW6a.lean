/- Walk: weight that comes to a histogram. -/
import Derived.Test.YtmpockfgppcnbaaR10B
import Derived.Test.YtmpockfgppcnbaaW5p
set_option linter.unusedSimpArgs false
set_option linter.unusedVariables false
set_option linter.unusedSectionVars false
namespace Go.Sk
open Go Go.Proofs

def itemsF (fl : List (List Span)) : Nat → List AV := fun k => [.p (lvP (fl.getD k []))]

set_option maxHeartbeats 1000000 in
set_option maxRecDepth 8000 in
theorem hist_flow1 (k : Nat) (g : Int) (ls : List (List Span)) (tick w : Nat) (hk : k < 1073741824) (hw : w ≤ 4611686018427387904 / 4) (hls : ls.length < 1073741824) (hl : ∀ l ∈ ls, l.length < 1073741824)
    {T0 : Store} {b1 b2 b3 : Nat} (h1 : T0 (.r b1) = some (.cells [u64 w])) (h2 : T0 (.r b2) = some (.cells [i64 k, i64 g, .p (.sl (ls.map lvE))])) (h3 : T0 (.r b3) = some (.cells [u64 tick])) :
    SeqR Try.prog 72 [] [.sp b1 0, .sp b2 0, .sp b3 0] T0 (flowV k tick 0 ls [] w).length (itemsF (flowV k tick 0 ls [] w)) := by
  intro l J Jx hy E hd h0
  simp only [List.nil_append, List.singleton_append]
  refine callR_of Try.func72 rfl rfl (xc_ok (bitB 36028805676011503) _ _ _ ?_)
  simp only [go_sem, h1, h2, h3]
  obtain ⟨FL, hFL⟩ : ∃ FL, flowV k tick 0 ls [] w = FL := ⟨_, rfl⟩
  rw [hFL] at hy ⊢
  have hFLn : FL.length ≤ 1073741824 + 62 := by
    have := flow_len k tick 62 0 ls [] w (fun x hx => by have := hl x hx; omega) (by simp; omega)
    rw [hFL] at this; omega
  refine AWP.data 5 ?_
  simp only [go_sem]
  refine AWP.roam (ι := Nat × List (List Span) × List Span × Nat × Store) (fun x => x.2.1 = ls.drop x.1 ∧ FL.drop x.1 = flowV k tick x.1 x.2.1 x.2.2.1 x.2.2.2.1 ∧ x.1 ≤ FL.length ∧ x.2.2.1.length ≤ 1073741824 ∧ x.2.2.2.1 ≤ 4611686018427387904 / 4 ∧ Disj T0 x.2.2.2.2 ∧ J x.1 x.2.2.2.2)
    (fun x => ⟨Env.get [(0, .fn (.yield l) [] []), (1, .sp b1 0), (2, .sp b2 0), (3, .sp b3 0), (5, .p (lvP x.2.2.1)), (6, u64 x.2.2.2.1), (7, i64 x.1)], Store.join x.2.2.2.2 T0, 58, []⟩) (fun x => FL.length - x.1) (0, ls, [], w, E) ?_ ?_ ?_
  · exact ⟨by simp, by simp [hFL], by simp, by simp, hw, hd, h0⟩
  · exact le_of (by simp only [go_sem, lvP, List.map_nil] <;> rfl) (Sub.refl _) rfl rfl (by simp)
  · rintro ⟨i, rest, come, many, E⟩ ⟨r1, r2, r3, r4, r5, hd, hJ⟩ ih
    dsimp only at r1 r2 r3 r4 r5 hd hJ ⊢
    refine AWPH.step (xc_ok (bitB 36028805676011503) _ _ _ ?_)
    by_cases hend : rest = [] ∧ come.length + many = 0
    · have hn : FL.length = i := by
        have : FL.drop i = [] := by rw [r2, hend.1, flowV_nil hend.2]
        have := List.drop_eq_nil_iff.1 this
        omega
      have hc1 : come = [] := List.eq_nil_of_length_eq_zero (by omega)
      have hc2 : many = 0 := by omega
      have hc3 : ¬ (i : Int) < (ls.length : Int) := by
        have : ls.drop i = [] := by rw [← r1]; exact hend.1
        have := List.drop_eq_nil_iff.1 this
        omega
      subst hc1; subst hc2
      simp only [go_sem, h1, h2, h3, lvP, hc3]
      exact ⟨_, Sub.refl _, Or.inl ⟨E, rfl, hd, Or.inl (by rw [hn]; exact hJ)⟩⟩
    · have hcons := flowV_cons (k := k) (tick := tick) (i := i) hend
      obtain ⟨L, hL⟩ : ∃ L, rest.headD [] = L := ⟨_, rfl⟩
      rw [hL] at hcons
      have hm1 := mostN_pos k i
      have hm2 := mostN_le k i
      have hLi : L = ls.getD i [] := by
        rw [← hL, r1]
        simp [List.headD_eq_head?_getD, List.getD_eq_getElem?_getD]
      have hLl : L.length ≤ 1073741824 := by
        rw [hLi]
        by_cases c : i < ls.length
        · have := hl _ (List.getElem_mem c)
          simp [List.getD_eq_getElem?_getD, c]; omega
        · simp [List.getD_eq_getElem?_getD, c]
      have hd' : FL.drop i = stayV L (mostN k i) come many tick :: flowV k tick (i + 1) rest.tail (outsV L (mostN k i) come many tick) (leftV L (mostN k i) come many) := by rw [r2, hcons]
      have hiF : i < FL.length := by
        apply Classical.byContradiction
        intro hc
        rw [List.drop_of_length_le (by omega)] at hd'
        cases hd'
      have hget : FL.getD i [] = stayV L (mostN k i) come many tick := by
        have := List.drop_eq_getElem_cons hiF
        rw [hd'] at this
        simp only [List.cons.injEq] at this
        simp [List.getD_eq_getElem?_getD, hiF, this.1]
      have hnext : FL.drop (i + 1) = flowV k tick (i + 1) rest.tail (outsV L (mostN k i) come many tick) (leftV L (mostN k i) come many) := by
        have := List.drop_eq_getElem_cons hiF
        rw [hd'] at this
        simp only [List.cons.injEq] at this
        exact this.2.symm
      have hinv : ∀ E', Disj T0 E' → J (i + 1) E' → AWPH Try.prog none _ _ _ := fun E' hE hJ' => ih (i + 1, rest.tail, outsV L (mostN k i) come many tick, leftV L (mostN k i) come many, E')
        ⟨by dsimp only; rw [r1, List.tail_drop], hnext, hiF, outs_small hm1 hLl r4, left_small hLl r4 r5 (by decide), hE, hJ'⟩ (by dsimp only; omega)
      dsimp only at hinv
      have hmost := level_Most k i (by omega)
      have hpush := level_Push L (mostN k i) come many tick hm1 (by omega) (by omega) (by omega) (by omega)
      have hyi := hy i hiF E T0 (Sub.refl _) hd hJ
      simp only [itemsF, hget] at hyi
      by_cases c : i < ls.length
      · have c' : (i : Int) < (ls.length : Int) := by omega
        have hLc : ls[i] = L := by rw [hLi]; simp [List.getD_eq_getElem?_getD, c]
        by_cases a : (come.length : Int) > 0 <;> by_cases b : many > 0
        all_goals
          simp only [go_sem, h1, h2, h3, lvP, a, b, c, c', getD_map' _ _ _ _ c, lvE_mk, hLc]
          refine AWP.data 8 ?_
          simp only [go_sem]
          refine AWP.draw2 (bitB 36028805676011503) mixed (by kernel_rfl) (fun j => if j = 4 then i64 (mostN k i : Nat) else .tuple [.p (lvP (stayV L (mostN k i) come many tick)), .p (lvP (outsV L (mostN k i) come many tick)), u64 (leftV L (mostN k i) come many)]) ?_
          simp only [go_sem, h1, h2, h3]
          refine ⟨hmost.draw, hpush.draw, ?_⟩
          refine hyi.useA rfl ?_
          rintro r S' ⟨E', rfl, hd2, ⟨rfl, hJ2⟩ | ⟨rfl, hJ2⟩⟩
          · simp only [go_sem]
            refine (hinv E' hd2 hJ2).back (Sub.refl _) (by simp) ?_
            simp only [go_sem, wi_succ (show i < 4611686018427387904 by omega)]
          · simp only [go_sem]
            exact ⟨_, Sub.refl _, Or.inl ⟨E', rfl, hd2, Or.inr hJ2⟩⟩
      · have c' : ¬ (i : Int) < (ls.length : Int) := by omega
        have hLc : L = [] := by rw [hLi]; simp [List.getD_eq_getElem?_getD, c]
        subst hLc
        have hab : come.length > 0 ∨ many > 0 := by
          apply Classical.byContradiction
          intro hx
          exact hend ⟨by rw [r1]; exact List.drop_of_length_le (by omega), by omega⟩
        by_cases a : (come.length : Int) > 0 <;> by_cases b : many > 0
        rotate_right
        exact absurd hab (by omega)
        all_goals
          simp only [go_sem, h1, h2, h3, lvP, a, b, c']
          refine AWP.data 8 ?_
          simp only [go_sem]
          refine AWP.draw2 (bitB 36028805676011503) mixed (by kernel_rfl) (fun j => if j = 4 then i64 (mostN k i : Nat) else .tuple [.p (lvP (stayV [] (mostN k i) come many tick)), .p (lvP (outsV [] (mostN k i) come many tick)), u64 (leftV [] (mostN k i) come many)]) ?_
          simp only [go_sem, h1, h2, h3]
          refine ⟨hmost.draw, hpush.draw, ?_⟩
          refine hyi.useA rfl ?_
          rintro r S' ⟨E', rfl, hd2, ⟨rfl, hJ2⟩ | ⟨rfl, hJ2⟩⟩
          · simp only [go_sem]
            refine (hinv E' hd2 hJ2).back (Sub.refl _) (by simp) ?_
            simp only [go_sem, wi_succ (show i < 4611686018427387904 by omega)]
          · simp only [go_sem]
            exact ⟨_, Sub.refl _, Or.inl ⟨E', rfl, hd2, Or.inr hJ2⟩⟩
end Go.Sk
