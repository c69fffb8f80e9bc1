/- Walk: weight that comes to a histogram, by the document. -/
import Derived.Test.YtmpockfgppcnbaaR10B
import Derived.Test.YtmpockfgppcnbaaW5r
set_option linter.unusedSimpArgs false
set_option linter.unusedVariables false
set_option linter.unusedSectionVars false
namespace Go.Sk
open Go Go.Proofs

set_option maxHeartbeats 1000000 in
set_option maxRecDepth 8000 in
theorem ref06_Add (k : Nat) (g : Int) (ls : List (List Span)) (tick w : Nat) (hk : k < 1073741824) (hw : w < 18446744073709551616) (hls : ls.length < 1073741824) (hl : ∀ l ∈ ls, l.length < 1073741824) (ht : totN 0 ls ≤ 4503599627370496) :
    Pure Try.prog 31 [(Hist.mk k g ls).av, u64 tick, u64 w] (.tuple [(addV k g ls tick w).1.av, i64 (addV k g ls tick w).2]) := fun S => by
  have htot : totV ls = totN 0 ls := totV_eq (by omega)
  refine callR_of Try.func31 rfl rfl (xc_ok (bitB 36893505756785409999) _ _ _ ?_)
  simp only [go_sem]
  refine alloc_intro fun c3 h3 => ?_
  simp only [go_sem]
  refine alloc_intro fun c6 h6 => ?_
  simp only [fresh_set] at h6
  simp only [go_sem, h6]
  by_cases hw0 : w = 0
  · subst hw0
    simp only [go_sem, h6]
    (refine ⟨S, by (repeat (first | exact Sub.refl _ | refine Sub.setF ?_ (by first | assumption | simp only [*]) | refine Sub.setV ?_ (by first | assumption | simp only [*]))), ?_⟩); simp [addV, zeroH]
  have hw0' : (w == 0) = false := by simpa using hw0
  simp only [go_sem, hw0', h6]
  refine (ref06_Last k g ls (fun l hx => by have := hl l hx; omega)).useA ?_
  simp only [go_sem]
  obtain ⟨lt, lb, hlast⟩ : ∃ lt lb, lastV ls = (lt, lb) := ⟨_, _, rfl⟩
  simp only [hlast]
  by_cases t1 : 9223372036854775807 < tick
  · simp only [go_sem, t1, h6]
    (refine ⟨S, by (repeat (first | exact Sub.refl _ | refine Sub.setF ?_ (by first | assumption | simp only [*]) | refine Sub.setV ?_ (by first | assumption | simp only [*]))), ?_⟩); simp [addV, zeroH, hw0, t1]
  simp only [go_sem, t1]
  by_cases t2 : lb = true ∧ tick < lt
  · obtain ⟨rfl, t2⟩ := t2
    simp only [go_sem, t2, h6]
    (refine ⟨S, by (repeat (first | exact Sub.refl _ | refine Sub.setF ?_ (by first | assumption | simp only [*]) | refine Sub.setV ?_ (by first | assumption | simp only [*]))), ?_⟩); simp [addV, zeroH, hw0, t1, t2, hlast]
  have hbad : ¬ (9223372036854775807 < tick ∨ ((lastV ls).2 = true ∧ tick < (lastV ls).1)) := by rw [hlast]; rintro (h | h); exact t1 h; exact t2 h
  cases lb
  rotate_left
  have t3 : ¬ tick < lt := fun h => t2 ⟨rfl, h⟩
  simp only [go_sem, t3, h6]
  rotate_left
  simp only [go_sem, h6]
  all_goals
    by_cases t4 : 4503599627370496 - totN 0 ls < w
    · by_cases t5 : 4503599627370496 < w
      · simp only [go_sem, t5, h6]
        (refine ⟨S, by (repeat (first | exact Sub.refl _ | refine Sub.setF ?_ (by first | assumption | simp only [*]) | refine Sub.setV ?_ (by first | assumption | simp only [*]))), ?_⟩); simp [addV, zeroH, hw0, hbad, t4]
      · simp only [go_sem, t5, h6]
        refine (ref06_Total k g ls (by omega)).useA ?_
        have e1 : m64 (w + totV ls) = w + totN 0 ls := by rw [htot]; exact m64_id (by omega)
        have e2 : 4503599627370496 < w + totN 0 ls := by omega
        simp only [go_sem, e1, e2, h6]
        (refine ⟨S, by (repeat (first | exact Sub.refl _ | refine Sub.setF ?_ (by first | assumption | simp only [*]) | refine Sub.setV ?_ (by first | assumption | simp only [*]))), ?_⟩); simp [addV, zeroH, hw0, hbad, t4]
    have t5 : ¬ 4503599627370496 < w := by omega
    simp only [go_sem, t5, h6]
    refine (ref06_Total k g ls (by omega)).useA ?_
    have e1 : m64 (w + totV ls) = w + totN 0 ls := by rw [htot]; exact m64_id (by omega)
    have e2 : ¬ 4503599627370496 < w + totN 0 ls := by omega
    simp only [go_sem, e1, e2, h6]
    obtain ⟨FL, hFL⟩ : ∃ FL, flowV k tick 0 ls [] w = FL := ⟨_, rfl⟩
    have hww : w ≤ 4611686018427387904 / 4 := by omega
    have hFLn : FL.length ≤ 1073741824 + 62 := by
      have := flow_len k tick 62 0 ls [] w (fun x hx => by have := hl x hx; omega) (by simp; omega)
      rw [hFL] at this; omega
    have hres : addV k g ls tick w = (⟨k, g, FL⟩, 0) := by simp [addV, hw0, hbad, t4, hFL]
    rw [hres]
    refine alloc_intro fun c10 h10 => ?_
    simp only [fresh_set] at h10
    have g3 : S (.r c3) = none := h3
    have g6 : S (.r c6) = none := h6.2
    have g10 : S (.r c10) = none := h10.2.2
    simp only [go_sem, h6, h10]
    refine AWP.data 11 ?_
    refine AWP.tipB c10 2 1 (cs := [i64 k, i64 g, .nils]) (by simp only [go_sem, h6, h10]) rfl fun kk hkk => ?_
    simp only [freshv_setr] at hkk
    simp only [List.set]
    simp only [go_sem]
    refine AWP.roam (ι := Nat × List (List Span) × List Span × Nat × Option Nat) (fun x => x.2.1 = ls.drop x.1 ∧ FL.drop x.1 = flowV k tick x.1 x.2.1 x.2.2.1 x.2.2.2.1 ∧ x.1 ≤ FL.length ∧ x.2.2.1.length ≤ 1073741824 ∧ x.2.2.2.1 ≤ 4611686018427387904 / 4)
      (fun x => ⟨Env.get [(1, u64 tick), (3, .sp c3 0), (6, .sp c6 0), (10, .sp c10 0), (11, .p (lvP x.2.2.1)), (12, u64 x.2.2.2.1), (13, i64 x.1)],
        (((S.set (.r c3) (.cells [i64 k, i64 g, .p (.sl (ls.map lvE))])).set (.r c6) (.cells [i64 0, i64 0, .nils])).set (.v kk) (.tip 1 (FL.take x.1).length x.2.2.2.2)).set (.r c10) (.cells [i64 k, i64 g, .ts kk 1 x.2.2.2.2 ((FL.take x.1).map lvE)]), 92, []⟩) (fun x => FL.length - x.1) (0, ls, [], w, none) ?_ ?_ ?_
    · exact ⟨by simp, by simp [hFL], by simp, by simp, hww⟩
    · refine le_of (by simp only [go_sem, lvP, List.map_nil] <;> rfl) ?_ rfl rfl (by simp)
      ((try dsimp only); (repeat refine sub_set ?_ ?_) <;> first | ((repeat (first | exact Sub.refl _ | refine Sub.setF ?_ (by first | assumption | simp only [*]) | refine Sub.setV ?_ (by first | assumption | simp only [*]))); done) | (simp only [go_sem, h6, h10, hkk, List.take_zero, List.map_nil, List.length_nil]; done) | (simp only [go_sem, h6, h10, hkk, List.take_zero, List.map_nil, List.length_nil]; rfl) | rfl)
    · rintro ⟨i, rest, come, many, loc⟩ ⟨r1, r2, r3, r4, r5⟩ ih
      dsimp only at r1 r2 r3 r4 r5 ⊢
      refine AWPH.step (xc_ok (bitB 36893505756785409999) _ _ _ ?_)
      by_cases hend : rest = [] ∧ come.length + many = 0
      · have hn : FL.length = i := by
          have : FL.drop i = [] := by rw [r2, hend.1, flowV_nil hend.2]
          have := List.drop_eq_nil_iff.1 this
          clear h6 h10; omega
        have hc1 : come = [] := List.eq_nil_of_length_eq_zero (by clear h6 h10; omega)
        have hc2 : many = 0 := by clear h6 h10; omega
        have hc3 : ¬ (i : Int) < (ls.length : Int) := by
          have : ls.drop i = [] := by rw [← r1]; exact hend.1
          have := List.drop_eq_nil_iff.1 this
          clear h6 h10; omega
        subst hc1; subst hc2; subst hn
        simp only [go_sem, h6, h10, hkk, lvP, hc3, List.take_length]
        refine ⟨S, ?_, ?_⟩
        · refine Sub.set (Sub.set (Sub.set (Sub.set (Sub.set (Sub.refl _) g3 _) g6 _) hkk _) g10 _) g6 _
        · simp
      · have hcons := flowV_cons (k := k) (tick := tick) (i := i) hend
        obtain ⟨L, hL⟩ : ∃ L, rest.headD [] = L := ⟨_, rfl⟩
        rw [hL] at hcons
        have hm1 := mostN_pos k i
        have hm2 := mostN_le k i
        have hLi : L = ls.getD i [] := by
          rw [← hL, r1]
          simp [List.headD_eq_head?_getD, List.getD_eq_getElem?_getD]
        have hLl : L.length ≤ 1073741824 := by
          rw [hLi]
          by_cases c : i < ls.length
          · have := hl _ (List.getElem_mem c)
            simp [List.getD_eq_getElem?_getD, c]; clear h6 h10; omega
          · simp [List.getD_eq_getElem?_getD, c]
        have hd' : FL.drop i = stayV L (mostN k i) come many tick :: flowV k tick (i + 1) rest.tail (outsV L (mostN k i) come many tick) (leftV L (mostN k i) come many) := by rw [r2, hcons]
        have hiF : i < FL.length := by
          apply Classical.byContradiction
          intro hc
          rw [List.drop_of_length_le (by clear h6 h10; omega)] at hd'
          cases hd'
        have hget : FL[i] = stayV L (mostN k i) come many tick := by
          have := List.drop_eq_getElem_cons hiF
          rw [hd'] at this
          simp only [List.cons.injEq] at this
          exact this.1.symm
        have hnext : FL.drop (i + 1) = flowV k tick (i + 1) rest.tail (outsV L (mostN k i) come many tick) (leftV L (mostN k i) come many) := by
          have := List.drop_eq_getElem_cons hiF
          rw [hd'] at this
          simp only [List.cons.injEq] at this
          exact this.2.symm
        have hinv := fun loc' => ih (i + 1, rest.tail, outsV L (mostN k i) come many tick, leftV L (mostN k i) come many, loc')
          ⟨by dsimp only; rw [r1, List.tail_drop], hnext, hiF, outs_small hm1 hLl r4, left_small hLl r4 r5 (by decide)⟩ (by dsimp only; clear h6 h10; omega)
        dsimp only at hinv
        have hmost := ref05_Most k i (by clear h6 h10; omega)
        have hpush := ref05_Push L (mostN k i) come many tick hm1 (by clear h6 h10; omega) (by clear h6 h10; omega) (by clear h6 h10; omega) (by clear h6 h10; omega)
        have hat := ref06_at k g ls i
        rw [← hLi] at hat
        have e5 : List.map lvE (List.take i FL) ++ [[lvP (stayV L (mostN k i) come many tick)]] = List.map lvE (FL.take (i + 1)) := by
          rw [List.take_succ_eq_append_getElem hiF, List.map_append, hget]; rfl
        have hle : (List.take i FL).length ≤ i := by rw [List.length_take]; exact Nat.min_le_left _ _
        have q2 : ((List.take i FL).length + 1) * 24 ≤ 140737488355328 := by clear h6 h10; omega
        have q3 : (List.take i FL).length + 1 < 4611686018427387904 := by clear h6 h10; omega
        have q4 : wi ((i : Int) + 1) = ((i + 1 : Nat) : Int) := wi_succ (show i < 4611686018427387904 by clear h6 h10; omega)
        have hab : (come.length : Int) > 0 ∨ many > 0 ∨ (i : Int) < (ls.length : Int) := by
          clear h6 h10
          by_cases a : (come.length : Int) > 0
          · exact Or.inl a
          · by_cases b : many > 0
            · exact Or.inr (Or.inl b)
            · refine Or.inr (Or.inr ?_)
              apply Classical.byContradiction
              intro hc
              exact hend ⟨by rw [r1]; exact List.drop_of_length_le (by omega), by omega⟩
        by_cases a : (come.length : Int) > 0 <;> by_cases b : many > 0 <;> by_cases c : (i : Int) < (ls.length : Int)
        rotate_right
        exact absurd hab (by clear h6 h10; omega)
        all_goals
          simp only [go_sem, h6, h10, hkk, lvP, a, b, c]
          refine AWP.draw2 (bitB 36893505756785409999) mixed (by kernel_rfl) (fun j => if j = 2 then .p (lvP L) else if j = 6 then i64 (mostN k i : Nat) else .tuple [.p (lvP (stayV L (mostN k i) come many tick)), .p (lvP (outsV L (mostN k i) come many tick)), u64 (leftV L (mostN k i) come many)]) ?_
          simp only [go_sem, h6, h10, hkk]
          refine ⟨hat.draw, hmost.draw, hpush.draw, ?_⟩
          refine ⟨by rintro el rfl; rfl, lvE_len, q2, q3, grow_intro fun loc' => ?_⟩
          simp only [go_sem, h6, h10, hkk]
          refine (hinv loc').back ?_ (by simp) ?_
          · ((try dsimp only); (repeat refine sub_set ?_ ?_) <;> first | ((repeat (first | exact Sub.refl _ | refine Sub.setF ?_ (by first | assumption | simp only [*]) | refine Sub.setV ?_ (by first | assumption | simp only [*]))); done) | (simp only [go_sem, h6, h10, hkk, e5, List.length_map]; done) | (simp only [go_sem, h6, h10, hkk, e5, List.length_map]; rfl) | rfl)
          · simp only [go_sem, q4]
end Go.Sk
