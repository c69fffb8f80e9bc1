/- Walk: hist.Add. -/
import Derived.Test.YtmpockfgppcnbaaW6a
import Derived.Test.YtmpockfgppcnbaaSkRg
set_option linter.unusedSimpArgs false
set_option linter.unusedVariables false
set_option linter.unusedSectionVars false
namespace Go.Sk
open Go Go.Proofs

theorem hist_flow (k : Nat) (g : Int) (ls : List (List Span)) (tick w : Nat) (S : Store) : CallR Try.prog 54 [(Hist.mk k g ls).av, u64 tick, u64 w] S
    (fun r S' => ∃ b1 b2 b3, Fresh S b1 ∧ Fresh S b2 ∧ Fresh S b3 ∧ ((¬ b1 = b2 ∧ ¬ b2 = b1) ∧ (¬ b1 = b3 ∧ ¬ b3 = b1) ∧ (¬ b3 = b2 ∧ ¬ b2 = b3)) ∧ r = .fn (.func 72) [] [.sp b1 0, .sp b2 0, .sp b3 0] ∧
      S' = ((S.set (.r b2) (.cells [i64 k, i64 g, .p (.sl (ls.map lvE))])).set (.r b3) (.cells [u64 tick])).set (.r b1) (.cells [u64 w])) := by
  refine callR_of Try.func54 rfl rfl (xc_ok (bitB 127) _ _ _ ?_)
  simp only [go_sem]
  refine alloc_intro fun b2 h2 => ?_
  simp only [go_sem]
  refine alloc_intro fun b3 h3 => ?_
  simp only [fresh_set] at h3
  simp only [go_sem, h3]
  refine alloc_intro fun b1 h1 => ?_
  simp only [fresh_set] at h1
  simp only [go_sem, h3, h1]
  refine ⟨_, Sub.refl _, Or.inl ⟨b1, b2, b3, h1.2.2, h2, h3.2, ⟨⟨h1.2.1.1, h1.2.1.2⟩, ⟨h1.1.1, h1.1.2⟩, ⟨h3.1.1, h3.1.2⟩⟩, rfl, rfl⟩⟩

set_option maxHeartbeats 1000000 in
set_option maxRecDepth 8000 in
theorem hist_Add (k : Nat) (g : Int) (ls : List (List Span)) (tick w : Nat) (hk : k < 1073741824) (hw : w < 18446744073709551616) (hls : ls.length < 1073741824) (hl : ∀ l ∈ ls, l.length < 1073741824) (ht : totN 0 ls ≤ 4503599627370496) :
    Pure Try.prog 26 [(Hist.mk k g ls).av, u64 tick, u64 w] (.tuple [(addV k g ls tick w).1.av, i64 (addV k g ls tick w).2]) := fun S => by
  have htot : totV ls = totN 0 ls := totV_eq (by omega)
  refine callR_of Try.func26 rfl rfl (xc_ok (bitB 844433522298831) _ _ _ ?_)
  simp only [go_sem]
  refine alloc_intro fun c3 h3 => ?_
  simp only [go_sem]
  refine alloc_intro fun c6 h6 => ?_
  simp only [fresh_set] at h6
  simp only [go_sem, h6]
  refine (hist_Last k g ls (fun l hx => by have := hl l hx; omega)).useA ?_
  simp only [go_sem]
  by_cases hw0 : w = 0
  · subst hw0
    simp only [go_sem, h6]
    (refine ⟨S, by (repeat (first | exact Sub.refl _ | refine Sub.setF ?_ (by first | assumption | simp only [*]) | refine Sub.setV ?_ (by first | assumption | simp only [*]))), ?_⟩); simp [addV, zeroH]
  have hw0' : (w == 0) = false := by simpa using hw0
  simp only [go_sem, hw0']
  obtain ⟨lt, lb, hlast⟩ : ∃ lt lb, lastV ls = (lt, lb) := ⟨_, _, rfl⟩
  simp only [hlast]
  by_cases t1 : 9223372036854775807 < tick
  · simp only [go_sem, t1, h6]
    (refine ⟨S, by (repeat (first | exact Sub.refl _ | refine Sub.setF ?_ (by first | assumption | simp only [*]) | refine Sub.setV ?_ (by first | assumption | simp only [*]))), ?_⟩); simp [addV, zeroH, hw0, t1]
  simp only [go_sem, t1]
  by_cases t2 : lb = true ∧ tick < lt
  · obtain ⟨rfl, t2⟩ := t2
    simp only [go_sem, t2, h6]
    (refine ⟨S, by (repeat (first | exact Sub.refl _ | refine Sub.setF ?_ (by first | assumption | simp only [*]) | refine Sub.setV ?_ (by first | assumption | simp only [*]))), ?_⟩); simp [addV, zeroH, hw0, t1, t2, hlast]
  have hbad : ¬ (9223372036854775807 < tick ∨ ((lastV ls).2 = true ∧ tick < (lastV ls).1)) := by rw [hlast]; rintro (h | h); exact t1 h; exact t2 h
  cases lb
  rotate_left
  have t3 : ¬ tick < lt := fun h => t2 ⟨rfl, h⟩
  simp only [go_sem, t3, h6]
  rotate_left
  simp only [go_sem, h6]
  all_goals
    refine (hist_Total k g ls (by omega)).useA ?_
    have e1 : sub64 4503599627370496 (totV ls) = 4503599627370496 - totN 0 ls := by rw [htot, sub64_eq]; omega
    simp only [go_sem, e1]
    by_cases t4 : 4503599627370496 - totN 0 ls < w
    · simp only [go_sem, t4, h6]
      (refine ⟨S, by (repeat (first | exact Sub.refl _ | refine Sub.setF ?_ (by first | assumption | simp only [*]) | refine Sub.setV ?_ (by first | assumption | simp only [*]))), ?_⟩); simp [addV, zeroH, hw0, hbad, t4]
    simp only [go_sem, t4, h6]
    obtain ⟨FL, hFL⟩ : ∃ FL, flowV k tick 0 ls [] w = FL := ⟨_, rfl⟩
    have hww : w ≤ 4611686018427387904 / 4 := by omega
    have hFLn : FL.length ≤ 1073741824 + 62 := by
      have := flow_len k tick 62 0 ls [] w (fun x hx => by have := hl x hx; omega) (by simp; omega)
      rw [hFL] at this; omega
    refine alloc_intro fun c10 h10 => ?_
    simp only [fresh_set] at h10
    simp only [go_sem, h6, h10]
    refine (hist_flow k g ls tick w _).useA ?_
    rintro _ _ ⟨b1, b2, b3, f1, f2, f3, hne, rfl, rfl⟩
    simp only [fresh_set] at f1 f2 f3
    simp only [go_sem, h6, h10, f1, f2, f3, hne]
    refine AWP.tipB c10 2 1 (cs := [i64 k, i64 g, .nils]) (by simp only [go_sem, h6, h10, f1, f2, f3, hne]) rfl fun kk hkk => ?_
    simp only [freshv_setr] at hkk
    simp only [List.set]
    have hseq := hist_flow1 k g ls tick w hk hww hls hl (T0 := ((eS.set (.r b2) (.cells [i64 k, i64 g, .p (.sl (ls.map lvE))])).set (.r b3) (.cells [u64 tick])).set (.r b1) (.cells [u64 w])) (b1 := b1) (b2 := b2) (b3 := b3) (by simp only [go_sem, hne]) (by simp only [go_sem, hne]) (by simp only [go_sem, hne])
    rw [hFL] at hseq
    have g6 : S (.r c6) = none := h6.2
    have g10 : S (.r c10) = none := h10.2.2
    have g1 : S (.r b1) = none := f1.2.2.2
    have g2 : S (.r b2) = none := f2.2.2.2
    have g3 : S (.r b3) = none := f3.2.2.2
    refine AWP.rangeE (ι := Option Nat) (f := 72) (first := []) (caps := [.sp b1 0, .sp b2 0, .sp b3 0]) (by simp only [go_sem]) _
      (fun j loc => ((S.set (.r c6) (.cells [i64 0, i64 0, .nils])).set (.r c10) (.cells [i64 k, i64 g, .ts kk 1 loc ((FL.take j).map lvE)])).set (.v kk) (.tip 1 (FL.take j).length loc)) none
      ?_ ?_ hseq (enterable_of Try.func72 rfl rfl) (fun _ _ => False) (fun _ _ => rfl) (by simp) ?_ ?_ ?_
    · refine sub_joinT (sub_joinT (sub_joinT (sub_join0 ?_) ?_ ?_) ?_ ?_) ?_ ?_
      · ((try dsimp only); (repeat refine sub_set ?_ ?_) <;> first | ((repeat (first | exact Sub.refl _ | refine Sub.setF ?_ (by first | assumption | simp only [*]) | refine Sub.setV ?_ (by first | assumption | simp only [*]))); done) | (simp only [go_sem, h6, h10, f1, f2, f3, hne, hkk, List.take_zero, List.map_nil, List.length_nil]; done) | (simp only [go_sem, h6, h10, f1, f2, f3, hne, hkk, List.take_zero, List.map_nil, List.length_nil]; rfl) | rfl)
      all_goals simp only [go_sem, h6, h10, f1, f2, f3, hne, hkk, g1, g2, g3]
    · refine (((Disj.nil _).setT ?_ _).setT ?_ _).setT ?_ _
      all_goals simp only [go_sem, h6, h10, f1, f2, f3, hne, hkk, g1, g2, g3]
    · intro j loc l hj T hT hdT
      refine xc_ok (bitB 844433522298831) _ _ _ ?_
      simp only [go_sem, itemsF]
      refine ⟨_, Sub.refl _, hdT, fun T' hT' hdT' => ?_⟩
      refine xc_ok (bitB 844433522298831) _ _ _ ?_
      simp only [go_sem, h6, h10, hkk]
      have hle : (List.take j FL).length ≤ j := by rw [List.length_take]; exact Nat.min_le_left _ _
      refine ⟨by rintro el rfl; rfl, lvE_len, (by clear h6 h10 hne f1 f2 f3 h3 hdT hdT'; omega), (by clear h6 h10 hne f1 f2 f3 h3 hdT hdT'; omega), grow_intro fun loc' => ?_⟩
      simp only [go_sem, h6, h10, hkk]
      have e5 : List.map lvE (List.take j FL) ++ [[lvP (FL.getD j [])]] = List.map lvE (FL.take (j + 1)) := by
        rw [List.take_succ_eq_append_getElem hj, List.map_append]
        simp [List.getD_eq_getElem?_getD, hj, lvE]
      have hdq := (hdT'.setE (k := .v kk) (y := .tip 1 (FL.take j).length loc) (by simp only [go_sem]) (.tip 1 (List.map lvE (List.take j FL) ++ [[lvP (FL.getD j [])]]).length loc')).setE (k := .r c10) (y := .cells [i64 k, i64 g, .ts kk 1 loc ((FL.take j).map lvE)]) (by simp only [go_sem])
        (.cells [i64 k, i64 g, .ts kk 1 loc' (List.map lvE (List.take j FL) ++ [[lvP (FL.getD j [])]])])
      refine ⟨loc', ?_, ?_⟩
      · rw [join_set, join_set]
        refine Sub.joinD ?_ hdq
        ((try dsimp only); (repeat refine sub_set ?_ ?_) <;> first | ((repeat (first | exact Sub.refl _ | refine Sub.setF ?_ (by first | assumption | simp only [*]) | refine Sub.setV ?_ (by first | assumption | simp only [*]))); done) | (simp only [go_sem, h6, h10, hkk, e5, List.length_map, g6, g10]; done) | (simp only [go_sem, h6, h10, hkk, e5, List.length_map, g6, g10]; rfl) | rfl)
      · intro q
        rcases hdT' q with e | e
        · left
          simp only [Store.set] at e ⊢
          repeat' split at e
          all_goals simp_all
        · exact Or.inr e
    · intro loc d hd
      have n10 : ¬ c10 = d ∧ ¬ d = c10 := by constructor <;> rintro rfl <;> simp [Store.join, Store.set] at hd
      have n6 : ¬ c6 = d ∧ ¬ d = c6 := by constructor <;> rintro rfl <;> simp [Store.join, Store.set, h10] at hd
      have gd : S (.r d) = none := by
        have := (join_none hd).2
        simpa [Store.set, n10, n6] using this
      simp only [go_sem, List.take_length, h6, h10, hkk, n10, n6]
      refine ⟨S, ?_, ?_⟩
      · refine Sub.set (Sub.set (Sub.joinL ?_) gd _) g6 _
        refine Sub.set (Sub.set (Sub.set (Sub.refl _) g6 _) g10 _) hkk _
      · simp [addV, hw0, hbad, t4, hFL, gd]
    · intro e E' d _ h; exact h.elim
end Go.Sk
