/- Texts W5r W6d W5p W6a W6b W6h A7h A14 A14b W8 A19a A14c, joined. -/
import Derived.Test.YthpfcfacofakoaaGreatRKA
import Derived.Test.YthpfcfacofakoaaGreatSkRg
set_option linter.unusedSimpArgs false
set_option linter.unusedVariables false
set_option linter.unusedSectionVars false
-- W5r
section
namespace Go.Sk
open Go Go.Proofs

set_option maxHeartbeats 1000000 in
set_option maxRecDepth 8000 in
theorem ref05_Push (l : List Span) (most : Nat) (add : List Span) (many tick : Nat) (hm1 : 1 ≤ most) (hm2 : most < 1099511627776) (hl : l.length < 1099511627776) (ha : add.length < 1099511627776) (hmany : many < 4611686018427387904) :
    Pure Tryz.prog 155 [.p (lvP l), i64 most, .p (lvP add), u64 many, u64 tick]
      (.tuple [.p (lvP (stayV l most add many tick)), .p (lvP (outsV l most add many tick)), u64 (leftV l most add many)]) := fun S => by
  refine callR_of Tryz.func155 rfl rfl (xc_ok (bitB 5106502809662176120174279711) _ _ _ ?_)
  have hb1 : ¬ (1 : Int) > most := by omega
  simp only [go_sem, lvP, hb1, if_false]
  refine ⟨span_len, by omega, by omega, tip_intro fun k0 loc0 hk0 => ?_⟩
  simp only [go_sem]
  refine ⟨span_len, span_len, by omega, by omega, grow_intro fun loc1 => ?_⟩
  simp only [go_sem]
  obtain ⟨all, hall⟩ : ∃ all, l ++ add = all := ⟨_, rfl⟩
  have hmapall : List.map Span.pv l ++ List.map Span.pv add = List.map Span.pv all := by rw [← hall, List.map_append]
  obtain ⟨n, hnn⟩ : ∃ n, l.length + add.length = n := ⟨_, rfl⟩
  have hlen : all.length = n := by rw [← hall, List.length_append, hnn]
  have e1 : m64 n = n := m64_id (by omega)
  have e2 : m64 (n + many) = n + many := m64_id (by omega)
  have e3 : m64 most = most := m64_id (by omega)
  simp only [hmapall, hnn, hlen]
  obtain ⟨p, hp⟩ : ∃ p, pairsN (n + many) most = p := ⟨_, rfl⟩
  have hp0 := hp
  unfold pairsN at hp0
  obtain ⟨q, hq⟩ : ∃ q, outsN n most many = q := ⟨_, rfl⟩
  have hq0 : min p ((n + 1) / 2) = q := by rw [← hq]; unfold outsN; rw [hp]
  have hst : stayV l most add many tick = (lineV l add many tick).drop (2 * p) := by unfold stayV; rw [hnn, hp]
  have hout : outsV l most add many tick = (pairUp (lineV l add many tick)).take q := by unfold outsV; rw [hnn, hq]
  have hleft : leftV l most add many = p - q := by unfold leftV; rw [hnn, hp, hq]
  rw [hst, hout, hleft]
  simp only [go_sem, hlen, e1, e2, e3]
  by_cases hc : most < n + many
  rotate_left
  have hp1 : p = 0 := by omega
  simp only [go_sem, hc]
  rotate_left
  have hp1 : True := trivial
  have e4 : sub64 (n + many) most = n + many - most := by rw [sub64_eq]; omega
  have e5 : m64 (n + many - most + 1) = n + many - most + 1 := m64_id (by omega)
  have e6 : m64 ((n + many - most + 1) / 2) = p := by rw [hp0]; exact m64_id (by omega)
  simp only [go_sem, hc, e3, e4, e5, e6]
  all_goals
    refine AWP.data 13 ?_
    refine AWP.tip0 17 2 (by simp only [go_sem]) fun k hk => ?_
    simp only [freshv_set, freshv_setr] at hk
    simp only [go_sem]
    refine AWP.iterE (ι := Option Nat) (fun loc j => ⟨Env.get [(4, u64 tick), (13, .p (.sl (all.map Span.pv))), (14, u64 n), (15, u64 p), (16, u64 (n + many)), (17, .ts k 2 loc (((pairUp (lineV l add many tick)).take j).map Span.pv)), (18, u64 j)],
      S.set (.v k) (.tip 2 ((pairUp (lineV l add many tick)).take j).length loc), 111, []⟩) q none ?_ ?_ ?_
    · refine le_of (by simp only [go_sem, List.take_zero, List.map_nil] <;> first | rfl | rw [hp1]) ?_ rfl rfl (by simp)
      ((try dsimp only); (repeat refine sub_set ?_ ?_) <;> first | ((repeat (first | exact Sub.refl _ | refine Sub.setF ?_ (by first | assumption | simp only [*]) | refine Sub.setV ?_ (by first | assumption | simp only [*]))); done) | (simp only [go_sem, hk, List.take_zero, List.map_nil, List.length_nil]; done) | (simp only [go_sem, hk, List.take_zero, List.map_nil, List.length_nil]; rfl) | rfl)
    · intro j loc hj ih
      obtain ⟨h1, h2, h3, h4, h5⟩ := two_next hlen hm1 (by rw [hq]; exact hj)
      have e7 : m64 (2 * j) = 2 * j := m64_id (by omega)
      have e8 : m64 (2 * j + 1) = 2 * j + 1 := m64_id (by omega)
      have e9 : m64 (j + 1) = j + 1 := m64_id (by omega)
      have hjp : j < p := by omega
      have hjl : 2 * j < all.length := by omega
      have hle : (List.take j (pairUp (lineV l add many tick))).length ≤ j := by rw [List.length_take]; exact Nat.min_le_left _ _
      have hsn := outs_snoc l add many tick most j hm1 (by rw [hnn, hq]; exact hj)
      simp only [hall, hnn] at hsn
      refine AWPH.step (xc_ok (bitB 5106502809662176120174279711) _ _ _ ?_)
      simp only [go_sem, hk, e7, hjp, h1, hjl, ltN' hjl, getD_map' _ _ _ _ hjl, e8]
      by_cases hd : 2 * j + 1 < n
      · have hjl2 : 2 * j + 1 < all.length := by omega
        rw [dif_pos hd] at hsn
        simp only [go_sem, hk, e7, e8, e9, hd, hjl2, ltN' hjl2, getD_map' _ _ _ _ hjl2]
        have e5' : List.map Span.pv ((pairUp (lineV l add many tick)).take j) ++ [[.int .u64 (all[2 * j]).a, .int .u64 (all[2 * j + 1]).b]] = List.map Span.pv ((pairUp (lineV l add many tick)).take (j + 1)) := by
          rw [hsn, List.map_append]; rfl
        refine ⟨by rintro el rfl; rfl, span_len, by omega, by omega, grow_intro fun loc' => ?_⟩
        simp only [go_sem, hk, e9]
        refine (ih loc').back ?_ (by simp) ?_
        · ((try dsimp only); (repeat refine sub_set ?_ ?_) <;> first | ((repeat (first | exact Sub.refl _ | refine Sub.setF ?_ (by first | assumption | simp only [*]) | refine Sub.setV ?_ (by first | assumption | simp only [*]))); done) | (simp only [go_sem, hk, e5', List.length_map]; done) | (simp only [go_sem, hk, e5', List.length_map]; rfl) | rfl)
        · simp only [go_sem, e5', e9]
      · rw [dif_neg hd] at hsn
        simp only [go_sem, hk, e7, e8, e9, hd]
        have e5' : List.map Span.pv ((pairUp (lineV l add many tick)).take j) ++ [[.int .u64 (all[2 * j]).a, .int .u64 tick]] = List.map Span.pv ((pairUp (lineV l add many tick)).take (j + 1)) := by
          rw [hsn, List.map_append]; rfl
        refine ⟨by rintro el rfl; rfl, span_len, by omega, by omega, grow_intro fun loc' => ?_⟩
        simp only [go_sem, hk, e9]
        refine (ih loc').back ?_ (by simp) ?_
        · ((try dsimp only); (repeat refine sub_set ?_ ?_) <;> first | ((repeat (first | exact Sub.refl _ | refine Sub.setF ?_ (by first | assumption | simp only [*]) | refine Sub.setV ?_ (by first | assumption | simp only [*]))); done) | (simp only [go_sem, hk, e5', List.length_map]; done) | (simp only [go_sem, hk, e5', List.length_map]; rfl) | rfl)
        · simp only [go_sem, e5', e9]
    · intro loc
      refine AWPH.step (xc_ok (bitB 5106502809662176120174279711) _ _ _ ?_)
      have e7 : m64 (2 * q) = 2 * q := m64_id (by omega)
      have e8 : m64 (2 * p) = 2 * p := m64_id (by omega)
      have hex : ¬ q < p ∨ ¬ 2 * q < n := by omega
      obtain ⟨lin, hlin⟩ : ∃ lin, lineV l add many tick = lin := ⟨_, rfl⟩
      have hll : lin.length = n + many := by rw [← hlin, lineV_length, hnn]
      obtain ⟨outs, houts⟩ : ∃ outs, (pairUp lin).take q = outs := ⟨_, rfl⟩
      simp only [hlin, houts]
      by_cases hqp : q < p
      rotate_left
      simp only [go_sem, hk, hqp, e7, e8]
      rotate_left
      have hqn : ¬ 2 * q < n := by omega
      simp only [go_sem, hk, hqp, hqn, e7, e8]
      all_goals
        refine AWP.tip0 21 2 (by simp only [go_sem]) fun k3 hk3 => ?_
        simp only [freshv_set, freshv_setr] at hk3
        simp only [go_sem]
        refine AWP.iterE (ι := Option Nat) (fun loc3 i => ⟨Env.get [(4, u64 tick), (13, .p (.sl (all.map Span.pv))), (14, u64 n), (15, u64 p), (16, u64 (n + many)), (17, .ts k 2 loc (outs.map Span.pv)), (18, u64 q), (21, .ts k3 2 loc3 (((lin.drop (2 * p)).take i).map Span.pv)), (22, u64 (2 * p + i))],
          (S.set (.v k) (.tip 2 outs.length loc)).set (.v k3) (.tip 2 ((lin.drop (2 * p)).take i).length loc3), 111, []⟩) (n + many - 2 * p) none ?_ ?_ ?_
        · refine le_of (by simp only [go_sem, List.take_zero, List.map_nil, Nat.add_zero]) ?_ rfl rfl (by simp)
          ((try dsimp only); (repeat refine sub_set ?_ ?_) <;> first | ((repeat (first | exact Sub.refl _ | refine Sub.setF ?_ (by first | assumption | simp only [*]) | refine Sub.setV ?_ (by first | assumption | simp only [*]))); done) | (simp only [go_sem, hk, hk3, List.take_zero, List.map_nil, List.length_nil]; done) | (simp only [go_sem, hk, hk3, List.take_zero, List.map_nil, List.length_nil]; rfl) | rfl)
        · intro i loc3 hi ih
          have hi2 : i < (lin.drop (2 * p)).length := by rw [List.length_drop]; omega
          have f1 : 2 * p + i < n + many := by omega
          have f2 : m64 (2 * p + i + 1) = 2 * p + (i + 1) := by rw [m64_id (by omega)]; omega
          have hle : (List.take i (lin.drop (2 * p))).length ≤ i := by rw [List.length_take]; exact Nat.min_le_left _ _
          have hsize : i ≤ most + 1 := by omega
          have e5' : ∀ s : Span, (lin.drop (2 * p))[i] = s → List.map Span.pv ((lin.drop (2 * p)).take i) ++ [[.int .u64 s.a, .int .u64 s.b]] = List.map Span.pv ((lin.drop (2 * p)).take (i + 1)) := by
            intro s hs
            rw [List.take_succ_eq_append_getElem hi2, List.map_append, hs]; rfl
          refine AWPH.step (xc_ok (bitB 5106502809662176120174279711) _ _ _ ?_)
          simp only [go_sem, hk, hk3, f1]
          by_cases hd : 2 * p + i < n
          · have hjl2 : 2 * p + i < all.length := by omega
            have g := e5' (all[2 * p + i]) (by rw [List.getElem_drop]; simp only [← hlin]; rw [lineV_lt (by omega)]; simp only [hall])
            simp only [go_sem, hk, hk3, hd, hjl2, ltN' hjl2, getD_map' _ _ _ _ hjl2]
            refine ⟨by rintro el rfl; rfl, span_len, by omega, by omega, grow_intro fun loc' => ?_⟩
            simp only [go_sem, hk, hk3, f2]
            refine (ih loc').back ?_ (by simp) ?_
            · ((try dsimp only); (repeat refine sub_set ?_ ?_) <;> first | ((repeat (first | exact Sub.refl _ | refine Sub.setF ?_ (by first | assumption | simp only [*]) | refine Sub.setV ?_ (by first | assumption | simp only [*]))); done) | (simp only [go_sem, hk, hk3, g, List.length_map]; done) | (simp only [go_sem, hk, hk3, g, List.length_map]; rfl) | rfl)
            · simp only [go_sem, g, f2]
          · have g := e5' ⟨tick, tick⟩ (by rw [List.getElem_drop]; simp only [← hlin]; rw [lineV_ge (by omega)])
            simp only [go_sem, hk, hk3, hd]
            refine ⟨by rintro el rfl; rfl, span_len, by omega, by omega, grow_intro fun loc' => ?_⟩
            simp only [go_sem, hk, hk3, f2]
            refine (ih loc').back ?_ (by simp) ?_
            · ((try dsimp only); (repeat refine sub_set ?_ ?_) <;> first | ((repeat (first | exact Sub.refl _ | refine Sub.setF ?_ (by first | assumption | simp only [*]) | refine Sub.setV ?_ (by first | assumption | simp only [*]))); done) | (simp only [go_sem, hk, hk3, g, List.length_map]; done) | (simp only [go_sem, hk, hk3, g, List.length_map]; rfl) | rfl)
            · simp only [go_sem, g, f2]
        · intro loc3
          have f1 : ¬ 2 * p + (n + many - 2 * p) < n + many := by omega
          have f3 : sub64 p q = p - q := by rw [sub64_eq]; omega
          refine AWPH.step (xc_ok (bitB 5106502809662176120174279711) _ _ _ ?_)
          simp only [go_sem, hk, hk3, f1, f3, List.take_of_length_le (show (lin.drop (2 * p)).length ≤ n + many - 2 * p by rw [List.length_drop]; omega)]
          (refine ⟨S, by (repeat (first | exact Sub.refl _ | refine Sub.setF ?_ (by first | assumption | simp only [*]) | refine Sub.setV ?_ (by first | assumption | simp only [*]))), ?_⟩); simp
end Go.Sk
end

-- W6d
section
namespace Go.Sk
open Go Go.Proofs

set_option maxHeartbeats 1000000 in
set_option maxRecDepth 8000 in
theorem ref06_Add (k : Nat) (g : Int) (ls : List (List Span)) (tick w : Nat) (hk : k < 1073741824) (hw : w < 18446744073709551616) (hls : ls.length < 1073741824) (hl : ∀ l ∈ ls, l.length < 1073741824) (ht : totN 0 ls ≤ 4503599627370496) :
    Pure Tryz.prog 98 [(Hist.mk k g ls).av, u64 tick, u64 w] (.tuple [(addV k g ls tick w).1.av, i64 (addV k g ls tick w).2]) := fun S => by
  have htot : totV ls = totN 0 ls := totV_eq (by omega)
  refine callR_of Tryz.func98 rfl rfl (xc_ok (bitB 36893505756785409999) _ _ _ ?_)
  simp only [go_sem]
  refine alloc_intro fun c3 h3 => ?_
  simp only [go_sem]
  refine alloc_intro fun c6 h6 => ?_
  simp only [fresh_set] at h6
  simp only [go_sem, h6]
  by_cases hw0 : w = 0
  · subst hw0
    simp only [go_sem, h6]
    (refine ⟨S, by (repeat (first | exact Sub.refl _ | refine Sub.setF ?_ (by first | assumption | simp only [*]) | refine Sub.setV ?_ (by first | assumption | simp only [*]))), ?_⟩); simp [addV, zeroH]
  have hw0' : (w == 0) = false := by simpa using hw0
  simp only [go_sem, hw0', h6]
  refine (ref06_Last k g ls (fun l hx => by have := hl l hx; omega)).useA ?_
  simp only [go_sem]
  obtain ⟨lt, lb, hlast⟩ : ∃ lt lb, lastV ls = (lt, lb) := ⟨_, _, rfl⟩
  simp only [hlast]
  by_cases t1 : 9223372036854775807 < tick
  · simp only [go_sem, t1, h6]
    (refine ⟨S, by (repeat (first | exact Sub.refl _ | refine Sub.setF ?_ (by first | assumption | simp only [*]) | refine Sub.setV ?_ (by first | assumption | simp only [*]))), ?_⟩); simp [addV, zeroH, hw0, t1]
  simp only [go_sem, t1]
  by_cases t2 : lb = true ∧ tick < lt
  · obtain ⟨rfl, t2⟩ := t2
    simp only [go_sem, t2, h6]
    (refine ⟨S, by (repeat (first | exact Sub.refl _ | refine Sub.setF ?_ (by first | assumption | simp only [*]) | refine Sub.setV ?_ (by first | assumption | simp only [*]))), ?_⟩); simp [addV, zeroH, hw0, t1, t2, hlast]
  have hbad : ¬ (9223372036854775807 < tick ∨ ((lastV ls).2 = true ∧ tick < (lastV ls).1)) := by rw [hlast]; rintro (h | h); exact t1 h; exact t2 h
  cases lb
  rotate_left
  have t3 : ¬ tick < lt := fun h => t2 ⟨rfl, h⟩
  simp only [go_sem, t3, h6]
  rotate_left
  simp only [go_sem, h6]
  all_goals
    by_cases t4 : 4503599627370496 - totN 0 ls < w
    · by_cases t5 : 4503599627370496 < w
      · simp only [go_sem, t5, h6]
        (refine ⟨S, by (repeat (first | exact Sub.refl _ | refine Sub.setF ?_ (by first | assumption | simp only [*]) | refine Sub.setV ?_ (by first | assumption | simp only [*]))), ?_⟩); simp [addV, zeroH, hw0, hbad, t4]
      · simp only [go_sem, t5, h6]
        refine (ref06_Total k g ls (by omega)).useA ?_
        have e1 : m64 (w + totV ls) = w + totN 0 ls := by rw [htot]; exact m64_id (by omega)
        have e2 : 4503599627370496 < w + totN 0 ls := by omega
        simp only [go_sem, e1, e2, h6]
        (refine ⟨S, by (repeat (first | exact Sub.refl _ | refine Sub.setF ?_ (by first | assumption | simp only [*]) | refine Sub.setV ?_ (by first | assumption | simp only [*]))), ?_⟩); simp [addV, zeroH, hw0, hbad, t4]
    have t5 : ¬ 4503599627370496 < w := by omega
    simp only [go_sem, t5, h6]
    refine (ref06_Total k g ls (by omega)).useA ?_
    have e1 : m64 (w + totV ls) = w + totN 0 ls := by rw [htot]; exact m64_id (by omega)
    have e2 : ¬ 4503599627370496 < w + totN 0 ls := by omega
    simp only [go_sem, e1, e2, h6]
    obtain ⟨FL, hFL⟩ : ∃ FL, flowV k tick 0 ls [] w = FL := ⟨_, rfl⟩
    have hww : w ≤ 4611686018427387904 / 4 := by omega
    have hFLn : FL.length ≤ 1073741824 + 62 := by
      have := flow_len k tick 62 0 ls [] w (fun x hx => by have := hl x hx; omega) (by simp; omega)
      rw [hFL] at this; omega
    have hres : addV k g ls tick w = (⟨k, g, FL⟩, 0) := by simp [addV, hw0, hbad, t4, hFL]
    rw [hres]
    refine alloc_intro fun c10 h10 => ?_
    simp only [fresh_set] at h10
    have g3 : S (.r c3) = none := h3
    have g6 : S (.r c6) = none := h6.2
    have g10 : S (.r c10) = none := h10.2.2
    simp only [go_sem, h6, h10]
    refine AWP.data 11 ?_
    refine AWP.tipB c10 2 1 (cs := [i64 k, i64 g, .nils]) (by simp only [go_sem, h6, h10]) rfl fun kk hkk => ?_
    simp only [freshv_setr] at hkk
    simp only [List.set]
    simp only [go_sem]
    refine AWP.roam (ι := Nat × List (List Span) × List Span × Nat × Option Nat) (fun x => x.2.1 = ls.drop x.1 ∧ FL.drop x.1 = flowV k tick x.1 x.2.1 x.2.2.1 x.2.2.2.1 ∧ x.1 ≤ FL.length ∧ x.2.2.1.length ≤ 1073741824 ∧ x.2.2.2.1 ≤ 4611686018427387904 / 4)
      (fun x => ⟨Env.get [(1, u64 tick), (3, .sp c3 0), (6, .sp c6 0), (10, .sp c10 0), (11, .p (lvP x.2.2.1)), (12, u64 x.2.2.2.1), (13, i64 x.1)],
        (((S.set (.r c3) (.cells [i64 k, i64 g, .p (.sl (ls.map lvE))])).set (.r c6) (.cells [i64 0, i64 0, .nils])).set (.v kk) (.tip 1 (FL.take x.1).length x.2.2.2.2)).set (.r c10) (.cells [i64 k, i64 g, .ts kk 1 x.2.2.2.2 ((FL.take x.1).map lvE)]), 92, []⟩) (fun x => FL.length - x.1) (0, ls, [], w, none) ?_ ?_ ?_
    · exact ⟨by simp, by simp [hFL], by simp, by simp, hww⟩
    · refine le_of (by simp only [go_sem, lvP, List.map_nil] <;> rfl) ?_ rfl rfl (by simp)
      ((try dsimp only); (repeat refine sub_set ?_ ?_) <;> first | ((repeat (first | exact Sub.refl _ | refine Sub.setF ?_ (by first | assumption | simp only [*]) | refine Sub.setV ?_ (by first | assumption | simp only [*]))); done) | (simp only [go_sem, h6, h10, hkk, List.take_zero, List.map_nil, List.length_nil]; done) | (simp only [go_sem, h6, h10, hkk, List.take_zero, List.map_nil, List.length_nil]; rfl) | rfl)
    · rintro ⟨i, rest, come, many, loc⟩ ⟨r1, r2, r3, r4, r5⟩ ih
      dsimp only at r1 r2 r3 r4 r5 ⊢
      refine AWPH.step (xc_ok (bitB 36893505756785409999) _ _ _ ?_)
      by_cases hend : rest = [] ∧ come.length + many = 0
      · have hn : FL.length = i := by
          have : FL.drop i = [] := by rw [r2, hend.1, flowV_nil hend.2]
          have := List.drop_eq_nil_iff.1 this
          clear h6 h10; omega
        have hc1 : come = [] := List.eq_nil_of_length_eq_zero (by clear h6 h10; omega)
        have hc2 : many = 0 := by clear h6 h10; omega
        have hc3 : ¬ (i : Int) < (ls.length : Int) := by
          have : ls.drop i = [] := by rw [← r1]; exact hend.1
          have := List.drop_eq_nil_iff.1 this
          clear h6 h10; omega
        subst hc1; subst hc2; subst hn
        simp only [go_sem, h6, h10, hkk, lvP, hc3, List.take_length]
        refine ⟨S, ?_, ?_⟩
        · refine Sub.set (Sub.set (Sub.set (Sub.set (Sub.set (Sub.refl _) g3 _) g6 _) hkk _) g10 _) g6 _
        · simp
      · have hcons := flowV_cons (k := k) (tick := tick) (i := i) hend
        obtain ⟨L, hL⟩ : ∃ L, rest.headD [] = L := ⟨_, rfl⟩
        rw [hL] at hcons
        have hm1 := mostN_pos k i
        have hm2 := mostN_le k i
        have hLi : L = ls.getD i [] := by
          rw [← hL, r1]
          simp [List.headD_eq_head?_getD, List.getD_eq_getElem?_getD]
        have hLl : L.length ≤ 1073741824 := by
          rw [hLi]
          by_cases c : i < ls.length
          · have := hl _ (List.getElem_mem c)
            simp [List.getD_eq_getElem?_getD, c]; clear h6 h10; omega
          · simp [List.getD_eq_getElem?_getD, c]
        have hd' : FL.drop i = stayV L (mostN k i) come many tick :: flowV k tick (i + 1) rest.tail (outsV L (mostN k i) come many tick) (leftV L (mostN k i) come many) := by rw [r2, hcons]
        have hiF : i < FL.length := by
          apply Classical.byContradiction
          intro hc
          rw [List.drop_of_length_le (by clear h6 h10; omega)] at hd'
          cases hd'
        have hget : FL[i] = stayV L (mostN k i) come many tick := by
          have := List.drop_eq_getElem_cons hiF
          rw [hd'] at this
          simp only [List.cons.injEq] at this
          exact this.1.symm
        have hnext : FL.drop (i + 1) = flowV k tick (i + 1) rest.tail (outsV L (mostN k i) come many tick) (leftV L (mostN k i) come many) := by
          have := List.drop_eq_getElem_cons hiF
          rw [hd'] at this
          simp only [List.cons.injEq] at this
          exact this.2.symm
        have hinv := fun loc' => ih (i + 1, rest.tail, outsV L (mostN k i) come many tick, leftV L (mostN k i) come many, loc')
          ⟨by dsimp only; rw [r1, List.tail_drop], hnext, hiF, outs_small hm1 hLl r4, left_small hLl r4 r5 (by decide)⟩ (by dsimp only; clear h6 h10; omega)
        dsimp only at hinv
        have hmost := ref05_Most k i (by clear h6 h10; omega)
        have hpush := ref05_Push L (mostN k i) come many tick hm1 (by clear h6 h10; omega) (by clear h6 h10; omega) (by clear h6 h10; omega) (by clear h6 h10; omega)
        have hat := ref06_at k g ls i
        rw [← hLi] at hat
        have e5 : List.map lvE (List.take i FL) ++ [[lvP (stayV L (mostN k i) come many tick)]] = List.map lvE (FL.take (i + 1)) := by
          rw [List.take_succ_eq_append_getElem hiF, List.map_append, hget]; rfl
        have hle : (List.take i FL).length ≤ i := by rw [List.length_take]; exact Nat.min_le_left _ _
        have q2 : ((List.take i FL).length + 1) * 24 ≤ 140737488355328 := by clear h6 h10; omega
        have q3 : (List.take i FL).length + 1 < 4611686018427387904 := by clear h6 h10; omega
        have q4 : wi ((i : Int) + 1) = ((i + 1 : Nat) : Int) := wi_succ (show i < 4611686018427387904 by clear h6 h10; omega)
        have hab : (come.length : Int) > 0 ∨ many > 0 ∨ (i : Int) < (ls.length : Int) := by
          clear h6 h10
          by_cases a : (come.length : Int) > 0
          · exact Or.inl a
          · by_cases b : many > 0
            · exact Or.inr (Or.inl b)
            · refine Or.inr (Or.inr ?_)
              apply Classical.byContradiction
              intro hc
              exact hend ⟨by rw [r1]; exact List.drop_of_length_le (by omega), by omega⟩
        by_cases a : (come.length : Int) > 0 <;> by_cases b : many > 0 <;> by_cases c : (i : Int) < (ls.length : Int)
        rotate_right
        exact absurd hab (by clear h6 h10; omega)
        all_goals
          simp only [go_sem, h6, h10, hkk, lvP, a, b, c]
          refine AWP.draw2 (bitB 36893505756785409999) mixed (by kernel_rfl) (fun j => if j = 2 then .p (lvP L) else if j = 6 then i64 (mostN k i : Nat) else .tuple [.p (lvP (stayV L (mostN k i) come many tick)), .p (lvP (outsV L (mostN k i) come many tick)), u64 (leftV L (mostN k i) come many)]) ?_
          simp only [go_sem, h6, h10, hkk]
          refine ⟨hat.draw, hmost.draw, hpush.draw, ?_⟩
          refine ⟨by rintro el rfl; rfl, lvE_len, q2, q3, grow_intro fun loc' => ?_⟩
          simp only [go_sem, h6, h10, hkk]
          refine (hinv loc').back ?_ (by simp) ?_
          · ((try dsimp only); (repeat refine sub_set ?_ ?_) <;> first | ((repeat (first | exact Sub.refl _ | refine Sub.setF ?_ (by first | assumption | simp only [*]) | refine Sub.setV ?_ (by first | assumption | simp only [*]))); done) | (simp only [go_sem, h6, h10, hkk, e5, List.length_map]; done) | (simp only [go_sem, h6, h10, hkk, e5, List.length_map]; rfl) | rfl)
          · simp only [go_sem, q4]
end Go.Sk
end

-- W5p
section
namespace Go.Sk
open Go Go.Proofs

set_option maxHeartbeats 4000000 in
set_option maxRecDepth 8000 in
theorem level_Push (l : List Span) (most : Nat) (add : List Span) (many tick : Nat) (hm1 : 1 ≤ most) (hm2 : most < 1099511627776) (hl : l.length < 1099511627776) (ha : add.length < 1099511627776) (hmany : many < 4611686018427387904) :
    Pure Tryz.prog 203 [.p (lvP l), i64 most, .p (lvP add), u64 many, u64 tick]
      (.tuple [.p (lvP (stayV l most add many tick)), .p (lvP (outsV l most add many tick)), u64 (leftV l most add many)]) := fun S => by
  refine callR_of Tryz.func203 rfl rfl (xc_ok (bitB 2417851711286854270565407) _ _ _ ?_)
  simp only [go_sem, lvP]
  refine alloc_intro fun q hq => ?_
  simp only [go_sem]
  refine alloc_intro fun g hg => ?_
  simp only [fresh_set] at hg
  simp only [go_sem, hg]
  refine AWP.head (AWPH.step (xc_ok (bitB 2417851711286854270565407) _ _ _ ?_))
  simp only [go_sem, hg]
  change boolK (AV.p (PV.bool true)) _
  simp only [go_sem, hg]
  refine AWP.draw2 (bitB 2417851711286854270565407) mixed (by kernel_rfl) (fun i => bl false) ?_
  simp only [go_sem, hg]
  refine ⟨span_len, by omega, by omega, tip_intro fun k0 loc0 hk0 => ?_⟩
  simp only [go_sem, hg]
  have w01 : wi (0 + 1) = 1 := by rw [wi_id (by omega) (by omega)]; rfl
  have w11 : wi (1 + 1) = 2 := by rw [wi_id (by omega) (by omega)]; rfl
  refine AWPH.step (xc_ok (bitB 2417851711286854270565407) _ _ _ ?_)
  simp only [go_sem, hg, w01]
  change boolK (AV.p (PV.bool true)) _
  simp only [go_sem, hg]
  refine ⟨by omega, by omega, ?_⟩
  refine AWP.draw2 (bitB 2417851711286854270565407) mixed (by kernel_rfl) (fun i => bl false) ?_
  simp only [go_sem, hg]
  refine ⟨span_len, span_len, by omega, by omega, grow_intro fun loc1 => ?_⟩
  simp only [go_sem, hg]
  refine AWPH.step (xc_ok (bitB 2417851711286854270565407) _ _ _ ?_)
  simp only [go_sem, hg, w11]
  change boolK (AV.p (PV.bool false)) _
  simp only [go_sem, hg]
  refine (bounded_int most 1).useA ?_
  have hb1 : ¬ (most : Int) < 1 := by omega
  have e64 : m64 most = most := m64_id (by omega)
  simp only [go_sem, hg, hb1, if_false, e64]
  refine alloc_intro fun r hr => ?_
  simp only [fresh_set, fresh_setv] at hr
  simp only [go_sem, hg, hr]
  refine AWP.dataB q (cs := [.ts k0 2 loc1 (List.map Span.pv l ++ List.map Span.pv add), u64 many, u64 tick]) (by simp only [go_sem, hg, hr]) ?_
  simp only [go_sem, List.map_cons, List.map_nil, reif1]
  refine AWP.tip0 18 2 (by simp only [go_sem]) fun k hk => ?_
  simp only [go_sem]
  obtain ⟨all, hall⟩ : ∃ all, l ++ add = all := ⟨_, rfl⟩
  have hmapall : List.map Span.pv l ++ List.map Span.pv add = List.map Span.pv all := by rw [← hall, List.map_append]
  obtain ⟨n, hnn⟩ : ∃ n, l.length + add.length = n := ⟨_, rfl⟩
  have hlen : all.length = n := by rw [← hall, List.length_append, hnn]
  simp only [hmapall]
  simp only [freshv_set, freshv_setr] at hk hk0
  refine AWP.iterE (ι := Option Nat) (fun loc j => ⟨Env.get [(13, .sp g 0), (16, .sp r 0), (17, .fn (.func 227) [] [.sp g 0, .sp r 0]), (18, .ts k 2 loc (((pairUp (lineV l add many tick)).take j).map Span.pv))],
    (((S.set (.r g) (.cells [.sp q 0])).set (.r r) (.cells [u64 most])).set (.r q) (.cells [.p (lvP (all.drop (2 * j))), u64 (many - (2 * j - n) : Nat), u64 tick])).set (.v k) (.tip 2 (((pairUp (lineV l add many tick)).take j).map Span.pv).length loc), 90, []⟩) (outsN n most many) none ?_ ?_ ?_
  · refine le_of (by simp only [go_sem, List.take_zero]) ?_ rfl rfl (by simp)
    ((try dsimp only); (repeat refine sub_set ?_ ?_) <;> first | ((repeat (first | exact Sub.refl _ | refine Sub.setF ?_ (by first | assumption | simp only [*]) | refine Sub.setV ?_ (by first | assumption | simp only [*]))); done) | (simp only [go_sem, hg, hr, hk, lvP, Nat.mul_zero, List.drop_zero, Nat.zero_sub, Nat.sub_zero, List.take_zero]; done) | (simp only [go_sem, hg, hr, hk, lvP, Nat.mul_zero, List.drop_zero, Nat.zero_sub, Nat.sub_zero, List.take_zero]; rfl) | rfl)
  · intro j loc hj ih
    obtain ⟨h1, h2, h3, h4, h5⟩ := two_next hlen hm1 hj
    refine AWPH.step (xc_ok (bitB 2417851711286854270565407) _ _ _ ?_)
    simp only [go_sem]
    refine CallR.useF (first := []) (args := []) (caps := [.sp g 0, .sp r 0]) (a2 := []) (push_over (b := q) (r := r) (q := g) (all.drop (2 * j)) (many - (2 * j - n)) tick most ?_ ?_ (by simp; omega) (by omega) ?_) rfl ?_
    · simp only [go_sem, hg, hr]
    · simp only [go_sem, hg, hr]
    · simp only [go_sem, hg, hr]
    rintro _ _ ⟨rfl, rfl⟩
    have hdl : (List.drop (2 * j) all).length = n - 2 * j := by rw [List.length_drop, hlen]
    have hpos : (List.drop (2 * j) all).length + (many - (2 * j - n)) - most > 0 := by omega
    have hl0 : ((List.drop (2 * j) all).length : Int) > 0 := by omega
    simp only [go_sem, hg, hr, hpos, hl0, lvP]
    refine (line_next (b := q) (all.drop (2 * j)) (many - (2 * j - n)) tick ?_ (by omega) (by omega) (by omega)).useA ?_
    · simp only [go_sem, hg, hr, lvP]
    rintro _ _ ⟨rfl, rfl⟩
    simp only [go_sem, hg, hr]
    have q1 : (List.take j (pairUp (lineV l add many tick))).length ≤ j := by rw [List.length_take]; exact Nat.min_le_left _ _
    have q2 : ((List.take j (pairUp (lineV l add many tick))).length + 1) * 16 ≤ 140737488355328 := by clear hg hr hk hk0; omega
    have q3 : (List.take j (pairUp (lineV l add many tick))).length + 1 < 4611686018427387904 := by clear hg hr hk hk0; omega
    have q4 : 0 < ((all.drop (2 * j)).drop 1).length + (many - (2 * j - n) - (1 - (all.drop (2 * j)).length)) := by rw [List.length_drop (i := 1)]; clear hg hr hk hk0; omega
    have q5 : ((all.drop (2 * j)).drop 1).length < 4611686018427387904 := by rw [List.length_drop (i := 1)]; clear hg hr hk hk0; omega
    have q6 : many - (2 * j - n) - (1 - (all.drop (2 * j)).length) < 18446744073709551616 := by clear hg hr hk hk0; omega
    refine alloc_intro fun t ht => ?_
    simp only [fresh_set, fresh_setv] at ht
    simp only [go_sem, hg, hr, ht]
    refine AWP.orders (bitB 2417851711286854270565407) mixed [[0,1,2,3,4,5,6,7],[0,2,1,3,4,5,6,7],[0,2,3,1,4,5,6,7],[1,0,2,3,4,5,6,7],[1,2,0,3,4,5,6,7],[1,2,3,0,4,5,6,7],[1,2,3,4,0,5,6,7],[1,2,3,4,5,0,6,7],[2,0,1,3,4,5,6,7],[2,0,3,1,4,5,6,7],[2,1,0,3,4,5,6,7],[2,1,3,0,4,5,6,7],[2,1,3,4,0,5,6,7],[2,1,3,4,5,0,6,7],[2,3,0,1,4,5,6,7],[2,3,1,0,4,5,6,7],[2,3,1,4,0,5,6,7],[2,3,1,4,5,0,6,7]] (by kernel_rfl) ?_
    simp only [List.forall_mem_cons, List.not_mem_nil, false_implies, implies_true, and_true, opsAt, List.getElem?_cons_zero, List.getElem?_cons_succ]
    obtain ⟨x, hx⟩ : ∃ x : Span, (all.drop (2 * j) ++ List.replicate (many - (2 * j - n)) (⟨tick, tick⟩ : Span)).getD 0 default = x := ⟨_, rfl⟩
    obtain ⟨y, hy⟩ : ∃ y : Span, ((all.drop (2 * j)).drop 1 ++ List.replicate (many - (2 * j - n) - (1 - (all.drop (2 * j)).length)) (⟨tick, tick⟩ : Span)).getD 0 default = y := ⟨_, rfl⟩
    have e3 : ((all.drop (2 * j)).drop 1).drop 1 = all.drop (2 * (j + 1)) := by rw [List.drop_drop, List.drop_drop]; congr 1
    have e4 : many - (2 * j - n) - (1 - (all.drop (2 * j)).length) - (1 - ((all.drop (2 * j)).drop 1).length) = many - (2 * (j + 1) - n) := by
      rw [List.length_drop (i := 1), hdl]; omega
    have hgx : x = all[2 * j]'(by omega) := by rw [← hx]; exact drop_head _
    have hgy : y.b = if h : 2 * j + 1 < n then (all[2 * j + 1]'(by omega)).b else tick := by
      rw [← hy, List.drop_drop]
      split
      · rename_i h; rw [drop_head (by omega)]
      · rename_i h; rw [drop_head2 (by omega) (by omega)]
    have e5 : List.map Span.pv ((pairUp (lineV l add many tick)).take j) ++ [[.int .u64 x.a, .int .u64 y.b]] = List.map Span.pv ((pairUp (lineV l add many tick)).take (j + 1)) := by
      have hsn := outs_snoc l add many tick most j hm1 (by rw [hnn]; exact hj)
      rw [hsn, List.map_append]
      congr 1
      simp only [List.map_cons, List.map_nil, Span.pv, hgx, hgy, hall, hnn]
    have hle : (List.take j (pairUp (lineV l add many tick))).length ≤ j := by rw [List.length_take]; exact Nat.min_le_left _ _
    clear hgx hgy
    refine ⟨?_, ?_, ?_, ?_, ?_, ?_, ?_, ?_, ?_, ?_, ?_, ?_, ?_, ?_, ?_, ?_, ?_, ?_⟩
    rotate_left
    all_goals (first | done | skip)
    all_goals
      simp only [go_sem, hg, hr, ht]
      refine (line_next (b := q) ((all.drop (2 * j)).drop 1) (many - (2 * j - n) - (1 - (all.drop (2 * j)).length)) tick ?_ q4 q5 q6).useA ?_
      · simp only [go_sem, hg, hr, ht, lvP]
      rintro _ _ ⟨rfl, rfl⟩
      simp only [go_sem, hg, hr, ht]
      refine (level_both _ _).useA ?_
      simp only [go_sem, hg, hr, ht, hk]
      simp only [hx, hy, e3, e4]
      refine ⟨by rintro el rfl; rfl, span_len, q2, q3, grow_intro fun loc' => ?_⟩
      simp only [go_sem, hg, hr, ht, hk]
      refine (ih loc').back ?_ (by simp) ?_
      · ((try dsimp only); (repeat refine sub_set ?_ ?_) <;> first | ((repeat (first | exact Sub.refl _ | refine Sub.setF ?_ (by first | assumption | simp only [*]) | refine Sub.setV ?_ (by first | assumption | simp only [*]))); done) | (simp only [go_sem, hg, hr, ht, hk, e5, lvP]; done) | (simp only [go_sem, hg, hr, ht, hk, e5, lvP]; rfl) | rfl)
      · simp only [go_sem, e5]
  · intro loc
    refine AWPH.step (xc_ok (bitB 2417851711286854270565407) _ _ _ ?_)
    simp only [go_sem]
    have hq0 : ∃ qq, outsN n most many = qq := ⟨_, rfl⟩
    obtain ⟨qq, hqq⟩ := hq0
    have hqle : 2 * qq ≤ n + 1 := by rw [← hqq]; unfold outsN; omega
    have hmq : 2 * qq - n ≤ many := by rw [← hqq]; unfold outsN pairsN; omega
    simp only [hqq]
    have hdl : (List.drop (2 * qq) all).length = n - 2 * qq := by rw [List.length_drop, hlen]
    refine CallR.useF (first := []) (args := []) (caps := [.sp g 0, .sp r 0]) (a2 := []) (push_over (b := q) (r := r) (q := g) (all.drop (2 * qq)) (many - (2 * qq - n)) tick most ?_ ?_ (by omega) (by omega) ?_) rfl ?_
    · simp only [go_sem, hg, hr]
    · simp only [go_sem, hg, hr]
    · simp only [go_sem, hg, hr]
    rintro _ _ ⟨rfl, rfl⟩
    obtain ⟨hle1, hle2, hle3⟩ := left_eq (many := many) hm1 hqq
    rw [hdl]
    obtain ⟨left, hleft⟩ : ∃ left, pairsN (n + many) most - qq = left := ⟨_, rfl⟩
    rw [hleft] at hle1 hle2
    have hL : leftV l most add many = left := by unfold leftV; rw [hnn, hqq, hleft]
    have e6 : m64 (n - 2 * qq + (many - (2 * qq - n)) - most + 1) = n - 2 * qq + (many - (2 * qq - n)) - most + 1 := m64_id (by omega)
    have e7 : m64 (m64 (n - 2 * qq + (many - (2 * qq - n)) - most + 1) / 2) = left := by rw [e6, hle1]; exact m64_id (by omega)
    have e8 : sub64 (many - (2 * qq - n)) (m64 (2 * left)) = many - (2 * qq - n) - 2 * left := by rw [m64_id (by omega), sub64_eq]; omega
    have hst := stay_eq l add many tick most hm1
    rw [hall, hnn, hqq, hL] at hst
    have hout : outsV l most add many tick = (pairUp (lineV l add many tick)).take qq := by unfold outsV; rw [hnn, hqq]
    have hstl := stay_le l add many tick most hm1
    rw [hst, hout, hL]
    rw [hst] at hstl
    obtain ⟨rest, hrest⟩ : ∃ rest, List.drop (2 * qq) all = rest := ⟨_, rfl⟩
    obtain ⟨m2, hm2'⟩ : ∃ m2, many - (2 * qq - n) - 2 * left = m2 := ⟨_, rfl⟩
    rw [hm2'] at hst hstl e8
    rw [hrest] at hst hstl hdl
    simp only [hrest, hm2'] at *
    have hrl : rest.length + m2 ≤ most := by simpa using hstl
    simp only [go_sem, hg, hr, lvP]
    have hov := push_over (b := q) (r := r) (q := g) rest (many - (2 * qq - n)) tick most (S := (((S.set (.r g) (.cells [.sp q 0])).set (.r r) (.cells [u64 most])).set (.r q)
            (.cells [.p (.sl (List.map Span.pv rest)), u64 (many - (2 * qq - n) : Nat), u64 tick])).set
        (.v k) (.tip 2 (List.take qq (pairUp (lineV l add many tick))).length loc)) (by simp only [go_sem, hg, hr, lvP]) (by simp only [go_sem, hg, hr]) (by omega) (by omega) (by simp only [go_sem, hg, hr])
    rw [hdl] at hov
    have hzz : ¬ 0 < n - 2 * qq ∨ ¬ 0 < n - 2 * qq + (many - (2 * qq - n)) - most := by omega
    obtain ⟨outs, houts⟩ : ∃ outs, List.take qq (pairUp (lineV l add many tick)) = outs := ⟨_, rfl⟩
    simp only [houts] at hov ⊢
    obtain ⟨ST, hST⟩ : ∃ ST, rest ++ List.replicate m2 (⟨tick, tick⟩ : Span) = ST := ⟨_, rfl⟩
    have hSTl : ST.length = rest.length + m2 := by rw [← hST]; simp
    have happ : ∀ i (h : i < rest.length + m2), (rest.drop i ++ List.replicate (m2 - (i - rest.length)) (⟨tick, tick⟩ : Span)).getD 0 default = ST[i]'(by omega) := fun i h => by
      rw [app_getD h]; simp only [hST]
    simp only [hST]
    by_cases hc : 0 < n - 2 * qq + (many - (2 * qq - n)) - most
    rotate_left
    simp only [go_sem, hg, hr, lvP, hc]
    refine CallR.useF (first := []) (args := []) (caps := [.sp g 0, .sp r 0]) (a2 := []) hov rfl ?_
    rintro _ _ ⟨rfl, rfl⟩
    simp only [go_sem, hg, hr, e7, e8]
    rotate_left
    have hz : ¬ 0 < n - 2 * qq := by omega
    simp only [go_sem, hg, hr, lvP, hc, List.length_map, hdl, hz]
    refine CallR.useF (first := []) (args := []) (caps := [.sp g 0, .sp r 0]) (a2 := []) hov rfl ?_
    rintro _ _ ⟨rfl, rfl⟩
    simp only [go_sem, hg, hr, e7, e8]
    all_goals
      refine AWP.tip0 21 2 (by simp only [go_sem]) fun k3 hk3 => ?_
      simp only [freshv_set, freshv_setr] at hk3
      simp only [go_sem]
      refine AWP.iterE (ι := Option Nat) (fun loc3 i => ⟨Env.get [(13, .sp g 0), (18, .ts k 2 loc (outs.map Span.pv)), (20, u64 left), (21, .ts k3 2 loc3 ((ST.take i).map Span.pv))],
        (((S.set (.r g) (.cells [.sp q 0])).set (.v k) (.tip 2 outs.length loc)).set (.r q) (.cells [.p (lvP (rest.drop i)), u64 (m2 - (i - rest.length) : Nat), u64 tick])).set (.v k3) (.tip 2 (ST.take i).length loc3), 90, []⟩) (rest.length + m2) none ?_ ?_ ?_
      · refine le_of (by simp only [go_sem, List.take_zero]) ?_ rfl rfl (by simp)
        ((try dsimp only); (repeat refine sub_set ?_ ?_) <;> first | ((repeat (first | exact Sub.refl _ | refine Sub.setF ?_ (by first | assumption | simp only [*]) | refine Sub.setV ?_ (by first | assumption | simp only [*]))); done) | (simp only [go_sem, hg, hr, hk, hk3, lvP, Nat.zero_sub, Nat.sub_zero, List.drop_zero, List.take_zero, List.length_map]; done) | (simp only [go_sem, hg, hr, hk, hk3, lvP, Nat.zero_sub, Nat.sub_zero, List.drop_zero, List.take_zero, List.length_map]; rfl) | rfl)
      · intro i loc3 hi ih
        refine AWPH.step (xc_ok (bitB 2417851711286854270565407) _ _ _ ?_)
        simp only [go_sem, hg, hk3]
        refine (line_long (b := q) (rest.drop i) (m2 - (i - rest.length)) tick ?_ (by simp; omega)).useA ?_
        · simp only [go_sem, hg, hk3, lvP]
        rintro _ _ ⟨rfl, rfl⟩
        have hp : (rest.drop i).length + (m2 - (i - rest.length)) > 0 := by rw [List.length_drop]; omega
        simp only [go_sem, hg, hk3, hp]
        refine (line_next (b := q) (rest.drop i) (m2 - (i - rest.length)) tick ?_ hp (by rw [List.length_drop]; omega) (by omega)).useA ?_
        · simp only [go_sem, hg, hk3, lvP]
        rintro _ _ ⟨rfl, rfl⟩
        simp only [go_sem, hg, hk3]
        have hi2 : i < ST.length := by omega
        have e3 : (rest.drop i).drop 1 = rest.drop (i + 1) := by rw [List.drop_drop]
        have e4 : m2 - (i - rest.length) - (1 - (rest.drop i).length) = m2 - (i + 1 - rest.length) := by rw [List.length_drop]; omega
        have e5 : List.map Span.pv (ST.take i) ++ [[.int .u64 (ST[i]).a, .int .u64 (ST[i]).b]] = List.map Span.pv (ST.take (i + 1)) := by
          rw [List.take_succ_eq_append_getElem hi2, List.map_append]; rfl
        have hle : (List.take i ST).length ≤ i := by rw [List.length_take]; exact Nat.min_le_left _ _
        simp only [happ i hi, e3, e4]
        refine ⟨by rintro el rfl; rfl, span_len, by omega, by omega, grow_intro fun loc' => ?_⟩
        simp only [go_sem, hg, hk3]
        refine (ih loc').back ?_ (by simp) ?_
        · ((try dsimp only); (repeat refine sub_set ?_ ?_) <;> first | ((repeat (first | exact Sub.refl _ | refine Sub.setF ?_ (by first | assumption | simp only [*]) | refine Sub.setV ?_ (by first | assumption | simp only [*]))); done) | (simp only [go_sem, hg, hk, hk3, e5, lvP, List.length_map]; done) | (simp only [go_sem, hg, hk, hk3, e5, lvP, List.length_map]; rfl) | rfl)
        · simp only [go_sem, e5]
      · intro loc3
        refine AWPH.step (xc_ok (bitB 2417851711286854270565407) _ _ _ ?_)
        simp only [go_sem, hg, hk3]
        refine (line_long (b := q) (rest.drop (rest.length + m2)) (m2 - (rest.length + m2 - rest.length)) tick ?_ (by rw [List.length_drop]; omega)).useA ?_
        · simp only [go_sem, hg, hk3, lvP]
        rintro _ _ ⟨rfl, rfl⟩
        have hp : ¬ (rest.drop (rest.length + m2)).length + (m2 - (rest.length + m2 - rest.length)) > 0 := by rw [List.length_drop]; omega
        simp only [go_sem, hg, hk3, hp, List.take_of_length_le (show ST.length ≤ rest.length + m2 by omega)]
        (refine ⟨S, by (repeat (first | exact Sub.refl _ | refine Sub.setF ?_ (by first | assumption | simp only [*]) | refine Sub.setV ?_ (by first | assumption | simp only [*]))), ?_⟩); simp
end Go.Sk
end

-- W6a
section
namespace Go.Sk
open Go Go.Proofs

def itemsF (fl : List (List Span)) : Nat → List AV := fun k => [.p (lvP (fl.getD k []))]

set_option maxHeartbeats 1000000 in
set_option maxRecDepth 8000 in
theorem hist_flow1 (k : Nat) (g : Int) (ls : List (List Span)) (tick w : Nat) (hk : k < 1073741824) (hw : w ≤ 4611686018427387904 / 4) (hls : ls.length < 1073741824) (hl : ∀ l ∈ ls, l.length < 1073741824)
    {T0 : Store} {b1 b2 b3 : Nat} (h1 : T0 (.r b1) = some (.cells [u64 w])) (h2 : T0 (.r b2) = some (.cells [i64 k, i64 g, .p (.sl (ls.map lvE))])) (h3 : T0 (.r b3) = some (.cells [u64 tick])) :
    SeqR Tryz.prog 202 [] [.sp b1 0, .sp b2 0, .sp b3 0] T0 (flowV k tick 0 ls [] w).length (itemsF (flowV k tick 0 ls [] w)) := by
  intro l J Jx hy E hd h0
  simp only [List.nil_append, List.singleton_append]
  refine callR_of Tryz.func202 rfl rfl (xc_ok (bitB 36028805676011503) _ _ _ ?_)
  simp only [go_sem, h1, h2, h3]
  obtain ⟨FL, hFL⟩ : ∃ FL, flowV k tick 0 ls [] w = FL := ⟨_, rfl⟩
  rw [hFL] at hy ⊢
  have hFLn : FL.length ≤ 1073741824 + 62 := by
    have := flow_len k tick 62 0 ls [] w (fun x hx => by have := hl x hx; omega) (by simp; omega)
    rw [hFL] at this; omega
  refine AWP.data 5 ?_
  simp only [go_sem]
  refine AWP.roam (ι := Nat × List (List Span) × List Span × Nat × Store) (fun x => x.2.1 = ls.drop x.1 ∧ FL.drop x.1 = flowV k tick x.1 x.2.1 x.2.2.1 x.2.2.2.1 ∧ x.1 ≤ FL.length ∧ x.2.2.1.length ≤ 1073741824 ∧ x.2.2.2.1 ≤ 4611686018427387904 / 4 ∧ Disj T0 x.2.2.2.2 ∧ J x.1 x.2.2.2.2)
    (fun x => ⟨Env.get [(0, .fn (.yield l) [] []), (1, .sp b1 0), (2, .sp b2 0), (3, .sp b3 0), (5, .p (lvP x.2.2.1)), (6, u64 x.2.2.2.1), (7, i64 x.1)], Store.join x.2.2.2.2 T0, 58, []⟩) (fun x => FL.length - x.1) (0, ls, [], w, E) ?_ ?_ ?_
  · exact ⟨by simp, by simp [hFL], by simp, by simp, hw, hd, h0⟩
  · exact le_of (by simp only [go_sem, lvP, List.map_nil] <;> rfl) (Sub.refl _) rfl rfl (by simp)
  · rintro ⟨i, rest, come, many, E⟩ ⟨r1, r2, r3, r4, r5, hd, hJ⟩ ih
    dsimp only at r1 r2 r3 r4 r5 hd hJ ⊢
    refine AWPH.step (xc_ok (bitB 36028805676011503) _ _ _ ?_)
    by_cases hend : rest = [] ∧ come.length + many = 0
    · have hn : FL.length = i := by
        have : FL.drop i = [] := by rw [r2, hend.1, flowV_nil hend.2]
        have := List.drop_eq_nil_iff.1 this
        omega
      have hc1 : come = [] := List.eq_nil_of_length_eq_zero (by omega)
      have hc2 : many = 0 := by omega
      have hc3 : ¬ (i : Int) < (ls.length : Int) := by
        have : ls.drop i = [] := by rw [← r1]; exact hend.1
        have := List.drop_eq_nil_iff.1 this
        omega
      subst hc1; subst hc2
      simp only [go_sem, h1, h2, h3, lvP, hc3]
      exact ⟨_, Sub.refl _, Or.inl ⟨E, rfl, hd, Or.inl (by rw [hn]; exact hJ)⟩⟩
    · have hcons := flowV_cons (k := k) (tick := tick) (i := i) hend
      obtain ⟨L, hL⟩ : ∃ L, rest.headD [] = L := ⟨_, rfl⟩
      rw [hL] at hcons
      have hm1 := mostN_pos k i
      have hm2 := mostN_le k i
      have hLi : L = ls.getD i [] := by
        rw [← hL, r1]
        simp [List.headD_eq_head?_getD, List.getD_eq_getElem?_getD]
      have hLl : L.length ≤ 1073741824 := by
        rw [hLi]
        by_cases c : i < ls.length
        · have := hl _ (List.getElem_mem c)
          simp [List.getD_eq_getElem?_getD, c]; omega
        · simp [List.getD_eq_getElem?_getD, c]
      have hd' : FL.drop i = stayV L (mostN k i) come many tick :: flowV k tick (i + 1) rest.tail (outsV L (mostN k i) come many tick) (leftV L (mostN k i) come many) := by rw [r2, hcons]
      have hiF : i < FL.length := by
        apply Classical.byContradiction
        intro hc
        rw [List.drop_of_length_le (by omega)] at hd'
        cases hd'
      have hget : FL.getD i [] = stayV L (mostN k i) come many tick := by
        have := List.drop_eq_getElem_cons hiF
        rw [hd'] at this
        simp only [List.cons.injEq] at this
        simp [List.getD_eq_getElem?_getD, hiF, this.1]
      have hnext : FL.drop (i + 1) = flowV k tick (i + 1) rest.tail (outsV L (mostN k i) come many tick) (leftV L (mostN k i) come many) := by
        have := List.drop_eq_getElem_cons hiF
        rw [hd'] at this
        simp only [List.cons.injEq] at this
        exact this.2.symm
      have hinv : ∀ E', Disj T0 E' → J (i + 1) E' → AWPH Tryz.prog none _ _ _ := fun E' hE hJ' => ih (i + 1, rest.tail, outsV L (mostN k i) come many tick, leftV L (mostN k i) come many, E')
        ⟨by dsimp only; rw [r1, List.tail_drop], hnext, hiF, outs_small hm1 hLl r4, left_small hLl r4 r5 (by decide), hE, hJ'⟩ (by dsimp only; omega)
      dsimp only at hinv
      have hmost := level_Most k i (by omega)
      have hpush := level_Push L (mostN k i) come many tick hm1 (by omega) (by omega) (by omega) (by omega)
      have hyi := hy i hiF E T0 (Sub.refl _) hd hJ
      simp only [itemsF, hget] at hyi
      by_cases c : i < ls.length
      · have c' : (i : Int) < (ls.length : Int) := by omega
        have hLc : ls[i] = L := by rw [hLi]; simp [List.getD_eq_getElem?_getD, c]
        by_cases a : (come.length : Int) > 0 <;> by_cases b : many > 0
        all_goals
          simp only [go_sem, h1, h2, h3, lvP, a, b, c, c', getD_map' _ _ _ _ c, lvE_mk, hLc]
          refine AWP.data 8 ?_
          simp only [go_sem]
          refine AWP.draw2 (bitB 36028805676011503) mixed (by kernel_rfl) (fun j => if j = 4 then i64 (mostN k i : Nat) else .tuple [.p (lvP (stayV L (mostN k i) come many tick)), .p (lvP (outsV L (mostN k i) come many tick)), u64 (leftV L (mostN k i) come many)]) ?_
          simp only [go_sem, h1, h2, h3]
          refine ⟨hmost.draw, hpush.draw, ?_⟩
          refine hyi.useA rfl ?_
          rintro r S' ⟨E', rfl, hd2, ⟨rfl, hJ2⟩ | ⟨rfl, hJ2⟩⟩
          · simp only [go_sem]
            refine (hinv E' hd2 hJ2).back (Sub.refl _) (by simp) ?_
            simp only [go_sem, wi_succ (show i < 4611686018427387904 by omega)]
          · simp only [go_sem]
            exact ⟨_, Sub.refl _, Or.inl ⟨E', rfl, hd2, Or.inr hJ2⟩⟩
      · have c' : ¬ (i : Int) < (ls.length : Int) := by omega
        have hLc : L = [] := by rw [hLi]; simp [List.getD_eq_getElem?_getD, c]
        subst hLc
        have hab : come.length > 0 ∨ many > 0 := by
          apply Classical.byContradiction
          intro hx
          exact hend ⟨by rw [r1]; exact List.drop_of_length_le (by omega), by omega⟩
        by_cases a : (come.length : Int) > 0 <;> by_cases b : many > 0
        rotate_right
        exact absurd hab (by omega)
        all_goals
          simp only [go_sem, h1, h2, h3, lvP, a, b, c']
          refine AWP.data 8 ?_
          simp only [go_sem]
          refine AWP.draw2 (bitB 36028805676011503) mixed (by kernel_rfl) (fun j => if j = 4 then i64 (mostN k i : Nat) else .tuple [.p (lvP (stayV [] (mostN k i) come many tick)), .p (lvP (outsV [] (mostN k i) come many tick)), u64 (leftV [] (mostN k i) come many)]) ?_
          simp only [go_sem, h1, h2, h3]
          refine ⟨hmost.draw, hpush.draw, ?_⟩
          refine hyi.useA rfl ?_
          rintro r S' ⟨E', rfl, hd2, ⟨rfl, hJ2⟩ | ⟨rfl, hJ2⟩⟩
          · simp only [go_sem]
            refine (hinv E' hd2 hJ2).back (Sub.refl _) (by simp) ?_
            simp only [go_sem, wi_succ (show i < 4611686018427387904 by omega)]
          · simp only [go_sem]
            exact ⟨_, Sub.refl _, Or.inl ⟨E', rfl, hd2, Or.inr hJ2⟩⟩
end Go.Sk
end

-- W6b
section
namespace Go.Sk
open Go Go.Proofs

theorem hist_flow (k : Nat) (g : Int) (ls : List (List Span)) (tick w : Nat) (S : Store) : CallR Tryz.prog 151 [(Hist.mk k g ls).av, u64 tick, u64 w] S
    (fun r S' => ∃ b1 b2 b3, Fresh S b1 ∧ Fresh S b2 ∧ Fresh S b3 ∧ ((¬ b1 = b2 ∧ ¬ b2 = b1) ∧ (¬ b1 = b3 ∧ ¬ b3 = b1) ∧ (¬ b3 = b2 ∧ ¬ b2 = b3)) ∧ r = .fn (.func 202) [] [.sp b1 0, .sp b2 0, .sp b3 0] ∧
      S' = ((S.set (.r b2) (.cells [i64 k, i64 g, .p (.sl (ls.map lvE))])).set (.r b3) (.cells [u64 tick])).set (.r b1) (.cells [u64 w])) := by
  refine callR_of Tryz.func151 rfl rfl (xc_ok (bitB 127) _ _ _ ?_)
  simp only [go_sem]
  refine alloc_intro fun b2 h2 => ?_
  simp only [go_sem]
  refine alloc_intro fun b3 h3 => ?_
  simp only [fresh_set] at h3
  simp only [go_sem, h3]
  refine alloc_intro fun b1 h1 => ?_
  simp only [fresh_set] at h1
  simp only [go_sem, h3, h1]
  refine ⟨_, Sub.refl _, Or.inl ⟨b1, b2, b3, h1.2.2, h2, h3.2, ⟨⟨h1.2.1.1, h1.2.1.2⟩, ⟨h1.1.1, h1.1.2⟩, ⟨h3.1.1, h3.1.2⟩⟩, rfl, rfl⟩⟩

set_option maxHeartbeats 1000000 in
set_option maxRecDepth 8000 in
theorem hist_Add (k : Nat) (g : Int) (ls : List (List Span)) (tick w : Nat) (hk : k < 1073741824) (hw : w < 18446744073709551616) (hls : ls.length < 1073741824) (hl : ∀ l ∈ ls, l.length < 1073741824) (ht : totN 0 ls ≤ 4503599627370496) :
    Pure Tryz.prog 92 [(Hist.mk k g ls).av, u64 tick, u64 w] (.tuple [(addV k g ls tick w).1.av, i64 (addV k g ls tick w).2]) := fun S => by
  have htot : totV ls = totN 0 ls := totV_eq (by omega)
  refine callR_of Tryz.func92 rfl rfl (xc_ok (bitB 844433522298831) _ _ _ ?_)
  simp only [go_sem]
  refine alloc_intro fun c3 h3 => ?_
  simp only [go_sem]
  refine alloc_intro fun c6 h6 => ?_
  simp only [fresh_set] at h6
  simp only [go_sem, h6]
  refine (hist_Last k g ls (fun l hx => by have := hl l hx; omega)).useA ?_
  simp only [go_sem]
  by_cases hw0 : w = 0
  · subst hw0
    simp only [go_sem, h6]
    (refine ⟨S, by (repeat (first | exact Sub.refl _ | refine Sub.setF ?_ (by first | assumption | simp only [*]) | refine Sub.setV ?_ (by first | assumption | simp only [*]))), ?_⟩); simp [addV, zeroH]
  have hw0' : (w == 0) = false := by simpa using hw0
  simp only [go_sem, hw0']
  obtain ⟨lt, lb, hlast⟩ : ∃ lt lb, lastV ls = (lt, lb) := ⟨_, _, rfl⟩
  simp only [hlast]
  by_cases t1 : 9223372036854775807 < tick
  · simp only [go_sem, t1, h6]
    (refine ⟨S, by (repeat (first | exact Sub.refl _ | refine Sub.setF ?_ (by first | assumption | simp only [*]) | refine Sub.setV ?_ (by first | assumption | simp only [*]))), ?_⟩); simp [addV, zeroH, hw0, t1]
  simp only [go_sem, t1]
  by_cases t2 : lb = true ∧ tick < lt
  · obtain ⟨rfl, t2⟩ := t2
    simp only [go_sem, t2, h6]
    (refine ⟨S, by (repeat (first | exact Sub.refl _ | refine Sub.setF ?_ (by first | assumption | simp only [*]) | refine Sub.setV ?_ (by first | assumption | simp only [*]))), ?_⟩); simp [addV, zeroH, hw0, t1, t2, hlast]
  have hbad : ¬ (9223372036854775807 < tick ∨ ((lastV ls).2 = true ∧ tick < (lastV ls).1)) := by rw [hlast]; rintro (h | h); exact t1 h; exact t2 h
  cases lb
  rotate_left
  have t3 : ¬ tick < lt := fun h => t2 ⟨rfl, h⟩
  simp only [go_sem, t3, h6]
  rotate_left
  simp only [go_sem, h6]
  all_goals
    refine (hist_Total k g ls (by omega)).useA ?_
    have e1 : sub64 4503599627370496 (totV ls) = 4503599627370496 - totN 0 ls := by rw [htot, sub64_eq]; omega
    simp only [go_sem, e1]
    by_cases t4 : 4503599627370496 - totN 0 ls < w
    · simp only [go_sem, t4, h6]
      (refine ⟨S, by (repeat (first | exact Sub.refl _ | refine Sub.setF ?_ (by first | assumption | simp only [*]) | refine Sub.setV ?_ (by first | assumption | simp only [*]))), ?_⟩); simp [addV, zeroH, hw0, hbad, t4]
    simp only [go_sem, t4, h6]
    obtain ⟨FL, hFL⟩ : ∃ FL, flowV k tick 0 ls [] w = FL := ⟨_, rfl⟩
    have hww : w ≤ 4611686018427387904 / 4 := by omega
    have hFLn : FL.length ≤ 1073741824 + 62 := by
      have := flow_len k tick 62 0 ls [] w (fun x hx => by have := hl x hx; omega) (by simp; omega)
      rw [hFL] at this; omega
    refine alloc_intro fun c10 h10 => ?_
    simp only [fresh_set] at h10
    simp only [go_sem, h6, h10]
    refine (hist_flow k g ls tick w _).useA ?_
    rintro _ _ ⟨b1, b2, b3, f1, f2, f3, hne, rfl, rfl⟩
    simp only [fresh_set] at f1 f2 f3
    simp only [go_sem, h6, h10, f1, f2, f3, hne]
    refine AWP.tipB c10 2 1 (cs := [i64 k, i64 g, .nils]) (by simp only [go_sem, h6, h10, f1, f2, f3, hne]) rfl fun kk hkk => ?_
    simp only [freshv_setr] at hkk
    simp only [List.set]
    have hseq := hist_flow1 k g ls tick w hk hww hls hl (T0 := ((eS.set (.r b2) (.cells [i64 k, i64 g, .p (.sl (ls.map lvE))])).set (.r b3) (.cells [u64 tick])).set (.r b1) (.cells [u64 w])) (b1 := b1) (b2 := b2) (b3 := b3) (by simp only [go_sem, hne]) (by simp only [go_sem, hne]) (by simp only [go_sem, hne])
    rw [hFL] at hseq
    have g6 : S (.r c6) = none := h6.2
    have g10 : S (.r c10) = none := h10.2.2
    have g1 : S (.r b1) = none := f1.2.2.2
    have g2 : S (.r b2) = none := f2.2.2.2
    have g3 : S (.r b3) = none := f3.2.2.2
    refine AWP.rangeE (ι := Option Nat) (f := 202) (first := []) (caps := [.sp b1 0, .sp b2 0, .sp b3 0]) (by simp only [go_sem]) _
      (fun j loc => ((S.set (.r c6) (.cells [i64 0, i64 0, .nils])).set (.r c10) (.cells [i64 k, i64 g, .ts kk 1 loc ((FL.take j).map lvE)])).set (.v kk) (.tip 1 (FL.take j).length loc)) none
      ?_ ?_ hseq (enterable_of Tryz.func202 rfl rfl) (fun _ _ => False) (fun _ _ => rfl) (by simp) ?_ ?_ ?_
    · refine sub_joinT (sub_joinT (sub_joinT (sub_join0 ?_) ?_ ?_) ?_ ?_) ?_ ?_
      · ((try dsimp only); (repeat refine sub_set ?_ ?_) <;> first | ((repeat (first | exact Sub.refl _ | refine Sub.setF ?_ (by first | assumption | simp only [*]) | refine Sub.setV ?_ (by first | assumption | simp only [*]))); done) | (simp only [go_sem, h6, h10, f1, f2, f3, hne, hkk, List.take_zero, List.map_nil, List.length_nil]; done) | (simp only [go_sem, h6, h10, f1, f2, f3, hne, hkk, List.take_zero, List.map_nil, List.length_nil]; rfl) | rfl)
      all_goals simp only [go_sem, h6, h10, f1, f2, f3, hne, hkk, g1, g2, g3]
    · refine (((Disj.nil _).setT ?_ _).setT ?_ _).setT ?_ _
      all_goals simp only [go_sem, h6, h10, f1, f2, f3, hne, hkk, g1, g2, g3]
    · intro j loc l hj T hT hdT
      refine xc_ok (bitB 844433522298831) _ _ _ ?_
      simp only [go_sem, itemsF]
      refine ⟨_, Sub.refl _, hdT, fun T' hT' hdT' => ?_⟩
      refine xc_ok (bitB 844433522298831) _ _ _ ?_
      simp only [go_sem, h6, h10, hkk]
      have hle : (List.take j FL).length ≤ j := by rw [List.length_take]; exact Nat.min_le_left _ _
      refine ⟨by rintro el rfl; rfl, lvE_len, (by clear h6 h10 hne f1 f2 f3 h3 hdT hdT'; omega), (by clear h6 h10 hne f1 f2 f3 h3 hdT hdT'; omega), grow_intro fun loc' => ?_⟩
      simp only [go_sem, h6, h10, hkk]
      have e5 : List.map lvE (List.take j FL) ++ [[lvP (FL.getD j [])]] = List.map lvE (FL.take (j + 1)) := by
        rw [List.take_succ_eq_append_getElem hj, List.map_append]
        simp [List.getD_eq_getElem?_getD, hj, lvE]
      have hdq := (hdT'.setE (k := .v kk) (y := .tip 1 (FL.take j).length loc) (by simp only [go_sem]) (.tip 1 (List.map lvE (List.take j FL) ++ [[lvP (FL.getD j [])]]).length loc')).setE (k := .r c10) (y := .cells [i64 k, i64 g, .ts kk 1 loc ((FL.take j).map lvE)]) (by simp only [go_sem])
        (.cells [i64 k, i64 g, .ts kk 1 loc' (List.map lvE (List.take j FL) ++ [[lvP (FL.getD j [])]])])
      refine ⟨loc', ?_, ?_⟩
      · rw [join_set, join_set]
        refine Sub.joinD ?_ hdq
        ((try dsimp only); (repeat refine sub_set ?_ ?_) <;> first | ((repeat (first | exact Sub.refl _ | refine Sub.setF ?_ (by first | assumption | simp only [*]) | refine Sub.setV ?_ (by first | assumption | simp only [*]))); done) | (simp only [go_sem, h6, h10, hkk, e5, List.length_map, g6, g10]; done) | (simp only [go_sem, h6, h10, hkk, e5, List.length_map, g6, g10]; rfl) | rfl)
      · intro q
        rcases hdT' q with e | e
        · left
          simp only [Store.set] at e ⊢
          repeat' split at e
          all_goals simp_all
        · exact Or.inr e
    · intro loc d hd
      have n10 : ¬ c10 = d ∧ ¬ d = c10 := by constructor <;> rintro rfl <;> simp [Store.join, Store.set] at hd
      have n6 : ¬ c6 = d ∧ ¬ d = c6 := by constructor <;> rintro rfl <;> simp [Store.join, Store.set, h10] at hd
      have gd : S (.r d) = none := by
        have := (join_none hd).2
        simpa [Store.set, n10, n6] using this
      simp only [go_sem, List.take_length, h6, h10, hkk, n10, n6]
      refine ⟨S, ?_, ?_⟩
      · refine Sub.set (Sub.set (Sub.joinL ?_) gd _) g6 _
        refine Sub.set (Sub.set (Sub.set (Sub.refl _) g6 _) g10 _) hkk _
      · simp [addV, hw0, hbad, t4, hFL, gd]
    · intro e E' d _ h; exact h.elim
end Go.Sk
end

-- W6h
section
namespace Go.Sk
open Go Go.Proofs

noncomputable def addH (h : Hist) (t w : Nat) : Hist × Int := addV h.k.toNat h.g h.ls t w
structure Hist.Ok (h : Hist) : Prop where
  k0 : 0 ≤ h.k
  k1 : h.k < 1073741824
  ls : h.ls.length < 1073741824
  ll : ∀ l ∈ h.ls, l.length < 1073741824
  tot : totN 0 h.ls ≤ 4503599627370496
theorem hist_addH (h : Hist) (ok : h.Ok) (t w : Nat) (hw : w < 18446744073709551616) : Pure Tryz.prog 92 [h.av, u64 t, u64 w] (.tuple [(addH h t w).1.av, i64 (addH h t w).2]) := by
  obtain ⟨k, g, ls⟩ := h
  obtain ⟨h1, h2, h3, h4, h5⟩ := ok
  dsimp only at h1 h2 h3 h4 h5
  obtain ⟨k, rfl⟩ : ∃ k' : Nat, k = k' := ⟨k.toNat, by omega⟩
  have := hist_Add k g ls t w (by omega) hw h3 h4 h5
  unfold addH; simpa using this
theorem ref06_addH (h : Hist) (ok : h.Ok) (t w : Nat) (hw : w < 18446744073709551616) : Pure Tryz.prog 98 [h.av, u64 t, u64 w] (.tuple [(addH h t w).1.av, i64 (addH h t w).2]) := by
  obtain ⟨k, g, ls⟩ := h
  obtain ⟨h1, h2, h3, h4, h5⟩ := ok
  dsimp only at h1 h2 h3 h4 h5
  obtain ⟨k, rfl⟩ : ∃ k' : Nat, k = k' := ⟨k.toNat, by omega⟩
  have := ref06_Add k g ls t w (by omega) hw h3 h4 h5
  unfold addH; simpa using this

end Go.Sk
end

-- A7h
section
namespace Go.Sk

theorem Hist.Good.ok {h : Hist} (g : h.Good) : h.Ok :=
  ⟨by have := g.k0; omega, by have := g.k1; omega, by have := g.len; omega, fun l hl => by have := g.sm l hl; have := g.k1; omega, g.tot⟩
theorem Hist.Good.small {h : Hist} (g : h.Good) : h.Small := ⟨by have := g.len; omega, fun l hl => by have := g.sm l hl; have := g.k1; omega⟩
theorem addH_good {h : Hist} (g : h.Good) (t w : Nat) (e : (addH h t w).2 = 0) : (addH h t w).1.Good ∧ (addH h t w).1.k = h.k ∧ (addH h t w).1.g = h.g ∧ totN 0 (addH h t w).1.ls = totN 0 h.ls + w := addV_good g t w e
theorem addH_tidy {h : Hist} (g : h.Good) (hT : Tidy h.k.toNat h.ls) (t w : Nat) (e : (addH h t w).2 = 0) : Tidy h.k.toNat (addH h t w).1.ls ∧
    ∀ W, Mono W → loL W 0 (addH h t w).1.ls ≤ loL W 0 h.ls + (if W t = true then w else 0) ∧ hiL W 0 h.ls + (if W t = true then w else 0) ≤ hiL W 0 (addH h t w).1.ls := addV_tidy g hT t w e
end Go.Sk
end

-- A14
section
namespace Go.Sk

/-! Adding that is let in. -/
theorem last_mem {ls : List (List Span)} (h : (lastV ls).2 = true) : ∃ x ∈ flat ls, (lastV ls).1 = x.b := by
  unfold lastV at *
  cases ls with
  | nil => simp at h
  | cons l r =>
    dsimp only at h ⊢
    cases hl : l.getLast? with
    | none => rw [hl] at h; simp at h
    | some s => exact ⟨s, List.mem_append_right _ (List.mem_of_getLast? hl), rfl⟩
theorem addH_let {h : Hist} (hT : Tidy h.k.toNat h.ls) {t w : Nat} (ht : t ≤ 9223372036854775807) (hw : 1 ≤ w) (hb : ∀ x ∈ flat h.ls, x.b ≤ t) (htot : totN 0 h.ls + w ≤ 4503599627370496) :
    (addH h t w).2 = 0 ∧ ∀ x ∈ flat (addH h t w).1.ls, x.b ≤ t := by
  have hc : ¬ (9223372036854775807 < t ∨ ((lastV h.ls).2 = true ∧ t < (lastV h.ls).1)) := by
    rintro (c | ⟨c1, c2⟩)
    · omega
    · obtain ⟨x, hx, e⟩ := last_mem c1
      have := hb x hx; omega
  have he : addH h t w = (⟨h.k.toNat, h.g, flowV h.k.toNat t 0 h.ls [] w⟩, 0) := by
    unfold addH addV
    rw [if_neg (by omega), if_neg hc, if_neg (by omega)]
  rw [he]
  refine ⟨rfl, ?_⟩
  have hs : (flat h.ls ++ ([] ++ List.replicate w (⟨t, t⟩ : Span))).Pairwise Bef := by
    refine List.pairwise_append.2 ⟨hT.srt, ?_, ?_⟩
    · rw [List.nil_append]; exact List.pairwise_replicate.2 (Or.inr (Nat.le_refl t))
    · intro x hx y hy
      rw [List.nil_append] at hy
      rw [List.eq_of_mem_replicate hy]; exact hb x hx
  have hv : ∀ s ∈ flat h.ls ++ ([] ++ List.replicate w (⟨t, t⟩ : Span)), s.a ≤ s.b := by
    intro s hs
    rcases List.mem_append.1 hs with hs | hs
    · exact hT.val s hs
    · rw [List.nil_append] at hs; rw [List.eq_of_mem_replicate hs]; exact Nat.le_refl _
  exact (flow_tidy h.k.toNat t h.ls 0 [] w hs hv).2.2.1 t (fun s hs => by
    rcases List.mem_append.1 hs with hs | hs
    · exact hb s hs
    · rw [List.nil_append] at hs; rw [List.eq_of_mem_replicate hs]; exact Nat.le_refl _)

/-! Sums over events. -/
def sumE (f : Event → Nat) (l : List Event) : Nat := (l.map f).sum
theorem sumE_app (f : Event → Nat) (l m : List Event) : sumE f (l ++ m) = sumE f l + sumE f m := by unfold sumE; rw [List.map_append, List.sum_append]
theorem sumE_cons (f : Event → Nat) (e : Event) (l : List Event) : sumE f (e :: l) = f e + sumE f l := by unfold sumE; simp
theorem sumE_nil (f : Event → Nat) : sumE f [] = 0 := rfl
theorem sumE_le {f g : Event → Nat} (h : ∀ e, f e ≤ g e) (l : List Event) : sumE f l ≤ sumE g l := by
  induction l with
  | nil => exact Nat.le_refl _
  | cons e l ih => rw [sumE_cons, sumE_cons]; have := h e; omega
theorem sumE_ins (f : Event → Nat) (l : List Event) (e : Event) : sumE f (insE l e) = sumE f l + f e := by
  unfold insE
  rw [sumE_app, sumE_app, sumE_cons, sumE_nil]
  have := sumE_app f (l.take (belowN e.t l)) (l.drop (belowN e.t l))
  rw [List.take_append_drop] at this; omega
theorem sumE_split (f : Event → Nat) (l : List Event) (n : Nat) : sumE f l = sumE f (l.take n) + sumE f (l.drop n) := by
  rw [← sumE_app, List.take_append_drop]
def wt (W : Nat → Bool) (e : Event) : Nat := if W e.t = true then e.w else 0

/-- Events passed on. -/
noncomputable def passV (h : Hist) (out : List Event) : Hist := out.foldl (fun h e => (addH h e.t e.w).1) h
theorem pass_ok : ∀ (out : List Event) (h : Hist) (f : Nat), h.Good → Tidy h.k.toNat h.ls → (∀ x ∈ flat h.ls, x.b ≤ f) → Srt out → (∀ e ∈ out, f ≤ e.t ∧ e.t ≤ 9223372036854775807 ∧ 1 ≤ e.w) → totN 0 h.ls + sumE Event.w out ≤ 4503599627370496 →
    (passV h out).Good ∧ Tidy (passV h out).k.toNat (passV h out).ls ∧ (passV h out).k = h.k ∧ (passV h out).g = h.g ∧ totN 0 (passV h out).ls = totN 0 h.ls + sumE Event.w out ∧
    (∀ m, f ≤ m → (∀ e ∈ out, e.t ≤ m) → ∀ x ∈ flat (passV h out).ls, x.b ≤ m) ∧
    ∀ W, Mono W → loL W 0 (passV h out).ls ≤ loL W 0 h.ls + sumE (wt W) out ∧ hiL W 0 h.ls + sumE (wt W) out ≤ hiL W 0 (passV h out).ls := by
  intro out
  induction out with
  | nil =>
    intro h f hg hT hb _ _ _
    refine ⟨hg, hT, rfl, rfl, rfl, fun m hm _ x hx => Nat.le_trans (hb x hx) hm, fun W _ => ⟨Nat.le_refl _, Nat.le_refl _⟩⟩
  | cons e l ih =>
    intro h f hg hT hb hs he ht
    unfold Srt at hs
    rw [List.pairwise_cons] at hs
    obtain ⟨e1, e2, e3⟩ := he e (by simp)
    rw [sumE_cons] at ht
    obtain ⟨a1, a2⟩ := addH_let hT e2 e3 (fun x hx => Nat.le_trans (hb x hx) e1) (by omega)
    obtain ⟨b1, b2, b3, b4⟩ := addH_good hg e.t e.w a1
    obtain ⟨c1, c2⟩ := addH_tidy hg hT e.t e.w a1
    have hk : (addH h e.t e.w).1.k.toNat = h.k.toNat := by rw [b2]
    obtain ⟨i1, i2, i3, i4, i5, i6, i7⟩ := ih (addH h e.t e.w).1 e.t b1 (by rw [hk]; exact c1) a2 hs.2 (fun x hx => ⟨hs.1 x hx, (he x (by simp [hx])).2⟩) (by omega)
    show (passV (addH h e.t e.w).1 l).Good ∧ _
    refine ⟨i1, i2, i3.trans b2, i4.trans b3, ?_, ?_, ?_⟩
    · show totN 0 (passV (addH h e.t e.w).1 l).ls = _
      rw [i5, sumE_cons]; omega
    · intro m hm hx
      exact i6 m (hx e (by simp)) (fun x hx2 => hx x (by simp [hx2]))
    · intro W hW
      obtain ⟨j1, j2⟩ := i7 W hW
      obtain ⟨k1, k2⟩ := c2 W hW
      rw [sumE_cons]
      have hwt : wt W e = if W e.t = true then e.w else 0 := rfl
      rw [← hwt] at k1 k2
      refine ⟨?_, ?_⟩
      · show loL W 0 (passV (addH h e.t e.w).1 l).ls ≤ _
        omega
      · show _ ≤ hiL W 0 (passV (addH h e.t e.w).1 l).ls
        omega

/-! What is too old. -/
theorem dropG_sub (o : Nat → Bool) : ∀ ls : List (List Span), (flat (dropG o ls)).Sublist (flat ls) := by
  intro ls
  induction ls with
  | nil => exact List.Sublist.refl _
  | cons l r ih =>
    unfold dropG
    split
    · exact List.Sublist.append ih (List.drop_sublist _ _)
    · exact List.nil_sublist _
theorem dropG_old {o : Nat → Bool} (ho : Anti o) {l : List Span} {r : List (List Span)} (hs : (flat (l :: r)).Pairwise Bef) (hv : ∀ s ∈ flat (l :: r), s.a ≤ s.b) (h : 0 < oldN o l) : (∀ x ∈ flat r, o x.b = true) := by
  obtain ⟨s1, s2, s3⟩ := List.pairwise_append.1 (show (flat r ++ l).Pairwise Bef from hs)
  have hl := oldN_le o l
  intro x hx
  have h0 : 0 < l.length := by omega
  have h1 := s3 x hx l[0] (List.getElem_mem h0)
  exact ho _ _ (Nat.le_trans h1 (hv _ (List.mem_append_right _ (List.getElem_mem h0)))) (oldN_lt o l 0 h0 h)
theorem dropG_nil {o : Nat → Bool} : ∀ {r : List (List Span)}, (∀ x ∈ flat r, o x.b = true) → dropG o r = [] := by
  intro r
  cases r with
  | nil => intro _; rfl
  | cons l r =>
    intro h
    unfold dropG
    rw [if_neg]
    intro hc
    have := oldN_at o l hc
    rw [h _ (List.mem_append_right _ (List.getElem_mem hc))] at this; cases this
theorem dropG_full {o : Nat → Bool} (ho : Anti o) (k : Nat) : ∀ (ls : List (List Span)) (i : Nat), (flat ls).Pairwise Bef → (∀ s ∈ flat ls, s.a ≤ s.b) → Full k i ls → Full k i (dropG o ls) := by
  intro ls
  induction ls with
  | nil => intro i _ _ _; trivial
  | cons l r ih =>
    intro i hs hv hf
    obtain ⟨s1, s2, s3⟩ := List.pairwise_append.1 (show (flat r ++ l).Pairwise Bef from hs)
    unfold dropG
    split
    · refine ⟨fun hne => ?_, ih (i + 1) s1 (fun s h => hv s (List.mem_append_left _ h)) hf.2⟩
      by_cases h0 : 0 < oldN o l
      · exact absurd (dropG_nil (dropG_old ho hs hv h0)) hne
      · have hr : r ≠ [] := by rintro rfl; exact hne rfl
        have := hf.1 hr
        rw [List.length_drop]; omega
    · trivial
theorem dropG_tidy {o : Nat → Bool} (ho : Anti o) {k : Nat} {ls : List (List Span)} (h : Tidy k ls) : Tidy k (dropG o ls) := by
  refine ⟨h.srt.sublist (dropG_sub o ls), fun s hs => h.val s ((dropG_sub o ls).subset hs), fun s hs => ?_, dropG_full ho k ls 0 h.srt h.val h.full⟩
  cases ls with
  | nil => cases hs
  | cons l r =>
    unfold dropG at hs
    split at hs
    · exact h.low s (List.mem_of_mem_drop hs)
    · cases hs
theorem dropG_lvl (o : Nat → Bool) : ∀ (ls : List (List Span)), ∀ l ∈ dropG o ls, l ≠ [] ∧ ∃ m ∈ ls, l.length ≤ m.length := by
  intro ls
  induction ls with
  | nil => intro l hl; cases hl
  | cons l r ih =>
    intro x hx
    unfold dropG at hx
    split at hx
    · rename_i c
      rcases List.mem_cons.1 hx with rfl | hx
      · refine ⟨fun e => ?_, l, by simp, by simp⟩
        have := congrArg List.length e
        simp at this; omega
      · obtain ⟨h1, m, hm, hle⟩ := ih x hx
        exact ⟨h1, m, by simp [hm], hle⟩
    · cases hx
theorem dropG_tot (o : Nat → Bool) : ∀ (ls : List (List Span)) (i : Nat), totN i (dropG o ls) ≤ totN i ls := by
  intro ls
  induction ls with
  | nil => intro i; exact Nat.le_refl _
  | cons l r ih =>
    intro i
    unfold dropG
    split
    · unfold totN
      have h1 : (l.drop (oldN o l)).length * 2 ^ i ≤ l.length * 2 ^ i := Nat.mul_le_mul_right _ (by rw [List.length_drop]; omega)
      have := ih (i + 1)
      show (l.drop (oldN o l)).length * 2 ^ i + totN (i + 1) (dropG o r) ≤ l.length * 2 ^ i + totN (i + 1) r
      omega
    · exact Nat.zero_le _
theorem dropH_good {o : Nat → Bool} {h : Hist} (g : h.Good) : (dropH (dropG o) h).Good :=
  ⟨g.k0, g.k1, fun l hl => (dropG_lvl o h.ls l hl).1, fun l hl => by obtain ⟨_, m, hm, hle⟩ := dropG_lvl o h.ls l hl; have := g.sm m hm; unfold dropH; dsimp only; omega, Nat.le_trans (dropG_tot o h.ls 0) g.tot⟩
/-- Where nothing that is too old is within, dropping it changes nothing. -/
theorem dropG_lo {o : Nat → Bool} (ho : Anti o) {W : Nat → Bool} (hW : Mono W) (hk : ∀ x, o x = true → W x = false) : ∀ (ls : List (List Span)) (i : Nat), (∀ l ∈ ls, l ≠ []) → (flat ls).Pairwise Bef → (∀ s ∈ flat ls, s.a ≤ s.b) →
    loL W i (dropG o ls) = loL W i ls ∧ hiL W i (dropG o ls) = hiL W i ls := by
  have zero : ∀ (ls : List (List Span)) (i : Nat), (∀ s ∈ flat ls, s.a ≤ s.b) → (∀ s ∈ flat ls, o s.b = true) → loL W i ls = 0 ∧ hiL W i ls = 0 := by
    intro ls
    induction ls with
    | nil => intro i _ _; exact ⟨rfl, rfl⟩
    | cons l r ih =>
      intro i hv h
      obtain ⟨i1, i2⟩ := ih (i + 1) (fun s hs => hv s (List.mem_append_left _ hs)) (fun s hs => h s (List.mem_append_left _ hs))
      have hb : ∀ s ∈ l, W s.b = false := fun s hs => hk _ (h s (List.mem_append_right _ hs))
      have ha : ∀ s ∈ l, W s.a = false := fun s hs => by
        cases hc : W s.a with
        | false => rfl
        | true => have := hW _ _ (hv s (List.mem_append_right _ hs)) hc; rw [hb s hs] at this; cases this
      have h1 : lo W l = 0 := by unfold lo; rw [List.countP_eq_zero]; intro s hs; rw [ha s hs]; simp
      have h2 : hi W l = 0 := by unfold hi; rw [List.countP_eq_zero]; intro s hs; rw [hb s hs]; simp
      unfold loL hiL
      rw [h1, h2, i1, i2]; simp
  intro ls
  induction ls with
  | nil => intro i _ _ _; exact ⟨rfl, rfl⟩
  | cons l r ih =>
    intro i hne hs hv
    obtain ⟨s1, s2, s3⟩ := List.pairwise_append.1 (show (flat r ++ l).Pairwise Bef from hs)
    have hvr : ∀ s ∈ flat r, s.a ≤ s.b := fun s h => hv s (List.mem_append_left _ h)
    obtain ⟨i1, i2⟩ := ih (i + 1) (fun l hl => hne l (by simp [hl])) s1 hvr
    have hbt : ∀ s ∈ l.take (oldN o l), W s.b = false := fun s hs => by
      obtain ⟨j, hj, rfl⟩ := List.mem_iff_getElem.1 hs
      rw [List.length_take] at hj
      rw [List.getElem_take]
      exact hk _ (oldN_lt o l j (by omega) (by omega))
    have hat : ∀ s ∈ l.take (oldN o l), W s.a = false := fun s hs => by
      cases hc : W s.a with
      | false => rfl
      | true => have := hW _ _ (hv s (List.mem_append_right _ (List.mem_of_mem_take hs))) hc; rw [hbt s hs] at this; cases this
    have e1 : lo W l = lo W (l.drop (oldN o l)) := by
      have := lo_app W (l.take (oldN o l)) (l.drop (oldN o l))
      rw [List.take_append_drop] at this
      have h0 : lo W (l.take (oldN o l)) = 0 := by unfold lo; rw [List.countP_eq_zero]; intro s hs; rw [hat s hs]; simp
      omega
    have e2 : hi W l = hi W (l.drop (oldN o l)) := by
      have := hi_app W (l.take (oldN o l)) (l.drop (oldN o l))
      rw [List.take_append_drop] at this
      have h0 : hi W (l.take (oldN o l)) = 0 := by unfold hi; rw [List.countP_eq_zero]; intro s hs; rw [hbt s hs]; simp
      omega
    unfold dropG
    split
    · constructor
      · show lo W (l.drop (oldN o l)) * 2 ^ i + loL W (i + 1) (dropG o r) = lo W l * 2 ^ i + loL W (i + 1) r
        rw [i1, e1]
      · show hi W (l.drop (oldN o l)) * 2 ^ i + hiL W (i + 1) (dropG o r) = hi W l * 2 ^ i + hiL W (i + 1) r
        rw [i2, e2]
    · rename_i c
      have hln := oldN_le o l
      have hd : l.drop (oldN o l) = [] := List.drop_of_length_le (by omega)
      rw [hd] at e1 e2
      by_cases h0 : 0 < oldN o l
      · obtain ⟨z1, z2⟩ := zero r (i + 1) hvr (dropG_old ho hs hv h0)
        constructor
        · show 0 = lo W l * 2 ^ i + loL W (i + 1) r
          rw [e1, z1]; simp [lo]
        · show 0 = hi W l * 2 ^ i + hiL W (i + 1) r
          rw [e2, z2]; simp [hi]
      · exact absurd (List.eq_nil_of_length_eq_zero (by omega)) (hne l (by simp))
end Go.Sk
end

-- A14b
section
namespace Go.Sk

theorem insE_mem {l : List Event} {e x : Event} : x ∈ insE l e ↔ x = e ∨ x ∈ l := by
  unfold insE
  simp only [List.mem_append, List.mem_singleton]
  constructor
  · rintro ((h | h) | h)
    · exact Or.inr (List.mem_of_mem_take h)
    · exact Or.inl h
    · exact Or.inr (List.mem_of_mem_drop h)
  · rintro (h | h)
    · exact Or.inl (Or.inr h)
    · rw [← List.take_append_drop (belowN e.t l) l] at h
      rcases List.mem_append.1 h with h | h
      · exact Or.inl (Or.inl h)
      · exact Or.inr h
theorem take_below {f : Nat} {l : List Event} : ∀ e ∈ l.take (belowN f l), e.t ≤ f := by
  intro e he
  obtain ⟨j, hj, rfl⟩ := List.mem_iff_getElem.1 he
  rw [List.length_take] at hj
  rw [List.getElem_take]
  exact belowN_lt f l j (by omega) (by omega)
theorem drop_below {f : Nat} {l : List Event} (hs : Srt l) : ∀ e ∈ l.drop (belowN f l), f < e.t := by
  intro e he
  obtain ⟨j, hj, rfl⟩ := List.mem_iff_getElem.1 he
  rw [List.length_drop] at hj
  rw [List.getElem_drop]
  have h0 := belowN_at f l (by omega)
  by_cases c : j = 0
  · subst c; simpa using h0
  · have := List.pairwise_iff_getElem.1 hs (belowN f l) (belowN f l + j) (by omega) (by omega) (by omega)
    omega
theorem insE_srt {l : List Event} (hs : Srt l) (e : Event) : Srt (insE l e) := by
  unfold insE Srt
  refine List.pairwise_append.2 ⟨List.pairwise_append.2 ⟨hs.take _, List.pairwise_singleton _ _, fun x hx y hy => ?_⟩, hs.drop _, fun x hx y hy => ?_⟩
  · simp only [List.mem_singleton] at hy; subst hy; exact take_below x hx
  · have h2 := drop_below hs y hy
    rcases List.mem_append.1 hx with hx | hx
    · have := take_below x hx; omega
    · simp only [List.mem_singleton] at hx; subst hx; omega
theorem insE_len (l : List Event) (e : Event) : (insE l e).length = l.length + 1 := by
  unfold insE
  have := belowN_le e.t l
  simp only [List.length_append, List.length_take, List.length_drop, List.length_singleton]; omega

/-- What settling does. -/
theorem settleB_ok {b : Buf} (hs : Srt b.evs) (hf : b.front ≤ b.mark) (hm : ∀ e ∈ b.evs, e.t ≤ b.mark) :
    (settleB b).1.late = b.late ∧ (settleB b).1.room = b.room ∧ (settleB b).1.mark = b.mark ∧ b.front ≤ (settleB b).1.front ∧ (settleB b).1.front ≤ b.mark ∧ b.evs = (settleB b).2 ++ (settleB b).1.evs ∧
    (∀ e ∈ (settleB b).2, e.t ≤ (settleB b).1.front) ∧ (∀ e ∈ (settleB b).1.evs, (settleB b).1.front < e.t) ∧ Srt (settleB b).2 ∧ Srt (settleB b).1.evs ∧ (settleB b).1.evs.length ≤ b.room.toNat := by
  obtain ⟨h1, h2, h3, h4⟩ := settle_facts b.room.toNat b.evs (max b.front (b.mark - b.late))
  have h5 := h4 b.mark (by omega) hm
  unfold settleB
  dsimp only
  refine ⟨rfl, rfl, rfl, by omega, h5, (List.take_append_drop _ _).symm, ?_, ?_, hs.take _, hs.drop _, by rw [List.length_drop]; exact h3⟩
  · rw [h2]; exact take_below
  · rw [h2]; exact drop_below hs

structure Skt where (win : Nat) (b : Buf) (past : Hist)
  deriving DecidableEq
def zeroK : Skt := ⟨0, zeroB, zeroH⟩
noncomputable def passK (s : Skt) (b : Buf) (out : List Event) : Skt := ⟨s.win, b, dropH (dropG (oldV b.front s.win)) (passV s.past out)⟩
noncomputable def addK (s : Skt) (e : Event) : Skt × Int :=
  if (pushB s.b e).2 = 0 then (if 4503599627370496 < totN 0 s.past.ls + sumE Event.w s.b.evs + e.w then (zeroK, 5) else (passK s (pushB s.b e).1.1 (pushB s.b e).1.2, 0)) else (zeroK, (pushB s.b e).2)
noncomputable def moveK (s : Skt) (t : Nat) : Skt × Int := if (moveB s.b t).2 = 0 then (passK s (moveB s.b t).1.1 (moveB s.b t).1.2, 0) else (zeroK, (moveB s.b t).2)
/-- A deed. -/
noncomputable def oneK (s : Skt) (e : Event) : Skt × Int := if e.w = 0 then moveK s e.t else addK s e

structure Skt.Good (s : Skt) : Prop where
  w1 : 1 ≤ s.win
  w2 : s.win ≤ 4611686018427387904
  lt : s.b.late ≤ 4611686018427387904
  r1 : 1 ≤ s.b.room
  r2 : s.b.room ≤ 1024
  mkk : s.b.mark ≤ 9223372036854775807
  fm : s.b.front ≤ s.b.mark
  ev : ∀ e ∈ s.b.evs, s.b.front < e.t ∧ e.t ≤ s.b.mark ∧ 1 ≤ e.w
  sr : Srt s.b.evs
  len : s.b.evs.length ≤ s.b.room.toNat
  pg : s.past.Good
  pt : Tidy s.past.k.toNat s.past.ls
  pf : ∀ x ∈ flat s.past.ls, x.b ≤ s.b.front
  tot : totN 0 s.past.ls + sumE Event.w s.b.evs ≤ 4503599627370496
/-- A sketch, and all that came to it. -/
def Skt.Led (s : Skt) (all : List Event) : Prop := ∃ P : List Event, (∀ f, sumE f all = sumE f P + sumE f s.b.evs) ∧
  (∀ W, Mono W → (∀ x, oldV s.b.front s.win x = true → W x = false) → loL W 0 s.past.ls ≤ sumE (wt W) P ∧ sumE (wt W) P ≤ hiL W 0 s.past.ls) ∧ ∀ e ∈ P, e.t ≤ s.b.front
theorem sub64_eq' {f w : Nat} (h : w ≤ f) (hf : f < 18446744073709551616) : sub64 f w = f - w := sub64_le hf h
theorem oldV_more {f f' w x : Nat} (hf : f ≤ f') (hb : f' < 18446744073709551616) (h : oldV f w x = true) : oldV f' w x = true := by
  unfold oldV at *
  simp only [Bool.and_eq_true, decide_eq_true_eq] at *
  rw [sub64_eq' h.1 (by omega)] at h
  rw [sub64_eq' (by omega) hb]
  omega
/-- Passed on, out of what there was. -/
theorem passK_gen {s : Skt} (hg : s.Good) {b' : Buf} {out evs : List Event} (q1 : b'.late = s.b.late) (q2 : b'.room = s.b.room) (q3 : s.b.mark ≤ b'.mark) (q3' : b'.mark ≤ 9223372036854775807) (q4 : s.b.front ≤ b'.front) (q5 : b'.front ≤ b'.mark)
    (q6 : evs = out ++ b'.evs) (q7 : ∀ e ∈ out, e.t ≤ b'.front) (q8 : ∀ e ∈ b'.evs, b'.front < e.t) (q9 : Srt out) (q10 : Srt b'.evs) (q11 : b'.evs.length ≤ b'.room.toNat)
    (hev : ∀ e ∈ evs, s.b.front ≤ e.t ∧ e.t ≤ b'.mark ∧ 1 ≤ e.w) (htot : totN 0 s.past.ls + sumE Event.w evs ≤ 4503599627370496) :
    (passK s b' out).Good ∧ (passK s b' out).past.k = s.past.k ∧ (passK s b' out).past.g = s.past.g ∧ (passV s.past out).Good ∧
    (∀ all new, s.Led all → (∀ f, sumE f evs = sumE f s.b.evs + sumE f new) → (passK s b' out).Led (all ++ new)) := by
  have hfm := hg.fm
  have hout : ∀ e ∈ out, s.b.front ≤ e.t ∧ e.t ≤ 9223372036854775807 ∧ 1 ≤ e.w := fun e he => by
    have h1 := hev e (by rw [q6]; exact List.mem_append_left _ he)
    exact ⟨h1.1, by omega, h1.2.2⟩
  have hsum : ∀ f, sumE f evs = sumE f out + sumE f b'.evs := fun f => by rw [q6, sumE_app]
  have hst := hsum Event.w
  obtain ⟨p1, p2, p3, p4, p5, p6, p7⟩ := pass_ok out s.past s.b.front hg.pg hg.pt hg.pf q9 hout (by omega)
  have ho := oldV_anti b'.front s.win
  have ht := dropG_tidy ho p2
  have hpf : ∀ x ∈ flat (passV s.past out).ls, x.b ≤ b'.front := p6 b'.front (by omega) q7
  have hdt := dropG_tot (oldV b'.front s.win) (passV s.past out).ls 0
  refine ⟨⟨hg.w1, hg.w2, by show b'.late ≤ _; rw [q1]; exact hg.lt, by show 1 ≤ b'.room; rw [q2]; exact hg.r1, by show b'.room ≤ _; rw [q2]; exact hg.r2, by show b'.mark ≤ _; omega, by show b'.front ≤ b'.mark; omega, ?_, q10, ?_, dropH_good p1, ht, ?_, ?_⟩, p3, p4, p1, ?_⟩
  · intro e he
    have h1 := hev e (by rw [q6]; exact List.mem_append_right _ he)
    exact ⟨q8 e he, by show e.t ≤ b'.mark; omega, h1.2.2⟩
  · exact q11
  · intro x hx; exact hpf x ((dropG_sub _ _).subset hx)
  · show totN 0 (dropG _ (passV s.past out).ls) + sumE Event.w b'.evs ≤ _; omega
  · rintro all new ⟨P, l1, l2, l3⟩ hnew
    refine ⟨P ++ out, fun f => ?_, fun W hW hk => ?_, fun e he => ?_⟩
    · have h1 := l1 f; have h2 := hnew f; have h3 := hsum f
      show sumE f (all ++ new) = sumE f (P ++ out) + sumE f b'.evs
      rw [sumE_app, sumE_app]; omega
    · have hk0 : ∀ x, oldV s.b.front s.win x = true → W x = false := fun x hx => hk x (oldV_more (by show s.b.front ≤ b'.front; omega) (by show b'.front < _; omega) hx)
      obtain ⟨c1, c2⟩ := l2 W hW hk0
      obtain ⟨d1, d2⟩ := p7 W hW
      obtain ⟨e1, e2⟩ := dropG_lo ho hW hk (passV s.past out).ls 0 p1.ne p2.srt p2.val
      rw [sumE_app]
      constructor
      · show loL W 0 (dropG (oldV b'.front s.win) (passV s.past out).ls) ≤ _
        rw [e1]; omega
      · show _ ≤ hiL W 0 (dropG (oldV b'.front s.win) (passV s.past out).ls)
        rw [e2]; omega
    · rcases List.mem_append.1 he with he | he
      · have := l3 e he; show e.t ≤ b'.front; omega
      · exact q7 e he
/-- From a buffer, that was good and has what else came, on. -/
theorem passK_ok {s : Skt} (hg : s.Good) {b : Buf} (hb1 : b.late = s.b.late) (hb2 : b.room = s.b.room) (hb3 : b.front = s.b.front) (hb4 : s.b.mark ≤ b.mark) (hb5 : b.mark ≤ 9223372036854775807) (hs : Srt b.evs)
    (hev : ∀ e ∈ b.evs, s.b.front ≤ e.t ∧ e.t ≤ b.mark ∧ 1 ≤ e.w) (htot : totN 0 s.past.ls + sumE Event.w b.evs ≤ 4503599627370496) :
    (passK s (settleB b).1 (settleB b).2).Good ∧ (passK s (settleB b).1 (settleB b).2).past.k = s.past.k ∧ (passK s (settleB b).1 (settleB b).2).past.g = s.past.g ∧ (passV s.past (settleB b).2).Good ∧
    (∀ all new, s.Led all → (∀ f, sumE f b.evs = sumE f s.b.evs + sumE f new) → (passK s (settleB b).1 (settleB b).2).Led (all ++ new)) := by
  have hfm := hg.fm
  obtain ⟨q1, q2, q3, q4, q5, q6, q7, q8, q9, q10, q11⟩ := settleB_ok hs (by omega) (fun e he => (hev e he).2.1)
  exact passK_gen hg (q1.trans hb1) (q2.trans hb2) (by omega) (by omega) (by omega) (by omega) q6 q7 q8 q9 q10 (by rw [q2]; exact q11) (fun e he => by have := hev e he; omega) htot
/-- A deed that is done. -/
theorem oneK_ok {s : Skt} (hg : s.Good) (e : Event) (h0 : (oneK s e).2 = 0) : (oneK s e).1.Good ∧ (oneK s e).1.past.k = s.past.k ∧ (oneK s e).1.win = s.win ∧ e.w ≤ 4503599627370496 ∧
    ∀ all, s.Led all → (oneK s e).1.Led (if 0 < e.w then all ++ [e] else all) := by
  unfold oneK at h0 ⊢
  by_cases hw : e.w = 0
  · rw [if_pos hw] at h0 ⊢
    unfold moveK at h0 ⊢
    by_cases hm : (moveB s.b e.t).2 = 0
    rotate_left
    · rw [if_neg hm] at h0; exact absurd h0 hm
    rw [if_pos hm] at h0 ⊢
    unfold moveB at hm ⊢
    by_cases ht : 9223372036854775807 < e.t
    · rw [if_pos ht] at hm; simp at hm
    rw [if_neg ht]
    have hmk := hg.mkk
    obtain ⟨r1, r2, _, _, r3⟩ := passK_ok hg (b := ⟨s.b.late, s.b.room, max s.b.mark e.t, s.b.front, s.b.evs⟩) rfl rfl rfl (by dsimp only; omega) (by dsimp only; omega) hg.sr
      (fun x hx => by have := hg.ev x hx; dsimp only; omega) hg.tot
    refine ⟨r1, r2, rfl, by omega, fun all hl => ?_⟩
    rw [if_neg (by omega)]
    have := r3 all [] hl (fun f => by rw [sumE_nil]; rfl)
    rwa [List.append_nil] at this
  · rw [if_neg hw] at h0 ⊢
    unfold addK at h0 ⊢
    by_cases hm : (pushB s.b e).2 = 0
    rotate_left
    · rw [if_neg hm] at h0; exact absurd h0 hm
    rw [if_pos hm] at h0 ⊢
    by_cases hh : 4503599627370496 < totN 0 s.past.ls + sumE Event.w s.b.evs + e.w
    · rw [if_pos hh] at h0; simp at h0
    rw [if_neg hh]
    unfold pushB at hm ⊢
    rw [if_neg hw] at hm ⊢
    by_cases ht : 9223372036854775807 < e.t
    · rw [if_pos ht] at hm; simp at hm
    rw [if_neg ht] at hm ⊢
    by_cases hf : e.t < s.b.front
    · rw [if_pos hf] at hm; simp at hm
    rw [if_neg hf]
    have hmk := hg.mkk
    have hse := sumE_ins Event.w s.b.evs e
    obtain ⟨r1, r2, _, _, r3⟩ := passK_ok hg (b := ⟨s.b.late, s.b.room, max s.b.mark e.t, s.b.front, insE s.b.evs e⟩) rfl rfl rfl (by dsimp only; omega) (by dsimp only; omega) (insE_srt hg.sr e)
      (fun x hx => by
        dsimp only at hx ⊢
        rcases insE_mem.1 hx with rfl | hx
        · omega
        · have := hg.ev x hx; omega) (by dsimp only; omega)
    refine ⟨r1, r2, rfl, by omega, fun all hl => ?_⟩
    rw [if_pos (by omega)]
    exact r3 all [e] hl (fun f => by rw [sumE_ins, sumE_cons, sumE_nil, Nat.add_zero])
end Go.Sk
end

-- W8
section
namespace Go.Sk
open Go Go.Proofs

/-- Is a tick within? -/
noncomputable def inW (tick span t : Nat) : Bool := decide (tick < span) || decide (sub64 tick span < t)
/-- All buckets, in turn, and their units. -/
def bucksF : Nat → List (List Span) → List (Span × Nat)
  | _, [] => []
  | i, l :: r => l.map (fun s => (s, i)) ++ bucksF (i + 1) r
noncomputable def units (i : Nat) : Nat := m64 (1 * 2 ^ min i 64)
noncomputable def partStep (tick span : Nat) (p : Nat × Nat) (x : Span × Nat) : Nat × Nat :=
  if inW tick span x.1.a = true then (m64 (p.1 + units x.2), p.2) else if inW tick span x.1.b = true then (p.1, m64 (p.2 + units x.2)) else p
noncomputable def partsF (tick span : Nat) (p : Nat × Nat) (l : List (Span × Nat)) : Nat × Nat := l.foldl (partStep tick span) p
noncomputable def partsV (ls : List (List Span)) (tick span : Nat) : Nat × Nat := partsF tick span (0, 0) (bucksF 0 ls)
noncomputable def estV (ls : List (List Span)) (tick span : Nat) : Nat := m64 ((partsV ls tick span).1 + (partsV ls tick span).2 / 2)
theorem parts_within {S : Store} {b1 b2 : Nat} (t tick span : Nat) (h1 : S (.r b1) = some (.cells [u64 span])) (h2 : S (.r b2) = some (.cells [u64 tick])) :
    CallR Tryz.prog 162 [u64 t, .sp b1 0, .sp b2 0] S (fun r S' => r = bl (inW tick span t) ∧ S' = S) := by
  refine callR_of Tryz.func162 rfl rfl (xc_ok (bitB 23) _ _ _ ?_)
  simp only [go_sem, h1, h2]
  by_cases hc : tick < span
  · simp only [go_sem, h1, h2, hc]
    (refine ⟨S, by (repeat (first | exact Sub.refl _ | refine Sub.setF ?_ (by first | assumption | simp only [*]) | refine Sub.setV ?_ (by first | assumption | simp only [*]))), ?_⟩); simp [inW, hc]
  · simp only [go_sem, h1, h2, hc]
    (refine ⟨S, by (repeat (first | exact Sub.refl _ | refine Sub.setF ?_ (by first | assumption | simp only [*]) | refine Sub.setV ?_ (by first | assumption | simp only [*]))), ?_⟩); simp [inW, hc]

theorem bucks_app : ∀ (ls m : List (List Span)) (i : Nat), bucksF i (ls ++ m) = bucksF i ls ++ bucksF (i + ls.length) m := by
  intro ls
  induction ls with
  | nil => intro m i; simp [bucksF]
  | cons l r ih => intro m i; simp only [List.cons_append, bucksF, ih, List.append_assoc, List.length_cons]; rw [show i + 1 + r.length = i + (r.length + 1) from by omega]
theorem bucks_next (ls : List (List Span)) (i : Nat) (hi : i < ls.length) : bucksF 0 (ls.take (i + 1)) = bucksF 0 (ls.take i) ++ ls[i].map (fun s => (s, i)) := by
  rw [List.take_succ_eq_append_getElem hi, bucks_app]
  simp [bucksF, Nat.min_eq_left (Nat.le_of_lt hi)]
theorem bucks_get (ls : List (List Span)) (i : Nat) (hi : i < ls.length) (j : Nat) (hj : j < ls[i].length) :
    (bucksF 0 (ls.take i)).length + j < (bucksF 0 ls).length ∧ (bucksF 0 ls).getD ((bucksF 0 (ls.take i)).length + j) default = (ls[i][j], i) := by
  have e : bucksF 0 ls = bucksF 0 (ls.take i) ++ (ls[i].map (fun s => (s, i)) ++ bucksF (i + 1) (ls.drop (i + 1))) := by
    have h1 : ls = ls.take i ++ ls[i] :: ls.drop (i + 1) := by rw [← List.drop_eq_getElem_cons hi, List.take_append_drop]
    have h2 := bucks_app (ls.take i) (ls[i] :: ls.drop (i + 1)) 0
    rw [← h1] at h2
    rw [h2]
    simp [bucksF, Nat.min_eq_left (Nat.le_of_lt hi)]
  have hlt : (bucksF 0 (ls.take i)).length + j < (bucksF 0 ls).length := by rw [e]; simp; omega
  refine ⟨hlt, ?_⟩
  rw [List.getD_eq_getElem?_getD, e, List.getElem?_append_right (by omega), Nat.add_sub_cancel_left, List.getElem?_append_left (by simpa using hj)]
  simp [hj]
theorem parts_snoc (tick span : Nat) (p : Nat × Nat) (l : List (Span × Nat)) (x : Span × Nat) : partsF tick span p (l ++ [x]) = partStep tick span (partsF tick span p l) x := by
  unfold partsF; rw [List.foldl_append]; rfl

noncomputable def itemsB (l : List (Span × Nat)) : Nat → List AV := fun k => [(l.getD k default).1.av, u64 (units (l.getD k default).2)]

set_option maxHeartbeats 1000000 in
set_option maxRecDepth 4000 in
theorem est_buckets1 (k g : Int) (ls : List (List Span)) (hn : ls.length < 1099511627776) (hl : ∀ l ∈ ls, l.length < 1099511627776) {T0 : Store} {b : Nat} (h1 : T0 (.r b) = some (.cells [i64 k, i64 g, .p (.sl (ls.map lvE))])) :
    SeqR Tryz.prog 206 [] [.sp b 0] T0 (bucksF 0 ls).length (itemsB (bucksF 0 ls)) := by
  intro l J Jx hy E hd h0
  simp only [List.nil_append, List.singleton_append]
  refine callR_of Tryz.func206 rfl rfl (xc_ok (bitB 67604315) _ _ _ ?_)
  simp only [go_sem, h1]
  refine AWP.roam (ι := Nat × Store) (fun x => x.1 ≤ ls.length ∧ Disj T0 x.2 ∧ J (bucksF 0 (ls.take x.1)).length x.2)
    (fun x => ⟨Env.get [(0, .fn (.yield l) [] []), (1, .sp b 0), (8, .p (.sl (ls.map lvE))), (9, i64 ls.length), (10, i64 x.1)], Store.join x.2 T0, 29, []⟩) (fun x => ls.length - x.1) (0, E) ⟨by simp, hd, h0⟩ ?_ ?_
  · exact le_of (by simp only [go_sem] <;> rfl) (Sub.refl _) rfl rfl (by simp)
  · rintro ⟨i, E⟩ ⟨hi, hd, hJ⟩ ih
    dsimp only at hi hd hJ ⊢
    refine AWPH.step (xc_ok (bitB 67604315) _ _ _ ?_)
    by_cases c : i < ls.length
    rotate_left
    · obtain rfl : i = ls.length := by omega
      rw [List.take_length] at hJ
      simp only [go_sem]
      exact ⟨_, Sub.refl _, Or.inl ⟨E, rfl, hd, Or.inl hJ⟩⟩
    have hll := hl _ (List.getElem_mem c)
    simp only [go_sem, c, ltN' c, getD_map' _ _ _ _ c, lvE_mk]
    refine AWP.roam (ι := Nat × Store) (fun x => x.1 ≤ ls[i].length ∧ Disj T0 x.2 ∧ J ((bucksF 0 (ls.take i)).length + x.1) x.2)
      (fun x => ⟨Env.get [(0, .fn (.yield l) [] []), (1, .sp b 0), (3, i64 i), (8, .p (.sl (ls.map lvE))), (9, i64 ls.length), (10, i64 i), (15, .p (lvP ls[i])), (16, i64 ls[i].length), (17, i64 x.1)], Store.join x.2 T0, 29, []⟩) (fun x => ls[i].length - x.1) (0, E) ⟨by simp, hd, hJ⟩ ?_ ?_
    · exact le_of (by simp only [go_sem, lvP] <;> simp) (Sub.refl _) rfl rfl (by simp)
    · rintro ⟨j, E⟩ ⟨hj, hd, hJ⟩ jh
      dsimp only at hj hd hJ ⊢
      refine AWPH.step (xc_ok (bitB 67604315) _ _ _ ?_)
      by_cases cj : j < ls[i].length
      rotate_left
      · obtain rfl : j = ls[i].length := by omega
        simp only [go_sem, lvP]
        refine (ih (i + 1, E) ⟨c, hd, by rw [bucks_next ls i c]; simpa using hJ⟩ (by dsimp only; omega)).back (Sub.refl _) (by simp) ?_
        simp only [go_sem, wi_succ (show i < 4611686018427387904 by omega)]
      have hget := bucks_get ls i c j cj
      simp only [go_sem, lvP, cj, ltN' cj, getD_map' _ _ _ _ cj]
      refine alloc_intro fun d hfd => ?_
      have hfd' := join_none hfd
      simp only [go_sem]
      rw [join_set]
      have hyi := hy _ hget.1 E (T0.set (.r d) (.cells [u64 (ls[i][j]).a, u64 (ls[i][j]).b])) ((Sub.refl T0).set hfd'.2 _) (hd.setT hfd'.1 _) hJ
      simp only [itemsB, hget.2] at hyi
      have hjs : wi ((j : Int) + 1) = ((j + 1 : Nat) : Int) := wi_succ (show j < 4611686018427387904 by omega)
      refine AWP.orders (bitB 67604315) mixed [[0,1,2,3,4,5],[0,2,1,3,4,5],[0,2,3,1,4,5],[1,0,2,3,4,5],[1,2,0,3,4,5],[1,2,3,0,4,5],[2,0,1,3,4,5],[2,0,3,1,4,5],[2,1,0,3,4,5],[2,1,3,0,4,5],[2,3,0,1,4,5],[2,3,1,0,4,5]] (by kernel_rfl) ?_
      simp only [List.forall_mem_cons, List.not_mem_nil, false_implies, implies_true, and_true, opsAt, List.getElem?_cons_zero, List.getElem?_cons_succ]
      refine ⟨?_, ?_, ?_, ?_, ?_, ?_, ?_, ?_, ?_, ?_, ?_, ?_⟩
      all_goals
        simp only [go_sem]
        refine hyi.useA rfl ?_
        rintro r S' ⟨E', rfl, hd2, ⟨rfl, hJ2⟩ | ⟨rfl, hJ2⟩⟩
        · obtain ⟨hd3, hed⟩ := hd2.unsetT hfd'.2
          simp only [go_sem]
          refine (jh (j + 1, E') ⟨cj, hd3, by rw [← Nat.add_assoc]; exact hJ2⟩ (by dsimp only; omega)).back (sub_join_set hfd'.2 hed) (by simp) ?_
          simp only [go_sem, hjs, lvP]
        · obtain ⟨hd3, hed⟩ := hd2.unsetT hfd'.2
          simp only [go_sem]
          exact ⟨_, sub_join_set hfd'.2 hed, Or.inl ⟨E', rfl, hd3, Or.inr hJ2⟩⟩

theorem est_buckets (k g : Int) (ls : List (List Span)) (S : Store) : CallR Tryz.prog 163 [(Hist.mk k g ls).av] S
    (fun r S' => ∃ b, Fresh S b ∧ r = .fn (.func 206) [] [.sp b 0] ∧ S' = S.set (.r b) (.cells [i64 k, i64 g, .p (.sl (ls.map lvE))])) := by
  refine callR_of Tryz.func163 rfl rfl (xc_ok (bitB 7) _ _ _ ?_)
  simp only [go_sem]
  refine alloc_intro fun b hb => ?_
  simp only [go_sem]
  exact ⟨_, Sub.refl _, Or.inl ⟨b, hb, rfl, rfl⟩⟩

set_option maxHeartbeats 1000000 in
set_option maxRecDepth 4000 in
theorem est_Parts (k g : Int) (ls : List (List Span)) (tick span : Nat) (hn : ls.length < 1099511627776) (hl : ∀ l ∈ ls, l.length < 1099511627776) :
    Pure Tryz.prog 103 [(Hist.mk k g ls).av, u64 tick, u64 span] (.tuple [u64 (partsV ls tick span).1, u64 (partsV ls tick span).2]) := fun S => by
  refine callR_of Tryz.func103 rfl rfl (xc_ok (bitB 67608575) _ _ _ ?_)
  simp only [go_sem]
  refine alloc_intro fun c3 h3 => ?_
  simp only [go_sem]
  refine alloc_intro fun c4 h4 => ?_
  simp only [fresh_set] at h4
  simp only [go_sem, h4]
  refine alloc_intro fun c5 h5 => ?_
  simp only [fresh_set] at h5
  simp only [go_sem, h4, h5]
  refine alloc_intro fun c8 h8 => ?_
  simp only [fresh_set] at h8
  simp only [go_sem, h4, h5, h8]
  refine alloc_intro fun c9 h9 => ?_
  simp only [fresh_set] at h9
  simp only [go_sem, h4, h5, h8, h9]
  refine alloc_intro fun c10 h10 => ?_
  simp only [fresh_set] at h10
  simp only [go_sem, h4, h5, h8, h9, h10]
  refine (est_buckets k g ls _).useA ?_
  rintro _ _ ⟨b, hb, rfl, rfl⟩
  simp only [fresh_set] at hb
  simp only [go_sem, h4, h5, h8, h9, h10, hb]
  obtain ⟨L, hL⟩ : ∃ L, bucksF 0 ls = L := ⟨_, rfl⟩
  have hseq := est_buckets1 k g ls hn hl (T0 := eS.set (.r b) (.cells [i64 k, i64 g, .p (.sl (ls.map lvE))])) (b := b) (by simp only [go_sem])
  have hpv : partsV ls tick span = partsF tick span (0, 0) L := by unfold partsV; rw [hL]
  rw [hL] at hseq
  rw [hpv]
  have g4 : S (.r c4) = none := h4.2
  have g5 : S (.r c5) = none := h5.2.2
  have g8 : S (.r c8) = none := h8.2.2.2
  have g9 : S (.r c9) = none := h9.2.2.2.2
  have g10 : S (.r c10) = none := h10.2.2.2.2.2
  have gb : S (.r b) = none := hb.2.2.2.2.2.2.2.2
  refine AWP.rangeE (ι := Unit) (f := 206) (first := []) (caps := [.sp b 0]) (by simp only [go_sem]) _
    (fun j _ => ((((S.set (.r c4) (.cells [u64 tick])).set (.r c5) (.cells [u64 span])).set (.r c8) (.cells [.fn (.func 162) [] [.sp c5 0, .sp c4 0]])).set (.r c9) (.cells [u64 (partsF tick span (0, 0) (L.take j)).1])).set (.r c10) (.cells [u64 (partsF tick span (0, 0) (L.take j)).2])) ()
    ?_ ?_ hseq (enterable_of Tryz.func206 rfl rfl) (fun _ _ => False) (fun _ _ => rfl) (by simp) ?_ ?_ ?_
  · refine sub_joinT (sub_join0 ?_) ?_ ?_
    · ((try dsimp only); (repeat refine sub_set ?_ ?_) <;> first | ((repeat (first | exact Sub.refl _ | refine Sub.setF ?_ (by first | assumption | simp only [*]) | refine Sub.setV ?_ (by first | assumption | simp only [*]))); done) | (simp only [go_sem, h4, h5, h8, h9, h10, hb, List.take_zero, partsF, List.foldl_nil]; done) | (simp only [go_sem, h4, h5, h8, h9, h10, hb, List.take_zero, partsF, List.foldl_nil]; rfl) | rfl)
    all_goals simp only [go_sem, h4, h5, h8, h9, h10, hb, gb]
  · refine (Disj.nil _).setT ?_ _
    simp only [go_sem, h4, h5, h8, h9, h10, hb, gb]
  · intro j _ l hj T hT hdT
    refine xc_ok (bitB 67608575) _ _ _ ?_
    simp only [go_sem, itemsB]
    refine alloc_intro fun e he => ?_
    have hje := join_none he
    obtain ⟨x, hx⟩ : ∃ x, L.getD j default = x := ⟨_, rfl⟩
    have hsn : partsF tick span (0, 0) (L.take (j + 1)) = partStep tick span (partsF tick span (0, 0) (L.take j)) x := by
      rw [List.take_succ_eq_append_getElem hj, parts_snoc, ← hx]; simp [List.getD_eq_getElem?_getD, hj]
    simp only [hx]
    simp only [go_sem]
    refine ⟨_, by rw [join_set]; exact Sub.refl _, hdT.set hje.1 _, fun T' hT' hdT' => ?_⟩
    refine xc_ok (bitB 67608575) _ _ _ ?_
    have n4 : ¬ c4 = e ∧ ¬ e = c4 := by constructor <;> rintro rfl <;> simp [Store.set, h5, h8, h9, h10] at hje
    have n5 : ¬ c5 = e ∧ ¬ e = c5 := by constructor <;> rintro rfl <;> simp [Store.set, h8, h9, h10] at hje
    have n8 : ¬ c8 = e ∧ ¬ e = c8 := by constructor <;> rintro rfl <;> simp [Store.set, h9, h10] at hje
    have n9 : ¬ c9 = e ∧ ¬ e = c9 := by constructor <;> rintro rfl <;> simp [Store.set, h10] at hje
    have n10 : ¬ c10 = e ∧ ¬ e = c10 := by constructor <;> rintro rfl <;> simp [Store.set] at hje
    have ge : S (.r e) = none := by have := hje.2; simpa [Store.set, n4, n5, n8, n9, n10] using this
    simp only [go_sem, h4, h5, h8, h9, h10, n4, n5, n8, n9, n10]
    refine (parts_within x.1.a tick span ?_ ?_).useA ?_
    · simp only [go_sem, h4, h5, h8, h9, h10, n4, n5, n8, n9, n10]
    · simp only [go_sem, h4, h5, h8, h9, h10, n4, n5, n8, n9, n10]
    rintro _ _ ⟨rfl, rfl⟩
    cases q1 : inW tick span x.1.a
    · simp only [go_sem, h4, h5, h8, h9, h10, n4, n5, n8, n9, n10]
      refine (parts_within x.1.b tick span ?_ ?_).useA ?_
      · simp only [go_sem, h4, h5, h8, h9, h10, n4, n5, n8, n9, n10]
      · simp only [go_sem, h4, h5, h8, h9, h10, n4, n5, n8, n9, n10]
      rintro _ _ ⟨rfl, rfl⟩
      cases q2 : inW tick span x.1.b
      · simp only [go_sem, h4, h5, h8, h9, h10, n4, n5, n8, n9, n10]
        have hps : partsF tick span (0, 0) (L.take (j + 1)) = partsF tick span (0, 0) (L.take j) := by rw [hsn]; simp [partStep, q1, q2]
        simp only [hps]
        refine ⟨(), ?_, ?_⟩
        · refine Sub.joinD ?_ hdT'
          ((try dsimp only); (repeat refine sub_set ?_ ?_) <;> first | ((repeat (first | exact Sub.refl _ | refine Sub.setF ?_ (by first | assumption | simp only [*]) | refine Sub.setV ?_ (by first | assumption | simp only [*]))); done) | (simp only [go_sem, h4, h5, h8, h9, h10, n4, n5, n8, n9, n10, g4, g5, g8, g9, g10]; done) | (simp only [go_sem, h4, h5, h8, h9, h10, n4, n5, n8, n9, n10, g4, g5, g8, g9, g10]; rfl) | rfl)
        · (intro q; refine (hdT' q).elim (fun e => Or.inl ?_) (fun e => Or.inr e); simp only [set_none_iff] at e ⊢; simp only [e, not_false_eq_true, and_self])
      · simp only [go_sem, h4, h5, h8, h9, h10, n4, n5, n8, n9, n10]
        have hps : partsF tick span (0, 0) (L.take (j + 1)) = ((partsF tick span (0, 0) (L.take j)).1, m64 ((partsF tick span (0, 0) (L.take j)).2 + units x.2)) := by rw [hsn]; simp [partStep, q1, q2]
        simp only [hps]
        refine ⟨(), ?_, ?_⟩
        · rw [join_set]
          refine Sub.joinD ?_ (hdT'.setE (y := .cells [u64 (partsF tick span (0, 0) (L.take j)).2]) (by simp only [go_sem, h4, h5, h8, h9, h10, n4, n5, n8, n9, n10]) _)
          ((try dsimp only); (repeat refine sub_set ?_ ?_) <;> first | ((repeat (first | exact Sub.refl _ | refine Sub.setF ?_ (by first | assumption | simp only [*]) | refine Sub.setV ?_ (by first | assumption | simp only [*]))); done) | (simp only [go_sem, h4, h5, h8, h9, h10, n4, n5, n8, n9, n10, g4, g5, g8, g9, g10]; done) | (simp only [go_sem, h4, h5, h8, h9, h10, n4, n5, n8, n9, n10, g4, g5, g8, g9, g10]; rfl) | rfl)
        · (intro q; refine (hdT' q).elim (fun e => Or.inl ?_) (fun e => Or.inr e); simp only [set_none_iff] at e ⊢; simp only [e, not_false_eq_true, and_self])
    · simp only [go_sem, h4, h5, h8, h9, h10, n4, n5, n8, n9, n10]
      have hps : partsF tick span (0, 0) (L.take (j + 1)) = (m64 ((partsF tick span (0, 0) (L.take j)).1 + units x.2), (partsF tick span (0, 0) (L.take j)).2) := by rw [hsn]; simp [partStep, q1]
      simp only [hps]
      refine ⟨(), ?_, ?_⟩
      · rw [join_set]
        refine Sub.joinD ?_ (hdT'.setE (y := .cells [u64 (partsF tick span (0, 0) (L.take j)).1]) (by simp only [go_sem, h4, h5, h8, h9, h10, n4, n5, n8, n9, n10]) _)
        ((try dsimp only); (repeat refine sub_set ?_ ?_) <;> first | ((repeat (first | exact Sub.refl _ | refine Sub.setF ?_ (by first | assumption | simp only [*]) | refine Sub.setV ?_ (by first | assumption | simp only [*]))); done) | (simp only [go_sem, h4, h5, h8, h9, h10, n4, n5, n8, n9, n10, g4, g5, g8, g9, g10]; done) | (simp only [go_sem, h4, h5, h8, h9, h10, n4, n5, n8, n9, n10, g4, g5, g8, g9, g10]; rfl) | rfl)
      · (intro q; refine (hdT' q).elim (fun e => Or.inl ?_) (fun e => Or.inr e); simp only [set_none_iff] at e ⊢; simp only [e, not_false_eq_true, and_self])
  · intro _ d hd
    have hjd := join_none hd
    have n9 : ¬ c9 = d ∧ ¬ d = c9 := by constructor <;> rintro rfl <;> simp [Store.set, h10] at hjd
    have n10 : ¬ c10 = d ∧ ¬ d = c10 := by constructor <;> rintro rfl <;> simp [Store.set] at hjd
    simp only [go_sem, List.take_length, h4, h5, h8, h9, h10, n9, n10]
    refine AWP.draw2 (bitB 67608575) mixed (by kernel_rfl) (fun i => bl false) ?_
    simp only [go_sem, h4, h5, h8, h9, h10, n9, n10]
    have n4 : ¬ c4 = d ∧ ¬ d = c4 := by constructor <;> rintro rfl <;> simp [Store.set, h5, h8, h9, h10] at hjd
    have n5 : ¬ c5 = d ∧ ¬ d = c5 := by constructor <;> rintro rfl <;> simp [Store.set, h8, h9, h10] at hjd
    have n8 : ¬ c8 = d ∧ ¬ d = c8 := by constructor <;> rintro rfl <;> simp [Store.set, h9, h10] at hjd
    have gd : S (.r d) = none := by have := hjd.2; simpa [Store.set, n4, n5, n8, n9, n10] using this
    refine ⟨S, Sub.set (Sub.joinL ?_) gd _, fun r hr => hr ▸ gd, by simp⟩
    (repeat (first | exact Sub.refl _ | refine Sub.setF ?_ (by first | assumption | simp only [*]) | refine Sub.setV ?_ (by first | assumption | simp only [*])))
  · intro e E' d _ h; exact h.elim

theorem est_Of (k g : Int) (ls : List (List Span)) (tick span : Nat) (hn : ls.length < 1099511627776) (hl : ∀ l ∈ ls, l.length < 1099511627776) :
    Pure Tryz.prog 40 [(Hist.mk k g ls).av, u64 tick, u64 span] (u64 (estV ls tick span)) := fun S => by
  refine callR_of Tryz.func40 rfl rfl (xc_ok (bitB 463) _ _ _ ?_)
  simp only [go_sem]
  refine alloc_intro fun b hb => ?_
  simp only [go_sem]
  refine (est_Parts k g ls tick span hn hl).useA ?_
  simp only [go_sem]
  (refine ⟨S, by (repeat (first | exact Sub.refl _ | refine Sub.setF ?_ (by first | assumption | simp only [*]) | refine Sub.setV ?_ (by first | assumption | simp only [*]))), ?_⟩); simp [estV]
end Go.Sk
end

-- A19a
section
namespace Go.Sk

theorem inW_mono (tick span : Nat) : Mono (inW tick span) := by
  intro x y h hx
  unfold inW at *
  simp only [Bool.or_eq_true, decide_eq_true_eq] at *
  omega
theorem lo_le_hi {W : Nat → Bool} (hW : Mono W) {l : List Span} (hv : ∀ s ∈ l, s.a ≤ s.b) : lo W l ≤ hi W l :=
  List.countP_mono_left (fun s hs h => hW _ _ (hv s hs) h)
theorem loL_le_hiL {W : Nat → Bool} (hW : Mono W) : ∀ (ls : List (List Span)) (i : Nat), (∀ s ∈ flat ls, s.a ≤ s.b) → loL W i ls ≤ hiL W i ls := by
  intro ls
  induction ls with
  | nil => intro i _; exact Nat.le_refl _
  | cons l r ih =>
    intro i hv
    have h1 := Nat.mul_le_mul_right (2 ^ i) (lo_le_hi hW (l := l) (fun s hs => hv s (List.mem_append_right _ hs)))
    have h2 := ih (i + 1) (fun s hs => hv s (List.mem_append_left _ hs))
    unfold loL hiL; omega
theorem hiL_le_tot (W : Nat → Bool) : ∀ (ls : List (List Span)) (i : Nat), hiL W i ls ≤ totN i ls := by
  intro ls
  induction ls with
  | nil => intro i; exact Nat.le_refl _
  | cons l r ih =>
    intro i
    have h1 : hi W l * 2 ^ i ≤ l.length * 2 ^ i := Nat.mul_le_mul_right _ List.countP_le_length
    have h2 := ih (i + 1)
    unfold hiL totN; omega
theorem part_level (tick span i : Nat) (hi64 : i < 64) : ∀ (l : List Span), (∀ s ∈ l, s.a ≤ s.b) → ∀ p : Nat × Nat, p.1 + p.2 + l.length * 2 ^ i < 18446744073709551616 →
    partsF tick span p (l.map (fun s => (s, i))) = (p.1 + lo (inW tick span) l * 2 ^ i, p.2 + (hi (inW tick span) l - lo (inW tick span) l) * 2 ^ i) := by
  have hpow : (2 : Nat) ^ i < 18446744073709551616 := by
    have h1 : (2 : Nat) ^ i < 2 ^ 64 := Nat.pow_lt_pow_right (by decide) hi64
    have e : (2 : Nat) ^ 64 = 18446744073709551616 := by decide
    omega
  have hu : units i = 2 ^ i := by unfold units; rw [Nat.min_eq_left (by omega), Nat.one_mul, m64_id hpow]
  intro l
  induction l with
  | nil => intro _ p _; simp [partsF, lo, hi]
  | cons s t ih =>
    intro hv p hp
    have hvs := hv s (by simp)
    have hvt : ∀ s ∈ t, s.a ≤ s.b := fun s hs => hv s (by simp [hs])
    have hlh := lo_le_hi (inW_mono tick span) hvt
    rw [List.length_cons, Nat.add_mul, Nat.one_mul] at hp
    show partsF tick span (partStep tick span p (s, i)) (t.map (fun s => (s, i))) = _
    unfold partStep
    dsimp only
    rw [hu]
    unfold lo hi at ih hlh ⊢
    simp only [List.countP_cons]
    cases ha : inW tick span s.a with
    | true =>
      have hb := inW_mono tick span s.a s.b hvs ha
      rw [if_pos rfl, m64_id (by omega), ih hvt _ (by dsimp only; omega)]
      rw [hb]
      simp only [if_true, Nat.add_sub_add_right, Nat.add_mul, Nat.one_mul]
      congr 1; omega
    | false =>
      cases hb : inW tick span s.b with
      | true =>
        simp only [Bool.false_eq_true, if_false, if_true]
        rw [m64_id (by omega), ih hvt _ (by dsimp only; omega)]
        rw [Nat.add_zero, show ∀ a b : Nat, b ≤ a → a + 1 - b = (a - b) + 1 from fun a b h => by omega]
        · rw [Nat.add_mul, Nat.one_mul]; congr 1; omega
        · exact hlh
      | false =>
        simp only [Bool.false_eq_true, if_false, Nat.add_zero]
        exact ih hvt _ (by omega)
theorem parts_eq (tick span : Nat) : ∀ (ls : List (List Span)) (i : Nat), i + ls.length ≤ 64 → (∀ s ∈ flat ls, s.a ≤ s.b) → ∀ p : Nat × Nat, p.1 + p.2 + totN i ls < 18446744073709551616 →
    partsF tick span p (bucksF i ls) = (p.1 + loL (inW tick span) i ls, p.2 + (hiL (inW tick span) i ls - loL (inW tick span) i ls)) := by
  intro ls
  induction ls with
  | nil => intro i _ _ p _; simp [partsF, bucksF, loL, hiL]
  | cons l r ih =>
    intro i hi64 hv p hp
    have hvl : ∀ s ∈ l, s.a ≤ s.b := fun s hs => hv s (List.mem_append_right _ hs)
    have hvr : ∀ s ∈ flat r, s.a ≤ s.b := fun s hs => hv s (List.mem_append_left _ hs)
    rw [List.length_cons] at hi64
    unfold totN at hp
    have e : partsF tick span p (bucksF i (l :: r)) = partsF tick span (partsF tick span p (l.map (fun s => (s, i)))) (bucksF (i + 1) r) := by
      unfold partsF; rw [← List.foldl_append]; rfl
    have hlo := lo_le_hi (inW_mono tick span) hvl
    have hloL := loL_le_hiL (inW_mono tick span) r (i + 1) hvr
    have m1 : lo (inW tick span) l * 2 ^ i ≤ hi (inW tick span) l * 2 ^ i := Nat.mul_le_mul_right _ hlo
    have m2 : hi (inW tick span) l * 2 ^ i ≤ l.length * 2 ^ i := Nat.mul_le_mul_right _ List.countP_le_length
    rw [e, part_level tick span i (by omega) l hvl p (by omega), Nat.sub_mul, ih (i + 1) (by omega) hvr _ (by dsimp only; omega)]
    dsimp only
    rw [show loL (inW tick span) i (l :: r) = lo (inW tick span) l * 2 ^ i + loL (inW tick span) (i + 1) r from rfl, show hiL (inW tick span) i (l :: r) = hi (inW tick span) l * 2 ^ i + hiL (inW tick span) (i + 1) r from rfl]
    congr 1 <;> omega
/-- The estimate, in plain numbers. -/
theorem est_eq {ls : List (List Span)} (hv : ∀ s ∈ flat ls, s.a ≤ s.b) (hl : ls.length ≤ 64) (ht : totN 0 ls ≤ 4503599627370496) (tick span : Nat) :
    estV ls tick span = loL (inW tick span) 0 ls + (hiL (inW tick span) 0 ls - loL (inW tick span) 0 ls) / 2 ∧ hiL (inW tick span) 0 ls ≤ 4503599627370496 ∧ loL (inW tick span) 0 ls ≤ hiL (inW tick span) 0 ls := by
  have h1 := hiL_le_tot (inW tick span) ls 0
  have h2 := loL_le_hiL (inW_mono tick span) ls 0 hv
  refine ⟨?_, by omega, h2⟩
  unfold estV partsV
  rw [parts_eq tick span ls 0 (by omega) hv (0, 0) (by dsimp only; omega)]
  dsimp only
  rw [Nat.zero_add, Nat.zero_add, m64_id (by omega)]

end Go.Sk
end

-- A14c
section
namespace Go.Sk

noncomputable def wtT (tick span : Nat) (e : Event) : Nat := if e.t ≤ tick ∧ inW tick span e.t = true then e.w else 0
theorem within_eq (tick span : Nat) (e : Event) : withinV tick span e = true ↔ (e.t ≤ tick ∧ inW tick span e.t = true) := by
  unfold withinV inW
  simp only [Bool.and_eq_true, decide_eq_true_eq, Bool.or_eq_true, gt_iff_lt]
theorem spanV_eq (tick span : Nat) : ∀ (l : List Event) (n : Nat), n + sumE (wtT tick span) l < 18446744073709551616 → sumV (withinV tick span) Event.w n l = n + sumE (wtT tick span) l := by
  intro l
  induction l with
  | nil => intro n _; rfl
  | cons e r ih =>
    intro n h
    rw [sumE_cons] at h ⊢
    show sumV _ _ (if withinV tick span e = true then m64 (n + e.w) else n) r = _
    unfold wtT at h ⊢
    by_cases c : withinV tick span e = true
    · rw [if_pos ((within_eq tick span e).1 c)] at h ⊢
      rw [if_pos c, m64_id (by omega), ih _ (by unfold wtT; omega)]; unfold wtT; omega
    · rw [if_neg (fun h => c ((within_eq tick span e).2 h))] at h ⊢
      rw [if_neg c, ih _ (by unfold wtT; omega)]; unfold wtT; omega
theorem wtT_le (tick span : Nat) (e : Event) : wtT tick span e ≤ e.w := by unfold wtT; split <;> omega
/-- What a query tells, in plain numbers. -/
theorem told_eq {s : Skt} (hg : s.Good) (tick span : Nat) : spanV s.b.evs tick span = sumE (wtT tick span) s.b.evs ∧ estV s.past.ls tick span + spanV s.b.evs tick span ≤ 4503599627370496 ∧
    estV s.past.ls tick span = loL (inW tick span) 0 s.past.ls + (hiL (inW tick span) 0 s.past.ls - loL (inW tick span) 0 s.past.ls) / 2 := by
  have h1 := sumE_le (wtT_le tick span) s.b.evs
  have ht := hg.tot
  have e1 : spanV s.b.evs tick span = sumE (wtT tick span) s.b.evs := by
    unfold spanV; rw [spanV_eq _ _ _ _ (by omega), Nat.zero_add]
  obtain ⟨g1, g2, g3⟩ := est_eq hg.pt.val (by have := hg.pg.len; omega) hg.pg.tot tick span
  have g4 := hiL_le_tot (inW tick span) s.past.ls 0
  refine ⟨e1, by omega, g1⟩
/-- An empty one. -/
def newK (k : Int) (win late : Nat) (room : Int) : Skt := ⟨win, ⟨late, room, 0, 0, []⟩, ⟨k, 0, []⟩⟩
theorem newK_good {k : Int} {win late : Nat} {room : Int} (h1 : 2 ≤ k) (h2 : k ≤ 1024) (h3 : 1 ≤ win) (h4 : win ≤ 4611686018427387904) (h5 : late ≤ 4611686018427387904) (h6 : 1 ≤ room) (h7 : room ≤ 1024) : (newK k win late room).Good ∧ (newK k win late room).Led [] :=
  ⟨⟨h3, h4, h5, h6, h7, Nat.zero_le _, Nat.zero_le _, fun e he => (by cases he), List.Pairwise.nil, Nat.zero_le _, ⟨h1, h2, fun l hl => (by cases hl), fun l hl => (by cases hl), Nat.zero_le _⟩, empty_tidy _, fun x hx => (by cases hx), Nat.zero_le _⟩,
   ⟨[], fun f => rfl, fun W _ _ => ⟨Nat.le_refl _, Nat.le_refl _⟩, fun e he => (by cases he)⟩⟩
noncomputable def madeKo : List Event → Skt → List Event → Skt × List Event
  | [], s, all => (s, all)
  | e :: r, s, all => if (oneK s e).2 = 0 then madeKo r (oneK s e).1 (if 0 < e.w then all ++ [e] else all) else madeKo r s all
noncomputable def madeK (k : Int) (n0 n1 : Nat) (l : List Event) : Skt × List Event := madeKo (l.take 30) (newK (2 + max k 0 % 30) (1 + n0 % 1000) (n1 % 100) (1 + (n1 % 7 : Nat))) []
end Go.Sk
end
