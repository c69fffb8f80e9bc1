/- Walk: what comes to a level, by the document. -/
import Derived.Test.YtmpockfgppcnbaaR10B
set_option linter.unusedSimpArgs false
set_option linter.unusedVariables false
set_option linter.unusedSectionVars false
namespace Go.Sk
open Go Go.Proofs

set_option maxHeartbeats 1000000 in
set_option maxRecDepth 8000 in
theorem ref05_Push (l : List Span) (most : Nat) (add : List Span) (many tick : Nat) (hm1 : 1 ≤ most) (hm2 : most < 1099511627776) (hl : l.length < 1099511627776) (ha : add.length < 1099511627776) (hmany : many < 4611686018427387904) :
    Pure Try.prog 62 [.p (lvP l), i64 most, .p (lvP add), u64 many, u64 tick]
      (.tuple [.p (lvP (stayV l most add many tick)), .p (lvP (outsV l most add many tick)), u64 (leftV l most add many)]) := fun S => by
  refine callR_of Try.func62 rfl rfl (xc_ok (bitB 5106502809662176120174279711) _ _ _ ?_)
  have hb1 : ¬ (1 : Int) > most := by omega
  simp only [go_sem, lvP, hb1, if_false]
  refine ⟨span_len, by omega, by omega, tip_intro fun k0 loc0 hk0 => ?_⟩
  simp only [go_sem]
  refine ⟨span_len, span_len, by omega, by omega, grow_intro fun loc1 => ?_⟩
  simp only [go_sem]
  obtain ⟨all, hall⟩ : ∃ all, l ++ add = all := ⟨_, rfl⟩
  have hmapall : List.map Span.pv l ++ List.map Span.pv add = List.map Span.pv all := by rw [← hall, List.map_append]
  obtain ⟨n, hnn⟩ : ∃ n, l.length + add.length = n := ⟨_, rfl⟩
  have hlen : all.length = n := by rw [← hall, List.length_append, hnn]
  have e1 : m64 n = n := m64_id (by omega)
  have e2 : m64 (n + many) = n + many := m64_id (by omega)
  have e3 : m64 most = most := m64_id (by omega)
  simp only [hmapall, hnn, hlen]
  obtain ⟨p, hp⟩ : ∃ p, pairsN (n + many) most = p := ⟨_, rfl⟩
  have hp0 := hp
  unfold pairsN at hp0
  obtain ⟨q, hq⟩ : ∃ q, outsN n most many = q := ⟨_, rfl⟩
  have hq0 : min p ((n + 1) / 2) = q := by rw [← hq]; unfold outsN; rw [hp]
  have hst : stayV l most add many tick = (lineV l add many tick).drop (2 * p) := by unfold stayV; rw [hnn, hp]
  have hout : outsV l most add many tick = (pairUp (lineV l add many tick)).take q := by unfold outsV; rw [hnn, hq]
  have hleft : leftV l most add many = p - q := by unfold leftV; rw [hnn, hp, hq]
  rw [hst, hout, hleft]
  simp only [go_sem, hlen, e1, e2, e3]
  by_cases hc : most < n + many
  rotate_left
  have hp1 : p = 0 := by omega
  simp only [go_sem, hc]
  rotate_left
  have hp1 : True := trivial
  have e4 : sub64 (n + many) most = n + many - most := by rw [sub64_eq]; omega
  have e5 : m64 (n + many - most + 1) = n + many - most + 1 := m64_id (by omega)
  have e6 : m64 ((n + many - most + 1) / 2) = p := by rw [hp0]; exact m64_id (by omega)
  simp only [go_sem, hc, e3, e4, e5, e6]
  all_goals
    refine AWP.data 13 ?_
    refine AWP.tip0 17 2 (by simp only [go_sem]) fun k hk => ?_
    simp only [freshv_set, freshv_setr] at hk
    simp only [go_sem]
    refine AWP.iterE (ι := Option Nat) (fun loc j => ⟨Env.get [(4, u64 tick), (13, .p (.sl (all.map Span.pv))), (14, u64 n), (15, u64 p), (16, u64 (n + many)), (17, .ts k 2 loc (((pairUp (lineV l add many tick)).take j).map Span.pv)), (18, u64 j)],
      S.set (.v k) (.tip 2 ((pairUp (lineV l add many tick)).take j).length loc), 111, []⟩) q none ?_ ?_ ?_
    · refine le_of (by simp only [go_sem, List.take_zero, List.map_nil] <;> first | rfl | rw [hp1]) ?_ rfl rfl (by simp)
      ((try dsimp only); (repeat refine sub_set ?_ ?_) <;> first | ((repeat (first | exact Sub.refl _ | refine Sub.setF ?_ (by first | assumption | simp only [*]) | refine Sub.setV ?_ (by first | assumption | simp only [*]))); done) | (simp only [go_sem, hk, List.take_zero, List.map_nil, List.length_nil]; done) | (simp only [go_sem, hk, List.take_zero, List.map_nil, List.length_nil]; rfl) | rfl)
    · intro j loc hj ih
      obtain ⟨h1, h2, h3, h4, h5⟩ := two_next hlen hm1 (by rw [hq]; exact hj)
      have e7 : m64 (2 * j) = 2 * j := m64_id (by omega)
      have e8 : m64 (2 * j + 1) = 2 * j + 1 := m64_id (by omega)
      have e9 : m64 (j + 1) = j + 1 := m64_id (by omega)
      have hjp : j < p := by omega
      have hjl : 2 * j < all.length := by omega
      have hle : (List.take j (pairUp (lineV l add many tick))).length ≤ j := by rw [List.length_take]; exact Nat.min_le_left _ _
      have hsn := outs_snoc l add many tick most j hm1 (by rw [hnn, hq]; exact hj)
      simp only [hall, hnn] at hsn
      refine AWPH.step (xc_ok (bitB 5106502809662176120174279711) _ _ _ ?_)
      simp only [go_sem, hk, e7, hjp, h1, hjl, ltN' hjl, getD_map' _ _ _ _ hjl, e8]
      by_cases hd : 2 * j + 1 < n
      · have hjl2 : 2 * j + 1 < all.length := by omega
        rw [dif_pos hd] at hsn
        simp only [go_sem, hk, e7, e8, e9, hd, hjl2, ltN' hjl2, getD_map' _ _ _ _ hjl2]
        have e5' : List.map Span.pv ((pairUp (lineV l add many tick)).take j) ++ [[.int .u64 (all[2 * j]).a, .int .u64 (all[2 * j + 1]).b]] = List.map Span.pv ((pairUp (lineV l add many tick)).take (j + 1)) := by
          rw [hsn, List.map_append]; rfl
        refine ⟨by rintro el rfl; rfl, span_len, by omega, by omega, grow_intro fun loc' => ?_⟩
        simp only [go_sem, hk, e9]
        refine (ih loc').back ?_ (by simp) ?_
        · ((try dsimp only); (repeat refine sub_set ?_ ?_) <;> first | ((repeat (first | exact Sub.refl _ | refine Sub.setF ?_ (by first | assumption | simp only [*]) | refine Sub.setV ?_ (by first | assumption | simp only [*]))); done) | (simp only [go_sem, hk, e5', List.length_map]; done) | (simp only [go_sem, hk, e5', List.length_map]; rfl) | rfl)
        · simp only [go_sem, e5', e9]
      · rw [dif_neg hd] at hsn
        simp only [go_sem, hk, e7, e8, e9, hd]
        have e5' : List.map Span.pv ((pairUp (lineV l add many tick)).take j) ++ [[.int .u64 (all[2 * j]).a, .int .u64 tick]] = List.map Span.pv ((pairUp (lineV l add many tick)).take (j + 1)) := by
          rw [hsn, List.map_append]; rfl
        refine ⟨by rintro el rfl; rfl, span_len, by omega, by omega, grow_intro fun loc' => ?_⟩
        simp only [go_sem, hk, e9]
        refine (ih loc').back ?_ (by simp) ?_
        · ((try dsimp only); (repeat refine sub_set ?_ ?_) <;> first | ((repeat (first | exact Sub.refl _ | refine Sub.setF ?_ (by first | assumption | simp only [*]) | refine Sub.setV ?_ (by first | assumption | simp only [*]))); done) | (simp only [go_sem, hk, e5', List.length_map]; done) | (simp only [go_sem, hk, e5', List.length_map]; rfl) | rfl)
        · simp only [go_sem, e5', e9]
    · intro loc
      refine AWPH.step (xc_ok (bitB 5106502809662176120174279711) _ _ _ ?_)
      have e7 : m64 (2 * q) = 2 * q := m64_id (by omega)
      have e8 : m64 (2 * p) = 2 * p := m64_id (by omega)
      have hex : ¬ q < p ∨ ¬ 2 * q < n := by omega
      obtain ⟨lin, hlin⟩ : ∃ lin, lineV l add many tick = lin := ⟨_, rfl⟩
      have hll : lin.length = n + many := by rw [← hlin, lineV_length, hnn]
      obtain ⟨outs, houts⟩ : ∃ outs, (pairUp lin).take q = outs := ⟨_, rfl⟩
      simp only [hlin, houts]
      by_cases hqp : q < p
      rotate_left
      simp only [go_sem, hk, hqp, e7, e8]
      rotate_left
      have hqn : ¬ 2 * q < n := by omega
      simp only [go_sem, hk, hqp, hqn, e7, e8]
      all_goals
        refine AWP.tip0 21 2 (by simp only [go_sem]) fun k3 hk3 => ?_
        simp only [freshv_set, freshv_setr] at hk3
        simp only [go_sem]
        refine AWP.iterE (ι := Option Nat) (fun loc3 i => ⟨Env.get [(4, u64 tick), (13, .p (.sl (all.map Span.pv))), (14, u64 n), (15, u64 p), (16, u64 (n + many)), (17, .ts k 2 loc (outs.map Span.pv)), (18, u64 q), (21, .ts k3 2 loc3 (((lin.drop (2 * p)).take i).map Span.pv)), (22, u64 (2 * p + i))],
          (S.set (.v k) (.tip 2 outs.length loc)).set (.v k3) (.tip 2 ((lin.drop (2 * p)).take i).length loc3), 111, []⟩) (n + many - 2 * p) none ?_ ?_ ?_
        · refine le_of (by simp only [go_sem, List.take_zero, List.map_nil, Nat.add_zero]) ?_ rfl rfl (by simp)
          ((try dsimp only); (repeat refine sub_set ?_ ?_) <;> first | ((repeat (first | exact Sub.refl _ | refine Sub.setF ?_ (by first | assumption | simp only [*]) | refine Sub.setV ?_ (by first | assumption | simp only [*]))); done) | (simp only [go_sem, hk, hk3, List.take_zero, List.map_nil, List.length_nil]; done) | (simp only [go_sem, hk, hk3, List.take_zero, List.map_nil, List.length_nil]; rfl) | rfl)
        · intro i loc3 hi ih
          have hi2 : i < (lin.drop (2 * p)).length := by rw [List.length_drop]; omega
          have f1 : 2 * p + i < n + many := by omega
          have f2 : m64 (2 * p + i + 1) = 2 * p + (i + 1) := by rw [m64_id (by omega)]; omega
          have hle : (List.take i (lin.drop (2 * p))).length ≤ i := by rw [List.length_take]; exact Nat.min_le_left _ _
          have hsize : i ≤ most + 1 := by omega
          have e5' : ∀ s : Span, (lin.drop (2 * p))[i] = s → List.map Span.pv ((lin.drop (2 * p)).take i) ++ [[.int .u64 s.a, .int .u64 s.b]] = List.map Span.pv ((lin.drop (2 * p)).take (i + 1)) := by
            intro s hs
            rw [List.take_succ_eq_append_getElem hi2, List.map_append, hs]; rfl
          refine AWPH.step (xc_ok (bitB 5106502809662176120174279711) _ _ _ ?_)
          simp only [go_sem, hk, hk3, f1]
          by_cases hd : 2 * p + i < n
          · have hjl2 : 2 * p + i < all.length := by omega
            have g := e5' (all[2 * p + i]) (by rw [List.getElem_drop]; simp only [← hlin]; rw [lineV_lt (by omega)]; simp only [hall])
            simp only [go_sem, hk, hk3, hd, hjl2, ltN' hjl2, getD_map' _ _ _ _ hjl2]
            refine ⟨by rintro el rfl; rfl, span_len, by omega, by omega, grow_intro fun loc' => ?_⟩
            simp only [go_sem, hk, hk3, f2]
            refine (ih loc').back ?_ (by simp) ?_
            · ((try dsimp only); (repeat refine sub_set ?_ ?_) <;> first | ((repeat (first | exact Sub.refl _ | refine Sub.setF ?_ (by first | assumption | simp only [*]) | refine Sub.setV ?_ (by first | assumption | simp only [*]))); done) | (simp only [go_sem, hk, hk3, g, List.length_map]; done) | (simp only [go_sem, hk, hk3, g, List.length_map]; rfl) | rfl)
            · simp only [go_sem, g, f2]
          · have g := e5' ⟨tick, tick⟩ (by rw [List.getElem_drop]; simp only [← hlin]; rw [lineV_ge (by omega)])
            simp only [go_sem, hk, hk3, hd]
            refine ⟨by rintro el rfl; rfl, span_len, by omega, by omega, grow_intro fun loc' => ?_⟩
            simp only [go_sem, hk, hk3, f2]
            refine (ih loc').back ?_ (by simp) ?_
            · ((try dsimp only); (repeat refine sub_set ?_ ?_) <;> first | ((repeat (first | exact Sub.refl _ | refine Sub.setF ?_ (by first | assumption | simp only [*]) | refine Sub.setV ?_ (by first | assumption | simp only [*]))); done) | (simp only [go_sem, hk, hk3, g, List.length_map]; done) | (simp only [go_sem, hk, hk3, g, List.length_map]; rfl) | rfl)
            · simp only [go_sem, g, f2]
        · intro loc3
          have f1 : ¬ 2 * p + (n + many - 2 * p) < n + many := by omega
          have f3 : sub64 p q = p - q := by rw [sub64_eq]; omega
          refine AWPH.step (xc_ok (bitB 5106502809662176120174279711) _ _ _ ?_)
          simp only [go_sem, hk, hk3, f1, f3, List.take_of_length_le (show (lin.drop (2 * p)).length ≤ n + many - 2 * p by rw [List.length_drop]; omega)]
          (refine ⟨S, by (repeat (first | exact Sub.refl _ | refine Sub.setF ?_ (by first | assumption | simp only [*]) | refine Sub.setV ?_ (by first | assumption | simp only [*]))), ?_⟩); simp
end Go.Sk
