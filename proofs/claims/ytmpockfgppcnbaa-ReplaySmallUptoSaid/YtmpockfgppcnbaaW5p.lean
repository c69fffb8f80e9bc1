/- Walk: what comes to a level. -/
import Derived.Test.YtmpockfgppcnbaaR10B
set_option linter.unusedSimpArgs false
set_option linter.unusedVariables false
set_option linter.unusedSectionVars false
namespace Go.Sk
open Go Go.Proofs

set_option maxHeartbeats 4000000 in
set_option maxRecDepth 8000 in
theorem level_Push (l : List Span) (most : Nat) (add : List Span) (many tick : Nat) (hm1 : 1 ≤ most) (hm2 : most < 1099511627776) (hl : l.length < 1099511627776) (ha : add.length < 1099511627776) (hmany : many < 4611686018427387904) :
    Pure Try.prog 73 [.p (lvP l), i64 most, .p (lvP add), u64 many, u64 tick]
      (.tuple [.p (lvP (stayV l most add many tick)), .p (lvP (outsV l most add many tick)), u64 (leftV l most add many)]) := fun S => by
  refine callR_of Try.func73 rfl rfl (xc_ok (bitB 2417851711286854270565407) _ _ _ ?_)
  simp only [go_sem, lvP]
  refine alloc_intro fun q hq => ?_
  simp only [go_sem]
  refine alloc_intro fun g hg => ?_
  simp only [fresh_set] at hg
  simp only [go_sem, hg]
  refine AWP.head (AWPH.step (xc_ok (bitB 2417851711286854270565407) _ _ _ ?_))
  simp only [go_sem, hg]
  change boolK (AV.p (PV.bool true)) _
  simp only [go_sem, hg]
  refine AWP.draw2 (bitB 2417851711286854270565407) mixed (by kernel_rfl) (fun i => bl false) ?_
  simp only [go_sem, hg]
  refine ⟨span_len, by omega, by omega, tip_intro fun k0 loc0 hk0 => ?_⟩
  simp only [go_sem, hg]
  have w01 : wi (0 + 1) = 1 := by rw [wi_id (by omega) (by omega)]; rfl
  have w11 : wi (1 + 1) = 2 := by rw [wi_id (by omega) (by omega)]; rfl
  refine AWPH.step (xc_ok (bitB 2417851711286854270565407) _ _ _ ?_)
  simp only [go_sem, hg, w01]
  change boolK (AV.p (PV.bool true)) _
  simp only [go_sem, hg]
  refine ⟨by omega, by omega, ?_⟩
  refine AWP.draw2 (bitB 2417851711286854270565407) mixed (by kernel_rfl) (fun i => bl false) ?_
  simp only [go_sem, hg]
  refine ⟨span_len, span_len, by omega, by omega, grow_intro fun loc1 => ?_⟩
  simp only [go_sem, hg]
  refine AWPH.step (xc_ok (bitB 2417851711286854270565407) _ _ _ ?_)
  simp only [go_sem, hg, w11]
  change boolK (AV.p (PV.bool false)) _
  simp only [go_sem, hg]
  refine (bounded_int most 1).useA ?_
  have hb1 : ¬ (most : Int) < 1 := by omega
  have e64 : m64 most = most := m64_id (by omega)
  simp only [go_sem, hg, hb1, if_false, e64]
  refine alloc_intro fun r hr => ?_
  simp only [fresh_set, fresh_setv] at hr
  simp only [go_sem, hg, hr]
  refine AWP.dataB q (cs := [.ts k0 2 loc1 (List.map Span.pv l ++ List.map Span.pv add), u64 many, u64 tick]) (by simp only [go_sem, hg, hr]) ?_
  simp only [go_sem, List.map_cons, List.map_nil, reif1]
  refine AWP.tip0 18 2 (by simp only [go_sem]) fun k hk => ?_
  simp only [go_sem]
  obtain ⟨all, hall⟩ : ∃ all, l ++ add = all := ⟨_, rfl⟩
  have hmapall : List.map Span.pv l ++ List.map Span.pv add = List.map Span.pv all := by rw [← hall, List.map_append]
  obtain ⟨n, hnn⟩ : ∃ n, l.length + add.length = n := ⟨_, rfl⟩
  have hlen : all.length = n := by rw [← hall, List.length_append, hnn]
  simp only [hmapall]
  simp only [freshv_set, freshv_setr] at hk hk0
  refine AWP.iterE (ι := Option Nat) (fun loc j => ⟨Env.get [(13, .sp g 0), (16, .sp r 0), (17, .fn (.func 91) [] [.sp g 0, .sp r 0]), (18, .ts k 2 loc (((pairUp (lineV l add many tick)).take j).map Span.pv))],
    (((S.set (.r g) (.cells [.sp q 0])).set (.r r) (.cells [u64 most])).set (.r q) (.cells [.p (lvP (all.drop (2 * j))), u64 (many - (2 * j - n) : Nat), u64 tick])).set (.v k) (.tip 2 (((pairUp (lineV l add many tick)).take j).map Span.pv).length loc), 90, []⟩) (outsN n most many) none ?_ ?_ ?_
  · refine le_of (by simp only [go_sem, List.take_zero]) ?_ rfl rfl (by simp)
    ((try dsimp only); (repeat refine sub_set ?_ ?_) <;> first | ((repeat (first | exact Sub.refl _ | refine Sub.setF ?_ (by first | assumption | simp only [*]) | refine Sub.setV ?_ (by first | assumption | simp only [*]))); done) | (simp only [go_sem, hg, hr, hk, lvP, Nat.mul_zero, List.drop_zero, Nat.zero_sub, Nat.sub_zero, List.take_zero]; done) | (simp only [go_sem, hg, hr, hk, lvP, Nat.mul_zero, List.drop_zero, Nat.zero_sub, Nat.sub_zero, List.take_zero]; rfl) | rfl)
  · intro j loc hj ih
    obtain ⟨h1, h2, h3, h4, h5⟩ := two_next hlen hm1 hj
    refine AWPH.step (xc_ok (bitB 2417851711286854270565407) _ _ _ ?_)
    simp only [go_sem]
    refine CallR.useF (first := []) (args := []) (caps := [.sp g 0, .sp r 0]) (a2 := []) (push_over (b := q) (r := r) (q := g) (all.drop (2 * j)) (many - (2 * j - n)) tick most ?_ ?_ (by simp; omega) (by omega) ?_) rfl ?_
    · simp only [go_sem, hg, hr]
    · simp only [go_sem, hg, hr]
    · simp only [go_sem, hg, hr]
    rintro _ _ ⟨rfl, rfl⟩
    have hdl : (List.drop (2 * j) all).length = n - 2 * j := by rw [List.length_drop, hlen]
    have hpos : (List.drop (2 * j) all).length + (many - (2 * j - n)) - most > 0 := by omega
    have hl0 : ((List.drop (2 * j) all).length : Int) > 0 := by omega
    simp only [go_sem, hg, hr, hpos, hl0, lvP]
    refine (line_next (b := q) (all.drop (2 * j)) (many - (2 * j - n)) tick ?_ (by omega) (by omega) (by omega)).useA ?_
    · simp only [go_sem, hg, hr, lvP]
    rintro _ _ ⟨rfl, rfl⟩
    simp only [go_sem, hg, hr]
    have q1 : (List.take j (pairUp (lineV l add many tick))).length ≤ j := by rw [List.length_take]; exact Nat.min_le_left _ _
    have q2 : ((List.take j (pairUp (lineV l add many tick))).length + 1) * 16 ≤ 140737488355328 := by clear hg hr hk hk0; omega
    have q3 : (List.take j (pairUp (lineV l add many tick))).length + 1 < 4611686018427387904 := by clear hg hr hk hk0; omega
    have q4 : 0 < ((all.drop (2 * j)).drop 1).length + (many - (2 * j - n) - (1 - (all.drop (2 * j)).length)) := by rw [List.length_drop (i := 1)]; clear hg hr hk hk0; omega
    have q5 : ((all.drop (2 * j)).drop 1).length < 4611686018427387904 := by rw [List.length_drop (i := 1)]; clear hg hr hk hk0; omega
    have q6 : many - (2 * j - n) - (1 - (all.drop (2 * j)).length) < 18446744073709551616 := by clear hg hr hk hk0; omega
    refine alloc_intro fun t ht => ?_
    simp only [fresh_set, fresh_setv] at ht
    simp only [go_sem, hg, hr, ht]
    refine AWP.orders (bitB 2417851711286854270565407) mixed [[0,1,2,3,4,5,6,7],[0,2,1,3,4,5,6,7],[0,2,3,1,4,5,6,7],[1,0,2,3,4,5,6,7],[1,2,0,3,4,5,6,7],[1,2,3,0,4,5,6,7],[1,2,3,4,0,5,6,7],[1,2,3,4,5,0,6,7],[2,0,1,3,4,5,6,7],[2,0,3,1,4,5,6,7],[2,1,0,3,4,5,6,7],[2,1,3,0,4,5,6,7],[2,1,3,4,0,5,6,7],[2,1,3,4,5,0,6,7],[2,3,0,1,4,5,6,7],[2,3,1,0,4,5,6,7],[2,3,1,4,0,5,6,7],[2,3,1,4,5,0,6,7]] (by kernel_rfl) ?_
    simp only [List.forall_mem_cons, List.not_mem_nil, false_implies, implies_true, and_true, opsAt, List.getElem?_cons_zero, List.getElem?_cons_succ]
    obtain ⟨x, hx⟩ : ∃ x : Span, (all.drop (2 * j) ++ List.replicate (many - (2 * j - n)) (⟨tick, tick⟩ : Span)).getD 0 default = x := ⟨_, rfl⟩
    obtain ⟨y, hy⟩ : ∃ y : Span, ((all.drop (2 * j)).drop 1 ++ List.replicate (many - (2 * j - n) - (1 - (all.drop (2 * j)).length)) (⟨tick, tick⟩ : Span)).getD 0 default = y := ⟨_, rfl⟩
    have e3 : ((all.drop (2 * j)).drop 1).drop 1 = all.drop (2 * (j + 1)) := by rw [List.drop_drop, List.drop_drop]; congr 1
    have e4 : many - (2 * j - n) - (1 - (all.drop (2 * j)).length) - (1 - ((all.drop (2 * j)).drop 1).length) = many - (2 * (j + 1) - n) := by
      rw [List.length_drop (i := 1), hdl]; omega
    have hgx : x = all[2 * j]'(by omega) := by rw [← hx]; exact drop_head _
    have hgy : y.b = if h : 2 * j + 1 < n then (all[2 * j + 1]'(by omega)).b else tick := by
      rw [← hy, List.drop_drop]
      split
      · rename_i h; rw [drop_head (by omega)]
      · rename_i h; rw [drop_head2 (by omega) (by omega)]
    have e5 : List.map Span.pv ((pairUp (lineV l add many tick)).take j) ++ [[.int .u64 x.a, .int .u64 y.b]] = List.map Span.pv ((pairUp (lineV l add many tick)).take (j + 1)) := by
      have hsn := outs_snoc l add many tick most j hm1 (by rw [hnn]; exact hj)
      rw [hsn, List.map_append]
      congr 1
      simp only [List.map_cons, List.map_nil, Span.pv, hgx, hgy, hall, hnn]
    have hle : (List.take j (pairUp (lineV l add many tick))).length ≤ j := by rw [List.length_take]; exact Nat.min_le_left _ _
    clear hgx hgy
    refine ⟨?_, ?_, ?_, ?_, ?_, ?_, ?_, ?_, ?_, ?_, ?_, ?_, ?_, ?_, ?_, ?_, ?_, ?_⟩
    rotate_left
    all_goals (first | done | skip)
    all_goals
      simp only [go_sem, hg, hr, ht]
      refine (line_next (b := q) ((all.drop (2 * j)).drop 1) (many - (2 * j - n) - (1 - (all.drop (2 * j)).length)) tick ?_ q4 q5 q6).useA ?_
      · simp only [go_sem, hg, hr, ht, lvP]
      rintro _ _ ⟨rfl, rfl⟩
      simp only [go_sem, hg, hr, ht]
      refine (level_both _ _).useA ?_
      simp only [go_sem, hg, hr, ht, hk]
      simp only [hx, hy, e3, e4]
      refine ⟨by rintro el rfl; rfl, span_len, q2, q3, grow_intro fun loc' => ?_⟩
      simp only [go_sem, hg, hr, ht, hk]
      refine (ih loc').back ?_ (by simp) ?_
      · ((try dsimp only); (repeat refine sub_set ?_ ?_) <;> first | ((repeat (first | exact Sub.refl _ | refine Sub.setF ?_ (by first | assumption | simp only [*]) | refine Sub.setV ?_ (by first | assumption | simp only [*]))); done) | (simp only [go_sem, hg, hr, ht, hk, e5, lvP]; done) | (simp only [go_sem, hg, hr, ht, hk, e5, lvP]; rfl) | rfl)
      · simp only [go_sem, e5]
  · intro loc
    refine AWPH.step (xc_ok (bitB 2417851711286854270565407) _ _ _ ?_)
    simp only [go_sem]
    have hq0 : ∃ qq, outsN n most many = qq := ⟨_, rfl⟩
    obtain ⟨qq, hqq⟩ := hq0
    have hqle : 2 * qq ≤ n + 1 := by rw [← hqq]; unfold outsN; omega
    have hmq : 2 * qq - n ≤ many := by rw [← hqq]; unfold outsN pairsN; omega
    simp only [hqq]
    have hdl : (List.drop (2 * qq) all).length = n - 2 * qq := by rw [List.length_drop, hlen]
    refine CallR.useF (first := []) (args := []) (caps := [.sp g 0, .sp r 0]) (a2 := []) (push_over (b := q) (r := r) (q := g) (all.drop (2 * qq)) (many - (2 * qq - n)) tick most ?_ ?_ (by omega) (by omega) ?_) rfl ?_
    · simp only [go_sem, hg, hr]
    · simp only [go_sem, hg, hr]
    · simp only [go_sem, hg, hr]
    rintro _ _ ⟨rfl, rfl⟩
    obtain ⟨hle1, hle2, hle3⟩ := left_eq (many := many) hm1 hqq
    rw [hdl]
    obtain ⟨left, hleft⟩ : ∃ left, pairsN (n + many) most - qq = left := ⟨_, rfl⟩
    rw [hleft] at hle1 hle2
    have hL : leftV l most add many = left := by unfold leftV; rw [hnn, hqq, hleft]
    have e6 : m64 (n - 2 * qq + (many - (2 * qq - n)) - most + 1) = n - 2 * qq + (many - (2 * qq - n)) - most + 1 := m64_id (by omega)
    have e7 : m64 (m64 (n - 2 * qq + (many - (2 * qq - n)) - most + 1) / 2) = left := by rw [e6, hle1]; exact m64_id (by omega)
    have e8 : sub64 (many - (2 * qq - n)) (m64 (2 * left)) = many - (2 * qq - n) - 2 * left := by rw [m64_id (by omega), sub64_eq]; omega
    have hst := stay_eq l add many tick most hm1
    rw [hall, hnn, hqq, hL] at hst
    have hout : outsV l most add many tick = (pairUp (lineV l add many tick)).take qq := by unfold outsV; rw [hnn, hqq]
    have hstl := stay_le l add many tick most hm1
    rw [hst, hout, hL]
    rw [hst] at hstl
    obtain ⟨rest, hrest⟩ : ∃ rest, List.drop (2 * qq) all = rest := ⟨_, rfl⟩
    obtain ⟨m2, hm2'⟩ : ∃ m2, many - (2 * qq - n) - 2 * left = m2 := ⟨_, rfl⟩
    rw [hm2'] at hst hstl e8
    rw [hrest] at hst hstl hdl
    simp only [hrest, hm2'] at *
    have hrl : rest.length + m2 ≤ most := by simpa using hstl
    simp only [go_sem, hg, hr, lvP]
    have hov := push_over (b := q) (r := r) (q := g) rest (many - (2 * qq - n)) tick most (S := (((S.set (.r g) (.cells [.sp q 0])).set (.r r) (.cells [u64 most])).set (.r q)
            (.cells [.p (.sl (List.map Span.pv rest)), u64 (many - (2 * qq - n) : Nat), u64 tick])).set
        (.v k) (.tip 2 (List.take qq (pairUp (lineV l add many tick))).length loc)) (by simp only [go_sem, hg, hr, lvP]) (by simp only [go_sem, hg, hr]) (by omega) (by omega) (by simp only [go_sem, hg, hr])
    rw [hdl] at hov
    have hzz : ¬ 0 < n - 2 * qq ∨ ¬ 0 < n - 2 * qq + (many - (2 * qq - n)) - most := by omega
    obtain ⟨outs, houts⟩ : ∃ outs, List.take qq (pairUp (lineV l add many tick)) = outs := ⟨_, rfl⟩
    simp only [houts] at hov ⊢
    obtain ⟨ST, hST⟩ : ∃ ST, rest ++ List.replicate m2 (⟨tick, tick⟩ : Span) = ST := ⟨_, rfl⟩
    have hSTl : ST.length = rest.length + m2 := by rw [← hST]; simp
    have happ : ∀ i (h : i < rest.length + m2), (rest.drop i ++ List.replicate (m2 - (i - rest.length)) (⟨tick, tick⟩ : Span)).getD 0 default = ST[i]'(by omega) := fun i h => by
      rw [app_getD h]; simp only [hST]
    simp only [hST]
    by_cases hc : 0 < n - 2 * qq + (many - (2 * qq - n)) - most
    rotate_left
    simp only [go_sem, hg, hr, lvP, hc]
    refine CallR.useF (first := []) (args := []) (caps := [.sp g 0, .sp r 0]) (a2 := []) hov rfl ?_
    rintro _ _ ⟨rfl, rfl⟩
    simp only [go_sem, hg, hr, e7, e8]
    rotate_left
    have hz : ¬ 0 < n - 2 * qq := by omega
    simp only [go_sem, hg, hr, lvP, hc, List.length_map, hdl, hz]
    refine CallR.useF (first := []) (args := []) (caps := [.sp g 0, .sp r 0]) (a2 := []) hov rfl ?_
    rintro _ _ ⟨rfl, rfl⟩
    simp only [go_sem, hg, hr, e7, e8]
    all_goals
      refine AWP.tip0 21 2 (by simp only [go_sem]) fun k3 hk3 => ?_
      simp only [freshv_set, freshv_setr] at hk3
      simp only [go_sem]
      refine AWP.iterE (ι := Option Nat) (fun loc3 i => ⟨Env.get [(13, .sp g 0), (18, .ts k 2 loc (outs.map Span.pv)), (20, u64 left), (21, .ts k3 2 loc3 ((ST.take i).map Span.pv))],
        (((S.set (.r g) (.cells [.sp q 0])).set (.v k) (.tip 2 outs.length loc)).set (.r q) (.cells [.p (lvP (rest.drop i)), u64 (m2 - (i - rest.length) : Nat), u64 tick])).set (.v k3) (.tip 2 (ST.take i).length loc3), 90, []⟩) (rest.length + m2) none ?_ ?_ ?_
      · refine le_of (by simp only [go_sem, List.take_zero]) ?_ rfl rfl (by simp)
        ((try dsimp only); (repeat refine sub_set ?_ ?_) <;> first | ((repeat (first | exact Sub.refl _ | refine Sub.setF ?_ (by first | assumption | simp only [*]) | refine Sub.setV ?_ (by first | assumption | simp only [*]))); done) | (simp only [go_sem, hg, hr, hk, hk3, lvP, Nat.zero_sub, Nat.sub_zero, List.drop_zero, List.take_zero, List.length_map]; done) | (simp only [go_sem, hg, hr, hk, hk3, lvP, Nat.zero_sub, Nat.sub_zero, List.drop_zero, List.take_zero, List.length_map]; rfl) | rfl)
      · intro i loc3 hi ih
        refine AWPH.step (xc_ok (bitB 2417851711286854270565407) _ _ _ ?_)
        simp only [go_sem, hg, hk3]
        refine (line_long (b := q) (rest.drop i) (m2 - (i - rest.length)) tick ?_ (by simp; omega)).useA ?_
        · simp only [go_sem, hg, hk3, lvP]
        rintro _ _ ⟨rfl, rfl⟩
        have hp : (rest.drop i).length + (m2 - (i - rest.length)) > 0 := by rw [List.length_drop]; omega
        simp only [go_sem, hg, hk3, hp]
        refine (line_next (b := q) (rest.drop i) (m2 - (i - rest.length)) tick ?_ hp (by rw [List.length_drop]; omega) (by omega)).useA ?_
        · simp only [go_sem, hg, hk3, lvP]
        rintro _ _ ⟨rfl, rfl⟩
        simp only [go_sem, hg, hk3]
        have hi2 : i < ST.length := by omega
        have e3 : (rest.drop i).drop 1 = rest.drop (i + 1) := by rw [List.drop_drop]
        have e4 : m2 - (i - rest.length) - (1 - (rest.drop i).length) = m2 - (i + 1 - rest.length) := by rw [List.length_drop]; omega
        have e5 : List.map Span.pv (ST.take i) ++ [[.int .u64 (ST[i]).a, .int .u64 (ST[i]).b]] = List.map Span.pv (ST.take (i + 1)) := by
          rw [List.take_succ_eq_append_getElem hi2, List.map_append]; rfl
        have hle : (List.take i ST).length ≤ i := by rw [List.length_take]; exact Nat.min_le_left _ _
        simp only [happ i hi, e3, e4]
        refine ⟨by rintro el rfl; rfl, span_len, by omega, by omega, grow_intro fun loc' => ?_⟩
        simp only [go_sem, hg, hk3]
        refine (ih loc').back ?_ (by simp) ?_
        · ((try dsimp only); (repeat refine sub_set ?_ ?_) <;> first | ((repeat (first | exact Sub.refl _ | refine Sub.setF ?_ (by first | assumption | simp only [*]) | refine Sub.setV ?_ (by first | assumption | simp only [*]))); done) | (simp only [go_sem, hg, hk, hk3, e5, lvP, List.length_map]; done) | (simp only [go_sem, hg, hk, hk3, e5, lvP, List.length_map]; rfl) | rfl)
        · simp only [go_sem, e5]
      · intro loc3
        refine AWPH.step (xc_ok (bitB 2417851711286854270565407) _ _ _ ?_)
        simp only [go_sem, hg, hk3]
        refine (line_long (b := q) (rest.drop (rest.length + m2)) (m2 - (rest.length + m2 - rest.length)) tick ?_ (by rw [List.length_drop]; omega)).useA ?_
        · simp only [go_sem, hg, hk3, lvP]
        rintro _ _ ⟨rfl, rfl⟩
        have hp : ¬ (rest.drop (rest.length + m2)).length + (m2 - (rest.length + m2 - rest.length)) > 0 := by rw [List.length_drop]; omega
        simp only [go_sem, hg, hk3, hp, List.take_of_length_le (show ST.length ≤ rest.length + m2 by omega)]
        (refine ⟨S, by (repeat (first | exact Sub.refl _ | refine Sub.setF ?_ (by first | assumption | simp only [*]) | refine Sub.setV ?_ (by first | assumption | simp only [*]))), ?_⟩); simp
end Go.Sk
