/- Texts W5 W6, joined. -/
import Derived.Test.YtmpockfgppcnbaaR10A
import Derived.Test.YtmpockfgppcnbaaSkTp
set_option linter.unusedSimpArgs false
set_option linter.unusedVariables false
set_option linter.unusedSectionVars false
-- W5
section
namespace Go.Sk
open Go Go.Proofs

theorem level_Most (k i : Nat) (hk : k < 1099511627776) : Pure Try.prog 74 [i64 k, i64 i] (i64 (mostN k i : Nat)) := fun S => by
  refine callR_of Try.func74 rfl rfl (xc_ok (bitB 275) _ _ _ ?_)
  have h0 : ¬ (0 : Int) > k := by omega
  simp only [go_sem]
  have e1 : wi ((k : Int) + 1) = (k : Int) + 1 := wi_id (by omega) (by omega)
  have e2 : ((k : Int) + 1).tdiv 2 = (((k + 1) / 2 : Nat) : Int) := by rw [Int.tdiv_eq_ediv_of_nonneg (by omega)]; omega
  have e3 : wi (((k + 1) / 2 : Nat) : Int) = (((k + 1) / 2 : Nat) : Int) := wi_id (by omega) (by omega)
  have e4 : wi ((((k + 1) / 2 : Nat) : Int) + 1) = (((k + 1) / 2 + 1 : Nat) : Int) := by rw [wi_id (by omega) (by omega)]; omega
  by_cases hi : i = 0
  · subst hi
    simp only [go_sem, h0, if_false, e1]
    (refine ⟨S, by (repeat (first | exact Sub.refl _ | refine Sub.setF ?_ (by first | assumption | simp only [*]) | refine Sub.setV ?_ (by first | assumption | simp only [*]))), ?_⟩); simp [mostN]
  · have e0 : (i == 0) = false := by simpa using hi
    simp only [go_sem, h0, if_false, e0, e1, e2, e3, e4]
    refine ⟨by decide, ?_⟩
    (refine ⟨S, by (repeat (first | exact Sub.refl _ | refine Sub.setF ?_ (by first | assumption | simp only [*]) | refine Sub.setV ?_ (by first | assumption | simp only [*]))), ?_⟩); simp [mostN, hi]

theorem ref05_Most (k i : Nat) (hk : k < 1099511627776) : Pure Try.prog 37 [i64 k, i64 i] (i64 (mostN k i : Nat)) := fun S => by
  refine callR_of Try.func37 rfl rfl (xc_ok (bitB 275) _ _ _ ?_)
  have h0 : ¬ (0 : Int) > k := by omega
  simp only [go_sem]
  have e1 : wi ((k : Int) + 1) = (k : Int) + 1 := wi_id (by omega) (by omega)
  have e2 : (k : Int).tdiv 2 = ((k / 2 : Nat) : Int) := by rw [Int.tdiv_eq_ediv_of_nonneg (by omega)]; omega
  have e2' : (k : Int).tmod 2 = ((k % 2 : Nat) : Int) := by rw [Int.tmod_eq_emod_of_nonneg (by omega)]; omega
  have e3 : wi ((k / 2 : Nat) : Int) = ((k / 2 : Nat) : Int) := wi_id (by omega) (by omega)
  have e4 : wi (((k / 2 : Nat) : Int) + ((k % 2 : Nat) : Int)) = (((k / 2 + k % 2 : Nat) : Nat) : Int) := by rw [wi_id (by omega) (by omega)]; omega
  have e5 : wi ((((k / 2 + k % 2 : Nat)) : Int) + 1) = (((k + 1) / 2 + 1 : Nat) : Int) := by rw [wi_id (by omega) (by omega)]; omega
  by_cases hi : i = 0
  · subst hi
    simp only [go_sem, h0, if_false, e1]
    (refine ⟨S, by (repeat (first | exact Sub.refl _ | refine Sub.setF ?_ (by first | assumption | simp only [*]) | refine Sub.setV ?_ (by first | assumption | simp only [*]))), ?_⟩); simp [mostN]
  · have e0 : (i == 0) = false := by simpa using hi
    simp only [go_sem, h0, if_false, e0, e2, e2', e3, e4, e5]
    refine ⟨by decide, by decide, ?_⟩
    (refine ⟨S, by (repeat (first | exact Sub.refl _ | refine Sub.setF ?_ (by first | assumption | simp only [*]) | refine Sub.setV ?_ (by first | assumption | simp only [*]))), ?_⟩); simp [mostN, hi]

theorem bounded_int (n m : Int) : Pure Try.prog 90 [i64 n, i64 m] (i64 (if n < m then m else n)) := fun S => by
  refine callR_of Try.func90 rfl rfl (xc_ok (bitB 147) _ _ _ ?_)
  simp only [go_sem]
  (first | refine dec_split (fun h => ?_) (fun h => ?_) | refine gdd_split (fun h => ?_) (fun h => ?_) | refine bool_split (fun h => ?_) (fun h => ?_) | refine gd_split (fun h => ?_) (fun h => ?_)) <;> simp only [go_sem] <;> (refine ⟨S, by (repeat (first | exact Sub.refl _ | refine Sub.setF ?_ (by first | assumption | simp only [*]) | refine Sub.setV ?_ (by first | assumption | simp only [*]))), ?_⟩) <;> simp [h]
theorem bounded_u64 (n m : Nat) : Pure Try.prog 92 [u64 n, u64 m] (u64 (if n < m then m else n)) := fun S => by
  refine callR_of Try.func92 rfl rfl (xc_ok (bitB 147) _ _ _ ?_)
  simp only [go_sem]
  (first | refine dec_split (fun h => ?_) (fun h => ?_) | refine gdd_split (fun h => ?_) (fun h => ?_) | refine bool_split (fun h => ?_) (fun h => ?_) | refine gd_split (fun h => ?_) (fun h => ?_)) <;> simp only [go_sem] <;> (refine ⟨S, by (repeat (first | exact Sub.refl _ | refine Sub.setF ?_ (by first | assumption | simp only [*]) | refine Sub.setV ?_ (by first | assumption | simp only [*]))), ?_⟩) <;> simp [h]
theorem level_both (s t : Span) : Pure Try.prog 95 [s.av, t.av] (Span.mk s.a t.b).av := fun S => by
  refine callR_of Try.func95 rfl rfl (xc_ok (bitB 31) _ _ _ ?_)
  simp only [go_sem]
  refine alloc_intro fun b hb => ?_
  simp only [go_sem]
  refine alloc_intro fun c hc => ?_
  simp only [fresh_set] at hc
  simp only [go_sem, hc]
  refine alloc_intro fun d hd => ?_
  simp only [fresh_set] at hd
  simp only [go_sem, hc, hd]
  (refine ⟨S, by (repeat (first | exact Sub.refl _ | refine Sub.setF ?_ (by first | assumption | simp only [*]) | refine Sub.setV ?_ (by first | assumption | simp only [*]))), ?_⟩); simp [Span.av, Span.pv]

theorem span_len {l : List Span} : ∀ el ∈ l.map Span.pv, el.length = 2 := by
  intro el h; obtain ⟨x, _, rfl⟩ := List.mem_map.1 h; rfl

theorem line_long {S : Store} {b : Nat} (l : List Span) (many tick : Nat) (hb : S (.r b) = some (.cells [.p (lvP l), u64 many, u64 tick])) (hn : l.length + many < 18446744073709551616) :
    CallR Try.prog 93 [.sp b 0] S (fun r S' => r = u64 (l.length + many) ∧ S' = S) := by
  refine callR_of Try.func93 rfl rfl (xc_ok (bitB 5) _ _ _ ?_)
  simp only [go_sem]
  refine AWP.draw2 (bitB 5) mixed (by kernel_rfl) (fun i => bl false) ?_
  simp only [go_sem, hb, lvP]
  have e : m64 (m64 l.length + many) = l.length + many := by rw [m64_id (show l.length < 18446744073709551616 by omega), m64_id hn]
  (refine ⟨S, by (repeat (first | exact Sub.refl _ | refine Sub.setF ?_ (by first | assumption | simp only [*]) | refine Sub.setV ?_ (by first | assumption | simp only [*]))), ?_⟩); simp [e]

theorem line_next {S : Store} {b : Nat} (l : List Span) (many tick : Nat) (hb : S (.r b) = some (.cells [.p (lvP l), u64 many, u64 tick])) (hn : 0 < l.length + many) (hl : l.length < 4611686018427387904) (hm : many < 18446744073709551616) :
    CallR Try.prog 94 [.sp b 0] S (fun r S' => r = (((l ++ List.replicate many (⟨tick, tick⟩ : Span)).getD 0 default).av) ∧ S' = S.set (.r b) (.cells [.p (lvP (l.drop 1)), u64 (many - (1 - l.length) : Nat), u64 tick])) := by
  refine callR_of Try.func94 rfl rfl (xc_ok (bitB 525) _ _ _ ?_)
  simp only [go_sem]
  refine alloc_intro fun c hc => ?_
  have n1 := hc.ne hb
  simp only [go_sem, hb, n1]
  cases l with
  | nil =>
    simp only [go_sem, lvP, hb, n1]
    refine AWP.draw2 (bitB 525) mixed (by kernel_rfl) (fun i => bl false) ?_
    simp only [go_sem, hb, n1]
    have e1 : sub64 many 1 = many - 1 := by
      have : 0 < many := by simpa using hn
      rw [sub64_eq]; omega
    have hm0 : 0 < many := by simpa using hn
    obtain ⟨m, rfl⟩ : ∃ m, many = m + 1 := ⟨many - 1, by omega⟩
    refine ⟨S.set (.r b) (.cells [.p (.sl []), u64 (m + 1 - 1 : Nat), u64 tick]), ?_, Or.inl ⟨?_, rfl⟩⟩
    · rw [e1]; (repeat (first | exact Sub.refl _ | refine Sub.both ?_ _ _ | refine Sub.set ?_ (by simp_all [Store.set, Fresh, FreshV]) _))
    · rfl
  | cons s l =>
    simp only [go_sem, lvP, hb, n1]
    refine alloc_intro fun d hd => ?_
    simp only [fresh_set] at hd
    have n2 := hd.2.ne hb
    simp only [go_sem, hb, n1, hd, n2, lvP]
    refine ⟨?_, by omega, by omega, ?_⟩
    · intro el h
      rcases h with rfl | h
      · rfl
      · exact span_len el h
    have e2 : List.take (l.length + 1 - 1) (List.map Span.pv l) = List.map Span.pv l := List.take_of_length_le (by simp)
    rw [e2]
    refine ⟨S.set (.r b) (.cells [.p (lvP l), u64 many, u64 tick]), ?_, by simp [lvP]⟩
    (repeat (first | exact Sub.refl _ | refine Sub.both ?_ _ _ | refine Sub.set ?_ (by simp_all [Store.set, Fresh, FreshV]) _))

theorem push_over {S : Store} {b r : Nat} (l : List Span) (many tick room : Nat) (hb : S (.r b) = some (.cells [.p (lvP l), u64 many, u64 tick])) (hr : S (.r r) = some (.cells [u64 room]))
    (hn : l.length + many < 18446744073709551616) (hroom : room < 18446744073709551616) {q : Nat} (hq : S (.r q) = some (.cells [.sp b 0])) :
    CallR Try.prog 91 [.sp q 0, .sp r 0] S (fun x S' => x = u64 (l.length + many - room) ∧ S' = S) := by
  refine callR_of Try.func91 rfl rfl (xc_ok (bitB 7) _ _ _ ?_)
  simp only [go_sem]
  refine AWP.draw2 (bitB 7) mixed (by kernel_rfl) (fun i => if i = 1 then u64 (l.length + many) else u64 (if l.length + many < room then room else l.length + many)) ?_
  simp only [go_sem, hb, hr, hq]
  refine ⟨fun S1 hS => line_long l many tick (hS _ _ hb) hn, (bounded_u64 _ _).draw, ?_⟩
  (refine ⟨S, by (repeat (first | exact Sub.refl _ | refine Sub.setF ?_ (by first | assumption | simp only [*]) | refine Sub.setV ?_ (by first | assumption | simp only [*]))), ?_⟩)
  have e : sub64 (if l.length + many < room then room else l.length + many) room = l.length + many - room := by rw [sub64_eq]; split <;> omega
  simp [e]

end Go.Sk
end

-- W6
section
namespace Go.Sk
open Go Go.Proofs

theorem lvE_mk (l : List Span) : lvE l = [.sl (l.map Span.pv)] := rfl
theorem lvE_len {ls : List (List Span)} : ∀ el ∈ ls.map lvE, el.length = 1 := by
  intro el h; obtain ⟨x, _, rfl⟩ := List.mem_map.1 h; rfl

theorem hist_Last (k g : Int) (ls : List (List Span)) (hl : ∀ l ∈ ls, l.length < 1099511627776) : Pure Try.prog 53 [(Hist.mk k g ls).av] (.tuple [u64 (lastV ls).1, bl (lastV ls).2]) := fun S => by
  refine callR_of Try.func53 rfl rfl (xc_ok (bitB 65567) _ _ _ ?_)
  simp only [go_sem]
  refine alloc_intro fun b hb => ?_
  simp only [go_sem]
  cases ls with
  | nil =>
    simp only [go_sem, List.map_nil]
    (refine ⟨S, by (repeat (first | exact Sub.refl _ | refine Sub.setF ?_ (by first | assumption | simp only [*]) | refine Sub.setV ?_ (by first | assumption | simp only [*]))), ?_⟩); simp [lastV]
  | cons l ls =>
    cases l with
    | nil =>
      simp only [go_sem, lvE_mk]
      (refine ⟨S, by (repeat (first | exact Sub.refl _ | refine Sub.setF ?_ (by first | assumption | simp only [*]) | refine Sub.setV ?_ (by first | assumption | simp only [*]))), ?_⟩); simp [lastV]
    | cons s l =>
      have hlen := hl _ (List.mem_cons_self ..)
      have e5 : wi ((l.length + 1 : Nat) - 1 : Int) = ((l.length : Nat) : Int) := by
        simp at hlen
        rw [wi_id (by omega) (by omega)]; omega
      have e7 : ([PV.int .u64 s.a, .int .u64 s.b] :: List.map Span.pv l).getD l.length [] = ((s :: l).getLast (by simp)).pv := by
        rw [show [PV.int .u64 s.a, .int .u64 s.b] = s.pv from rfl, ← List.map_cons, getD_map' _ _ _ _ (by simp), List.getLast_eq_getElem]; rfl
      have e8 : lastV ((s :: l) :: ls) = (((s :: l).getLast (by simp)).b, true) := by
        simp only [lastV, List.getLast?_eq_some_getLast (show s :: l ≠ [] by simp)]
      simp only [go_sem, lvE_mk, e5, e7, e8]
      (refine ⟨S, by (repeat (first | exact Sub.refl _ | refine Sub.setF ?_ (by first | assumption | simp only [*]) | refine Sub.setV ?_ (by first | assumption | simp only [*]))), ?_⟩); simp

theorem ref06_Last (k g : Int) (ls : List (List Span)) (hl : ∀ l ∈ ls, l.length < 1099511627776) : Pure Try.prog 61 [(Hist.mk k g ls).av] (.tuple [u64 (lastV ls).1, bl (lastV ls).2]) := fun S => by
  refine callR_of Try.func61 rfl rfl (xc_ok (bitB 65567) _ _ _ ?_)
  simp only [go_sem]
  refine alloc_intro fun b hb => ?_
  simp only [go_sem]
  cases ls with
  | nil =>
    simp only [go_sem, List.map_nil]
    (refine ⟨S, by (repeat (first | exact Sub.refl _ | refine Sub.setF ?_ (by first | assumption | simp only [*]) | refine Sub.setV ?_ (by first | assumption | simp only [*]))), ?_⟩); simp [lastV]
  | cons l ls =>
    cases l with
    | nil =>
      simp only [go_sem, lvE_mk]
      (refine ⟨S, by (repeat (first | exact Sub.refl _ | refine Sub.setF ?_ (by first | assumption | simp only [*]) | refine Sub.setV ?_ (by first | assumption | simp only [*]))), ?_⟩); simp [lastV]
    | cons s l =>
      have hlen := hl _ (List.mem_cons_self ..)
      have e5 : wi ((l.length + 1 : Nat) - 1 : Int) = ((l.length : Nat) : Int) := by
        simp at hlen
        rw [wi_id (by omega) (by omega)]; omega
      have e7 : ([PV.int .u64 s.a, .int .u64 s.b] :: List.map Span.pv l).getD l.length [] = ((s :: l).getLast (by simp)).pv := by
        rw [show [PV.int .u64 s.a, .int .u64 s.b] = s.pv from rfl, ← List.map_cons, getD_map' _ _ _ _ (by simp), List.getLast_eq_getElem]; rfl
      have e8 : lastV ((s :: l) :: ls) = (((s :: l).getLast (by simp)).b, true) := by
        simp only [lastV, List.getLast?_eq_some_getLast (show s :: l ≠ [] by simp)]
      simp only [go_sem, lvE_mk, e5, e7, e8]
      (refine ⟨S, by (repeat (first | exact Sub.refl _ | refine Sub.setF ?_ (by first | assumption | simp only [*]) | refine Sub.setV ?_ (by first | assumption | simp only [*]))), ?_⟩); simp

theorem hist_Total (k g : Int) (ls : List (List Span)) (hl : ls.length < 1099511627776) : Pure Try.prog 19 [(Hist.mk k g ls).av] (u64 (totV ls)) := fun S => by
  refine callR_of Try.func19 rfl rfl (xc_ok (bitB 1983) _ _ _ ?_)
  simp only [go_sem]
  refine alloc_intro fun b hb => ?_
  simp only [go_sem]
  refine AWP.iter (fun i => ⟨Env.get [(3, u64 (totF 0 0 (ls.take i))), (7, .p (.sl (ls.map lvE))), (8, i64 ls.length), (9, i64 i)], S, 23, []⟩) ls.length ?_ ?_ ?_
  · exact le_of (by simp only [go_sem]; simp [totF]) ((Sub.refl S).setF hb) rfl rfl (by simp)
  · intro i hi ih
    refine AWPH.step (xc_ok (bitB 1983) _ _ _ ?_)
    simp only [go_sem, hi, ltN' hi, getD_map' _ _ _ _ hi, lvE_mk]
    refine ih.back (by (repeat (first | exact Sub.refl _ | refine Sub.setF ?_ (by first | assumption | simp only [*]) | refine Sub.setV ?_ (by first | assumption | simp only [*])))) (by simp) ?_
    simp only [go_sem, totF_take ls i hi, wi_succ (show i < 4611686018427387904 by omega)]
  · refine AWPH.step (xc_ok (bitB 1983) _ _ _ ?_)
    simp only [go_sem, List.take_length]
    (refine ⟨S, by (repeat (first | exact Sub.refl _ | refine Sub.setF ?_ (by first | assumption | simp only [*]) | refine Sub.setV ?_ (by first | assumption | simp only [*]))), ?_⟩); simp [totV]

theorem ref06_Total (k g : Int) (ls : List (List Span)) (hl : ls.length < 1099511627776) : Pure Try.prog 18 [(Hist.mk k g ls).av] (u64 (totV ls)) := fun S => by
  refine callR_of Try.func18 rfl rfl (xc_ok (bitB 543) _ _ _ ?_)
  simp only [go_sem]
  refine alloc_intro fun b hb => ?_
  simp only [go_sem]
  refine AWP.iter (fun i => ⟨Env.get [(1, .sp b 0), (3, u64 (totF 0 0 (ls.take i))), (4, i64 i)], S.set (.r b) (.cells [i64 k, i64 g, .p (.sl (ls.map lvE))]), 24, []⟩) ls.length ?_ ?_ ?_
  · exact le_of (by simp only [go_sem]; simp [totF]) (Sub.refl _) rfl rfl (by simp)
  · intro i hi ih
    refine AWPH.step (xc_ok (bitB 543) _ _ _ ?_)
    simp only [go_sem, hi, ltN' hi, getD_map' _ _ _ _ hi, lvE_mk]
    refine ih.back (by (repeat (first | exact Sub.refl _ | refine Sub.setF ?_ (by first | assumption | simp only [*]) | refine Sub.setV ?_ (by first | assumption | simp only [*])))) (by simp) ?_
    simp only [go_sem, totF_take ls i hi, wi_succ (show i < 4611686018427387904 by omega)]
  · refine AWPH.step (xc_ok (bitB 543) _ _ _ ?_)
    simp only [go_sem, List.take_length]
    (refine ⟨S, by (repeat (first | exact Sub.refl _ | refine Sub.setF ?_ (by first | assumption | simp only [*]) | refine Sub.setV ?_ (by first | assumption | simp only [*]))), ?_⟩); simp [totV]

theorem ref06_at (k g : Int) (ls : List (List Span)) (i : Nat) : Pure Try.prog 63 [(Hist.mk k g ls).av, i64 i] (.p (lvP (ls.getD i []))) := fun S => by
  refine callR_of Try.func63 rfl rfl (xc_ok (bitB 535) _ _ _ ?_)
  simp only [go_sem]
  refine alloc_intro fun b hb => ?_
  by_cases hi : i < ls.length
  · simp only [go_sem, show ¬ ((i : Int) ≥ (ls.length : Int)) by omega, ltN' hi, hi, getD_map' _ _ _ _ hi, lvE_mk]
    (refine ⟨S, by (repeat (first | exact Sub.refl _ | refine Sub.setF ?_ (by first | assumption | simp only [*]) | refine Sub.setV ?_ (by first | assumption | simp only [*]))), ?_⟩); simp [lvP, List.getD_eq_getElem?_getD, hi]
  · simp only [go_sem, show ((i : Int) ≥ (ls.length : Int)) by omega]
    (refine ⟨S, by (repeat (first | exact Sub.refl _ | refine Sub.setF ?_ (by first | assumption | simp only [*]) | refine Sub.setV ?_ (by first | assumption | simp only [*]))), ?_⟩); simp [lvP, List.getD_eq_getElem?_getD, List.getElem?_eq_none (show ls.length ≤ i by omega)]

theorem ref06_May (k : Int) : Pure Try.prog 35 [i64 k] (bl (decide (k ≥ 2) && decide (k ≤ 1024))) := fun S => by
  refine callR_of Try.func35 rfl rfl (xc_ok (bitB 5) _ _ _ ?_)
  simp only [go_sem]
  by_cases h1 : k ≥ 2
  · simp only [go_sem, h1]
    (refine ⟨S, by (repeat (first | exact Sub.refl _ | refine Sub.setF ?_ (by first | assumption | simp only [*]) | refine Sub.setV ?_ (by first | assumption | simp only [*]))), ?_⟩); simp [h1]
  · simp only [go_sem, h1]
    (refine ⟨S, by (repeat (first | exact Sub.refl _ | refine Sub.setF ?_ (by first | assumption | simp only [*]) | refine Sub.setV ?_ (by first | assumption | simp only [*]))), ?_⟩); simp [h1]
end Go.Sk
end
