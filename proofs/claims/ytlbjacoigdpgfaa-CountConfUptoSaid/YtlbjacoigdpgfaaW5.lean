/- Walks: buckets of one size. -/
import Derived.Test.YtlbjacoigdpgfaaWMx
import Derived.Test.YtlbjacoigdpgfaaA5
import Derived.Test.YtlbjacoigdpgfaaSkTp
set_option linter.unusedSimpArgs false
set_option linter.unusedVariables false
set_option linter.unusedSectionVars false
namespace Go.Sk
open Go Go.Proofs

theorem level_Most (k i : Nat) (hk : k < 1099511627776) : Pure Try.prog 91 [i64 k, i64 i] (i64 (mostN k i : Nat)) := fun S => by
  refine callR_of Try.func91 rfl rfl (xc_ok (bitB 275) _ _ _ ?_)
  have h0 : ¬ (0 : Int) > k := by omega
  simp only [go_sem, decide_true, decide_false, Nat.lt_irrefl]
  have e1 : wi ((k : Int) + 1) = (k : Int) + 1 := wi_id (by omega) (by omega)
  have e2 : ((k : Int) + 1).tdiv 2 = (((k + 1) / 2 : Nat) : Int) := by rw [Int.tdiv_eq_ediv_of_nonneg (by omega)]; omega
  have e3 : wi (((k + 1) / 2 : Nat) : Int) = (((k + 1) / 2 : Nat) : Int) := wi_id (by omega) (by omega)
  have e4 : wi ((((k + 1) / 2 : Nat) : Int) + 1) = (((k + 1) / 2 + 1 : Nat) : Int) := by rw [wi_id (by omega) (by omega)]; omega
  by_cases hi : i = 0
  · subst hi
    simp only [go_sem, decide_true, decide_false, Nat.lt_irrefl, h0, if_false, e1]
    (refine ⟨S, by (repeat (first | exact Sub.refl _ | refine Sub.setF ?_ (by first | assumption | exact And.right (by assumption) | exact And.right (And.right (by assumption)) | exact And.right (And.right (And.right (by assumption))) | exact And.right (And.right (And.right (And.right (by assumption)))) | exact And.right (And.right (And.right (And.right (And.right (by assumption))))) | exact And.right (And.right (And.right (And.right (And.right (And.right (by assumption)))))) | exact And.right (And.right (And.right (And.right (And.right (And.right (And.right (by assumption))))))) | exact And.right (And.right (And.right (And.right (And.right (And.right (And.right (And.right (by assumption)))))))) | exact And.right (And.right (And.right (And.right (And.right (And.right (And.right (And.right (And.right (by assumption)))))))))) | refine Sub.setV ?_ (by first | assumption | exact And.right (by assumption) | exact And.right (And.right (by assumption)) | exact And.right (And.right (And.right (by assumption))) | exact And.right (And.right (And.right (And.right (by assumption)))) | exact And.right (And.right (And.right (And.right (And.right (by assumption))))) | exact And.right (And.right (And.right (And.right (And.right (And.right (by assumption)))))) | exact And.right (And.right (And.right (And.right (And.right (And.right (And.right (by assumption))))))) | exact And.right (And.right (And.right (And.right (And.right (And.right (And.right (And.right (by assumption)))))))) | exact And.right (And.right (And.right (And.right (And.right (And.right (And.right (And.right (And.right (by assumption)))))))))))), ?_⟩); simp [mostN]
  · have e0 : (i == 0) = false := by simpa using hi
    simp only [go_sem, decide_true, decide_false, Nat.lt_irrefl, h0, if_false, e0, e1, e2, e3, e4]
    refine ⟨by decide, ?_⟩
    (refine ⟨S, by (repeat (first | exact Sub.refl _ | refine Sub.setF ?_ (by first | assumption | exact And.right (by assumption) | exact And.right (And.right (by assumption)) | exact And.right (And.right (And.right (by assumption))) | exact And.right (And.right (And.right (And.right (by assumption)))) | exact And.right (And.right (And.right (And.right (And.right (by assumption))))) | exact And.right (And.right (And.right (And.right (And.right (And.right (by assumption)))))) | exact And.right (And.right (And.right (And.right (And.right (And.right (And.right (by assumption))))))) | exact And.right (And.right (And.right (And.right (And.right (And.right (And.right (And.right (by assumption)))))))) | exact And.right (And.right (And.right (And.right (And.right (And.right (And.right (And.right (And.right (by assumption)))))))))) | refine Sub.setV ?_ (by first | assumption | exact And.right (by assumption) | exact And.right (And.right (by assumption)) | exact And.right (And.right (And.right (by assumption))) | exact And.right (And.right (And.right (And.right (by assumption)))) | exact And.right (And.right (And.right (And.right (And.right (by assumption))))) | exact And.right (And.right (And.right (And.right (And.right (And.right (by assumption)))))) | exact And.right (And.right (And.right (And.right (And.right (And.right (And.right (by assumption))))))) | exact And.right (And.right (And.right (And.right (And.right (And.right (And.right (And.right (by assumption)))))))) | exact And.right (And.right (And.right (And.right (And.right (And.right (And.right (And.right (And.right (by assumption)))))))))))), ?_⟩); simp [mostN, hi]

theorem ref05_Most (k i : Nat) (hk : k < 1099511627776) : Pure Try.prog 85 [i64 k, i64 i] (i64 (mostN k i : Nat)) := fun S => by
  refine callR_of Try.func85 rfl rfl (xc_ok (bitB 275) _ _ _ ?_)
  have h0 : ¬ (0 : Int) > k := by omega
  simp only [go_sem, decide_true, decide_false, Nat.lt_irrefl]
  have e1 : wi ((k : Int) + 1) = (k : Int) + 1 := wi_id (by omega) (by omega)
  have e2 : (k : Int).tdiv 2 = ((k / 2 : Nat) : Int) := by rw [Int.tdiv_eq_ediv_of_nonneg (by omega)]; omega
  have e2' : (k : Int).tmod 2 = ((k % 2 : Nat) : Int) := by rw [Int.tmod_eq_emod_of_nonneg (by omega)]; omega
  have e3 : wi ((k / 2 : Nat) : Int) = ((k / 2 : Nat) : Int) := wi_id (by omega) (by omega)
  have e4 : wi (((k / 2 : Nat) : Int) + ((k % 2 : Nat) : Int)) = (((k / 2 + k % 2 : Nat) : Nat) : Int) := by rw [wi_id (by omega) (by omega)]; omega
  have e5 : wi ((((k / 2 + k % 2 : Nat)) : Int) + 1) = (((k + 1) / 2 + 1 : Nat) : Int) := by rw [wi_id (by omega) (by omega)]; omega
  by_cases hi : i = 0
  · subst hi
    simp only [go_sem, decide_true, decide_false, Nat.lt_irrefl, h0, if_false, e1]
    (refine ⟨S, by (repeat (first | exact Sub.refl _ | refine Sub.setF ?_ (by first | assumption | exact And.right (by assumption) | exact And.right (And.right (by assumption)) | exact And.right (And.right (And.right (by assumption))) | exact And.right (And.right (And.right (And.right (by assumption)))) | exact And.right (And.right (And.right (And.right (And.right (by assumption))))) | exact And.right (And.right (And.right (And.right (And.right (And.right (by assumption)))))) | exact And.right (And.right (And.right (And.right (And.right (And.right (And.right (by assumption))))))) | exact And.right (And.right (And.right (And.right (And.right (And.right (And.right (And.right (by assumption)))))))) | exact And.right (And.right (And.right (And.right (And.right (And.right (And.right (And.right (And.right (by assumption)))))))))) | refine Sub.setV ?_ (by first | assumption | exact And.right (by assumption) | exact And.right (And.right (by assumption)) | exact And.right (And.right (And.right (by assumption))) | exact And.right (And.right (And.right (And.right (by assumption)))) | exact And.right (And.right (And.right (And.right (And.right (by assumption))))) | exact And.right (And.right (And.right (And.right (And.right (And.right (by assumption)))))) | exact And.right (And.right (And.right (And.right (And.right (And.right (And.right (by assumption))))))) | exact And.right (And.right (And.right (And.right (And.right (And.right (And.right (And.right (by assumption)))))))) | exact And.right (And.right (And.right (And.right (And.right (And.right (And.right (And.right (And.right (by assumption)))))))))))), ?_⟩); simp [mostN]
  · have e0 : (i == 0) = false := by simpa using hi
    simp only [go_sem, decide_true, decide_false, Nat.lt_irrefl, h0, if_false, e0, e2, e2', e3, e4, e5]
    refine ⟨by decide, by decide, ?_⟩
    (refine ⟨S, by (repeat (first | exact Sub.refl _ | refine Sub.setF ?_ (by first | assumption | exact And.right (by assumption) | exact And.right (And.right (by assumption)) | exact And.right (And.right (And.right (by assumption))) | exact And.right (And.right (And.right (And.right (by assumption)))) | exact And.right (And.right (And.right (And.right (And.right (by assumption))))) | exact And.right (And.right (And.right (And.right (And.right (And.right (by assumption)))))) | exact And.right (And.right (And.right (And.right (And.right (And.right (And.right (by assumption))))))) | exact And.right (And.right (And.right (And.right (And.right (And.right (And.right (And.right (by assumption)))))))) | exact And.right (And.right (And.right (And.right (And.right (And.right (And.right (And.right (And.right (by assumption)))))))))) | refine Sub.setV ?_ (by first | assumption | exact And.right (by assumption) | exact And.right (And.right (by assumption)) | exact And.right (And.right (And.right (by assumption))) | exact And.right (And.right (And.right (And.right (by assumption)))) | exact And.right (And.right (And.right (And.right (And.right (by assumption))))) | exact And.right (And.right (And.right (And.right (And.right (And.right (by assumption)))))) | exact And.right (And.right (And.right (And.right (And.right (And.right (And.right (by assumption))))))) | exact And.right (And.right (And.right (And.right (And.right (And.right (And.right (And.right (by assumption)))))))) | exact And.right (And.right (And.right (And.right (And.right (And.right (And.right (And.right (And.right (by assumption)))))))))))), ?_⟩); simp [mostN, hi]

theorem bounded_int (n m : Int) : Pure Try.prog 92 [i64 n, i64 m] (i64 (if n < m then m else n)) := fun S => by
  refine callR_of Try.func92 rfl rfl (xc_ok (bitB 147) _ _ _ ?_)
  simp only [go_sem, decide_true, decide_false, Nat.lt_irrefl]
  (first | refine dec_split (fun h => ?_) (fun h => ?_) | refine gdd_split (fun h => ?_) (fun h => ?_) | refine bool_split (fun h => ?_) (fun h => ?_) | refine gd_split (fun h => ?_) (fun h => ?_)) <;> simp only [go_sem, decide_true, decide_false, Nat.lt_irrefl] <;> (refine ⟨S, by (repeat (first | exact Sub.refl _ | refine Sub.setF ?_ (by first | assumption | exact And.right (by assumption) | exact And.right (And.right (by assumption)) | exact And.right (And.right (And.right (by assumption))) | exact And.right (And.right (And.right (And.right (by assumption)))) | exact And.right (And.right (And.right (And.right (And.right (by assumption))))) | exact And.right (And.right (And.right (And.right (And.right (And.right (by assumption)))))) | exact And.right (And.right (And.right (And.right (And.right (And.right (And.right (by assumption))))))) | exact And.right (And.right (And.right (And.right (And.right (And.right (And.right (And.right (by assumption)))))))) | exact And.right (And.right (And.right (And.right (And.right (And.right (And.right (And.right (And.right (by assumption)))))))))) | refine Sub.setV ?_ (by first | assumption | exact And.right (by assumption) | exact And.right (And.right (by assumption)) | exact And.right (And.right (And.right (by assumption))) | exact And.right (And.right (And.right (And.right (by assumption)))) | exact And.right (And.right (And.right (And.right (And.right (by assumption))))) | exact And.right (And.right (And.right (And.right (And.right (And.right (by assumption)))))) | exact And.right (And.right (And.right (And.right (And.right (And.right (And.right (by assumption))))))) | exact And.right (And.right (And.right (And.right (And.right (And.right (And.right (And.right (by assumption)))))))) | exact And.right (And.right (And.right (And.right (And.right (And.right (And.right (And.right (And.right (by assumption)))))))))))), ?_⟩) <;> simp [h]
theorem bounded_u64 (n m : Nat) : Pure Try.prog 94 [u64 n, u64 m] (u64 (if n < m then m else n)) := fun S => by
  refine callR_of Try.func94 rfl rfl (xc_ok (bitB 147) _ _ _ ?_)
  simp only [go_sem, decide_true, decide_false, Nat.lt_irrefl]
  (first | refine dec_split (fun h => ?_) (fun h => ?_) | refine gdd_split (fun h => ?_) (fun h => ?_) | refine bool_split (fun h => ?_) (fun h => ?_) | refine gd_split (fun h => ?_) (fun h => ?_)) <;> simp only [go_sem, decide_true, decide_false, Nat.lt_irrefl] <;> (refine ⟨S, by (repeat (first | exact Sub.refl _ | refine Sub.setF ?_ (by first | assumption | exact And.right (by assumption) | exact And.right (And.right (by assumption)) | exact And.right (And.right (And.right (by assumption))) | exact And.right (And.right (And.right (And.right (by assumption)))) | exact And.right (And.right (And.right (And.right (And.right (by assumption))))) | exact And.right (And.right (And.right (And.right (And.right (And.right (by assumption)))))) | exact And.right (And.right (And.right (And.right (And.right (And.right (And.right (by assumption))))))) | exact And.right (And.right (And.right (And.right (And.right (And.right (And.right (And.right (by assumption)))))))) | exact And.right (And.right (And.right (And.right (And.right (And.right (And.right (And.right (And.right (by assumption)))))))))) | refine Sub.setV ?_ (by first | assumption | exact And.right (by assumption) | exact And.right (And.right (by assumption)) | exact And.right (And.right (And.right (by assumption))) | exact And.right (And.right (And.right (And.right (by assumption)))) | exact And.right (And.right (And.right (And.right (And.right (by assumption))))) | exact And.right (And.right (And.right (And.right (And.right (And.right (by assumption)))))) | exact And.right (And.right (And.right (And.right (And.right (And.right (And.right (by assumption))))))) | exact And.right (And.right (And.right (And.right (And.right (And.right (And.right (And.right (by assumption)))))))) | exact And.right (And.right (And.right (And.right (And.right (And.right (And.right (And.right (And.right (by assumption)))))))))))), ?_⟩) <;> simp [h]
theorem level_both (s t : Span) : Pure Try.prog 97 [s.av, t.av] (Span.mk s.a t.b).av := fun S => by
  refine callR_of Try.func97 rfl rfl (xc_ok (bitB 31) _ _ _ ?_)
  simp only [go_sem, decide_true, decide_false, Nat.lt_irrefl]
  refine alloc_intro fun b hb => ?_
  simp only [go_sem, decide_true, decide_false, Nat.lt_irrefl]
  refine alloc_intro fun c hc => ?_
  simp only [fresh_set] at hc
  simp only [go_sem, decide_true, decide_false, Nat.lt_irrefl, hc]
  refine alloc_intro fun d hd => ?_
  simp only [fresh_set] at hd
  simp only [go_sem, decide_true, decide_false, Nat.lt_irrefl, hc, hd]
  (refine ⟨S, by (repeat (first | exact Sub.refl _ | refine Sub.setF ?_ (by first | assumption | exact And.right (by assumption) | exact And.right (And.right (by assumption)) | exact And.right (And.right (And.right (by assumption))) | exact And.right (And.right (And.right (And.right (by assumption)))) | exact And.right (And.right (And.right (And.right (And.right (by assumption))))) | exact And.right (And.right (And.right (And.right (And.right (And.right (by assumption)))))) | exact And.right (And.right (And.right (And.right (And.right (And.right (And.right (by assumption))))))) | exact And.right (And.right (And.right (And.right (And.right (And.right (And.right (And.right (by assumption)))))))) | exact And.right (And.right (And.right (And.right (And.right (And.right (And.right (And.right (And.right (by assumption)))))))))) | refine Sub.setV ?_ (by first | assumption | exact And.right (by assumption) | exact And.right (And.right (by assumption)) | exact And.right (And.right (And.right (by assumption))) | exact And.right (And.right (And.right (And.right (by assumption)))) | exact And.right (And.right (And.right (And.right (And.right (by assumption))))) | exact And.right (And.right (And.right (And.right (And.right (And.right (by assumption)))))) | exact And.right (And.right (And.right (And.right (And.right (And.right (And.right (by assumption))))))) | exact And.right (And.right (And.right (And.right (And.right (And.right (And.right (And.right (by assumption)))))))) | exact And.right (And.right (And.right (And.right (And.right (And.right (And.right (And.right (And.right (by assumption)))))))))))), ?_⟩); simp [Span.av, Span.pv]

theorem span_len {l : List Span} : ∀ el ∈ l.map Span.pv, el.length = 2 := by
  intro el h; obtain ⟨x, _, rfl⟩ := List.mem_map.1 h; rfl

theorem line_long {S : Store} {b : Nat} (l : List Span) (many tick : Nat) (hb : S (.r b) = some (.cells [.p (lvP l), u64 many, u64 tick])) (hn : l.length + many < 18446744073709551616) :
    CallR Try.prog 95 [.sp b 0] S (fun r S' => r = u64 (l.length + many) ∧ S' = S) := by
  refine callR_of Try.func95 rfl rfl (xc_ok (bitB 5) _ _ _ ?_)
  simp only [go_sem, decide_true, decide_false, Nat.lt_irrefl]
  refine AWP.draw2 (bitB 5) mixed (by kernel_rfl) (fun i => bl false) ?_
  simp only [go_sem, decide_true, decide_false, Nat.lt_irrefl, hb, lvP]
  have e : m64 (m64 l.length + many) = l.length + many := by rw [m64_id (show l.length < 18446744073709551616 by omega), m64_id hn]
  (refine ⟨S, by (repeat (first | exact Sub.refl _ | refine Sub.setF ?_ (by first | assumption | exact And.right (by assumption) | exact And.right (And.right (by assumption)) | exact And.right (And.right (And.right (by assumption))) | exact And.right (And.right (And.right (And.right (by assumption)))) | exact And.right (And.right (And.right (And.right (And.right (by assumption))))) | exact And.right (And.right (And.right (And.right (And.right (And.right (by assumption)))))) | exact And.right (And.right (And.right (And.right (And.right (And.right (And.right (by assumption))))))) | exact And.right (And.right (And.right (And.right (And.right (And.right (And.right (And.right (by assumption)))))))) | exact And.right (And.right (And.right (And.right (And.right (And.right (And.right (And.right (And.right (by assumption)))))))))) | refine Sub.setV ?_ (by first | assumption | exact And.right (by assumption) | exact And.right (And.right (by assumption)) | exact And.right (And.right (And.right (by assumption))) | exact And.right (And.right (And.right (And.right (by assumption)))) | exact And.right (And.right (And.right (And.right (And.right (by assumption))))) | exact And.right (And.right (And.right (And.right (And.right (And.right (by assumption)))))) | exact And.right (And.right (And.right (And.right (And.right (And.right (And.right (by assumption))))))) | exact And.right (And.right (And.right (And.right (And.right (And.right (And.right (And.right (by assumption)))))))) | exact And.right (And.right (And.right (And.right (And.right (And.right (And.right (And.right (And.right (by assumption)))))))))))), ?_⟩); simp [e]

theorem line_next {S : Store} {b : Nat} (l : List Span) (many tick : Nat) (hb : S (.r b) = some (.cells [.p (lvP l), u64 many, u64 tick])) (hn : 0 < l.length + many) (hl : l.length < 4611686018427387904) (hm : many < 18446744073709551616) :
    CallR Try.prog 96 [.sp b 0] S (fun r S' => r = (((l ++ List.replicate many (⟨tick, tick⟩ : Span)).getD 0 default).av) ∧ S' = S.set (.r b) (.cells [.p (lvP (l.drop 1)), u64 (many - (1 - l.length) : Nat), u64 tick])) := by
  refine callR_of Try.func96 rfl rfl (xc_ok (bitB 525) _ _ _ ?_)
  simp only [go_sem, decide_true, decide_false, Nat.lt_irrefl]
  refine alloc_intro fun c hc => ?_
  have n1 := hc.ne hb
  simp only [go_sem, decide_true, decide_false, Nat.lt_irrefl, hb, n1]
  cases l with
  | nil =>
    simp only [go_sem, decide_true, decide_false, Nat.lt_irrefl, lvP, hb, n1]
    refine AWP.draw2 (bitB 525) mixed (by kernel_rfl) (fun i => bl false) ?_
    simp only [go_sem, decide_true, decide_false, Nat.lt_irrefl, hb, n1]
    have e1 : sub64 many 1 = many - 1 := by
      have : 0 < many := by simpa using hn
      rw [sub64_eq]; omega
    have hm0 : 0 < many := by simpa using hn
    obtain ⟨m, rfl⟩ : ∃ m, many = m + 1 := ⟨many - 1, by omega⟩
    refine ⟨S.set (.r b) (.cells [.p (.sl []), u64 (m + 1 - 1 : Nat), u64 tick]), ?_, Or.inl ⟨?_, rfl⟩⟩
    · rw [e1]; (repeat (first | exact Sub.refl _ | refine Sub.both ?_ _ _ | refine Sub.set ?_ (by simp_all [Store.set, Fresh, FreshV]) _))
    · rfl
  | cons s l =>
    simp only [go_sem, decide_true, decide_false, Nat.lt_irrefl, lvP, hb, n1]
    refine alloc_intro fun d hd => ?_
    simp only [fresh_set] at hd
    have n2 := hd.2.ne hb
    simp only [go_sem, decide_true, decide_false, Nat.lt_irrefl, hb, n1, hd, n2, lvP]
    refine ⟨?_, by omega, by omega, ?_⟩
    · intro el h
      rcases h with rfl | h
      · rfl
      · exact span_len el h
    have e2 : List.take (l.length + 1 - 1) (List.map Span.pv l) = List.map Span.pv l := List.take_of_length_le (by simp)
    rw [e2]
    refine ⟨S.set (.r b) (.cells [.p (lvP l), u64 many, u64 tick]), ?_, by simp [lvP]⟩
    (repeat (first | exact Sub.refl _ | refine Sub.both ?_ _ _ | refine Sub.set ?_ (by simp_all [Store.set, Fresh, FreshV]) _))

theorem push_over {S : Store} {b r : Nat} (l : List Span) (many tick room : Nat) (hb : S (.r b) = some (.cells [.p (lvP l), u64 many, u64 tick])) (hr : S (.r r) = some (.cells [u64 room]))
    (hn : l.length + many < 18446744073709551616) (hroom : room < 18446744073709551616) {q : Nat} (hq : S (.r q) = some (.cells [.sp b 0])) :
    CallR Try.prog 93 [.sp q 0, .sp r 0] S (fun x S' => x = u64 (l.length + many - room) ∧ S' = S) := by
  refine callR_of Try.func93 rfl rfl (xc_ok (bitB 7) _ _ _ ?_)
  simp only [go_sem, decide_true, decide_false, Nat.lt_irrefl]
  refine AWP.draw2 (bitB 7) mixed (by kernel_rfl) (fun i => if i = 1 then u64 (l.length + many) else u64 (if l.length + many < room then room else l.length + many)) ?_
  simp only [go_sem, decide_true, decide_false, Nat.lt_irrefl, hb, hr, hq]
  refine ⟨fun S1 hS => line_long l many tick (hS _ _ hb) hn, (bounded_u64 _ _).draw, ?_⟩
  (refine ⟨S, by (repeat (first | exact Sub.refl _ | refine Sub.setF ?_ (by first | assumption | exact And.right (by assumption) | exact And.right (And.right (by assumption)) | exact And.right (And.right (And.right (by assumption))) | exact And.right (And.right (And.right (And.right (by assumption)))) | exact And.right (And.right (And.right (And.right (And.right (by assumption))))) | exact And.right (And.right (And.right (And.right (And.right (And.right (by assumption)))))) | exact And.right (And.right (And.right (And.right (And.right (And.right (And.right (by assumption))))))) | exact And.right (And.right (And.right (And.right (And.right (And.right (And.right (And.right (by assumption)))))))) | exact And.right (And.right (And.right (And.right (And.right (And.right (And.right (And.right (And.right (by assumption)))))))))) | refine Sub.setV ?_ (by first | assumption | exact And.right (by assumption) | exact And.right (And.right (by assumption)) | exact And.right (And.right (And.right (by assumption))) | exact And.right (And.right (And.right (And.right (by assumption)))) | exact And.right (And.right (And.right (And.right (And.right (by assumption))))) | exact And.right (And.right (And.right (And.right (And.right (And.right (by assumption)))))) | exact And.right (And.right (And.right (And.right (And.right (And.right (And.right (by assumption))))))) | exact And.right (And.right (And.right (And.right (And.right (And.right (And.right (And.right (by assumption)))))))) | exact And.right (And.right (And.right (And.right (And.right (And.right (And.right (And.right (And.right (by assumption)))))))))))), ?_⟩)
  have e : sub64 (if l.length + many < room then room else l.length + many) room = l.length + many - room := by rw [sub64_eq]; split <;> omega
  simp [e]

end Go.Sk
