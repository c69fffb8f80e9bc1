/- Walks: layer 13's sum over keys. -/
import Derived.Test.YtciaccjambdmkaaW13f
set_option linter.unusedSimpArgs false
set_option linter.unusedVariables false
set_option linter.unusedSectionVars false
namespace Go.Sk
open Go Go.Proofs

set_option maxRecDepth 8000 in
theorem law_ScanAll (l : List Event) (n m : Nat) (he : ∀ e ∈ l, e.Ok) :
    CallsR Try.prog 6 [.p (evsP l), two n m] noS (fun x _ => x = bl true) := by
  refine callsR_of Try.func6 rfl (xc_ok (bitB 1152921538966603771) _ _ _ ?_)
  simp only [go_sem, decide_true, decide_false, Nat.lt_irrefl]
  refine alloc_intro fun b3 h3 => ?_
  simp only [go_sem, decide_true, decide_false, Nat.lt_irrefl]
  refine awake13.useA ?_
  simp only [go_sem, decide_true, decide_false, Nat.lt_irrefl, evsP]
  (first | refine dec_split (fun hc => ?_) (fun hc => ?_) | refine gdd_split (fun hc => ?_) (fun hc => ?_) | refine bool_split (fun hc => ?_) (fun hc => ?_) | refine gd_split (fun hc => ?_) (fun hc => ?_)) <;> simp only [go_sem, decide_true, decide_false, Nat.lt_irrefl]
  · exact ⟨_, Sub.refl _⟩
  have hl : l.length < 1099511627776 := by omega
  obtain ⟨t, ht, hte⟩ : ∃ t : Nat, t < 4611686018427387904 ∧ n % 4611686018427387904 = t := ⟨_, Nat.mod_lt _ (by decide), rfl⟩
  have e1 : m64 (t + 1) = t + 1 := m64_id (by omega)
  have hmod : m % (t + 1) < t + 1 := Nat.mod_lt _ (by omega)
  obtain ⟨s, hs1, hs2, hse⟩ : ∃ s : Nat, 1 ≤ s ∧ s ≤ t + 1 ∧ m64 (1 + m % (t + 1)) = s := ⟨_, by omega, by omega, m64_id (by omega)⟩
  simp only [hte, e1, hse]
  refine ⟨by decide, by omega, by omega, ?_⟩
  refine (scan_Keys l _ t hl _).useA ?_
  rintro _ _ ⟨its, hp, hr, rfl, rfl⟩
  have hrise := (keys_spec hp hr).1
  have hsum := all_spec ht hs1 hs2 hp
  have hlen : its.length ≤ l.length := by rw [hp.length_eq]; exact sumsV_len _ _ _
  simp only [go_sem, decide_true, decide_false, Nat.lt_irrefl, itP]
  refine AWP.iter (fun i => ⟨Env.get [(0, .p (.sl (l.map Event.pv))), (3, .sp b3 0), (4, bl false), (5, bl true), (6, u64 t), (7, u64 s), (8, .p (.sl (its.map Item.pv))), (9, u64 (addsV (its.take i))), (10, i64 (i : Int))],
    noS.set (.r b3) (.cells [u64 n, u64 m]), 70, []⟩) its.length ?_ ?_ ?_
  · exact le_of (by simp only [go_sem, decide_true, decide_false, Nat.lt_irrefl]; simp [addsV]) (Sub.refl _) rfl rfl (by simp)
  · intro i hi ih
    refine AWPH.step (xc_ok (bitB 1152921538966603771) _ _ _ ?_)
    simp only [go_sem, decide_true, decide_false, Nat.lt_irrefl, hi, ltN' hi, getD_map' _ _ _ _ hi]
    refine AWP.draw2 (bitB 1152921538966603771) mixed (by kernel_rfl) (fun j => bl false) ?_
    simp only [go_sem, decide_true, decide_false, Nat.lt_irrefl, hi, ltN' hi, getD_map' _ _ _ _ hi]
    cases i with
    | zero =>
      simp only [go_sem, decide_true, decide_false, Nat.lt_irrefl]
      refine ih.back (by (repeat (first | exact Sub.refl _ | refine Sub.setF ?_ (by first | assumption | exact And.right (by assumption) | exact And.right (And.right (by assumption)) | exact And.right (And.right (And.right (by assumption))) | exact And.right (And.right (And.right (And.right (by assumption)))) | exact And.right (And.right (And.right (And.right (And.right (by assumption))))) | exact And.right (And.right (And.right (And.right (And.right (And.right (by assumption)))))) | exact And.right (And.right (And.right (And.right (And.right (And.right (And.right (by assumption))))))) | exact And.right (And.right (And.right (And.right (And.right (And.right (And.right (And.right (by assumption)))))))) | exact And.right (And.right (And.right (And.right (And.right (And.right (And.right (And.right (And.right (by assumption)))))))))) | refine Sub.setV ?_ (by first | assumption | exact And.right (by assumption) | exact And.right (And.right (by assumption)) | exact And.right (And.right (And.right (by assumption))) | exact And.right (And.right (And.right (And.right (by assumption)))) | exact And.right (And.right (And.right (And.right (And.right (by assumption))))) | exact And.right (And.right (And.right (And.right (And.right (And.right (by assumption)))))) | exact And.right (And.right (And.right (And.right (And.right (And.right (And.right (by assumption))))))) | exact And.right (And.right (And.right (And.right (And.right (And.right (And.right (And.right (by assumption)))))))) | exact And.right (And.right (And.right (And.right (And.right (And.right (And.right (And.right (And.right (by assumption))))))))))))) (by simp) ?_
      simp only [go_sem, decide_true, decide_false, Nat.lt_irrefl, addsV_snoc _ _ hi, wi_succ (show 0 < 4611686018427387904 by decide)]
    | succ i =>
      have hi' : i < its.length := by omega
      have hlt := (List.pairwise_iff_getElem.1 hrise) i (i + 1) hi' hi (by omega)
      have e2 : wi ((((i + 1 : Nat) : Int)) - 1) = (i : Int) := by rw [wi_id (by omega) (by omega)]; omega
      simp only [go_sem, decide_true, decide_false, Nat.lt_irrefl, e2, hi', ltN' hi', getD_map' _ _ _ _ hi', hi, ltN' hi, getD_map' _ _ _ _ hi]
      have hnle : ¬ its[i + 1].k ≤ its[i].k := by omega
      simp only [go_sem, decide_true, decide_false, Nat.lt_irrefl, hnle]
      refine ih.back (by (repeat (first | exact Sub.refl _ | refine Sub.setF ?_ (by first | assumption | exact And.right (by assumption) | exact And.right (And.right (by assumption)) | exact And.right (And.right (And.right (by assumption))) | exact And.right (And.right (And.right (And.right (by assumption)))) | exact And.right (And.right (And.right (And.right (And.right (by assumption))))) | exact And.right (And.right (And.right (And.right (And.right (And.right (by assumption)))))) | exact And.right (And.right (And.right (And.right (And.right (And.right (And.right (by assumption))))))) | exact And.right (And.right (And.right (And.right (And.right (And.right (And.right (And.right (by assumption)))))))) | exact And.right (And.right (And.right (And.right (And.right (And.right (And.right (And.right (And.right (by assumption)))))))))) | refine Sub.setV ?_ (by first | assumption | exact And.right (by assumption) | exact And.right (And.right (by assumption)) | exact And.right (And.right (And.right (by assumption))) | exact And.right (And.right (And.right (And.right (by assumption)))) | exact And.right (And.right (And.right (And.right (And.right (by assumption))))) | exact And.right (And.right (And.right (And.right (And.right (And.right (by assumption)))))) | exact And.right (And.right (And.right (And.right (And.right (And.right (And.right (by assumption))))))) | exact And.right (And.right (And.right (And.right (And.right (And.right (And.right (And.right (by assumption)))))))) | exact And.right (And.right (And.right (And.right (And.right (And.right (And.right (And.right (And.right (by assumption))))))))))))) (by simp) ?_
      simp only [go_sem, decide_true, decide_false, Nat.lt_irrefl, addsV_snoc _ _ hi, wi_succ (show i + 1 < 4611686018427387904 by omega)]
  · refine AWPH.step (xc_ok (bitB 1152921538966603771) _ _ _ ?_)
    simp only [go_sem, decide_true, decide_false, Nat.lt_irrefl, List.take_length]
    refine (scan_Sum l t s (by omega)).useA ?_
    simp only [go_sem, decide_true, decide_false, Nat.lt_irrefl, hsum, beq_self_eq_true]
    exact ⟨_, Sub.refl _⟩
end Go.Sk
