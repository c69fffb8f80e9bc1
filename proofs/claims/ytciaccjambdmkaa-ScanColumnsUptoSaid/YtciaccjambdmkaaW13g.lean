/- Walks: layer 13's sum over columns. -/
import Derived.Test.YtciaccjambdmkaaW13f
set_option linter.unusedSimpArgs false
set_option linter.unusedVariables false
set_option linter.unusedSectionVars false
namespace Go.Sk
open Go Go.Proofs

set_option maxRecDepth 8000 in
theorem law_ScanColumns (l : List Event) (n m : Nat) (r : Row) (he : ∀ e ∈ l, e.Ok) (hs : r.s.Ok) (hw : r.w < 9223372036854775808 ∧ -9223372036854775808 ≤ r.w) :
    CallsR Try.prog 5 [.p (evsP l), two n m, r.av] noS (fun x _ => x = bl true) := by
  refine callsR_of Try.func5 rfl (xc_ok (bitB 8914935) _ _ _ ?_)
  simp only [go_sem, decide_true, decide_false, Nat.lt_irrefl]
  refine alloc_intro fun b4 h4 => ?_
  simp only [go_sem, decide_true, decide_false, Nat.lt_irrefl]
  refine alloc_intro fun b5 h5 => ?_
  simp only [fresh_set] at h5
  simp only [go_sem, decide_true, decide_false, Nat.lt_irrefl, h5]
  refine awake13.useA ?_
  simp only [go_sem, decide_true, decide_false, Nat.lt_irrefl, evsP, h5]
  obtain ⟨w, hw1, hw2, hwe⟩ : ∃ w : Nat, 1 ≤ w ∧ w ≤ 30 ∧ wi (1 + (if 0 > r.w then 0 else r.w).tmod 30) = (w : Int) := by
    obtain ⟨x, hx⟩ : ∃ x : Nat, (if 0 > r.w then 0 else r.w) = (x : Int) := ⟨(if 0 > r.w then 0 else r.w).toNat, by split <;> omega⟩
    rw [hx, Int.tmod_eq_emod_of_nonneg (by omega)]
    refine ⟨1 + x % 30, by omega, by omega, ?_⟩
    rw [wi_id (by omega) (by omega)]; omega
  rw [hwe]
  refine ⟨by decide, ?_⟩
  (first | refine dec_split (fun hc => ?_) (fun hc => ?_) | refine gdd_split (fun hc => ?_) (fun hc => ?_) | refine bool_split (fun hc => ?_) (fun hc => ?_) | refine gd_split (fun hc => ?_) (fun hc => ?_)) <;> simp only [go_sem, decide_true, decide_false, Nat.lt_irrefl, h5]
  · exact ⟨_, Sub.refl _⟩
  have hl : l.length < 4611686018427387904 := by omega
  refine AWP.iter (fun c => ⟨Env.get [(0, .p (.sl (l.map Event.pv))), (4, .sp b4 0), (5, .sp b5 0), (7, bl true), (8, i64 (w : Int)), (9, u64 (colsV l n m r.s (w : Int) c)), (10, i64 (c : Int))],
    (noS.set (.r b4) (.cells [u64 n, u64 m])).set (.r b5) (.cells [u64 r.s.a, u64 r.s.b, i64 r.w, i64 r.c]), 62, []⟩) w ?_ ?_ ?_
  · exact le_of (by simp only [go_sem, decide_true, decide_false, Nat.lt_irrefl]; simp [colsV]) (Sub.refl _) rfl rfl (by simp)
  · intro c hcw ih
    refine AWPH.step (xc_ok (bitB 8914935) _ _ _ ?_)
    simp only [go_sem, decide_true, decide_false, Nat.lt_irrefl, ltN' hcw, h5]
    refine ⟨by omega, by omega, ?_⟩
    refine (scan_In l n m r.s w c hl he hs (by omega)).useA ?_
    simp only [go_sem, decide_true, decide_false, Nat.lt_irrefl, h5]
    refine ih.back (by (repeat (first | exact Sub.refl _ | refine Sub.setF ?_ (by first | assumption | exact And.right (by assumption) | exact And.right (And.right (by assumption)) | exact And.right (And.right (And.right (by assumption))) | exact And.right (And.right (And.right (And.right (by assumption)))) | exact And.right (And.right (And.right (And.right (And.right (by assumption))))) | exact And.right (And.right (And.right (And.right (And.right (And.right (by assumption)))))) | exact And.right (And.right (And.right (And.right (And.right (And.right (And.right (by assumption))))))) | exact And.right (And.right (And.right (And.right (And.right (And.right (And.right (And.right (by assumption)))))))) | exact And.right (And.right (And.right (And.right (And.right (And.right (And.right (And.right (And.right (by assumption)))))))))) | refine Sub.setV ?_ (by first | assumption | exact And.right (by assumption) | exact And.right (And.right (by assumption)) | exact And.right (And.right (And.right (by assumption))) | exact And.right (And.right (And.right (And.right (by assumption)))) | exact And.right (And.right (And.right (And.right (And.right (by assumption))))) | exact And.right (And.right (And.right (And.right (And.right (And.right (by assumption)))))) | exact And.right (And.right (And.right (And.right (And.right (And.right (And.right (by assumption))))))) | exact And.right (And.right (And.right (And.right (And.right (And.right (And.right (And.right (by assumption)))))))) | exact And.right (And.right (And.right (And.right (And.right (And.right (And.right (And.right (And.right (by assumption))))))))))))) (by simp) ?_
    simp only [go_sem, decide_true, decide_false, Nat.lt_irrefl, colsV, wi_succ (show c < 4611686018427387904 by omega)]
  · refine AWPH.step (xc_ok (bitB 8914935) _ _ _ ?_)
    simp only [go_sem, decide_true, decide_false, Nat.lt_irrefl, h5]
    refine ⟨by omega, by omega, (scan_Sum l n m hl).useA ?_⟩
    simp only [go_sem, decide_true, decide_false, Nat.lt_irrefl, h5, colsV_all _ _ _ _ _ hw1, beq_self_eq_true]
    refine ⟨by omega, by omega, (scan_In l n m r.s w w hl he hs (by omega)).useA ?_⟩
    simp only [go_sem, decide_true, decide_false, Nat.lt_irrefl, colSumV_none l n m r.s w (show (1 : Int) ≤ w by omega)]
    exact ⟨_, Sub.refl _⟩
end Go.Sk
