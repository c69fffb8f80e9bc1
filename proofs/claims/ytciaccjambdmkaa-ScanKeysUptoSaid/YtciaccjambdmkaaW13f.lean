/- Walks: layer 13's other statements. -/
import Derived.Test.YtciaccjambdmkaaW13e
import Derived.Test.YtciaccjambdmkaaA13
set_option linter.unusedSimpArgs false
set_option linter.unusedVariables false
set_option linter.unusedSectionVars false
namespace Go.Sk
open Go Go.Proofs

theorem bl_true {a b : AV} {R : AV → Store → Prop} {S : Store} (h : a = b) (k : R b S) : R a S := h ▸ k

theorem law_ScanKeys (l : List Event) (lo hi' : Nat) (he : ∀ e ∈ l, e.Ok) :
    CallsR Try.prog 4 [.p (evsP l), u64 lo, u64 hi'] noS (fun x _ => x = bl true) := by
  refine callsR_of Try.func4 rfl (xc_ok (bitB 2247) _ _ _ ?_)
  simp only [go_sem, decide_true, decide_false, Nat.lt_irrefl]
  refine awake13.useA ?_
  simp only [go_sem, decide_true, decide_false, Nat.lt_irrefl, evsP]
  (first | refine dec_split (fun hc => ?_) (fun hc => ?_) | refine gdd_split (fun hc => ?_) (fun hc => ?_) | refine bool_split (fun hc => ?_) (fun hc => ?_) | refine gd_split (fun hc => ?_) (fun hc => ?_)) <;> simp only [go_sem, decide_true, decide_false, Nat.lt_irrefl]
  · exact ⟨_, Sub.refl _⟩
  · have hl : l.length ≤ 60 := by omega
    refine (scan_Keys l lo hi' (by omega) noS).useA ?_
    rintro _ _ ⟨m, hp, hr, rfl, rfl⟩
    simp only [go_sem, decide_true, decide_false, Nat.lt_irrefl]
    refine (ref13_Keys l lo hi' (by omega)).useA ?_
    simp only [go_sem, decide_true, decide_false, Nat.lt_irrefl]
    have hm := keys_doc he hp hr
    subst hm
    have hk := keysR_len l lo hi' l.length (Nat.le_refl _)
    rw [List.take_length] at hk
    refine (ref13_Items _ _ (by omega)).useA ?_
    simp only [go_sem, decide_true, decide_false, Nat.lt_irrefl]
    exact ⟨_, Sub.refl _⟩
end Go.Sk
