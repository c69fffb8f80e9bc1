/- Scopes: code between labels that no jump goes to. -/
import Derived.Test.YthpfcfacofakoaaGreatSkSq
set_option linter.unusedSimpArgs false
set_option linter.unusedVariables false
set_option linter.unusedSectionVars false
namespace Go.Sk
open Go
def scopeQ (Q : Ex → St → Prop) : Ex → St → Prop
  | .goto _, _ => False
  | e, s => Q e s
theorem AWP.scope {P : Program} {ro : Option Nat} {c : Code} {Q : Ex → St → Prop} {s : St} (h : AWP P ro c (scopeQ Q) s) : AWP P ro (.scope c) Q s := by
  intro D w a hs
  refine WP.scope (WP.mono (h D w a hs) ?_)
  rintro e a1 w1 ⟨s1, D1, hQ, h1, hE⟩
  cases e with
  | goto l => exact hQ.elim
  | normal => exact ⟨fun l h => (by cases h), s1, D1, hQ, h1, hE⟩
  | exit id => exact ⟨fun l h => (by cases h), s1, D1, hQ, h1, hE⟩
  | ret => exact ⟨fun l h => (by cases h), s1, D1, hQ, h1, hE⟩
section
variable {P : Program} {ro : Option Nat} {L : Nat → Bool} {Q : Ex → St → Prop} {s s' : St}
theorem scopeQ_ret : scopeQ Q .ret s = Q .ret s := (rfl)
theorem xc_scope (c : Code) : xc P ro L (.scope c) Q s = AWP P ro (.scope c) Q s := (rfl)
@[congr] theorem scopeQ_congr {e : Ex} (h : s = s') : scopeQ Q e s = scopeQ Q e s' := by rw [h]
end
attribute [go_sem] scopeQ_ret xc_scope
attribute [go_sem ↓] scopeQ_ret xc_scope
end Go.Sk
