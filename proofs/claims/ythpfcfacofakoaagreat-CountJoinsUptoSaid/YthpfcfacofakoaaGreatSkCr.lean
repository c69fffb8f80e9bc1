/- Calls in the kit's own form; a store of which nothing is known. -/
import Derived.Test.YthpfcfacofakoaaGreatSkX
set_option linter.unusedSimpArgs false
set_option linter.unusedVariables false
set_option linter.unusedSectionVars false
namespace Go.Sk
open Go

/-- What a call does, in the kit's form. -/
def CallsR (P : Program) (f : FuncId) (args : List AV) (S : Store) (R : AV → Store → Prop) : Prop :=
  ∀ D w (vs : Array Value), Rel S D w → RepL D w vs args → Calls P f vs w fun e w' => ∃ v, e = .returned v ∧ ∃ x S' D', R x S' ∧ Rel S' D' w' ∧ RepA D' w' v x ∧ Ext S D w S' D' w'
theorem callsR_of {P : Program} {f : FuncId} {fn : Func} {c : Code} {args : List AV} {S : Store} {R : AV → Store → Prop} (hf : P.funcs[f]? = some fn) (hb : fn.body = some c)
    (h : AWP P none c (retQ P fn R) { ρ := Env.get (envOf 0 args), S := S, n := fn.ntmps, df := [] }) : CallsR P f args S R :=
  fun _ _ _ hR hv => calls_of hf hb h hR hv
theorem CallsR.call {P : Program} {f : FuncId} {args : List AV} {S : Store} {R : AV → Store → Prop} (h : CallsR P f args S R) (he : Enterable P f) : CallR P f args S R :=
  ⟨he, fun D w vs hR hv => Calls.gives (h D w vs hR hv)⟩

def noS : Store := fun _ => none
def noD : Prot := fun _ => 0
theorem rel_none (w : World) : Rel noS noD w := ⟨fun _ _ h => (by cases h), fun _ _ => rfl, ⟨0, fun _ _ => rfl⟩, fun _ _ _ _ _ _ _ h => (by cases h), fun _ _ _ _ h => (by cases h)⟩
theorem not_owned (b : Nat) : ¬ Owned noS b := by
  rintro (h | ⟨k, z, n, h⟩)
  · exact h rfl
  · cases h
end Go.Sk
