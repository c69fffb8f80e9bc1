/- The walk's own reading of code: what each operation does to slots and owned blocks, and that the machine does so. -/
import Derived.Test.YthpfcfacofakoaaGreatSkB
import Derived.Laws.Sem
set_option linter.unusedSimpArgs false
set_option linter.unusedVariables false
set_option linter.unusedSectionVars false
namespace Go.Sk
open Go

def ofV : Value → AV
  | .bool b => .p (.bool b)
  | .int k n => .p (.int k n)
  | .string s => .p (.str s)
  | .slice none 0 0 => .nils
  | .nilFunc => .nilf
  | .pointer none => .nilp
  | _ => .top

theorem ofV_rep (D : Prot) (w : World) (v : Value) : RepA D w v (ofV v) := by
  unfold ofV
  split <;> first | exact .p (.bool _) | exact .p (.int _ _) | exact .p (.str _) | exact .nils | exact .nilf | exact .nilp | exact .top _

def ev (s : St) : Operand → AV
  | .tmp t => s.ρ t
  | .const v => ofV v
  | .global _ => .top
  | .func f => .fn (.func f) [] []

theorem ev_rep {s : St} {D : Prot} {w : World} {a : Act} (h : RelSt s D w a) (x : Operand) : RepA D w (a.eval x) (ev s x) := by
  cases x with
  | tmp t => exact h.slots t
  | const v => exact ofV_rep D w v
  | global g => exact .top _
  | func f => exact .fn _ #[] #[] [] [] rfl rfl (fun i hi => by simp at hi) (fun i hi => by simp at hi)

/-! Types: what a walk asks of them. -/
def isAggD : TypeDesc → Bool
  | .struct _ | .array _ _ => true
  | _ => false
/-- Is it a struct or an array; how many cells; what they are at first; how many bytes. -/
def TI (P : Program) (t : TypeId) : Option (Bool × Nat × List AV × Nat) :=
  match P.info? t, P.underlying t with
  | some i, some d => match i.zero with
    | some v => some ((isAggD d), i.size, v.cells.toList.map ofV, i.bytes)
    | none => none
  | _, _ => none
/-- A field's offset, its size, and whether it is a struct or an array. -/
def FI (P : Program) (t : TypeId) (f : Nat) : Option (Nat × Nat × Bool) :=
  match P.underlying t with
  | some (.struct fs) => match fs[f]? with
    | some g => match P.info? g.type, P.underlying g.type with
      | some i, some d => some (g.offset, i.size, (isAggD d))
      | _, _ => none
    | none => none
  | _ => none
/-- An element's type, of a slice. -/
def EI (P : Program) (t : TypeId) : Option TypeId := match P.underlying t with | some (.slice e) => some e | _ => none

theorem run_typeInfo (P : Program) (w : World) (t : TypeId) : (typeInfo t).run P w = match P.info? t with | some i => .ok i w | none => .halt (.stuck "no such type") w := by
  simp only [typeInfo, program, Sem.run_bind, Sem.run, Result.andThen_ok]
  cases P.info? t <;> simp [stuck]
theorem run_underlying (P : Program) (w : World) (t : TypeId) : (underlying t).run P w = match P.underlying t with | some i => .ok i w | none => .halt (.stuck "no such type") w := by
  simp only [underlying, program, Sem.run_bind, Sem.run, Result.andThen_ok]
  cases P.underlying t <;> simp [stuck]
theorem run_isAgg (P : Program) (w : World) (t : TypeId) {d : TypeDesc} (h : P.underlying t = some d) : (isAgg t).run P w = .ok (isAggD d) w := by
  simp only [isAgg, Sem.run_bind, run_underlying, h, Result.andThen_ok]
  cases d <;> simp [isAggD]
theorem run_sizeOf (P : Program) (w : World) (t : TypeId) {i : TypeInfo} (h : P.info? t = some i) : (sizeOf t).run P w = .ok i.size w := by
  simp only [sizeOf, Sem.run_bind, run_typeInfo, h, Result.andThen_ok, Sem.run_pure]
theorem run_zeroValue (P : Program) (w : World) (t : TypeId) {i : TypeInfo} {v : Value} (h : P.info? t = some i) (hz : i.zero = some v) : (zeroValue t).run P w = .ok v w := by
  simp only [zeroValue, Sem.run_bind, run_typeInfo, h, Result.andThen_ok, hz, Sem.run_pure]

theorem TI_some {P : Program} {t : TypeId} {g : Bool} {n : Nat} {z : List AV} {by' : Nat} (h : TI P t = some (g, n, z, by')) :
    ∃ i d v, P.info? t = some i ∧ P.underlying t = some d ∧ i.zero = some v ∧ (isAggD d) = g ∧ i.size = n ∧ v.cells.toList.map ofV = z ∧ i.bytes = by' := by
  unfold TI at h
  split at h
  · rename_i i d hi hd
    split at h
    · rename_i v hv
      simp only [Option.some.injEq, Prod.mk.injEq] at h
      exact ⟨i, d, v, hi, hd, hv, h.1, h.2.1, h.2.2.1, h.2.2.2⟩
    · cases h
  · cases h

/-! Cells of values. -/
def cellsOf : AV → List AV
  | .agg cs => cs
  | x => [x]
/-- May it stand in one cell of memory? -/
def scalar : AV → Bool
  | .agg _ | .tuple _ | .top => false
  | _ => true

theorem RepA.scalar_cells {D : Prot} {w : World} {v : Value} {x : AV} (h : RepA D w v x) (hs : scalar x = true) : v.cells = #[v] := by
  cases h with
  | p h => cases h <;> rfl
  | agg => simp [scalar] at hs
  | tuple => simp [scalar] at hs
  | top => simp [scalar] at hs
  | _ => rfl
theorem RepA.scalar_ok {D : Prot} {w : World} {v : Value} {x : AV} (h : RepA D w v x) (hs : scalar x = true) : (∀ c, v ≠ .agg c) ∧ (∀ c, v ≠ .tuple c) := by
  cases h with
  | p h => cases h <;> simp
  | agg => simp [scalar] at hs
  | tuple => simp [scalar] at hs
  | top => simp [scalar] at hs
  | _ => simp

/-- The cells of a value that is known. -/
theorem RepA.cells {D : Prot} {w : World} {v : Value} {x : AV} (h : RepA D w v x) (hs : (cellsOf x).all scalar = true) :
    v.cells.size = (cellsOf x).length ∧ ∀ i, i < (cellsOf x).length → RepA D w (v.cells.getD i undef) ((cellsOf x).getD i .top) := by
  cases x with
  | agg cs =>
    cases h with
    | agg vs _ hn h => exact ⟨hn, h⟩
  | _ =>
    have hs' := hs
    simp only [cellsOf, List.all_cons, List.all_nil, Bool.and_true] at hs'
    have hc := h.scalar_cells hs'
    rw [hc]
    refine ⟨rfl, fun i hi => ?_⟩
    simp only [cellsOf, List.length_cons, List.length_nil] at hi
    have : i = 0 := by omega
    subst this
    exact h

/-! Loads. -/
theorem run_loadCellsFrom (P : Program) (w : World) (a : Addr) (vs : Nat → Value) : ∀ (n i : Nat) (acc : Array Value),
    (∀ j, j < n → w.cell? (a.add (i + j)) = some (vs (i + j))) →
    (loadCellsFrom a i n acc).run P w = .ok (acc ++ (Array.ofFn fun j : Fin n => vs (i + j))) w := by
  intro n
  induction n with
  | zero => intro i acc _; simp [loadCellsFrom]
  | succ n ih =>
    intro i acc h
    have h0 := h 0 (by omega)
    simp only [Nat.add_zero] at h0
    simp only [loadCellsFrom, Sem.run_bind, run_load, h0, Result.andThen_ok]
    rw [ih (i + 1) (acc.push (vs i)) (fun j hj => by have := h (j + 1) (by omega); rwa [show i + (j + 1) = i + 1 + j from by omega] at this)]
    congr 1
    apply Array.ext
    · simp; omega
    · intro k h1 h2
      simp only [Array.getElem_append, Array.size_push, Array.getElem_ofFn, Array.getElem_push]
      by_cases hk : k < acc.size
      · simp [hk, show k < acc.size + 1 from by omega]
      · by_cases hk' : k = acc.size
        · subst hk'; simp
        · simp [hk, show ¬ k < acc.size + 1 from by omega]
          congr 1; omega

theorem Addr.add_mk (b o n : Nat) : (⟨b, o, none⟩ : Addr).add n = ⟨b, o + n, none⟩ := by
  unfold Addr.add; split <;> simp_all

theorem run_loadVar (P : Program) (w : World) (t : TypeId) (b o : Nat) {i : TypeInfo} {d : TypeDesc} (hi : P.info? t = some i) (hd : P.underlying t = some d)
    (vs : Nat → Value) (h : ∀ j, j < i.size → w.cell? ⟨b, o + j, none⟩ = some (vs j)) (h1 : (isAggD d) = false → i.size = 1) :
    (loadVar t ⟨b, o, none⟩).run P w = .ok (if (isAggD d) = true then .agg (Array.ofFn fun j : Fin i.size => vs j) else vs 0) w := by
  simp only [loadVar, Sem.run_bind, run_isAgg P w t hd, Result.andThen_ok]
  generalize hg : (isAggD d) = g at *
  cases g with
  | true =>
    simp only [if_true, Sem.run_bind, run_sizeOf P w t hi, Result.andThen_ok, loadCells]
    rw [run_loadCellsFrom P w ⟨b, o, none⟩ vs i.size 0 #[] (fun j hj => by rw [Addr.add_mk]; simpa using h j hj)]
    simp
  | false =>
    have := h 0 (by rw [h1 rfl]; omega)
    simp only [Nat.add_zero] at this
    simp [run_load, this]
end Go.Sk
