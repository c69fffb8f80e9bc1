/- Values put together; slices that grow. -/
import Derived.Test.YthpfcfacofakoaaGreatSkG
set_option linter.unusedSimpArgs false
set_option linter.unusedVariables false
set_option linter.unusedSectionVars false
namespace Go.Sk
open Go

/-- Parts laid into cells. -/
def xfill (place : Nat → Option (Nat × Nat)) : List AV → List (Nat × AV) → Option (List AV)
  | cs, [] => some cs
  | cs, (i, v) :: r => match place i with
    | none => none
    | some (off, sz) => if (cellsOf v).length = sz ∧ off + sz ≤ cs.length ∧ (cellsOf v).all scalar = true then xfill place (splice cs off (cellsOf v)) r else none

theorem foldl_write (off : Nat) : ∀ (l : List Value) (i : Nat) (c : Array Value), (l.zipIdx i).foldl (fun cs (x : Value × Nat) => cs.setIfInBounds (off + x.2) x.1) c = writeAt c (off + i) l := by
  intro l
  induction l with
  | nil => intro i c; rfl
  | cons v r ih => intro i c; simp only [List.zipIdx_cons, List.foldl_cons, writeAt]; rw [ih]; rfl

theorem writeAt_rep {D : Prot} {w : World} {c : Array Value} {cs : List AV} {l : Array Value} {xs : List AV} {off : Nat} (hc : c.size = cs.length) (hr : ∀ i, i < cs.length → RepA D w (c.getD i undef) (cs.getD i .top))
    (hl : l.size = xs.length) (hlr : ∀ i, i < xs.length → RepA D w (l.getD i undef) (xs.getD i .top)) (h : off + xs.length ≤ cs.length) :
    (writeAt c off l.toList).size = (splice cs off xs).length ∧ ∀ i, i < (splice cs off xs).length → RepA D w ((writeAt c off l.toList).getD i undef) ((splice cs off xs).getD i .top) := by
  refine ⟨by rw [writeAt_size, splice_length _ _ _ h, hc], fun i hi => ?_⟩
  rw [splice_length _ _ _ h] at hi
  rw [splice_getD _ _ _ h]
  have hg := writeAt_get l.toList c off i (by simp; omega)
  simp only [Array.getD_eq_getD_getElem?] at hr hlr ⊢
  rw [hg]
  by_cases hk : off ≤ i ∧ i < off + xs.length
  · rw [if_pos (by simp; omega), if_pos hk, Array.getElem?_toList]; exact hlr _ (by omega)
  · rw [if_neg (by simp; omega), if_neg hk]; exact hr i hi

theorem fill_ok {D : Prot} {w : World} {s : St} {a : Act} (h : RelSt s D w a) (place : Nat → Option (Nat × Nat)) :
    ∀ (parts : List (Nat × Operand)) (c : Array Value) (cs cs' : List AV), c.size = cs.length → (∀ i, i < cs.length → RepA D w (c.getD i undef) (cs.getD i .top)) →
      xfill place cs (parts.map fun p => (p.1, ev s p.2)) = some cs' →
      ∃ c', Instr.fill place c (parts.map fun p => (p.1, a.eval p.2)) = some c' ∧ c'.size = cs'.length ∧ ∀ i, i < cs'.length → RepA D w (c'.getD i undef) (cs'.getD i .top) := by
  intro parts
  induction parts with
  | nil => intro c cs cs' hs hr hx; simp only [List.map_nil, xfill, Option.some.injEq] at hx; subst hx; exact ⟨c, rfl, hs, hr⟩
  | cons p r ih =>
    intro c cs cs' hs hr hx
    simp only [List.map_cons, xfill] at hx
    cases hp : place p.1 with
    | none => rw [hp] at hx; cases hx
    | some os =>
      obtain ⟨off, sz⟩ := os
      rw [hp] at hx
      dsimp only at hx
      split at hx
      · rename_i hcond
        obtain ⟨h1, h2, h3⟩ := hcond
        obtain ⟨hc1, hc2⟩ := (ev_rep h p.2).cells h3
        obtain ⟨hw1, hw2⟩ := writeAt_rep hs hr hc1 hc2 (off := off) (by omega)
        obtain ⟨c', hf, hcs, hcr⟩ := ih _ _ _ hw1 hw2 hx
        refine ⟨c', ?_, hcs, hcr⟩
        simp only [List.map_cons, Instr.fill, hp]
        rw [if_neg (by simp; omega)]
        have e : ((a.eval p.2).cells.zipIdx.foldl (fun cs (x : Value × Nat) => cs.setIfInBounds (off + x.2) x.1) c) = writeAt c off (a.eval p.2).cells.toList := by
          rw [← Array.foldl_toList, Array.toList_zipIdx]
          exact foldl_write off _ 0 c
        rw [← e] at hf
        exact hf
      · cases hx

/-- Places of a type's parts. -/
def fieldPlaces (P : Program) (fs : Array Field) : Nat → Option (Nat × Nat) := fun i => match fs[i]? with
  | some f => match P.info? f.type with | some i => some (f.offset, i.size) | none => none
  | none => none

def xbuild (P : Program) (t : TypeId) (e : Operand → AV) (parts : Array (Nat × Operand)) (K : AV → Prop) : Prop :=
  match TI P t, P.underlying t with
  | some (_, _, z, _), some (.struct fs) => (fs.all fun f => (P.info? f.type).isSome) = true ∧ match xfill (fieldPlaces P fs) z (parts.toList.map fun p => (p.1, e p.2)) with
    | some cs => K (.agg cs)
    | none => False
  | some (_, _, z, _), some (.array _ el) => match P.info? el with
    | some i => match xfill (fun k => some (k * i.size, i.size)) z (parts.toList.map fun p => (p.1, e p.2)) with
      | some cs => K (.agg cs)
      | none => False
    | none => False
  | _, _ => False

theorem ofV_reps (D : Prot) (w : World) (v : Array Value) : v.size = (v.toList.map ofV).length ∧ ∀ i, i < (v.toList.map ofV).length → RepA D w (v.getD i undef) ((v.toList.map ofV).getD i .top) := by
  refine ⟨by simp, fun i hi => ?_⟩
  simp only [List.length_map, Array.length_toList] at hi
  rw [map_ofV_getD _ _ hi]; exact ofV_rep D w _

section
variable {P : Program} {o : Oper} {s : St} {D : Prot} {w : World} {a : Act} {K : St → Prop}

theorem run_mapM_places (fs : Array Field) (h : (fs.all fun f => (P.info? f.type).isSome) = true) :
    ∃ places : Array (Nat × Nat), (fs.mapM fun f => do pure (f.offset, ← sizeOf f.type) : Sem (Array (Nat × Nat))).run P w = .ok places w ∧ ∀ i, places[i]? = fieldPlaces P fs i := by
  have key : ∀ l : List Field, (∀ f ∈ l, (P.info? f.type).isSome = true) → ∃ ps : List (Nat × Nat), (l.mapM fun f => do pure (f.offset, ← sizeOf f.type) : Sem (List (Nat × Nat))).run P w = .ok ps w ∧
      ∀ i : Nat, ps[i]? = match l[i]? with | some f => (match P.info? f.type with | some i => some (f.offset, i.size) | none => none) | none => none := by
    intro l
    induction l with
    | nil => intro _; exact ⟨[], rfl, fun i => by simp⟩
    | cons f r ih =>
      intro hl
      obtain ⟨ps, h1, h2⟩ := ih (fun g hg => hl g (by simp [hg]))
      have hf := hl f (by simp)
      obtain ⟨inf, hinf⟩ := Option.isSome_iff_exists.1 hf
      refine ⟨(f.offset, inf.size) :: ps, ?_, fun i => ?_⟩
      · simp only [List.mapM_cons, Sem.run_bind, run_sizeOf P w f.type hinf, Result.andThen_ok, Sem.run_pure, h1]
      · cases i with
        | zero => simp [hinf]
        | succ i => simp only [List.getElem?_cons_succ]; exact h2 i
  obtain ⟨ps, h1, h2⟩ := key fs.toList (fun f hf => by
    have := Array.all_eq_true'.1 h f (Array.mem_toList_iff.1 hf); exact this)
  refine ⟨ps.toArray, ?_, fun i => ?_⟩
  · rw [Array.mapM_eq_mapM_toList]
    simp only [Sem.run_map, h1, Result.andThen_ok]
  · have := h2 i
    simp only [fieldPlaces]
    simpa using this

theorem build_ok {t : TypeId} {parts : Array (Nat × Operand)} (h : RelSt s D w a) (hd : dstOk o s) (ho : o.op = .build t parts) (hx : xbuild P t (ev s) parts (fun y => K (s.put o.dst y))) : OpWP P o (Post s D w K) a w := by
  unfold xbuild at hx
  have hparts : (parts.map fun (i, x) => (i, a.eval x)).toList = parts.toList.map fun p => (p.1, a.eval p.2) := by simp
  split at hx
  · rename_i ag sz z by' fs hti hu
    obtain ⟨hall, hx⟩ := hx
    obtain ⟨i, d, v, hi, hu', hz, _, _, hzz, _⟩ := TI_some hti
    subst hzz
    split at hx
    · rename_i cs hcs
      obtain ⟨c', hf, h1, h2⟩ := fill_ok h _ _ _ _ _ (ofV_reps D w v.cells).1 (ofV_reps D w v.cells).2 hcs
      obtain ⟨places, hpl, hpi⟩ := run_mapM_places (P := P) (w := w) fs hall
      have hpf : (fun k => places[k]?) = fieldPlaces P fs := funext hpi
      refine val_ok h hd ?_ (.agg c' cs h1 h2) hx
      simp only [execOp, ho, Instr.build, Sem.run_bind, run_zeroValue P w t hi hz, Result.andThen_ok, run_underlying, hu, hpl, hparts, hpf, hf, Sem.run_pure]
    · exact hx.elim
  · rename_i ag sz z by' n e hti hu
    obtain ⟨i, d, v, hi, hu', hz, _, _, hzz, _⟩ := TI_some hti
    subst hzz
    split at hx
    · rename_i inf hinf
      split at hx
      · rename_i cs hcs
        obtain ⟨c', hf, h1, h2⟩ := fill_ok h _ _ _ _ _ (ofV_reps D w v.cells).1 (ofV_reps D w v.cells).2 hcs
        refine val_ok h hd ?_ (.agg c' cs h1 h2) hx
        simp only [execOp, ho, Instr.build, Sem.run_bind, run_zeroValue P w t hi hz, Result.andThen_ok, run_underlying, hu, run_sizeOf P w e hinf, hparts, hf, Sem.run_pure]
      · exact hx.elim
    · exact hx.elim
  · exact hx.elim

/-- Data, if it is. -/
def pvA : AV → Option PV
  | .p v => some v
  | .nils => some (.sl [])
  | .cs els => some (.sl els)
  | .ts _ _ _ els => some (.sl els)
  | _ => none
def pvs : List AV → Option (List PV)
  | [] => some []
  | x :: r => match pvA x, pvs r with | some v, some l => some (v :: l) | _, _ => none

theorem pvA_rep {v : Value} {x : AV} {p : PV} (h : RepA D w v x) (hx : pvA x = some p) : Rep D w v p := by
  cases h <;> simp [pvA] at hx
  case p h => subst hx; exact h
  case nils => subst hx; exact .nil none
  case cs h => subst hx; exact h
  case tsc h => subst hx; exact h
  case ts h _ _ => subst hx; exact h

theorem pvs_get : ∀ (l : List AV) (ps : List PV), pvs l = some ps → ps.length = l.length ∧ ∀ i, i < l.length → pvA (l.getD i .top) = some (ps.getD i default) := by
  intro l
  induction l with
  | nil => intro ps h; simp only [pvs, Option.some.injEq] at h; subst h; exact ⟨rfl, fun i hi => by simp at hi⟩
  | cons x r ih =>
    intro ps h
    simp only [pvs] at h
    split at h
    · rename_i v l h1 h2
      simp only [Option.some.injEq] at h; subst h
      obtain ⟨i1, i2⟩ := ih _ h2
      refine ⟨by simp [i1], fun i hi => ?_⟩
      cases i with
      | zero => simpa using h1
      | succ i => simpa using i2 i (by simpa using hi)
    · cases h

/-- The elements, of so many cells each. -/
def chunks (z n : Nat) (l : List PV) : List (List PV) := (List.range n).map fun i => (l.drop (i * z)).take z

def xbuildSlice (P : Program) (t : TypeId) (len : Nat) (e : Operand → AV) (parts : Array (Nat × Operand)) (K : AV → Prop) : Prop :=
  match XI P t with
  | some (none, sz, el) => match TI P el with
    | some (_, _, z, _) => z.length = sz ∧ len * sz ≤ 2 ^ 24 ∧ match xfill (fun k => some (k * sz, sz)) ((List.range (len * sz)).map fun k => z.getD (k % z.length) .top) (parts.toList.map fun p => (p.1, e p.2)) with
      | some cs => match pvs cs with
        | some ps => K (.cs (chunks sz len ps))
        | none => False
      | none => False
    | none => False
  | _ => False

theorem buildSlice_ok {t : TypeId} {len : Nat} {parts : Array (Nat × Operand)} (h : RelSt s D w a) (hd : dstOk o s) (ho : o.op = .buildSlice t len parts) (hx : xbuildSlice P t len (ev s) parts (fun y => K (s.put o.dst y))) : OpWP P o (Post s D w K) a w := by
  unfold xbuildSlice at hx
  have hparts : (parts.map fun (i, x) => (i, a.eval x)).toList = parts.toList.map fun p => (p.1, a.eval p.2) := by simp
  split at hx
  · rename_i sz e hxi
    obtain ⟨hu, inf, hinf, hsz⟩ := XI_slice hxi
    split at hx
    · rename_i ag sz' z by' hti
      obtain ⟨i, d, v, hi, hu', hz, _, hisz, hzz, _⟩ := TI_some hti
      rw [hinf] at hi; cases hi
      subst hzz
      obtain ⟨hzl, hbig, hx⟩ := hx
      simp only [List.length_map, Array.length_toList] at hzl
      -- the zero cells
      let zero : Array Value := if len * sz = 0 then #[] else v.cells
      have hzrun : (if len * sz = 0 then pure #[] else do pure (← zeroValue e).cells : Sem (Array Value)).run P w = .ok zero w := by
        by_cases h0 : len * sz = 0
        · rw [if_pos h0]; simp only [zero, if_pos h0]; rfl
        · rw [if_neg h0]; simp only [zero, if_neg h0, Sem.run_bind, run_zeroValue P w e hinf hz, Result.andThen_ok, Sem.run_pure]
      have hini : ((Array.range (len * sz)).map (fun k => zero[k % zero.size]!)).size = ((List.range (len * sz)).map fun k => (v.cells.toList.map ofV).getD (k % (v.cells.toList.map ofV).length) .top).length ∧
          ∀ k, k < ((List.range (len * sz)).map fun k => (v.cells.toList.map ofV).getD (k % (v.cells.toList.map ofV).length) .top).length →
            RepA D w (((Array.range (len * sz)).map (fun k => zero[k % zero.size]!)).getD k undef) (((List.range (len * sz)).map fun k => (v.cells.toList.map ofV).getD (k % (v.cells.toList.map ofV).length) .top).getD k .top) := by
        refine ⟨by simp, fun k hk => ?_⟩
        simp only [List.length_map, List.length_range] at hk
        have hne : len * sz ≠ 0 := by omega
        have hszp : 0 < sz := Nat.pos_of_ne_zero (fun e => hne (by rw [e]; simp))
        have hmod : k % v.cells.size < v.cells.size := Nat.mod_lt _ (by omega)
        have e1 : ((Array.range (len * sz)).map (fun k => zero[k % zero.size]!)).getD k undef = v.cells.getD (k % v.cells.size) undef := by
          simp only [zero, if_neg hne]
          rw [Array.getD_eq_getD_getElem?, Array.getElem?_map, Array.getElem?_range, if_pos hk]
          rw [Array.getD_eq_getD_getElem?, Array.getElem?_eq_getElem hmod]
          exact getElem!_pos v.cells (k % v.cells.size) hmod
        have e2 : ((List.range (len * sz)).map fun k => (v.cells.toList.map ofV).getD (k % (v.cells.toList.map ofV).length) .top).getD k .top = ofV (v.cells.getD (k % v.cells.size) undef) := by
          rw [List.getD_eq_getElem?_getD, List.getElem?_map, List.getElem?_range hk]
          simp only [Option.map_some, Option.getD_some, List.length_map, Array.length_toList]
          exact map_ofV_getD _ _ hmod
        rw [e1, e2]; exact ofV_rep D w _
      split at hx
      · rename_i cs hcs
        split at hx
        · rename_i ps hps
          obtain ⟨c', hf, h1, h2⟩ := fill_ok h _ _ _ _ _ hini.1 hini.2 hcs
          obtain ⟨p1, p2⟩ := pvs_get _ _ hps
          have hcl : cs.length = len * sz := by
            have : ∀ (parts : List (Nat × AV)) (c c' : List AV), xfill (fun k => some (k * sz, sz)) c parts = some c' → c'.length = c.length := by
              intro parts
              induction parts with
              | nil => intro c c' h; simp only [xfill, Option.some.injEq] at h; rw [h]
              | cons p r ih =>
                intro c c' h
                simp only [xfill] at h
                split at h
                · rename_i hc
                  have := ih _ _ h
                  rw [this, splice_length _ _ _ (by omega)]
                · cases h
            have := this _ _ _ hcs
            simpa using this
          have hnew := push_free h.rel (.cells c' e (0, 0)) (len * sz)
          refine valw_ok h hd (v := .slice (some ⟨w.heap.size, 0, none⟩) len len) ?_ hnew.1 hnew.2 h.df ?_ hx
          · simp only [execOp, ho, Instr.buildSlice, Sem.run_bind, run_underlying, hu, Result.andThen_ok, run_sizeOf P w e hinf, hsz]
            rw [if_neg (by omega)]
            by_cases h0 : len * sz = 0
            · simp only [zero, if_pos h0] at hf
              simp only [if_pos h0, Sem.run_bind, Sem.run_pure, Result.andThen_ok, hparts, hf, newRow, newObj, Sem.run]
              rfl
            · simp only [zero, if_neg h0] at hf
              simp only [if_neg h0, Sem.run_bind, run_zeroValue P w e hinf hz, Sem.run_pure, Result.andThen_ok, hparts, hf, newRow, newObj, Sem.run]
              rfl
          · have hcell : ∀ k, k < len * sz → (World.push w (.cells c' e (0, 0))).cell? ⟨w.heap.size, k, none⟩ = some (c'.getD k undef) := by
              intro k hk
              rw [cell_cells (push_new w _)]
              simp only [Array.getD]; rw [dif_pos (by omega)]; exact Array.getElem?_eq_getElem (by omega)
            have hlen : (chunks sz len ps).length = len := by simp [chunks]
            have := Rep.sl (D := Prot.up D w.heap.size (len * sz)) (w := World.push w (.cells c' e (0, 0))) w.heap.size 0 len sz (chunks sz len ps) (fun i j => c'.getD (i * sz + j) undef) (by omega)
              (fun el hel => by
                simp only [chunks, List.mem_map, List.mem_range] at hel
                obtain ⟨i, hi, rfl⟩ := hel
                have : (i + 1) * sz ≤ len * sz := Nat.mul_le_mul_right _ hi
                rw [Nat.add_mul] at this
                simp; omega)
              (fun i j hi hj => by
                rw [hlen] at hi
                have : (i + 1) * sz ≤ len * sz := Nat.mul_le_mul_right _ hi
                rw [Nat.add_mul] at this
                refine ⟨by rw [Nat.zero_add]; exact hcell _ (by omega), ?_⟩
                simp only [Prot.up, if_true]; omega)
              (fun i j hi hj => by
                rw [hlen] at hi
                have : (i + 1) * sz ≤ len * sz := Nat.mul_le_mul_right _ hi
                rw [Nat.add_mul] at this
                have e1 : ((chunks sz len ps).getD i []).getD j default = ps.getD (i * sz + j) default := by
                  simp only [chunks, List.getD_eq_getElem?_getD, List.getElem?_map, List.getElem?_range hi, Option.map_some, Option.getD_some, List.getElem?_take, List.getElem?_drop]
                  rw [if_pos hj]
                rw [e1]
                exact (pvA_rep (h2 _ (by omega)) (p2 _ (by omega))).later hnew.2.toLater)
            rw [hlen] at this
            exact .cs this
        · exact hx.elim
      · exact hx.elim
    · exact hx.elim
  · exact hx.elim
end
end Go.Sk
