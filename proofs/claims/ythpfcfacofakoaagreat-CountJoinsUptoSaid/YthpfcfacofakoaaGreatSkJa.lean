/- Slices that are written: make, copy, clear, append where there is room. -/
import Derived.Test.YthpfcfacofakoaaGreatSkJm
set_option linter.unusedSimpArgs false
set_option linter.unusedVariables false
set_option linter.unusedSectionVars false
namespace Go.Sk
open Go

/-- So many times the same cells. -/
def zcs (z : List AV) (n : Nat) : List AV := (List.replicate n z).flatten
theorem zcs_length (z : List AV) (n : Nat) : (zcs z n).length = n * z.length := by simp [zcs]
theorem zcs_getD (z : List AV) : ∀ (n i : Nat), i < n * z.length → (zcs z n).getD i .top = z.getD (i % z.length) .top := by
  intro n
  induction n with
  | zero => intro i hi; simp at hi
  | succ n ih =>
    intro i hi
    have e : zcs z (n + 1) = z ++ zcs z n := by simp [zcs, List.replicate_succ]
    rw [e]
    simp only [List.getD_eq_getElem?_getD] at ih ⊢
    by_cases h : i < z.length
    · rw [List.getElem?_append_left h, Nat.mod_eq_of_lt h]
    · rw [List.getElem?_append_right (by omega), ih _ (by rw [Nat.add_mul] at hi; omega)]
      rw [Nat.mod_eq_sub_mod (by omega : i ≥ z.length)]

/-- The elements that a value shows, cell by cell. -/
def viewA (S : Store) (x : AV) : Option (Nat × Nat × List AV) :=
  match x with
  | .ms b z o n _ => match S (.r b) with
    | some (.cells cs) => if o + n * z ≤ cs.length then some (n, z, (cs.drop o).take (n * z)) else none
    | _ => none
  | _ => none
/-- What is copied: of data, or of a slice that is written. -/
def srcA (S : Store) (sz : Nat) (x : AV) : Option (Nat × List AV) :=
  match x with
  | .ms .. => match viewA S x with | some (n, z, l) => if z = sz then some (n, l) else none | none => none
  | _ => match pureS x with | some els => if els.all (fun el => el.length == sz) = true then some (els.length, flatA els) else none | none => none

def xmake (P : Program) (t : TypeId) (S : Store) (x y : AV) (K : AV → Store → Prop) : Prop :=
  match XI P t, intA x, intA y with
  | some (none, sz, e), some l, some c => match TI P e with
    | some (_, sz', z, by') => sz' = sz ∧ z.length = sz ∧ 0 ≤ l ∧ l ≤ c ∧ c.toNat * by' ≤ 2 ^ 47 ∧ c < 2 ^ 62 ∧
        ∀ b, S (.r b) = none → K (.ms b sz 0 l.toNat c.toNat) (S.set (.r b) (.cells (zcs z c.toNat)))
    | none => False
  | _, _, _ => False
def xcap (d : Option TypeDesc) (x : AV) (K : AV → Prop) : Prop :=
  match d with
  | some (.slice _) => match x with
    | .nils => K (.p (.int .i64 0))
    | .cs els => K (.p (.int .i64 els.length))
    | .ms _ _ _ _ c => K (.p (.int .i64 c))
    | _ => False
  | _ => False
def xcopy (P : Program) (t : TypeId) (S : Store) (x y : AV) (K : AV → Store → Prop) : Prop :=
  match XI P t, x with
  | some (none, sz, _), .ms b z o n _ => z = sz ∧ match S (.r b), srcA S sz y with
    | some (.cells cs), some (m, l) => o + n * sz ≤ cs.length ∧ (l.take (min m n * sz)).all scalar = true ∧ K (.p (.int .i64 (min m n : Nat))) (S.set (.r b) (.cells (splice cs o (l.take (min m n * sz)))))
    | _, _ => False
  | _, _ => False
def xclear (P : Program) (t : TypeId) (S : Store) (x : AV) (K : AV → Store → Prop) : Prop :=
  match XI P t, x with
  | some (none, sz, e), .ms b z o n _ => z = sz ∧ match S (.r b), TI P e with
    | some (.cells cs), some (_, _, zz, _) => zz.length = sz ∧ zz.all scalar = true ∧ o + n * sz ≤ cs.length ∧ K (.tuple []) (S.set (.r b) (.cells (splice cs o (zcs zz n))))
    | _, _ => False
  | _, _ => False
/-- append: to a slice that is written, where there is room; zeros to nil; all else as ever. -/
def xapp0 (P : Program) (t : TypeId) (S : Store) (x y : AV) (K : AV → Store → Prop) : Prop :=
  match XI P t, x, intA y with
  | some (none, sz, e), .nils, some n => match TI P e with
    | some (_, sz', z, by') => sz' = sz ∧ z.length = sz ∧ 0 < n ∧ n.toNat * by' ≤ 2 ^ 47 ∧ n < 2 ^ 62 ∧
        ∀ b c, S (.r b) = none → n.toNat ≤ c → K (.ms b sz 0 n.toNat c) (S.set (.r b) (.cells (zcs z c)))
    | none => False
  | _, _, _ => False
/-- Appended to a slice that is written: where it lies, or it moves. -/
def MoreP (z b o n c m by' : Nat) (cs l : List AV) (S : Store) (K : AV → Store → Prop) : Prop :=
  (n + m ≤ c → o + (n + m) * z ≤ cs.length ∧ K (.ms b z o (n + m) c) (S.set (.r b) (.cells (splice cs (o + n * z) l)))) ∧
  (c < n + m → (n + m) * by' ≤ 2 ^ 47 ∧ n + m < 2 ^ 62 ∧ ∀ b' c', S (.r b') = none → n + m ≤ c' →
    K (.ms b' z 0 (n + m) c') (S.set (.r b') (.cells ((cs.drop o).take (n * z) ++ l ++ List.replicate ((c' - (n + m)) * z) .top))))
def xapp1 (P : Program) (t : TypeId) (S : Store) (x y : AV) (K : AV → Store → Prop) : Prop :=
  match x with
  | .ms b z o n c => match XI P t, S (.r b) with
    | some (none, sz, e), some (.cells cs) => z = sz ∧ match srcA S sz y with
      | some (m, l) => match TI P e with
        | some (_, _, zz, by') => zz.length = sz ∧ o + n * sz ≤ cs.length ∧ l.all scalar = true ∧ MoreP sz b o n c m by' cs l S K
        | none => False
      | none => False
    | _, _ => False
  | x => xappend P t S x y K
def xappX (P : Program) (t u : TypeId) (S : Store) (x y : AV) (K : AV → Store → Prop) : Prop :=
  match P.underlying u with
  | some (.int _) => xapp0 P t S x y K
  | some (.slice _) => xapp1 P t S x y K
  | some .string => xapp1 P t S x y K
  | _ => False

/-- A function value called: with what is data as such, or as it is. -/
def FunA (P : Program) (f : AV) (args : List AV) (S : Store) (R : AV → Store → Prop) : Prop := FunR P f (args.map reif) S R ∨ FunR P f args S R
def xcallX (P : Program) (c : Call) (e : Operand → AV) (S : Store) (kd : Store → Prop) (C : AV → Store → Prop) : Prop :=
  match c.callee with
  | .builtin .cap => match c.args.toList, c.argTypes.toList with | [x], [t] => xcap (P.underlying t) (e x) (fun v => C v S) | _, _ => False
  | .builtin .copy => match c.args.toList, c.argTypes.toList with | [x, y], [t, _] => xcopy P t S (e x) (e y) C | _, _ => False
  | .builtin .clear => match c.args.toList, c.argTypes.toList with | [x], [t] => xclear P t S (e x) C | _, _ => False
  | .builtin .append => match c.args.toList, c.argTypes.toList with | [x, y], [t, u] => xappX P t u S (e x) (e y) C | _, _ => False
  | .value f => FunA P (e f) (c.args.toList.map e) S (fun x S' => kd S' ∧ C x S')
  | _ => xcall P c e S kd C
def xopX (P : Program) (o : Oper) (e : Operand → AV) (S : Store) (kd : Store → Prop) (C : AV → Store → Prop) : Prop :=
  match o.op with
  | .makeSlice t l c => xmake P t S (e l) (e c) C
  | .call c => xcallX P c e S kd C
  | .makeMap t none => xmakeMap P t S C
  | .lookup t x k ok => xlookup P t S (e x) (e k) ok (fun y => C y S)
  | .mapUpdate t x k y => xmapUpdate P t S (e x) (e k) (e y) (fun S' => C .top S')
  | .range t x => xrange P t S (e x) C
  | .next x false => xnext S (e x) C
  | .entry x => xentry S (e x) (fun y => C y S)
  | _ => xopG P o e S kd C

def xop (P : Program) (o : Oper) (K : St → Prop) (s : St) : Prop :=
  dstOk o s ∧ match o.op with
  | .binOp op t x (.const (.slice none 0 0)) _ => xisnil (P.underlying t) op (ev s x) (fun z => K (s.put o.dst z))
  | _ => xopX P o (ev s) s.S (keepDf s) (fun x S' => K ((s.withS S').put o.dst x))

section
variable {P : Program} {o : Oper} {s : St} {D : Prot} {w : World} {a : Act} {K : St → Prop}

/-- Cells written into an owned block. -/
theorem put_cells {S : Store} (hR : Rel S D w) {b off : Nat} {cs : List AV} (hb : S (.r b) = some (.cells cs)) (l : List Value) (xs : List AV) (hl : l.length = xs.length)
    (hr : ∀ i, i < xs.length → RepA D w (l.getD i undef) (xs.getD i .top)) (hsc : xs.all scalar = true) (hfit : off + xs.length ≤ cs.length) :
    ∃ w' D', (storeCells ⟨b, off, none⟩ l).run P w = .ok () w' ∧ Rel (S.set (.r b) (.cells (splice cs off xs))) D' w' ∧ Ext S D w (S.set (.r b) (.cells (splice cs off xs))) D' w' := by
  obtain ⟨vs, ty, hh, hsz, hrep, hD⟩ := hR.blk _ _ hb
  have hsc2 : ∀ u ∈ l, (∀ c, u ≠ .agg c) ∧ (∀ c, u ≠ .tuple c) := by
    intro u hu
    obtain ⟨k, hk, hku⟩ := List.getElem_of_mem hu
    have hr' := hr k (by omega)
    have : l.getD k undef = u := by simp [List.getD_eq_getElem?_getD, hk, hku]
    rw [this] at hr'
    refine hr'.scalar_ok ?_
    exact List.all_eq_true.1 hsc (xs.getD k .top) (by rw [List.getD_eq_getElem?_getD, List.getElem?_eq_getElem (by omega)]; exact List.getElem_mem _)
  have hrun := run_storeCells P b ty l hsc2 w off 0 vs hh (by omega)
  have hwsz := writeAt_size vs (off + 0) l
  have hlater := put_later (D := D) (n := 0) hh (vs' := writeAt vs (off + 0) l) (by omega) (by omega) (fun o ho => by omega)
  have hput := put_own hR (b := b) (by rw [hb]; simp) hh hwsz.symm hD (.cells (splice cs off xs)) ⟨_, ty, putO_same w _ (Array.getElem?_eq_some_iff.1 hh).1, by
    rw [hwsz, splice_length _ _ _ (by omega)]; exact hsz, fun k hk => ?_, by simp [Prot.up]⟩
  · exact ⟨_, _, hrun, hput.1, hput.2⟩
  · rw [splice_length _ _ _ (by omega)] at hk
    rw [splice_getD _ _ _ (by omega)]
    have hg := writeAt_get l vs (off + 0) k (by omega)
    simp only [Array.getD_eq_getD_getElem?]
    rw [hg]
    by_cases hk2 : off ≤ k ∧ k < off + xs.length
    · rw [if_pos (by omega), if_pos hk2]
      have := hr (k - off) (by omega)
      rw [List.getD_eq_getElem?_getD] at this
      exact this.later hlater
    · rw [if_neg (by omega), if_neg hk2]
      have := hrep k hk
      simp only [Array.getD_eq_getD_getElem?] at this
      exact this.later hlater

theorem getD_take_drop (cs : List AV) (o n i : Nat) (h : i < n) : ((cs.drop o).take n).getD i .top = cs.getD (o + i) .top := by
  simp only [List.getD_eq_getElem?_getD, List.getElem?_take, List.getElem?_drop]; rw [if_pos h]

/-- Cells read out of an owned block. -/
theorem read_cells {S : Store} (hR : Rel S D w) {b off n : Nat} {cs : List AV} (hb : S (.r b) = some (.cells cs)) (hfit : off + n ≤ cs.length) :
    ∃ c : Array Value, (loadCells ⟨b, off, none⟩ n).run P w = .ok c w ∧ c.size = n ∧ ∀ i, i < n → RepA D w (c.getD i undef) (((cs.drop off).take n).getD i .top) := by
  obtain ⟨vs, ty, hh, hsz, hrep, hD⟩ := hR.blk _ _ hb
  refine ⟨Array.ofFn fun j : Fin n => vs.getD (off + j) undef, ?_, by simp, fun i hi => ?_⟩
  · simp only [loadCells]
    rw [run_loadCellsFrom P w ⟨b, off, none⟩ (fun k => vs.getD (off + k) undef) n 0 #[] (fun j hj => ?_)]
    · simp
    · rw [Addr.add_mk, cell_cells hh]
      simp only [Array.getD, Nat.zero_add]; rw [dif_pos (by omega)]; exact Array.getElem?_eq_getElem (by omega)
  · rw [ofFn_getD n (fun k => vs.getD (off + k) undef) i hi, getD_take_drop _ _ _ _ hi]
    exact hrep _ (by omega)

/-- What is to be copied, read. -/
theorem src_cells {S : Store} (hR : Rel S D w) {vy : Value} {y : AV} {sz m : Nat} {l : List AV} (hy : RepA D w vy y) (hs : srcA S sz y = some (m, l)) :
    (Builtin.lenOf vy).run P w = .ok m w ∧ l.length = m * sz ∧ ∀ k, k ≤ m → ∃ c : Array Value, (Builtin.firstCells sz k vy).run P w = .ok c w ∧ c.size = k * sz ∧ ∀ i, i < k * sz → RepA D w (c.getD i undef) (l.getD i .top) := by
  have data : ∀ els, Rep D w vy (.sl els) → els.all (fun el => el.length == sz) = true → (Builtin.lenOf vy).run P w = .ok els.length w ∧ (flatA els).length = els.length * sz ∧
      ∀ k, k ≤ els.length → ∃ c : Array Value, (Builtin.firstCells sz k vy).run P w = .ok c w ∧ c.size = k * sz ∧ ∀ i, i < k * sz → RepA D w (c.getD i undef) ((flatA els).getD i .top) := by
    intro els hp hall
    have hall' : ∀ el ∈ els, el.length = sz := fun el hel => by simpa using List.all_eq_true.1 hall el hel
    refine ⟨?_, flatA_length hall', fun k hk => ?_⟩
    · rcases hp.sl_inv with ⟨_, h1, rfl⟩ | ⟨b, off, cap, z, vs, h1, _⟩ <;> rw [h1] <;> rfl
    · rcases hp.sl_inv with ⟨a0, rfl, rfl⟩ | ⟨b, off, cap, z, vs, rfl, hcap, hz, hc, hr⟩
      · have : k = 0 := by simpa using hk
        subst this
        exact ⟨#[], by cases a0 <;> simp [Builtin.firstCells, loadCells, loadCellsFrom], by simp, fun i hi => by simp at hi⟩
      · by_cases h0 : k * sz = 0
        · refine ⟨#[], ?_, by simp [h0], fun i hi => by omega⟩
          simp [Builtin.firstCells, loadCells, h0, loadCellsFrom]
        · have hzp : 0 < sz := Nat.pos_of_ne_zero (fun e => h0 (by rw [e, Nat.mul_zero]))
          have hkp : 0 < k := Nat.pos_of_ne_zero (fun e => h0 (by rw [e, Nat.zero_mul]))
          have hzz : z = sz := by
            have hin : 0 < els.length := by omega
            rw [← hall' _ (getD_mem (d := []) hin)]; exact (hz _ (getD_mem hin)).symm
          subst hzz
          have dv : ∀ i, i < k * z → i / z < els.length ∧ i % z < z ∧ i / z * z + i % z = i := fun i hi =>
            ⟨Nat.lt_of_lt_of_le (Nat.div_lt_of_lt_mul (by rw [Nat.mul_comm]; exact hi)) hk, Nat.mod_lt _ hzp, Nat.div_add_mod' i z⟩
          refine ⟨Array.ofFn fun j : Fin (k * z) => vs (j / z) (j % z), ?_, by simp, fun i hi => ?_⟩
          · simp only [Builtin.firstCells, loadCells]
            rw [run_loadCellsFrom P w ⟨b, off, none⟩ (fun k => vs (k / z) (k % z)) _ 0 #[] (fun j hj => ?_)]
            · simp
            · obtain ⟨d1, d2, d3⟩ := dv j hj
              have := (hc (j / z) (j % z) d1 d2).1
              rw [Addr.add_mk, Nat.zero_add]
              rw [Nat.add_assoc, d3] at this
              exact this
          · obtain ⟨d1, d2, d3⟩ := dv i hi
            have hg := ofFn_getD (k * z) (fun k => vs (k / z) (k % z)) i hi
            have hf := flatA_getD hall' (i / z) (i % z) d1 d2
            rw [d3] at hf
            rw [hg, hf]
            exact .p (hr _ _ d1 d2)
  unfold srcA at hs
  split at hs
  · rename_i b z o n c
    split at hs
    · rename_i n' z' l' hv
      split at hs
      · rename_i hzz
        subst hzz
        simp only [Option.some.injEq, Prod.mk.injEq] at hs
        obtain ⟨rfl, rfl⟩ := hs
        unfold viewA at hv
        dsimp only at hv
        split at hv
        · rename_i cs hb
          split at hv
          · rename_i hfit
            simp only [Option.some.injEq, Prod.mk.injEq] at hv
            obtain ⟨rfl, rfl, rfl⟩ := hv
            cases hy with
            | ms _ _ _ o2 _ _ hn hc ho =>
              refine ⟨rfl, by simp; omega, fun k hk => ?_⟩
              by_cases hk0 : k = 0
              · subst hk0
                refine ⟨#[], ?_, by simp, fun i hi => by simp at hi⟩
                simp [Builtin.firstCells, loadCells, loadCellsFrom]
              · have := ho (by omega)
                subst this
                have hkz : k * z ≤ n * z := Nat.mul_le_mul_right _ hk
                obtain ⟨c', h1, h2, h3⟩ := read_cells (P := P) hR (off := o2) (n := k * z) hb (by omega)
                refine ⟨c', h1, h2, fun i hi => ?_⟩
                have := h3 i hi
                rw [getD_take_drop _ _ _ _ hi] at this
                rw [getD_take_drop _ _ _ _ (by omega)]; exact this
          · cases hv
        · cases hv
      · cases hs
    · cases hs
  · split at hs
    · rename_i els hels
      split at hs
      · rename_i hall
        cases hs
        exact data els (pureS_rep hy hels) hall
      · cases hs
    · cases hs

theorem df_raw {s : St} {S' : Store} (h : ∀ r ∈ s.df, s.S (.r r) = some (.raw (.deferred (some [])) noKn)) (hk : ∀ r o kn, s.S (.r r) = some (.raw o kn) → S' (.r r) = some (.raw o kn)) : ∀ r ∈ s.df, S' (.r r) = some (.raw (.deferred (some [])) noKn) :=
  fun r hr => hk _ _ _ (h r hr)
theorem raw_new {S : Store} {b : Nat} {x : Blk} (hb : S (.r b) = none) : ∀ r o kn, S (.r r) = some (.raw o kn) → (S.set (.r b) x) (.r r) = some (.raw o kn) := fun r o kn hr => by
  rw [Store.set_other _ _ (by rintro e; cases e; rw [hb] at hr; cases hr)]; exact hr
theorem raw_cells {S : Store} {b : Nat} {cs : List AV} {x : Blk} (hb : S (.r b) = some (.cells cs)) : ∀ r o kn, S (.r r) = some (.raw o kn) → (S.set (.r b) x) (.r r) = some (.raw o kn) := fun r o kn hr => by
  rw [Store.set_other _ _ (by rintro e; cases e; rw [hb] at hr; cases hr)]; exact hr

theorem intA_val {v : Value} {x : AV} {i : Int} (h : RepA D w v x) (hx : intA x = some i) : ∃ k, v = .int k i := by
  unfold intA at hx
  split at hx
  · cases hx; have h := h.inv; cases h; exact ⟨_, rfl⟩
  · cases hx

theorem zero_cells {z : Array Value} (n : Nat) : ∀ i, i < n * z.size → RepA D w (((Array.range (n * z.size)).map (fun i => z[i % z.size]!)).getD i undef) ((zcs (z.toList.map ofV) n).getD i .top) := by
  intro i hi
  have hzp : 0 < z.size := Nat.pos_of_ne_zero (fun e => by rw [e, Nat.mul_zero] at hi; omega)
  have hm := Nat.mod_lt i hzp
  rw [zcs_getD _ _ _ (by simpa using hi)]
  simp only [List.length_map, Array.length_toList]
  rw [map_ofV_getD _ _ hm]
  have : ((Array.range (n * z.size)).map (fun i => z[i % z.size]!)).getD i undef = z.getD (i % z.size) undef := by
    simp [Array.getD, hi, hm]
  rw [this]; exact ofV_rep _ _ _

theorem make_ok {t : TypeId} {x y : Operand} (h : RelSt s D w a) (hd : dstOk o s) (ho : o.op = .makeSlice t x y) (hx : xmake P t s.S (ev s x) (ev s y) (fun x S' => K ((s.withS S').put o.dst x))) : OpWP P o (Post s D w K) a w := by
  unfold xmake at hx
  split at hx
  · rename_i sz e l c hxi hl hc
    obtain ⟨hu, inf, hinf, hsz⟩ := XI_slice hxi
    split at hx
    · rename_i ag sz' z by' hti
      obtain ⟨i, dd, zv, hi, hu', hz, _, hisz, hzz, hby⟩ := TI_some hti
      rw [hinf] at hi; cases hi
      subst hzz
      obtain ⟨rfl, hzl, h0, h1, hb, hlt, hK⟩ := hx
      simp only [List.length_map, Array.length_toList] at hzl
      obtain ⟨k1, e1⟩ := intA_val (ev_rep h x) hl
      obtain ⟨k2, e2⟩ := intA_val (ev_rep h y) hc
      have w1 : IntKind.i64.wrap l = l := by unfold IntKind.wrap; simp [IntKind.bits, IntKind.signed]; omega
      have w2 : IntKind.i64.wrap c = c := by unfold IntKind.wrap; simp [IntKind.bits, IntKind.signed]; omega
      let cells : Array Value := (Array.range (c.toNat * zv.cells.size)).map (fun i => zv.cells[i % zv.cells.size]!)
      have hcs : cells.size = c.toNat * zv.cells.size := by simp [cells]
      have hnew := new_cells h.rel e cells (zcs (zv.cells.toList.map ofV) c.toNat) (by rw [zcs_length]; simp [cells]) (fun i hi => by
        rw [zcs_length] at hi
        exact zero_cells c.toNat i (by simpa using hi))
      refine valw_ok (v := .slice (some ⟨w.heap.size, 0, none⟩) l.toNat c.toNat) h hd ?_ hnew.1 hnew.2 (df_raw h.df (raw_new h.rel.newr)) (.ms _ _ _ _ _ _ (by omega) ?_ (fun _ => rfl)) (hK _ h.rel.newr)
      · have hbig : ¬ ((inf.bytes : Int) * c > 2 ^ 48) := by
          rw [hby]
          have e3 : c = (c.toNat : Int) := by omega
          rw [e3, ← Int.natCast_mul, Nat.mul_comm]; omega
        have cond : (decide (c < 0) || decide ((inf.bytes : Int) * c > 2 ^ 48)) = false := by simp; omega
        have hcond2 : ¬ (((decide (c < 0) || decide ((inf.bytes : Int) * c > 2 ^ 48)) = true ∨ l < 0) ∨ l > c) := by rw [cond]; simp; omega
        simp only [execOp, ho, e1, e2, Instr.makeSlice, asInt, asIntOf, Sem.run_bind, Sem.run_pure, Result.andThen_ok, run_underlying, hu, run_typeInfo, hinf, w1, w2]
        have hn : ¬ ((decide (c < 0) || decide ((inf.bytes : Int) * c > 2 ^ 48) || decide (l < 0) || decide (l > c)) = true) := by
          rw [cond]; simp; omega
        rw [if_neg (by simpa using hn)]
        simp only [Sem.run_bind, run_askRoom, Sem.run_pure, Result.andThen_ok, run_sizeOf P w e hinf, newRow, newObj, Sem.run]
        by_cases hz0 : c.toNat * inf.size = 0
        · rw [if_pos hz0]
          have : cells = (Array.range (c.toNat * inf.size)).map (fun i => (#[] : Array Value)[i % (#[] : Array Value).size]!) := by
            have h2 : c.toNat * zv.cells.size = 0 := by rw [hzl, ← hisz]; exact hz0
            simp [cells, h2, hz0]
          simp only [Sem.run_pure, Result.andThen_ok, Sem.run_bind, Sem.run, ← this]
          rfl
        · rw [if_neg hz0]
          have : cells = (Array.range (c.toNat * inf.size)).map (fun i => zv.cells[i % zv.cells.size]!) := by
            have h2 : zv.cells.size = inf.size := by rw [hzl, ← hisz]
            show (Array.range (c.toNat * zv.cells.size)).map _ = _
            rw [h2]
          simp only [run_zeroValue P _ e hinf hz, Sem.run_pure, Result.andThen_ok, Sem.run_bind, Sem.run, ← this]
          rfl
      · rw [bsize_cells (push_new w _), hcs, hzl]; omega
    · exact hx.elim
  · exact hx.elim

theorem cap_ok {x : Operand} {t : TypeId} (h : RelSt s D w a) (hd : dstOk o s) (ho : o.op = .call { callee := .builtin .cap, args := #[x], argTypes := #[t] }) (hx : xcap (P.underlying t) (ev s x) (fun y => K (s.put o.dst y))) :
    OpWP P o (Post s D w K) a w := by
  have hr := ev_rep h x
  unfold xcap at hx
  split at hx
  · rename_i e hu
    have run : ∀ b m c, a.eval x = .slice b m c → (execOp a.eval o).run P w = .ok (.value (.int .i64 c)) w := by
      intro b m c hv
      simp only [execOp, ho, resolve, invoke, builtin, Sem.run_bind, Sem.run_pure, Result.andThen_ok, List.map_toArray, List.map_cons, List.map_nil, Builtin.cap_, List.getElem?_toArray, List.getElem?_cons_zero, hv, run_underlying, hu, goInt]
    generalize hxx : ev s x = exx at hx hr
    generalize hv : a.eval x = v at hr
    split at hx
    · cases hr; exact val_ok h hd (run _ _ _ hv) (.p (.int _ _)) hx
    · rename_i els
      cases hr with
      | cs hp =>
        rename_i b n
        have hn : n = els.length := by
          rcases hp.sl_inv with ⟨_, hq, rfl⟩ | ⟨b, off, cap, z, vs, hq, _⟩ <;> cases hq <;> rfl
        subst hn
        exact val_ok h hd (run _ _ _ hv) (.p (.int _ _)) hx
    · cases hr; exact val_ok h hd (run _ _ _ hv) (.p (.int _ _)) hx
    · exact hx.elim
  · exact hx.elim

theorem copy_ok {x y : Operand} {t u : TypeId} (h : RelSt s D w a) (hd : dstOk o s) (ho : o.op = .call { callee := .builtin .copy, args := #[x, y], argTypes := #[t, u] })
    (hx : xcopy P t s.S (ev s x) (ev s y) (fun v S' => K ((s.withS S').put o.dst v))) : OpWP P o (Post s D w K) a w := by
  have hr := ev_rep h x
  have hry := ev_rep h y
  unfold xcopy at hx
  generalize hxx : ev s x = exx at hx hr
  generalize hv : a.eval x = v at hr
  generalize hvy : a.eval y = vy at hry
  split at hx
  · rename_i sz e b z o' n c hxi
    obtain ⟨hu, inf, hinf, hsz⟩ := XI_slice hxi
    obtain ⟨rfl, hx⟩ := hx
    split at hx
    · rename_i cs m l hb hs
      obtain ⟨hfit, hsc, hK⟩ := hx
      obtain ⟨hlen, hll, hcells⟩ := src_cells (P := P) h.rel hry hs
      cases hr with
      | ms _ _ _ o2 _ _ hn hc ho2 =>
        obtain ⟨c', h1, h2, h3⟩ := hcells (min m n) (Nat.min_le_left _ _)
        have hmz : min m n * z ≤ n * z := Nat.mul_le_mul_right _ (Nat.min_le_right _ _)
        have hmz2 : min m n * z ≤ m * z := Nat.mul_le_mul_right _ (Nat.min_le_left _ _)
        have htl : (l.take (min m n * z)).length = min m n * z := by rw [List.length_take]; omega
        have hoo : min m n * z ≠ 0 → o2 = o' := fun hne => ho2 (by
          intro e; apply hne; have : n = 0 := by omega
          rw [this, Nat.min_zero, Nat.zero_mul])
        by_cases h0 : min m n * z = 0
        · have e1 : l.take (min m n * z) = [] := by rw [h0]; rfl
          rw [e1] at hK
          have e2 : splice cs o' [] = cs := by simp [splice]
          rw [e2] at hK
          have e3 : s.S.set (.r b) (.cells cs) = s.S := by
            funext q; unfold Store.set; split
            · rename_i e; subst e; exact hb.symm
            · rfl
          rw [e3] at hK
          have e4 : c' = #[] := Array.eq_empty_of_size_eq_zero (by omega)
          subst e4
          refine val_ok h hd (v := .int .i64 (min m n : Nat)) ?_ (.p (.int _ _)) hK
          have hst : (storeCells ⟨b, o2, none⟩ ([] : List Value)).run P w = .ok () w := rfl
          simp only [execOp, ho, resolve, invoke, builtin, Sem.run_bind, Sem.run_pure, Result.andThen_ok, List.map_toArray, List.map_cons, List.map_nil, Builtin.copy_, List.getElem?_toArray, List.getElem?_cons_zero, List.getElem?_cons_succ,
            hv, hvy, run_underlying, hu, hlen, run_sizeOf P w e hinf, hsz, show Nat.min m n = min m n from rfl, h1, hst, goInt]
        · have := hoo h0
          subst this
          obtain ⟨w', D', g1, g2, g3⟩ := put_cells (P := P) h.rel (off := o2) hb c'.toList (l.take (min m n * z)) (by rw [htl]; simpa using h2) (fun i hi => by
            rw [htl] at hi
            have := h3 i hi
            have e1 : c'.toList.getD i undef = c'.getD i undef := by simp [Array.getD_eq_getD_getElem?, List.getD_eq_getElem?_getD]
            have e2 : (l.take (min m n * z)).getD i .top = l.getD i .top := by simp only [List.getD_eq_getElem?_getD, List.getElem?_take]; rw [if_pos hi]
            rw [e1, e2]; exact this) hsc (by rw [htl]; omega)
          refine valw_ok (v := .int .i64 (min m n : Nat)) h hd ?_ g2 g3 (df_raw h.df (raw_cells hb)) (.p (.int _ _)) hK
          simp only [execOp, ho, resolve, invoke, builtin, Sem.run_bind, Sem.run_pure, Result.andThen_ok, List.map_toArray, List.map_cons, List.map_nil, Builtin.copy_, List.getElem?_toArray, List.getElem?_cons_zero, List.getElem?_cons_succ,
            hv, hvy, run_underlying, hu, hlen, run_sizeOf P w e hinf, hsz, show Nat.min m n = min m n from rfl, h1, g1, goInt]
    · exact hx.elim
  · exact hx.elim

theorem clear_ok {x : Operand} {t : TypeId} (h : RelSt s D w a) (hd : dstOk o s) (ho : o.op = .call { callee := .builtin .clear, args := #[x], argTypes := #[t] })
    (hx : xclear P t s.S (ev s x) (fun v S' => K ((s.withS S').put o.dst v))) : OpWP P o (Post s D w K) a w := by
  have hr := ev_rep h x
  unfold xclear at hx
  generalize hxx : ev s x = exx at hx hr
  generalize hv : a.eval x = v at hr
  split at hx
  · rename_i sz e b z o' n c hxi
    obtain ⟨hu, inf, hinf, hsz⟩ := XI_slice hxi
    obtain ⟨rfl, hx⟩ := hx
    split at hx
    · rename_i cs ag sz' zz by' hb hti
      obtain ⟨i, dd, zv, hi, hu', hz, _, hisz, hzz, hby⟩ := TI_some hti
      subst hzz
      obtain ⟨hzl, hsc, hfit, hK⟩ := hx
      simp only [List.length_map, Array.length_toList] at hzl
      cases hr with
      | ms _ _ _ o2 _ _ hn hc ho2 =>
        have hend : RepA D w (.tuple #[]) (.tuple []) := .tuple #[] [] rfl (fun i hi => by simp at hi)
        by_cases h0 : n = 0
        · subst h0
          have e2 : splice cs o' (zcs (List.map ofV zv.cells.toList) 0) = cs := by simp [splice, zcs]
          rw [e2] at hK
          have e3 : s.S.set (.r b) (.cells cs) = s.S := by
            funext q; unfold Store.set; split
            · rename_i e; subst e; exact hb.symm
            · rfl
          rw [e3] at hK
          refine val_ok h hd (v := .tuple #[]) ?_ hend hK
          simp only [execOp, ho, resolve, invoke, builtin, Sem.run_bind, Sem.run_pure, Result.andThen_ok, List.map_toArray, List.map_cons, List.map_nil, Builtin.clear_, List.getElem?_toArray, List.getElem?_cons_zero, hv, run_underlying, hu]
        · have := ho2 (by omega)
          subst this
          have hzn : (zcs (List.map ofV zv.cells.toList) n).length = n * z := by rw [zcs_length]; simp [hzl]
          obtain ⟨w', D', g1, g2, g3⟩ := put_cells (P := P) h.rel (off := o2) hb (Builtin.zeroCells zv.cells n).toList (zcs (zv.cells.toList.map ofV) n) (by rw [hzn]; simp [Builtin.zeroCells, hzl]) (fun i hi => by
            rw [hzn, ← hzl] at hi
            have := zero_cells (D := D) (w := w) (z := zv.cells) n i hi
            have e1 : (Builtin.zeroCells zv.cells n).toList.getD i undef = ((Array.range (n * zv.cells.size)).map (fun i => zv.cells[i % zv.cells.size]!)).getD i undef := by
              unfold Builtin.zeroCells
              simp only [Array.getD_eq_getD_getElem?, List.getD_eq_getElem?_getD, Array.getElem?_toList]
            rw [e1]; exact this) (by
              unfold zcs
              rw [List.all_eq_true] at hsc ⊢
              intro q hq
              simp only [List.mem_flatten, List.mem_replicate] at hq
              obtain ⟨l, ⟨_, rfl⟩, hq⟩ := hq
              exact hsc q hq) (by rw [hzn]; exact hfit)
          refine valw_ok (v := .tuple #[]) h hd ?_ g2 g3 (df_raw h.df (raw_cells hb)) (hend.later g3.toLater) hK
          obtain ⟨n', rfl⟩ : ∃ n', n = n' + 1 := ⟨n - 1, by omega⟩
          simp only [execOp, ho, resolve, invoke, builtin, Sem.run_bind, Sem.run_pure, Result.andThen_ok, List.map_toArray, List.map_cons, List.map_nil, Builtin.clear_, List.getElem?_toArray, List.getElem?_cons_zero, hv, run_underlying, hu,
            run_zeroValue P w e hi hz, g1]
    · exact hx.elim
  · exact hx.elim

theorem run_append_zeros {t u ty : TypeId} {e : TypeId} {inf : TypeInfo} {zv : Value} {k k' : IntKind} {n : Int}
    (hu : P.underlying t = some (.slice e)) (hi : P.info? e = some inf) (hz : inf.zero = some zv) (huu : P.underlying u = some (.int k)) (h0 : 0 < n) (hb : n.toNat * inf.bytes ≤ 2 ^ 47) (hlt : n < 2 ^ 62) (hzs : zv.cells.size = inf.size) :
    ∃ nc, n.toNat ≤ nc ∧ (Builtin.append_ #[t, u] ty #[.slice none 0 0, .int k' n]).run P w =
      .ok (.slice (some ⟨w.heap.size, 0, none⟩) n.toNat nc) (World.push { w with drawn := w.drawn + 1 } (.cells (Builtin.zeroCells zv.cells nc) e (0, 0))) := by
  have w1 : IntKind.i64.wrap n = n := by unfold IntKind.wrap; simp [IntKind.bits, IntKind.signed]; omega
  refine ⟨(Question.appendCap n.toNat 0 e).cut (w.tape w.drawn (.appendCap n.toNat 0 e)), by simp [Question.cut], ?_⟩
  have hbig : ¬ (n * (inf.bytes : Int) > 2 ^ 48) := by
    have e3 : n = (n.toNat : Int) := by omega
    rw [e3, ← Int.natCast_mul]; omega
  have hch : (choose (.appendCap n.toNat 0 e)).run P w = .ok ((Question.appendCap n.toNat 0 e).cut (w.tape w.drawn (.appendCap n.toNat 0 e))) { w with drawn := w.drawn + 1 } := by
    simp [choose, Sem.run, Question.forced]
  have hnc : ¬ (Builtin.nextslicecap n.toNat 0 * inf.bytes > 2 ^ 48) := by
    have := nextcap_le n.toNat 0 (by omega)
    have := Nat.mul_le_mul_right inf.bytes this
    rw [Nat.mul_assoc] at this
    omega
  have hmax : ¬ ((((0 + n.toNat : Nat) : Int)) > IntKind.i64.max ∧ (True ∨ inf.bytes = 0)) := by
    have e : IntKind.i64.max = 9223372036854775807 := rfl
    rw [e]; rintro ⟨h, _⟩; omega
  simp only [Builtin.append_, List.getElem?_toArray, List.getElem?_cons_zero, List.getElem?_cons_succ, Sem.run_bind, run_underlying, hu, huu, Result.andThen_ok, run_sizeOf P w e hi, Sem.run_pure, if_true, asInt, asIntOf, w1]
  rw [if_neg (by omega)]
  simp only [Sem.run_bind, Sem.run_pure, Result.andThen_ok, run_typeInfo, hi]
  rw [if_neg hbig]
  simp only [Sem.run_bind, Sem.run_pure, Result.andThen_ok]
  rw [if_neg (by omega)]
  simp only [Sem.run_bind, run_typeInfo, hi, Result.andThen_ok]
  rw [if_neg hmax]
  simp only [Sem.run_bind, run_typeInfo, hi, Result.andThen_ok, Nat.zero_add]
  rw [if_neg hnc]
  have hfc : ∀ w, (Builtin.firstCells inf.size 0 (.slice none 0 0)).run P w = .ok #[] w := fun w => rfl
  generalize hq : (Question.appendCap n.toNat 0 e).cut (w.tape w.drawn (.appendCap n.toNat 0 e)) = nc at hch ⊢
  have hge : n.toNat ≤ nc := by rw [← hq]; simp [Question.cut]
  simp only [Sem.run_bind, hch, run_typeInfo, hi, Result.andThen_ok, run_askRoom, hfc, run_zeroValue P _ e hi hz, Bool.not_true, Bool.false_eq_true, if_false, newRow, newObj, Sem.run, Sem.run_pure]
  have join : ∀ (m : Nat), m ≤ nc → Builtin.zeroCells zv.cells m ++ Builtin.zeroCells zv.cells (nc - m) = Builtin.zeroCells zv.cells nc := by
    intro m hm
    have hms : m * zv.cells.size ≤ nc * zv.cells.size := Nat.mul_le_mul_right _ hm
    have hsub : (nc - m) * zv.cells.size = nc * zv.cells.size - m * zv.cells.size := Nat.sub_mul ..
    unfold Builtin.zeroCells
    apply Array.ext
    · simp; omega
    · intro i h1 h2
      simp at h1 h2
      by_cases hlt : i < m * zv.cells.size
      · rw [Array.getElem_append_left (by simpa using hlt)]; simp
      · rw [Array.getElem_append_right (by simpa using hlt)]
        simp only [Array.size_map, Array.size_range, Array.getElem_map, Array.getElem_range]
        congr 1
        have e9 : i - m * zv.cells.size + zv.cells.size * m = i := by rw [Nat.mul_comm zv.cells.size m]; omega
        conv => rhs; rw [← e9]
        rw [Nat.add_mul_mod_self_left]
  by_cases hzz : n.toNat * inf.size = 0
  · rw [if_pos hzz]
    have hs0 : inf.size = 0 := by rcases Nat.mul_eq_zero.1 hzz with h | h; omega; exact h
    have e0 : ∀ m, Builtin.zeroCells zv.cells m = #[] := fun m => by
      unfold Builtin.zeroCells; rw [hzs, hs0]; simp
    simp only [Sem.run_pure, Result.andThen_ok, Sem.run_bind, run_zeroValue P _ e hi hz, Sem.run, e0]
    rfl
  · rw [if_neg hzz]
    simp only [Sem.run_bind, run_zeroValue P _ e hi hz, Sem.run_pure, Result.andThen_ok, Sem.run]
    rw [Array.empty_append, join _ hge]
    rfl

theorem app0_ok {x y : Operand} {t u : TypeId} {k : IntKind} (h : RelSt s D w a) (hd : dstOk o s) (ho : o.op = .call { callee := .builtin .append, args := #[x, y], argTypes := #[t, u] }) (huu : P.underlying u = some (.int k))
    (hx : xapp0 P t s.S (ev s x) (ev s y) (fun v S' => K ((s.withS S').put o.dst v))) : OpWP P o (Post s D w K) a w := by
  have hr := ev_rep h x
  have hry := ev_rep h y
  unfold xapp0 at hx
  split at hx
  · rename_i sz e n hxi hxx hn
    obtain ⟨hu, inf, hinf, hsz⟩ := XI_slice hxi
    split at hx
    · rename_i ag sz' z by' hti
      obtain ⟨i, dd, zv, hi, hu', hz, _, hisz, hzz, hby⟩ := TI_some hti
      rw [hinf] at hi; cases hi
      subst hzz
      obtain ⟨rfl, hzl, h0, hb, hlt, hK⟩ := hx
      simp only [List.length_map, Array.length_toList] at hzl
      obtain ⟨k2, e2⟩ := intA_val hry hn
      rw [hxx] at hr
      generalize hv : a.eval x = v at hr
      cases hr
      obtain ⟨nc, hnc, hrun⟩ := run_append_zeros (P := P) (w := w) (ty := o.type) (k' := k2) hu hinf hz huu h0 (by rw [hby]; exact hb) hlt (by rw [hzl, ← hisz])
      obtain ⟨hR1, hE1⟩ := drew_ok h.rel (w.drawn + 1)
      have hcs : (Builtin.zeroCells zv.cells nc).size = nc * sz' := by simp [Builtin.zeroCells, hzl]
      have hnew := new_cells hR1 e (Builtin.zeroCells zv.cells nc) (zcs (zv.cells.toList.map ofV) nc) (by rw [zcs_length]; simp [Builtin.zeroCells]) (fun i hi => by
        rw [zcs_length] at hi
        exact zero_cells nc i (by simpa using hi))
      refine valw_ok (v := .slice (some ⟨w.heap.size, 0, none⟩) n.toNat nc) h hd ?_ hnew.1 (hE1.trans hnew.2) (df_raw h.df (raw_new h.rel.newr)) (.ms _ _ _ _ _ _ hnc ?_ (fun _ => rfl)) (hK _ _ h.rel.newr hnc)
      · simp only [execOp, ho, resolve, invoke, builtin, Sem.run_bind, Sem.run_pure, Result.andThen_ok, List.map_toArray, List.map_cons, List.map_nil, hv, e2, hrun]
      · rw [bsize_cells (push_new { w with drawn := w.drawn + 1 } _), hcs]; omega
    · exact hx.elim
  · exact hx.elim

theorem src_slice {S : Store} {vy : Value} {y : AV} {sz m : Nat} {l : List AV} (hy : RepA D w vy y) (hs : srcA S sz y = some (m, l)) : ∃ a2 c2, vy = .slice a2 m c2 := by
  have data : ∀ els, Rep D w vy (.sl els) → (if els.all (fun el => el.length == sz) = true then some (els.length, flatA els) else none) = some (m, l) → ∃ a2 c2, vy = .slice a2 m c2 := by
    intro els hp h
    split at h
    · simp only [Option.some.injEq, Prod.mk.injEq] at h
      obtain ⟨rfl, _⟩ := h
      rcases hp.sl_inv with ⟨_, h1, rfl⟩ | ⟨b, off, cap, z, vs, h1, _⟩
      · exact ⟨_, _, h1⟩
      · exact ⟨_, _, h1⟩
    · cases h
  cases y with
  | ms b z o n c =>
    cases hy with
    | ms _ _ _ o' _ _ hn hc ho =>
      simp only [srcA, viewA] at hs
      split at hs
      · rename_i n' z' l' he
        split at he
        · split at he
          · simp only [Option.some.injEq, Prod.mk.injEq] at he
            obtain ⟨rfl, rfl, rfl⟩ := he
            split at hs
            · simp only [Option.some.injEq, Prod.mk.injEq] at hs
              obtain ⟨rfl, _⟩ := hs
              exact ⟨_, _, rfl⟩
            · cases hs
          · cases he
        · cases he
      · cases hs
  | p v => cases v <;> simp only [srcA, pureS] at hs <;> first | (cases hs; done) | (cases hy with | p h => exact data _ h hs)
  | nils => simp only [srcA, pureS] at hs; cases hy; exact data [] (.nil none) hs
  | cs els => simp only [srcA, pureS] at hs; cases hy with | cs h => exact data _ h hs
  | ts k z loc els =>
    simp only [srcA, pureS] at hs
    cases hy with
    | tsc _ _ _ _ _ h => exact data _ h hs
    | ts _ _ _ _ _ h _ _ => exact data _ h hs
  | _ => simp [srcA, pureS] at hs
theorem app1_ok {x y : Operand} {t u : TypeId} {d : TypeDesc} (h : RelSt s D w a) (hd : dstOk o s) (ho : o.op = .call { callee := .builtin .append, args := #[x, y], argTypes := #[t, u] }) (huu : P.underlying u = some d) (hd' : ∀ k, d ≠ .int k)
    (hx : xapp1 P t s.S (ev s x) (ev s y) (fun v S' => K ((s.withS S').put o.dst v))) : OpWP P o (Post s D w K) a w := by
  have hr := ev_rep h x
  have hry := ev_rep h y
  unfold xapp1 at hx
  split at hx
  · rename_i b z o' n c hxx
    split at hx
    · rename_i sz e cs hxi hb
      obtain ⟨hu, inf, hinf, hsz⟩ := XI_slice hxi
      obtain ⟨rfl, hx⟩ := hx
      split at hx
      · rename_i m l hs
        split at hx
        rotate_left
        · exact hx.elim
        rename_i ag sz' zz by' hti
        obtain ⟨hzl, hon, hsc, hin, hout⟩ := hx
        obtain ⟨i, dd, zv, hi, hu', hz, _, hisz, hzz, hby⟩ := TI_some hti
        rw [hinf] at hi; cases hi
        subst hzz
        simp only [List.length_map, Array.length_toList] at hzl
        obtain ⟨hlen, hll, hcells⟩ := src_cells (P := P) h.rel hry hs
        rw [hxx] at hr
        generalize hv : a.eval x = v at hr
        have hr0 := hr
        generalize hvy : a.eval y = vy at hry hlen hcells
        cases hr with
        | ms _ _ _ o2 _ _ hn hc ho2 =>
          obtain ⟨c', h1, h2, h3⟩ := hcells m (Nat.le_refl _)
          have hzeros : (match d with | .int _ => true | _ => false) = false := by cases d <;> first | rfl | exact absurd rfl (hd' _)
          by_cases hroom : n + m ≤ c
          · obtain ⟨hfit, hK⟩ := hin hroom
            by_cases h0 : c = 0
            · have hn0 : n = 0 := by omega
              have hm0 : m = 0 := by omega
              subst h0; subst hn0; subst hm0
              have hl0 : l = [] := List.length_eq_zero_iff.1 (by omega)
              subst hl0
              have e2 : splice cs (o' + 0 * z) [] = cs := by simp [splice]
              rw [e2] at hK
              have e3 : s.S.set (.r b) (.cells cs) = s.S := by
                funext q; unfold Store.set; split
                · rename_i e; subst e; exact hb.symm
                · rfl
              rw [e3] at hK
              have e4 : c' = #[] := Array.eq_empty_of_size_eq_zero (by omega)
              subst e4
              refine val_ok h hd (v := .slice (some ⟨b, o2, none⟩) (0 + 0) 0) ?_ (.ms _ _ _ _ _ _ (by omega) hc ho2) hK
              have hst : (storeCells (⟨b, o2 + 0 * z, none⟩ : Addr) ([] : List Value)).run P w = .ok () w := rfl
              simp only [execOp, ho, resolve, invoke, builtin, Sem.run_bind, Sem.run_pure, Result.andThen_ok, List.map_toArray, List.map_cons, List.map_nil, Builtin.append_, List.getElem?_toArray, List.getElem?_cons_zero, List.getElem?_cons_succ,
                hv, hvy, run_underlying, hu, huu, hlen, run_sizeOf P w e hinf, hsz, hzeros, Bool.false_eq_true, if_false]
              rw [if_pos (by omega)]
              simp only [Sem.run_bind, Bool.not_false, if_true, h1, Result.andThen_ok, Addr.add_mk, hst, Sem.run_pure]
            · have := ho2 h0
              subst this
              obtain ⟨w', D', g1, g2, g3⟩ := put_cells (P := P) h.rel hb (off := o2 + n * z) c'.toList l (by rw [hll]; simpa using h2) (fun i hi => by
                rw [hll] at hi
                have := h3 i hi
                have e1 : c'.toList.getD i undef = c'.getD i undef := by simp [Array.getD_eq_getD_getElem?, List.getD_eq_getElem?_getD]
                rw [e1]; exact this) hsc (by rw [hll]; rw [Nat.add_mul] at hfit; omega)
              refine valw_ok (v := .slice (some ⟨b, o2, none⟩) (n + m) c) h hd ?_ g2 g3 (df_raw h.df (raw_cells hb)) (.ms _ _ _ _ _ _ hroom (Nat.le_trans hc (g3.toLater.bsz b)) (fun _ => rfl)) hK
              simp only [execOp, ho, resolve, invoke, builtin, Sem.run_bind, Sem.run_pure, Result.andThen_ok, List.map_toArray, List.map_cons, List.map_nil, Builtin.append_, List.getElem?_toArray, List.getElem?_cons_zero, List.getElem?_cons_succ,
                hv, hvy, run_underlying, hu, huu, hlen, run_sizeOf P w e hinf, hsz, hzeros, Bool.false_eq_true, if_false]
              rw [if_pos hroom]
              simp only [Sem.run_bind, Bool.not_false, if_true, h1, Result.andThen_ok, Addr.add_mk, g1, Sem.run_pure]
          · obtain ⟨hb47, h62, hK⟩ := hout (by omega)
            obtain ⟨hR1, hE1⟩ := drew_ok h.rel (w.drawn + 1)
            have hsx : srcA s.S z (.ms b z o' n c) = some (n, (cs.drop o').take (n * z)) := by
              simp [srcA, viewA, hb, hon]
            obtain ⟨_, hllx, hcx⟩ := src_cells (P := P) hR1 (hr0.later hE1.toLater) hsx
            obtain ⟨_, _, hcy⟩ := src_cells (P := P) hR1 (hry.later hE1.toLater) hs
            obtain ⟨old, ho1, ho2', ho3⟩ := hcx n (Nat.le_refl _)
            obtain ⟨new, hn1, hn2, hn3⟩ := hcy m (Nat.le_refl _)
            rw [← hsz] at ho1 hn1
            obtain ⟨a2, c2, hyv⟩ := src_slice hry hs
            obtain ⟨nc, hnc, hrun⟩ := run_append_grow (P := P) (w := w) (ty := o.type) hu hinf hz huu hd' hyv (by omega) (by rw [hby, Nat.mul_assoc]; omega) h62 ho1 hn1
            have hsz0 : (old ++ new ++ Builtin.zeroCells zv.cells (nc - (n + m))).size = nc * z := by
              simp only [Array.size_append, Builtin.zeroCells, Array.size_map, Array.size_range, ho2', hn2, hzl]
              rw [← Nat.add_mul, ← Nat.add_mul]; congr 1; omega
            have hcl : ((cs.drop o').take (n * z) ++ l ++ List.replicate ((nc - (n + m)) * z) AV.top).length = nc * z := by
              simp only [List.length_append, List.length_replicate, hllx, hll]
              rw [← Nat.add_mul, ← Nat.add_mul]; congr 1; omega
            obtain ⟨hR2, hE2⟩ := new_cells hR1 e (old ++ new ++ Builtin.zeroCells zv.cells (nc - (n + m))) ((cs.drop o').take (n * z) ++ l ++ List.replicate ((nc - (n + m)) * z) AV.top) (by rw [hsz0, hcl]) (fun i hi => by
              have g1 : (old ++ new ++ Builtin.zeroCells zv.cells (nc - (n + m))).getD i undef = if i < n * z then old.getD i undef else if i < n * z + m * z then new.getD (i - n * z) undef else (Builtin.zeroCells zv.cells (nc - (n + m))).getD (i - (n * z + m * z)) undef := by
                simp only [Array.getD_eq_getD_getElem?, Array.getElem?_append, Array.size_append, ho2', hn2]
                by_cases q1 : i < n * z
                · simp [q1, show i < n * z + m * z from by omega]
                · by_cases q2 : i < n * z + m * z
                  · simp [q1, q2]
                  · simp [q1, q2]
              have g2 : ((cs.drop o').take (n * z) ++ l ++ List.replicate ((nc - (n + m)) * z) AV.top).getD i .top = if i < n * z then ((cs.drop o').take (n * z)).getD i .top else if i < n * z + m * z then l.getD (i - n * z) .top else .top := by
                simp only [List.getD_eq_getElem?_getD, List.getElem?_append, List.length_append, hllx, hll]
                by_cases q1 : i < n * z
                · simp [q1, show i < n * z + m * z from by omega]
                · by_cases q2 : i < n * z + m * z
                  · simp [q1, q2]
                  · rw [if_neg q2, if_neg q1, if_neg q2, List.getElem?_replicate]; split <;> rfl
              rw [g1, g2]
              by_cases q1 : i < n * z
              · rw [if_pos q1, if_pos q1]; exact ho3 i q1
              · rw [if_neg q1, if_neg q1]
                by_cases q2 : i < n * z + m * z
                · rw [if_pos q2, if_pos q2]; exact hn3 _ (by omega)
                · rw [if_neg q2, if_neg q2]; exact .top _)
            refine valw_ok (v := .slice (some ⟨w.heap.size, 0, none⟩) (n + m) nc) h hd ?_ hR2 (hE1.trans hE2) (df_raw h.df (raw_new h.rel.newr)) (.ms _ _ _ _ _ _ hnc ?_ (fun _ => rfl)) (hK _ _ h.rel.newr hnc)
            · simp only [execOp, ho, resolve, invoke, builtin, Sem.run_bind, Sem.run_pure, Result.andThen_ok, List.map_toArray, List.map_cons, List.map_nil, hv, hvy, hrun]
            · rw [bsize_cells (push_new { w with drawn := w.drawn + 1 } _), hsz0]; omega
      · exact hx.elim
    · exact hx.elim
  · obtain ⟨v, w', D', x', S', hrun, hR, hE, hrep, hK, hkeep⟩ := xappend_ok (P := P) (ty := o.type) h.rel hr hry huu hd' hx
    refine valw_ok h hd ?_ hR hE (fun r hr => hkeep _ _ (h.df r hr)) hrep hK
    simp only [execOp, ho, resolve, invoke, builtin, Sem.run_bind, Sem.run_pure, Result.andThen_ok, List.map_toArray, List.map_cons, List.map_nil, hrun]

theorem appX_ok {x y : Operand} {t u : TypeId} (h : RelSt s D w a) (hd : dstOk o s) (ho : o.op = .call { callee := .builtin .append, args := #[x, y], argTypes := #[t, u] })
    (hx : xappX P t u s.S (ev s x) (ev s y) (fun v S' => K ((s.withS S').put o.dst v))) : OpWP P o (Post s D w K) a w := by
  unfold xappX at hx
  split at hx
  · rename_i k huu; exact app0_ok h hd ho huu hx
  · rename_i e huu; exact app1_ok h hd ho huu (by simp) hx
  · rename_i huu; exact app1_ok h hd ho huu (by simp) hx
  · exact hx.elim

theorem value_ok {c : Call} {f : Operand} {xs : List AV} (h : RelSt s D w a) (hd : dstOk o s) (ho : o.op = .call c) (hc : c.callee = .value f) (hargs : RepL D w (c.args.map a.eval) xs)
    (hx : FunR P (ev s f) xs s.S (fun x S' => keepDf s S' ∧ K ((s.withS S').put o.dst x))) : OpWP P o (Post s D w K) a w := by
  have hr := ev_rep h f
  unfold FunR at hx
  generalize hv : a.eval f = v at hr
  split at hx
  · rename_i g first caps heq
    rw [heq] at hr
    cases hr with
    | fn _ fv cv _ _ h1 h2 r1 r2 =>
      obtain ⟨hent, hx⟩ := hx
      have hall : RepL D w (fv ++ c.args.map a.eval ++ cv) (first ++ xs ++ caps) := RepL.append (RepL.append ⟨h1, r1⟩ hargs) ⟨h2, r2⟩
      have hg := hx D w _ h.rel hall
      unfold OpWP
      have hrun : (execOp a.eval o).run P w = .ok (.enter g (fv ++ c.args.map a.eval ++ cv)) w := by
        simp only [execOp, ho, resolve, hc, hv, Deferred.ofValue, invoke, Sem.run_bind, Sem.run_pure, Result.andThen_ok]
        exact hent _ w
      rw [hrun]
      refine Gives.mono hg ?_
      rintro v' w' ⟨x', S', D', ⟨hk, hK⟩, hR, hrep, hE⟩
      exact ⟨_, D', hK, (h.later hR hE.toLater hk).put hd.lt hrep, by rw [put_S]; exact hE⟩
  · rename_i l heq
    rw [heq] at hr
    cases hr with
    | fn _ fv cv _ _ h1 h2 r1 r2 =>
      have ef : fv = #[] := Array.size_eq_zero_iff.1 h1
      have ec : cv = #[] := Array.size_eq_zero_iff.1 h2
      subst ef; subst ec
      obtain ⟨fn, tmps, assign, body, hy, hg⟩ := hx D w _ h.rel hargs
      unfold OpWP
      have hrun : (execOp a.eval o).run P w = .ok (.round l fn tmps assign body) w := by
        simp only [execOp, ho, resolve, hc, hv, Deferred.ofValue, invoke, Sem.run_bind, Sem.run_pure, Result.andThen_ok, Array.empty_append, hy]
      rw [hrun]
      refine Gives.mono hg ?_
      rintro v' w' ⟨x', S', D', ⟨hk, hK⟩, hR, hrep, hE⟩
      exact ⟨_, D', hK, (h.later hR hE.toLater hk).put hd.lt hrep, by rw [put_S]; exact hE⟩
  · exact hx.elim

theorem callX_ok {c : Call} (h : RelSt s D w a) (hd : dstOk o s) (ho : o.op = .call c) (hx : xcallX P c (ev s) s.S (keepDf s) (fun x S' => K ((s.withS S').put o.dst x))) : OpWP P o (Post s D w K) a w := by
  obtain ⟨cl, args, tys⟩ := c
  unfold xcallX at hx
  split at hx
  · rename_i hc
    split at hx
    · rename_i x t hargs htys
      have e1 : args = #[x] := Array.toList_inj.1 hargs
      have e2 : tys = #[t] := Array.toList_inj.1 htys
      dsimp only at hc
      subst hc; subst e1; subst e2
      exact cap_ok h hd ho hx
    · exact hx.elim
  · rename_i hc
    split at hx
    · rename_i x y t u hargs htys
      have e1 : args = #[x, y] := Array.toList_inj.1 hargs
      have e2 : tys = #[t, u] := Array.toList_inj.1 htys
      dsimp only at hc
      subst hc; subst e1; subst e2
      exact copy_ok h hd ho hx
    · exact hx.elim
  · rename_i hc
    split at hx
    · rename_i x t hargs htys
      have e1 : args = #[x] := Array.toList_inj.1 hargs
      have e2 : tys = #[t] := Array.toList_inj.1 htys
      dsimp only at hc
      subst hc; subst e1; subst e2
      exact clear_ok h hd ho hx
    · exact hx.elim
  · rename_i hc
    split at hx
    · rename_i x y t u hargs htys
      have e1 : args = #[x, y] := Array.toList_inj.1 hargs
      have e2 : tys = #[t, u] := Array.toList_inj.1 htys
      dsimp only at hc
      subst hc; subst e1; subst e2
      exact appX_ok h hd ho hx
    · exact hx.elim
  · rename_i f hc
    rcases hx with hx | hx
    · exact value_ok h hd ho hc (reps_map h args).reif hx
    · exact value_ok h hd ho hc (reps_map h args) hx
  · exact call_ok h hd ho hx

theorem xop_ok (h : RelSt s D w a) (hx : xop P o K s) : noDefer o ∧ OpWP P o (Post s D w K) a w := by
  obtain ⟨hd, hx⟩ := hx
  split at hx
  · rename_i op t x u ho
    exact ⟨(fun c e => by rw [ho] at e; cases e), isnil_ok h hd ho rfl hx⟩
  · unfold xopX at hx
    split at hx
    · rename_i t l c ho
      exact ⟨(fun c e => by rw [ho] at e; cases e), make_ok h hd ho hx⟩
    · rename_i c ho
      exact ⟨(fun c e => by rw [ho] at e; cases e), callX_ok h hd ho hx⟩
    · rename_i t ho
      exact ⟨(fun c e => by rw [ho] at e; cases e), makeMap_ok h hd ho hx⟩
    · rename_i t x k ok ho
      exact ⟨(fun c e => by rw [ho] at e; cases e), lookup_ok h hd ho hx⟩
    · rename_i t x k y ho
      exact ⟨(fun c e => by rw [ho] at e; cases e), mapUpdate_ok h hd ho hx⟩
    · rename_i t x ho
      exact ⟨(fun c e => by rw [ho] at e; cases e), range_ok h hd ho hx⟩
    · rename_i x ho
      exact ⟨(fun c e => by rw [ho] at e; cases e), next_ok h hd ho hx⟩
    · rename_i x ho
      exact ⟨(fun c e => by rw [ho] at e; cases e), entry_ok h hd ho hx⟩
    · exact xopG_ok h hd hx
end
end Go.Sk
