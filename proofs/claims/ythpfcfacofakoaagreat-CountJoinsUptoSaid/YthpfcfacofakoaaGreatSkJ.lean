/- Calls, operations one behind the other, code, functions. -/
import Derived.Test.YthpfcfacofakoaaGreatSkIa
set_option linter.unusedSimpArgs false
set_option linter.unusedVariables false
set_option linter.unusedSectionVars false
namespace Go.Sk
open Go

def Enterable (P : Program) (f : FuncId) : Prop := ∀ args w, (callFunc f args).run P w = .ok (.enter f args) w

theorem enterable_of {P : Program} {f : FuncId} {fn : Func} (hf : P.funcs[f]? = some fn) (hn : (fn.name == "runtime.NumGoroutine") = false) (hb : fn.body.isNone = false) : Enterable P f := by
  intro args w
  simp only [callFunc, program, Sem.run_bind, Sem.run, Result.andThen_ok, hf, hn, hb, Bool.false_eq_true, if_false, Sem.run_pure]

def RepL (D : Prot) (w : World) (vs : Array Value) (xs : List AV) : Prop := vs.size = xs.length ∧ ∀ i, i < xs.length → RepA D w (vs.getD i undef) (xs.getD i .top)

/-- What a call does, as a walk sees it. -/
def CallR (P : Program) (f : FuncId) (args : List AV) (S : Store) (R : AV → Store → Prop) : Prop :=
  Enterable P f ∧ ∀ D w (vs : Array Value), Rel S D w → RepL D w vs args →
    Gives P (Frame.enter P f vs .normal) w fun v w' => ∃ x S' D', R x S' ∧ Rel S' D' w' ∧ RepA D' w' v x ∧ Ext S D w S' D' w'

/-- What a call of a loop's yield does. -/
def YieldR (P : Program) (l : Nat) (args : List AV) (S : Store) (R : AV → Store → Prop) : Prop :=
  ∀ D w (vs : Array Value), Rel S D w → RepL D w vs args →
    ∃ fn tmps assign body, (Instr.yield l vs).run P w = .ok (.round l fn tmps assign body) w ∧
      Gives P (Frame.round l fn tmps assign body .normal) w fun v w' => ∃ x S' D', R x S' ∧ Rel S' D' w' ∧ RepA D' w' v x ∧ Ext S D w S' D' w'

theorem CallR.mono {P : Program} {f : FuncId} {args : List AV} {S : Store} {R R' : AV → Store → Prop} (h : CallR P f args S R) (hr : ∀ x S', R x S' → R' x S') : CallR P f args S R' :=
  ⟨h.1, fun D w vs hR hv => (h.2 D w vs hR hv).mono fun _ _ ⟨x, S', D', h1, h2⟩ => ⟨x, S', D', hr _ _ h1, h2⟩⟩

/-- What is data is handed over as data. -/
def reif1 (x : AV) : AV := match pvA x with | some v => .p v | none => x
def reif2 : AV → AV | .agg cs => .agg (cs.map reif1) | x => reif1 x
def reif : AV → AV | .tuple vs => .tuple (vs.map reif2) | x => reif2 x

theorem reif1_rep {D : Prot} {w : World} {v : Value} {x : AV} (h : RepA D w v x) : RepA D w v (reif1 x) := by
  unfold reif1; split
  · rename_i p hp; exact .p (pvA_rep h hp)
  · exact h
theorem getD_map_lt {f : AV → AV} (l : List AV) (i : Nat) (h : i < l.length) : (l.map f).getD i .top = f (l.getD i .top) := by
  simp [List.getD_eq_getElem?_getD, h]
theorem reif2_rep {D : Prot} {w : World} {v : Value} {x : AV} (h : RepA D w v x) : RepA D w v (reif2 x) := by
  unfold reif2; split
  · cases h with
    | agg vs cs hn hr => exact .agg _ _ (by simpa using hn) (fun i hi => by rw [getD_map_lt _ _ (by simpa using hi)]; exact reif1_rep (hr i (by simpa using hi)))
  · exact reif1_rep h
theorem reif_rep {D : Prot} {w : World} {v : Value} {x : AV} (h : RepA D w v x) : RepA D w v (reif x) := by
  unfold reif; split
  · cases h with
    | tuple vs cs hn hr => exact .tuple _ _ (by simpa using hn) (fun i hi => by rw [getD_map_lt _ _ (by simpa using hi)]; exact reif2_rep (hr i (by simpa using hi)))
  · exact reif2_rep h
theorem RepL.reif {D : Prot} {w : World} {vs : Array Value} {xs : List AV} (h : RepL D w vs xs) : RepL D w vs (xs.map Sk.reif) :=
  ⟨by simpa using h.1, fun i hi => by rw [getD_map_lt _ _ (by simpa using hi)]; exact reif_rep (h.2 i (by simpa using hi))⟩

/-- A function value called. -/
def FunR (P : Program) (f : AV) (args : List AV) (S : Store) (R : AV → Store → Prop) : Prop :=
  match f with
  | .fn (.func g) first caps => CallR P g (first ++ args ++ caps) S R
  | .fn (.yield l) [] [] => YieldR P l args S R
  | _ => False

def keepDf (s : St) (S' : Store) : Prop := ∀ r ∈ s.df, S' (.r r) = some (.raw (.deferred (some [])) noKn)

def intOnly (d : Option TypeDesc) : Bool := match d with | some (.int _) => true | none => true | _ => false

def xminmax (mx : Bool) (x y : AV) (K : AV → Prop) : Prop :=
  match x, y with
  | .p (.int k a), .p (.int _ b) => K (.p (.int k (if mx then (if b > a then b else a) else (if b < a then b else a))))
  | _, _ => False

def xcall (P : Program) (c : Call) (e : Operand → AV) (S : Store) (kd : Store → Prop) (K : AV → Store → Prop) : Prop :=
  match c.callee with
  | .builtin .len => match c.args.toList, c.argTypes.toList with
    | [x], [t] => xlen (P.underlying t) (e x) (fun v => K v S)
    | _, _ => False
  | .builtin .append => match c.args.toList, c.argTypes.toList with
    | [x, y], [t, u] => intOnly (P.underlying u) = false ∧ xappend P t S (e x) (e y) K
    | _, _ => False
  | .builtin .max => match c.args.toList with
    | [x, y] => xminmax true (e x) (e y) (fun v => K v S)
    | _ => False
  | .builtin .min => match c.args.toList with
    | [x, y] => xminmax false (e x) (e y) (fun v => K v S)
    | _ => False
  | .value f => FunR P (e f) ((c.args.toList.map e).map reif) S (fun x S' => kd S' ∧ K x S')
  | _ => False

/-- What an operation does, of what its operands are and of the owned blocks; kd: what must be kept. -/
def xopG (P : Program) (o : Oper) (e : Operand → AV) (S : Store) (kd : Store → Prop) (C : AV → Store → Prop) : Prop :=
  match o.op with
  | .move x => C (e x) S
  | .assign x => C (e x) S
  | .pick c x y => match e c with | .p (.bool t) => C (if t then e x else e y) S | _ => False
  | .alloc t => match TI P t with | some (_, _, z, _) => ∀ b, S (.r b) = none → C (.sp b 0) (S.set (.r b) (.cells z)) | none => False
  | .box _ x => (cellsOf (e x)).all scalar = true ∧ ∀ b, S (.r b) = none → C (.sp b 0) (S.set (.r b) (.cells (cellsOf (e x))))
  | .build t parts => xbuild P t e parts (fun y => C y S)
  | .buildSlice t len parts => xbuildSlice P t len e parts (fun y => C y S)
  | .load t x => match TI P t with | some (ag, sz, _, _) => xload S ag sz (e x) (fun y => C y S) | none => False
  | .store t x y => match TI P t with | some (_, sz, _, _) => xstore S sz (e x) (e y) (fun S' => C .top S') | none => False
  | .nilCheck x => notNil (e x) = true ∧ C (e x) S
  | .binOp op t x y _ => xbin2 P t op (e x) (e y) (fun z => C z S)
  | .index t x ix => xindexV P t (e x) (e ix) (fun z => C z S)
  | .unOp op _ x => xunop op (e x) (fun y => C y S)
  | .convert t u x => xconv (P.underlying t) (P.underlying u) (e x) (fun y => C y S)
  | .makeFunc f first caps => C (.fn f (first.toList.map e) (caps.toList.map e)) S
  | .slice t x lo hi mx => match XI P t with | some (none, sz, _) => xslice (P.underlying t) sz (e x) (lo.map e) (hi.map e) (mx.map e) (fun y => C y S) | _ => False
  | .fieldAddr t x f => match FI P t f with | some (off, sz, _) => xfaddr off sz (e x) (fun y => C y S) | none => False
  | .field t x f => match FI P t f with | some (off, sz, g) => xfield off sz g (e x) (fun y => C y S) | none => False
  | .indexAddr t x ix => match XI P t with | some (arr, sz, _) => xindex arr sz (e x) (e ix) (fun y => C y S) | none => False
  | .extract x i => xextract (e x) i (fun y => C y S)
  | .call c => xcall P c e S kd C
  | _ => False

section
variable {P : Program} {o : Oper} {s : St} {D : Prot} {w : World} {a : Act} {K : St → Prop}

theorem reps_map (h : RelSt s D w a) (l : Array Operand) : RepL D w (l.map a.eval) (l.toList.map (ev s)) := by
  refine ⟨by simp, fun i hi => ?_⟩
  simp only [List.length_map, Array.length_toList] at hi
  have e1 : (l.map a.eval).getD i undef = a.eval l[i] := by simp [Array.getD, hi]
  have e2 : (l.toList.map (ev s)).getD i .top = ev s l[i] := by simp [List.getD_eq_getElem?_getD, hi]
  rw [e1, e2]; exact ev_rep h _

theorem RepL.append {vs us : Array Value} {xs ys : List AV} (h : RepL D w vs xs) (k : RepL D w us ys) : RepL D w (vs ++ us) (xs ++ ys) := by
  refine ⟨by simp [h.1, k.1], fun i hi => ?_⟩
  simp only [List.length_append] at hi
  simp only [Array.getD_eq_getD_getElem?, List.getD_eq_getElem?_getD]
  by_cases h1 : i < xs.length
  · rw [Array.getElem?_append_left (by rw [h.1]; exact h1), List.getElem?_append_left h1]
    have := h.2 i h1
    simpa only [Array.getD_eq_getD_getElem?, List.getD_eq_getElem?_getD] using this
  · rw [Array.getElem?_append_right (by rw [h.1]; omega), List.getElem?_append_right (by omega), h.1]
    have := k.2 (i - xs.length) (by omega)
    simpa only [Array.getD_eq_getD_getElem?, List.getD_eq_getElem?_getD] using this

theorem call_ok {c : Call} (h : RelSt s D w a) (hd : dstOk o s) (ho : o.op = .call c) (hx : xcall P c (ev s) s.S (keepDf s) (fun x S' => K ((s.withS S').put o.dst x))) : OpWP P o (Post s D w K) a w := by
  unfold xcall at hx
  have same : ∀ v, (s.withS s.S).put v = s.put v := fun _ => rfl
  split at hx
  · rename_i hc
    split at hx
    · rename_i x t hargs htys
      obtain ⟨y, u, hrun, hrep, hK⟩ := run_len (P := P) o.type (ev_rep h x) hx
      refine val_ok h hd ?_ hrep hK
      have e1 : c.args = #[x] := Array.toList_inj.1 hargs
      have e2 : c.argTypes = #[t] := Array.toList_inj.1 htys
      simp only [execOp, ho, resolve, hc, invoke, builtin, e1, e2, Sem.run_bind, Sem.run_pure, Result.andThen_ok, List.map_toArray, List.map_cons, List.map_nil, hrun]
    · exact hx.elim
  · rename_i hc
    split at hx
    · rename_i x y t u hargs htys
      obtain ⟨hio, hx⟩ := hx
      obtain ⟨d, hu, hd'⟩ : ∃ d, P.underlying u = some d ∧ ∀ k, d ≠ .int k := by
        unfold intOnly at hio
        cases hu : P.underlying u with
        | none => rw [hu] at hio; simp at hio
        | some d => exact ⟨d, rfl, fun k e => by rw [hu, e] at hio; simp at hio⟩
      obtain ⟨v, w', D', x', S', hrun, hR, hE, hrep, hK, hkeep⟩ := xappend_ok (P := P) (ty := o.type) h.rel (ev_rep h x) (ev_rep h y) hu hd' hx
      have e1 : c.args = #[x, y] := Array.toList_inj.1 hargs
      have e2 : c.argTypes = #[t, u] := Array.toList_inj.1 htys
      refine valw_ok h hd ?_ hR hE (fun r hr => hkeep _ _ (h.df r hr)) hrep hK
      simp only [execOp, ho, resolve, hc, invoke, builtin, e1, e2, Sem.run_bind, Sem.run_pure, Result.andThen_ok, List.map_toArray, List.map_cons, List.map_nil, hrun]
    · exact hx.elim
  · rename_i hc
    split at hx
    · rename_i x y hargs
      have hr := ev_rep h x
      have hry := ev_rep h y
      unfold xminmax at hx
      split at hx
      · rename_i k n k' m h1 h2
        rw [h1] at hr; rw [h2] at hry
        generalize hv : a.eval x = v at hr
        generalize hvy : a.eval y = vy at hry
        have hr := hr.inv; have hry := hry.inv; cases hr; cases hry
        have e1 : c.args = #[x, y] := Array.toList_inj.1 hargs
        refine val_ok h hd ?_ (.p (.int _ _)) hx
        simp only [execOp, ho, resolve, hc, invoke, builtin, e1, Sem.run_bind, Sem.run_pure, Result.andThen_ok, List.map_toArray, List.map_cons, List.map_nil, hv, hvy, Builtin.max_, List.foldlM_cons, List.foldlM_nil, Builtin.max2, if_true]
      · exact hx.elim
    · exact hx.elim
  · rename_i hc
    split at hx
    · rename_i x y hargs
      have hr := ev_rep h x
      have hry := ev_rep h y
      unfold xminmax at hx
      split at hx
      · rename_i k n k' m h1 h2
        rw [h1] at hr; rw [h2] at hry
        generalize hv : a.eval x = v at hr
        generalize hvy : a.eval y = vy at hry
        have hr := hr.inv; have hry := hry.inv; cases hr; cases hry
        have e1 : c.args = #[x, y] := Array.toList_inj.1 hargs
        refine val_ok h hd ?_ (.p (.int _ _)) hx
        simp only [execOp, ho, resolve, hc, invoke, builtin, e1, Sem.run_bind, Sem.run_pure, Result.andThen_ok, List.map_toArray, List.map_cons, List.map_nil, hv, hvy, Builtin.min_, List.foldlM_cons, List.foldlM_nil, Builtin.min2, Bool.false_eq_true, if_false]
      · exact hx.elim
    · exact hx.elim
  · rename_i f hc
    have hr := ev_rep h f
    have hargs := (reps_map h c.args).reif
    unfold FunR at hx
    generalize hv : a.eval f = v at hr
    split at hx
    · rename_i g first caps heq
      rw [heq] at hr
      cases hr with
      | fn _ fv cv _ _ h1 h2 r1 r2 =>
        obtain ⟨hent, hx⟩ := hx
        have hall : RepL D w (fv ++ c.args.map a.eval ++ cv) (first ++ (c.args.toList.map (ev s)).map reif ++ caps) := RepL.append (RepL.append ⟨h1, r1⟩ hargs) ⟨h2, r2⟩
        have hg := hx D w _ h.rel hall
        unfold OpWP
        have hrun : (execOp a.eval o).run P w = .ok (.enter g (fv ++ c.args.map a.eval ++ cv)) w := by
          simp only [execOp, ho, resolve, hc, hv, Deferred.ofValue, invoke, Sem.run_bind, Sem.run_pure, Result.andThen_ok]
          exact hent _ w
        rw [hrun]
        refine Gives.mono hg ?_
        rintro v' w' ⟨x', S', D', ⟨hk, hK⟩, hR, hrep, hE⟩
        exact ⟨_, D', hK, (h.later hR hE.toLater hk).put hd.lt hrep, by rw [put_S]; exact hE⟩
    · rename_i l heq
      rw [heq] at hr
      cases hr with
      | fn _ fv cv _ _ h1 h2 r1 r2 =>
        have ef : fv = #[] := Array.size_eq_zero_iff.1 h1
        have ec : cv = #[] := Array.size_eq_zero_iff.1 h2
        subst ef; subst ec
        obtain ⟨fn, tmps, assign, body, hy, hg⟩ := hx D w _ h.rel hargs
        unfold OpWP
        have hrun : (execOp a.eval o).run P w = .ok (.round l fn tmps assign body) w := by
          simp only [execOp, ho, resolve, hc, hv, Deferred.ofValue, invoke, Sem.run_bind, Sem.run_pure, Result.andThen_ok, Array.empty_append, hy]
        rw [hrun]
        refine Gives.mono hg ?_
        rintro v' w' ⟨x', S', D', ⟨hk, hK⟩, hR, hrep, hE⟩
        exact ⟨_, D', hK, (h.later hR hE.toLater hk).put hd.lt hrep, by rw [put_S]; exact hE⟩
    · exact hx.elim
  · exact hx.elim

theorem xopG_ok (h : RelSt s D w a) (hd : dstOk o s) (hx : xopG P o (ev s) s.S (keepDf s) (fun x S' => K ((s.withS S').put o.dst x))) : noDefer o ∧ OpWP P o (Post s D w K) a w := by
  unfold xopG at hx
  cases ho : o.op <;> rw [ho] at hx <;> dsimp only at hx <;> first | exact hx.elim | refine ⟨(fun c e => by rw [ho] at e; cases e), ?_⟩
  case move x => exact move_ok h hd (Or.inl ho) hx
  case assign x => exact move_ok h hd (Or.inr ho) hx
  case pick c x y =>
    split at hx
    · rename_i t ht; exact pick_ok h hd ho ht hx
    · exact hx.elim
  case alloc t =>
    split at hx
    · rename_i ht; exact alloc_ok h hd ho ht hx
    · exact hx.elim
  case box t x => exact box_ok h hd ho hx.1 hx.2
  case build t ps => exact build_ok h hd ho hx
  case buildSlice t n ps => exact buildSlice_ok h hd ho hx
  case load t x =>
    split at hx
    · rename_i ht; exact xload_ok h hd ho ht hx
    · exact hx.elim
  case store t x y =>
    split at hx
    · rename_i ht; exact xstore_ok h hd ho ht hx
    · exact hx.elim
  case nilCheck x => exact nilCheck_ok h hd ho hx.1 hx.2
  case binOp op t x y t' => exact bin2_ok h hd ho hx
  case index t x ix => exact indexV_ok h hd ho hx
  case unOp op t x => exact unop_ok h hd ho hx
  case convert t u x => exact conv_ok h hd ho hx
  case makeFunc f x y => exact makeFunc_ok h hd ho hx
  case slice t x lo hi mx =>
    split at hx
    · rename_i ht; exact slice_ok h hd ho ht hx
    · exact hx.elim
  case fieldAddr t x f =>
    split at hx
    · rename_i ht; exact faddr_ok h hd ho ht hx
    · exact hx.elim
  case field t x f =>
    split at hx
    · rename_i ht; exact field_ok h hd ho ht hx
    · exact hx.elim
  case indexAddr t x ix =>
    split at hx
    · rename_i ht; exact index_ok h hd ho ht hx
    · exact hx.elim
  case extract x i => exact extract_ok h hd ho hx
  case call c => exact call_ok h hd ho hx

end
end Go.Sk
