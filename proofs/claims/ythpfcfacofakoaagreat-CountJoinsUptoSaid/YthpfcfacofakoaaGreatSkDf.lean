/- A function that defers one call. -/
import Derived.Test.YthpfcfacofakoaaGreatSkSc
set_option linter.unusedSimpArgs false
set_option linter.unusedVariables false
set_option linter.unusedSectionVars false
namespace Go.Sk
open Go

def WPD (P : Program) (c : Code) (Q : Ex → Act → World → Deferred → Prop) (a : Act) (w : World) : Prop :=
  ∀ (b : Frame) (k : List Item) (cs : List Frame), b.roundOf = none →
    ∃ e a' w' d, Q e a' w' d ∧ Arr P (lone (aR b a (.code c :: k)) cs w) { b with defers := d :: b.defers } k cs e a' w'
section
variable {P : Program} {Q : Ex → Act → World → Deferred → Prop} {a : Act} {w : World}
theorem WPD.seqL {x y : Code} (h : WP P none x (fun e a w => e = .normal ∧ WPD P y Q a w) a w) : WPD P (.seq x y) Q a w := by
  intro b k cs hr
  obtain ⟨e, a1, w1, ⟨rfl, hq⟩, harr⟩ := h b (.code y :: k) cs hr
  obtain ⟨e2, a2, w2, d, hq2, harr2⟩ := hq b k cs hr
  exact ⟨e2, a2, w2, d, hq2, .of_steps (.head stepR_seq harr) harr2⟩
theorem WPD.seqR {x y : Code} (h : WPD P x (fun e a w d => e = .normal ∧ WP P none y (fun e a' w' => Q e a' w' d) a w) a w) : WPD P (.seq x y) Q a w := by
  intro b k cs hr
  obtain ⟨e, a1, w1, d, ⟨rfl, hq⟩, harr⟩ := h b (.code y :: k) cs hr
  obtain ⟨e2, a2, w2, hq2, harr2⟩ := hq { b with defers := d :: b.defers } k cs hr
  exact ⟨e2, a2, w2, d, hq2, .of_steps (Steps.head stepR_seq harr) harr2⟩
theorem WPD.region {id : Nat} {o : Oper} {c : Call} {d : Deferred} (ho : o.op = .defer c) (hg : o.guard = none) (ha : a.defers = []) (hres : (resolve a.eval c o.type).run P w = .ok d w) (hq : Q .normal (a.put o.dst undef) w d) :
    WPD P (.region id #[o] false) Q a w := by
  intro b k cs hr
  refine ⟨.normal, a.put o.dst undef, w, d, hq, ?_⟩
  have hw : Region.wanted o (yielded #[o] a.tmps) = true := by simp [Region.wanted, hg]
  have hop := stepGR_op (P := P) (b := b) (a := { tmps := a.tmps, defers := a.defers ++ b.defers }) (k := k) (cs := cs) (w := w) (ops := #[o]) (i := 0) (rest := []) (o := o) rfl hw
  rw [hr, Oper.semAt_none, eval_aR] at hop
  have hex : (execOp a.eval o).run P w = .ok (.defer d) w := by
    unfold execOp; rw [ho]; simp only [Sem.run_bind, hres, Result.andThen_ok, Sem.run_pure]
  have hs : step P (lone (aR b a (.inRegion #[o] [0] :: k)) cs w) = .next (lone (aR { b with defers := d :: b.defers } (a.put o.dst undef) (.inRegion #[o] [] :: k)) cs w) := by
    refine step_lone_go ?_
    rw [hop]
    have hf := Frame.finish_atR b { tmps := a.tmps, defers := d :: (a.defers ++ b.defers) } #[o] 0 [] k undef
    have he : ({ b.atR { tmps := a.tmps, defers := a.defers ++ b.defers } (.inRegion #[o] [0] :: k) with defers := d :: (a.defers ++ b.defers) } : Frame).finish undef = aR { b with defers := d :: b.defers } (a.put o.dst undef) (.inRegion #[o] [] :: k) := by
      refine Eq.trans hf ?_
      obtain ⟨tm, df⟩ := a
      dsimp only at ha
      subst ha
      cases hd : o.dst <;> simp [Act.put, hd, Frame.atR, aR]
    rw [← he]; simp [stepG.apply, hex]; rfl
  exact .head stepR_region (.head hs (.one stepR_region_end))
end

/-- A deferred call, as its frame sees it. -/
def GivesD (P : Program) (g : FuncId) (args : Array Value) (w : World) (R : World → Prop) : Prop :=
  ∀ (fr : Frame) (cs : List Frame), fr.mode = .returning → ∃ w', R w' ∧ Steps P (lone (Frame.enter P g args .deferred) (fr :: cs) w) (lone fr cs w')
theorem givesD_of_wp {P : Program} {f : FuncId} {fn : Func} {c : Code} {args : Array Value} {w : World} {R : Value → World → Prop}
    (hf : P.funcs[f]? = some fn) (hb : fn.body = some c)
    (h : WP P none c (BodyQ P fn R) { tmps := args ++ Array.replicate (fn.ntmps - args.size) undef, defers := [] } w) :
    GivesD P f args w (fun w' => ∃ v, R v w') := by
  intro cl cs hcl
  let b : Frame := { fn := f, tmps := #[], todo := [], defers := [], mode := .run, kind := .deferred }
  have henter : Frame.enter P f args .deferred =
      aR b { tmps := args ++ Array.replicate (fn.ntmps - args.size) undef, defers := [] } [.code c] := by
    simp [Frame.enter, Frame.atR, hf, hb, b]
  obtain ⟨e, a', w', hq, harr⟩ := h b [] (cl :: cs) rfl
  rw [← henter] at harr
  have fin : ∀ k', Steps P (lone (Frame.enter P f args .deferred) (cl :: cs) w) (lone { aR b a' k' with mode := .returning } (cl :: cs) w') →
      (∃ df v, a'.defers = marks df ∧ (∀ r ∈ df, w'.heap[r]? = some (.deferred (some []))) ∧ df.Nodup ∧
      (∀ w₂ : World, (∀ b, b ∉ df → w₂.heap[b]? = w'.heap[b]?) → w₂.heap.size = w'.heap.size → w₂.tape = w'.tape → w₂.os = w'.os → w₂.output = w'.output → w₂.drawn = w'.drawn →
        (results fn a'.tmps).run P w₂ = .ok v w₂ ∧ R v w₂)) →
      ∃ w', (∃ v, R v w') ∧ Steps P (lone (Frame.enter P f args .deferred) (cl :: cs) w) (lone cl cs w') := by
    intro k' hs ⟨df, v, hd, hm, hn, hr⟩
    obtain ⟨w₂, s2, h1, h2, h3, h4, h5, h6⟩ := unwind_all (P := P) (cs := cl :: cs) df { aR b a' k' with mode := .returning } w' rfl (by show a'.defers ++ [] = _; rw [List.append_nil]; exact hd) hm hn
    obtain ⟨g1, g2⟩ := hr w₂ h1 h2 h3 h4 h5 h6
    refine ⟨w₂, ⟨v, g2⟩, hs.trans (s2.trans (.one (step_lone_go ?_)))⟩
    simp [stepG, unwind, doReturn, hf, g1, b, hcl, Frame.atR]
  cases e with
  | normal => exact fin [] (Steps.trans harr (.one (stepR_end rfl))) hq
  | ret => obtain ⟨k', hs⟩ := harr; exact fin _ (hs.trans (.one (stepR_ret rfl))) hq
  | exit id => exact hq.elim
  | goto l => exact hq.elim
/-- A body that defers one call: behind it, the call, and then the results. -/
def BodyD (P : Program) (fn : Func) (R : Value → World → Prop) : Ex → Act → World → Deferred → Prop
  | .normal, a, w, d | .ret, a, w, d => a.defers = [] ∧ ∃ g args, d = { target := .fn (.func g) #[], args := args } ∧ (callFunc g args).run P w = .ok (.enter g args) w ∧ GivesD P g args w (fun w' => ∃ v, (results fn a.tmps).run P w' = .ok v w' ∧ R v w')
  | _, _, _, _ => False
theorem gives_of_wpd {P : Program} {f : FuncId} {fn : Func} {c : Code} {args : Array Value} {w : World} {R : Value → World → Prop}
    (hf : P.funcs[f]? = some fn) (hb : fn.body = some c)
    (h : WPD P c (BodyD P fn R) { tmps := args ++ Array.replicate (fn.ntmps - args.size) undef, defers := [] } w) :
    Gives P (Frame.enter P f args .normal) w R := by
  intro cl cs
  let b : Frame := { fn := f, tmps := #[], todo := [], defers := [], mode := .run, kind := .normal }
  have henter : Frame.enter P f args .normal =
      aR b { tmps := args ++ Array.replicate (fn.ntmps - args.size) undef, defers := [] } [.code c] := by
    simp [Frame.enter, Frame.atR, hf, hb, b]
  obtain ⟨e, a', w', d, hq, harr⟩ := h b [] (cl :: cs) rfl
  rw [← henter] at harr
  have fin : ∀ k', Steps P (lone (Frame.enter P f args .normal) (cl :: cs) w) (lone { aR { b with defers := d :: b.defers } a' k' with mode := .returning } (cl :: cs) w') →
      (a'.defers = [] ∧ ∃ g args, d = { target := .fn (.func g) #[], args := args } ∧ (callFunc g args).run P w' = .ok (.enter g args) w' ∧ GivesD P g args w' (fun w' => ∃ v, (results fn a'.tmps).run P w' = .ok v w' ∧ R v w')) →
      ∃ v w', R v w' ∧ Steps P (lone (Frame.enter P f args .normal) (cl :: cs) w) (lone (cl.finish v) cs w') := by
    rintro k' hs ⟨hd, g, gargs, rfl, hcf, hg⟩
    let fr : Frame := { aR { b with defers := [] } a' k' with mode := .returning, defers := [] }
    obtain ⟨w₂, ⟨v, hres, hR⟩, st⟩ := hg fr (cl :: cs) rfl
    have hinv : (invoke (.fn (.func g) #[]) gargs).run P w' = .ok (.enter g gargs) w' := by
      simp only [invoke, Array.append_empty]; exact hcf
    refine ⟨v, w₂, hR, hs.trans (.head (m₁ := lone (Frame.enter P g gargs .deferred) (fr :: cl :: cs) w') (step_lone_go ?_) (st.trans (.one (step_lone_go ?_))))⟩
    · simp [stepG, unwind, callDeferred, hd, Frame.atR, b, Sem.runT_eq, hinv, fr]
    · simp [stepG, unwind, doReturn, hf, hres, fr, Frame.atR, b]
  cases e with
  | normal => exact fin [] (Steps.trans harr (.one (stepR_end rfl))) hq
  | ret => obtain ⟨k', hs⟩ := harr; exact fin _ (hs.trans (.one (stepR_ret rfl))) hq
  | exit id => exact hq.elim
  | goto l => exact hq.elim
/-! The same, of what is known. -/
def AWPD (P : Program) (c : Code) (Q : Ex → St → FuncId → List AV → Prop) (s : St) : Prop :=
  ∀ D w a, RelSt s D w a → WPD P c (fun e a' w' d => ∃ s' D' g vs xs, Q e s' g xs ∧ RelSt s' D' w' a' ∧ Ext s.S D w s'.S D' w' ∧ d = { target := .fn (.func g) #[], args := vs } ∧ RepL D' w' vs xs ∧ Enterable P g) a w
def DefR (P : Program) (g : FuncId) (xs : List AV) (S : Store) (R : Store → Prop) : Prop :=
  ∀ D w vs, Rel S D w → RepL D w vs xs → GivesD P g vs w (fun w' => ∃ S' D', R S' ∧ Rel S' D' w' ∧ Ext S D w S' D' w')
section
variable {P : Program} {Q : Ex → St → FuncId → List AV → Prop} {s : St}
theorem AWPD.seqL {x y : Code} (h : AWP P none x (fun e s' => e = .normal ∧ AWPD P y Q s') s) : AWPD P (.seq x y) Q s := by
  intro D w a hs
  refine WPD.seqL (WP.mono (h D w a hs) ?_)
  rintro e a1 w1 ⟨s1, D1, ⟨rfl, hq⟩, h1, hE⟩
  refine ⟨rfl, fun b k cs hr => ?_⟩
  obtain ⟨e2, a2, w2, d, ⟨s2, D2, g, vs, xs, q1, q2, q3, q4⟩, harr⟩ := hq D1 w1 a1 h1 b k cs hr
  exact ⟨e2, a2, w2, d, ⟨s2, D2, g, vs, xs, q1, q2, hE.trans q3, q4⟩, harr⟩
theorem AWPD.seqR {x y : Code} (h : AWPD P x (fun e s' g xs => e = .normal ∧ AWP P none y (fun e s2 => Q e s2 g xs) s') s) : AWPD P (.seq x y) Q s := by
  intro D w a hs
  refine WPD.seqR fun b k cs hr => ?_
  obtain ⟨e, a1, w1, d, ⟨s1, D1, g, vs, xs, ⟨rfl, q1⟩, q2, q3, q4, q5, q6⟩, harr⟩ := h D w a hs b k cs hr
  refine ⟨.normal, a1, w1, d, ⟨rfl, WP.mono (q1 D1 w1 a1 q2) ?_⟩, harr⟩
  rintro e2 a2 w2 ⟨s2, D2, p1, p2, p3⟩
  exact ⟨s2, D2, g, vs, xs, p1, p2, q3.trans p3, q4, ⟨q5.1, fun i hi => (q5.2 i hi).later p3.toLater⟩, q6⟩
theorem AWPD.region {id : Nat} {o : Oper} {g : FuncId} {args : Array Operand} {tys : Array TypeId} (ho : o.op = .defer { callee := .value (.func g), args := args, argTypes := tys }) (hg : o.guard = none) (ht : o.dst = none) (hent : Enterable P g) (hdf : s.df = []) (hq : Q .normal s g (args.toList.map (ev s))) :
    AWPD P (.region id #[o] false) Q s := by
  intro D w a hs
  refine WPD.region (d := { target := .fn (.func g) #[], args := args.map a.eval }) ho hg (by rw [hs.defers, hdf]; rfl) ?_ ?_
  · simp [resolve, Act.eval, Deferred.ofValue]
  · rw [ht]
    show ∃ s' D' g' vs xs, _
    refine ⟨s, D, g, _, _, hq, hs, Ext.refl _ _ _, rfl, ⟨by simp, fun i hi => ?_⟩, hent⟩
    have hi2 : i < args.size := by simpa using hi
    have := ev_rep hs (args[i])
    simpa [Array.getD_eq_getD_getElem?, List.getD_eq_getElem?_getD, hi2] using this
end
/-- What comes next, behind code that ends as it should. -/
def nextD (P : Program) (y : Code) (Q : Ex → St → FuncId → List AV → Prop) : Ex → St → Prop
  | .normal, s => AWPD P y Q s
  | _, _ => False
theorem nextD_normal (P : Program) (y : Code) (Q : Ex → St → FuncId → List AV → Prop) (s : St) : nextD P y Q .normal s = AWPD P y Q s := (rfl)
theorem AWPD.seqN {P : Program} {Q : Ex → St → FuncId → List AV → Prop} {s : St} {x y : Code} (h : AWP P none x (nextD P y Q) s) : AWPD P (.seq x y) Q s := by
  refine AWPD.seqL fun D w a hs => WP.mono (h D w a hs) ?_
  rintro e a1 w1 ⟨s1, D1, hq, h1, hE⟩
  cases e with
  | normal => exact ⟨s1, D1, ⟨rfl, hq⟩, h1, hE⟩
  | exit id => exact hq.elim
  | goto l => exact hq.elim
  | ret => exact hq.elim
@[congr] theorem AWPD_congr {P : Program} {c : Code} {Q : Ex → St → FuncId → List AV → Prop} {s s' : St} (h : s = s') : AWPD P c Q s = AWPD P c Q s' := by rw [h]
@[congr] theorem nextD_congr {P : Program} {y : Code} {Q : Ex → St → FuncId → List AV → Prop} {e : Ex} {s s' : St} (h : s = s') : nextD P y Q e s = nextD P y Q e s' := by rw [h]
/-- The end: the call that was deferred, then the results. -/
def endD (P : Program) (fn : Func) (R : AV → Store → Prop) (g : FuncId) (xs : List AV) : Ex → St → Prop := fun e s => (e = .ret ∨ e = .normal) ∧ s.df = [] ∧ DefR P g xs s.S (fun S2 => retQ P fn R .ret ⟨s.ρ, S2, s.n, []⟩)
theorem endD_ret (P : Program) (fn : Func) (R : AV → Store → Prop) (g : FuncId) (xs : List AV) (ρ : Nat → AV) (S : Store) (n : Nat) (df : List Nat) :
    endD P fn R g xs .ret ⟨ρ, S, n, df⟩ = (df = [] ∧ DefR P g xs S (fun S2 => retQ P fn R .ret ⟨ρ, S2, n, []⟩)) := by simp [endD]
@[congr] theorem endD_congr {P : Program} {fn : Func} {R : AV → Store → Prop} {g : FuncId} {xs : List AV} {e : Ex} {s s' : St} (h : s = s') : endD P fn R g xs e s = endD P fn R g xs e s' := by rw [h]
@[congr] theorem DefR_congr {P : Program} {g : FuncId} {xs : List AV} {S : Store} {R : Store → Prop} : DefR P g xs S R = DefR P g xs S R := rfl
attribute [go_sem] nextD_normal endD_ret
attribute [go_sem ↓] nextD_normal endD_ret
theorem DefR.mono {P : Program} {g : FuncId} {xs : List AV} {S : Store} {R R' : Store → Prop} (h : DefR P g xs S R) (hr : ∀ S', R S' → R' S') : DefR P g xs S R' := by
  intro D w vs hR hv fr cs hfr
  obtain ⟨w', ⟨S', D', h1, h2⟩, st⟩ := h D w vs hR hv fr cs hfr
  exact ⟨w', ⟨S', D', hr _ h1, h2⟩, st⟩
theorem defR_of {P : Program} {f : FuncId} {fn : Func} {c : Code} {args : List AV} {S : Store} {R : Store → Prop} (hf : P.funcs[f]? = some fn) (hb : fn.body = some c)
    (h : AWP P none c (retQ P fn (fun _ S' => R S')) { ρ := Env.get (envOf 0 args), S := S, n := fn.ntmps, df := [] }) : DefR P f args S R := by
  intro D w vs hR hv fr cs hfr
  obtain ⟨w', ⟨v, x, S', D', h1, h2, _, h3⟩, st⟩ := givesD_of_wp hf hb (wp_of h hR hv) fr cs hfr
  exact ⟨w', ⟨S', D', h1, h2, h3⟩, st⟩
theorem callR_ofD {P : Program} {f : FuncId} {fn : Func} {c : Code} {args : List AV} {S : Store} {R : AV → Store → Prop} (hf : P.funcs[f]? = some fn) (hb : fn.body = some c) (hn : (fn.name == "runtime.NumGoroutine") = false)
    (h : AWPD P c (fun e s' g xs => endD P fn R g xs e s') { ρ := Env.get (envOf 0 args), S := S, n := fn.ntmps, df := [] }) : CallR P f args S R := by
  refine ⟨enterable_of hf hn (by rw [hb]; rfl), fun D w vs hR hv => gives_of_wpd hf hb ?_⟩
  have h0 := first_st fn hR hv
  intro b k cs hr
  obtain ⟨e, a', w', d, ⟨s', D', g, gv, xs, ⟨he, hdf, hD⟩, q2, q3, q4, q5, q6⟩, harr⟩ := h D w _ h0 b k cs hr
  refine ⟨e, a', w', d, ?_, harr⟩
  have key : a'.defers = [] ∧ ∃ g args, d = { target := .fn (.func g) #[], args := args } ∧ (callFunc g args).run P w' = .ok (.enter g args) w' ∧
      GivesD P g args w' (fun w2 => ∃ v, (results fn a'.tmps).run P w2 = .ok v w2 ∧ ∃ x S' D', R x S' ∧ Rel S' D' w2 ∧ RepA D' w2 v x ∧ Ext S D w S' D' w2) := by
    refine ⟨by rw [q2.defers, hdf]; rfl, g, gv, q4, q6 _ _, fun fr cs hfr => ?_⟩
    obtain ⟨w2, ⟨S2, D2, r1, r2, r3⟩, st⟩ := hD D' w' gv q2.rel q5 fr cs hfr
    refine ⟨w2, ?_, st⟩
    have hst : RelSt ⟨s'.ρ, S2, s'.n, []⟩ D2 w2 a' := ⟨r2, fun t => (q2.slots t).later r3.toLater, q2.size, by rw [q2.defers, hdf], fun r hr => (by cases hr), List.Pairwise.nil⟩
    obtain ⟨df, v, _, _, _, hres⟩ := ret_body r1 hst (q3.trans r3)
    obtain ⟨g1, g2⟩ := hres w2 (fun _ _ => rfl) rfl rfl rfl rfl rfl
    exact ⟨v, g1, g2⟩
  rcases he with rfl | rfl
  · exact key
  · exact key
end Go.Sk
