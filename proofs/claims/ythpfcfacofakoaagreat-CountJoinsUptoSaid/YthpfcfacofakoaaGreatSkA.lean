/- Execution of code in any frame, and of calls: a logic over the machine's steps. -/
import Derived.AtR
set_option linter.unusedSimpArgs false
set_option linter.unusedVariables false
set_option linter.unusedSectionVars false
namespace Go.Sk

/-- How code ends. -/
inductive Ex where
  | normal
  | exit (id : Nat)
  | goto (l : Nat)
  | ret

/-- A frame in which code runs; what was deferred ahead of it waits at the end. -/
abbrev aR (b : Frame) (a : Act) (k : List Item) : Frame := b.atR { tmps := a.tmps, defers := a.defers ++ b.defers } k
theorem put_aR (a : Act) (d : List Deferred) (o : Option Tmp) (v : Value) : Act.put { tmps := a.tmps, defers := a.defers ++ d } o v = { tmps := (a.put o v).tmps, defers := (a.put o v).defers ++ d } := by
  cases o <;> rfl
theorem eval_aR (a : Act) (d : List Deferred) : Act.eval { tmps := a.tmps, defers := a.defers ++ d } = a.eval := funext fun x => by cases x <;> rfl
theorem finish_aR (b : Frame) (a : Act) (ops : Array Oper) (i : Nat) (rest : List Nat) (k : List Item) (v : Value) :
    (aR b a (.inRegion ops (i :: rest) :: k)).finish v = aR b (a.put ((ops[i]?).bind (·.dst)) v) (.inRegion ops rest :: k) := by
  rw [Frame.finish_atR, put_aR]

/-- Where a machine has come, by how code ended. -/
def Arr (P : Program) (m : Machine) (b : Frame) (k : List Item) (cs : List Frame) : Ex → Act → World → Prop
  | .normal, a, w => Steps P m (lone (aR b a k) cs w)
  | .exit id, a, w => (∀ k', exitTo id k = some k' → Steps P m (lone (aR b a k') cs w)) ∧
      (exitTo id k = none → ∃ k', exitTo id k' = none ∧ Steps P m (lone (aR b a (.code (.exit id) :: k')) cs w))
  | .goto l, a, w => (∀ k', gotoIn l k = some k' → Steps P m (lone (aR b a k') cs w))
  | .ret, a, w => ∃ k', Steps P m (lone (aR b a (.code .ret :: k')) cs w)

theorem Arr.of_steps {P : Program} {m m₁ : Machine} {b : Frame} {k : List Item} {cs : List Frame} {e : Ex} {a : Act} {w : World}
    (h : Steps P m m₁) (h' : Arr P m₁ b k cs e a w) : Arr P m b k cs e a w := by
  cases e with
  | normal => exact h.trans h'
  | exit id => exact ⟨fun k' hk => h.trans (h'.1 k' hk), fun hk => let ⟨k', e, hs⟩ := h'.2 hk; ⟨k', e, h.trans hs⟩⟩
  | goto l => exact fun k' hk => h.trans (h' k' hk)
  | ret => obtain ⟨k', hs⟩ := h'; exact ⟨k', h.trans hs⟩

def WP (P : Program) (ro : Option Nat) (c : Code) (Q : Ex → Act → World → Prop) (a : Act) (w : World) : Prop :=
  ∀ (b : Frame) (k : List Item) (cs : List Frame), b.roundOf = ro →
    ∃ e a' w', Q e a' w' ∧ Arr P (lone (aR b a (.code c :: k)) cs w) b k cs e a' w'

section rules
variable {P : Program} {ro : Option Nat} {Q : Ex → Act → World → Prop} {a : Act} {w : World}

theorem WP.mono {c : Code} {Q' : Ex → Act → World → Prop} (h : WP P ro c Q a w) (hq : ∀ e a w, Q e a w → Q' e a w) : WP P ro c Q' a w :=
  fun b k cs hr => let ⟨e, a', w', q, r⟩ := h b k cs hr; ⟨e, a', w', hq _ _ _ q, r⟩

theorem WP.skip (h : Q .normal a w) : WP P ro .skip Q a w := fun _ _ _ _ => ⟨.normal, a, w, h, .one stepR_skip⟩
theorem WP.label {l : Nat} (h : Q .normal a w) : WP P ro (.label l) Q a w := fun _ _ _ _ => ⟨.normal, a, w, h, .one stepR_label⟩
theorem WP.exit {id : Nat} (h : Q (.exit id) a w) : WP P ro (.exit id) Q a w :=
  fun _ k _ _ => ⟨.exit id, a, w, h, fun _ hk => .one (stepR_exit hk), fun hk => ⟨k, hk, .refl _ _⟩⟩
theorem WP.goto {l : Nat} (h : Q (.goto l) a w) : WP P ro (.goto l) Q a w :=
  fun _ _ _ _ => ⟨.goto l, a, w, h, fun _ hk => .one (stepR_goto hk)⟩
theorem WP.ret (h : Q .ret a w) : WP P ro .ret Q a w := fun _ k _ _ => ⟨.ret, a, w, h, k, .refl _ _⟩

def Ex.then (next : Act → World → Prop) (Q : Ex → Act → World → Prop) : Ex → Act → World → Prop
  | .normal, a, w => next a w
  | e, a, w => Q e a w

theorem Arr.pass {m : Machine} {b : Frame} {x : Item} {k : List Item} {cs : List Frame} {e : Ex} {a : Act} {w : World}
    (hx : x.plain = true) (he : e ≠ .normal) (h : Arr P m b (x :: k) cs e a w) : Arr P m b k cs e a w := by
  cases e with
  | normal => exact absurd rfl he
  | exit id =>
    have hx' : exitTo id (x :: k) = exitTo id k := by cases x <;> simp_all [exitTo, Item.plain]
    exact ⟨fun k' hk => h.1 k' (by rw [hx', hk]), fun hk => h.2 (by rw [hx', hk])⟩
  | goto l => exact fun k' hk => h k' (by cases x <;> simp_all [gotoIn, Item.plain])
  | ret => exact h

theorem WP.seq {x y : Code} (h : WP P ro x (Ex.then (fun a w => WP P ro y Q a w) Q) a w) : WP P ro (.seq x y) Q a w := by
  intro b k cs hr
  obtain ⟨e, a₁, w₁, hq, harr⟩ := h b (.code y :: k) cs hr
  cases e with
  | normal =>
    obtain ⟨e₂, a₂, w₂, hq₂, harr₂⟩ := hq b k cs hr
    exact ⟨e₂, a₂, w₂, hq₂, .of_steps (.head stepR_seq harr) harr₂⟩
  | exit id => exact ⟨_, a₁, w₁, hq, .of_steps (.one stepR_seq) (.pass (x := .code y) rfl (by simp) harr)⟩
  | goto l => exact ⟨_, a₁, w₁, hq, .of_steps (.one stepR_seq) (.pass (x := .code y) rfl (by simp) harr)⟩
  | ret => exact ⟨_, a₁, w₁, hq, .of_steps (.one stepR_seq) (.pass (x := .code y) rfl (by simp) harr)⟩

theorem WP.cond {c : Operand} {x y : Code} {t : Bool} (hc : a.eval c = .bool t) (h : WP P ro (if t then x else y) Q a w) :
    WP P ro (.cond c x y) Q a w :=
  fun b k cs hr => let ⟨e, a', w', q, r⟩ := h b k cs hr; ⟨e, a', w', q, .of_steps (.one (stepR_cond hc)) r⟩

def Ex.inBlock (id : Nat) (Q : Ex → Act → World → Prop) : Ex → Act → World → Prop
  | .exit id', a, w => if id' = id then Q .normal a w else Q (.exit id') a w
  | e, a, w => Q e a w

theorem WP.block {id : Nat} {c : Code} (h : WP P ro c (Ex.inBlock id Q) a w) : WP P ro (.block id c) Q a w := by
  intro b k cs hr
  obtain ⟨e, a₁, w₁, hq, harr⟩ := h b (.inBlock id :: k) cs hr
  cases e with
  | normal => exact ⟨.normal, a₁, w₁, hq, .head stepR_block (Steps.trans harr (.one stepR_inBlock))⟩
  | exit id' =>
    by_cases hid : id' = id
    · simp only [Ex.inBlock, hid, if_true] at hq
      exact ⟨.normal, a₁, w₁, hq, .head stepR_block (harr.1 k (by simp [exitTo, hid]))⟩
    · simp only [Ex.inBlock, hid, if_false] at hq
      have : (id == id') = false := by simp; exact fun h => hid h.symm
      have he : exitTo id' (.inBlock id :: k) = exitTo id' k := by simp [exitTo, this]
      refine ⟨.exit id', a₁, w₁, hq, fun k' hk => .head stepR_block (harr.1 k' (by rw [he, hk])), fun hk => ?_⟩
      obtain ⟨k', e, hs⟩ := harr.2 (by rw [he, hk])
      exact ⟨k', e, .head stepR_block hs⟩
  | goto l => exact ⟨_, a₁, w₁, hq, fun k' hk => .head stepR_block (harr k' (by simp [gotoIn, hk]))⟩
  | ret => exact ⟨_, a₁, w₁, hq, .of_steps (.one stepR_block) harr⟩

theorem WP.loop {c : Code} (I : Act → World → Prop) (μ : Act → World → Nat) (h₀ : I a w)
    (round : ∀ a w, I a w → WP P ro c (Ex.then (fun a' w' => I a' w' ∧ μ a' w' < μ a w) Q) a w) : WP P ro (.loop c) Q a w := by
  intro b k cs hr
  have key : ∀ n a w, μ a w = n → I a w →
      ∃ e a' w', Q e a' w' ∧ Arr P (lone (aR b a (.code c :: .inLoop c :: k)) cs w) b k cs e a' w' := by
    intro n
    induction n using Nat.strongRecOn with
    | _ n ih =>
      intro a w hn hI
      obtain ⟨e, a₁, w₁, hq, harr⟩ := round a w hI b (.inLoop c :: k) cs hr
      cases e with
      | normal =>
        obtain ⟨hI₁, hlt⟩ := hq
        obtain ⟨e₂, a₂, w₂, hq₂, harr₂⟩ := ih (μ a₁ w₁) (hn ▸ hlt) a₁ w₁ rfl hI₁
        exact ⟨e₂, a₂, w₂, hq₂, .of_steps (Steps.trans harr (.one stepR_inLoop)) harr₂⟩
      | exit id => exact ⟨_, a₁, w₁, hq, .pass (x := .inLoop c) rfl (by simp) harr⟩
      | goto l => exact ⟨_, a₁, w₁, hq, .pass (x := .inLoop c) rfl (by simp) harr⟩
      | ret => exact ⟨_, a₁, w₁, hq, .pass (x := .inLoop c) rfl (by simp) harr⟩
  obtain ⟨e, a', w', hq, harr⟩ := key _ a w rfl h₀
  exact ⟨e, a', w', hq, .of_steps (.one stepR_loop) harr⟩

/-- A scope (for labels that a goto may jump to). -/
theorem WP.scope {c : Code} (h : WP P ro c (fun e a w => (∀ l, e ≠ .goto l) ∧ Q e a w) a w) : WP P ro (.scope c) Q a w := by
  intro b k cs hr
  obtain ⟨e, a₁, w₁, ⟨hn, hq⟩, harr⟩ := h b (.inScope c :: k) cs hr
  have st : step P (lone (aR b a (.code (.scope c) :: k)) cs w) = .next (lone (aR b a (.code c :: .inScope c :: k)) cs w) :=
    step_lone_go (by simp [stepG, stepG.exec, Frame.atR])
  have st2 : ∀ a w, step P (lone (aR b a (.inScope c :: k)) cs w) = .next (lone (aR b a k) cs w) := fun a w =>
    step_lone_go (by simp [stepG, stepG.exec, Frame.atR])
  cases e with
  | normal => exact ⟨.normal, a₁, w₁, hq, .head st (Steps.trans harr (.one (st2 _ _)))⟩
  | exit id =>
    have he : exitTo id (.inScope c :: k) = exitTo id k := by simp [exitTo]
    refine ⟨_, a₁, w₁, hq, fun k' hk => .head st (harr.1 k' (by rw [he, hk])), fun hk => ?_⟩
    obtain ⟨k', e, hs⟩ := harr.2 (by rw [he, hk])
    exact ⟨k', e, .head st hs⟩
  | goto l => exact absurd rfl (hn l)
  | ret => exact ⟨_, a₁, w₁, hq, .of_steps (.one st) harr⟩
end rules

/-! Calls. -/
/-- A callee's first frame, whoever called: it hands back v, in w'. -/
def Gives (P : Program) (fr : Frame) (w : World) (R : Value → World → Prop) : Prop :=
  ∀ (c : Frame) (cs : List Frame), ∃ v w', R v w' ∧ Steps P (lone fr (c :: cs) w) (lone (c.finish v) cs w')

theorem Gives.mono {P : Program} {fr : Frame} {w : World} {R R' : Value → World → Prop} (h : Gives P fr w R) (hr : ∀ v w', R v w' → R' v w') : Gives P fr w R' :=
  fun c cs => let ⟨v, w', r, s⟩ := h c cs; ⟨v, w', hr _ _ r, s⟩

/-- What an operation's run leads to. -/
def Upon (P : Program) (o : Oper) (a : Act) (K : Act → World → Prop) : Result Next → Prop
  | .ok (.value v) w' => K (a.put o.dst v) w'
  | .ok .skip w' => K (a.put o.dst undef) w'
  | .ok (.enter f args) w' => Gives P (Frame.enter P f args .normal) w' fun v w'' => K (a.put o.dst v) w''
  | .ok (.round l f tmps assign body) w' => Gives P (Frame.round l f tmps assign body .normal) w' fun v w'' => K (a.put o.dst v) w''
  | _ => False

def noDefer (o : Oper) : Prop := ∀ c, o.op ≠ .defer c

def OpWP (P : Program) (o : Oper) (K : Act → World → Prop) (a : Act) (w : World) : Prop :=
  Upon P o a K ((execOp a.eval o).run P w)

theorem Upon.mono {P : Program} {o : Oper} {a : Act} {K K' : Act → World → Prop} {r : Result Next} (h : Upon P o a K r) (hk : ∀ a w, K a w → K' a w) : Upon P o a K' r := by
  cases r with
  | halt h' w' => exact h.elim
  | ok x w' => cases x <;> first | exact hk _ _ h | exact Gives.mono h (fun _ _ => hk _ _) | exact h.elim

/-- Operations in the order of a list. -/
def OpsWP (P : Program) (ops : Array Oper) (K : Act → World → Prop) : List Nat → Act → World → Prop
  | [], a, w => K a w
  | i :: rest, a, w =>
    match ops[i]? with
    | none => OpsWP P ops K rest a w
    | some o =>
      if Region.wanted o (yielded ops a.tmps) then noDefer o ∧ OpWP P o (OpsWP P ops K rest) a w
      else OpsWP P ops K rest (a.put o.dst undef) w

section
variable {P : Program} {ro : Option Nat} {Q : Ex → Act → World → Prop} {a : Act} {w : World}

theorem ops_run {ops : Array Oper} {K : Act → World → Prop} (l : List Nat) : ∀ (a : Act) (w : World), OpsWP P ops K l a w →
    ∀ (b : Frame) (k : List Item) (cs : List Frame), ∃ a' w', K a' w' ∧ Steps P (lone (aR b a (.inRegion ops l :: k)) cs w) (lone (aR b a' k) cs w') := by
  induction l with
  | nil => exact fun a w h b k cs => ⟨a, w, h, .one stepR_region_end⟩
  | cons i rest ih =>
    intro a w h b k cs
    simp only [OpsWP] at h
    cases ho : ops[i]? with
    | none =>
      simp only [ho] at h
      obtain ⟨a', w', hq, harr⟩ := ih a w h b k cs
      have hs := stepR_op_skip (P := P) (b := b) (a := { tmps := a.tmps, defers := a.defers ++ b.defers }) (k := k) (cs := cs) (w := w) (ops := ops) (i := i) (rest := rest) (by simp [ho])
      simp only [ho, Option.bind_none, Act.put] at hs
      exact ⟨a', w', hq, .head hs harr⟩
    | some o =>
      simp only [ho] at h
      by_cases hw : Region.wanted o (yielded ops a.tmps) = true
      · simp only [hw, if_true] at h
        obtain ⟨hnd, h⟩ := h
        have hg := stepGR_op (P := P) (b := b) (a := { tmps := a.tmps, defers := a.defers ++ b.defers }) (k := k) (cs := cs) (w := w) (rest := rest) ho hw
        rw [Oper.semAt_eq _ _ _ hnd, eval_aR] at hg
        have hfin : ∀ v, (aR b a (.inRegion ops (i :: rest) :: k)).finish v = aR b (a.put o.dst v) (.inRegion ops rest :: k) := by
          intro v; rw [finish_aR, ho]; rfl
        unfold OpWP at h
        cases hr : (execOp a.eval o).run P w with
        | halt x w' => rw [hr] at h; exact h.elim
        | ok x w' =>
          rw [hr] at h
          cases x with
          | value v =>
            obtain ⟨a', w'', hq, harr⟩ := ih _ _ h b k cs
            refine ⟨a', w'', hq, .head (step_lone_go ?_) harr⟩
            rw [hg, ← hfin]; simp [stepG.apply, hr]
          | skip =>
            obtain ⟨a', w'', hq, harr⟩ := ih _ _ h b k cs
            refine ⟨a', w'', hq, .head (step_lone_go ?_) harr⟩
            rw [hg, ← hfin]; simp [stepG.apply, hr]
          | enter f args =>
            obtain ⟨v, w'', hR, hsteps⟩ := h (aR b a (.inRegion ops (i :: rest) :: k)) cs
            have henter : step P (lone (aR b a (.inRegion ops (i :: rest) :: k)) cs w) =
                .next (lone (Frame.enter P f args .normal) (aR b a (.inRegion ops (i :: rest) :: k) :: cs) w') :=
              step_lone_go (by rw [hg]; simp [stepG.apply, hr, Frame.atR])
            obtain ⟨a', w₃, hq, harr⟩ := ih _ _ hR b k cs
            refine ⟨a', w₃, hq, .head henter (hsteps.trans ?_)⟩
            rw [hfin]; exact harr
          | round l f tmps assign body =>
            obtain ⟨v, w'', hR, hsteps⟩ := h (aR b a (.inRegion ops (i :: rest) :: k)) cs
            have henter : step P (lone (aR b a (.inRegion ops (i :: rest) :: k)) cs w) =
                .next (lone (Frame.round l f tmps assign body .normal) (aR b a (.inRegion ops (i :: rest) :: k) :: cs) w') :=
              step_lone_go (by rw [hg]; simp [stepG.apply, hr, Frame.atR])
            obtain ⟨a', w₃, hq, harr⟩ := ih _ _ hR b k cs
            refine ⟨a', w₃, hq, .head henter (hsteps.trans ?_)⟩
            rw [hfin]; exact harr
          | _ => exact h.elim
      · simp only [hw, if_false, Bool.false_eq_true] at h
        obtain ⟨a', w', hq, harr⟩ := ih _ _ h b k cs
        have hs := stepR_op_skip (P := P) (b := b) (a := { tmps := a.tmps, defers := a.defers ++ b.defers }) (k := k) (cs := cs) (w := w) (ops := ops) (i := i) (rest := rest)
          (by simp [ho]; simpa using hw)
        simp only [ho, Option.bind_some, put_aR] at hs
        exact ⟨a', w', hq, .head hs harr⟩

theorem WP.region {id : Nat} {ops : Array Oper} (h : OpsWP P ops (Q .normal) (List.range ops.size) a w) : WP P ro (.region id ops false) Q a w :=
  fun b k cs _ => let ⟨a', w', q, r⟩ := ops_run _ a w h b k cs; ⟨.normal, a', w', q, .head stepR_region r⟩

theorem WP.region_draw {id : Nat} {ops : Array Oper}
    (h : ∀ t, OpsWP P ops (Q .normal) (Region.schedule (P.follows .mixedOrders) ops t) a { w with drawn := w.drawn + 1 }) : WP P ro (.region id ops true) Q a w :=
  fun b k cs _ => let ⟨a', w', q, r⟩ := ops_run _ a _ (h _) b k cs; ⟨.normal, a', w', q, .head stepR_region_draw r⟩
end

/-- The deferred marks of loops over functions, and no more. -/
def marks (df : List Nat) : List Deferred := df.map fun r => { target := .collected r, args := #[] }

/-- A function that returns: its marks are taken one by one; nobody else looks at them. -/
theorem unwind_marks {P : Program} {c : Frame} {cs : List Frame} {fn : Func} {v : Value} :
    ∀ (df : List Nat) (fr : Frame) (w : World), P.funcs[fr.fn]? = some fn → fr.kind = .normal → fr.mode = .returning → fr.defers = marks df →
      (∀ r ∈ df, w.heap[r]? = some (.deferred (some []))) → df.Nodup →
      (∀ w', (∀ b, b ∉ df → w'.heap[b]? = w.heap[b]?) → w'.heap.size = w.heap.size → w'.tape = w.tape → w'.os = w.os → w'.output = w.output → w'.drawn = w.drawn → (results fn fr.tmps).run P w' = .ok v w') →
      ∃ w', Steps P (lone fr (c :: cs) w) (lone (c.finish v) cs w') ∧ (∀ b, b ∉ df → w'.heap[b]? = w.heap[b]?) ∧ w'.heap.size = w.heap.size ∧ w'.tape = w.tape ∧ w'.os = w.os ∧ w'.output = w.output ∧ w'.drawn = w.drawn := by
  intro df
  induction df with
  | nil =>
    intro fr w hf hk hm hd _ _ hres
    refine ⟨w, .one (step_lone_go ?_), fun _ _ => rfl, rfl, rfl, rfl, rfl, rfl⟩
    have hr := hres w (fun _ _ => rfl) rfl rfl rfl rfl rfl
    simp [stepG, unwind, doReturn, hm, hd, hk, hf, hr, marks]
  | cons r df ih =>
    intro fr w hf hk hm hd hb hn hres
    have h0 : w.heap[r]? = some (.deferred (some [])) := hb r (by simp)
    have hrun : (Instr.takeDeferred r).run P w = .ok [] { w with heap := w.heap.setIfInBounds r (.deferred none) } := by
      simp [Instr.takeDeferred, getObj, setObj, Sem.run, h0]
    let w1 : World := { w with heap := w.heap.setIfInBounds r (.deferred none) }
    have hkeep : ∀ b, b ≠ r → w1.heap[b]? = w.heap[b]? := fun b hb => by
      show (w.heap.setIfInBounds r _)[b]? = _
      rw [Array.getElem?_setIfInBounds, if_neg (fun e => hb e.symm)]
    have hs : step P (lone fr (c :: cs) w) = .next (lone { fr with defers := marks df } (c :: cs) w1) :=
      step_lone_go (by simp [stepG, unwind, hm, hd, marks, Sem.runT_eq, hrun, w1])
    have hnr : r ∉ df := (List.nodup_cons.1 hn).1
    obtain ⟨w', s', hk', hsz, ht, ho, hou, hdr⟩ := ih { fr with defers := marks df } w1 hf hk hm rfl
      (fun x hx => by rw [hkeep x (fun e => hnr (e ▸ hx))]; exact hb x (by simp [hx])) (List.nodup_cons.1 hn).2
      (fun w2 h1 h2 h3 h4 h5 h6 => hres w2 (fun b hb => by
          rw [h1 b (fun h => hb (by simp [h])), hkeep b (fun e => hb (by simp [e]))]) (by simp [h2, w1]) h3 h4 h5 h6)
    refine ⟨w', .head hs s', fun b hb => ?_, by simp [hsz, w1], ht, ho, hou, hdr⟩
    rw [hk' b (fun h => hb (by simp [h])), hkeep b (fun e => hb (by simp [e]))]

/-- What a function's body must come to. -/
def BodyQ (P : Program) (fn : Func) (R : Value → World → Prop) : Ex → Act → World → Prop
  | .normal, a, w | .ret, a, w => ∃ df v, a.defers = marks df ∧ (∀ r ∈ df, w.heap[r]? = some (.deferred (some []))) ∧ df.Nodup ∧
      (∀ w', (∀ b, b ∉ df → w'.heap[b]? = w.heap[b]?) → w'.heap.size = w.heap.size → w'.tape = w.tape → w'.os = w.os → w'.output = w.output → w'.drawn = w.drawn →
        (results fn a.tmps).run P w' = .ok v w' ∧ R v w')
  | _, _, _ => False

theorem gives_of_wp {P : Program} {f : FuncId} {fn : Func} {c : Code} {args : Array Value} {w : World} {R : Value → World → Prop}
    (hf : P.funcs[f]? = some fn) (hb : fn.body = some c)
    (h : WP P none c (BodyQ P fn R) { tmps := args ++ Array.replicate (fn.ntmps - args.size) undef, defers := [] } w) :
    Gives P (Frame.enter P f args .normal) w R := by
  intro cl cs
  let b : Frame := { fn := f, tmps := #[], todo := [], defers := [], mode := .run, kind := .normal }
  have henter : Frame.enter P f args .normal =
      aR b { tmps := args ++ Array.replicate (fn.ntmps - args.size) undef, defers := [] } [.code c] := by
    simp [Frame.enter, Frame.atR, hf, hb, b]
  obtain ⟨e, a', w', hq, harr⟩ := h b [] (cl :: cs) rfl
  rw [← henter] at harr
  have fin : ∀ k', Steps P (lone (Frame.enter P f args .normal) (cl :: cs) w) (lone { aR b a' k' with mode := .returning } (cl :: cs) w') → 
      (∃ df v, a'.defers = marks df ∧ (∀ r ∈ df, w'.heap[r]? = some (.deferred (some []))) ∧ df.Nodup ∧
      (∀ w₂ : World, (∀ b, b ∉ df → w₂.heap[b]? = w'.heap[b]?) → w₂.heap.size = w'.heap.size → w₂.tape = w'.tape → w₂.os = w'.os → w₂.output = w'.output → w₂.drawn = w'.drawn →
        (results fn a'.tmps).run P w₂ = .ok v w₂ ∧ R v w₂)) →
      ∃ v w', R v w' ∧ Steps P (lone (Frame.enter P f args .normal) (cl :: cs) w) (lone (cl.finish v) cs w') := by
    intro k' hs ⟨df, v, hd, hm, hn, hr⟩
    obtain ⟨w₂, s2, h1, h2, h3, h4, h5, h6⟩ := unwind_marks (P := P) (c := cl) (cs := cs) (fn := fn) (v := v) df { aR b a' k' with mode := .returning } w' hf rfl rfl (by show a'.defers ++ [] = _; rw [List.append_nil]; exact hd) hm hn
      (fun w₂ h1 h2 h3 h4 h5 h6 => (hr w₂ h1 h2 h3 h4 h5 h6).1)
    exact ⟨v, w₂, (hr w₂ h1 h2 h3 h4 h5 h6).2, hs.trans s2⟩
  cases e with
  | normal => exact fin [] (Steps.trans harr (.one (stepR_end rfl))) hq
  | ret => obtain ⟨k', hs⟩ := harr; exact fin _ (hs.trans (.one (stepR_ret rfl))) hq
  | exit id => exact hq.elim
  | goto l => exact hq.elim

/-- Marks are taken one by one. -/
theorem unwind_all {P : Program} {cs : List Frame} :
    ∀ (df : List Nat) (fr : Frame) (w : World), fr.mode = .returning → fr.defers = marks df →
      (∀ r ∈ df, w.heap[r]? = some (.deferred (some []))) → df.Nodup →
      ∃ w', Steps P (lone fr cs w) (lone { fr with defers := [] } cs w') ∧ (∀ b, b ∉ df → w'.heap[b]? = w.heap[b]?) ∧ w'.heap.size = w.heap.size ∧ w'.tape = w.tape ∧ w'.os = w.os ∧ w'.output = w.output ∧ w'.drawn = w.drawn := by
  intro df
  induction df with
  | nil =>
    intro fr w hm hd _ _
    have : { fr with defers := [] } = fr := by cases fr; simp_all [marks]
    rw [this]
    exact ⟨w, .refl _ _, fun _ _ => rfl, rfl, rfl, rfl, rfl, rfl⟩
  | cons r df ih =>
    intro fr w hm hd hb hn
    have h0 : w.heap[r]? = some (.deferred (some [])) := hb r (by simp)
    have hrun : (Instr.takeDeferred r).run P w = .ok [] { w with heap := w.heap.setIfInBounds r (.deferred none) } := by
      simp [Instr.takeDeferred, getObj, setObj, Sem.run, h0]
    let w1 : World := { w with heap := w.heap.setIfInBounds r (.deferred none) }
    have hkeep : ∀ b, b ≠ r → w1.heap[b]? = w.heap[b]? := fun b hb => by
      show (w.heap.setIfInBounds r _)[b]? = _
      rw [Array.getElem?_setIfInBounds, if_neg (fun e => hb e.symm)]
    have hs : step P (lone fr cs w) = .next (lone { fr with defers := marks df } cs w1) :=
      step_lone_go (by simp [stepG, unwind, hm, hd, marks, Sem.runT_eq, hrun, w1])
    have hnr : r ∉ df := (List.nodup_cons.1 hn).1
    obtain ⟨w', s', hk', hsz, ht, ho, hou, hdr⟩ := ih { fr with defers := marks df } w1 hm rfl
      (fun x hx => by rw [hkeep x (fun e => hnr (e ▸ hx))]; exact hb x (by simp [hx])) (List.nodup_cons.1 hn).2
    refine ⟨w', .head hs s', fun b hb => ?_, by simp [hsz, w1], ht, ho, hou, hdr⟩
    rw [hk' b (fun h => hb (by simp [h])), hkeep b (fun e => hb (by simp [e]))]

theorem calls_of_body {P : Program} {f : FuncId} {fn : Func} {c : Code} {args : Array Value} {w : World} {R : Value → World → Prop}
    (hf : P.funcs[f]? = some fn) (hb : fn.body = some c)
    (h : WP P none c (BodyQ P fn R) { tmps := args ++ Array.replicate (fn.ntmps - args.size) undef, defers := [] } w) :
    Calls P f args w fun e w' => ∃ v, e = .returned v ∧ R v w' := by
  intro cs
  let b : Frame := { fn := f, tmps := #[], todo := [], defers := [], mode := .run, kind := .normal }
  have henter : Frame.enter P f args .normal =
      aR b { tmps := args ++ Array.replicate (fn.ntmps - args.size) undef, defers := [] } [.code c] := by
    simp [Frame.enter, Frame.atR, hf, hb, b]
  obtain ⟨e, a', w', hq, harr⟩ := h b [] cs rfl
  rw [← henter] at harr
  have fin : ∀ k', Steps P (lone (Frame.enter P f args .normal) cs w) (lone { aR b a' k' with mode := .returning } cs w') →
      (∃ df v, a'.defers = marks df ∧ (∀ r ∈ df, w'.heap[r]? = some (.deferred (some []))) ∧ df.Nodup ∧
      (∀ w₂ : World, (∀ b, b ∉ df → w₂.heap[b]? = w'.heap[b]?) → w₂.heap.size = w'.heap.size → w₂.tape = w'.tape → w₂.os = w'.os → w₂.output = w'.output → w₂.drawn = w'.drawn →
        (results fn a'.tmps).run P w₂ = .ok v w₂ ∧ R v w₂)) →
      ∃ e w' fr, (∃ v, e = Ending.returned v ∧ R v w') ∧ Comes P (lone (Frame.enter P f args .normal) cs w) (lone fr cs w') e ∧ fr.fn = f ∧ fr.leaving P w' e := by
    intro k' hs ⟨df, v, hd, hm, hn, hr⟩
    obtain ⟨w₂, s2, h1, h2, h3, h4, h5, h6⟩ := unwind_all (P := P) (cs := cs) df { aR b a' k' with mode := .returning } w' rfl (by show a'.defers ++ [] = _; rw [List.append_nil]; exact hd) hm hn
    obtain ⟨g1, g2⟩ := hr w₂ h1 h2 h3 h4 h5 h6
    exact ⟨.returned v, w₂, _, ⟨v, rfl, g2⟩, hs.trans s2, rfl, rfl, rfl, rfl, fn, hf, g1⟩
  cases e with
  | normal => exact fin [] (Steps.trans harr (.one (stepR_end rfl))) hq
  | ret => obtain ⟨k', hs⟩ := harr; exact fin _ (hs.trans (.one (stepR_ret rfl))) hq
  | exit id => exact hq.elim
  | goto l => exact hq.elim

/-- A call in the kit's form is a call. -/
theorem Calls.gives {P : Program} {f : FuncId} {args : Array Value} {w : World} {R : Value → World → Prop} (h : Calls P f args w fun e w' => ∃ v, e = .returned v ∧ R v w') :
    Gives P (Frame.enter P f args .normal) w R := by
  intro c cs
  obtain ⟨e, w', fr, ⟨v, rfl, hR⟩, hc, _, hl⟩ := h (c :: cs)
  exact ⟨v, w', hR, Steps.trans hc (.one (step_leave_returned hl))⟩

end Go.Sk
