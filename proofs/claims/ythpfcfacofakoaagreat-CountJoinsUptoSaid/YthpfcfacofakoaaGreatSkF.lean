/- More operations: parts of values, addresses, numbers. -/
import Derived.Test.YthpfcfacofakoaaGreatSkE
set_option linter.unusedSimpArgs false
set_option linter.unusedVariables false
set_option linter.unusedSectionVars false
namespace Go.Sk
open Go

section
variable {P : Program} {o : Oper} {s : St} {D : Prot} {w : World} {a : Act} {K : St → Prop}

theorem RepA.inv {D : Prot} {w : World} {v : Value} {x : PV} (h : RepA D w v (.p x)) : Rep D w v x := by cases h; assumption

theorem move_ok {x : Operand} (h : RelSt s D w a) (hd : dstOk o s) (ho : o.op = .move x ∨ o.op = .assign x) (hK : K (s.put o.dst (ev s x))) : OpWP P o (Post s D w K) a w := by
  refine val_ok h hd ?_ (ev_rep h x) hK
  rcases ho with ho | ho <;> simp only [execOp, ho, Sem.run_pure]

theorem pick_ok {c x y : Operand} {t : Bool} (h : RelSt s D w a) (hd : dstOk o s) (ho : o.op = .pick c x y) (hc : ev s c = .p (.bool t)) (hK : K (s.put o.dst (if t then ev s x else ev s y))) :
    OpWP P o (Post s D w K) a w := by
  have hr := ev_rep h c
  rw [hc] at hr
  generalize hv : a.eval c = v at hr
  have hr := hr.inv; cases hr
  refine val_ok h hd (v := if t then a.eval x else a.eval y) ?_ ?_ hK
  · simp only [execOp, ho, hv, asBool, Sem.run_bind, Sem.run_pure, Result.andThen_ok]
  · cases t
    · exact ev_rep h y
    · exact ev_rep h x

def xunop (op : UnOp) (x : AV) (K : AV → Prop) : Prop :=
  match op, x with
  | .not, .p (.bool b) => K (.p (.bool (!b)))
  | .neg, .p (.int k n) => K (.p (.int k (k.wrap (0 - n))))
  | _, _ => False

theorem unop_ok {op : UnOp} {t : TypeId} {x : Operand} (h : RelSt s D w a) (hd : dstOk o s) (ho : o.op = .unOp op t x) (hx : xunop op (ev s x) (fun y => K (s.put o.dst y))) : OpWP P o (Post s D w K) a w := by
  have hr := ev_rep h x
  unfold xunop at hx
  split at hx
  · rename_i b heq
    rw [heq] at hr
    generalize hv : a.eval x = v at hr
    have hr := hr.inv; cases hr; exact val_ok h hd (by simp only [execOp, ho, hv, Op.unary, Sem.run_bind, Sem.run_pure, Result.andThen_ok]) (.p (.bool _)) hx
  · rename_i k n heq
    rw [heq] at hr
    generalize hv : a.eval x = v at hr
    have hr := hr.inv; cases hr; exact val_ok h hd (by simp only [execOp, ho, hv, Op.unary, Op.intArith, Sem.run_bind, Sem.run_pure, Result.andThen_ok]) (.p (.int _ _)) hx
  · exact hx.elim

def xconv (d e : Option TypeDesc) (x : AV) (K : AV → Prop) : Prop :=
  match d, e, x with
  | some (.int _), some (.int k), .p (.int _ n) => K (.p (.int k (k.wrap n)))
  | _, _, _ => False

theorem conv_ok {t u : TypeId} {x : Operand} (h : RelSt s D w a) (hd : dstOk o s) (ho : o.op = .convert t u x) (hx : xconv (P.underlying t) (P.underlying u) (ev s x) (fun y => K (s.put o.dst y))) : OpWP P o (Post s D w K) a w := by
  have hr := ev_rep h x
  unfold xconv at hx
  split at hx
  · rename_i k' k k'' n h1 h2 heq
    rw [heq] at hr
    generalize hv : a.eval x = v at hr
    cases hr with
    | p hr =>
      cases hr
      refine val_ok h hd ?_ (.p (.int _ _)) hx
      simp only [execOp, ho, hv, convert, Sem.run_bind, run_underlying, h1, h2, Result.andThen_ok, Conv.intToInt, Sem.run_pure]
  · exact hx.elim

/-- Numbers: what an operation makes of two. -/
def intBin (op : BinOp) (k : IntKind) (a b : Int) (K : PV → Prop) : Prop :=
  match op with
  | .add => K (.int k (k.wrap (a + b)))
  | .sub => K (.int k (k.wrap (a - b)))
  | .mul => K (.int k (k.wrap (a * b)))
  | .quo => b ≠ 0 ∧ K (.int k (k.wrap (a.tdiv b)))
  | .rem => b ≠ 0 ∧ K (.int k (a.tmod b))
  | .and => K (.int k (k.wrap (BitVec.ofInt k.bits a &&& BitVec.ofInt k.bits b).toNat))
  | .or => K (.int k (k.wrap (BitVec.ofInt k.bits a ||| BitVec.ofInt k.bits b).toNat))
  | .xor => K (.int k (k.wrap (BitVec.ofInt k.bits a ^^^ BitVec.ofInt k.bits b).toNat))
  | .andNot => K (.int k (k.wrap (BitVec.ofInt k.bits a &&& ~~~ BitVec.ofInt k.bits b).toNat))
  | .eql => K (.bool (a == b))
  | .neq => K (.bool (a != b))
  | .lss => K (.bool (decide (a < b)))
  | .leq => K (.bool (decide (a ≤ b)))
  | .gtr => K (.bool (decide (a > b)))
  | .geq => K (.bool (decide (a ≥ b)))
  | .shl | .shr => False

def intShift (op : BinOp) (k : IntKind) (a b : Int) (K : PV → Prop) : Prop :=
  match op with
  | .shl => 0 ≤ b ∧ K (.int k (k.wrap (a * 2 ^ (min b.toNat k.bits))))
  | .shr => 0 ≤ b ∧ K (.int k (a.fdiv (2 ^ (min b.toNat k.bits))))
  | _ => False

def xbin (d : Option TypeDesc) (op : BinOp) (x y : AV) (K : AV → Prop) : Prop :=
  match x, y with
  | .p (.int k a), .p (.int k' b) => if op = .shl ∨ op = .shr then intShift op k a b (fun v => K (.p v)) else k = k' ∧ intBin op k a b (fun v => K (.p v))
  | .p (.bool a), .p (.bool b) => d = some .bool ∧ match op with | .eql => K (.p (.bool (a == b))) | .neq => K (.p (.bool (!(a == b)))) | _ => False
  | .p (.str a), .p (.str b) => match op with
    | .eql => K (.p (.bool (a.toList == b.toList))) | .neq => K (.p (.bool (!(a.toList == b.toList)))) | .lss => K (.p (.bool (Op.bytesLess a.toList b.toList)))
    | .gtr => K (.p (.bool (!(Op.bytesLess a.toList b.toList || a.toList == b.toList)))) | _ => False
  | .fn _ _ _, .nilf => (∃ p r v, d = some (.func p r v)) ∧ match op with | .eql => K (.p (.bool false)) | .neq => K (.p (.bool true)) | _ => False
  | .nilf, .nilf => (∃ p r v, d = some (.func p r v)) ∧ match op with | .eql => K (.p (.bool true)) | .neq => K (.p (.bool false)) | _ => False
  | _, _ => False

theorem run_int_bin {op : BinOp} {k : IntKind} {x y : Int} {Q : PV → Prop} (hs : ¬ (op = .shl ∨ op = .shr)) (t : TypeId) (h : intBin op k x y Q) :
    ∃ v u, (binOp op t (.int k x) (.int k y)).run P w = .ok v w ∧ RepA D w v (.p u) ∧ Q u := by
  cases op <;> simp only [intBin] at h <;> first
    | exact absurd (Or.inl rfl) hs
    | exact absurd (Or.inr rfl) hs
    | (refine ⟨_, _, ?_, .p (.bool _), h⟩; simp only [binOp, ne_eq, not_true_eq_false, if_false, Op.intCmp, Sem.run_pure]; done)
    | (refine ⟨_, _, ?_, .p (.int _ _), h⟩; simp only [binOp, ne_eq, not_true_eq_false, if_false, Op.intArith, Op.intBits, Sem.run_pure]; done)
    | (refine ⟨_, _, ?_, .p (.int _ _), h.2⟩; simp only [binOp, ne_eq, not_true_eq_false, if_false, Op.intDiv, h.1, Sem.run_pure]; done)

theorem run_int_shift {op : BinOp} {k k' : IntKind} {x y : Int} {Q : PV → Prop} (t : TypeId) (h : intShift op k x y Q) :
    ∃ v u, (binOp op t (.int k x) (.int k' y)).run P w = .ok v w ∧ RepA D w v (.p u) ∧ Q u := by
  cases op <;> simp only [intShift] at h <;> first
    | exact h.elim
    | (have h0 := h.1; refine ⟨_, _, ?_, .p (.int _ _), h.2⟩; simp only [binOp, Op.shift, show ¬ y < 0 from by omega, if_false, Sem.run_pure]; done)

theorem eqGuard_int (op : BinOp) (t : TypeId) (x y : Operand) (k : IntKind) (n : Int) (v : Value) : (eqGuard op t x y (.int k n) v).run P w = .ok () w := by cases op <;> rfl
theorem eqGuard_bool (op : BinOp) (t : TypeId) (x y : Operand) (b : Bool) (v : Value) : (eqGuard op t x y (.bool b) v).run P w = .ok () w := by cases op <;> rfl
theorem eqGuard_str (op : BinOp) (t : TypeId) (x y : Operand) (b : ByteArray) (v : Value) : (eqGuard op t x y (.string b) v).run P w = .ok () w := by cases op <;> rfl
theorem eqGuard_fn (op : BinOp) (t : TypeId) (x y : Operand) (f : Fn) (p q : Array Value) (v : Value) : (eqGuard op t x y (.func f p q) v).run P w = .ok () w := by cases op <;> rfl
theorem eqGuard_nilf (op : BinOp) (t : TypeId) (x y : Operand) (v : Value) : (eqGuard op t x y .nilFunc v).run P w = .ok () w := by cases op <;> rfl

theorem run_equal_bool (t : TypeId) (x y : Bool) (hu : P.underlying t = some .bool) : (Op.equal t (.bool x) (.bool y)).run P w = .ok (x == y) w := by
  unfold Op.equal Op.maxDepth
  rw [Op.equalIn]
  simp only [Sem.run_bind, run_underlying, hu, Result.andThen_ok, Sem.run_pure]
theorem run_equal_fn_nil (t : TypeId) (f : Fn) (x y : Array Value) {p r : Array TypeId} {va : Bool} (hu : P.underlying t = some (.func p r va)) : (Op.equal t (.func f x y) .nilFunc).run P w = .ok false w := by
  unfold Op.equal Op.maxDepth
  rw [Op.equalIn]
  simp only [Sem.run_bind, run_underlying, hu, Result.andThen_ok, Sem.run_pure]
theorem run_equal_nil_nil (t : TypeId) {p r : Array TypeId} {va : Bool} (hu : P.underlying t = some (.func p r va)) : (Op.equal t .nilFunc .nilFunc).run P w = .ok true w := by
  unfold Op.equal Op.maxDepth
  rw [Op.equalIn]
  simp only [Sem.run_bind, run_underlying, hu, Result.andThen_ok, Sem.run_pure]

theorem bin_ok {op : BinOp} {t t' : TypeId} {x y : Operand} (h : RelSt s D w a) (hd : dstOk o s) (ho : o.op = .binOp op t x y t') (hx : xbin (P.underlying t) op (ev s x) (ev s y) (fun z => K (s.put o.dst z))) :
    OpWP P o (Post s D w K) a w := by
  have hr := ev_rep h x
  have hry := ev_rep h y
  unfold xbin at hx
  generalize hv : a.eval x = v at hr
  generalize hvy : a.eval y = vy at hry
  split at hx
  · rename_i k n k' m h1 h2
    rw [h1] at hr; rw [h2] at hry
    have hr := hr.inv; have hry := hry.inv; cases hr; cases hry; split at hx
    · obtain ⟨v, u, hrun, hrep, hK⟩ := run_int_shift (P := P) (w := w) (D := D) t (k' := k') hx
      refine val_ok h hd ?_ hrep hK
      simp only [execOp, ho, hv, hvy, Sem.run_bind, eqGuard_int, eqGuard_bool, eqGuard_str, eqGuard_fn, eqGuard_nilf, hrun, Result.andThen_ok, Sem.run_pure]
    · obtain ⟨rfl, hx⟩ := hx
      rename_i hs
      obtain ⟨v, u, hrun, hrep, hK⟩ := run_int_bin (P := P) (w := w) (D := D) hs t hx
      refine val_ok h hd ?_ hrep hK
      simp only [execOp, ho, hv, hvy, Sem.run_bind, eqGuard_int, eqGuard_bool, eqGuard_str, eqGuard_fn, eqGuard_nilf, hrun, Result.andThen_ok, Sem.run_pure]
  · rename_i p q h1 h2
    rw [h1] at hr; rw [h2] at hry
    obtain ⟨hu, hx⟩ := hx
    have hr := hr.inv; have hry := hry.inv; cases hr; cases hry
    cases op <;> try (exact hx.elim)
    all_goals
      refine val_ok h hd ?_ (.p (.bool _)) hx
      simp only [execOp, ho, hv, hvy, Sem.run_bind, eqGuard_int, eqGuard_bool, eqGuard_str, eqGuard_fn, eqGuard_nilf, Result.andThen_ok, Sem.run_pure, binOp, run_equal_bool t _ _ hu]
  · rename_i p q h1 h2
    rw [h1] at hr; rw [h2] at hry
    have hr := hr.inv; have hry := hry.inv; cases hr; cases hry
    cases op <;> try (exact hx.elim)
    all_goals
      refine val_ok h hd ?_ (.p (.bool _)) hx
      simp only [execOp, ho, hv, hvy, Sem.run_bind, eqGuard_int, eqGuard_bool, eqGuard_str, eqGuard_fn, eqGuard_nilf, Result.andThen_ok, Sem.run_pure, binOp, Op.stringOp]
  · rename_i f1 f2 f3 h1 h2
    rw [h1] at hr; rw [h2] at hry
    obtain ⟨⟨p, r, va, hu⟩, hx⟩ := hx
    cases hr; cases hry
    cases op <;> try (exact hx.elim)
    all_goals
      refine val_ok h hd ?_ (.p (.bool _)) hx
      simp only [execOp, ho, hv, hvy, Sem.run_bind, eqGuard_int, eqGuard_bool, eqGuard_str, eqGuard_fn, eqGuard_nilf, Result.andThen_ok, Sem.run_pure, binOp, run_equal_fn_nil t _ _ _ hu, Bool.not_false]
  · rename_i h1 h2
    rw [h1] at hr; rw [h2] at hry
    obtain ⟨⟨p, r, va, hu⟩, hx⟩ := hx
    cases hr; cases hry
    cases op <;> try (exact hx.elim)
    all_goals
      refine val_ok h hd ?_ (.p (.bool _)) hx
      simp only [execOp, ho, hv, hvy, Sem.run_bind, eqGuard_int, eqGuard_bool, eqGuard_str, eqGuard_fn, eqGuard_nilf, Result.andThen_ok, Sem.run_pure, binOp, run_equal_nil_nil t hu, Bool.not_true]
  · exact hx.elim

theorem makeFunc_ok {f : Fn} {first caps : Array Operand} (h : RelSt s D w a) (hd : dstOk o s) (ho : o.op = .makeFunc f first caps)
    (hK : K (s.put o.dst (.fn f (first.toList.map (ev s)) (caps.toList.map (ev s))))) : OpWP P o (Post s D w K) a w := by
  have key : ∀ l : Array Operand, (l.map a.eval).size = (l.toList.map (ev s)).length ∧ ∀ i, i < (l.toList.map (ev s)).length → RepA D w ((l.map a.eval).getD i undef) ((l.toList.map (ev s)).getD i .top) := by
    intro l
    refine ⟨by simp, fun i hi => ?_⟩
    simp only [List.length_map, Array.length_toList] at hi
    have e1 : (l.map a.eval).getD i undef = a.eval l[i] := by simp [Array.getD, hi]
    have e2 : (l.toList.map (ev s)).getD i .top = ev s l[i] := by simp [List.getD_eq_getElem?_getD, hi]
    rw [e1, e2]; exact ev_rep h _
  refine val_ok h hd ?_ (.fn f _ _ _ _ (key first).1 (key caps).1 (key first).2 (key caps).2) hK
  simp only [execOp, ho, Instr.makeFunc, Sem.run_bind, Sem.run_pure, Result.andThen_ok]

def xextract (x : AV) (i : Nat) (K : AV → Prop) : Prop := match x with | .tuple vs => i < vs.length ∧ K (vs.getD i .top) | _ => False
theorem extract_ok {x : Operand} {i : Nat} (h : RelSt s D w a) (hd : dstOk o s) (ho : o.op = .extract x i) (hx : xextract (ev s x) i (fun y => K (s.put o.dst y))) : OpWP P o (Post s D w K) a w := by
  have hr := ev_rep h x
  unfold xextract at hx
  split at hx
  · rename_i vs heq
    rw [heq] at hr
    generalize hv : a.eval x = v at hr
    cases hr with
    | tuple ws _ hn hrep =>
      refine val_ok h hd ?_ (hrep i hx.1) hx.2
      simp only [execOp, ho, hv, Instr.extract]
      rw [Array.getElem?_eq_getElem (by omega)]
      simp only [Sem.run_bind, Sem.run_pure, Result.andThen_ok, Array.getD]
      rw [dif_pos (by omega)]
      rfl
  · exact hx.elim

/-- An address that isn't nil. -/
def notNil : AV → Bool | .sp .. | .dp .. | .fn (.func _) .. | .fn (.yield _) .. => true | _ => false
theorem nilCheck_ok {x : Operand} (h : RelSt s D w a) (hd : dstOk o s) (ho : o.op = .nilCheck x) (hn : notNil (ev s x) = true) (hK : K (s.put o.dst (ev s x))) : OpWP P o (Post s D w K) a w := by
  have hr := ev_rep h x
  refine val_ok h hd ?_ hr hK
  generalize hv : a.eval x = v at hr
  generalize ev s x = y at hr hn
  cases hr <;> simp [notNil] at hn <;> try (simp only [execOp, ho, hv, Sem.run_pure])
  rename_i f first caps _ _ _ _ _ _
  cases f <;> simp at hn <;> simp only [execOp, ho, hv, Sem.run_pure]

/-! Fields and elements. -/
theorem FI_some {t : TypeId} {f off sz : Nat} {g : Bool} (h : FI P t f = some (off, sz, g)) :
    ∃ fs fl i d, P.underlying t = some (.struct fs) ∧ fs[f]? = some fl ∧ P.info? fl.type = some i ∧ P.underlying fl.type = some d ∧ fl.offset = off ∧ i.size = sz ∧ isAggD d = g := by
  unfold FI at h
  split at h
  · rename_i fs hfs
    split at h
    · rename_i fl hfl
      split at h
      · rename_i i d hi hd
        simp only [Option.some.injEq, Prod.mk.injEq] at h
        exact ⟨fs, fl, i, d, hfs, hfl, hi, hd, h.1, h.2.1, h.2.2⟩
      · cases h
    · cases h
  · cases h

def xfaddr (off sz : Nat) (x : AV) (K : AV → Prop) : Prop :=
  match x with
  | .sp b o => sz ≠ 0 ∧ K (.sp b (o + off))
  | .dp cs => sz ≠ 0 ∧ K (.dp (cs.drop off))
  | _ => False

theorem faddr_ok {t : TypeId} {x : Operand} {f off sz : Nat} {g : Bool} (h : RelSt s D w a) (hd : dstOk o s) (ho : o.op = .fieldAddr t x f) (hf : FI P t f = some (off, sz, g)) (hx : xfaddr off sz (ev s x) (fun y => K (s.put o.dst y))) :
    OpWP P o (Post s D w K) a w := by
  obtain ⟨fs, fl, i, d, h1, h2, h3, h4, h5, h6, _⟩ := FI_some hf
  have hr := ev_rep h x
  have run : ∀ b o', a.eval x = .pointer (some ⟨b, o', none⟩) → sz ≠ 0 → (execOp a.eval o).run P w = .ok (.value (.pointer (some ⟨b, o' + off, none⟩))) w := by
    intro b o' hv hz
    simp only [execOp, ho, hv, Instr.fieldAt, Sem.run_bind, run_underlying, h1, Result.andThen_ok, h2, Instr.sureAddr, Sem.run_pure, fieldPlace, run_sizeOf P w _ h3]
    rw [if_neg (by omega)]
    simp only [Sem.run_pure, Result.andThen_ok, Addr.add_mk, h5]
  unfold xfaddr at hx
  generalize hv : a.eval x = v at hr
  split at hx
  · rename_i b o' heq
    rw [heq] at hr; cases hr
    exact val_ok h hd (run _ _ hv hx.1) (.sp _ _) hx.2
  · rename_i cs heq
    rw [heq] at hr
    cases hr with
    | dp b o' _ vs hc hrp =>
      refine val_ok h hd (run _ _ hv hx.1) (.dp b (o' + off) _ (fun j => vs (off + j)) (fun j hj => ?_) (fun j hj => ?_)) hx.2
      · simp only [List.length_drop] at hj
        have := hc (off + j) (by omega)
        rw [show o' + off + j = o' + (off + j) from by omega]; exact this
      · simp only [List.length_drop] at hj
        have e : (cs.drop off).getD j default = cs.getD (off + j) default := by simp [List.getD_eq_getElem?_getD, List.getElem?_drop]
        rw [e]; exact hrp (off + j) (by omega)
  · exact hx.elim

def xfield (off sz : Nat) (g : Bool) (x : AV) (K : AV → Prop) : Prop :=
  match x with
  | .agg cs => off + sz ≤ cs.length ∧ (g = false → sz = 1) ∧ K (if g then .agg ((cs.drop off).take sz) else cs.getD off .top)
  | _ => False

theorem field_ok {t : TypeId} {x : Operand} {f off sz : Nat} {g : Bool} (h : RelSt s D w a) (hd : dstOk o s) (ho : o.op = .field t x f) (hf : FI P t f = some (off, sz, g)) (hx : xfield off sz g (ev s x) (fun y => K (s.put o.dst y))) :
    OpWP P o (Post s D w K) a w := by
  obtain ⟨fs, fl, i, d, h1, h2, h3, h4, h5, h6, h7⟩ := FI_some hf
  have hr := ev_rep h x
  unfold xfield at hx
  generalize hv : a.eval x = v at hr
  split at hx
  · rename_i cs heq
    rw [heq] at hr
    obtain ⟨hl, hs, hK⟩ := hx
    cases hr with
    | agg vs _ hn hrep =>
      have hia := run_isAgg P w fl.type h4
      rw [h7] at hia
      refine val_ok h hd (v := if g then .agg (vs.extract off (off + sz)) else vs.getD off undef) ?_ ?_ hK
      · simp only [execOp, ho, hv, Instr.field, Sem.run_bind, run_underlying, h1, Result.andThen_ok, h2, asAgg, Sem.run_pure, part, hia, h5]
        cases g with
        | true => simp only [if_true, Sem.run_bind, run_sizeOf P w _ h3, Result.andThen_ok, Sem.run_pure, h6]
        | false =>
          have := hs rfl
          simp only [Bool.false_eq_true, if_false]
          rw [Array.getElem?_eq_getElem (by omega)]
          simp only [Sem.run_pure, Result.andThen_ok, Array.getD]
          rw [dif_pos (by omega)]
          rfl
      · cases g with
        | true =>
          simp only [if_true]
          refine .agg _ _ (by simp; omega) (fun k hk => ?_)
          simp only [List.length_take, List.length_drop] at hk
          have e1 : (vs.extract off (off + sz)).getD k undef = vs.getD (off + k) undef := by
            simp only [Array.getD_eq_getD_getElem?, Array.getElem?_extract]
            rw [if_pos (by omega)]
          have e2 : (List.take sz (List.drop off cs)).getD k .top = cs.getD (off + k) .top := by
            simp only [List.getD_eq_getElem?_getD, List.getElem?_take, List.getElem?_drop]
            rw [if_pos (by omega)]
          rw [e1, e2]; exact hrep _ (by omega)
        | false =>
          have := hs rfl
          simp only [Bool.false_eq_true, if_false]
          exact hrep off (by omega)
  · exact hx.elim
end
end Go.Sk
