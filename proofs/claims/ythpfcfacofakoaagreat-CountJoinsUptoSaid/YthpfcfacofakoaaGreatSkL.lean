/- The rules by which a walk is carried out: one set; each turns on values that are known by then, and none looks ahead. -/
import Derived.Test.YthpfcfacofakoaaGreatSkK
import Derived.Attr
set_option linter.unusedSimpArgs false
set_option linter.unusedVariables false
set_option linter.unusedSectionVars false
namespace Go.Sk
open Go

/-- What a state must agree with. -/
def subEnv : Env → (Nat → AV) → Prop
  | [], _ => True
  | (k, v) :: r, ρ => ρ k = v ∧ subEnv r ρ

theorem subEnv_get : ∀ (t : Env) (s : Nat → AV), subEnv t s → ∀ k, t.get k = s k ∨ t.get k = .top := by
  intro t
  induction t with
  | nil => intro s _ k; exact Or.inr rfl
  | cons kv r ih =>
    obtain ⟨j, v⟩ := kv
    intro s h k
    simp only [Env.get]
    by_cases e : k = j
    · subst e; rw [if_pos rfl]; exact Or.inl h.1.symm
    · rw [if_neg e]; exact ih s h.2 k

theorem le_of {s : St} {ρ : Env} {S : Store} {n : Nat} {df : List Nat} (h1 : subEnv ρ s.ρ) (h2 : Sub S s.S) (h3 : n = s.n) (h4 : df = s.df) (h5 : ∀ r ∈ df, S (.r r) = some (.raw (.deferred (some [])) noKn)) : s.le ⟨ρ.get, S, n, df⟩ :=
  ⟨subEnv_get _ _ h1, h2, h3, h4, h5⟩

/-- The way back to a loop's head. -/
theorem again {s : St} {I : Nat → St → Prop} {n m : Nat} (ρ : Env) (S : Store) (h1 : subEnv ρ s.ρ) (h2 : Sub S s.S) (h5 : ∀ r ∈ s.df, S (.r r) = some (.raw (.deferred (some [])) noKn))
    (hm : m < n) (hI : I m ⟨ρ.get, S, s.n, s.df⟩) : ∃ t m, s.le t ∧ m < n ∧ I m t := ⟨_, m, le_of h1 h2 rfl rfl h5, hm, hI⟩

/-! Stops: a block that is new, a slice that is new, a slice that grew: a walk waits there. -/
def Fresh (S : Store) (b : Nat) : Prop := S (.r b) = none
def FreshV (S : Store) (k : Nat) : Prop := S (.v k) = none
def AllocP (x : Blk) (S : Store) (C : AV → Store → Prop) : Prop := ∀ b, S (.r b) = none → C (.sp b 0) (S.set (.r b) x)
def GrowP (k sz : Nat) (els : List (List PV)) (S : Store) (C : AV → Store → Prop) : Prop := ∀ loc, C (.ts k sz loc els) (S.set (.v k) (.tip sz els.length loc))
theorem alloc_intro {x : Blk} {S : Store} {C : AV → Store → Prop} (h : ∀ b, Fresh S b → C (.sp b 0) (S.set (.r b) x)) : AllocP x S C := h
theorem tip_intro {sz : Nat} {els ys : List (List PV)} {S : Store} {C : AV → Store → Prop} (h : ∀ k loc, FreshV S k → C (.ts k sz loc (els ++ ys)) (S.set (.v k) (.tip sz (els ++ ys).length loc))) : NewP sz els ys S C := Or.inl fun k hk loc => h k loc hk
theorem own_intro {sz : Nat} {els ys : List (List PV)} {S : Store} {C : AV → Store → Prop} (hne : ys ≠ [])
    (h : ∀ b c, Fresh S b → (els ++ ys).length ≤ c → C (.ms b sz 0 (els ++ ys).length c) (S.set (.r b) (.cells (flatA (els ++ ys) ++ List.replicate ((c - (els ++ ys).length) * sz) .top)))) : NewP sz els ys S C := Or.inr ⟨hne, h⟩
def MakeP (sz l c : Nat) (x : Blk) (S : Store) (C : AV → Store → Prop) : Prop := ∀ b, S (.r b) = none → C (.ms b sz 0 l c) (S.set (.r b) x)
def ZeroP (sz n : Nat) (z : List AV) (S : Store) (C : AV → Store → Prop) : Prop := ∀ b c, S (.r b) = none → n ≤ c → C (.ms b sz 0 n c) (S.set (.r b) (.cells (zcs z c)))
theorem zero_intro {sz n : Nat} {z : List AV} {S : Store} {C : AV → Store → Prop} (h : ∀ b c, Fresh S b → n ≤ c → C (.ms b sz 0 n c) (S.set (.r b) (.cells (zcs z c)))) : ZeroP sz n z S C := h
theorem grow_intro {k sz : Nat} {els : List (List PV)} {S : Store} {C : AV → Store → Prop} (h : ∀ loc, C (.ts k sz loc els) (S.set (.v k) (.tip sz els.length loc))) : GrowP k sz els S C := h
theorem fresh_set (S : Store) (b c : Nat) (x : Blk) : Fresh (S.set (.r c) x) b = ((¬ b = c ∧ ¬ c = b) ∧ Fresh S b) := by
  unfold Fresh Store.set
  by_cases h : b = c
  · subst h; simp
  · simp [h, Ne.symm h]
theorem fresh_setv (S : Store) (b k : Nat) (x : Blk) : Fresh (S.set (.v k) x) b = Fresh S b := by simp [Fresh, Store.set]
theorem freshv_set (S : Store) (b c : Nat) (x : Blk) : FreshV (S.set (.v c) x) b = ((¬ b = c ∧ ¬ c = b) ∧ FreshV S b) := by
  unfold FreshV Store.set
  by_cases h : b = c
  · subst h; simp
  · simp [h, Ne.symm h]
theorem freshv_setr (S : Store) (b k : Nat) (x : Blk) : FreshV (S.set (.r k) x) b = FreshV S b := by simp [FreshV, Store.set]
theorem Fresh.ne {S : Store} {b c : Nat} {x : Blk} (hc : Fresh S c) (hb : S (.r b) = some x) : ¬ b = c ∧ ¬ c = b := by
  constructor <;> rintro rfl <;> (rw [hc] at hb; cases hb)

/-! What goes on with a value once it is known. -/
def boolK (x : AV) (K : Bool → Prop) : Prop := match x with | .p (.bool t) => K t | _ => False
def tiK (x : Option (Bool × Nat × List AV × Nat)) (K : Bool → Nat → List AV → Nat → Prop) : Prop := match x with | some (a, b, c, d) => K a b c d | none => False
def fiK (x : Option (Nat × Nat × Bool)) (K : Nat → Nat → Bool → Prop) : Prop := match x with | some (a, b, c) => K a b c | none => False
def xiK (x : Option (Option Nat × Nat × TypeId)) (K : Nat → Prop) : Prop := match x with | some (none, b, _) => K b | _ => False
def xiK2 (x : Option (Option Nat × Nat × TypeId)) (K : Option Nat → Nat → Prop) : Prop := match x with | some (a, b, _) => K a b | none => False
def blkK (x : Option Blk) (K : List AV → Prop) : Prop := match x with | some (.cells cs) => K cs | _ => False
def optK {α : Type} (x : Option α) (K : α → Prop) : Prop := match x with | some v => K v | none => False
def gdK (x : AV) (F : Option Bool → Prop) : Prop := match x with | .p (.bool b) => F (some b) | .tuple [] => F none | _ => False
def dK (d : Option Nat) (n : Nat) (A : Prop) : Prop := (match d with | some t => t < n | none => True) ∧ A

theorem boolK_true (K : Bool → Prop) : boolK (.p (.bool true)) K = K true := (rfl)
theorem boolK_false (K : Bool → Prop) : boolK (.p (.bool false)) K = K false := (rfl)
/-- A test that is not decided: two ways. -/
theorem bool_split {t : Bool} {K : Bool → Prop} (h1 : t = true → boolK (.p (.bool true)) K) (h2 : t = false → boolK (.p (.bool false)) K) : boolK (.p (.bool t)) K := by
  cases t; exact h2 rfl; exact h1 rfl
theorem dec_split {p : Prop} {inst : Decidable p} {K : Bool → Prop} (h1 : p → boolK (.p (.bool true)) K) (h2 : ¬ p → boolK (.p (.bool false)) K) : boolK (.p (.bool (decide p))) K := by
  by_cases h : p
  · rw [decide_eq_true h]; exact h1 h
  · rw [decide_eq_false h]; exact h2 h
theorem tiK_some (a : Bool) (b : Nat) (c : List AV) (d : Nat) (K : Bool → Nat → List AV → Nat → Prop) : tiK (some (a, b, c, d)) K = K a b c d := (rfl)
theorem fiK_some (a b : Nat) (c : Bool) (K : Nat → Nat → Bool → Prop) : fiK (some (a, b, c)) K = K a b c := (rfl)
theorem xiK_some (b c : Nat) (K : Nat → Prop) : xiK (some (none, b, c)) K = K b := (rfl)
theorem xiK2_some (a : Option Nat) (b c : Nat) (K : Option Nat → Nat → Prop) : xiK2 (some (a, b, c)) K = K a b := (rfl)
theorem blkK_some (cs : List AV) (K : List AV → Prop) : blkK (some (.cells cs)) K = K cs := (rfl)
theorem optK_some {α : Type} (v : α) (K : α → Prop) : optK (some v) K = K v := (rfl)
theorem gdK_true (F : Option Bool → Prop) : gdK (.p (.bool true)) F = F (some true) := (rfl)
theorem gdK_false (F : Option Bool → Prop) : gdK (.p (.bool false)) F = F (some false) := (rfl)
theorem gd_split {t : Bool} {K : Option Bool → Prop} (h1 : t = true → gdK (.p (.bool true)) K) (h2 : t = false → gdK (.p (.bool false)) K) : gdK (.p (.bool t)) K := by
  cases t; exact h2 rfl; exact h1 rfl
theorem gdd_split {p : Prop} {inst : Decidable p} {K : Option Bool → Prop} (h1 : p → gdK (.p (.bool true)) K) (h2 : ¬ p → gdK (.p (.bool false)) K) : gdK (.p (.bool (decide p))) K := by
  by_cases h : p
  · rw [decide_eq_true h]; exact h1 h
  · rw [decide_eq_false h]; exact h2 h
theorem gdK_tuple (F : Option Bool → Prop) : gdK (.tuple []) F = F none := (rfl)
theorem dK_none (n : Nat) (A : Prop) : dK none n A = A := by simp [dK]
theorem dK_some (t n : Nat) (A : Prop) : dK (some t) n A = (t < n ∧ A) := (rfl)

@[congr] theorem boolK_congr {x x' : AV} {K : Bool → Prop} (h : x = x') : boolK x K = boolK x' K := by rw [h]
@[congr] theorem tiK_congr {x x' : Option (Bool × Nat × List AV × Nat)} {K : Bool → Nat → List AV → Nat → Prop} (h : x = x') : tiK x K = tiK x' K := by rw [h]
@[congr] theorem fiK_congr {x x' : Option (Nat × Nat × Bool)} {K : Nat → Nat → Bool → Prop} (h : x = x') : fiK x K = fiK x' K := by rw [h]
@[congr] theorem xiK_congr {x x' : Option (Option Nat × Nat × TypeId)} {K : Nat → Prop} (h : x = x') : xiK x K = xiK x' K := by rw [h]
@[congr] theorem xiK2_congr {x x' : Option (Option Nat × Nat × TypeId)} {K : Option Nat → Nat → Prop} (h : x = x') : xiK2 x K = xiK2 x' K := by rw [h]
@[congr] theorem blkK_congr {x x' : Option Blk} {K : List AV → Prop} (h : x = x') : blkK x K = blkK x' K := by rw [h]
@[congr] theorem optK_congr {α : Type} {x x' : Option α} {K : α → Prop} (h : x = x') : optK x K = optK x' K := by rw [h]
@[congr] theorem gdK_congr {x x' : AV} {F : Option Bool → Prop} (h : x = x') : gdK x F = gdK x' F := by rw [h]
@[congr] theorem dK_congr {d : Option Nat} {n : Nat} {A : Prop} : dK d n A = dK d n A := rfl

/-! Code. -/
def kCond (P : Program) (ro : Option Nat) (L : Nat → Bool) (x y : Code) (Q : Ex → St → Prop) (s : St) : Bool → Prop := fun t => if t = true then xc P ro L x Q s else xc P ro L y Q s
def kReg (Q : Ex → St → Prop) (L : Nat → Bool) : St → Prop := fun s' => Q .normal (s'.keep L)
theorem kCond_true (P : Program) (ro : Option Nat) (L : Nat → Bool) (x y : Code) (Q : Ex → St → Prop) (s : St) : kCond P ro L x y Q s true = xc P ro L x Q s := (rfl)
theorem kCond_false (P : Program) (ro : Option Nat) (L : Nat → Bool) (x y : Code) (Q : Ex → St → Prop) (s : St) : kCond P ro L x y Q s false = xc P ro L y Q s := (rfl)
theorem kReg_app (Q : Ex → St → Prop) (L : Nat → Bool) (s : St) : kReg Q L s = Q .normal (s.keep L) := (rfl)
section
variable {P : Program} {ro : Option Nat} {L : Nat → Bool} {Q : Ex → St → Prop} {K : St → Prop} {s : St}
theorem xc_skip : xc P ro L .skip Q s = Q .normal s := (rfl)
theorem xc_label (l : Nat) : xc P ro L (.label l) Q s = Q .normal s := (rfl)
theorem xc_exit (i : Nat) : xc P ro L (.exit i) Q s = Q (.exit i) s := (rfl)
theorem xc_ret : xc P ro L .ret Q s = Q .ret s := (rfl)
theorem xc_seq (x y : Code) : xc P ro L (.seq x y) Q s = xc P ro L x (thenQ (xc P ro L y Q) Q) s := (rfl)
theorem xc_cond (c : Operand) (x y : Code) : xc P ro L (.cond c x y) Q s = boolK (ev s c) (kCond P ro L x y Q s) := (rfl)
theorem xc_block (i : Nat) (c : Code) : xc P ro L (.block i c) Q s = xc P ro L c (blockQ i Q) s := (rfl)
theorem xc_region (i : Nat) (l : List Oper) : xc P ro L (.region i (List.toArray l) false) Q s = xops P (List.toArray l) (kReg Q L) l s := (rfl)
theorem xc_draw (i : Nat) (a : Array Oper) : xc P ro L (.region i a true) Q s = AWP P ro (.region i a true) Q s := (rfl)
theorem xc_loop (c : Code) : xc P ro L (.loop c) Q s = AWP P ro (.loop c) Q s := (rfl)
theorem xc_range (g : Operand) (ps : Array Tmp) (x y : Code) : xc P ro L (.rangeFunc g ps x y) Q s = AWP P ro (.rangeFunc g ps x y) Q s := (rfl)
theorem thenQ_normal : thenQ K Q .normal s = K s := (rfl)
theorem thenQ_exit (i : Nat) : thenQ K Q (.exit i) s = Q (.exit i) s := (rfl)
theorem thenQ_ret : thenQ K Q .ret s = Q .ret s := (rfl)
theorem blockQ_normal (i : Nat) : blockQ i Q .normal s = Q .normal s := (rfl)
theorem blockQ_same (i : Nat) : blockQ i Q (.exit i) s = Q .normal s := if_pos rfl
theorem blockQ_ne {i j : Nat} (h : ¬ j = i) : blockQ i Q (.exit j) s = Q (.exit j) s := if_neg h
theorem blockQ_ret (i : Nat) : blockQ i Q .ret s = Q .ret s := (rfl)

@[congr] theorem xc_congr {c : Code} {s' : St} (h : s = s') : xc P ro L c Q s = xc P ro L c Q s' := by rw [h]
@[congr] theorem xops_congr {ops : Array Oper} {l : List Oper} {s' : St} (h : s = s') : xops P ops K l s = xops P ops K l s' := by rw [h]
@[congr] theorem AWP_congr {c : Code} {s' : St} (h : s = s') : AWP P ro c Q s = AWP P ro c Q s' := by rw [h]
@[congr] theorem thenQ_congr {e : Ex} : thenQ K Q e s = thenQ K Q e s := rfl
@[congr] theorem blockQ_congr {i : Nat} {e : Ex} : blockQ i Q e s = blockQ i Q e s := rfl
end

/-! Operations. -/
def kCall (kd : Store → Prop) (C : AV → Store → Prop) : AV → Store → Prop := fun x S' => kd S' ∧ C x S'
def kS (C : AV → Store → Prop) (S : Store) : AV → Prop := fun y => C y S
def xO (P : Program) (op : Op) (e : Operand → AV) (S : Store) (kd : Store → Prop) (C : AV → Store → Prop) : Prop := xopG P { (default : Oper) with op := op } e S kd C
def xX (P : Program) (op : Op) (e : Operand → AV) (S : Store) (kd : Store → Prop) (C : AV → Store → Prop) : Prop := xopX P { (default : Oper) with op := op } e S kd C
def xE (P : Program) (op : Op) (s : St) (C : AV → Store → Prop) : Prop :=
  match op with
  | .binOp b t x (.const (.slice none 0 0)) _ => xisnil (P.underlying t) b (ev s x) (fun z => C z s.S)
  | op => xX P op (ev s) s.S (keepDf s) C
@[congr] theorem xO_congr {P : Program} {op : Op} {e : Operand → AV} {S : Store} {kd : Store → Prop} {C : AV → Store → Prop} : xO P op e S kd C = xO P op e S kd C := rfl
@[congr] theorem xE_congr {P : Program} {op : Op} {s : St} {C : AV → Store → Prop} : xE P op s C = xE P op s C := rfl

theorem xop_eq {P : Program} {o : Oper} {K : St → Prop} {s : St} : xop P o K s = dK o.dst s.n (xE P o.op s (fun x S' => K ((s.withS S').put o.dst x))) := by
  unfold xop dK xE dstOk
  congr 1
  split
  · rename_i b t x u h; simp only [h]; rfl
  · rename_i h
    split
    · rename_i b t x u h'; exact absurd h' (h b t x u)
    · rfl

section
variable {P : Program} {s : St} {C : AV → Store → Prop}
theorem xE_move {ρ : Env} {S : Store} {n : Nat} {df : List Nat} (x : Operand) : xE P (.move x) ⟨ρ.get, S, n, df⟩ C = xO P (.move x) (ev ⟨ρ.get, S, n, df⟩) S (keepDf ⟨ρ.get, S, n, df⟩) C := (rfl)
theorem xE_assign {ρ : Env} {S : Store} {n : Nat} {df : List Nat} (x : Operand) : xE P (.assign x) ⟨ρ.get, S, n, df⟩ C = xO P (.assign x) (ev ⟨ρ.get, S, n, df⟩) S (keepDf ⟨ρ.get, S, n, df⟩) C := (rfl)
theorem xE_pick {ρ : Env} {S : Store} {n : Nat} {df : List Nat} (c x y : Operand) : xE P (.pick c x y) ⟨ρ.get, S, n, df⟩ C = xO P (.pick c x y) (ev ⟨ρ.get, S, n, df⟩) S (keepDf ⟨ρ.get, S, n, df⟩) C := (rfl)
theorem xE_alloc {ρ : Env} {S : Store} {n : Nat} {df : List Nat} (t : TypeId) : xE P (.alloc t) ⟨ρ.get, S, n, df⟩ C = xO P (.alloc t) (ev ⟨ρ.get, S, n, df⟩) S (keepDf ⟨ρ.get, S, n, df⟩) C := (rfl)
theorem xE_box {ρ : Env} {S : Store} {n : Nat} {df : List Nat} (t : TypeId) (x : Operand) : xE P (.box t x) ⟨ρ.get, S, n, df⟩ C = xO P (.box t x) (ev ⟨ρ.get, S, n, df⟩) S (keepDf ⟨ρ.get, S, n, df⟩) C := (rfl)
theorem xE_build {ρ : Env} {S : Store} {n : Nat} {df : List Nat} (t : TypeId) (ps : Array (Nat × Operand)) : xE P (.build t ps) ⟨ρ.get, S, n, df⟩ C = xO P (.build t ps) (ev ⟨ρ.get, S, n, df⟩) S (keepDf ⟨ρ.get, S, n, df⟩) C := (rfl)
theorem xE_buildSlice {ρ : Env} {S : Store} {n : Nat} {df : List Nat} (t : TypeId) (m : Nat) (ps : Array (Nat × Operand)) : xE P (.buildSlice t m ps) ⟨ρ.get, S, n, df⟩ C = xO P (.buildSlice t m ps) (ev ⟨ρ.get, S, n, df⟩) S (keepDf ⟨ρ.get, S, n, df⟩) C := (rfl)
theorem xE_load {ρ : Env} {S : Store} {n : Nat} {df : List Nat} (t : TypeId) (x : Operand) : xE P (.load t x) ⟨ρ.get, S, n, df⟩ C = xO P (.load t x) (ev ⟨ρ.get, S, n, df⟩) S (keepDf ⟨ρ.get, S, n, df⟩) C := (rfl)
theorem xE_store {ρ : Env} {S : Store} {n : Nat} {df : List Nat} (t : TypeId) (x y : Operand) : xE P (.store t x y) ⟨ρ.get, S, n, df⟩ C = xO P (.store t x y) (ev ⟨ρ.get, S, n, df⟩) S (keepDf ⟨ρ.get, S, n, df⟩) C := (rfl)
theorem xE_nilCheck {ρ : Env} {S : Store} {n : Nat} {df : List Nat} (x : Operand) : xE P (.nilCheck x) ⟨ρ.get, S, n, df⟩ C = xO P (.nilCheck x) (ev ⟨ρ.get, S, n, df⟩) S (keepDf ⟨ρ.get, S, n, df⟩) C := (rfl)
theorem xE_unOp {ρ : Env} {S : Store} {n : Nat} {df : List Nat} (op : UnOp) (t : TypeId) (x : Operand) : xE P (.unOp op t x) ⟨ρ.get, S, n, df⟩ C = xO P (.unOp op t x) (ev ⟨ρ.get, S, n, df⟩) S (keepDf ⟨ρ.get, S, n, df⟩) C := (rfl)
theorem xE_convert {ρ : Env} {S : Store} {n : Nat} {df : List Nat} (t u : TypeId) (x : Operand) : xE P (.convert t u x) ⟨ρ.get, S, n, df⟩ C = xO P (.convert t u x) (ev ⟨ρ.get, S, n, df⟩) S (keepDf ⟨ρ.get, S, n, df⟩) C := (rfl)
theorem xE_makeFunc {ρ : Env} {S : Store} {n : Nat} {df : List Nat} (f : Fn) (a b : Array Operand) : xE P (.makeFunc f a b) ⟨ρ.get, S, n, df⟩ C = xO P (.makeFunc f a b) (ev ⟨ρ.get, S, n, df⟩) S (keepDf ⟨ρ.get, S, n, df⟩) C := (rfl)
theorem xE_slice {ρ : Env} {S : Store} {n : Nat} {df : List Nat} (t : TypeId) (x : Operand) (lo hi mx : Option Operand) : xE P (.slice t x lo hi mx) ⟨ρ.get, S, n, df⟩ C = xO P (.slice t x lo hi mx) (ev ⟨ρ.get, S, n, df⟩) S (keepDf ⟨ρ.get, S, n, df⟩) C := (rfl)
theorem xE_fieldAddr {ρ : Env} {S : Store} {n : Nat} {df : List Nat} (t : TypeId) (x : Operand) (f : Nat) : xE P (.fieldAddr t x f) ⟨ρ.get, S, n, df⟩ C = xO P (.fieldAddr t x f) (ev ⟨ρ.get, S, n, df⟩) S (keepDf ⟨ρ.get, S, n, df⟩) C := (rfl)
theorem xE_indexAddr {ρ : Env} {S : Store} {n : Nat} {df : List Nat} (t : TypeId) (x i : Operand) : xE P (.indexAddr t x i) ⟨ρ.get, S, n, df⟩ C = xO P (.indexAddr t x i) (ev ⟨ρ.get, S, n, df⟩) S (keepDf ⟨ρ.get, S, n, df⟩) C := (rfl)
theorem xE_index {ρ : Env} {S : Store} {n : Nat} {df : List Nat} (t : TypeId) (x i : Operand) : xE P (.index t x i) ⟨ρ.get, S, n, df⟩ C = xO P (.index t x i) (ev ⟨ρ.get, S, n, df⟩) S (keepDf ⟨ρ.get, S, n, df⟩) C := (rfl)
theorem xE_extract {ρ : Env} {S : Store} {n : Nat} {df : List Nat} (x : Operand) (i : Nat) : xE P (.extract x i) ⟨ρ.get, S, n, df⟩ C = xO P (.extract x i) (ev ⟨ρ.get, S, n, df⟩) S (keepDf ⟨ρ.get, S, n, df⟩) C := (rfl)
theorem xE_value {ρ : Env} {S : Store} {n : Nat} {df : List Nat} (f : Operand) (l : List Operand) (a : Array TypeId) : xE P (.call ⟨.value f, List.toArray l, a⟩) ⟨ρ.get, S, n, df⟩ C = FunA P (ev ⟨ρ.get, S, n, df⟩ f) (l.map (ev ⟨ρ.get, S, n, df⟩)) S (kCall (keepDf ⟨ρ.get, S, n, df⟩) C) := (rfl)
theorem xE_len {ρ : Env} {S : Store} {n : Nat} {df : List Nat} (x : Operand) (t : TypeId) : xE P (.call ⟨.builtin .len, #[x], #[t]⟩) ⟨ρ.get, S, n, df⟩ C = xlen (P.underlying t) (ev ⟨ρ.get, S, n, df⟩ x) (kS C S) := (rfl)
theorem xE_cap {ρ : Env} {S : Store} {n : Nat} {df : List Nat} (x : Operand) (t : TypeId) : xE P (.call ⟨.builtin .cap, #[x], #[t]⟩) ⟨ρ.get, S, n, df⟩ C = xcap (P.underlying t) (ev ⟨ρ.get, S, n, df⟩ x) (kS C S) := (rfl)
theorem xE_append {ρ : Env} {S : Store} {n : Nat} {df : List Nat} (x y : Operand) (t u : TypeId) : xE P (.call ⟨.builtin .append, #[x, y], #[t, u]⟩) ⟨ρ.get, S, n, df⟩ C = xappX P t u S (ev ⟨ρ.get, S, n, df⟩ x) (ev ⟨ρ.get, S, n, df⟩ y) C := (rfl)
theorem xE_max {ρ : Env} {S : Store} {n : Nat} {df : List Nat} (x y : Operand) (a : Array TypeId) : xE P (.call ⟨.builtin .max, #[x, y], a⟩) ⟨ρ.get, S, n, df⟩ C = xminmax true (ev ⟨ρ.get, S, n, df⟩ x) (ev ⟨ρ.get, S, n, df⟩ y) (kS C S) := (rfl)
end
section
variable {P : Program} {s : St} {C : AV → Store → Prop} {b : BinOp} {t u : TypeId} {x : Operand}
theorem xE_tmp {ρ : Env} {S : Store} {n : Nat} {df : List Nat} {k : Nat} : xE P (.binOp b t x (.tmp k) u) ⟨ρ.get, S, n, df⟩ C = xO P (.binOp b t x (.tmp k) u) (ev ⟨ρ.get, S, n, df⟩) S (keepDf ⟨ρ.get, S, n, df⟩) C := (rfl)
theorem xE_int {ρ : Env} {S : Store} {n : Nat} {df : List Nat} {k : IntKind} {i : Int} : xE P (.binOp b t x (.const (.int k i)) u) ⟨ρ.get, S, n, df⟩ C = xO P (.binOp b t x (.const (.int k i)) u) (ev ⟨ρ.get, S, n, df⟩) S (keepDf ⟨ρ.get, S, n, df⟩) C := (rfl)
theorem xE_nil {ρ : Env} {S : Store} {n : Nat} {df : List Nat} : xE P (.binOp b t x (.const (.slice none 0 0)) u) ⟨ρ.get, S, n, df⟩ C = xisnil (P.underlying t) b (ev ⟨ρ.get, S, n, df⟩ x) (fun z => C z S) := (rfl)
end

def kOp (P : Program) (ops : Array Oper) (K : St → Prop) (r : List Oper) (s : St) (d : Option Tmp) : AV → Store → Prop := fun x S' => xops P ops K r ((s.withS S').put d x)
def kGd (P : Program) (ops : Array Oper) (K : St → Prop) (r : List Oper) (s : St) (d : Option Tmp) (op : Op) (g : Nat) (w : Bool) : Option Bool → Prop
  | some b => if b = w then dK d s.n (xE P op (s.putS g (.p (.bool w))) (kOp P ops K r (s.putS g (.p (.bool w))) d)) else dK d s.n (xops P ops K r ((s.putS g (.p (.bool (!w)))).put d (.tuple [])))
  | none => dK d s.n (xops P ops K r (s.put d (.tuple [])))
def kGs (P : Program) (ops : Array Oper) (K : St → Prop) (r : List Oper) (s : St) (d : Option Tmp) (op : Op) (w : Bool) : Nat → Prop := fun g => g < s.n ∧ gdK (s.ρ g) (kGd P ops K r s d op g w)
/-- An operation whose guard is known to hold, in a state in which it is known. -/
def xGo (P : Program) (ops : Array Oper) (K : St → Prop) (r : List Oper) (d : Option Tmp) (op : Op) (s : St) : Prop := dK d s.n (xE P op s (kOp P ops K r s d))
theorem xGo_app (P : Program) (ops : Array Oper) (K : St → Prop) (r : List Oper) (d : Option Tmp) (op : Op) (ρ : Env) (S : Store) (n : Nat) (df : List Nat) : xGo P ops K r d op ⟨ρ.get, S, n, df⟩ = dK d n (xE P op ⟨ρ.get, S, n, df⟩ (kOp P ops K r ⟨ρ.get, S, n, df⟩ d)) := (rfl)
@[congr] theorem xGo_congr {P : Program} {ops : Array Oper} {K : St → Prop} {r : List Oper} {d : Option Tmp} {op : Op} {s s' : St} (h : s = s') : xGo P ops K r d op s = xGo P ops K r d op s' := by rw [h]
theorem kGd_tt (P : Program) (ops : Array Oper) (K : St → Prop) (r : List Oper) (s : St) (d : Option Tmp) (op : Op) (g : Nat) : kGd P ops K r s d op g true (some true) = xGo P ops K r d op (s.putS g (.p (.bool true))) := (rfl)
theorem kGd_ff (P : Program) (ops : Array Oper) (K : St → Prop) (r : List Oper) (s : St) (d : Option Tmp) (op : Op) (g : Nat) : kGd P ops K r s d op g false (some false) = xGo P ops K r d op (s.putS g (.p (.bool false))) := (rfl)
theorem kGd_tf (P : Program) (ops : Array Oper) (K : St → Prop) (r : List Oper) (s : St) (d : Option Tmp) (op : Op) (g : Nat) : kGd P ops K r s d op g true (some false) = dK d s.n (xops P ops K r ((s.putS g (.p (.bool false))).put d (.tuple []))) := (rfl)
theorem kGd_ft (P : Program) (ops : Array Oper) (K : St → Prop) (r : List Oper) (s : St) (d : Option Tmp) (op : Op) (g : Nat) : kGd P ops K r s d op g false (some true) = dK d s.n (xops P ops K r ((s.putS g (.p (.bool true))).put d (.tuple []))) := (rfl)
theorem kGd_none (P : Program) (ops : Array Oper) (K : St → Prop) (r : List Oper) (s : St) (d : Option Tmp) (op : Op) (g : Nat) (w : Bool) : kGd P ops K r s d op g w none = dK d s.n (xops P ops K r (s.put d (.tuple []))) := (rfl)
section
variable {P : Program} {K : St → Prop} {s : St} {ops : Array Oper} {d : Option Tmp} {op : Op} {ty : TypeId} {pos : String} {af : Array Edge} {r : List Oper}
section
variable {P : Program} {K : St → Prop} {Q : Ex → St → Prop} {L : Nat → Bool} {ops : Array Oper} {op : Op} {r : List Oper} {ρ : Env} {S S' : Store} {n g t : Nat} {df : List Nat} {x : AV} {d : Option Tmp} {w : Bool}
theorem kOp_some : kOp P ops K r ⟨ρ.get, S, n, df⟩ (some t) x S' = xops P ops K r ⟨(ρ.put t x).get, S', n, df⟩ := by
  show xops P ops K r ⟨upd ρ.get t x, S', n, df⟩ = _; rw [upd_get]
theorem kOp_none : kOp P ops K r ⟨ρ.get, S, n, df⟩ none x S' = xops P ops K r ⟨ρ.get, S', n, df⟩ := (rfl)
theorem kGs_mk : kGs P ops K r ⟨ρ.get, S, n, df⟩ d op w g = (g < n ∧ gdK (ρ.get g) (kGd P ops K r ⟨ρ.get, S, n, df⟩ d op g w)) := (rfl)
theorem kGd_ttm : kGd P ops K r ⟨ρ.get, S, n, df⟩ d op g true (some true) = xGo P ops K r d op ⟨(ρ.put g (.p (.bool true))).get, S, n, df⟩ := by
  rw [kGd_tt]; show xGo P ops K r d op ⟨upd ρ.get g _, S, n, df⟩ = _; rw [upd_get]
theorem kGd_ffm : kGd P ops K r ⟨ρ.get, S, n, df⟩ d op g false (some false) = xGo P ops K r d op ⟨(ρ.put g (.p (.bool false))).get, S, n, df⟩ := by
  rw [kGd_ff]; show xGo P ops K r d op ⟨upd ρ.get g _, S, n, df⟩ = _; rw [upd_get]
theorem kGd_tfs : kGd P ops K r ⟨ρ.get, S, n, df⟩ (some t) op g true (some false) = (t < n ∧ xops P ops K r ⟨((ρ.put g (.p (.bool false))).put t (.tuple [])).get, S, n, df⟩) := by
  rw [kGd_tf, dK_some]; show (t < n ∧ xops P ops K r ⟨upd (upd ρ.get g _) t _, S, n, df⟩) = _; rw [upd_get, upd_get]
theorem kGd_fts : kGd P ops K r ⟨ρ.get, S, n, df⟩ (some t) op g false (some true) = (t < n ∧ xops P ops K r ⟨((ρ.put g (.p (.bool true))).put t (.tuple [])).get, S, n, df⟩) := by
  rw [kGd_ft, dK_some]; show (t < n ∧ xops P ops K r ⟨upd (upd ρ.get g _) t _, S, n, df⟩) = _; rw [upd_get, upd_get]
theorem kGd_nos : kGd P ops K r ⟨ρ.get, S, n, df⟩ (some t) op g w none = (t < n ∧ xops P ops K r ⟨(ρ.put t (.tuple [])).get, S, n, df⟩) := by
  rw [kGd_none, dK_some]; show (t < n ∧ xops P ops K r ⟨upd ρ.get t _, S, n, df⟩) = _; rw [upd_get]
end
theorem xops_nil : xops P ops K [] s = K s := (rfl)
theorem xops_plain {ρ : Env} {S : Store} {n : Nat} {df : List Nat} : xops P ops K (⟨d, op, ty, pos, af, none⟩ :: r) ⟨ρ.get, S, n, df⟩ = dK d n (xE P op ⟨ρ.get, S, n, df⟩ (kOp P ops K r ⟨ρ.get, S, n, df⟩ d)) := by
  simp only [xops]; exact xop_eq
theorem xops_guard {j : Nat} {w : Bool} {ρ : Env} {S : Store} {n : Nat} {df : List Nat} : xops P ops K (⟨d, op, ty, pos, af, some (j, w)⟩ :: r) ⟨ρ.get, S, n, df⟩ =
    optK ((ops[j]?).bind (·.dst)) (kGs P ops K r ⟨ρ.get, S, n, df⟩ d op w) := by
  simp only [xops, optK, gdK]
  cases h1 : (ops[j]?).bind (·.dst) with
  | none => rfl
  | some g =>
    simp only [xop_eq, kGs, gdK]
    rfl
end

theorem ev_const (s : St) (v : Value) : ev s (.const v) = ofV v := (rfl)
theorem ev_func (s : St) (f : Nat) : ev s (.func f) = .fn (.func f) [] [] := (rfl)

def kStore (C : AV → Store → Prop) : Store → Prop := fun S' => C .top S'
def kPick (x y : AV) (C : AV → Store → Prop) (S : Store) : Bool → Prop := fun t => C (if t = true then x else y) S
def kAlloc (C : AV → Store → Prop) (S : Store) : Bool → Nat → List AV → Nat → Prop := fun _ _ z _ => AllocP (.cells z) S C
def kLoad (S : Store) (x : AV) (C : AV → Store → Prop) : Bool → Nat → List AV → Nat → Prop := fun ag sz _ _ => xload S ag sz x (kS C S)
def kSto (S : Store) (x y : AV) (C : AV → Store → Prop) : Bool → Nat → List AV → Nat → Prop := fun _ sz _ _ => xstore S sz x y (kStore C)
def kSli (d : Option TypeDesc) (x : AV) (lo hi mx : Option AV) (C : AV → Store → Prop) (S : Store) : Nat → Prop := fun sz => xslice d sz x lo hi mx (kS C S)
def kFA (x : AV) (C : AV → Store → Prop) (S : Store) : Nat → Nat → Bool → Prop := fun off sz _ => xfaddr off sz x (kS C S)
def kFi (x : AV) (C : AV → Store → Prop) (S : Store) : Nat → Nat → Bool → Prop := fun off sz g => xfield off sz g x (kS C S)
def kIx (x ix : AV) (C : AV → Store → Prop) (S : Store) : Option Nat → Nat → Prop := fun arr sz => xindex arr sz x ix (kS C S)
section
variable {C : AV → Store → Prop} {S : Store}
theorem kS_app (y : AV) : kS C S y = C y S := (rfl)
theorem kStore_app (S' : Store) : kStore C S' = C .top S' := (rfl)
theorem kPick_true (x y : AV) : kPick x y C S true = C x S := (rfl)
theorem kPick_false (x y : AV) : kPick x y C S false = C y S := (rfl)
theorem kAlloc_app (a : Bool) (b : Nat) (z : List AV) (c : Nat) : kAlloc C S a b z c = AllocP (.cells z) S C := (rfl)
theorem kLoad_app (x : AV) (ag : Bool) (sz : Nat) (z : List AV) (c : Nat) : kLoad S x C ag sz z c = xload S ag sz x (kS C S) := (rfl)
theorem kSto_app (x y : AV) (ag : Bool) (sz : Nat) (z : List AV) (c : Nat) : kSto S x y C ag sz z c = xstore S sz x y (kStore C) := (rfl)
theorem kSli_app (d : Option TypeDesc) (x : AV) (lo hi mx : Option AV) (sz : Nat) : kSli d x lo hi mx C S sz = xslice d sz x lo hi mx (kS C S) := (rfl)
theorem kFA_app (x : AV) (off sz : Nat) (g : Bool) : kFA x C S off sz g = xfaddr off sz x (kS C S) := (rfl)
theorem kIx_app (x ix : AV) (arr : Option Nat) (sz : Nat) : kIx x ix C S arr sz = xindex arr sz x ix (kS C S) := (rfl)
theorem kCall_app (kd : Store → Prop) (x : AV) (S' : Store) : kCall kd C x S' = (kd S' ∧ C x S') := (rfl)
end
section
variable {P : Program} {e : Operand → AV} {S : Store} {kd : Store → Prop} {C : AV → Store → Prop}
theorem xO_move (x : Operand) : xO P (.move x) e S kd C = C (e x) S := (rfl)
theorem xO_assign (x : Operand) : xO P (.assign x) e S kd C = C (e x) S := (rfl)
theorem xO_pick (c x y : Operand) : xO P (.pick c x y) e S kd C = boolK (e c) (kPick (e x) (e y) C S) := (rfl)
theorem xO_alloc (t : TypeId) : xO P (.alloc t) e S kd C = tiK (TI P t) (kAlloc C S) := (rfl)
theorem xO_box (t : TypeId) (x : Operand) : xO P (.box t x) e S kd C = ((cellsOf (e x)).all scalar = true ∧ AllocP (.cells (cellsOf (e x))) S C) := (rfl)
theorem xO_build (t : TypeId) (ps : Array (Nat × Operand)) : xO P (.build t ps) e S kd C = xbuild P t e ps (kS C S) := (rfl)
theorem xO_buildSlice (t : TypeId) (n : Nat) (ps : Array (Nat × Operand)) : xO P (.buildSlice t n ps) e S kd C = xbuildSlice P t n e ps (kS C S) := (rfl)
theorem xO_load (t : TypeId) (x : Operand) : xO P (.load t x) e S kd C = tiK (TI P t) (kLoad S (e x) C) := (rfl)
theorem xO_store (t : TypeId) (x y : Operand) : xO P (.store t x y) e S kd C = tiK (TI P t) (kSto S (e x) (e y) C) := (rfl)
theorem xO_nilCheck (x : Operand) : xO P (.nilCheck x) e S kd C = (notNil (e x) = true ∧ C (e x) S) := (rfl)
theorem xO_binOp (op : BinOp) (t : TypeId) (x y : Operand) (u : TypeId) : xO P (.binOp op t x y u) e S kd C = xbin2 P t op (e x) (e y) (kS C S) := (rfl)
theorem xO_unOp (op : UnOp) (t : TypeId) (x : Operand) : xO P (.unOp op t x) e S kd C = xunop op (e x) (kS C S) := (rfl)
theorem xO_convert (t u : TypeId) (x : Operand) : xO P (.convert t u x) e S kd C = xconv (P.underlying t) (P.underlying u) (e x) (kS C S) := (rfl)
theorem xO_makeFunc (f : Fn) (first caps : List Operand) : xO P (.makeFunc f (List.toArray first) (List.toArray caps)) e S kd C = C (.fn f (first.map e) (caps.map e)) S := (rfl)
theorem xO_slice (t : TypeId) (x : Operand) (lo hi mx : Option Operand) : xO P (.slice t x lo hi mx) e S kd C = xiK (XI P t) (kSli (P.underlying t) (e x) (lo.map e) (hi.map e) (mx.map e) C S) := by
  unfold xO xopG xiK
  dsimp only
  cases XI P t with
  | none => rfl
  | some v => obtain ⟨a, b, c⟩ := v; cases a <;> rfl
theorem xO_fieldAddr (t : TypeId) (x : Operand) (f : Nat) : xO P (.fieldAddr t x f) e S kd C = fiK (FI P t f) (kFA (e x) C S) := (rfl)
theorem xO_indexAddr (t : TypeId) (x ix : Operand) : xO P (.indexAddr t x ix) e S kd C = xiK2 (XI P t) (kIx (e x) (e ix) C S) := (rfl)
theorem xO_index (t : TypeId) (x ix : Operand) : xO P (.index t x ix) e S kd C = xindexV P t (e x) (e ix) (kS C S) := (rfl)
theorem xO_extract (x : Operand) (i : Nat) : xO P (.extract x i) e S kd C = xextract (e x) i (kS C S) := (rfl)
theorem xO_len (x : Operand) (t : TypeId) : xO P (.call ⟨.builtin .len, #[x], #[t]⟩) e S kd C = xlen (P.underlying t) (e x) (kS C S) := (rfl)
theorem xO_append (x y : Operand) (t u : TypeId) : xO P (.call ⟨.builtin .append, #[x, y], #[t, u]⟩) e S kd C = (intOnly (P.underlying u) = false ∧ xappend P t S (e x) (e y) C) := (rfl)
theorem xO_min (x y : Operand) (a : Array TypeId) : xO P (.call ⟨.builtin .min, #[x, y], a⟩) e S kd C = xminmax false (e x) (e y) (kS C S) := (rfl)
end

/-! Values. -/
def kLd (ag : Bool) (sz o : Nat) (K : AV → Prop) : List AV → Prop := fun cs => o + sz ≤ cs.length ∧ (ag = false → sz = 1) ∧ K (if ag = true then .agg ((cs.drop o).take sz) else cs.getD o .top)
theorem kLd_app (ag : Bool) (sz o : Nat) (K : AV → Prop) (cs : List AV) : kLd ag sz o K cs = (o + sz ≤ cs.length ∧ (ag = false → sz = 1) ∧ K (if ag = true then .agg ((cs.drop o).take sz) else cs.getD o .top)) := (rfl)
theorem xload_sp (S : Store) (ag : Bool) (sz b o : Nat) (K : AV → Prop) : xload S ag sz (.sp b o) K = blkK (S (.r b)) (kLd ag sz o K) := by
  unfold xload blkK kLd
  dsimp only
  cases S (.r b) with
  | none => rfl
  | some x => cases x <;> rfl
theorem xload_dp (S : Store) (ag : Bool) (sz : Nat) (cs : List PV) (K : AV → Prop) : xload S ag sz (.dp cs) K = (sz ≤ cs.length ∧ (ag = false → sz = 1) ∧ K (if ag = true then .agg ((cs.take sz).map .p) else .p (cs.getD 0 default))) := (rfl)
def kSt (S : Store) (sz b o : Nat) (y : List AV) (K : Store → Prop) : List AV → Prop := fun cs => y.length = sz ∧ o + sz ≤ cs.length ∧ y.all scalar = true ∧ K (S.set (.r b) (.cells (splice cs o y)))
theorem kSt_app (S : Store) (sz b o : Nat) (y : List AV) (K : Store → Prop) (cs : List AV) : kSt S sz b o y K cs = (y.length = sz ∧ o + sz ≤ cs.length ∧ y.all scalar = true ∧ K (S.set (.r b) (.cells (splice cs o y)))) := (rfl)
theorem xstore_sp (S : Store) (sz b o : Nat) (y : AV) (K : Store → Prop) : xstore S sz (.sp b o) y K = blkK (S (.r b)) (kSt S sz b o (cellsOf y) K) := by
  unfold xstore blkK kSt
  dsimp only
  cases S (.r b) with
  | none => rfl
  | some x => cases x <;> rfl
theorem xfaddr_sp (off sz b o : Nat) (K : AV → Prop) : xfaddr off sz (.sp b o) K = (sz ≠ 0 ∧ K (.sp b (o + off))) := (rfl)
theorem xfaddr_dp (off sz : Nat) (cs : List PV) (K : AV → Prop) : xfaddr off sz (.dp cs) K = (sz ≠ 0 ∧ K (.dp (cs.drop off))) := (rfl)
theorem xextract_tuple (vs : List AV) (i : Nat) (K : AV → Prop) : xextract (.tuple vs) i K = (i < vs.length ∧ K (vs.getD i .top)) := (rfl)
theorem xunop_not (b : Bool) (K : AV → Prop) : xunop .not (.p (.bool b)) K = K (.p (.bool (!b))) := (rfl)
theorem xconv_int (k0 k k1 : IntKind) (n : Int) (K : AV → Prop) : xconv (some (.int k0)) (some (.int k)) (.p (.int k1 n)) K = K (.p (.int k (k.wrap n))) := (rfl)
theorem xbin2_agg (P : Program) (t : TypeId) (op : BinOp) (x y : List AV) (K : AV → Prop) : xbin2 P t op (.agg x) (.agg y) K = xeqA P t op x y K := (rfl)
theorem xbin2_p (P : Program) (t : TypeId) (op : BinOp) (x y : PV) (K : AV → Prop) : xbin2 P t op (.p x) (.p y) K = xbin (P.underlying t) op (.p x) (.p y) K := (rfl)
def kP (K : AV → Prop) : PV → Prop := fun v => K (.p v)
theorem kP_app (K : AV → Prop) (v : PV) : kP K v = K (.p v) := (rfl)
theorem xbin_int (d : Option TypeDesc) (op : BinOp) (k k' : IntKind) (a b : Int) (K : AV → Prop) : xbin d op (.p (.int k a)) (.p (.int k' b)) K = if op = .shl ∨ op = .shr then intShift op k a b (kP K) else k = k' ∧ intBin op k a b (kP K) := (rfl)
def kEq2 (op : BinOp) (n : Nat) (x : List AV) (K : AV → Prop) : Bool → Prop := fun r => n = x.length ∧ nilK op K r
def kEq1 (op : BinOp) (x y : List AV) (K : AV → Prop) : Nat → Prop := fun n => optK (eqNums x y) (kEq2 op n x K)
theorem kEq2_app (op : BinOp) (n : Nat) (x : List AV) (K : AV → Prop) (r : Bool) : kEq2 op n x K r = (n = x.length ∧ nilK op K r) := (rfl)
theorem kEq1_app (op : BinOp) (x y : List AV) (K : AV → Prop) (n : Nat) : kEq1 op x y K n = optK (eqNums x y) (kEq2 op n x K) := (rfl)
theorem xeqA_eql (P : Program) (t : TypeId) (op : BinOp) (x y : List AV) (K : AV → Prop) : xeqA P t op x y K = optK (EQ P t) (kEq1 op x y K) := by
  unfold xeqA optK kEq1 optK kEq2 nilK
  cases EQ P t <;> cases eqNums x y <;> rfl
theorem eqNums_nil : eqNums [] [] = some true := (rfl)
theorem eqNums_cons (k k' : IntKind) (a b : Int) (x y : List AV) : eqNums (.p (.int k a) :: x) (.p (.int k' b) :: y) = if k = k' then (eqNums x y).map (fun r => (a == b) && r) else none := by
  rw [eqNums]; split
  · cases eqNums x y <;> rfl
  · rfl
theorem nilK_eql (K : AV → Prop) (b : Bool) : nilK .eql K b = K (.p (.bool b)) := (rfl)
theorem nilK_neq (K : AV → Prop) (b : Bool) : nilK .neq K b = K (.p (.bool (!b))) := (rfl)
theorem intBin_add (k : IntKind) (a b : Int) (K : PV → Prop) : intBin .add k a b K = K (.int k (k.wrap (a + b))) := (rfl)
theorem intBin_sub (k : IntKind) (a b : Int) (K : PV → Prop) : intBin .sub k a b K = K (.int k (k.wrap (a - b))) := (rfl)
theorem intBin_mul (k : IntKind) (a b : Int) (K : PV → Prop) : intBin .mul k a b K = K (.int k (k.wrap (a * b))) := (rfl)
theorem intBin_quo (k : IntKind) (a b : Int) (K : PV → Prop) : intBin .quo k a b K = (¬ b = 0 ∧ K (.int k (k.wrap (a.tdiv b)))) := (rfl)
theorem intBin_rem (k : IntKind) (a b : Int) (K : PV → Prop) : intBin .rem k a b K = (¬ b = 0 ∧ K (.int k (a.tmod b))) := (rfl)
theorem intBin_eql (k : IntKind) (a b : Int) (K : PV → Prop) : intBin .eql k a b K = K (.bool (a == b)) := (rfl)
theorem intBin_neq (k : IntKind) (a b : Int) (K : PV → Prop) : intBin .neq k a b K = K (.bool (a != b)) := (rfl)
theorem intBin_lss (k : IntKind) (a b : Int) (K : PV → Prop) : intBin .lss k a b K = K (.bool (decide (a < b))) := (rfl)
theorem intBin_leq (k : IntKind) (a b : Int) (K : PV → Prop) : intBin .leq k a b K = K (.bool (decide (a ≤ b))) := (rfl)
theorem intBin_gtr (k : IntKind) (a b : Int) (K : PV → Prop) : intBin .gtr k a b K = K (.bool (decide (a > b))) := (rfl)
theorem intBin_geq (k : IntKind) (a b : Int) (K : PV → Prop) : intBin .geq k a b K = K (.bool (decide (a ≥ b))) := (rfl)
theorem intShift_shl (k : IntKind) (a b : Int) (K : PV → Prop) : intShift .shl k a b K = (0 ≤ b ∧ K (.int k (k.wrap (a * 2 ^ (min b.toNat k.bits))))) := (rfl)
theorem intShift_shr (k : IntKind) (a b : Int) (K : PV → Prop) : intShift .shr k a b K = (0 ≤ b ∧ K (.int k (a.fdiv (2 ^ (min b.toNat k.bits))))) := (rfl)

theorem slsK1 (els : List (List PV)) : pureS (.p (.sl els)) = some els := (rfl)
theorem slsK2 (els : List (List PV)) : pureS (.cs els) = some els := (rfl)
theorem slsK3 (k z : Nat) (loc : Option Nat) (els : List (List PV)) : pureS (.ts k z loc els) = some els := (rfl)
theorem xlen_p (e : TypeId) (els : List (List PV)) (K : AV → Prop) : xlen (some (.slice e)) (.p (.sl els)) K = K (.p (.int .i64 els.length)) := (rfl)
theorem xlen_ts (e : TypeId) (k z : Nat) (loc : Option Nat) (els : List (List PV)) (K : AV → Prop) : xlen (some (.slice e)) (.ts k z loc els) K = K (.p (.int .i64 els.length)) := (rfl)
theorem xlen_nils (e : TypeId) (K : AV → Prop) : xlen (some (.slice e)) .nils K = K (.p (.int .i64 0)) := (rfl)
theorem xlen_ms (e : TypeId) (b z o n c : Nat) (K : AV → Prop) : xlen (some (.slice e)) (.ms b z o n c) K = K (.p (.int .i64 n)) := (rfl)
theorem xminmax_int (mx : Bool) (k k' : IntKind) (a b : Int) (K : AV → Prop) : xminmax mx (.p (.int k a)) (.p (.int k' b)) K = K (.p (.int k (if mx = true then (if b > a then b else a) else (if b < a then b else a)))) := (rfl)
section
variable {sz : Nat} {k : IntKind} {i : Int} {K : AV → Prop} {els : List (List PV)}
theorem xindex_p : xindex none sz (.p (.sl els)) (.p (.int k i)) K = (0 ≤ i ∧ i < els.length ∧ (els.getD i.toNat []).length = sz ∧ K (.dp (els.getD i.toNat []))) := by simp [xindex, pureS]
theorem xindex_ts {q z : Nat} {loc : Option Nat} : xindex none sz (.ts q z loc els) (.p (.int k i)) K = (0 ≤ i ∧ i < els.length ∧ (els.getD i.toNat []).length = sz ∧ K (.dp (els.getD i.toNat []))) := by simp [xindex, pureS]
theorem xindex_sp {b o n : Nat} : xindex (some n) sz (.sp b o) (.p (.int k i)) K = (0 ≤ i ∧ i < n ∧ K (.sp b (o + i.toNat * sz))) := (rfl)
theorem xindex_ms {b z o n c : Nat} : xindex none sz (.ms b z o n c) (.p (.int k i)) K = (z = sz ∧ 0 ≤ i ∧ i < n ∧ K (.sp b (o + i.toNat * sz))) := (rfl)
end
def xiK3 (x : Option (Option Nat × Nat × TypeId)) (K : Nat → Nat → TypeId → Prop) : Prop := match x with | some (some a, b, c) => K a b c | _ => False
theorem xiK3_some (a b c : Nat) (K : Nat → Nat → TypeId → Prop) : xiK3 (some (some a, b, c)) K = K a b c := (rfl)
@[congr] theorem xiK3_congr {x x' : Option (Option Nat × Nat × TypeId)} {K : Nat → Nat → TypeId → Prop} (h : x = x') : xiK3 x K = xiK3 x' K := by rw [h]
def kIx2 (n sz : Nat) (cs : List AV) (i : Int) (K : AV → Prop) : Bool → Nat → List AV → Nat → Prop := fun ag sz' _ _ => sz' = sz ∧ 0 ≤ i ∧ i < n ∧ i.toNat * sz + sz ≤ cs.length ∧ (ag = false → sz = 1) ∧ K (if ag = true then .agg ((cs.drop (i.toNat * sz)).take sz) else cs.getD (i.toNat * sz) .top)
def kIx1 (P : Program) (cs : List AV) (i : Int) (K : AV → Prop) : Nat → Nat → TypeId → Prop := fun n sz e => tiK (TI P e) (kIx2 n sz cs i K)
theorem kIx2_app (n sz : Nat) (cs : List AV) (i : Int) (K : AV → Prop) (ag : Bool) (sz' : Nat) (z : List AV) (c : Nat) : kIx2 n sz cs i K ag sz' z c = (sz' = sz ∧ 0 ≤ i ∧ i < n ∧ i.toNat * sz + sz ≤ cs.length ∧ (ag = false → sz = 1) ∧ K (if ag = true then .agg ((cs.drop (i.toNat * sz)).take sz) else cs.getD (i.toNat * sz) .top)) := (rfl)
theorem kIx1_app (P : Program) (cs : List AV) (i : Int) (K : AV → Prop) (n sz : Nat) (e : TypeId) : kIx1 P cs i K n sz e = tiK (TI P e) (kIx2 n sz cs i K) := (rfl)
theorem xindexV_agg (P : Program) (t : TypeId) (cs : List AV) (k : IntKind) (i : Int) (K : AV → Prop) : xindexV P t (.agg cs) (.p (.int k i)) K = xiK3 (XI P t) (kIx1 P cs i K) := by
  unfold xindexV xiK3 kIx1 tiK kIx2 intA
  cases XI P t with
  | none => rfl
  | some v =>
    obtain ⟨a, b, c⟩ := v
    cases a with
    | none => rfl
    | some a => dsimp only; cases TI P c <;> rfl
theorem xisnil_p (e : TypeId) (op : BinOp) (els : List (List PV)) (K : AV → Prop) : xisnil (some (.slice e)) op (.p (.sl els)) K = ((els = [] → nilK op K true) ∧ nilK op K false) := (rfl)
def kSl3 (sz : Nat) (els : List (List PV)) (hb : Bool) (mx : Option AV) (l : Int) (K : AV → Prop) : Int → Prop := fun h => (∀ el ∈ els, el.length = sz) ∧ 0 ≤ l ∧ l ≤ h ∧ h ≤ els.length ∧ match mx with
  | none => K (.p (.sl ((els.drop l.toNat).take (h.toNat - l.toNat))))
  | some y => intA y = some h ∧ hb = true ∧ K (.cs ((els.drop l.toNat).take (h.toNat - l.toNat)))
def kSl2 (sz : Nat) (els : List (List PV)) (hi mx : Option AV) (K : AV → Prop) : Int → Prop := fun l => optK (bnd hi els.length) (kSl3 sz els hi.isSome mx l K)
def kSl1 (sz : Nat) (lo hi mx : Option AV) (K : AV → Prop) : List (List PV) → Prop := fun els => optK (bnd lo 0) (kSl2 sz els hi mx K)
section
variable {e : TypeId} {sz : Nat} {x : AV} {K : AV → Prop} {els : List (List PV)} {hb : Bool} {lo hi mx : Option AV} {l h : Int} {y : AV}
theorem kSl3_none : kSl3 sz els hb none l K h = ((∀ el ∈ els, el.length = sz) ∧ 0 ≤ l ∧ l ≤ h ∧ h ≤ els.length ∧ K (.p (.sl ((els.drop l.toNat).take (h.toNat - l.toNat))))) := (rfl)
theorem kSl3_some : kSl3 sz els hb (some y) l K h = ((∀ el ∈ els, el.length = sz) ∧ 0 ≤ l ∧ l ≤ h ∧ h ≤ els.length ∧ intA y = some h ∧ hb = true ∧ K (.cs ((els.drop l.toNat).take (h.toNat - l.toNat)))) := (rfl)
theorem kSl2_app : kSl2 sz els hi mx K l = optK (bnd hi els.length) (kSl3 sz els hi.isSome mx l K) := (rfl)
theorem kSl1_app : kSl1 sz lo hi mx K els = optK (bnd lo 0) (kSl2 sz els hi mx K) := (rfl)
theorem xsliceP_eq : xsliceP sz x lo hi mx K = optK (pureS x) (kSl1 sz lo hi mx K) := by
  unfold xsliceP optK kSl1 optK kSl2 optK kSl3
  cases pureS x with
  | none => rfl
  | some els =>
    dsimp only
    cases bnd lo 0 <;> cases bnd hi els.length <;> cases mx <;> rfl
end
theorem bnd_none (d : Nat) : bnd none d = some (d : Int) := (rfl)
theorem bnd_some (y : AV) (d : Nat) : bnd (some y) d = intA y := (rfl)
theorem intA_int (k : IntKind) (i : Int) : intA (.p (.int k i)) = some i := (rfl)

/-! Values put together. -/
theorem cellsOf_agg (cs : List AV) : cellsOf (.agg cs) = cs := (rfl)
theorem cellsOf_p (v : PV) : cellsOf (.p v) = [.p v] := (rfl)
theorem cellsOf_cs (els : List (List PV)) : cellsOf (.cs els) = [.cs els] := (rfl)
theorem cellsOf_sp (b o : Nat) : cellsOf (.sp b o) = [.sp b o] := (rfl)
theorem cellsOf_ts (k z : Nat) (loc : Option Nat) (els : List (List PV)) : cellsOf (.ts k z loc els) = [.ts k z loc els] := (rfl)
theorem cellsOf_ms (b z o n c : Nat) : cellsOf (.ms b z o n c) = [.ms b z o n c] := (rfl)
theorem cellsOf_fn (f : Fn) (a b : List AV) : cellsOf (.fn f a b) = [.fn f a b] := (rfl)
theorem scalar_p (v : PV) : scalar (.p v) = true := (rfl)
theorem scalar_nils : scalar .nils = true := (rfl)
theorem scalar_cs (els : List (List PV)) : scalar (.cs els) = true := (rfl)
theorem scalar_sp (b o : Nat) : scalar (.sp b o) = true := (rfl)
theorem scalar_ts (k z : Nat) (loc : Option Nat) (els : List (List PV)) : scalar (.ts k z loc els) = true := (rfl)
theorem scalar_ms (b z o n c : Nat) : scalar (.ms b z o n c) = true := (rfl)
theorem scalar_fn (f : Fn) (a b : List AV) : scalar (.fn f a b) = true := (rfl)
theorem notNil_sp (b o : Nat) : notNil (.sp b o) = true := (rfl)
theorem all_nil (p : AV → Bool) : List.all [] p = true := (rfl)
theorem all_cons (p : AV → Bool) (x : AV) (l : List AV) : List.all (x :: l) p = (p x && List.all l p) := (rfl)
theorem splice_eq (cs : List AV) (o : Nat) (l : List AV) : splice cs o l = cs.take o ++ l ++ cs.drop (o + l.length) := (rfl)

/-- Parts, each laid into its place; the places of a struct, or of an array. -/
theorem xfill_nil (f : Nat → Option (Nat × Nat)) (cs : List AV) : xfill f cs [] = some cs := (rfl)
def fillK (p : Option (Nat × Nat)) (f : Nat → Option (Nat × Nat)) (cs l : List AV) (r : List (Nat × AV)) : Option (List AV) :=
  match p with | none => none | some (off, sz) => if l.length = sz ∧ off + sz ≤ cs.length ∧ l.all scalar = true then xfill f (splice cs off l) r else none
theorem fillK_some (off sz : Nat) (f : Nat → Option (Nat × Nat)) (cs l : List AV) (r : List (Nat × AV)) : fillK (some (off, sz)) f cs l r = if l.length = sz ∧ off + sz ≤ cs.length ∧ l.all scalar = true then xfill f (splice cs off l) r else none := (rfl)
theorem xfill_cons (f : Nat → Option (Nat × Nat)) (cs : List AV) (i : Nat) (v : AV) (r : List (Nat × AV)) : xfill f cs ((i, v) :: r) = fillK (f i) f cs (cellsOf v) r := (rfl)
/-- A type's parts, known: a struct's, an array's. -/
inductive Pl where
  | st (l : List (Nat × Nat))
  | ar (sz : Nat)
def placeOf : Pl → Nat → Option (Nat × Nat)
  | .st l => fun i => l[i]?
  | .ar sz => fun k => some (k * sz, sz)
def BI (P : Program) (t : TypeId) : Option Pl :=
  match P.underlying t with
  | some (.struct fs) => if (fs.all fun f => (P.info? f.type).isSome) = true then some (.st (fs.toList.map fun f => (f.offset, ((P.info? f.type).map (·.size)).getD 0))) else none
  | some (.array _ el) => match P.info? el with | some i => some (.ar i.size) | none => none
  | _ => none
theorem placeOf_st (l : List (Nat × Nat)) (i : Nat) : placeOf (.st l) i = l[i]? := (rfl)
theorem placeOf_ar (sz k : Nat) : placeOf (.ar sz) k = some (k * sz, sz) := (rfl)

theorem places_eq {P : Program} {fs : Array Field} (hall : (fs.all fun f => (P.info? f.type).isSome) = true) : placeOf (.st (fs.toList.map fun f => (f.offset, ((P.info? f.type).map (·.size)).getD 0))) = fieldPlaces P fs := by
  funext i
  rw [placeOf_st, List.getElem?_map, Array.getElem?_toList]
  unfold fieldPlaces
  cases hfi : fs[i]? with
  | none => rfl
  | some f =>
    have hm : f ∈ fs := Array.mem_of_getElem? hfi
    have hs := (Array.all_eq_true'.1 hall) f hm
    cases hin : P.info? f.type with
    | none => rw [hin] at hs; cases hs
    | some inf => simp [hin]

def kB3 (K : AV → Prop) : List AV → Prop := fun cs => K (.agg cs)
def kB2 (z : List AV) (ps : List (Nat × AV)) (K : AV → Prop) : Pl → Prop := fun pl => optK (xfill (placeOf pl) z ps) (kB3 K)
def kB1 (P : Program) (t : TypeId) (ps : List (Nat × AV)) (K : AV → Prop) : Bool → Nat → List AV → Nat → Prop := fun _ _ z _ => optK (BI P t) (kB2 z ps K)
theorem kB3_app (K : AV → Prop) (cs : List AV) : kB3 K cs = K (.agg cs) := (rfl)
theorem kB2_app (z : List AV) (ps : List (Nat × AV)) (K : AV → Prop) (pl : Pl) : kB2 z ps K pl = optK (xfill (placeOf pl) z ps) (kB3 K) := (rfl)
theorem kB1_app (P : Program) (t : TypeId) (ps : List (Nat × AV)) (K : AV → Prop) (a : Bool) (b : Nat) (z : List AV) (c : Nat) : kB1 P t ps K a b z c = optK (BI P t) (kB2 z ps K) := (rfl)
def evP (e : Operand → AV) (p : Nat × Operand) : Nat × AV := (p.1, e p.2)
theorem evP_app (e : Operand → AV) (i : Nat) (x : Operand) : evP e (i, x) = (i, e x) := (rfl)
theorem xbuild_eq {P : Program} {t : TypeId} {e : Operand → AV} {ps : List (Nat × Operand)} {K : AV → Prop} : xbuild P t e (List.toArray ps) K =
    tiK (TI P t) (kB1 P t (ps.map (evP e)) K) := by
  show _ = tiK (TI P t) (fun _ _ z _ => optK (BI P t) (fun pl => optK (xfill (placeOf pl) z (ps.map fun p => (p.1, e p.2))) (fun cs => K (.agg cs))))
  unfold xbuild tiK BI
  cases TI P t with
  | none => rfl
  | some v =>
    obtain ⟨a, b, z, d⟩ := v
    dsimp only
    cases hu : P.underlying t with
    | none => rfl
    | some u =>
      cases u <;> try rfl
      case struct fs =>
        dsimp only
        by_cases hall : (fs.all fun f => (P.info? f.type).isSome) = true
        · rw [if_pos hall, optK_some, places_eq hall]
          simp only [hall, true_and]
          unfold optK
          cases xfill (fieldPlaces P fs) z (ps.map fun p => (p.1, e p.2)) <;> rfl
        · rw [if_neg hall]
          have : (fs.all fun f => (P.info? f.type).isSome) = false := by simpa using hall
          simp only [this, Bool.false_eq_true, false_and]; rfl
      case array n el =>
        dsimp only
        cases P.info? el with
        | none => rfl
        | some i =>
          dsimp only
          rw [optK_some]
          have hpl : placeOf (.ar i.size) = fun k => some (k * i.size, i.size) := rfl
          rw [hpl]
          unfold optK
          dsimp only
          generalize xfill (fun k => some (k * i.size, i.size)) z (ps.map fun p => (p.1, e p.2)) = q
          cases q <;> rfl

def zc (z : List AV) : Nat → List AV
  | 0 => []
  | n + 1 => z ++ zc z n
theorem zc_eq (z : List AV) : ∀ n, (List.range (n * z.length)).map (fun k => z.getD (k % z.length) .top) = zc z n := by
  intro n
  induction n with
  | zero => simp [zc]
  | succ n ih =>
    simp only [zc]
    rw [show (n + 1) * z.length = z.length + n * z.length from by rw [Nat.succ_mul]; omega, List.range_add, List.map_append, List.map_map, ← ih]
    congr 1
    · apply List.ext_getElem
      · simp
      · intro i h1 h2
        simp only [List.getElem_map, List.getElem_range]
        rw [Nat.mod_eq_of_lt h2, List.getD_eq_getElem?_getD, List.getElem?_eq_getElem h2]; rfl
    · apply List.map_congr_left
      intro k _
      simp [Function.comp]
theorem zc_zero (z : List AV) : zc z 0 = [] := (rfl)
theorem zc_succ (z : List AV) (n : Nat) : zc z (n + 1) = z ++ zc z n := (rfl)
def ck (z : Nat) : Nat → List PV → List (List PV)
  | 0, _ => []
  | n + 1, l => l.take z :: ck z n (l.drop z)
theorem ck_eq (z : Nat) : ∀ (n : Nat) (l : List PV), chunks z n l = ck z n l := by
  intro n
  induction n with
  | zero => intro l; rfl
  | succ n ih =>
    intro l
    simp only [ck, ← ih, chunks, List.range_succ_eq_map, List.map_cons, List.map_map, Nat.zero_mul, List.drop_zero]
    congr 1
    apply List.map_congr_left
    intro i _
    simp only [Function.comp, List.drop_drop]
    rw [Nat.succ_mul, Nat.add_comm]
theorem ck_zero (z : Nat) (l : List PV) : ck z 0 l = [] := (rfl)
theorem ck_succ (z n : Nat) (l : List PV) : ck z (n + 1) l = l.take z :: ck z n (l.drop z) := (rfl)
def xiKe (x : Option (Option Nat × Nat × TypeId)) (K : Nat → TypeId → Prop) : Prop := match x with | some (none, b, e) => K b e | _ => False
theorem xiKe_some (b c : Nat) (K : Nat → TypeId → Prop) : xiKe (some (none, b, c)) K = K b c := (rfl)
@[congr] theorem xiKe_congr {x x' : Option (Option Nat × Nat × TypeId)} {K : Nat → TypeId → Prop} (h : x = x') : xiKe x K = xiKe x' K := by rw [h]

def kBS4 (sz n : Nat) (K : AV → Prop) : List PV → Prop := fun l => K (.cs (ck sz n l))
def kBS3 (sz n : Nat) (K : AV → Prop) : List AV → Prop := fun cs => optK (pvs cs) (kBS4 sz n K)
def kBS2 (sz n : Nat) (ps : List (Nat × AV)) (K : AV → Prop) : Bool → Nat → List AV → Nat → Prop := fun _ _ z _ => z.length = sz ∧ n * sz ≤ 2 ^ 24 ∧ optK (xfill (placeOf (.ar sz)) (zc z n) ps) (kBS3 sz n K)
def kBS1 (P : Program) (n : Nat) (ps : List (Nat × AV)) (K : AV → Prop) : Nat → TypeId → Prop := fun sz el => tiK (TI P el) (kBS2 sz n ps K)
theorem kBS4_app (sz n : Nat) (K : AV → Prop) (l : List PV) : kBS4 sz n K l = K (.cs (ck sz n l)) := (rfl)
theorem kBS3_app (sz n : Nat) (K : AV → Prop) (cs : List AV) : kBS3 sz n K cs = optK (pvs cs) (kBS4 sz n K) := (rfl)
theorem kBS2_app (sz n : Nat) (ps : List (Nat × AV)) (K : AV → Prop) (a : Bool) (b : Nat) (z : List AV) (c : Nat) : kBS2 sz n ps K a b z c = (z.length = sz ∧ n * sz ≤ 2 ^ 24 ∧ optK (xfill (placeOf (.ar sz)) (zc z n) ps) (kBS3 sz n K)) := (rfl)
theorem kBS1_app (P : Program) (n : Nat) (ps : List (Nat × AV)) (K : AV → Prop) (sz : Nat) (el : TypeId) : kBS1 P n ps K sz el = tiK (TI P el) (kBS2 sz n ps K) := (rfl)
theorem xbuildSlice_eq {P : Program} {t : TypeId} {n : Nat} {e : Operand → AV} {ps : List (Nat × Operand)} {K : AV → Prop} : xbuildSlice P t n e (List.toArray ps) K =
    xiKe (XI P t) (kBS1 P n (ps.map (evP e)) K) := by
  show _ = xiKe (XI P t) (fun sz el => tiK (TI P el) (fun _ _ z _ => z.length = sz ∧ n * sz ≤ 2 ^ 24 ∧ optK (xfill (placeOf (.ar sz)) (zc z n) (ps.map fun p => (p.1, e p.2))) (fun cs => optK (pvs cs) (fun l => K (.cs (ck sz n l))))))
  unfold xbuildSlice xiKe tiK
  cases XI P t with
  | none => rfl
  | some v =>
    obtain ⟨a, sz, el⟩ := v
    cases a with
    | some _ => rfl
    | none =>
      dsimp only
      cases TI P el with
      | none => rfl
      | some u =>
        obtain ⟨_, _, z, _⟩ := u
        dsimp only
        by_cases hz : z.length = sz
        · subst hz
          rw [zc_eq]
          simp only [true_and]
          congr 1
          unfold optK
          show (match xfill (placeOf (.ar z.length)) (zc z n) (ps.map fun p => (p.1, e p.2)) with | some cs => _ | none => False) = _
          cases xfill (placeOf (.ar z.length)) (zc z n) (ps.map fun p => (p.1, e p.2)) with
          | none => rfl
          | some cs =>
            dsimp only
            cases pvs cs with
            | none => rfl
            | some l => dsimp only; rw [ck_eq]
        · simp only [hz, false_and]
theorem pvA_p (v : PV) : pvA (.p v) = some v := (rfl)
theorem pvA_cs (els : List (List PV)) : pvA (.cs els) = some (.sl els) := (rfl)
theorem pvA_ts (k z : Nat) (loc : Option Nat) (els : List (List PV)) : pvA (.ts k z loc els) = some (.sl els) := (rfl)
theorem pvs_nil : pvs [] = some [] := (rfl)
theorem pvs_cons (x : AV) (r : List AV) : pvs (x :: r) = (pvA x).bind (fun v => (pvs r).map (fun l => v :: l)) := by
  rw [pvs]
  cases pvA x with
  | none => rfl
  | some v => cases pvs r <;> rfl

def appK (sz by' : Nat) (S : Store) (x : AV) (ys : List (List PV)) (K : AV → Store → Prop) : Prop :=
  match x with
  | .nils => ys.length * by' ≤ 2 ^ 47 ∧ ys.length < 2 ^ 62 ∧ NewP sz [] ys S K
  | .cs els => (∀ el ∈ els, el.length = sz) ∧ (els.length + ys.length) * by' ≤ 2 ^ 47 ∧ els.length + ys.length < 2 ^ 62 ∧ NewP sz els ys S K
  | .ts k z' loc els => z' = sz ∧ S (.v k) = some (.tip sz els.length loc) ∧ (∀ el ∈ els, el.length = sz) ∧ (els.length + ys.length) * by' ≤ 2 ^ 47 ∧ els.length + ys.length < 2 ^ 62 ∧ GrowP k sz (els ++ ys) S K
  | _ => False
def kA3 (z : List AV) (sz by' : Nat) (S : Store) (x : AV) (K : AV → Store → Prop) : List (List PV) → Prop := fun ys => z.length = sz ∧ (∀ el ∈ ys, el.length = sz) ∧ appK sz by' S x ys K
def kA2 (sz : Nat) (S : Store) (x y : AV) (K : AV → Store → Prop) : Bool → Nat → List AV → Nat → Prop := fun _ _ z by' => optK (pureS y) (kA3 z sz by' S x K)
def kA1 (P : Program) (S : Store) (x y : AV) (K : AV → Store → Prop) : Nat → TypeId → Prop := fun sz e => tiK (TI P e) (kA2 sz S x y K)
theorem kA3_app (z : List AV) (sz by' : Nat) (S : Store) (x : AV) (K : AV → Store → Prop) (ys : List (List PV)) : kA3 z sz by' S x K ys = (z.length = sz ∧ (∀ el ∈ ys, el.length = sz) ∧ appK sz by' S x ys K) := (rfl)
theorem kA2_app (sz : Nat) (S : Store) (x y : AV) (K : AV → Store → Prop) (a : Bool) (b : Nat) (z : List AV) (by' : Nat) : kA2 sz S x y K a b z by' = optK (pureS y) (kA3 z sz by' S x K) := (rfl)
theorem kA1_app (P : Program) (S : Store) (x y : AV) (K : AV → Store → Prop) (sz : Nat) (e : TypeId) : kA1 P S x y K sz e = tiK (TI P e) (kA2 sz S x y K) := (rfl)
theorem xappend_eq {P : Program} {t : TypeId} {S : Store} {x y : AV} {K : AV → Store → Prop} : xappend P t S x y K = xiKe (XI P t) (kA1 P S x y K) := by
  show _ = xiKe (XI P t) (fun sz e => tiK (TI P e) (fun _ _ z by' => optK (pureS y) (fun ys => z.length = sz ∧ (∀ el ∈ ys, el.length = sz) ∧ appK sz by' S x ys K)))
  unfold xappend xiKe tiK optK
  cases XI P t with
  | none => rfl
  | some v =>
    obtain ⟨a, sz, el⟩ := v
    cases a with
    | some _ => rfl
    | none =>
      dsimp only
      cases TI P el with
      | none => rfl
      | some u =>
        obtain ⟨_, _, z, _⟩ := u
        dsimp only
        cases pureS y with
        | none => rfl
        | some ys => dsimp only; cases x <;> rfl
@[congr] theorem appK_congr {sz by' : Nat} {S : Store} {x x' : AV} {ys ys' : List (List PV)} {K : AV → Store → Prop} (h : x = x') (h' : ys = ys') : appK sz by' S x ys K = appK sz by' S x' ys' K := by rw [h, h']
section
variable {sz by' : Nat} {S : Store} {ys els : List (List PV)} {K : AV → Store → Prop}
theorem appK_nils : appK sz by' S .nils ys K = (ys.length * by' ≤ 2 ^ 47 ∧ ys.length < 2 ^ 62 ∧ NewP sz [] ys S K) := (rfl)
theorem appK_cs : appK sz by' S (.cs els) ys K = ((∀ el ∈ els, el.length = sz) ∧ (els.length + ys.length) * by' ≤ 2 ^ 47 ∧ els.length + ys.length < 2 ^ 62 ∧ NewP sz els ys S K) := (rfl)
theorem appK_ts {k z' : Nat} {loc : Option Nat} : appK sz by' S (.ts k z' loc els) ys K = (z' = sz ∧ S (.v k) = some (.tip sz els.length loc) ∧ (∀ el ∈ els, el.length = sz) ∧ (els.length + ys.length) * by' ≤ 2 ^ 47 ∧ els.length + ys.length < 2 ^ 62 ∧ GrowP k sz (els ++ ys) S K) := (rfl)
end

/-! Slices that are written. -/
section
variable {P : Program} {S : Store}
def kSrc (sz b z o n : Nat) (K : Nat × List AV → Prop) : List AV → Prop := fun cs => o + n * z ≤ cs.length ∧ z = sz ∧ K (n, (cs.drop o).take (n * z))
def srcK (S : Store) (sz : Nat) (x : AV) (K : Nat × List AV → Prop) : Prop := optK (srcA S sz x) K
theorem srcD {sz : Nat} {els : List (List PV)} {K : Nat × List AV → Prop} : optK (if els.all (fun el => el.length == sz) = true then some (els.length, flatA els) else none) K = ((∀ el ∈ els, el.length = sz) ∧ K (els.length, flatA els)) := by
  by_cases h : els.all (fun el => el.length == sz) = true
  · rw [if_pos h, optK_some]
    have : ∀ el ∈ els, el.length = sz := fun el hel => by simpa using List.all_eq_true.1 h el hel
    simp only [eq_true this, true_and]
  · rw [if_neg h]
    have : ¬ ∀ el ∈ els, el.length = sz := fun h' => h (List.all_eq_true.2 fun el hel => by simpa using h' el hel)
    simp only [eq_false this, false_and]; rfl
theorem srcK_p {sz : Nat} {els : List (List PV)} {K : Nat × List AV → Prop} : srcK S sz (.p (.sl els)) K = ((∀ el ∈ els, el.length = sz) ∧ K (els.length, flatA els)) := srcD
theorem srcK_cs {sz : Nat} {els : List (List PV)} {K : Nat × List AV → Prop} : srcK S sz (.cs els) K = ((∀ el ∈ els, el.length = sz) ∧ K (els.length, flatA els)) := srcD
def kMk2 (sz : Nat) (S : Store) (l c : Int) (K : AV → Store → Prop) : Bool → Nat → List AV → Nat → Prop := fun _ sz' z by' => sz' = sz ∧ z.length = sz ∧ 0 ≤ l ∧ l ≤ c ∧ c.toNat * by' ≤ 2 ^ 47 ∧ c < 2 ^ 62 ∧ MakeP sz l.toNat c.toNat (.cells (zcs z c.toNat)) S K
def kMk (P : Program) (S : Store) (l c : Int) (K : AV → Store → Prop) : Nat → TypeId → Prop := fun sz e => tiK (TI P e) (kMk2 sz S l c K)
theorem xcap_nils (e : TypeId) (K : AV → Prop) : xcap (some (.slice e)) .nils K = K (.p (.int .i64 0)) := (rfl)
def kCp3 (S : Store) (sz b o n : Nat) (cs : List AV) (K : AV → Store → Prop) : Nat × List AV → Prop := fun p => o + n * sz ≤ cs.length ∧ (p.2.take (min p.1 n * sz)).all scalar = true ∧ K (.p (.int .i64 (min p.1 n : Nat))) (S.set (.r b) (.cells (splice cs o (p.2.take (min p.1 n * sz)))))
def kCp2 (S : Store) (sz b z o n : Nat) (y : AV) (K : AV → Store → Prop) : List AV → Prop := fun cs => z = sz ∧ srcK S sz y (kCp3 S sz b o n cs K)
def kCp1 (S : Store) (b z o n : Nat) (y : AV) (K : AV → Store → Prop) : Nat → TypeId → Prop := fun sz _ => blkK (S (.r b)) (kCp2 S sz b z o n y K)
def kCl2 (S : Store) (sz b z o n : Nat) (cs : List AV) (K : AV → Store → Prop) : Bool → Nat → List AV → Nat → Prop := fun _ _ zz _ => z = sz ∧ zz.length = sz ∧ zz.all scalar = true ∧ o + n * sz ≤ cs.length ∧ K (.tuple []) (S.set (.r b) (.cells (splice cs o (zcs zz n))))
def kCl1 (P : Program) (S : Store) (sz b z o n : Nat) (e : TypeId) (K : AV → Store → Prop) : List AV → Prop := fun cs => tiK (TI P e) (kCl2 S sz b z o n cs K)
def kCl0 (P : Program) (S : Store) (b z o n : Nat) (K : AV → Store → Prop) : Nat → TypeId → Prop := fun sz e => blkK (S (.r b)) (kCl1 P S sz b z o n e K)
def kAM4 (S : Store) (sz b o n c m : Nat) (cs l : List AV) (K : AV → Store → Prop) : Bool → Nat → List AV → Nat → Prop := fun _ _ zz by' => zz.length = sz ∧ o + n * sz ≤ cs.length ∧ l.all scalar = true ∧ MoreP sz b o n c m by' cs l S K
def kAM3 (P : Program) (S : Store) (sz : Nat) (e : TypeId) (b o n c : Nat) (cs : List AV) (K : AV → Store → Prop) : Nat × List AV → Prop := fun p => tiK (TI P e) (kAM4 S sz b o n c p.1 cs p.2 K)
def kAM2 (P : Program) (S : Store) (sz : Nat) (e : TypeId) (b z o n c : Nat) (y : AV) (K : AV → Store → Prop) : List AV → Prop := fun cs => z = sz ∧ srcK S sz y (kAM3 P S sz e b o n c cs K)
def kAM1 (P : Program) (S : Store) (b z o n c : Nat) (y : AV) (K : AV → Store → Prop) : Nat → TypeId → Prop := fun sz e => blkK (S (.r b)) (kAM2 P S sz e b z o n c y K)
theorem kAM4_app (sz b o n c m : Nat) (cs l : List AV) (K : AV → Store → Prop) (a : Bool) (sz' : Nat) (zz : List AV) (by' : Nat) : kAM4 S sz b o n c m cs l K a sz' zz by' = (zz.length = sz ∧ o + n * sz ≤ cs.length ∧ l.all scalar = true ∧ MoreP sz b o n c m by' cs l S K) := (rfl)
theorem kAM3_app (sz : Nat) (e : TypeId) (b o n c : Nat) (cs : List AV) (K : AV → Store → Prop) (m : Nat) (l : List AV) : kAM3 P S sz e b o n c cs K (m, l) = tiK (TI P e) (kAM4 S sz b o n c m cs l K) := (rfl)
theorem kAM2_app (sz : Nat) (e : TypeId) (b z o n c : Nat) (y : AV) (K : AV → Store → Prop) (cs : List AV) : kAM2 P S sz e b z o n c y K cs = (z = sz ∧ srcK S sz y (kAM3 P S sz e b o n c cs K)) := (rfl)
theorem kAM1_app (b z o n c : Nat) (y : AV) (K : AV → Store → Prop) (sz : Nat) (e : TypeId) : kAM1 P S b z o n c y K sz e = blkK (S (.r b)) (kAM2 P S sz e b z o n c y K) := (rfl)
def kAZ2 (S : Store) (sz : Nat) (n : Int) (K : AV → Store → Prop) : Bool → Nat → List AV → Nat → Prop := fun _ sz' z by' => sz' = sz ∧ z.length = sz ∧ 0 < n ∧ n.toNat * by' ≤ 2 ^ 47 ∧ n < 2 ^ 62 ∧ ZeroP sz n.toNat z S K
def kAZ1 (P : Program) (S : Store) (n : Int) (K : AV → Store → Prop) : Nat → TypeId → Prop := fun sz e => tiK (TI P e) (kAZ2 S sz n K)
theorem kAZ2_app (sz : Nat) (n : Int) (K : AV → Store → Prop) (a : Bool) (sz' : Nat) (z : List AV) (by' : Nat) : kAZ2 S sz n K a sz' z by' = (sz' = sz ∧ z.length = sz ∧ 0 < n ∧ n.toNat * by' ≤ 2 ^ 47 ∧ n < 2 ^ 62 ∧ ZeroP sz n.toNat z S K) := (rfl)
theorem kAZ1_app (n : Int) (K : AV → Store → Prop) (sz : Nat) (e : TypeId) : kAZ1 P S n K sz e = tiK (TI P e) (kAZ2 S sz n K) := (rfl)
def kAX (P : Program) (t : TypeId) (S : Store) (x y : AV) (K : AV → Store → Prop) : Option TypeDesc → Prop
  | some (.int _) => xapp0 P t S x y K
  | some (.slice _) => xapp1 P t S x y K
  | some .string => xapp1 P t S x y K
  | _ => False
theorem xappX_eq {t u : TypeId} {x y : AV} {K : AV → Store → Prop} : xappX P t u S x y K = kAX P t S x y K (P.underlying u) := by
  unfold xappX kAX; cases P.underlying u with
  | none => rfl
  | some d => cases d <;> rfl
theorem kAX_slice {t e : TypeId} {x y : AV} {K : AV → Store → Prop} : kAX P t S x y K (some (.slice e)) = xapp1 P t S x y K := (rfl)
theorem kAX_int {t : TypeId} {k : IntKind} {x y : AV} {K : AV → Store → Prop} : kAX P t S x y K (some (.int k)) = xapp0 P t S x y K := (rfl)
theorem xapp1_nils {t : TypeId} {y : AV} {K : AV → Store → Prop} : xapp1 P t S .nils y K = xappend P t S .nils y K := by simp only [xapp1]
theorem xapp1_cs {t : TypeId} {els : List (List PV)} {y : AV} {K : AV → Store → Prop} : xapp1 P t S (.cs els) y K = xappend P t S (.cs els) y K := by simp only [xapp1]
theorem xapp1_ts {t : TypeId} {k z : Nat} {loc : Option Nat} {els : List (List PV)} {y : AV} {K : AV → Store → Prop} : xapp1 P t S (.ts k z loc els) y K = xappend P t S (.ts k z loc els) y K := by simp only [xapp1]
theorem xapp1_ms {t : TypeId} {b z o n c : Nat} {y : AV} {K : AV → Store → Prop} : xapp1 P t S (.ms b z o n c) y K = xiKe (XI P t) (kAM1 P S b z o n c y K) := by
  unfold xapp1 xiKe kAM1 blkK kAM2 srcK optK kAM3 tiK kAM4
  cases XI P t with
  | none => rfl
  | some v =>
    obtain ⟨a, sz, e⟩ := v
    cases a <;> try rfl
    dsimp only
    cases S (.r b) with
    | none => simp
    | some x =>
      cases x <;> try (simp; done)
      dsimp only
      cases srcA S sz y with
      | none => rfl
      | some p =>
        dsimp only
        cases TI P e with
        | none => rfl
        | some q => rfl
theorem more_in {z b o n c m by' : Nat} {cs l : List AV} {K : AV → Store → Prop} (h : n + m ≤ c) (hf : o + (n + m) * z ≤ cs.length)
    (hK : K (.ms b z o (n + m) c) (S.set (.r b) (.cells (splice cs (o + n * z) l)))) : MoreP z b o n c m by' cs l S K := ⟨fun _ => ⟨hf, hK⟩, fun hh => absurd h (by omega)⟩
theorem more_two {z b o n c m by' : Nat} {cs l : List AV} {K : AV → Store → Prop} (h1 : (n + m) * by' ≤ 2 ^ 47) (h2 : n + m < 2 ^ 62)
    (hin : n + m ≤ c → o + (n + m) * z ≤ cs.length ∧ K (.ms b z o (n + m) c) (S.set (.r b) (.cells (splice cs (o + n * z) l))))
    (hout : c < n + m → ∀ b' c', Fresh S b' → n + m ≤ c' → K (.ms b' z 0 (n + m) c') (S.set (.r b') (.cells ((cs.drop o).take (n * z) ++ l ++ List.replicate ((c' - (n + m)) * z) .top)))) : MoreP z b o n c m by' cs l S K := ⟨hin, fun h => ⟨h1, h2, hout h⟩⟩
theorem xapp0_nils {t : TypeId} {k : IntKind} {n : Int} {K : AV → Store → Prop} : xapp0 P t S .nils (.p (.int k n)) K = xiKe (XI P t) (kAZ1 P S n K) := by
  unfold xapp0 xiKe kAZ1 tiK kAZ2 ZeroP intA
  cases XI P t with
  | none => rfl
  | some v => obtain ⟨a, b, c⟩ := v; cases a <;> rfl
def kSm2 (b z o c : Nat) (l : Int) (K : AV → Prop) : Int → Prop := fun h => 0 ≤ l ∧ l ≤ h ∧ h ≤ c ∧ K (.ms b z (o + l.toNat * z) (h.toNat - l.toNat) (c - l.toNat))
def kSm1 (sz b z o n c : Nat) (hi : Option AV) (K : AV → Prop) : Int → Prop := fun l => z = sz ∧ optK (bnd hi n) (kSm2 b z o c l K)
theorem kSm2_app (b z o c : Nat) (l : Int) (K : AV → Prop) (h : Int) : kSm2 b z o c l K h = (0 ≤ l ∧ l ≤ h ∧ h ≤ c ∧ K (.ms b z (o + l.toNat * z) (h.toNat - l.toNat) (c - l.toNat))) := (rfl)
theorem kSm1_app (sz b z o n c : Nat) (hi : Option AV) (K : AV → Prop) (l : Int) : kSm1 sz b z o n c hi K l = (z = sz ∧ optK (bnd hi n) (kSm2 b z o c l K)) := (rfl)
theorem xslice_ms {e : TypeId} {sz b z o n c : Nat} {lo hi : Option AV} {K : AV → Prop} : xslice (some (.slice e)) sz (.ms b z o n c) lo hi none K = optK (bnd lo 0) (kSm1 sz b z o n c hi K) := by
  unfold xslice xsliceM optK kSm1 optK kSm2
  dsimp only
  cases bnd lo 0 <;> cases bnd hi n <;> simp
theorem xslice_p {e : TypeId} {sz : Nat} {v : PV} {lo hi mx : Option AV} {K : AV → Prop} : xslice (some (.slice e)) sz (.p v) lo hi mx K = optK (pureS (.p v)) (kSl1 sz lo hi mx K) := by
  simp only [xslice, xsliceP_eq]
theorem xslice_ts {e : TypeId} {sz k z : Nat} {loc : Option Nat} {els : List (List PV)} {lo hi mx : Option AV} {K : AV → Prop} : xslice (some (.slice e)) sz (.ts k z loc els) lo hi mx K = optK (pureS (.ts k z loc els)) (kSl1 sz lo hi mx K) := by
  simp only [xslice, xsliceP_eq]
def kSn (K : AV → Prop) (l : Int) : Int → Prop := fun h => l = 0 ∧ h = 0 ∧ K .nils
def kSn1 (hi : Option AV) (K : AV → Prop) : Int → Prop := fun l => optK (bnd hi 0) (kSn K l)
theorem kSn_app (K : AV → Prop) (l h : Int) : kSn K l h = (l = 0 ∧ h = 0 ∧ K .nils) := (rfl)
theorem kSn1_app (hi : Option AV) (K : AV → Prop) (l : Int) : kSn1 hi K l = optK (bnd hi 0) (kSn K l) := (rfl)
theorem xslice_nils {e : TypeId} {sz : Nat} {lo hi : Option AV} {K : AV → Prop} : xslice (some (.slice e)) sz .nils lo hi none K = optK (bnd lo 0) (kSn1 hi K) := by
  unfold xslice optK kSn1 optK kSn
  dsimp only
  cases bnd lo 0 <;> cases bnd hi 0 <;> simp
theorem FunA_fn (g : Nat) (first caps args : List AV) (S : Store) (R : AV → Store → Prop) : FunA P (.fn (.func g) first caps) args S R = (CallR P g (first ++ args.map reif ++ caps) S R ∨ CallR P g (first ++ args ++ caps) S R) := (rfl)
end

/-! What is handed back. -/
def kRes (R : AV → Store → Prop) (s : St) : List AV → Prop := fun vs => ∃ S', Sub S' s.S ∧ (∀ r ∈ s.df, S' (.r r) = none) ∧ (R (reif (outV vs)) S' ∨ R (outV vs) S')
theorem kRes_app (R : AV → Store → Prop) (ρ : Nat → AV) (S : Store) (n : Nat) (df : List Nat) (vs : List AV) : kRes R ⟨ρ, S, n, df⟩ vs = ∃ S', Sub S' S ∧ (∀ r ∈ df, S' (.r r) = none) ∧ (R (reif (outV vs)) S' ∨ R (outV vs) S') := (rfl)
def resQ (P : Program) (rs : Array ResultVar) (R : AV → Store → Prop) (s : St) : Prop := optK (xres P s rs.toList) (kRes R s)
theorem retQ_ret (P : Program) (fn : Func) (R : AV → Store → Prop) (s : St) : retQ P fn R .ret s = resQ P fn.results R s := by
  unfold retQ resQ optK kRes; dsimp only; cases xres P s fn.results.toList <;> rfl
theorem retQ_normal (P : Program) (fn : Func) (R : AV → Store → Prop) (s : St) : retQ P fn R .normal s = resQ P fn.results R s := by
  unfold retQ resQ optK kRes; dsimp only; cases xres P s fn.results.toList <;> rfl
theorem resQ_eq (P : Program) (rs : List ResultVar) (R : AV → Store → Prop) (s : St) : resQ P (List.toArray rs) R s = optK (xres P s rs) (kRes R s) := (rfl)
@[congr] theorem retQ_congr {P : Program} {fn : Func} {R : AV → Store → Prop} {e : Ex} {s : St} : retQ P fn R e s = retQ P fn R e s := rfl
@[congr] theorem resQ_congr {P : Program} {rs rs' : Array ResultVar} {R : AV → Store → Prop} {s s' : St} (h : rs = rs') (h' : s = s') : resQ P rs R s = resQ P rs' R s' := by rw [h, h']
theorem xres_nil (P : Program) (s : St) : xres P s [] = some [] := (rfl)
theorem xres_tmp (P : Program) (s : St) (t : Nat) (r : List ResultVar) : xres P s (.tmp t :: r) = (xres P s r).map (fun l => s.ρ t :: l) := by
  rw [xres]; cases xres P s r <;> rfl
def cellV (ti : Option (Bool × Nat × List AV × Nat)) (v : AV) (S : Store) : Option AV :=
  match ti, v with
  | some (ag, sz, _, _), .sp b o => match S (.r b) with
    | some (.cells cs) => if o + sz ≤ cs.length ∧ (ag = false → sz = 1) then some (if ag = true then .agg ((cs.drop o).take sz) else cs.getD o .top) else none
    | _ => none
  | _, _ => none
def cellV2 (ag : Bool) (sz o : Nat) (x : Option Blk) : Option AV :=
  match x with
  | some (.cells cs) => if o + sz ≤ cs.length ∧ (ag = false → sz = 1) then some (if ag = true then .agg ((cs.drop o).take sz) else cs.getD o .top) else none
  | _ => none
theorem cellV_sp (ag : Bool) (sz : Nat) (z : List AV) (by' b o : Nat) (S : Store) : cellV (some (ag, sz, z, by')) (.sp b o) S = cellV2 ag sz o (S (.r b)) := by
  unfold cellV cellV2; rfl
theorem cellV2_some (ag : Bool) (sz o : Nat) (cs : List AV) : cellV2 ag sz o (some (.cells cs)) = if o + sz ≤ cs.length ∧ (ag = false → sz = 1) then some (if ag = true then .agg ((cs.drop o).take sz) else cs.getD o .top) else none := (rfl)
theorem xres_cell (P : Program) (s : St) (x t : Nat) (r : List ResultVar) : xres P s (.cell x t :: r) = (cellV (TI P t) (s.ρ x) s.S).bind (fun v => (xres P s r).map (fun l => v :: l)) := by
  rw [xres]
  cases TI P t with
  | none => rfl
  | some u =>
    obtain ⟨ag, sz, z, by'⟩ := u
    cases s.ρ x <;> try rfl
    rename_i b o
    rw [cellV_sp]
    unfold cellV2
    cases xres P s r with
    | none =>
      dsimp only
      cases s.S (.r b) with
      | none => rfl
      | some y => cases y <;> try rfl
                  dsimp only; split <;> rfl
    | some l =>
      dsimp only
      cases s.S (.r b) with
      | none => rfl
      | some y => cases y <;> try rfl
                  dsimp only; split <;> rfl
theorem outV_nil : outV [] = .tuple [] := (rfl)
theorem outV_one (v : AV) : outV [v] = v := (rfl)
theorem outV_two (a b : AV) (r : List AV) : outV (a :: b :: r) = .tuple (a :: b :: r) := (rfl)
theorem reif1_p (v : PV) : reif1 (.p v) = .p v := (rfl)
theorem reif1_nils : reif1 .nils = .p (.sl []) := (rfl)
theorem reif1_ts (k z : Nat) (loc : Option Nat) (els : List (List PV)) : reif1 (.ts k z loc els) = .p (.sl els) := (rfl)
theorem reif2_p (v : PV) : reif2 (.p v) = .p v := (rfl)
theorem reif2_nils : reif2 .nils = .p (.sl []) := (rfl)
theorem reif2_cs (els : List (List PV)) : reif2 (.cs els) = .p (.sl els) := (rfl)
theorem reif2_ts (k z : Nat) (loc : Option Nat) (els : List (List PV)) : reif2 (.ts k z loc els) = .p (.sl els) := (rfl)
theorem reif2_agg (cs : List AV) : reif2 (.agg cs) = .agg (cs.map reif1) := (rfl)
theorem reif_p (v : PV) : reif (.p v) = .p v := (rfl)
theorem reif_nils : reif .nils = .p (.sl []) := (rfl)
theorem reif_cs (els : List (List PV)) : reif (.cs els) = .p (.sl els) := (rfl)
theorem reif_ts (k z : Nat) (loc : Option Nat) (els : List (List PV)) : reif (.ts k z loc els) = .p (.sl els) := (rfl)
theorem reif_sp (b o : Nat) : reif (.sp b o) = .sp b o := (rfl)
theorem reif_ms (b z o n c : Nat) : reif (.ms b z o n c) = .ms b z o n c := (rfl)
theorem reif_fn (f : Fn) (a b : List AV) : reif (.fn f a b) = .fn f a b := (rfl)
theorem reif_agg (cs : List AV) : reif (.agg cs) = .agg (cs.map reif1) := (rfl)
theorem reif_tuple (cs : List AV) : reif (.tuple cs) = .tuple (cs.map reif2) := (rfl)
theorem FunR_fn (P : Program) (g : Nat) (first caps args : List AV) (S : Store) (R : AV → Store → Prop) : FunR P (.fn (.func g) first caps) args S R = CallR P g (first ++ args ++ caps) S R := (rfl)
def bitB (m k : Nat) : Bool := (m >>> k) % 2 == 1
theorem bitB_eq (m k : Nat) : bitB m k = ((m >>> k) % 2 == 1) := (rfl)
def Env.keep (L : Nat → Bool) : Env → Env
  | [] => []
  | (k, v) :: r => if L k = true then (k, v) :: Env.keep L r else Env.keep L r
theorem Env.keep_nil (L : Nat → Bool) : Env.keep L [] = [] := (rfl)
theorem Env.keep_cons (L : Nat → Bool) (k : Nat) (v : AV) (r : Env) : Env.keep L ((k, v) :: r) = if L k = true then (k, v) :: Env.keep L r else Env.keep L r := (rfl)
theorem Env.keep_eq (L : Nat → Bool) : ∀ ρ : Env, ρ.filter (fun kv => L kv.1) = Env.keep L ρ := by
  intro ρ
  induction ρ with
  | nil => rfl
  | cons kv r ih =>
    obtain ⟨k, v⟩ := kv
    simp only [List.filter, Env.keep, ih]
    cases L k <;> rfl
theorem kReg_mk (Q : Ex → St → Prop) (L : Nat → Bool) (ρ : Env) (S : Store) (n : Nat) (df : List Nat) : kReg Q L ⟨ρ.get, S, n, df⟩ = Q .normal ⟨(Env.keep L ρ).get, S, n, df⟩ := by
  rw [kReg_app]; show Q .normal ⟨keepL L ρ.get, S, n, df⟩ = _; rw [keepL_get, Env.keep_eq]
theorem ev_mk (ρ : Env) (S : Store) (n : Nat) (df : List Nat) (t : Nat) : ev ⟨ρ.get, S, n, df⟩ (.tmp t) = ρ.get t := (rfl)
theorem keepDf_mk (ρ : Env) (S S' : Store) (n : Nat) (df : List Nat) : keepDf ⟨ρ.get, S, n, df⟩ S' = ∀ r ∈ df, S' (.r r) = some (.raw (.deferred (some [])) noKn) := (rfl)
theorem xres_tmpm (P : Program) (ρ : Env) (S : Store) (n : Nat) (df : List Nat) (t : Nat) (r : List ResultVar) : xres P ⟨ρ.get, S, n, df⟩ (.tmp t :: r) = (xres P ⟨ρ.get, S, n, df⟩ r).map (fun l => ρ.get t :: l) := xres_tmp ..
theorem xres_cellm (P : Program) (ρ : Env) (S : Store) (n : Nat) (df : List Nat) (x t : Nat) (r : List ResultVar) : xres P ⟨ρ.get, S, n, df⟩ (.cell x t :: r) = (cellV (TI P t) (ρ.get x) S).bind (fun v => (xres P ⟨ρ.get, S, n, df⟩ r).map (fun l => v :: l)) := xres_cell ..
theorem Env.get_cons (k : Nat) (v : AV) (r : Env) (t : Nat) : Env.get ((k, v) :: r) t = if t = k then v else Env.get r t := (rfl)
theorem Env.get_nil (t : Nat) : Env.get [] t = .top := (rfl)
theorem Env.put_cons (k : Nat) (v : AV) (r : Env) (t : Nat) (x : AV) : Env.put ((k, v) :: r) t x = if t = k then (k, x) :: r else (k, v) :: Env.put r t x := (rfl)
theorem Env.put_nil (t : Nat) (x : AV) : Env.put [] t x = [(t, x)] := (rfl)
theorem subEnv_nil (ρ : Nat → AV) : subEnv [] ρ = True := (rfl)
theorem subEnv_cons (k : Nat) (v : AV) (r : Env) (ρ : Nat → AV) : subEnv ((k, v) :: r) ρ = (ρ k = v ∧ subEnv r ρ) := (rfl)
theorem envOf_nil (i : Nat) : envOf i [] = [] := (rfl)
theorem envOf_cons (i : Nat) (x : AV) (r : List AV) : envOf i (x :: r) = (i, x) :: envOf (i + 1) r := (rfl)
theorem Store.set_app (S : Store) (k : Key) (x : Blk) (q : Key) : S.set k x q = if q = k then some x else S q := (rfl)
theorem Store.set_set (S : Store) (k : Key) (x y : Blk) : (S.set k x).set k y = S.set k y := by funext q; unfold Store.set; split <;> rfl
theorem ofV_bool (b : Bool) : ofV (.bool b) = .p (.bool b) := (rfl)
theorem ofV_i64 (n : Int) : ofV (.int .i64 n) = .p (.int .i64 n) := (rfl)
theorem ofV_u64 (n : Nat) : ofV (.int .u64 (no_index (OfNat.ofNat n))) = .p (.int .u64 ((OfNat.ofNat n : Nat) : Int)) := (rfl)
theorem ofV_nils : ofV (.slice none 0 0) = .nils := (rfl)
theorem ofV_nilf : ofV .nilFunc = .nilf := (rfl)
theorem intOnly_slice (e : TypeId) : intOnly (some (.slice e)) = false := (rfl)
theorem false_imp' (p : Prop) : (False → p) ↔ True := ⟨fun _ => trivial, fun _ h => h.elim⟩
theorem imp_true_iff' (p : Prop) : (p → True) ↔ True := ⟨fun _ => trivial, fun _ _ => trivial⟩

section
variable {P : Program} {S : Store}
@[congr] theorem xload_congr {ag : Bool} {sz : Nat} {x x' : AV} {K : AV → Prop} (h : x = x') : xload S ag sz x K = xload S ag sz x' K := by rw [h]
@[congr] theorem xstore_congr {sz : Nat} {x x' y y' : AV} {K : Store → Prop} (h : x = x') (h' : y = y') : xstore S sz x y K = xstore S sz x' y' K := by rw [h, h']
@[congr] theorem xbin_congr {d d' : Option TypeDesc} {op : BinOp} {x x' y y' : AV} {K : AV → Prop} (h0 : d = d') (h : x = x') (h' : y = y') : xbin d op x y K = xbin d' op x' y' K := by rw [h0, h, h']
@[congr] theorem xbin2_congr {t : TypeId} {op : BinOp} {x x' y y' : AV} {K : AV → Prop} (h : x = x') (h' : y = y') : xbin2 P t op x y K = xbin2 P t op x' y' K := by rw [h, h']
@[congr] theorem xeqA_congr {t : TypeId} {op : BinOp} {x x' y y' : List AV} {K : AV → Prop} (h : x = x') (h' : y = y') : xeqA P t op x y K = xeqA P t op x' y' K := by rw [h, h']
@[congr] theorem intBin_congr {op : BinOp} {k : IntKind} {a a' b b' : Int} {K : PV → Prop} (h : a = a') (h' : b = b') : intBin op k a b K = intBin op k a' b' K := by rw [h, h']
@[congr] theorem intShift_congr {op : BinOp} {k : IntKind} {a a' b b' : Int} {K : PV → Prop} (h : a = a') (h' : b = b') : intShift op k a b K = intShift op k a' b' K := by rw [h, h']
@[congr] theorem xunop_congr {op : UnOp} {x x' : AV} {K : AV → Prop} (h : x = x') : xunop op x K = xunop op x' K := by rw [h]
@[congr] theorem xconv_congr {d d' e e' : Option TypeDesc} {x x' : AV} {K : AV → Prop} (h0 : d = d') (h1 : e = e') (h : x = x') : xconv d e x K = xconv d' e' x' K := by rw [h0, h1, h]
@[congr] theorem xfaddr_congr {off sz : Nat} {x x' : AV} {K : AV → Prop} (h : x = x') : xfaddr off sz x K = xfaddr off sz x' K := by rw [h]
@[congr] theorem xfield_congr {off sz : Nat} {g : Bool} {x x' : AV} {K : AV → Prop} (h : x = x') : xfield off sz g x K = xfield off sz g x' K := by rw [h]
@[congr] theorem xindex_congr {arr : Option Nat} {sz : Nat} {x x' i i' : AV} {K : AV → Prop} (h : x = x') (h' : i = i') : xindex arr sz x i K = xindex arr sz x' i' K := by rw [h, h']
@[congr] theorem xindexV_congr {t : TypeId} {x x' i i' : AV} {K : AV → Prop} (h : x = x') (h' : i = i') : xindexV P t x i K = xindexV P t x' i' K := by rw [h, h']
@[congr] theorem xextract_congr {x x' : AV} {i : Nat} {K : AV → Prop} (h : x = x') : xextract x i K = xextract x' i K := by rw [h]
@[congr] theorem xbuild_congr {t : TypeId} {e : Operand → AV} {ps : Array (Nat × Operand)} {K : AV → Prop} : xbuild P t e ps K = xbuild P t e ps K := rfl
@[congr] theorem xbuildSlice_congr {t : TypeId} {n : Nat} {e : Operand → AV} {ps : Array (Nat × Operand)} {K : AV → Prop} : xbuildSlice P t n e ps K = xbuildSlice P t n e ps K := rfl
@[congr] theorem xslice_congr {d d' : Option TypeDesc} {sz : Nat} {x x' : AV} {lo lo' hi hi' mx mx' : Option AV} {K : AV → Prop} (h0 : d = d') (h : x = x') (h1 : lo = lo') (h2 : hi = hi') (h3 : mx = mx') : xslice d sz x lo hi mx K = xslice d' sz x' lo' hi' mx' K := by rw [h0, h, h1, h2, h3]
@[congr] theorem xlen_congr {d d' : Option TypeDesc} {x x' : AV} {K : AV → Prop} (h0 : d = d') (h : x = x') : xlen d x K = xlen d' x' K := by rw [h0, h]
@[congr] theorem xminmax_congr {mx : Bool} {x x' y y' : AV} {K : AV → Prop} (h : x = x') (h' : y = y') : xminmax mx x y K = xminmax mx x' y' K := by rw [h, h']
@[congr] theorem xappend_congr {t : TypeId} {x x' y y' : AV} {K : AV → Store → Prop} (h : x = x') (h' : y = y') : xappend P t S x y K = xappend P t S x' y' K := by rw [h, h']
@[congr] theorem FunR_congr {f f' : AV} {args args' : List AV} {R : AV → Store → Prop} (h : f = f') (h' : args = args') : FunR P f args S R = FunR P f' args' S R := by rw [h, h']
@[congr] theorem CallR_congr {f : FuncId} {args args' : List AV} {R : AV → Store → Prop} (h' : args = args') : CallR P f args S R = CallR P f args' S R := by rw [h']
@[congr] theorem YieldR_congr {l : Nat} {args args' : List AV} {R : AV → Store → Prop} (h' : args = args') : YieldR P l args S R = YieldR P l args' S R := by rw [h']
@[congr] theorem xisnil_congr {d d' : Option TypeDesc} {op : BinOp} {x x' : AV} {K : AV → Prop} (h0 : d = d') (h : x = x') : xisnil d op x K = xisnil d' op x' K := by rw [h0, h]
@[congr] theorem nilK_congr {op : BinOp} {K : AV → Prop} {b b' : Bool} (h : b = b') : nilK op K b = nilK op K b' := by rw [h]
end

attribute [go_sem ↓] boolK_true boolK_false tiK_some fiK_some xiK_some xiK2_some xiK3_some xiKe_some blkK_some optK_some gdK_true gdK_false gdK_tuple dK_none dK_some xc_skip xc_label xc_exit xc_ret xc_seq xc_cond xc_block xc_region xc_draw xc_loop xc_range thenQ_normal thenQ_exit thenQ_ret blockQ_normal blockQ_same blockQ_ne blockQ_ret xE_move xE_assign xE_pick xE_alloc xE_box xE_build xE_buildSlice xE_load xE_store xE_nilCheck xE_unOp xE_convert xE_makeFunc xE_slice xE_fieldAddr xE_indexAddr xE_index xE_extract xE_value xE_len xE_cap xE_append xE_max xE_tmp xE_int xE_nil xops_nil xops_plain xops_guard ev_mk ev_const ev_func xO_move xO_assign xO_pick xO_alloc xO_box xO_build xO_buildSlice xO_load xO_store xO_nilCheck xO_binOp xO_unOp xO_convert xO_makeFunc xO_slice xO_fieldAddr xO_indexAddr xO_index xO_extract xO_len xO_append xO_min xload_sp xload_dp xstore_sp xfaddr_sp xfaddr_dp xextract_tuple xunop_not xconv_int xbin2_agg xbin2_p xbin_int xeqA_eql eqNums_nil eqNums_cons nilK_eql nilK_neq intBin_add intBin_sub intBin_mul intBin_quo intBin_rem intBin_eql intBin_neq intBin_lss intBin_leq intBin_gtr intBin_geq intShift_shl intShift_shr slsK1 slsK2 slsK3 xlen_p xlen_ts xlen_nils xlen_ms xminmax_int xindex_p xindex_ts xindex_sp xindex_ms xindexV_agg xisnil_p xslice_p xslice_ts xslice_ms xslice_nils kSm1_app kSm2_app kSn_app kSn1_app kSl1_app kSl2_app kSl3_none kSl3_some bnd_none bnd_some intA_int cellsOf_agg cellsOf_p cellsOf_cs cellsOf_sp cellsOf_ts cellsOf_ms cellsOf_fn scalar_p scalar_nils scalar_cs scalar_sp scalar_ts scalar_ms scalar_fn notNil_sp all_nil all_cons splice_eq xfill_nil fillK_some xfill_cons placeOf_st placeOf_ar xbuild_eq zc_zero zc_succ ck_zero ck_succ xbuildSlice_eq pvA_p pvA_cs pvA_ts pvs_nil pvs_cons xappend_eq appK_nils appK_cs appK_ts retQ_ret retQ_normal resQ_eq xres_nil xres_tmpm xres_cellm cellV_sp cellV2_some outV_nil outV_one outV_two reif1_p reif1_nils reif1_ts reif2_p reif2_nils reif2_cs reif2_ts reif2_agg reif_p reif_nils reif_cs reif_ts reif_sp reif_ms reif_fn reif_agg reif_tuple FunR_fn srcK_p srcK_cs xcap_nils kAM4_app kAM3_app kAM2_app kAM1_app kAZ2_app kAZ1_app xappX_eq kAX_slice kAX_int xapp1_nils xapp1_cs xapp1_ts xapp1_ms xapp0_nils FunA_fn kCond_true kCond_false kReg_mk kOp_some kOp_none kGs_mk xGo_app kGd_ttm kGd_ffm kGd_tfs kGd_fts kGd_nos kS_app kStore_app kPick_true kPick_false kAlloc_app kLoad_app kSto_app kSli_app kFA_app kIx_app kCall_app kLd_app kSt_app kP_app kEq2_app kEq1_app kIx2_app kIx1_app kB3_app kB2_app kB1_app evP_app kBS4_app kBS3_app kBS2_app kBS1_app kA3_app kA2_app kA1_app kRes_app
attribute [go_sem] boolK_true boolK_false tiK_some fiK_some xiK_some xiK2_some xiK3_some xiKe_some blkK_some optK_some gdK_true gdK_false gdK_tuple dK_none dK_some xc_skip xc_label xc_exit xc_ret xc_seq xc_cond xc_block xc_region xc_draw xc_loop xc_range thenQ_normal thenQ_exit thenQ_ret blockQ_normal blockQ_same blockQ_ne blockQ_ret xE_move xE_assign xE_pick xE_alloc xE_box xE_build xE_buildSlice xE_load xE_store xE_nilCheck xE_unOp xE_convert xE_makeFunc xE_slice xE_fieldAddr xE_indexAddr xE_index xE_extract xE_value xE_len xE_cap xE_append xE_max xE_tmp xE_int xE_nil xops_nil xops_plain xops_guard ev_mk ev_const ev_func xO_move xO_assign xO_pick xO_alloc xO_box xO_build xO_buildSlice xO_load xO_store xO_nilCheck xO_binOp xO_unOp xO_convert xO_makeFunc xO_slice xO_fieldAddr xO_indexAddr xO_index xO_extract xO_len xO_append xO_min xload_sp xload_dp xstore_sp xfaddr_sp xfaddr_dp xextract_tuple xunop_not xconv_int xbin2_agg xbin2_p xbin_int xeqA_eql eqNums_nil eqNums_cons nilK_eql nilK_neq intBin_add intBin_sub intBin_mul intBin_quo intBin_rem intBin_eql intBin_neq intBin_lss intBin_leq intBin_gtr intBin_geq intShift_shl intShift_shr slsK1 slsK2 slsK3 xlen_p xlen_ts xlen_nils xlen_ms xminmax_int xindex_p xindex_ts xindex_sp xindex_ms xindexV_agg xisnil_p xslice_p xslice_ts xslice_ms xslice_nils kSm1_app kSm2_app kSn_app kSn1_app kSl1_app kSl2_app kSl3_none kSl3_some bnd_none bnd_some intA_int cellsOf_agg cellsOf_p cellsOf_cs cellsOf_sp cellsOf_ts cellsOf_ms cellsOf_fn scalar_p scalar_nils scalar_cs scalar_sp scalar_ts scalar_ms scalar_fn notNil_sp all_nil all_cons splice_eq xfill_nil fillK_some xfill_cons placeOf_st placeOf_ar xbuild_eq zc_zero zc_succ ck_zero ck_succ xbuildSlice_eq pvA_p pvA_cs pvA_ts pvs_nil pvs_cons xappend_eq appK_nils appK_cs appK_ts retQ_ret retQ_normal resQ_eq xres_nil xres_tmpm xres_cellm cellV_sp cellV2_some outV_nil outV_one outV_two reif1_p reif1_nils reif1_ts reif2_p reif2_nils reif2_cs reif2_ts reif2_agg reif_p reif_nils reif_cs reif_ts reif_sp reif_ms reif_fn reif_agg reif_tuple FunR_fn srcK_p srcK_cs xcap_nils kAM4_app kAM3_app kAM2_app kAM1_app kAZ2_app kAZ1_app xappX_eq kAX_slice kAX_int xapp1_nils xapp1_cs xapp1_ts xapp1_ms xapp0_nils FunA_fn kCond_true kCond_false kReg_mk kOp_some kOp_none kGs_mk xGo_app kGd_ttm kGd_ffm kGd_tfs kGd_fts kGd_nos kS_app kStore_app kPick_true kPick_false kAlloc_app kLoad_app kSto_app kSli_app kFA_app kIx_app kCall_app kLd_app kSt_app kP_app kEq2_app kEq1_app kIx2_app kIx1_app kB3_app kB2_app kB1_app evP_app kBS4_app kBS3_app kBS2_app kBS1_app kA3_app kA2_app kA1_app kRes_app bitB_eq Env.keep_nil Env.keep_cons Env.get_cons Env.get_nil Env.put_cons Env.put_nil subEnv_nil subEnv_cons envOf_nil envOf_cons Store.set_app Store.set_set upd_get keepDf_mk ofV_bool ofV_i64 ofV_u64 ofV_nils ofV_nilf intOnly_slice false_imp' imp_true_iff' List.length_map Int.natCast_nonneg Int.toNat_natCast List.getElem?_toArray List.getElem?_cons_zero List.getElem?_cons_succ List.length_cons List.length_nil List.getD_cons_zero List.getD_cons_succ List.map_cons List.map_nil List.cons_append List.nil_append List.append_nil List.drop_succ_cons List.drop_zero List.take_succ_cons List.take_zero List.mem_cons List.not_mem_nil Option.map_some Option.map_none Option.bind_some Option.bind_none Option.isSome_some true_and and_true false_and and_false true_or or_true false_or or_false not_true_eq_false not_false_eq_true imp_self forall_const reduceIte reduceCtorEq Nat.reduceEqDiff Nat.reduceLT Nat.reduceAdd Nat.reduceMul Nat.reduceSub Nat.reduceLeDiff Nat.reduceBEq Nat.reduceDiv Nat.reduceMod Nat.reducePow Nat.reduceShiftRight Bool.and_true Bool.true_and Bool.false_eq_true Bool.not_true Bool.not_false Bool.true_eq_false beq_self_eq_true bne_self_eq_false Key.r.injEq Key.v.injEq Nat.zero_add Nat.add_zero Nat.zero_le Nat.le_refl ne_eq Int.reduceToNat eq_self
end Go.Sk
