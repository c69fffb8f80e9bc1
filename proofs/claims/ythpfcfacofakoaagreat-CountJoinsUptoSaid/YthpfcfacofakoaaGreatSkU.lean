/- Numbers without sign, as a walk sees them: everything in Nat. -/
import Derived.Test.YthpfcfacofakoaaGreatSkO
set_option linter.unusedSimpArgs false
set_option linter.unusedVariables false
set_option linter.unusedSectionVars false
namespace Go.Sk
open Go

/- Numbers that are known by their equations alone: nobody reckons with them by unfolding. -/
theorem ex_eq (n : Nat) : ∃ m, m = n := ⟨n, rfl⟩
noncomputable def seal64 (n : Nat) : Nat := Classical.choose (ex_eq n)
theorem seal64_eq (n : Nat) : seal64 n = n := Classical.choose_spec (ex_eq n)
noncomputable def m64 (n : Nat) : Nat := seal64 (n % 18446744073709551616)
noncomputable def sub64 (a b : Nat) : Nat := seal64 ((a + (18446744073709551616 - b % 18446744073709551616)) % 18446744073709551616)
noncomputable def and64 (a b : Nat) : Nat := seal64 ((a % 18446744073709551616) &&& (b % 18446744073709551616))
noncomputable def or64 (a b : Nat) : Nat := seal64 ((a % 18446744073709551616) ||| (b % 18446744073709551616))
noncomputable def xor64 (a b : Nat) : Nat := seal64 ((a % 18446744073709551616) ^^^ (b % 18446744073709551616))
theorem m64_eq (n : Nat) : m64 n = n % 18446744073709551616 := seal64_eq _
theorem sub64_eq (a b : Nat) : sub64 a b = (a + (18446744073709551616 - b % 18446744073709551616)) % 18446744073709551616 := seal64_eq _
theorem m64_id {n : Nat} (h : n < 18446744073709551616) : m64 n = n := by rw [m64_eq]; exact Nat.mod_eq_of_lt h
theorem sub64_le {a b : Nat} (ha : a < 18446744073709551616) (h : b ≤ a) : sub64 a b = a - b := by
  rw [sub64_eq]
  rw [Nat.mod_eq_of_lt (show b < _ by omega), show a + (18446744073709551616 - b) = (a - b) + 18446744073709551616 from by omega, Nat.add_mod_right]
  exact Nat.mod_eq_of_lt (by omega)

theorem wrapU (x : Int) : IntKind.u64.wrap x = x % 18446744073709551616 := (rfl)
theorem bits_u64 : IntKind.u64.bits = 64 := (rfl)
theorem wrapI {x : Int} (h1 : -9223372036854775808 ≤ x) (h2 : x < 9223372036854775808) : IntKind.i64.wrap x = x := by
  unfold IntKind.wrap; simp [IntKind.bits, IntKind.signed]; omega

theorem wu_nat (n : Nat) : IntKind.u64.wrap (n : Int) = (m64 n : Nat) := by rw [wrapU]; rw [m64_eq]; omega
theorem wu_add (a b : Nat) : IntKind.u64.wrap ((a : Int) + (b : Int)) = (m64 (a + b) : Nat) := by rw [wrapU]; rw [m64_eq]; omega
theorem wu_sub (a b : Nat) : IntKind.u64.wrap ((a : Int) - (b : Int)) = (sub64 a b : Nat) := by rw [wrapU]; rw [sub64_eq]; omega
theorem wu_mul (a b : Nat) : IntKind.u64.wrap ((a : Int) * (b : Int)) = (m64 (a * b) : Nat) := by rw [wrapU]; rw [m64_eq]; simp
theorem wu_shl (a k : Nat) : IntKind.u64.wrap ((a : Int) * 2 ^ k) = (m64 (a * 2 ^ k) : Nat) := by rw [wrapU]; rw [m64_eq]; simp
theorem wu_quo (a b : Nat) : IntKind.u64.wrap ((a : Int).tdiv (b : Int)) = (m64 (a / b) : Nat) := by rw [← Int.ofNat_tdiv]; exact wu_nat _
theorem u_rem (a b : Nat) : (a : Int).tmod (b : Int) = ((a % b : Nat) : Int) := (Int.ofNat_tmod a b).symm
theorem u_shr (a k : Nat) : (a : Int).fdiv (2 ^ k) = ((a / 2 ^ k : Nat) : Int) := by
  rw [Int.fdiv_eq_ediv_of_nonneg _ (Int.le_of_lt (Int.pow_pos (by decide)))]
  simp
theorem b_eq (a b : Nat) : ((a : Int) == (b : Int)) = (a == b) := by
  by_cases h : a = b
  · subst h; simp
  · have h' : ¬ (a : Int) = (b : Int) := by omega
    rw [beq_eq_false_iff_ne.2 h, beq_eq_false_iff_ne.2 h']
theorem b_ne (a b : Nat) : ((a : Int) != (b : Int)) = (a != b) := by unfold bne; rw [b_eq]
theorem b_eq0 (a : Nat) : ((a : Int) == 0) = (a == 0) := b_eq a 0
theorem d_lt0 (a : Nat) : decide ((a : Int) < 0) = false := by simp
theorem p_0lt (a : Nat) : ((0 : Int) < (a : Int)) = (0 < a) := by simp
theorem p_lt (a b : Nat) : ((a : Int) < (b : Int)) = (a < b) := by simp
theorem p_le (a b : Nat) : ((a : Int) ≤ (b : Int)) = (a ≤ b) := by simp
theorem succ_beq (n : Nat) : (n + 1 == 0) = false := by simp
theorem pos_succ (n : Nat) : (0 < n + 1) = True := by simp
theorem lt_succ (n : Nat) : (n < n + 1) = True := by simp
theorem ne0 (b : Nat) : ((b : Int) = 0) = (b = 0) := by simp
/-- A call that hands a value back and changes nothing that is owned. -/
def Pure (P : Program) (f : FuncId) (args : List AV) (r : AV) : Prop := ∀ S, CallR P f args S (fun x S' => x = r ∧ S' = S)
theorem Pure.use {P : Program} {f : FuncId} {args : List AV} {r : AV} {S : Store} {R : AV → Store → Prop} (h : Pure P f args r) (hr : R r S) : CallR P f args S R :=
  (h S).mono (by rintro _ _ ⟨rfl, rfl⟩; exact hr)

theorem Store.join_app (T E : Store) (q : Key) : Store.join T E q = match E q with | some x => some x | none => T q := (rfl)

/-! Regions whose order is open, one operation behind the other. -/
def xD (P : Program) (op : Op) (cv : AV) (e : Operand → AV) (S : Store) (D : AV → Store → Prop) : Prop := xopD P { (default : Oper) with op := op } cv e S D
section
variable {P : Program} {cv : AV} {e : Operand → AV} {S : Store} {D : AV → Store → Prop}
theorem xD_move (x : Operand) : xD P (.move x) cv e S D = xO P (.move x) e S (fun _ => True) D := (rfl)
theorem xD_assign (x : Operand) : xD P (.assign x) cv e S D = xO P (.assign x) e S (fun _ => True) D := (rfl)
theorem xD_pick (c x y : Operand) : xD P (.pick c x y) cv e S D = xO P (.pick c x y) e S (fun _ => True) D := (rfl)
theorem xD_alloc (t : TypeId) : xD P (.alloc t) cv e S D = xO P (.alloc t) e S (fun _ => True) D := (rfl)
theorem xD_build (t : TypeId) (ps : Array (Nat × Operand)) : xD P (.build t ps) cv e S D = xO P (.build t ps) e S (fun _ => True) D := (rfl)
theorem xD_buildSlice (t : TypeId) (n : Nat) (ps : Array (Nat × Operand)) : xD P (.buildSlice t n ps) cv e S D = xO P (.buildSlice t n ps) e S (fun _ => True) D := (rfl)
theorem xD_load (t : TypeId) (x : Operand) : xD P (.load t x) cv e S D = xO P (.load t x) e S (fun _ => True) D := (rfl)
theorem xD_store (t : TypeId) (x y : Operand) : xD P (.store t x y) cv e S D = xO P (.store t x y) e S (fun _ => True) D := (rfl)
theorem xD_nilCheck (x : Operand) : xD P (.nilCheck x) cv e S D = xO P (.nilCheck x) e S (fun _ => True) D := (rfl)
theorem xD_unOp (op : UnOp) (t : TypeId) (x : Operand) : xD P (.unOp op t x) cv e S D = xO P (.unOp op t x) e S (fun _ => True) D := (rfl)
theorem xD_convert (t u : TypeId) (x : Operand) : xD P (.convert t u x) cv e S D = xO P (.convert t u x) e S (fun _ => True) D := (rfl)
theorem xD_slice (t : TypeId) (x : Operand) (lo hi mx : Option Operand) : xD P (.slice t x lo hi mx) cv e S D = xO P (.slice t x lo hi mx) e S (fun _ => True) D := (rfl)
theorem xD_fieldAddr (t : TypeId) (x : Operand) (f : Nat) : xD P (.fieldAddr t x f) cv e S D = xO P (.fieldAddr t x f) e S (fun _ => True) D := (rfl)
theorem xD_indexAddr (t : TypeId) (x i : Operand) : xD P (.indexAddr t x i) cv e S D = xO P (.indexAddr t x i) e S (fun _ => True) D := (rfl)
theorem xD_extract (x : Operand) (i : Nat) : xD P (.extract x i) cv e S D = xO P (.extract x i) e S (fun _ => True) D := (rfl)
theorem xD_binOp (op : BinOp) (t : TypeId) (x y : Operand) (u : TypeId) : xD P (.binOp op t x y u) cv e S D = xO P (.binOp op t x y u) e S (fun _ => True) D := (rfl)
theorem xD_len (l : Array Operand) (a : Array TypeId) : xD P (.call ⟨.builtin .len, l, a⟩) cv e S D = xO P (.call ⟨.builtin .len, l, a⟩) e S (fun _ => True) D := (rfl)
theorem xD_append (l : Array Operand) (a : Array TypeId) : xD P (.call ⟨.builtin .append, l, a⟩) cv e S D = xO P (.call ⟨.builtin .append, l, a⟩) e S (fun _ => True) D := (rfl)
theorem xD_min (l : Array Operand) (a : Array TypeId) : xD P (.call ⟨.builtin .min, l, a⟩) cv e S D = xO P (.call ⟨.builtin .min, l, a⟩) e S (fun _ => True) D := (rfl)
end
def pureR (cv : AV) (S1 : Store) : AV → Store → Prop := fun x S' => x = cv ∧ S' = S1
theorem xD_value {P : Program} {f : Operand} {l : List Operand} {a : Array TypeId} {cv : AV} {e : Operand → AV} {S : Store} {D : AV → Store → Prop} : xD P (.call ⟨.value f, List.toArray l, a⟩) cv e S D =
    ((∀ S1, KeepR S S1 → FunR P (e f) ((l.map e).map reif) S1 (pureR cv S1)) ∧ D cv S) := (rfl)
def xdr (P : Program) (ops : Array Oper) (cv : Nat → AV) (K : St → Prop) : List Oper → Nat → St → Prop
  | [], _, s => K s
  | o :: r, i, s => TV P ops s.n (cv i) o s.ρ s.S (fun v S' => xdr P ops cv K r (i + 1) ((s.withS S').put o.dst v))
theorem xdr_eq {P : Program} {ops : Array Oper} {cv : Nat → AV} {K : St → Prop} : ∀ (l : List Oper) (i : Nat) (s : St), xdr P ops cv K l i s = xdraw P ops cv K (l.zipIdx i) s := by
  intro l
  induction l with
  | nil => intro i s; rfl
  | cons o r ih => intro i s; simp only [xdr, List.zipIdx_cons, xdraw, ih]
theorem AWP.draw2 {P : Program} {l : List Oper} {ro : Option Nat} {id : Nat} {Q : Ex → St → Prop} {s : St} (L : Nat → Bool) (hm : P.follows .mixedOrders = true) (hB : lexOk (List.toArray l) (List.toArray l).size 0 (Array.replicate (List.toArray l).size false) = true) (cv : Nat → AV)
    (h : xdr P (List.toArray l) cv (kReg Q L) l 0 s) : AWP P ro (.region id (List.toArray l) true) Q s := by
  rw [xdr_eq] at h; exact AWP.xdraw L hm hB cv h
section
variable {P : Program} {ops : Array Oper} {cv : Nat → AV} {K : St → Prop} {s : St} {d : Option Tmp} {op : Op} {ty : TypeId} {pos : String} {af : Array Edge} {r : List Oper} {i : Nat}
def kDr (P : Program) (ops : Array Oper) (cv : Nat → AV) (K : St → Prop) (r : List Oper) (i : Nat) (s : St) (d : Option Tmp) : AV → Store → Prop := fun v S' => xdr P ops cv K r (i + 1) ((s.withS S').put d v)
def xDo (P : Program) (ops : Array Oper) (cv : Nat → AV) (K : St → Prop) (r : List Oper) (i : Nat) (d : Option Tmp) (op : Op) (s : St) : Prop := xD P op (cv i) (ev s) s.S (kDr P ops cv K r i s d)
theorem xDo_app {ρ : Env} {S : Store} {n : Nat} {df : List Nat} : xDo P ops cv K r i d op ⟨ρ.get, S, n, df⟩ = xD P op (cv i) (ev ⟨ρ.get, S, n, df⟩) S (kDr P ops cv K r i ⟨ρ.get, S, n, df⟩ d) := (rfl)
@[congr] theorem xDo_congr {s' : St} (h : s = s') : xDo P ops cv K r i d op s = xDo P ops cv K r i d op s' := by rw [h]
def kDg (P : Program) (ops : Array Oper) (cv : Nat → AV) (K : St → Prop) (r : List Oper) (i : Nat) (s : St) (d : Option Tmp) (op : Op) (w : Bool) : Option Bool → Prop
  | some b => if b = w then xDo P ops cv K r i d op s else xdr P ops cv K r (i + 1) (s.put d (.tuple []))
  | none => xdr P ops cv K r (i + 1) (s.put d (.tuple []))
theorem kDg_tt : kDg P ops cv K r i s d op true (some true) = xDo P ops cv K r i d op s := (rfl)
theorem kDg_ff : kDg P ops cv K r i s d op false (some false) = xDo P ops cv K r i d op s := (rfl)
theorem kDg_tf : kDg P ops cv K r i s d op true (some false) = xdr P ops cv K r (i + 1) (s.put d (.tuple [])) := (rfl)
theorem kDg_ft : kDg P ops cv K r i s d op false (some true) = xdr P ops cv K r (i + 1) (s.put d (.tuple [])) := (rfl)
def kDs (P : Program) (ops : Array Oper) (cv : Nat → AV) (K : St → Prop) (r : List Oper) (i : Nat) (s : St) (d : Option Tmp) (op : Op) (w : Bool) : Nat → Prop := fun g => g < s.n ∧ gdK (s.ρ g) (kDg P ops cv K r i s d op w)
section
variable {ρ : Env} {S S' : Store} {n g t : Nat} {df : List Nat} {x : AV} {w : Bool}
theorem kDr_some : kDr P ops cv K r i ⟨ρ.get, S, n, df⟩ (some t) x S' = xdr P ops cv K r (i + 1) ⟨(ρ.put t x).get, S', n, df⟩ := by
  show xdr P ops cv K r (i + 1) ⟨upd ρ.get t x, S', n, df⟩ = _; rw [upd_get]
theorem kDr_none : kDr P ops cv K r i ⟨ρ.get, S, n, df⟩ none x S' = xdr P ops cv K r (i + 1) ⟨ρ.get, S', n, df⟩ := (rfl)
theorem kDs_mk : kDs P ops cv K r i ⟨ρ.get, S, n, df⟩ d op w g = (g < n ∧ gdK (ρ.get g) (kDg P ops cv K r i ⟨ρ.get, S, n, df⟩ d op w)) := (rfl)
theorem kDg_tfs : kDg P ops cv K r i ⟨ρ.get, S, n, df⟩ (some t) op true (some false) = xdr P ops cv K r (i + 1) ⟨(ρ.put t (.tuple [])).get, S, n, df⟩ := by
  rw [kDg_tf]; show xdr P ops cv K r (i + 1) ⟨upd ρ.get t _, S, n, df⟩ = _; rw [upd_get]
theorem kDg_fts : kDg P ops cv K r i ⟨ρ.get, S, n, df⟩ (some t) op false (some true) = xdr P ops cv K r (i + 1) ⟨(ρ.put t (.tuple [])).get, S, n, df⟩ := by
  rw [kDg_ft]; show xdr P ops cv K r (i + 1) ⟨upd ρ.get t _, S, n, df⟩ = _; rw [upd_get]
end
theorem xdr_nil : xdr P ops cv K [] i s = K s := (rfl)
theorem xdr_plain {ρ : Env} {S : Store} {n : Nat} {df : List Nat} : xdr P ops cv K (⟨d, op, ty, pos, af, none⟩ :: r) i ⟨ρ.get, S, n, df⟩ = dK d n (xDo P ops cv K r i d op ⟨ρ.get, S, n, df⟩) := by
  unfold xDo; rw [ev_eq]; rfl
theorem xdr_guard {j : Nat} {w : Bool} {ρ : Env} {S : Store} {n : Nat} {df : List Nat} : xdr P ops cv K (⟨d, op, ty, pos, af, some (j, w)⟩ :: r) i ⟨ρ.get, S, n, df⟩ =
    dK d n (optK ((ops[j]?).bind (·.dst)) (kDs P ops cv K r i ⟨ρ.get, S, n, df⟩ d op w)) := by
  simp only [xdr, TV, dK, optK, kDs, gdK]
  congr 1
  cases (ops[j]?).bind (·.dst) with
  | none => rfl
  | some g =>
    dsimp only
    congr 1
    try (split <;> first | rfl | (unfold kDg xDo; rw [ev_eq]; rfl))
@[congr] theorem xdr_congr {l : List Oper} {s' : St} (h : s = s') : xdr P ops cv K l i s = xdr P ops cv K l i s' := by rw [h]
@[congr] theorem xD_congr {c : AV} {e : Operand → AV} {S : Store} {D : AV → Store → Prop} : xD P op c e S D = xD P op c e S D := rfl
end
theorem setPs_cons (p : Nat) (ps : List Nat) (x : AV) (xs : List AV) (ρ : Nat → AV) : setPs (p :: ps) (x :: xs) ρ = setPs ps xs (upd ρ p x) := (rfl)
theorem setPs_nil (xs : List AV) (ρ : Nat → AV) : setPs [] xs ρ = ρ := (rfl)
@[congr] theorem roundQ_congr {T : Store} {J : Store → Prop} {Jx : Ex → Store → Prop} {e : Ex} {s : St} : roundQ T J Jx e s = roundQ T J Jx e s := rfl

theorem ib_add_u (a b : Nat) (K : PV → Prop) : intBin .add .u64 (a : Int) (b : Int) K = K (.int .u64 (m64 (a + b) : Nat)) := by rw [intBin_add, wu_add]
theorem ib_sub_u (a b : Nat) (K : PV → Prop) : intBin .sub .u64 (a : Int) (b : Int) K = K (.int .u64 (sub64 a b : Nat)) := by rw [intBin_sub, wu_sub]
theorem ib_mul_u (a b : Nat) (K : PV → Prop) : intBin .mul .u64 (a : Int) (b : Int) K = K (.int .u64 (m64 (a * b) : Nat)) := by rw [intBin_mul, wu_mul]
theorem ib_quo_u (a b : Nat) (K : PV → Prop) : intBin .quo .u64 (a : Int) (b : Int) K = (¬ b = 0 ∧ K (.int .u64 (m64 (a / b) : Nat))) := by rw [intBin_quo, wu_quo, ne0]
theorem ib_rem_u (a b : Nat) (K : PV → Prop) : intBin .rem .u64 (a : Int) (b : Int) K = (¬ b = 0 ∧ K (.int .u64 (a % b : Nat))) := by rw [intBin_rem, u_rem, ne0]
theorem is_shl_u (a b : Nat) (K : PV → Prop) : intShift .shl .u64 (a : Int) (b : Int) K = K (.int .u64 (m64 (a * 2 ^ min b 64) : Nat)) := by
  rw [intShift_shl, bits_u64, Int.toNat_natCast, wu_shl]; simp
theorem is_shr_u (a b : Nat) (K : PV → Prop) : intShift .shr .u64 (a : Int) (b : Int) K = K (.int .u64 (a / 2 ^ min b 64 : Nat)) := by
  rw [intShift_shr, bits_u64, Int.toNat_natCast, u_shr]; simp
theorem conv_uu (k : IntKind) (a : Nat) (K : AV → Prop) : xconv (some (.int k)) (some (.int .u64)) (.p (.int k (a : Int))) K = K (.p (.int .u64 (m64 a : Nat))) := by
  rw [xconv_int, wu_nat]
attribute [go_sem ↓ high] ib_add_u ib_sub_u ib_mul_u ib_quo_u ib_rem_u is_shl_u is_shr_u conv_uu
attribute [go_sem high] ib_add_u ib_sub_u ib_mul_u ib_quo_u ib_rem_u is_shl_u is_shr_u conv_uu
noncomputable def wi (x : Int) : Int := Classical.choose (⟨IntKind.i64.wrap x, rfl⟩ : ∃ y, y = IntKind.i64.wrap x)
theorem wi_eq (x : Int) : wi x = IntKind.i64.wrap x := Classical.choose_spec (⟨IntKind.i64.wrap x, rfl⟩ : ∃ y, y = IntKind.i64.wrap x)
theorem wi_wrap (x : Int) : IntKind.i64.wrap x = wi x := (wi_eq x).symm
theorem wi_id {x : Int} (h1 : -9223372036854775808 ≤ x) (h2 : x < 9223372036854775808) : wi x = x := by rw [wi_eq]; exact wrapI h1 h2
theorem wi_succ {i : Nat} (h : i < 4611686018427387904) : wi ((i : Int) + 1) = ((i + 1 : Nat) : Int) := by rw [wi_id (by omega) (by omega)]; rfl
attribute [go_sem] wi_wrap
attribute [go_sem] Nat.min_eq_left
attribute [go_sem ↓] xD_move xD_assign xD_pick xD_alloc xD_build xD_buildSlice xD_load xD_store xD_nilCheck xD_unOp xD_convert xD_slice xD_fieldAddr xD_indexAddr xD_extract xD_binOp xD_len xD_append xD_min xD_value xdr_nil xdr_plain xdr_guard kDr_some kDr_none xDo_app kDg_tt kDg_ff kDg_tfs kDg_fts kDs_mk setPs_cons setPs_nil Store.join_app
attribute [go_sem] xD_move xD_assign xD_pick xD_alloc xD_build xD_buildSlice xD_load xD_store xD_nilCheck xD_unOp xD_convert xD_slice xD_fieldAddr xD_indexAddr xD_extract xD_binOp xD_len xD_append xD_min xD_value xdr_nil xdr_plain xdr_guard kDr_some kDr_none xDo_app kDg_tt kDg_ff kDg_tfs kDg_fts kDs_mk setPs_cons setPs_nil Store.join_app wu_nat wu_add wu_sub wu_mul wu_shl wu_quo u_rem u_shr bits_u64 b_eq b_ne ne0 b_eq0 d_lt0 p_0lt p_lt p_le succ_beq pos_succ lt_succ Int.le_refl decide_true decide_false
end Go.Sk
