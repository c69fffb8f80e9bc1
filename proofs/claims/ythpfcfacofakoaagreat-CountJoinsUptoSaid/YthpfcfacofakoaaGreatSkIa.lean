/- More operations: structs compared, a slice compared with nil, an element of an array. -/
import Derived.Test.YthpfcfacofakoaaGreatSkI
import Derived.Laws.StructEq
set_option linter.unusedSimpArgs false
set_option linter.unusedVariables false
set_option linter.unusedSectionVars false
namespace Go.Sk
open Go

def isIntD : Option TypeDesc → Bool | some (.int _) => true | _ => false
/-- Structs of plain numbers that may be compared: how many. -/
def EQ (P : Program) (t : TypeId) : Option Nat :=
  match P.underlying t with
  | some (.struct fs) =>
    if fs.toList.zipIdx.all (fun fi => fi.1.offset == fi.2 && fi.1.name != "_" && isIntD (P.underlying fi.1.type)) && !P.stoodInHeld t && !P.eqGuardType P.depth t then some fs.size else none
  | _ => none

/-- Are numbers alike, one by one? -/
def eqNums : List AV → List AV → Option Bool
  | [], [] => some true
  | .p (.int k a) :: x, .p (.int k' b) :: y => if k = k' then match eqNums x y with | some r => some ((a == b) && r) | none => none else none
  | _, _ => none

def xeqA (P : Program) (t : TypeId) (op : BinOp) (x y : List AV) (K : AV → Prop) : Prop :=
  match EQ P t, eqNums x y with
  | some n, some r => n = x.length ∧ match op with | .eql => K (.p (.bool r)) | .neq => K (.p (.bool (!r))) | _ => False
  | _, _ => False

def xbin2 (P : Program) (t : TypeId) (op : BinOp) (x y : AV) (K : AV → Prop) : Prop :=
  match x, y with
  | .agg xs, .agg ys => xeqA P t op xs ys K
  | _, _ => xbin (P.underlying t) op x y K

def xindexV (P : Program) (t : TypeId) (x ix : AV) (K : AV → Prop) : Prop :=
  match XI P t, x, intA ix with
  | some (some n, sz, e), .agg cs, some i => match TI P e with
    | some (ag, sz', _, _) => sz' = sz ∧ 0 ≤ i ∧ i < n ∧ i.toNat * sz + sz ≤ cs.length ∧ (ag = false → sz = 1) ∧ K (if ag then .agg ((cs.drop (i.toNat * sz)).take sz) else cs.getD (i.toNat * sz) .top)
    | none => False
  | _, _, _ => False

def nilK (op : BinOp) (K : AV → Prop) (b : Bool) : Prop := match op with | .eql => K (.p (.bool b)) | .neq => K (.p (.bool (!b))) | _ => False

/-- A slice compared with nil: what is empty may be nil, or not. -/
def xisnil (d : Option TypeDesc) (op : BinOp) (x : AV) (K : AV → Prop) : Prop :=
  match d, x with
  | some (.slice _), .nils => nilK op K true
  | some (.slice _), x => match pureS x with
    | some els => (els = [] → nilK op K true) ∧ nilK op K false
    | none => False
  | _, _ => False

section
variable {P : Program} {o : Oper} {s : St} {D : Prot} {w : World} {a : Act} {K : St → Prop}

theorem eqFields_ok (d : Nat) (xs ys : Array Value) : ∀ (fs : List Field) (i : Nat) (x y : List AV) (r : Bool), eqNums x y = some r → fs.length = x.length →
    (∀ fi ∈ fs.zipIdx i, fi.1.offset = fi.2 ∧ fi.1.name ≠ "_" ∧ isIntD (P.underlying fi.1.type) = true) → i + x.length = xs.size → i + y.length = ys.size →
    (∀ j, j < x.length → RepA D w (xs.getD (i + j) undef) (x.getD j .top)) → (∀ j, j < y.length → RepA D w (ys.getD (i + j) undef) (y.getD j .top)) →
    (Op.eqFields (d + 1) xs ys fs).run P w = .ok r w := by
  intro fs
  induction fs with
  | nil =>
    intro i x y r he hl _ _ _ _ _
    have : x = [] := List.length_eq_zero_iff.1 hl.symm
    subst this
    cases y with
    | nil => simp only [eqNums, Option.some.injEq] at he; subst he; simp [Op.eqFields]
    | cons u v => simp [eqNums] at he
  | cons f fs ih =>
    intro i x y r he hl hf hx hy rx ry
    cases x with
    | nil => simp at hl
    | cons x0 x =>
    cases y with
    | nil => cases x0 <;> simp [eqNums] at he
    | cons y0 y =>
      unfold eqNums at he
      split at he
      · rename_i h1 h2; cases h1
      · rename_i k p xx k' q yy h1 h2
        cases h1; cases h2
        split at he
        · rename_i hk
          subst hk
          split at he
          · rename_i r' hr'
            simp only [Option.some.injEq] at he
            subst he
            obtain ⟨ho, hn, hi⟩ := hf (f, i) (by simp [List.zipIdx_cons])
            have ho : f.offset = i := ho
            have hn : f.name ≠ "_" := hn
            have hi : isIntD (P.underlying f.type) = true := hi
            have r1 := rx 0 (by simp)
            have r2 := ry 0 (by simp)
            simp only [Nat.add_zero, List.getD_cons_zero] at r1 r2
            simp only [List.length_cons] at hx hy hl
            have g1 : xs[i]? = some (xs.getD i undef) := by simp [Array.getD, show i < xs.size from by omega]
            have g2 : ys[i]? = some (ys.getD i undef) := by simp [Array.getD, show i < ys.size from by omega]
            generalize hv1 : xs.getD i undef = v1 at r1 g1
            generalize hv2 : ys.getD i undef = v2 at r2 g2
            have r1 : Rep D w v1 (.int k p) := by cases r1; assumption
            have r2 : Rep D w v2 (.int k q) := by cases r2; assumption
            cases r1; cases r2
            have hd : ∃ kk, P.underlying f.type = some (.int kk) := by
              unfold isIntD at hi
              split at hi
              · rename_i kk h; exact ⟨kk, h⟩
              · cases hi
            obtain ⟨kk, hkk⟩ := hd
            have hag : (isAgg f.type).run P w = .ok false w := by have := run_isAgg P w f.type hkk; simpa [isAggD] using this
            have hp1 : (part f.type xs f.offset).run P w = .ok (.int k p) w := by
              simp only [part, Sem.run_bind, hag, Result.andThen_ok, Bool.false_eq_true, if_false, ho, g1, Sem.run_pure]
            have hp2 : (part f.type ys f.offset).run P w = .ok (.int k q) w := by
              simp only [part, Sem.run_bind, hag, Result.andThen_ok, Bool.false_eq_true, if_false, ho, g2, Sem.run_pure]
            have he : (Op.equalIn (d + 1) f.type (.int k p) (.int k q)).run P w = .ok (p == q) w := by
              rw [Op.equalIn]
              simp only [Sem.run_bind, Sk.run_underlying, hkk, Result.andThen_ok, if_true, Sem.run_pure]
            have hrest := ih (i + 1) x y r' hr' (by omega) (fun fi hfi => hf fi (by simp [List.zipIdx_cons]; right; exact hfi)) (by omega) (by omega)
              (fun j hj => by have := rx (j + 1) (by simp; omega); simpa [Nat.add_assoc, Nat.add_comm 1] using this) (fun j hj => by have := ry (j + 1) (by simp; omega); simpa [Nat.add_assoc, Nat.add_comm 1] using this)
            simp only [Op.eqFields, if_pos hn, Sem.run_bind, hp1, hp2, he, Result.andThen_ok]
            by_cases hpq : (p == q) = true
            · rw [hpq]; simpa using hrest
            · have : (p == q) = false := by simpa using hpq
              rw [this]; simp
          · cases he
        · cases he
      · cases he

theorem run_prog (P : Program) (w : World) : (program).run P w = .ok P w := rfl
theorem eqg_eql (P : Program) (w : World) (t : TypeId) (vs us : Array Value) (hgd : P.eqGuardType P.depth t = false) (x y : Operand) : (eqGuard .eql t x y (.agg vs) (.agg us)).run P w = .ok () w := by
  unfold eqGuard
  dsimp only
  rw [if_neg (by simp)]
  rw [Sem.run_bind, run_prog, Result.andThen_ok, Sem.run_bind, run_prog, Result.andThen_ok, hgd]
  rw [if_pos (by simp)]
  exact Sem.run_pure _ _ _
theorem eqg_neq (P : Program) (w : World) (t : TypeId) (vs us : Array Value) (hgd : P.eqGuardType P.depth t = false) (x y : Operand) : (eqGuard .neq t x y (.agg vs) (.agg us)).run P w = .ok () w := by
  unfold eqGuard
  dsimp only
  rw [if_neg (by simp)]
  rw [Sem.run_bind, run_prog, Result.andThen_ok, Sem.run_bind, run_prog, Result.andThen_ok, hgd]
  rw [if_pos (by simp)]
  exact Sem.run_pure _ _ _

theorem bin2_ok {op : BinOp} {t t' : TypeId} {x y : Operand} (h : RelSt s D w a) (hd : dstOk o s) (ho : o.op = .binOp op t x y t') (hx : xbin2 P t op (ev s x) (ev s y) (fun z => K (s.put o.dst z))) :
    OpWP P o (Post s D w K) a w := by
  unfold xbin2 at hx
  split at hx
  · rename_i xs ys h1 h2
    have hr := ev_rep h x
    have hry := ev_rep h y
    generalize hv : a.eval x = v at hr
    generalize hvy : a.eval y = vy at hry
    rw [h1] at hr; rw [h2] at hry
    unfold xeqA at hx
    split at hx
    · rename_i n r he hn
      obtain ⟨hlen, hx⟩ := hx
      cases hr with
      | agg vs _ hn1 hr1 =>
      cases hry with
      | agg us _ hn2 hr2 =>
        unfold EQ at he
        split at he
        · rename_i fs hfs
          split at he
          · rename_i hc
            simp only [Option.some.injEq] at he
            simp only [Bool.and_eq_true, List.all_eq_true, Bool.not_eq_true', beq_iff_eq, bne_iff_ne, ne_eq] at hc
            obtain ⟨⟨hc, hst⟩, hgd⟩ := hc
            have hlen2 : xs.length = ys.length := by
              clear hx hlen hr1 hr2 hn1 hn2 h1 h2 hv hvy
              induction xs generalizing ys r with
              | nil => cases ys with
                | nil => rfl
                | cons => simp [eqNums] at hn
              | cons x0 xs ih => cases ys with
                | nil => cases x0 <;> simp [eqNums] at hn
                | cons y0 ys =>
                  unfold eqNums at hn
                  split at hn
                  · rename_i e _; cases e
                  · rename_i e1 e2
                    cases e1; cases e2
                    split at hn
                    · split at hn
                      · rename_i r' hr'; simp [ih _ _ hr']
                      · cases hn
                    · cases hn
                  · cases hn
            have hfo : P.fieldsOf t = fs := by simp [Program.fieldsOf, hfs]
            have heq : (Op.equal t (.agg vs) (.agg us)).run P w = .ok r w := by
              obtain ⟨dd, hdd⟩ : ∃ dd, Op.maxDepth = dd + 1 + 1 := ⟨9998, rfl⟩
              unfold Op.equal
              rw [hdd, run_equalIn_struct w (dd + 1) t vs us (by rw [hfo]; exact hfs) hst, hfo]
              exact eqFields_ok dd vs us fs.toList 0 xs ys r hn (by simp; omega) (fun fi hfi => by have := hc fi hfi; exact ⟨this.1.1, this.1.2, this.2⟩) (by omega) (by omega) (fun j hj => by rw [Nat.zero_add]; exact hr1 j hj) (fun j hj => by rw [Nat.zero_add]; exact hr2 j hj)
            have hg1 := fun x y => eqg_eql P w t vs us hgd x y
            have hg2 := fun x y => eqg_neq P w t vs us hgd x y
            cases op <;> try (exact hx.elim)
            all_goals
              refine val_ok h hd ?_ (.p (.bool _)) hx
              simp only [execOp, ho, hv, hvy, Sem.run_bind, hg1, hg2, Result.andThen_ok, Sem.run_pure, binOp, heq]
          · cases he
        · cases he
    · exact hx.elim
  · exact bin_ok h hd ho hx

theorem isnil_ok {op : BinOp} {t t' : TypeId} {x y : Operand} (h : RelSt s D w a) (hd : dstOk o s) (ho : o.op = .binOp op t x y t') (hy : y = .const (.slice none 0 0)) (hx : xisnil (P.underlying t) op (ev s x) (fun z => K (s.put o.dst z))) :
    OpWP P o (Post s D w K) a w := by
  subst hy
  have hr := ev_rep h x
  generalize hv : a.eval x = v at hr
  have hy : a.eval (.const (.slice none 0 0)) = .slice none 0 0 := rfl
  have heq : ∀ e b n m, P.underlying t = some (.slice e) → (Op.equal t (.slice b n m) (.slice none 0 0)).run P w = .ok b.isNone w := by
    intro e b n m hu
    unfold Op.equal Op.maxDepth
    rw [Op.equalIn]
    simp only [Sem.run_bind, Sk.run_underlying, hu, Result.andThen_ok]
    cases b <;> simp
  have hguard : ∀ op x y b n m u, (eqGuard op t x y (.slice b n m) u).run P w = .ok () w := by
    intro op x y b n m u; cases op <;> rfl
  have go : ∀ e b n m, P.underlying t = some (.slice e) → v = .slice b n m → nilK op (fun z => K (s.put o.dst z)) b.isNone → OpWP P o (Post s D w K) a w := by
    intro e b n m hu hvv hK
    subst hvv
    cases op <;> try (exact hK.elim)
    all_goals
      refine val_ok h hd ?_ (.p (.bool _)) hK
      simp only [execOp, ho, hv, hy, Sem.run_bind, hguard, Result.andThen_ok, Sem.run_pure, binOp, heq e b n m hu]
  unfold xisnil at hx
  split at hx
  · rename_i e hu hn
    rw [hn] at hr
    cases hr
    exact go e none 0 0 hu rfl hx
  · rename_i e hu hn
    split at hx
    · rename_i els hels
      have hrep := pureS_rep hr hels
      cases hrep with
      | nil a0 =>
        refine go e a0 0 0 hu rfl ?_
        cases a0 with
        | none => exact hx.1 rfl
        | some a0 => exact hx.2
      | sl b off cap z els vs h1 h2 h3 h4 =>
        exact go e (some ⟨b, off, none⟩) _ _ hu rfl hx.2
    · exact hx.elim
  · exact hx.elim

theorem indexV_ok {t : TypeId} {x ix : Operand} (h : RelSt s D w a) (hd : dstOk o s) (ho : o.op = .index t x ix) (hx : xindexV P t (ev s x) (ev s ix) (fun z => K (s.put o.dst z))) :
    OpWP P o (Post s D w K) a w := by
  have hr := ev_rep h x
  have hri := ev_rep h ix
  unfold xindexV at hx
  generalize hv : a.eval x = v at hr
  generalize hvi : a.eval ix = vi at hri
  split at hx
  · rename_i n sz e cs i hXI hxx hii
    rw [hxx] at hr
    split at hx
    · rename_i ag sz' z by' hTI
      obtain ⟨hsz, h0, h1, h2, h3, hK⟩ := hx
      subst hsz
      obtain ⟨hu, inf, hinf, hsize⟩ := XI_array hXI
      obtain ⟨inf', d, v0, g1, g2, g3, g4, g5, g6, g7⟩ := TI_some hTI
      rw [hinf] at g1; cases g1
      have hia := run_isAgg P w e g2
      rw [g4] at hia
      have hii' : ∃ k, vi = .int k i := by
        unfold intA at hii
        split at hii
        · rename_i k j hj
          simp only [Option.some.injEq] at hii; subst hii
          rw [hj] at hri
          have := hri.inv; cases this; exact ⟨_, rfl⟩
        · cases hii
      obtain ⟨k, rfl⟩ := hii'
      cases hr with
      | agg vs _ hn hrep =>
        refine val_ok h hd (v := if ag then .agg (vs.extract (i.toNat * sz') (i.toNat * sz' + sz')) else vs.getD (i.toNat * sz') undef) ?_ ?_ hK
        · simp only [execOp, ho, hv, hvi, Instr.index, asIntOf, Sem.run_bind, Sem.run_pure, Sk.run_underlying, hu, Result.andThen_ok, show (0 ≤ i ∧ i < (n : Int)) = True from by simp; exact ⟨h0, h1⟩, if_true, run_sizeOf P w _ hinf, g5, part, hia]
          cases ag with
          | true => simp only [if_true, Sem.run_bind, run_sizeOf P w _ hinf, Result.andThen_ok, Sem.run_pure, g5]
          | false =>
            have := h3 rfl
            simp only [Bool.false_eq_true, if_false]
            rw [Array.getElem?_eq_getElem (by omega)]
            simp only [Sem.run_pure, Result.andThen_ok, Array.getD]
            rw [dif_pos (by omega)]
            rfl
        · cases ag with
          | true =>
            simp only [if_true]
            refine .agg _ _ (by simp; omega) (fun k hk => ?_)
            simp only [List.length_take, List.length_drop] at hk
            have e1 : (vs.extract (i.toNat * sz') (i.toNat * sz' + sz')).getD k undef = vs.getD (i.toNat * sz' + k) undef := by
              simp only [Array.getD_eq_getD_getElem?, Array.getElem?_extract]
              rw [if_pos (by omega)]
            have e2 : (List.take sz' (List.drop (i.toNat * sz') cs)).getD k .top = cs.getD (i.toNat * sz' + k) .top := by
              simp only [List.getD_eq_getElem?_getD, List.getElem?_take, List.getElem?_drop]
              rw [if_pos (by omega)]
            rw [e1, e2]; exact hrep _ (by omega)
          | false =>
            have := h3 rfl
            simp only [Bool.false_eq_true, if_false]
            exact hrep _ (by omega)
    · exact hx.elim
  · exact hx.elim
end
end Go.Sk
