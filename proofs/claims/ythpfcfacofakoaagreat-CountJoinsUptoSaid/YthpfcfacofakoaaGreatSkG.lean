/- Slices: elements, parts, lengths; slices that grow. -/
import Derived.Test.YthpfcfacofakoaaGreatSkF
set_option linter.unusedSimpArgs false
set_option linter.unusedVariables false
set_option linter.unusedSectionVars false
namespace Go.Sk
open Go

/-- The elements of a slice that is data. -/
def pureS : AV → Option (List (List PV))
  | .p (.sl els) => some els
  | .cs els => some els
  | .ts _ _ _ els => some els
  | .nils => some []
  | _ => none

theorem pureS_rep {D : Prot} {w : World} {v : Value} {x : AV} {els : List (List PV)} (h : RepA D w v x) (hx : pureS x = some els) : Rep D w v (.sl els) := by
  cases h <;> simp [pureS] at hx
  case p h =>
    rename_i x
    cases x <;> simp [pureS] at hx
    subst hx; exact h
  case nils => subst hx; exact .nil none
  case cs h => subst hx; exact h
  case tsc h => subst hx; exact h
  case ts h _ _ => subst hx; exact h

theorem Rep.sl_inv {D : Prot} {w : World} {v : Value} {els : List (List PV)} (h : Rep D w v (.sl els)) :
    (∃ a, v = .slice a 0 0 ∧ els = []) ∨ ∃ (b off cap z : Nat) (vs : Nat → Nat → Value), v = .slice (some ⟨b, off, none⟩) els.length cap ∧ els.length ≤ cap ∧ (∀ el ∈ els, el.length = z) ∧
      (∀ i j, i < els.length → j < z → w.cell? ⟨b, off + i * z + j, none⟩ = some (vs i j) ∧ off + i * z + j < D b) ∧
      (∀ i j, i < els.length → j < z → Rep D w (vs i j) ((els.getD i []).getD j default)) := by
  cases h with
  | nil a => exact Or.inl ⟨a, rfl, rfl⟩
  | sl b off cap z _ vs hcap hz hc hr => exact Or.inr ⟨b, off, cap, z, vs, rfl, hcap, hz, hc, hr⟩

/-- An element's size; of an array, how many there are. -/
def XI (P : Program) (t : TypeId) : Option (Option Nat × Nat × TypeId) :=
  match P.underlying t with
  | some (.slice e) => match P.info? e with | some i => some (none, i.size, e) | none => none
  | some (.array n e) => match P.info? e with | some i => some (some n, i.size, e) | none => none
  | _ => none

theorem XI_slice {P : Program} {t : TypeId} {sz : Nat} {e : TypeId} (h : XI P t = some (none, sz, e)) : P.underlying t = some (.slice e) ∧ ∃ i, P.info? e = some i ∧ i.size = sz := by
  unfold XI at h
  split at h
  · rename_i e' he
    split at h
    · rename_i i hi; simp at h; obtain ⟨h1, rfl⟩ := h; exact ⟨he, i, hi, h1⟩
    · cases h
  · split at h <;> simp at h
  · cases h
theorem XI_array {P : Program} {t : TypeId} {n sz : Nat} {e : TypeId} (h : XI P t = some (some n, sz, e)) : P.underlying t = some (.array n e) ∧ ∃ i, P.info? e = some i ∧ i.size = sz := by
  unfold XI at h
  split at h
  · split at h <;> simp at h
  · rename_i m e' he
    split at h
    · rename_i i hi; simp at h; obtain ⟨rfl, h1, rfl⟩ := h; exact ⟨he, i, hi, h1⟩
    · cases h
  · cases h

def xindex (arr : Option Nat) (sz : Nat) (x : AV) (ix : AV) (K : AV → Prop) : Prop :=
  match ix with
  | .p (.int _ i) => match pureS x with
    | some els => arr = none ∧ 0 ≤ i ∧ i < els.length ∧ (els.getD i.toNat []).length = sz ∧ K (.dp (els.getD i.toNat []))
    | none => match x, arr with
      | .sp b o, some n => 0 ≤ i ∧ i < n ∧ K (.sp b (o + i.toNat * sz))
      | .dp cs, some n => 0 ≤ i ∧ i < n ∧ K (.dp (cs.drop (i.toNat * sz)))
      | .ms b z o n _, none => z = sz ∧ 0 ≤ i ∧ i < n ∧ K (.sp b (o + i.toNat * sz))
      | _, _ => False
  | _ => False

theorem getD_mem {α : Type} {l : List α} {i : Nat} {d : α} (h : i < l.length) : l.getD i d ∈ l := by
  rw [List.getD_eq_getElem?_getD, List.getElem?_eq_getElem h]; exact List.getElem_mem h

section
variable {P : Program} {o : Oper} {s : St} {D : Prot} {w : World} {a : Act} {K : St → Prop}

theorem index_ok {t : TypeId} {x ix : Operand} {arr : Option Nat} {sz : Nat} {e : TypeId} (h : RelSt s D w a) (hd : dstOk o s) (ho : o.op = .indexAddr t x ix) (ht : XI P t = some (arr, sz, e))
    (hx : xindex arr sz (ev s x) (ev s ix) (fun y => K (s.put o.dst y))) : OpWP P o (Post s D w K) a w := by
  have hr := ev_rep h x
  have hri := ev_rep h ix
  unfold xindex at hx
  generalize hv : a.eval x = v at hr
  generalize hvi : a.eval ix = vi at hri
  generalize hix : ev s ix = eix at hx hri
  split at hx
  · rename_i kk i
    have hri := hri.inv
    cases hri
    split at hx
    · rename_i els hels
      obtain ⟨rfl, h0, h1, h2, hK⟩ := hx
      obtain ⟨hu, inf, hinf, hsz⟩ := XI_slice ht
      have hp := pureS_rep hr hels
      rcases hp.sl_inv with ⟨_, _, rfl⟩ | ⟨b, off, cap, z, vs, rfl, hcap, hz, hc, hrp⟩
      · simp at h1; omega
      · have hin : i.toNat < els.length := by omega
        have hzz : z = sz := by rw [← h2]; exact (hz _ (getD_mem hin)).symm
        subst hzz
        refine val_ok h hd (v := .pointer (some ⟨b, off + i.toNat * z, none⟩)) ?_ (.dp b _ _ (fun j => vs i.toNat j) (fun j hj => hc _ _ hin (by omega)) (fun j hj => hrp _ _ hin (by omega))) hK
        simp only [execOp, ho, hv, hvi, Instr.indexAt, asIntOf, Sem.run_bind, Sem.run_pure, run_underlying, hu, Result.andThen_ok, run_sizeOf P w e hinf]
        rw [if_pos ⟨h0, h1⟩]
        simp only [Sem.run_bind, run_sizeOf P w e hinf, Sem.run_pure, Result.andThen_ok, Addr.add_mk, hsz]
    · generalize hxx : ev s x = exx at hx hr
      split at hx
      · rename_i b o' n
        obtain ⟨h0, h1, hK⟩ := hx
        obtain ⟨hu, inf, hinf, hsz⟩ := XI_array ht
        cases hr
        refine val_ok h hd (v := .pointer (some ⟨b, o' + i.toNat * sz, none⟩)) ?_ (.sp _ _) hK
        simp only [execOp, ho, hv, hvi, Instr.indexAt, asIntOf, Sem.run_bind, Sem.run_pure, run_underlying, hu, Result.andThen_ok, Instr.sureAddr, run_sizeOf P w e hinf]
        rw [if_pos ⟨h0, h1⟩]
        simp only [Sem.run_bind, run_sizeOf P w e hinf, Sem.run_pure, Result.andThen_ok, Addr.add_mk, hsz]
      · rename_i cs n
        obtain ⟨h0, h1, hK⟩ := hx
        obtain ⟨hu, inf, hinf, hsz⟩ := XI_array ht
        cases hr with
        | dp b o' _ vs hc hrp =>
          refine val_ok h hd (v := .pointer (some ⟨b, o' + i.toNat * sz, none⟩)) ?_ (.dp b _ _ (fun j => vs (i.toNat * sz + j)) (fun j hj => ?_) (fun j hj => ?_)) hK
          · simp only [execOp, ho, hv, hvi, Instr.indexAt, asIntOf, Sem.run_bind, Sem.run_pure, run_underlying, hu, Result.andThen_ok, Instr.sureAddr, run_sizeOf P w e hinf]
            rw [if_pos ⟨h0, h1⟩]
            simp only [Sem.run_bind, run_sizeOf P w e hinf, Sem.run_pure, Result.andThen_ok, Addr.add_mk, hsz]
          · simp only [List.length_drop] at hj
            have := hc (i.toNat * sz + j) (by omega)
            rw [show o' + i.toNat * sz + j = o' + (i.toNat * sz + j) from by omega]; exact this
          · simp only [List.length_drop] at hj
            have e : (cs.drop (i.toNat * sz)).getD j default = cs.getD (i.toNat * sz + j) default := by simp [List.getD_eq_getElem?_getD, List.getElem?_drop]
            rw [e]; exact hrp _ (by omega)
      · rename_i b z o' n c
        obtain ⟨rfl, h0, h1, hK⟩ := hx
        obtain ⟨hu, inf, hinf, hsz⟩ := XI_slice ht
        cases hr with
        | ms _ _ _ o2 _ _ hn hc ho2 =>
          have := ho2 (by omega)
          subst this
          refine val_ok h hd (v := .pointer (some ⟨b, o2 + i.toNat * z, none⟩)) ?_ (.sp _ _) hK
          simp only [execOp, ho, hv, hvi, Instr.indexAt, asIntOf, Sem.run_bind, Sem.run_pure, run_underlying, hu, Result.andThen_ok]
          rw [if_pos ⟨h0, h1⟩]
          simp only [Sem.run_bind, run_sizeOf P w e hinf, Sem.run_pure, Result.andThen_ok, Addr.add_mk, hsz]
      · exact hx.elim
  · exact hx.elim

/-! Lengths. -/
def lenA (x : AV) : Option Nat := match x with
  | .ms _ _ _ n _ => some n
  | .p (.str b) => some b.size
  | x => (pureS x).map (·.length)

def xlen (d : Option TypeDesc) (x : AV) (K : AV → Prop) : Prop :=
  match d with
  | some (.slice _) => match x with
    | .ms _ _ _ n _ => K (.p (.int .i64 n))
    | x => match pureS x with | some els => K (.p (.int .i64 els.length)) | none => False
  | some .string => match x with | .p (.str b) => K (.p (.int .i64 b.size)) | _ => False
  | some (.array n _) => K (.p (.int .i64 n))
  | _ => False

theorem run_len {t : TypeId} {x : AV} {v : Value} {Q : AV → Prop} (ty : TypeId) (hr : RepA D w v x) (hx : xlen (P.underlying t) x Q) :
    ∃ y u, (Builtin.len_ #[t] ty #[v]).run P w = .ok y w ∧ RepA D w y u ∧ Q u := by
  have fwd : ∀ y, (∀ d, P.underlying t = some d → (Builtin.len_ #[t] ty #[v]).run P w = .ok y w) → ∀ d, P.underlying t = some d → (Builtin.len_ #[t] ty #[v]).run P w = .ok y w := fun _ h => h
  unfold xlen at hx
  split at hx
  · rename_i e hu
    have run : ∀ b m c, v = .slice b m c → (Builtin.len_ #[t] ty #[v]).run P w = .ok (.int .i64 m) w := by
      rintro b m c rfl
      simp only [Builtin.len_, List.getElem?_toArray, List.getElem?_cons_zero, Sem.run_bind, run_underlying, hu, Result.andThen_ok, Sem.run_pure, goInt]
    split at hx
    · cases hr; exact ⟨_, _, run _ _ _ rfl, .p (.int _ _), hx⟩
    · split at hx
      · rename_i els hels
        rcases (pureS_rep hr hels).sl_inv with ⟨_, h1, rfl⟩ | ⟨b, off, cap, z, vs, h1, _⟩
        · exact ⟨_, _, run _ _ _ h1, .p (.int _ _), hx⟩
        · exact ⟨_, _, run _ _ _ h1, .p (.int _ _), hx⟩
      · exact hx.elim
  · rename_i hu
    split at hx
    · have hr := hr.inv; cases hr
      refine ⟨_, _, ?_, .p (.int _ _), hx⟩
      simp only [Builtin.len_, List.getElem?_toArray, List.getElem?_cons_zero, Sem.run_bind, run_underlying, hu, Result.andThen_ok, Sem.run_pure, goInt]
    · exact hx.elim
  · rename_i n e hu
    refine ⟨_, _, ?_, .p (.int _ _), hx⟩
    simp only [Builtin.len_, List.getElem?_toArray, List.getElem?_cons_zero, Sem.run_bind, run_underlying, hu, Result.andThen_ok, Sem.run_pure, goInt]
  · exact hx.elim

/-! Parts of slices. -/
def intA : AV → Option Int | .p (.int _ i) => some i | _ => none
def bnd (x : Option AV) (d : Nat) : Option Int := match x with | none => some (d : Int) | some y => intA y
/-- lo, hi, max: the part, and whether its capacity is its length. -/
def xsliceM (sz b z o n c : Nat) (lo hi mx : Option AV) (K : AV → Prop) : Prop :=
  z = sz ∧ mx = none ∧ match bnd lo 0, bnd hi n with
  | some l, some h => 0 ≤ l ∧ l ≤ h ∧ h ≤ c ∧ K (.ms b z (o + l.toNat * z) (h.toNat - l.toNat) (c - l.toNat))
  | _, _ => False
def xsliceP (sz : Nat) (x : AV) (lo hi mx : Option AV) (K : AV → Prop) : Prop :=
  match pureS x with
  | some els => match bnd lo 0, bnd hi els.length with
    | some l, some h => (∀ el ∈ els, el.length = sz) ∧ 0 ≤ l ∧ l ≤ h ∧ h ≤ els.length ∧ match mx with
      | none => K (.p (.sl ((els.drop l.toNat).take (h.toNat - l.toNat))))
      | some y => intA y = some h ∧ hi.isSome = true ∧ K (.cs ((els.drop l.toNat).take (h.toNat - l.toNat)))
    | _, _ => False
  | none => False
def xslice (d : Option TypeDesc) (sz : Nat) (x : AV) (lo hi mx : Option AV) (K : AV → Prop) : Prop :=
  match d with
  | some (.slice _) => match x with
    | .ms b z o n c => xsliceM sz b z o n c lo hi mx K
    | .nils => match bnd lo 0, bnd hi 0 with
      | some l, some h => l = 0 ∧ h = 0 ∧ mx = none ∧ K .nils
      | _, _ => False
    | _ => xsliceP sz x lo hi mx K
  | _ => False

theorem run_bound (v : Value) (x : AV) (i : Int) (hr : RepA D w v x) (hx : intA x = some i) (y : Nat) (h0 : 0 ≤ i) (h1 : i ≤ y) (c : BoundsCode) : (Instr.sliceBound v y c).run P w = .ok i.toNat w := by
  unfold intA at hx
  split at hx
  · cases hx
    have hr := hr.inv; cases hr
    simp only [Instr.sliceBound, asIntOf, Sem.run_bind, Sem.run_pure, Result.andThen_ok]
    rw [if_pos ⟨h0, h1⟩]; rfl
  · cases hx

def capOf (mx : Option Operand) (cap g : Nat) : Nat := match mx with | none => cap | some _ => g

theorem rep_part {v : Value} {els : List (List PV)} {b off cap z : Nat} {vs : Nat → Nat → Value} (_hv : v = .slice (some ⟨b, off, none⟩) els.length cap) (hcap : els.length ≤ cap) (hz : ∀ el ∈ els, el.length = z)
    (hc : ∀ i j, i < els.length → j < z → w.cell? ⟨b, off + i * z + j, none⟩ = some (vs i j) ∧ off + i * z + j < D b)
    (hr : ∀ i j, i < els.length → j < z → Rep D w (vs i j) ((els.getD i []).getD j default)) (l h c : Nat) (h1 : l ≤ h) (h2 : h ≤ els.length) (h3 : h - l ≤ c) :
    Rep D w (.slice (some ⟨b, off + l * z, none⟩) (h - l) c) (.sl ((els.drop l).take (h - l))) := by
  have hlen : ((els.drop l).take (h - l)).length = h - l := by simp; omega
  have := Rep.sl (D := D) (w := w) b (off + l * z) c z ((els.drop l).take (h - l)) (fun i j => vs (l + i) j) (by omega)
    (fun el he => hz el (List.mem_of_mem_drop (List.mem_of_mem_take he)))
    (fun i j hi hj => by
      have := hc (l + i) j (by omega) hj
      rw [show off + l * z + i * z + j = off + (l + i) * z + j from by rw [Nat.add_mul]; omega]; exact this)
    (fun i j hi hj => by
      have := hr (l + i) j (by omega) hj
      have e : ((els.drop l).take (h - l)).getD i [] = els.getD (l + i) [] := by
        simp only [List.getD_eq_getElem?_getD, List.getElem?_take, List.getElem?_drop]; rw [if_pos (by omega)]
      rw [e]; exact this)
  rwa [hlen] at this

theorem slice_ok {t : TypeId} {x : Operand} {lo hi mx : Option Operand} {sz : Nat} {e : TypeId} (h : RelSt s D w a) (hd : dstOk o s) (ho : o.op = .slice t x lo hi mx) (ht : XI P t = some (none, sz, e))
    (hx : xslice (P.underlying t) sz (ev s x) (lo.map (ev s)) (hi.map (ev s)) (mx.map (ev s)) (fun y => K (s.put o.dst y))) : OpWP P o (Post s D w K) a w := by
  obtain ⟨hu, inf, hinf, hsz⟩ := XI_slice ht
  have hr := ev_rep h x
  unfold xslice at hx
  rw [hu] at hx
  dsimp only at hx
  split at hx
  · rename_i b z o' n c hxx
    obtain ⟨rfl, hmx, hx⟩ := hx
    have hmx : mx = none := by cases mx <;> simp_all
    subst hmx
    split at hx
    · rename_i l g hl hg
      obtain ⟨h0, h1, h2, hK⟩ := hx
      rw [hxx] at hr
      generalize hv : a.eval x = v at hr
      cases hr with
      | ms _ _ _ o2 _ _ hn hc ho2 =>
        have b1 : ∀ (q : Operand) (i : Int), intA (ev s q) = some i → 0 ≤ i → ∀ (y : Nat), i ≤ y → ∀ c, (Instr.sliceBound (a.eval q) y c).run P w = .ok i.toNat w :=
          fun q i hq hi0 y hy c => run_bound _ _ _ (ev_rep h q) hq y hi0 hy c
        have hb : (Instr.sliceBounds true n c (lo.map a.eval) (hi.map a.eval) none).run P w = .ok (l.toNat, g.toNat, c) w := by
          unfold Instr.sliceBounds
          cases hi with
          | none =>
            simp only [Option.map_none, bnd, Option.some.injEq] at hg
            have hgn : g.toNat = n := by omega
            cases lo with
            | none =>
              simp only [Option.map_none, bnd, Option.some.injEq] at hl; subst hl
              simp only [Option.map_none, Sem.run_bind, Sem.run_pure, Result.andThen_ok]
              rw [hgn]; rfl
            | some lo =>
              simp only [Option.map_some, bnd] at hl
              simp only [Option.map_none, Option.map_some, Sem.run_bind, Sem.run_pure, Result.andThen_ok, b1 lo l hl h0 n (by omega)]
              rw [hgn]
          | some hi =>
            simp only [Option.map_some, bnd] at hg
            cases lo with
            | none =>
              simp only [Option.map_none, bnd, Option.some.injEq] at hl; subst hl
              simp only [Option.map_none, Option.map_some, Sem.run_bind, Sem.run_pure, Result.andThen_ok, b1 hi g hg (by omega) c (by omega)]
              rfl
            | some lo =>
              simp only [Option.map_some, bnd] at hl
              simp only [Option.map_none, Option.map_some, Sem.run_bind, Sem.run_pure, Result.andThen_ok, b1 hi g hg (by omega) c (by omega), b1 lo l hl h0 g.toNat (by omega)]
        refine val_ok h hd (v := .slice (if c = l.toNat then (some ⟨b, o2, none⟩ : Option Addr) else (some ⟨b, o2, none⟩ : Option Addr).map (·.add (l.toNat * z))) (g.toNat - l.toNat) (c - l.toNat)) ?_ ?_ hK
        · simp only [execOp, ho, hv, Instr.sliceAt, Sem.run_bind, run_underlying, hu, Result.andThen_ok, Instr.slice, Option.map_none, hb, run_sizeOf P w e hinf, Sem.run_pure, hsz]
        · by_cases hcl : c = l.toNat
          · rw [if_pos hcl]
            exact .ms b z _ o2 _ _ (by omega) (by rw [hcl, Nat.sub_self, Nat.zero_mul, Nat.add_zero, ← hcl]; exact hc) (by omega)
          · rw [if_neg hcl]
            have := ho2 (by omega)
            subst this
            simp only [Option.map_some, Addr.add_mk]
            refine .ms b z _ _ _ _ (by omega) ?_ (fun _ => rfl)
            rw [Nat.sub_mul]
            have : l.toNat * z ≤ c * z := Nat.mul_le_mul_right _ (by omega)
            omega
    · exact hx.elim
  · rename_i hxx
    split at hx
    · rename_i l g hl hg
      obtain ⟨rfl, rfl, hmx, hK⟩ := hx
      have hmx : mx = none := by cases mx <;> simp_all
      subst hmx
      rw [hxx] at hr
      generalize hv : a.eval x = v at hr
      cases hr with
      | nils =>
        have b1 : ∀ (q : Operand) (i : Int), intA (ev s q) = some i → 0 ≤ i → ∀ (y : Nat), i ≤ y → ∀ c, (Instr.sliceBound (a.eval q) y c).run P w = .ok i.toNat w :=
          fun q i hq hi0 y hy c => run_bound _ _ _ (ev_rep h q) hq y hi0 hy c
        have hb : (Instr.sliceBounds true 0 0 (lo.map a.eval) (hi.map a.eval) none).run P w = .ok (0, 0, 0) w := by
          unfold Instr.sliceBounds
          cases hi with
          | none =>
            cases lo with
            | none => simp only [Option.map_none, Sem.run_bind, Sem.run_pure, Result.andThen_ok]
            | some lo =>
              simp only [Option.map_some, bnd] at hl
              simp only [Option.map_none, Option.map_some, Sem.run_bind, Sem.run_pure, Result.andThen_ok, b1 lo 0 hl (by omega) 0 (by omega)]
              rfl
          | some hi =>
            simp only [Option.map_some, bnd] at hg
            cases lo with
            | none => simp only [Option.map_none, Option.map_some, Sem.run_bind, Sem.run_pure, Result.andThen_ok, b1 hi 0 hg (by omega) 0 (by omega)]; rfl
            | some lo =>
              simp only [Option.map_some, bnd] at hl
              simp only [Option.map_none, Option.map_some, Sem.run_bind, Sem.run_pure, Result.andThen_ok, b1 hi 0 hg (by omega) 0 (by omega), b1 lo 0 hl (by omega) (0 : Int).toNat (by omega)]; rfl
        refine val_ok h hd (v := .slice none 0 0) ?_ .nils hK
        simp only [execOp, ho, hv, Instr.sliceAt, Sem.run_bind, run_underlying, hu, Result.andThen_ok, Instr.slice, Option.map_none, hb, run_sizeOf P w e hinf, Sem.run_pure, if_true]
    · exact hx.elim
  unfold xsliceP at hx
  split at hx
  · rename_i els hels
    split at hx
    · rename_i l g hl hg
      obtain ⟨hall, h0, h1, h2, hx⟩ := hx
      have hp := pureS_rep hr hels
      generalize hv : a.eval x = v at hp
      -- the bounds
      have bnds : ∀ len cap : Nat, (hi = none → g = len) → g ≤ cap → (Instr.sliceBounds true len cap (lo.map a.eval) (hi.map a.eval) (mx.map a.eval)).run P w = .ok (l.toNat, g.toNat, capOf mx cap g.toNat) w := by
        intro len cap hlen hcap
        have b1 : ∀ (q : Operand) (i : Int), intA (ev s q) = some i → 0 ≤ i → ∀ (y : Nat), i ≤ y → ∀ c, (Instr.sliceBound (a.eval q) y c).run P w = .ok i.toNat w :=
          fun q i hq hi0 y hy c => run_bound _ _ _ (ev_rep h q) hq y hi0 hy c
        unfold Instr.sliceBounds capOf
        cases mx with
        | none =>
          cases hi with
          | none =>
            have := hlen rfl
            cases lo with
            | none =>
              simp only [Option.map_none, bnd, Option.some.injEq] at hl; subst hl
              simp only [Option.map_none, Sem.run_bind, Sem.run_pure, Result.andThen_ok]
              subst this; rfl
            | some lo =>
              simp only [Option.map_some, bnd] at hl
              simp only [Option.map_none, Option.map_some, Sem.run_bind, Sem.run_pure, Result.andThen_ok, b1 lo l hl h0 len (by omega)]
              subst this; rfl
          | some hi =>
            simp only [Option.map_some, bnd] at hg
            cases lo with
            | none =>
              simp only [Option.map_none, bnd, Option.some.injEq] at hl; subst hl
              simp only [Option.map_none, Option.map_some, Sem.run_bind, Sem.run_pure, Result.andThen_ok, b1 hi g hg (by omega) cap (by omega)]
              rfl
            | some lo =>
              simp only [Option.map_some, bnd] at hl
              simp only [Option.map_none, Option.map_some, Sem.run_bind, Sem.run_pure, Result.andThen_ok, b1 hi g hg (by omega) cap (by omega), b1 lo l hl h0 g.toNat (by omega)]
        | some mx =>
          simp only [Option.map_some] at hx
          obtain ⟨hm, hsome, _⟩ := hx
          cases hi with
          | none => simp at hsome
          | some hi =>
            simp only [Option.map_some, bnd] at hg
            cases lo with
            | none =>
              simp only [Option.map_none, bnd, Option.some.injEq] at hl; subst hl
              simp only [Option.map_none, Option.map_some, Sem.run_bind, Sem.run_pure, Result.andThen_ok, b1 mx g hm (by omega) cap (by omega), b1 hi g hg (by omega) g.toNat (by omega)]
              rfl
            | some lo =>
              simp only [Option.map_some, bnd] at hl
              simp only [Option.map_some, Sem.run_bind, Sem.run_pure, Result.andThen_ok, b1 mx g hm (by omega) cap (by omega), b1 hi g hg (by omega) g.toNat (by omega), b1 lo l hl h0 g.toNat (by omega)]
      have ghi : hi = none → g = els.length := by
        intro e; rw [e] at hg; simp only [Option.map_none, bnd, Option.some.injEq] at hg; exact hg.symm
      have run : ∀ (base : Option Addr) (cap : Nat), v = .slice base els.length cap → els.length ≤ cap →
          (execOp a.eval o).run P w = .ok (.value (.slice (if (capOf mx cap g.toNat) = l.toNat then base else base.map (·.add (l.toNat * sz))) (g.toNat - l.toNat) ((capOf mx cap g.toNat) - l.toNat))) w := by
        intro base cap hvv hcap
        have hb := bnds els.length cap (fun e => ghi e) (by omega)
        simp only [execOp, ho, hv, hvv, Instr.sliceAt, Sem.run_bind, run_underlying, hu, Result.andThen_ok, Instr.slice, hb, run_sizeOf P w e hinf, Sem.run_pure, hsz]
      have hlg : l.toNat ≤ g.toNat := by omega
      have hgl : g.toNat ≤ els.length := by omega
      have rep : ∀ (base : Option Addr) (cap m : Nat), v = .slice base els.length cap → els.length ≤ cap → g.toNat ≤ m → m ≤ cap →
          Rep D w (.slice (if m = l.toNat then base else base.map (·.add (l.toNat * sz))) (g.toNat - l.toNat) (m - l.toNat)) (.sl ((els.drop l.toNat).take (g.toNat - l.toNat))) := by
        intro base cap m hvv hcap hm hmc
        rcases hp.sl_inv with ⟨a0, h1, rfl⟩ | ⟨b, off, cap', z, vs, h1, hcap', hz, hc, hrp⟩
        · rw [hvv] at h1; cases h1
          simp only [List.length_nil] at hgl
          have e1 : g.toNat = 0 := by omega
          have e2 : l.toNat = 0 := by omega
          have e3 : m = 0 := by omega
          rw [e1, e2, e3]; exact .nil _
        · rw [hvv] at h1; cases h1
          by_cases hml : m = l.toNat
          · have e1 : g.toNat - l.toNat = 0 := by omega
            rw [if_pos hml, e1, List.take_zero, hml, Nat.sub_self]
            exact .sl b off 0 0 [] (fun _ _ => undef) (Nat.le_refl _) (fun _ h => by cases h) (fun i j hi => by simp at hi) (fun i j hi => by simp at hi)
          · rw [if_neg hml]
            simp only [Option.map_some, Addr.add_mk]
            by_cases hge : g.toNat - l.toNat = 0
            · rw [hge, List.take_zero]
              exact .sl b (off + l.toNat * sz) (m - l.toNat) 0 [] (fun _ _ => undef) (Nat.zero_le _) (fun _ h => by cases h) (fun i j hi => by simp at hi) (fun i j hi => by simp at hi)
            · have hzz : z = sz := by
                have hin : 0 < els.length := by omega
                rw [← hall _ (getD_mem (d := []) hin)]; exact (hz _ (getD_mem hin)).symm
              subst hzz
              exact rep_part rfl hcap' hz hc hrp l.toNat g.toNat _ hlg hgl (by omega)
      have hbase : ∃ base cap, v = .slice base els.length cap ∧ els.length ≤ cap := by
        rcases hp.sl_inv with ⟨_, h1, rfl⟩ | ⟨b, off, cap', z, vs, h1, hcap', _⟩
        · exact ⟨_, _, h1, Nat.le_refl _⟩
        · exact ⟨_, _, h1, hcap'⟩
      obtain ⟨base, cap, hvv, hcap⟩ := hbase
      have hr1 := run base cap hvv hcap
      cases mx with
      | none => exact val_ok h hd hr1 (.p (rep base cap cap hvv hcap (by omega) (Nat.le_refl _))) hx
      | some mx =>
        simp only [Option.map_some] at hx
        exact val_ok h hd hr1 (.cs (rep base cap g.toNat hvv hcap (Nat.le_refl _) (by omega))) hx.2.2
    · exact hx.elim
  · exact hx.elim
end
end Go.Sk
