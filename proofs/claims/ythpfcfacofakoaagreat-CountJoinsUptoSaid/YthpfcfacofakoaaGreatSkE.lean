/- What each operation does, as a walk sees it; and that the machine does so. -/
import Derived.Test.YthpfcfacofakoaaGreatSkD
set_option linter.unusedSimpArgs false
set_option linter.unusedVariables false
set_option linter.unusedSectionVars false
namespace Go.Sk
open Go

/-- What must hold behind a piece of a run. -/
def Post (s : St) (D : Prot) (w : World) (K : St → Prop) : Act → World → Prop :=
  fun a' w' => ∃ s' D', K s' ∧ RelSt s' D' w' a' ∧ Ext s.S D w s'.S D' w'

def dstOk (o : Oper) (s : St) : Prop := match o.dst with | some t => t < s.n | none => True
theorem dstOk.lt {o : Oper} {s : St} (h : dstOk o s) : ∀ t, o.dst = some t → t < s.n := by
  intro t ht; unfold dstOk at h; rw [ht] at h; exact h

def St.withS (s : St) (S : Store) : St := { s with S := S }

section
variable {P : Program} {o : Oper} {s : St} {D : Prot} {w : World} {a : Act} {K : St → Prop}

theorem val_ok {v : Value} {x : AV} (h : RelSt s D w a) (hd : dstOk o s) (hrun : (execOp a.eval o).run P w = .ok (.value v) w) (hv : RepA D w v x) (hK : K (s.put o.dst x)) :
    OpWP P o (Post s D w K) a w := by
  unfold OpWP; rw [hrun]
  refine ⟨_, D, hK, h.put hd.lt hv, ?_⟩
  cases o.dst <;> exact Ext.refl _ _ _

theorem put_S (s : St) (d : Option Nat) (x : AV) : (s.put d x).S = s.S := by cases d <;> rfl

theorem valw_ok {v : Value} {x : AV} {S' : Store} {D' : Prot} {w' : World} (h : RelSt s D w a) (hd : dstOk o s) (hrun : (execOp a.eval o).run P w = .ok (.value v) w')
    (hR : Rel S' D' w') (hE : Ext s.S D w S' D' w') (hdf : ∀ r ∈ s.df, S' (.r r) = some (.raw (.deferred (some [])) noKn)) (hv : RepA D' w' v x) (hK : K ((s.withS S').put o.dst x)) :
    OpWP P o (Post s D w K) a w := by
  unfold OpWP; rw [hrun]
  refine ⟨_, D', hK, (h.later hR hE.toLater hdf).put hd.lt hv, ?_⟩
  rw [put_S]; exact hE

theorem skip_ok {S' : Store} {D' : Prot} {w' : World} (h : RelSt s D w a) (hd : dstOk o s) (hrun : (execOp a.eval o).run P w = .ok .skip w')
    (hR : Rel S' D' w') (hE : Ext s.S D w S' D' w') (hdf : ∀ r ∈ s.df, S' (.r r) = some (.raw (.deferred (some [])) noKn)) (hK : K ((s.withS S').put o.dst .top)) :
    OpWP P o (Post s D w K) a w := by
  unfold OpWP; rw [hrun]
  refine ⟨_, D', hK, (h.later hR hE.toLater hdf).put hd.lt (.top _), ?_⟩
  rw [put_S]; exact hE
end

/-! Loads. -/
def xload (S : Store) (ag : Bool) (sz : Nat) (x : AV) (K : AV → Prop) : Prop :=
  match x with
  | .sp b o => match S (.r b) with
    | some (.cells cs) => o + sz ≤ cs.length ∧ (ag = false → sz = 1) ∧ K (if ag then .agg ((cs.drop o).take sz) else cs.getD o .top)
    | _ => False
  | .dp cs => sz ≤ cs.length ∧ (ag = false → sz = 1) ∧ K (if ag then .agg ((cs.take sz).map .p) else .p (cs.getD 0 default))
  | _ => False

theorem ofFn_getD (n : Nat) (vs : Nat → Value) (i : Nat) (h : i < n) : (Array.ofFn fun j : Fin n => vs j).getD i undef = vs i := by
  simp [Array.getD, h]

theorem xload_ok {P : Program} {o : Oper} {s : St} {D : Prot} {w : World} {a : Act} {K : St → Prop} {t : TypeId} {x : Operand} {ag : Bool} {sz : Nat} {z : List AV} {by' : Nat}
    (h : RelSt s D w a) (hd : dstOk o s) (ho : o.op = .load t x) (ht : TI P t = some (ag, sz, z, by')) (hx : xload s.S ag sz (ev s x) (fun y => K (s.put o.dst y))) :
    OpWP P o (Post s D w K) a w := by
  obtain ⟨i, d, v, hi, hu, hz, hg, hn, _, _⟩ := TI_some ht
  have hr := ev_rep h x
  unfold xload at hx
  cases hxe : ev s x with
  | sp b off =>
    rw [hxe] at hx hr
    dsimp only at hx
    cases hb : s.S (.r b) with
    | none => rw [hb] at hx; exact hx.elim
    | some bl =>
      rw [hb] at hx
      cases bl with
      | cells cs =>
        dsimp only at hx
        obtain ⟨h1, h2, hK⟩ := hx
        obtain ⟨vs, ty, hh, hsz, hrep, _⟩ := h.rel.blk _ _ hb
        generalize hv : a.eval x = v at hr
        cases hr
        have hl := run_loadVar P w t b off hi hu (fun j => vs.getD (off + j) undef) (fun j hj => by
          rw [cell_cells hh]; simp only [Array.getD]; rw [dif_pos (by omega)]; exact Array.getElem?_eq_getElem (by omega)) (by rw [hg, hn]; exact h2)
        rw [hg] at hl
        refine val_ok h hd (v := if ag = true then .agg (Array.ofFn fun j : Fin i.size => vs.getD (off + j) undef) else vs.getD (off + 0) undef) ?_ ?_ hK
        · simp only [execOp, ho, hv, Instr.loadAt, Instr.sureAddr, Sem.run_bind, Sem.run_pure, Result.andThen_ok, hl]
        · cases ag with
          | true =>
            simp only [if_true]
            refine .agg _ _ (by simp; omega) (fun k hk => ?_)
            simp only [List.length_take, List.length_drop] at hk
            rw [ofFn_getD _ (fun j => vs.getD (off + j) undef) _ (by omega)]
            have := hrep (off + k) (by omega)
            have e : (List.take sz (List.drop off cs)).getD k .top = cs.getD (off + k) .top := by
              simp only [List.getD_eq_getElem?_getD, List.getElem?_take, List.getElem?_drop]
              rw [if_pos (by omega)]
            rw [e]; exact this
          | false =>
            simp only [Bool.false_eq_true, if_false, Nat.add_zero]
            have := h2 rfl
            exact hrep off (by omega)
      | _ => exact hx.elim
  | dp cs =>
    rw [hxe] at hx hr
    dsimp only at hx
    obtain ⟨h1, h2, hK⟩ := hx
    generalize hv : a.eval x = v at hr
    cases hr with
    | dp b off _ vs hc hrp =>
    have hl := run_loadVar P w t b off hi hu vs (fun j hj => (hc j (by omega)).1) (by rw [hg, hn]; exact h2)
    rw [hg] at hl
    refine val_ok h hd (v := if ag = true then .agg (Array.ofFn fun j : Fin i.size => vs j) else vs 0) ?_ ?_ hK
    · simp only [execOp, ho, hv, Instr.loadAt, Instr.sureAddr, Sem.run_bind, Sem.run_pure, Result.andThen_ok, hl]
    · cases ag with
      | true =>
        simp only [if_true]
        refine .agg _ _ (by simp; omega) (fun k hk => ?_)
        simp only [List.length_map, List.length_take] at hk
        rw [ofFn_getD _ vs _ (by omega)]
        have e : (List.map AV.p (List.take sz cs)).getD k .top = .p (cs.getD k default) := by
          simp only [List.getD_eq_getElem?_getD, List.getElem?_map, List.getElem?_take]
          rw [if_pos (by omega), List.getElem?_eq_getElem (by omega)]
          rfl
        rw [e]; exact .p (hrp k (by omega))
      | false =>
        simp only [Bool.false_eq_true, if_false]
        have := h2 rfl
        exact .p (hrp 0 (by omega))
  | _ => rw [hxe] at hx; exact hx.elim

/-! Stores. -/
def splice (cs : List AV) (o : Nat) (l : List AV) : List AV := cs.take o ++ l ++ cs.drop (o + l.length)

theorem splice_length (cs : List AV) (o : Nat) (l : List AV) (h : o + l.length ≤ cs.length) : (splice cs o l).length = cs.length := by
  simp [splice]; omega
theorem splice_getD (cs : List AV) (o : Nat) (l : List AV) (h : o + l.length ≤ cs.length) (i : Nat) :
    (splice cs o l).getD i .top = if o ≤ i ∧ i < o + l.length then l.getD (i - o) .top else cs.getD i .top := by
  have ho : (cs.take o).length = o := by simp; omega
  simp only [splice, List.getD_eq_getElem?_getD]
  by_cases h1 : i < o
  · rw [List.append_assoc, List.getElem?_append_left (by omega), List.getElem?_take, if_pos h1, if_neg (by omega)]
  · by_cases h2 : i < o + l.length
    · rw [List.append_assoc, List.getElem?_append_right (by omega), ho, List.getElem?_append_left (by omega), if_pos (by omega)]
    · rw [List.getElem?_append_right (by simp; omega), if_neg (by omega)]
      rw [List.getElem?_drop]
      congr 2
      simp; omega

def xstore (S : Store) (sz : Nat) (x : AV) (y : AV) (K : Store → Prop) : Prop :=
  match x with
  | .sp b o => match S (.r b) with
    | some (.cells cs) => (cellsOf y).length = sz ∧ o + sz ≤ cs.length ∧ (cellsOf y).all scalar = true ∧ K (S.set (.r b) (.cells (splice cs o (cellsOf y))))
    | _ => False
  | _ => False

theorem df_set {s : St} {b : Nat} {x y : Blk} (hx : s.S (.r b) = some x) (hn : ∀ o k, x ≠ .raw o k) (h : ∀ r ∈ s.df, s.S (.r r) = some (.raw (.deferred (some [])) noKn)) :
    ∀ r ∈ s.df, (s.S.set (.r b) y) (.r r) = some (.raw (.deferred (some [])) noKn) := by
  intro r hr
  have := h r hr
  rw [Store.set_other]; exact this
  intro e
  cases e
  rw [hx] at this; cases this; exact hn _ _ rfl

theorem df_new {s : St} {b : Nat} {y : Blk} (hx : s.S (.r b) = none) (h : ∀ r ∈ s.df, s.S (.r r) = some (.raw (.deferred (some [])) noKn)) :
    ∀ r ∈ s.df, (s.S.set (.r b) y) (.r r) = some (.raw (.deferred (some [])) noKn) := by
  intro r hr
  have := h r hr
  rw [Store.set_other]; exact this
  intro e
  cases e
  rw [hx] at this; cases this

theorem xstore_ok {P : Program} {o : Oper} {s : St} {D : Prot} {w : World} {a : Act} {K : St → Prop} {t : TypeId} {x y : Operand} {ag : Bool} {sz : Nat} {z : List AV} {by' : Nat}
    (h : RelSt s D w a) (hd : dstOk o s) (ho : o.op = .store t x y) (ht : TI P t = some (ag, sz, z, by')) (hx : xstore s.S sz (ev s x) (ev s y) (fun S' => K ((s.withS S').put o.dst .top))) :
    OpWP P o (Post s D w K) a w := by
  obtain ⟨i, d, v, hi, hu, hz, hg, hn, _, _⟩ := TI_some ht
  have hr := ev_rep h x
  have hry := ev_rep h y
  unfold xstore at hx
  cases hxe : ev s x with
  | sp b off =>
    rw [hxe] at hx hr
    dsimp only at hx
    cases hb : s.S (.r b) with
    | none => rw [hb] at hx; exact hx.elim
    | some bl =>
      rw [hb] at hx
      cases bl with
      | cells cs =>
        dsimp only at hx
        obtain ⟨h1, h2, h3, hK⟩ := hx
        obtain ⟨vs, ty, hh, hsz, hrep, hD⟩ := h.rel.blk _ _ hb
        generalize hv : a.eval x = v at hr
        cases hr
        obtain ⟨hc1, hc2⟩ := hry.cells h3
        generalize hvy : a.eval y = vy at hc1 hc2
        have hsc : ∀ u ∈ vy.cells.toList, (∀ c, u ≠ .agg c) ∧ (∀ c, u ≠ .tuple c) := by
          intro u hu
          obtain ⟨k, hk, hku⟩ := List.getElem_of_mem hu
          simp only [Array.length_toList] at hk
          have hr' := hc2 k (by omega)
          have : vy.cells.getD k undef = u := by simp [Array.getD, hk]; simpa using hku
          rw [this] at hr'
          refine hr'.scalar_ok ?_
          have := List.all_eq_true.1 h3 ((cellsOf (ev s y)).getD k .top) (by
            rw [List.getD_eq_getElem?_getD, List.getElem?_eq_getElem (by omega)]; exact List.getElem_mem _)
          exact this
        have hrun := run_storeCells P b ty vy.cells.toList hsc w off 0 vs hh (by simp; omega)
        have hwsz := writeAt_size vs (off + 0) vy.cells.toList
        have hlater := put_later (D := D) (n := 0) hh (vs' := writeAt vs (off + 0) vy.cells.toList) (by omega) (by omega) (fun o ho => by omega)
        have hput := put_own h.rel (b := b) (by rw [hb]; simp) hh hwsz.symm hD (.cells (splice cs off (cellsOf (ev s y)))) ⟨_, ty, putO_same w _ (Array.getElem?_eq_some_iff.1 hh).1, by
            rw [hwsz, splice_length _ _ _ (by omega)]; exact hsz, fun k hk => ?_, by simp [Prot.up]⟩
        · refine skip_ok h hd (w' := World.putO w b (.cells (writeAt vs (off + 0) vy.cells.toList) ty (0, 0))) ?_ hput.1 hput.2 (df_set hb (by simp) h.df) hK
          simp only [execOp, ho, hv, hvy, Instr.storeAt, Instr.sureAddr, storeVar, Sem.run_bind, Sem.run_pure, Result.andThen_ok, run_sizeOf P w t hi]
          rw [if_neg (by omega)]
          simp only [hrun, Sem.run_pure, Result.andThen_ok]
        · rw [splice_length _ _ _ (by omega)] at hk
          rw [splice_getD _ _ _ (by omega)]
          have hg := writeAt_get vy.cells.toList vs (off + 0) k (by simp; omega)
          simp only [Array.getD_eq_getD_getElem?]
          rw [hg]
          by_cases hk2 : off ≤ k ∧ k < off + (cellsOf (ev s y)).length
          · rw [if_pos (by simp; omega), if_pos hk2]
            have := hc2 (k - off) (by omega)
            rw [show off + 0 = off from rfl]
            simp only [Array.getD_eq_getD_getElem?] at this
            rw [Array.getElem?_toList]
            exact this.later hlater
          · rw [if_neg (by simp; omega), if_neg hk2]
            have := hrep k hk
            simp only [Array.getD_eq_getD_getElem?] at this
            exact this.later hlater
      | _ => exact hx.elim
  | _ => rw [hxe] at hx; exact hx.elim

/-! New variables. -/
theorem new_cells {S : Store} {D : Prot} {w : World} (hR : Rel S D w) (ty : TypeId) (vs : Array Value) (cs : List AV) (hs : vs.size = cs.length) (hr : ∀ i, i < cs.length → RepA D w (vs.getD i undef) (cs.getD i .top)) :
    Rel (S.set (.r w.heap.size) (.cells cs)) (Prot.up D w.heap.size 0) (World.push w (.cells vs ty (0, 0))) ∧ Ext S D w (S.set (.r w.heap.size) (.cells cs)) (Prot.up D w.heap.size 0) (World.push w (.cells vs ty (0, 0))) :=
  push_own hR _ (.cells cs) ⟨vs, ty, push_new w _, hs, fun i hi => (hr i hi).later (push_later _ 0 hR.dlt), by simp [Prot.up]⟩

theorem map_ofV_getD (vs : Array Value) (i : Nat) (h : i < vs.size) : (vs.toList.map ofV).getD i .top = ofV (vs.getD i undef) := by
  simp [List.getD_eq_getElem?_getD, Array.getD, h]

theorem alloc_ok {P : Program} {o : Oper} {s : St} {D : Prot} {w : World} {a : Act} {K : St → Prop} {t : TypeId} {ag : Bool} {sz : Nat} {z : List AV} {by' : Nat}
    (h : RelSt s D w a) (hd : dstOk o s) (ho : o.op = .alloc t) (ht : TI P t = some (ag, sz, z, by'))
    (hx : ∀ b, s.S (.r b) = none → K ((s.withS (s.S.set (.r b) (.cells z))).put o.dst (.sp b 0))) : OpWP P o (Post s D w K) a w := by
  obtain ⟨i, d, v, hi, hu, hz, hg, hn, hzz, _⟩ := TI_some ht
  subst hzz
  have hnew := new_cells h.rel t v.cells (v.cells.toList.map ofV) (by simp) (fun k hk => by
    simp only [List.length_map, Array.length_toList] at hk
    rw [map_ofV_getD _ _ hk]; exact ofV_rep D w _)
  refine valw_ok h hd ?_ hnew.1 hnew.2 (df_new h.rel.newr h.df) (.sp _ 0) (hx w.heap.size h.rel.newr)
  simp only [execOp, ho, Instr.alloc, Sem.run_bind, run_zeroValue P w t hi hz, Result.andThen_ok, newVar, newRow, newObj, Sem.run, Sem.run_pure]
  rfl

theorem box_ok {P : Program} {o : Oper} {s : St} {D : Prot} {w : World} {a : Act} {K : St → Prop} {t : TypeId} {x : Operand}
    (h : RelSt s D w a) (hd : dstOk o s) (ho : o.op = .box t x) (hs : (cellsOf (ev s x)).all scalar = true)
    (hx : ∀ b, s.S (.r b) = none → K ((s.withS (s.S.set (.r b) (.cells (cellsOf (ev s x))))).put o.dst (.sp b 0))) : OpWP P o (Post s D w K) a w := by
  obtain ⟨hc1, hc2⟩ := (ev_rep h x).cells hs
  have hnew := new_cells h.rel t (a.eval x).cells (cellsOf (ev s x)) hc1 hc2
  refine valw_ok h hd ?_ hnew.1 hnew.2 (df_new h.rel.newr h.df) (.sp _ 0) (hx w.heap.size h.rel.newr)
  simp only [execOp, ho, Instr.box, Sem.run_bind, Result.andThen_ok, newVar, newRow, newObj, Sem.run, Sem.run_pure]
  rfl
end Go.Sk
