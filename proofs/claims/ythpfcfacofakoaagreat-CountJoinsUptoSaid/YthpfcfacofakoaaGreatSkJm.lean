/- Maps whose keys are numbers, as a walk sees them; and that the machine does so. -/
import Derived.Test.YthpfcfacofakoaaGreatSkJ
set_option linter.unusedSimpArgs false
set_option linter.unusedVariables false
set_option linter.unusedSectionVars false
namespace Go.Sk
open Go

/-- A value that is known, as a walk sees it. -/
def zAV : Value → AV
  | .agg cs => .agg (cs.toList.map ofV)
  | v => ofV v
theorem zAV_rep (D : Prot) (w : World) (v : Value) : RepA D w v (zAV v) := by
  unfold zAV; split
  · exact .agg _ _ (ofV_reps D w _).1 (ofV_reps D w _).2
  · exact ofV_rep D w _

/-- A map's type: of what numbers its keys are; what stands for what isn't there. -/
def MI (P : Program) (t : TypeId) : Option (IntKind × AV) :=
  match P.underlying t with
  | some (.map k e) => match P.underlying k, P.info? e with
    | some (.int kd), some i => match i.zero with | some v => some (kd, zAV v) | none => none
    | _, _ => none
  | _ => none

def mget (n : Int) : List (Nat × Int × AV) → Option AV
  | [] => none
  | (_, k, x) :: r => if k = n then some x else mget n r
def mset (n : Int) (y : AV) : List (Nat × Int × AV) → List (Nat × Int × AV)
  | [] => []
  | (b, k, x) :: r => if k = n then (b, k, y) :: r else (b, k, x) :: mset n y r
/-- The entries, one of them set. -/
def mput (n : Int) (y : AV) (clk : Nat) (l : List (Nat × Int × AV)) : List (Nat × Int × AV) := if (mget n l).isSome then mset n y l else l ++ [(clk, n, y)]
def mclk (n : Int) (clk : Nat) (l : List (Nat × Int × AV)) : Nat := if (mget n l).isSome then clk else clk + 1

def xlookup (P : Program) (t : TypeId) (S : Store) (x k : AV) (ok : Bool) (K : AV → Prop) : Prop :=
  match MI P t, x, k with
  | some (kd, z), .map b, .p (.int kd' n) => match S (.r b) with
    | some (.mp kd'' es _) => kd' = kd ∧ kd'' = kd ∧ K (if ok then .tuple [(mget n es).getD z, .p (.bool (mget n es).isSome)] else (mget n es).getD z)
    | _ => False
  | _, _, _ => False
def xmapUpdate (P : Program) (t : TypeId) (S : Store) (x k y : AV) (K : Store → Prop) : Prop :=
  match MI P t, x, k with
  | some (kd, _), .map b, .p (.int kd' n) => match S (.r b) with
    | some (.mp kd'' es clk) => kd' = kd ∧ kd'' = kd ∧ K (S.set (.r b) (.mp kd (mput n y clk es) (mclk n clk es)))
    | _ => False
  | _, _, _ => False
def xmakeMap (P : Program) (t : TypeId) (S : Store) (K : AV → Store → Prop) : Prop :=
  match MI P t with
  | some (kd, _) => ∀ b, S (.r b) = none → K (.map b) (S.set (.r b) (.mp kd [] 0))
  | none => False
def xrange (P : Program) (t : TypeId) (S : Store) (x : AV) (K : AV → Store → Prop) : Prop :=
  match MI P t, x with
  | some _, .map m => match S (.r m) with
    | some (.mp _ _ clk) => ∀ b, S (.r b) = none → K (.sp b 0) (S.set (.r b) (.raw (.mapIter (some m) clk #[] clk) noKn))
    | _ => False
  | _, _ => False
/-- The entries that a loop hasn't seen. -/
def mleft (seen : Array Nat) (es : List (Nat × Int × AV)) : List (Nat × Int × AV) := es.filter fun e => !seen.contains e.1
def mfine (since last : Nat) (seen : Array Nat) (es : List (Nat × Int × AV)) : Prop := (∀ e ∈ es, e.1 < since) ∧ (seen = #[] ∨ es = [] ∨ ∃ e ∈ es, e.1 < last)
def xnext (S : Store) (x : AV) (K : AV → Store → Prop) : Prop :=
  match x with
  | .sp r 0 => match S (.r r) with
    | some (.raw (.mapIter (some m) since seen last) kn) => kn = noKn ∧ match S (.r m) with
      | some (.mp kd es clk) => mfine since last seen es ∧ (mleft seen es = [] → K (.tuple [.p (.bool false)]) S) ∧
          ∀ e ∈ mleft seen es, K (.tuple [.p (.bool true), .p (.int kd e.2.1), e.2.2]) (S.set (.r r) (.raw (.mapIter (some m) since (seen.push e.1) clk) noKn))
      | _ => False
    | _ => False
  | _ => False
def mfind (b : Nat) : List (Nat × Int × AV) → Option (Int × AV)
  | [] => none
  | (c, n, x) :: r => if c = b then some (n, x) else mfind b r
def xentry (S : Store) (x : AV) (K : AV → Prop) : Prop :=
  match x with
  | .sp r 0 => match S (.r r) with
    | some (.raw (.mapIter (some m) _ seen st) kn) => kn = noKn ∧ match S (.r m) with
      | some (.mp kd es clk) => match seen.back? with
        | some b => clk = st ∧ match mfind b es with
          | some (n, x) => K (.tuple [.p (.int kd n), x])
          | none => False
        | none => False
      | _ => False
    | _ => False
  | _ => False

section
variable {P : Program} {o : Oper} {s : St} {D : Prot} {w : World} {a : Act} {K : St → Prop}

/-- An owned block that isn't cells, written anew. -/
theorem put_obj {S : Store} {D : Prot} {w : World} (h : Rel S D w) {l : Nat} {o' : Obj} {x x' : Blk} (hl : S (.r l) = some x) (hlt : l < w.heap.size) (hb : bsize w l = 0) (hD : D l = 0)
    (hx : Later D w D (World.putO w l o') → BlkRep D (World.putO w l o') (.r l) x') :
    Rel (S.set (.r l) x') D (World.putO w l o') ∧ Ext S D w (S.set (.r l) x') D (World.putO w l o') := by
  have hlat : Later D w D (World.putO w l o') := by
    refine ⟨rfl, rfl, rfl, by simp [World.putO], fun _ => Nat.le_refl _, fun c i hi => ?_, fun c => ?_, Nat.le_refl _⟩
    · have : c ≠ l := by rintro rfl; omega
      exact cell_of_heap (putO_other w _ this) i
    · by_cases e : c = l
      · subst e; omega
      · rw [bsize_of_heap (putO_other w _ e)]; exact Nat.le_refl _
  refine ⟨⟨fun k y hk' => ?_, fun c hc => ?_, ?_, ?_, ?_⟩, ⟨hlat, fun c hc hn => ?_, fun c hc hn ho' => ?_⟩⟩
  · by_cases e : k = .r l
    · subst e; rw [Store.set_same] at hk'; cases hk'
      exact hx hlat
    · rw [Store.set_other _ _ e] at hk'
      refine (h.blk k y hk').later hlat ?_
      intro c hc
      have : c ≠ l := by
        rintro rfl
        rcases hc with rfl | ⟨z, m, rfl⟩
        · exact e rfl
        · cases k with
          | r d => exact (h.blk _ _ hk').elim
          | v k => have := h.apart k z m c hk'; rw [hl] at this; cases this
      exact ⟨putO_other w _ this, rfl⟩
  · simp only [World.putO, Array.size_setIfInBounds] at hc; exact h.dlt c hc
  · obtain ⟨N, hN⟩ := h.fin
    exact ⟨N, fun k hk => by rw [Store.set_other _ _ (by simp)]; exact hN k hk⟩
  · intro k k' z z' n n' b h1 h2
    rw [Store.set_other _ _ (by simp)] at h1 h2
    exact h.one k k' z z' n n' b h1 h2
  · intro k z n c h1
    rw [Store.set_other _ _ (by simp)] at h1
    have hc : c ≠ l := by rintro rfl; have := h.apart k z n c h1; rw [hl] at this; cases this
    rw [Store.set_other _ _ (by simpa using hc)]
    exact h.apart k z n c h1
  · exact putO_other w _ (by rintro rfl; exact hn (Or.inl (by rw [hl]; simp)))
  · refine hn ?_
    rcases ho' with ho' | ⟨k, z, m, ho'⟩
    · by_cases e : c = l
      · subst e; exact Or.inl (by rw [hl]; simp)
      · rw [Store.set_other _ _ (by simpa using e)] at ho'; exact Or.inl ho'
    · rw [Store.set_other _ _ (by simp)] at ho'; exact Or.inr ⟨k, z, m, ho'⟩

theorem MI_some {t : TypeId} {kd : IntKind} {z : AV} (h : MI P t = some (kd, z)) :
    ∃ k e i v, P.underlying t = some (.map k e) ∧ P.underlying k = some (.int kd) ∧ P.info? e = some i ∧ i.zero = some v ∧ z = zAV v := by
  unfold MI at h
  split at h
  · rename_i k e hu
    split at h
    · rename_i kd' i hk hi
      split at h
      · rename_i v hv
        simp only [Option.some.injEq, Prod.mk.injEq] at h
        obtain ⟨rfl, rfl⟩ := h
        exact ⟨k, e, i, v, hu, hk, hi, hv, rfl⟩
      · cases h
    · cases h
  · cases h

theorem find_ok {D : Prot} {w : World} {kd : IntKind} (n : Int) {l : List MapEntry} {l' : List (Nat × Int × AV)} (h : MRep D w kd l l') : ∀ i,
    (mget n l' = none ∧ Instr.findNow (.int kd) (.int kd n) l i = some none) ∨
    (∃ j v x, Instr.findNow (.int kd) (.int kd n) l i = some (some (i + j, v)) ∧ mget n l' = some x ∧ RepA D w v x ∧ j < l.length ∧ (∀ e, l[j]? = some e → e.key = .int kd n) ∧
      ∀ u y, RepA D w u y → MRep D w kd (l.modify j fun e => { e with key := .int kd n, val := u }) (mset n y l')) := by
  induction h with
  | nil => intro i; exact Or.inl ⟨rfl, rfl⟩
  | cons born m v x r r' hv hr ih =>
    intro i
    by_cases e : m = n
    · subst e
      refine Or.inr ⟨0, v, x, ?_, by simp [mget], hv, by simp, by simp, fun u y hu => ?_⟩
      · simp [Instr.findNow, Instr.sameNow]
      · simp only [mset, if_true]
        exact .cons born m u y r r' hu hr
    · have h0 : Instr.sameNow (.int kd) (.int kd n) (.int kd m) = some false := by simp [Instr.sameNow]; exact fun h => e h.symm
      rcases ih (i + 1) with ⟨h1, h2⟩ | ⟨j, v', x', h1, h2, h3, h4, h5, h6⟩
      · exact Or.inl ⟨by simp [mget, e, h1], by simp only [Instr.findNow, h0, h2]⟩
      · refine Or.inr ⟨j + 1, v', x', by simp only [Instr.findNow, h0, h1]; congr 3; omega, by simp [mget, e, h2], h3, by simpa using h4, by simpa using h5, fun u y hu => ?_⟩
        simp only [mset, if_neg e]
        exact .cons born m v x _ _ hv (h6 u y hu)

theorem run_getMap {b : Nat} {mes : Array MapEntry} {c : Nat} (h : w.heap[b]? = some (.map mes c)) : (getObj b).run P w = .ok (.map mes c) w := by simp [getObj, Sem.run, h]
theorem run_getIter {b : Nat} {m : Option Nat} {c d : Nat} {seen : Array Nat} (h : w.heap[b]? = some (.mapIter m c seen d)) : (getObj b).run P w = .ok (.mapIter m c seen d) w := by simp [getObj, Sem.run, h]
theorem run_setMap {b : Nat} {o o' : Obj} (h : w.heap[b]? = some o) (hc : ∀ c t f, o ≠ .cells c t f) : (setObj b o').run P w = .ok () (World.putO w b o') := by
  cases o <;> simp [setObj, Sem.run, h, World.putO] at hc ⊢
theorem run_checkInt {kt : TypeId} {kd : IntKind} {n : Int} (h : P.underlying kt = some (.int kd)) (e : Bool) (m : Nat) : (Instr.checkKey e (m + 1) kt (.int kd n)).run P w = .ok () w := by
  unfold Instr.checkKey
  simp only [Sem.run_bind, run_underlying, h, Result.andThen_ok]
  rfl
theorem run_findInt {kt : TypeId} {kd : IntKind} {k : Value} {l : List MapEntry} {r : Option (Nat × Value)} (h : P.underlying kt = some (.int kd)) (hf : Instr.findNow (.int kd) k l 0 = some r) : (Instr.findKey kt k l).run P w = .ok r w := by
  simp [Instr.findKey, run_underlying, h, hf]

theorem lookup_ok {t : TypeId} {x k : Operand} {ok : Bool} (h : RelSt s D w a) (hd : dstOk o s) (ho : o.op = .lookup t x k ok) (hx : xlookup P t s.S (ev s x) (ev s k) ok (fun y => K (s.put o.dst y))) :
    OpWP P o (Post s D w K) a w := by
  unfold xlookup at hx
  split at hx
  · rename_i kd z b kd' n hmi hxe hke
    split at hx
    · rename_i kd'' es clk hb
      obtain ⟨rfl, rfl, hK⟩ := hx
      obtain ⟨kt, e, i, zv, hu, hk, hi, hz, rfl⟩ := MI_some hmi
      obtain ⟨mes, hh, hrep, _⟩ := h.rel.blk _ _ hb
      have hr1 := ev_rep h x
      have hr2 := ev_rep h k
      rw [hxe] at hr1
      rw [hke] at hr2
      generalize hv1 : a.eval x = v1 at hr1
      generalize hv2 : a.eval k = v2 at hr2
      cases hr1
      cases hr2 with
      | p hp =>
      cases hp
      rcases find_ok n hrep 0 with ⟨h1, h2⟩ | ⟨j, v, y, h1, h2, h3, _⟩
      · rw [h1] at hK
        refine val_ok h hd (v := if ok = true then .tuple #[zv, .bool false] else zv) ?_ ?_ hK
        · simp only [execOp, ho, Instr.lookup, hv1, hv2, Sem.run_bind, run_underlying, hu, Result.andThen_ok, run_getMap hh, Sem.run_pure, run_checkInt hk, run_findInt hk h2, run_zeroValue P w e hi hz]
        · cases ok with
          | true => exact .tuple _ _ rfl (fun i hi => by
              match i, hi with
              | 0, _ => exact zAV_rep _ _ _
              | 1, _ => exact .p (.bool _))
          | false => exact zAV_rep _ _ _
      · rw [h2] at hK
        rw [Nat.zero_add] at h1
        refine val_ok h hd (v := if ok = true then .tuple #[v, .bool true] else v) ?_ ?_ hK
        · simp only [execOp, ho, Instr.lookup, hv1, hv2, Sem.run_bind, run_underlying, hu, Result.andThen_ok, run_getMap hh, Sem.run_pure, run_checkInt hk, run_findInt hk h1]
        · cases ok with
          | true => exact .tuple _ _ rfl (fun i hi => by
              match i, hi with
              | 0, _ => exact h3
              | 1, _ => exact .p (.bool _))
          | false => exact h3
    · exact hx.elim
  · exact hx.elim

theorem MRep.append {kd : IntKind} {l m : List MapEntry} {l' m' : List (Nat × Int × AV)} (h : MRep D w kd l l') (k : MRep D w kd m m') : MRep D w kd (l ++ m) (l' ++ m') := by
  induction h with
  | nil => exact k
  | cons born n v x r r' h _ ih => exact .cons born n v x _ _ h ih

theorem bsize_map {b : Nat} {mes : Array MapEntry} {clk : Nat} (h : w.heap[b]? = some (.map mes clk)) : bsize w b = 0 := by simp [bsize, h]
theorem bsize_iter {b : Nat} {m : Option Nat} {c d : Nat} {seen : Array Nat} (h : w.heap[b]? = some (.mapIter m c seen d)) : bsize w b = 0 := by simp [bsize, h]

theorem df_mp {s : St} {b : Nat} {kd : IntKind} {es : List (Nat × Int × AV)} {clk : Nat} {y : Blk} (hx : s.S (.r b) = some (.mp kd es clk)) (h : ∀ r ∈ s.df, s.S (.r r) = some (.raw (.deferred (some [])) noKn)) :
    ∀ r ∈ s.df, (s.S.set (.r b) y) (.r r) = some (.raw (.deferred (some [])) noKn) := df_set hx (fun _ _ => by simp) h
theorem df_iter {s : St} {b m : Nat} {c d : Nat} {seen : Array Nat} {kn : Nat → Value × AV} {y : Blk} (hx : s.S (.r b) = some (.raw (.mapIter (some m) c seen d) kn)) (h : ∀ r ∈ s.df, s.S (.r r) = some (.raw (.deferred (some [])) noKn)) :
    ∀ r ∈ s.df, (s.S.set (.r b) y) (.r r) = some (.raw (.deferred (some [])) noKn) := by
  intro r hr
  have := h r hr
  rw [Store.set_other]; exact this
  intro e; cases e; rw [hx] at this; cases this

theorem mapUpdate_ok {t : TypeId} {x k y : Operand} (h : RelSt s D w a) (hd : dstOk o s) (ho : o.op = .mapUpdate t x k y) (hx : xmapUpdate P t s.S (ev s x) (ev s k) (ev s y) (fun S' => K ((s.withS S').put o.dst .top))) :
    OpWP P o (Post s D w K) a w := by
  unfold xmapUpdate at hx
  split at hx
  · rename_i kd z b kd' n hmi hxe hke
    split at hx
    · rename_i kd'' es clk hb
      obtain ⟨rfl, rfl, hK⟩ := hx
      obtain ⟨kt, e, i, zv, hu, hk, hi, hz, rfl⟩ := MI_some hmi
      obtain ⟨mes, hh, hrep, hD⟩ := h.rel.blk _ _ hb
      have hlt : b < w.heap.size := (Array.getElem?_eq_some_iff.1 hh).1
      have hr1 := ev_rep h x
      have hr2 := ev_rep h k
      have hr3 := ev_rep h y
      rw [hxe] at hr1
      rw [hke] at hr2
      generalize hv1 : a.eval x = v1 at hr1
      generalize hv2 : a.eval k = v2 at hr2
      generalize hv3 : a.eval y = v3 at hr3
      cases hr1
      cases hr2 with
      | p hp =>
      cases hp
      have hset : ∀ o', (setObj b o').run P w = .ok () (World.putO w b o') := fun o' => run_setMap hh (by simp)
      rcases find_ok n hrep 0 with ⟨h1, h2⟩ | ⟨j, v, y', h1, h2, h3, h4, h5, h6⟩
      · have hm : MRep D w kd'' (mes.push { key := .int kd'' n, val := v3, born := clk }).toList (mput n (ev s y) clk es) := by
          simp only [mput, h1, Option.isSome_none, Bool.false_eq_true, if_false, Array.toList_push]
          exact hrep.append (.cons _ _ _ _ _ _ hr3 .nil)
        obtain ⟨hR, hE⟩ := put_obj h.rel (o' := .map (mes.push { key := .int kd'' n, val := v3, born := clk }) (clk + 1)) (x' := .mp kd'' (mput n (ev s y) clk es) (mclk n clk es)) hb hlt (bsize_map hh) hD
          (fun hl => ⟨_, by rw [putO_same w _ hlt]; simp [mclk, h1], hm.later hl, hD⟩)
        refine skip_ok h hd ?_ hR hE (df_mp hb h.df) hK
        simp only [execOp, ho, Instr.mapUpdate, hv1, hv2, hv3, Sem.run_bind, run_underlying, hu, Result.andThen_ok, run_getMap hh, Sem.run_pure, run_checkInt hk, run_findInt hk h2, hset]
      · rw [Nat.zero_add] at h1
        have hj : j < mes.size := by simpa using h4
        have hkey : ((mes[j]?).map (·.key)).getD (.int kd'' n) = .int kd'' n := by
          have h' := h5 mes[j] (by simp [hj])
          simp [hj, h']
        have hm : MRep D w kd'' (mes.modify j fun e => { e with key := .int kd'' n, val := v3 }).toList (mput n (ev s y) clk es) := by
          simp only [mput, h2, Option.isSome_some, if_true, Array.toList_modify]
          exact h6 _ _ hr3
        obtain ⟨hR, hE⟩ := put_obj h.rel (o' := .map (mes.modify j fun e => { e with key := .int kd'' n, val := v3 }) clk) (x' := .mp kd'' (mput n (ev s y) clk es) (mclk n clk es)) hb hlt (bsize_map hh) hD
          (fun hl => ⟨_, by rw [putO_same w _ hlt]; simp [mclk, h2], hm.later hl, hD⟩)
        refine skip_ok h hd ?_ hR hE (df_mp hb h.df) hK
        have hkt : (Instr.keyThatStays (.int kd'' n) (.int kd'' n)).run P w = .ok (.int kd'' n) w := by
          simp [Instr.keyThatStays, Instr.sameBits]
        simp only [execOp, ho, Instr.mapUpdate, hv1, hv2, hv3, Sem.run_bind, run_underlying, hu, Result.andThen_ok, run_getMap hh, Sem.run_pure, run_checkInt hk, run_findInt hk h1, hkey, hkt, hset]
    · exact hx.elim
  · exact hx.elim

theorem makeMap_ok {t : TypeId} (h : RelSt s D w a) (hd : dstOk o s) (ho : o.op = .makeMap t none) (hx : xmakeMap P t s.S (fun x S' => K ((s.withS S').put o.dst x))) :
    OpWP P o (Post s D w K) a w := by
  unfold xmakeMap at hx
  split at hx
  · rename_i kd z hmi
    obtain ⟨hR, hE⟩ := push_own h.rel (.map #[] 0) (.mp kd [] 0) ⟨#[], push_new _ _, .nil, by simp [Prot.up]⟩
    refine valw_ok h hd ?_ hR hE (df_new h.rel.newr h.df) (.map _) (hx w.heap.size h.rel.newr)
    simp only [execOp, ho, Instr.makeMap, Sem.run_bind, newObj, Sem.run, Sem.run_pure, Option.map_none]
    rfl
  · exact hx.elim

theorem range_ok {t : TypeId} {x : Operand} (h : RelSt s D w a) (hd : dstOk o s) (ho : o.op = .range t x) (hx : xrange P t s.S (ev s x) (fun x S' => K ((s.withS S').put o.dst x))) :
    OpWP P o (Post s D w K) a w := by
  unfold xrange at hx
  split at hx
  · rename_i mi m hmi hxe
    split at hx
    · rename_i kd es clk hb
      obtain ⟨kt, e, i, zv, hu, hk, hi, hz, _⟩ := MI_some (kd := mi.1) (z := mi.2) hmi
      obtain ⟨mes, hh, hrep, hD⟩ := h.rel.blk _ _ hb
      have hr1 := ev_rep h x
      rw [hxe] at hr1
      generalize hv1 : a.eval x = v1 at hr1
      cases hr1
      obtain ⟨hR, hE⟩ := push_own h.rel (.mapIter (some m) clk #[] clk) (.raw (.mapIter (some m) clk #[] clk) noKn) ⟨push_new _ _, by simp [Prot.up], fun t => .top _⟩
      refine valw_ok h hd ?_ hR hE (df_new h.rel.newr h.df) (.sp _ 0) (hx w.heap.size h.rel.newr)
      simp only [execOp, ho, Instr.range, hv1, Sem.run_bind, run_underlying, hu, Result.andThen_ok, run_getMap hh, newObj, Sem.run, Sem.run_pure]
      rfl
    · exact hx.elim
  · exact hx.elim

theorem MRep.filter {kd : IntKind} {l : List MapEntry} {l' : List (Nat × Int × AV)} (h : MRep D w kd l l') (p : Nat → Bool) : MRep D w kd (l.filter fun e => p e.born) (l'.filter fun e => p e.1) := by
  induction h with
  | nil => exact .nil
  | cons born n v x r r' h _ ih =>
    simp only [List.filter_cons]
    cases p born with
    | true => exact .cons born n v x _ _ h ih
    | false => exact ih
theorem MRep.get {kd : IntKind} {l : List MapEntry} {l' : List (Nat × Int × AV)} (h : MRep D w kd l l') : ∀ (i : Nat) (e : MapEntry), l[i]? = some e → ∃ n x, (e.born, n, x) ∈ l' ∧ e.key = .int kd n ∧ RepA D w e.val x := by
  induction h with
  | nil => intro i e h; simp at h
  | cons born n v x r r' h _ ih =>
    intro i e he
    cases i with
    | zero => simp at he; subst he; exact ⟨n, x, by simp, rfl, h⟩
    | succ i =>
      simp at he
      obtain ⟨m, y, h1, h2⟩ := ih i e he
      exact ⟨m, y, by simp [h1], h2⟩
theorem MRep.len {kd : IntKind} {l : List MapEntry} {l' : List (Nat × Int × AV)} (h : MRep D w kd l l') : l.length = l'.length := by
  induction h with
  | nil => rfl
  | cons born n v x r r' h _ ih => simp [ih]
theorem MRep.back {kd : IntKind} {l : List MapEntry} {l' : List (Nat × Int × AV)} (h : MRep D w kd l l') {e : Nat × Int × AV} (he : e ∈ l') : ∃ m ∈ l, m.born = e.1 := by
  induction h with
  | nil => simp at he
  | cons born n v x r r' h _ ih =>
    rcases List.mem_cons.1 he with rfl | he
    · exact ⟨_, List.mem_cons_self, rfl⟩
    · obtain ⟨m, hm, e⟩ := ih he; exact ⟨m, by simp [hm], e⟩
theorem MRep.front {kd : IntKind} {l : List MapEntry} {l' : List (Nat × Int × AV)} (h : MRep D w kd l l') {e : MapEntry} (he : e ∈ l) : ∃ m ∈ l', m.1 = e.born := by
  obtain ⟨i, hi, rfl⟩ := List.getElem_of_mem he
  obtain ⟨n, x, h1, _⟩ := h.get i l[i] (by simp [hi])
  exact ⟨_, h1, rfl⟩

theorem next_ok {x : Operand} (h : RelSt s D w a) (hd : dstOk o s) (ho : o.op = .next x false) (hx : xnext s.S (ev s x) (fun x S' => K ((s.withS S').put o.dst x))) :
    OpWP P o (Post s D w K) a w := by
  unfold xnext at hx
  split at hx
  · rename_i r hxe
    split at hx
    · rename_i m since seen last kn hbr
      obtain ⟨rfl, hx⟩ := hx
      split at hx
      · rename_i kd es clk hb
        obtain ⟨⟨hold, hfine⟩, h0, h1⟩ := hx
        obtain ⟨mes, hh, hrep, hD⟩ := h.rel.blk _ _ hb
        obtain ⟨hhr, hDr, _⟩ := h.rel.blk _ _ hbr
        have hr1 := ev_rep h x
        rw [hxe] at hr1
        generalize hv1 : a.eval x = v1 at hr1
        cases hr1
        have hno : (!seen.isEmpty && !mes.isEmpty && mes.all (·.born ≥ last)) = false := by
          rcases hfine with rfl | rfl | ⟨e, he, hlt⟩
          · simp
          · have : mes = #[] := by
              have := hrep.len
              simpa using this
            subst this; simp
          · obtain ⟨me, hm, hme⟩ := hrep.back he
            have : mes.all (·.born ≥ last) = false := by
              rw [Bool.eq_false_iff]
              intro hall
              have := Array.all_eq_true'.1 hall me (Array.mem_toList_iff.1 hm)
              simp at this; omega
            simp [this]
        have hleft : MRep D w kd (mes.filter fun e => !seen.contains e.born).toList (mleft seen es) := by
          have := hrep.filter (fun b => !seen.contains b)
          simpa [mleft] using this
        generalize hL : (mes.filter fun e => !seen.contains e.born) = left at hleft
        have hlt : ∀ e ∈ left, e.born < since := by
          intro e he
          obtain ⟨m', hm', e'⟩ := hleft.front (Array.mem_toList_iff.2 he)
          rw [← e']
          exact hold m' (List.mem_filter.1 hm').1
        have hOld : left.filter (fun e => decide (e.born < since)) = left := by
          apply Array.filter_eq_self.2
          intro e he; simpa using hlt e he
        have hNew : left.filter (fun e => decide (e.born ≥ since)) = #[] := by
          apply Array.filter_eq_empty_iff.2
          intro e he; have := hlt e he; simp; omega
        by_cases hem : left = #[]
        · rw [hem] at hOld hNew
          have hf0 : (#[] : Array MapEntry).filter (fun e => decide (e.born < since)) = #[] := hOld
          have hch0 : (choose (.mapNext ((#[none] : Array (Option MapEntry)) ++ (#[] ++ #[] : Array MapEntry).map some).size)).run P w = .ok 0 w := by simp [run_choose, Question.forced]
          have hl0 : mleft seen es = [] := by
            have := hleft.len
            rw [hem] at this
            exact List.eq_nil_of_length_eq_zero this.symm
          refine val_ok (K := K) h hd (v := .tuple #[.bool false]) (x := .tuple [.p (.bool false)]) ?_ (.tuple _ _ rfl (fun i hi => by
            match i, hi with
            | 0, _ => exact .p (.bool _))) (by simpa [St.withS] using h0 hl0)
          simp only [execOp, ho, Instr.next, hv1, Sem.run_bind, run_getIter hhr, Result.andThen_ok, run_getMap hh, hno, Bool.false_eq_true, if_false, hL, hem, hOld, hNew, Array.isEmpty_empty, if_true, hch0]
          have e0 : ((#[none] : Array (Option MapEntry)) ++ (#[] ++ #[] : Array MapEntry).map some)[0]? = some none := by simp
          simp only [e0, Sem.run_pure, Result.andThen_ok]
        · have hpos : 0 < left.size := Array.size_pos_iff.2 hem
          have hne : left.isEmpty = false := by simpa [Array.isEmpty_iff] using hem
          have hcand : ((#[] : Array (Option MapEntry)) ++ (left ++ #[]).map some) = left.map some := by simp
          obtain ⟨i, w1, hch, hilt, hw1, hR1, hE1⟩ : ∃ i w1, (choose (.mapNext (left.map some).size)).run P w = .ok i w1 ∧ i < left.size ∧ w1.heap = w.heap ∧ Rel s.S D w1 ∧ Ext s.S D w s.S D w1 := by
            by_cases h1 : left.size ≤ 1
            · exact ⟨0, w, by simp [run_choose, Question.forced, h1], hpos, rfl, h.rel, Ext.refl _ _ _⟩
            · obtain ⟨hR1, hE1⟩ := drew_ok h.rel (w.drawn + 1)
              refine ⟨w.tape w.drawn (.mapNext left.size) % left.size, { w with drawn := w.drawn + 1 }, by simp [run_choose, Question.forced, Question.cut, h1], Nat.mod_lt _ hpos, rfl, hR1, hE1⟩
          obtain ⟨n, x', hmem, hkey, hval⟩ := hleft.get i left[i] (by simp [hilt])
          have hbr1 : w1.heap[r]? = some (.mapIter (some m) since seen last) := by rw [hw1]; exact hhr
          have hltr : r < w1.heap.size := (Array.getElem?_eq_some_iff.1 hbr1).1
          obtain ⟨hR, hE⟩ := put_obj hR1 (o' := .mapIter (some m) since (seen.push left[i].born) clk) (x' := .raw (.mapIter (some m) since (seen.push left[i].born) clk) noKn) hbr hltr (bsize_iter hbr1) hDr
            (fun hl => ⟨putO_same w1 _ hltr, hDr, fun t => .top _⟩)
          refine valw_ok h hd (v := .tuple #[.bool true, left[i].key, left[i].val]) ?_ hR (hE1.trans hE) (df_iter hbr h.df) (.tuple _ _ rfl (fun j hj => by
            match j, hj with
            | 0, _ => exact .p (.bool _)
            | 1, _ => show RepA _ _ left[i].key _; rw [hkey]; exact .p (.int _ _)
            | 2, _ => exact hval.later (hE1.trans hE).toLater)) (h1 _ hmem)
          have hget : (left.map some)[i]? = some (some left[i]) := by simp [hilt]
          have hset : ∀ o', (setObj r o').run P w1 = .ok () (World.putO w1 r o') := fun o' => run_setMap hbr1 (by simp)
          simp only [execOp, ho, Instr.next, hv1, Sem.run_bind, run_getIter hhr, Result.andThen_ok, run_getMap hh, hno, Bool.false_eq_true, if_false, hL, hOld, hNew, hne, hcand, hch, hget, hset, Sem.run_pure]
      · exact hx.elim
    · exact hx.elim
  · exact hx.elim

theorem mfind_ok {kd : IntKind} {b : Nat} {l : List MapEntry} {l' : List (Nat × Int × AV)} (h : MRep D w kd l l') {n : Int} {x : AV} (hf : mfind b l' = some (n, x)) :
    ∃ v, l.find? (·.born == b) = some { key := .int kd n, val := v, born := b } ∧ RepA D w v x := by
  induction h with
  | nil => cases hf
  | cons born m v y r r' hv _ ih =>
    simp only [mfind] at hf
    by_cases e : born = b
    · subst e
      simp only [if_true, Option.some.injEq, Prod.mk.injEq] at hf
      obtain ⟨rfl, rfl⟩ := hf
      exact ⟨v, by simp, hv⟩
    · rw [if_neg e] at hf
      obtain ⟨v', h1, h2⟩ := ih hf
      exact ⟨v', by rw [List.find?_cons]; have : (born == b) = false := by simpa using e
                    simp [this, h1], h2⟩

theorem entry_ok {x : Operand} (h : RelSt s D w a) (hd : dstOk o s) (ho : o.op = .entry x) (hx : xentry s.S (ev s x) (fun y => K (s.put o.dst y))) :
    OpWP P o (Post s D w K) a w := by
  unfold xentry at hx
  split at hx
  · rename_i r hxe
    split at hx
    · rename_i m since seen st kn hbr
      obtain ⟨rfl, hx⟩ := hx
      split at hx
      · rename_i kd es clk hb
        split at hx
        · rename_i b hbk
          obtain ⟨rfl, hx⟩ := hx
          split at hx
          rotate_left
          · exact hx.elim
          rename_i n y hf
          obtain ⟨mes, hh, hrep, hD⟩ := h.rel.blk _ _ hb
          obtain ⟨hhr, hDr, _⟩ := h.rel.blk _ _ hbr
          have hr1 := ev_rep h x
          rw [hxe] at hr1
          generalize hv1 : a.eval x = v1 at hr1
          cases hr1
          obtain ⟨v, h1, h2⟩ := mfind_ok hrep hf
          have h1' : mes.find? (·.born == b) = some { key := .int kd n, val := v, born := b } := by rw [← Array.find?_toList]; exact h1
          refine val_ok h hd (v := .tuple #[.int kd n, v]) ?_ (.tuple _ _ rfl (fun j hj => by
            match j, hj with
            | 0, _ => exact .p (.int _ _)
            | 1, _ => exact h2)) hx
          simp only [execOp, ho, Instr.entry, hv1, Sem.run_bind, run_getIter hhr, Result.andThen_ok, hbk, run_getMap hh, bne_self_eq_false, Bool.false_eq_true, if_false, h1', Sem.run_pure]
        · exact hx.elim
      · exact hx.elim
    · exact hx.elim
  · exact hx.elim
end
end Go.Sk
