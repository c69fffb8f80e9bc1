/- Slices that grow: append. -/
import Derived.Test.YthpfcfacofakoaaGreatSkH
set_option linter.unusedSimpArgs false
set_option linter.unusedVariables false
set_option linter.unusedSectionVars false
namespace Go.Sk
open Go

/-- The cells of elements, one behind the other. -/
def flatA (els : List (List PV)) : List AV := els.flatMap fun el => el.map .p
theorem flatA_length {els : List (List PV)} {sz : Nat} (h : ∀ el ∈ els, el.length = sz) : (flatA els).length = els.length * sz := by
  induction els with
  | nil => simp [flatA]
  | cons el els ih =>
    have := ih (fun x hx => h x (List.mem_cons_of_mem _ hx))
    simp only [flatA, List.flatMap_cons, List.length_append, List.length_map, List.length_cons] at this ⊢
    rw [this, h el (List.mem_cons_self ..), Nat.add_mul]; omega
theorem flatA_getD {els : List (List PV)} {sz : Nat} (h : ∀ el ∈ els, el.length = sz) : ∀ (i j : Nat), i < els.length → j < sz → (flatA els).getD (i * sz + j) .top = .p ((els.getD i []).getD j default) := by
  induction els with
  | nil => intro i j hi; simp at hi
  | cons el els ih =>
    intro i j hi hj
    have hel := h el (List.mem_cons_self ..)
    have ih := ih (fun x hx => h x (List.mem_cons_of_mem _ hx))
    simp only [flatA, List.flatMap_cons, List.getD_eq_getElem?_getD] at ih ⊢
    cases i with
    | zero =>
      rw [Nat.zero_mul, Nat.zero_add, List.getElem?_append_left (by simp; omega)]
      simp [hel, hj]
    | succ i =>
      rw [List.getElem?_append_right (by simp; rw [Nat.add_mul]; omega)]
      have e : (i + 1) * sz + j - (el.map AV.p).length = i * sz + j := by simp; rw [Nat.add_mul]; omega
      rw [e]
      have := ih i j (by simpa using hi) hj
      simpa using this
/-- A new slice: one that grows, or one that is written. -/
def TipP (sz : Nat) (els : List (List PV)) (S : Store) (C : AV → Store → Prop) : Prop := ∀ k, S (.v k) = none → ∀ loc, C (.ts k sz loc els) (S.set (.v k) (.tip sz els.length loc))
def OwnP (sz : Nat) (els : List (List PV)) (S : Store) (C : AV → Store → Prop) : Prop :=
  ∀ b c, S (.r b) = none → els.length ≤ c → C (.ms b sz 0 els.length c) (S.set (.r b) (.cells (flatA els ++ List.replicate ((c - els.length) * sz) .top)))
def NewP (sz : Nat) (els ys : List (List PV)) (S : Store) (C : AV → Store → Prop) : Prop := TipP sz (els ++ ys) S C ∨ (ys ≠ [] ∧ OwnP sz (els ++ ys) S C)

/-- What append makes, of x and the elements ys of another slice. -/
def xappend (P : Program) (t : TypeId) (S : Store) (x y : AV) (K : AV → Store → Prop) : Prop :=
  match XI P t with
  | some (none, sz, e) => match TI P e, pureS y with
    | some (_, _, z, by'), some ys => z.length = sz ∧ (∀ el ∈ ys, el.length = sz) ∧ match x with
      | .nils => ys.length * by' ≤ 2 ^ 47 ∧ ys.length < 2 ^ 62 ∧ NewP sz [] ys S K
      | .cs els => (∀ el ∈ els, el.length = sz) ∧ (els.length + ys.length) * by' ≤ 2 ^ 47 ∧ els.length + ys.length < 2 ^ 62 ∧ NewP sz els ys S K
      | .ts k z' loc els => z' = sz ∧ S (.v k) = some (.tip sz els.length loc) ∧ (∀ el ∈ els, el.length = sz) ∧ (els.length + ys.length) * by' ≤ 2 ^ 47 ∧ els.length + ys.length < 2 ^ 62 ∧
          ∀ loc', K (.ts k sz loc' (els ++ ys)) (S.set (.v k) (.tip sz (els ++ ys).length loc'))
      | _ => False
    | _, _ => False
  | _ => False

theorem growBy_le (n : Nat) : ∀ (r c : Nat), 256 ≤ c → c < 2 * n → Builtin.growBy n r c ≤ 2 * n := by
  intro r
  induction r with
  | zero => intro c _ h; simp only [Builtin.growBy]; omega
  | succ r ih =>
    intro c h1 h2
    simp only [Builtin.growBy]
    split
    · omega
    · exact ih _ (by omega) (by omega)

theorem nextcap_le (n c : Nat) (h : c < n) : Builtin.nextslicecap n c ≤ 2 * n := by
  unfold Builtin.nextslicecap
  split
  · omega
  · split
    · omega
    · exact growBy_le n 4 c (by omega) (by omega)

section
variable {P : Program} {D : Prot} {w : World}

/-- The cells of a slice that is data, one behind the other. -/
theorem run_firstCells {v : Value} {els : List (List PV)} (h : Rep D w v (.sl els)) (sz : Nat) (hall : ∀ el ∈ els, el.length = sz) :
    ∃ c : Array Value, (Builtin.firstCells sz els.length v).run P w = .ok c w ∧ c.size = els.length * sz ∧ (∀ i j, i < els.length → j < sz → Rep D w (c.getD (i * sz + j) undef) ((els.getD i []).getD j default)) := by
  rcases h.sl_inv with ⟨a0, rfl, rfl⟩ | ⟨b, off, cap, z, vs, rfl, hcap, hz, hc, hr⟩
  · exact ⟨#[], by cases a0 <;> simp [Builtin.firstCells, loadCells, loadCellsFrom], by simp, fun i j hi => by simp at hi⟩
  · by_cases hn : els.length = 0
    · have : els = [] := List.length_eq_zero_iff.1 hn
      subst this
      refine ⟨#[], ?_, by simp, fun i j hi => by simp at hi⟩
      simp [Builtin.firstCells, loadCells, loadCellsFrom]
    · have hzz : z = sz := by
        have hin : 0 < els.length := by omega
        rw [← hall _ (getD_mem (d := []) hin)]; exact (hz _ (getD_mem hin)).symm
      subst hzz
      refine ⟨Array.ofFn fun j : Fin (els.length * z) => vs (j / z) (j % z), ?_, by simp, fun i j hi hj => ?_⟩
      · simp only [Builtin.firstCells, loadCells]
        rw [run_loadCellsFrom P w ⟨b, off, none⟩ (fun k => vs (k / z) (k % z)) _ 0 #[] (fun j hj => ?_)]
        · simp
        · rw [Addr.add_mk]
          have hzp : 0 < z := Nat.pos_of_ne_zero (fun e => by subst e; simp at hj)
          have h1 : j / z < els.length := Nat.div_lt_of_lt_mul (by rw [Nat.mul_comm]; exact hj)
          have := (hc (j / z) (j % z) h1 (Nat.mod_lt _ hzp)).1
          rw [show 0 + j = j from by omega]
          rw [show off + j / z * z + j % z = off + j from by rw [Nat.add_assoc, Nat.div_add_mod']] at this
          exact this
      · have hlt : i * z + j < els.length * z := by
          have : (i + 1) * z ≤ els.length * z := Nat.mul_le_mul_right _ hi
          rw [Nat.add_mul] at this; omega
        have hg := ofFn_getD (els.length * z) (fun k => vs (k / z) (k % z)) (i * z + j) hlt
        rw [hg]
        have e1 : (i * z + j) / z = i := by rw [Nat.mul_comm, Nat.mul_add_div (by omega), Nat.div_eq_of_lt hj, Nat.add_zero]
        have e2 : (i * z + j) % z = j := by rw [Nat.mul_comm, Nat.mul_add_mod, Nat.mod_eq_of_lt hj]
        simp only [e1, e2]
        exact hr i j hi hj

/-- The elements of two lists, by the cells of both. -/
theorem getD_append_cells (els ys : List (List PV)) (i j : Nat) : ((els ++ ys).getD i []).getD j default = if i < els.length then (els.getD i []).getD j default else (ys.getD (i - els.length) []).getD j default := by
  simp only [List.getD_eq_getElem?_getD]
  by_cases h : i < els.length
  · rw [if_pos h, List.getElem?_append_left h]
  · rw [if_neg h, List.getElem?_append_right (by omega)]

theorem run_askRoom (n : Nat) : (askRoom n).run P w = .ok () w := by
  unfold askRoom; split <;> rfl

theorem run_append_grow {t u ty : TypeId} {e : TypeId} {inf : TypeInfo} {d : TypeDesc} {zv : Value} {base : Option Addr} {n cap m : Nat} {y : Value} {a2 : Option Addr} {c2 : Nat} {old new : Array Value}
    (hu : P.underlying t = some (.slice e)) (hi : P.info? e = some inf) (hz : inf.zero = some zv) (huu : P.underlying u = some d) (hd : ∀ k, d ≠ .int k)
    (hy : y = .slice a2 m c2) (hgt : cap < n + m) (hb : 2 * (n + m) * inf.bytes ≤ 2 ^ 48) (hs : n + m < 2 ^ 62)
    (ho : (Builtin.firstCells inf.size n (.slice base n cap)).run P { w with drawn := w.drawn + 1 } = .ok old { w with drawn := w.drawn + 1 })
    (hn : (Builtin.firstCells inf.size m y).run P { w with drawn := w.drawn + 1 } = .ok new { w with drawn := w.drawn + 1 }) :
    ∃ nc, n + m ≤ nc ∧ (Builtin.append_ #[t, u] ty #[.slice base n cap, y]).run P w =
      .ok (.slice (some ⟨w.heap.size, 0, none⟩) (n + m) nc) (World.push { w with drawn := w.drawn + 1 } (.cells (old ++ new ++ Builtin.zeroCells zv.cells (nc - (n + m))) e (0, 0))) := by
  have hzeros : (match d with | .int _ => true | _ => false) = false := by cases d <;> first | rfl | exact absurd rfl (hd _)
  have hnc : ¬ (Builtin.nextslicecap (n + m) cap * inf.bytes > 2 ^ 48) := by
    have := nextcap_le (n + m) cap hgt
    have := Nat.mul_le_mul_right inf.bytes this
    omega
  refine ⟨(Question.appendCap (n + m) cap e).cut (w.tape w.drawn (.appendCap (n + m) cap e)), by simp [Question.cut], ?_⟩
  subst hy
  simp only [Builtin.append_, List.getElem?_toArray, List.getElem?_cons_zero, List.getElem?_cons_succ, Sem.run_bind, run_underlying, hu, huu, Result.andThen_ok, run_sizeOf P w e hi, Sem.run_pure, hzeros,
    Bool.false_eq_true, if_false, Builtin.lenOf]
  rw [if_neg (by omega)]
  have hmax : ¬ ((((n + m : Nat) : Int)) > IntKind.i64.max ∧ (False ∨ inf.bytes = 0)) := by
    have e : IntKind.i64.max = 9223372036854775807 := rfl
    rw [e]; rintro ⟨h, _⟩; omega
  simp only [Sem.run_bind, run_typeInfo, hi, Result.andThen_ok]
  rw [if_neg hmax]
  simp only [Sem.run_bind, run_typeInfo, hi, Result.andThen_ok]
  rw [if_neg hnc]
  have hch : (choose (.appendCap (n + m) cap e)).run P w = .ok ((Question.appendCap (n + m) cap e).cut (w.tape w.drawn (.appendCap (n + m) cap e))) { w with drawn := w.drawn + 1 } := by
    simp [choose, Sem.run, Question.forced]
  simp only [Sem.run_bind, hch, run_typeInfo, hi, Result.andThen_ok, run_askRoom, ho, hn, run_zeroValue P _ e hi hz, Bool.not_false, if_true, newRow, newObj, Sem.run, Sem.run_pure]
  rfl

theorem run_append_in {t u ty : TypeId} {e : TypeId} {inf : TypeInfo} {d : TypeDesc} {b n cap m : Nat} {a2 : Option Addr} {c2 : Nat} {new vs : Array Value} {bt : TypeId}
    (hu : P.underlying t = some (.slice e)) (hi : P.info? e = some inf) (huu : P.underlying u = some d) (hd : ∀ k, d ≠ .int k)
    (hle : n + m ≤ cap) (hn : (Builtin.firstCells inf.size m (.slice a2 m c2)).run P w = .ok new w) (hsz : new.size = m * inf.size)
    (hh : w.heap[b]? = some (.cells vs bt (0, 0))) (hroom : (n + m) * inf.size ≤ vs.size) (hsc : ∀ v ∈ new.toList, (∀ c, v ≠ .agg c) ∧ (∀ c, v ≠ .tuple c)) :
    (Builtin.append_ #[t, u] ty #[.slice (some ⟨b, 0, none⟩) n cap, .slice a2 m c2]).run P w =
      .ok (.slice (some ⟨b, 0, none⟩) (n + m) cap) (World.putO w b (.cells (writeAt vs (n * inf.size) new.toList) bt (0, 0))) := by
  have hzeros : (match d with | .int _ => true | _ => false) = false := by cases d <;> first | rfl | exact absurd rfl (hd _)
  have hst := run_storeCells P b bt new.toList hsc w (n * inf.size) 0 vs hh (by rw [Nat.add_mul] at hroom; simp; omega)
  rw [Nat.add_zero] at hst
  simp only [Builtin.append_, List.getElem?_toArray, List.getElem?_cons_zero, List.getElem?_cons_succ, Sem.run_bind, run_underlying, hu, huu, Result.andThen_ok, run_sizeOf P w e hi, Sem.run_pure, hzeros,
    Bool.false_eq_true, if_false, Builtin.lenOf]
  rw [if_pos hle]
  simp only [Sem.run_bind, Bool.not_false, if_true, hn, Result.andThen_ok, Addr.add_mk, Nat.zero_add, hst, Sem.run_pure]

theorem run_append_zero {t u ty : TypeId} {e : TypeId} {inf : TypeInfo} {d : TypeDesc} {base : Option Addr} {n cap : Nat} {a2 : Option Addr} {c2 : Nat}
    (hu : P.underlying t = some (.slice e)) (hi : P.info? e = some inf) (huu : P.underlying u = some d) (hd : ∀ k, d ≠ .int k) (hle : n ≤ cap) :
    (Builtin.append_ #[t, u] ty #[.slice base n cap, .slice a2 0 c2]).run P w = .ok (.slice base n cap) w := by
  have hzeros : (match d with | .int _ => true | _ => false) = false := by cases d <;> first | rfl | exact absurd rfl (hd _)
  have hn : (Builtin.firstCells inf.size 0 (.slice a2 0 c2)).run P w = .ok #[] w := by
    cases a2 with
    | none => rfl
    | some a => simp [Builtin.firstCells, loadCells, loadCellsFrom]
  simp only [Builtin.append_, List.getElem?_toArray, List.getElem?_cons_zero, List.getElem?_cons_succ, Sem.run_bind, run_underlying, hu, huu, Result.andThen_ok, run_sizeOf P w e hi, Sem.run_pure, hzeros,
    Bool.false_eq_true, if_false, Builtin.lenOf]
  rw [if_pos (by omega)]
  simp only [Sem.run_bind, Bool.not_false, if_true, hn, Result.andThen_ok, Sem.run_pure]
  cases base with
  | none => rfl
  | some b => simp only [storeCells, Sem.run_bind, Sem.run_pure, Result.andThen_ok]; rfl

theorem rep_scalar {v : Value} {x : PV} (h : Rep D w v x) : (∀ c, v ≠ .agg c) ∧ (∀ c, v ≠ .tuple c) := by cases h <;> simp

theorem cells_scalar {c : Array Value} {els : List (List PV)} {sz : Nat} (hs : c.size = els.length * sz) (hr : ∀ i j, i < els.length → j < sz → Rep D w (c.getD (i * sz + j) undef) ((els.getD i []).getD j default)) :
    ∀ v ∈ c.toList, (∀ c, v ≠ .agg c) ∧ (∀ c, v ≠ .tuple c) := by
  intro v hv
  obtain ⟨k, hk, rfl⟩ := List.getElem_of_mem hv
  simp only [Array.length_toList] at hk
  have hzp : 0 < sz := Nat.pos_of_ne_zero (fun e => by rw [e, Nat.mul_zero] at hs; omega)
  have h1 : k / sz < els.length := Nat.div_lt_of_lt_mul (by rw [Nat.mul_comm]; omega)
  have := hr (k / sz) (k % sz) h1 (Nat.mod_lt _ hzp)
  rw [Nat.div_add_mod'] at this
  have e : c.getD k undef = c.toList[k] := by simp [Array.getD, hk]
  rw [← e]; exact rep_scalar this

theorem set_fin {S : Store} (h : ∃ N, ∀ k, N ≤ k → S (.v k) = none) (j : Nat) (x : Blk) : ∃ N, ∀ k, N ≤ k → (S.set (.v j) x) (.v k) = none := by
  obtain ⟨N, hN⟩ := h
  exact ⟨max N (j + 1), fun k hk => by rw [Store.set_other _ _ (by simp; omega)]; exact hN k (by omega)⟩

theorem tip_new {S : Store} (hR : Rel S D w) (c : Array Value) (e : TypeId) (k sz n : Nat) (hk : ∀ x, S (.v k) = some x → ∃ z m loc, x = .tip z m loc) (hc : n * sz ≤ c.size) :
    Rel (S.set (.v k) (.tip sz n (some w.heap.size))) (Prot.up D w.heap.size (n * sz)) (World.push w (.cells c e (0, 0))) ∧
    Ext S D w (S.set (.v k) (.tip sz n (some w.heap.size))) (Prot.up D w.heap.size (n * sz)) (World.push w (.cells c e (0, 0))) := by
  have hnew := hR.newr
  refine ⟨⟨fun q x hq => ?_, fun b hb => ?_, set_fin hR.fin _ _, ?_, ?_⟩, ⟨push_later _ _ hR.dlt, fun b hb _ => push_get w _ b hb, fun b hb hn ho => ?_⟩⟩
  · by_cases e1 : q = .v k
    · subst e1; rw [Store.set_same] at hq; cases hq
      exact ⟨c, e, push_new w _, hc, by simp [Prot.up]⟩
    · rw [Store.set_other _ _ e1] at hq; exact push_blk hR _ _ hq
  · simp only [World.push, Array.size_push] at hb
    simp only [Prot.up]; rw [if_neg (by omega)]; exact hR.dlt b (by omega)
  · intro k1 k2 z1 z2 n1 n2 b h1 h2
    by_cases e1 : k1 = k
    · subst e1
      rw [Store.set_same] at h1; cases h1
      by_cases e2 : k2 = k1
      · exact e2.symm
      · rw [Store.set_other _ _ (by simpa using e2)] at h2
        exact absurd (hR.lt (Or.inr ⟨_, _, _, h2⟩)) (by omega)
    · rw [Store.set_other _ _ (by simpa using e1)] at h1
      by_cases e2 : k2 = k
      · subst e2
        rw [Store.set_same] at h2; cases h2
        exact absurd (hR.lt (Or.inr ⟨_, _, _, h1⟩)) (by omega)
      · rw [Store.set_other _ _ (by simpa using e2)] at h2
        exact hR.one _ _ _ _ _ _ _ h1 h2
  · intro k1 z1 n1 b h1
    rw [Store.set_other _ _ (by simp)]
    by_cases e1 : k1 = k
    · subst e1; rw [Store.set_same] at h1; cases h1; exact hnew
    · rw [Store.set_other _ _ (by simpa using e1)] at h1; exact hR.apart _ _ _ _ h1
  · refine hn ?_
    rcases ho with ho | ⟨k1, z1, n1, ho⟩
    · rw [Store.set_other _ _ (by simp)] at ho; exact Or.inl ho
    · by_cases e1 : k1 = k
      · subst e1; rw [Store.set_same] at ho; cases ho; omega
      · rw [Store.set_other _ _ (by simpa using e1)] at ho; exact Or.inr ⟨_, _, _, ho⟩

/-- A key that nobody has, with nothing behind it. -/
theorem tip_none {S : Store} (hR : Rel S D w) (k sz n : Nat) (hk : S (.v k) = none ∨ ∃ z m, S (.v k) = some (.tip z m none)) : Rel (S.set (.v k) (.tip sz n none)) D w ∧ Ext S D w (S.set (.v k) (.tip sz n none)) D w := by
  have no : ∀ z m b, S (.v k) ≠ some (.tip z m (some b)) := by
    rintro z m b h; rcases hk with hk | ⟨_, _, hk⟩ <;> rw [hk] at h <;> cases h
  refine ⟨⟨fun q x hq => ?_, hR.dlt, set_fin hR.fin _ _, ?_, ?_⟩, ⟨Later.refl _ _, fun _ _ _ => rfl, fun b hb hn ho => ?_⟩⟩
  · by_cases e1 : q = .v k
    · subst e1; rw [Store.set_same] at hq; cases hq; trivial
    · rw [Store.set_other _ _ e1] at hq; exact hR.blk _ _ hq
  · intro k1 k2 z1 z2 n1 n2 b h1 h2
    by_cases e1 : k1 = k
    · subst e1; rw [Store.set_same] at h1; cases h1
    · by_cases e2 : k2 = k
      · subst e2; rw [Store.set_same] at h2; cases h2
      · rw [Store.set_other _ _ (by simpa using e1)] at h1
        rw [Store.set_other _ _ (by simpa using e2)] at h2
        exact hR.one _ _ _ _ _ _ _ h1 h2
  · intro k1 z1 n1 b h1
    rw [Store.set_other _ _ (by simp)]
    by_cases e1 : k1 = k
    · subst e1; rw [Store.set_same] at h1; cases h1
    · rw [Store.set_other _ _ (by simpa using e1)] at h1; exact hR.apart _ _ _ _ h1
  · refine hn ?_
    rcases ho with ho | ⟨k1, z1, n1, ho⟩
    · rw [Store.set_other _ _ (by simp)] at ho; exact Or.inl ho
    · by_cases e1 : k1 = k
      · subst e1; rw [Store.set_same] at ho; cases ho
      · rw [Store.set_other _ _ (by simpa using e1)] at ho; exact Or.inr ⟨_, _, _, ho⟩

/-- The slice grows where it lies. -/
theorem tip_in {S : Store} (hR : Rel S D w) {k sz n b : Nat} {vs vs' : Array Value} {bt : TypeId} (hk : S (.v k) = some (.tip sz n (some b))) (hh : w.heap[b]? = some (.cells vs bt (0, 0))) (hs : vs'.size = vs.size)
    (hD : D b = n * sz) (hsame : ∀ o, o < n * sz → vs'[o]? = vs[o]?) (m : Nat) (hnm : n ≤ m) (hm : m * sz ≤ vs.size) :
    Rel (S.set (.v k) (.tip sz m (some b))) (Prot.up D b (m * sz)) (World.putO w b (.cells vs' bt (0, 0))) ∧
    Ext S D w (S.set (.v k) (.tip sz m (some b))) (Prot.up D b (m * sz)) (World.putO w b (.cells vs' bt (0, 0))) := by
  have hlt : b < w.heap.size := (Array.getElem?_eq_some_iff.1 hh).1
  have hl := put_later (D := D) (n := m * sz) hh (vs' := vs') (by omega) (by rw [hD]; exact Nat.mul_le_mul_right _ hnm) (fun o ho => hsame o (by omega))
  have hown : Owned S b := Or.inr ⟨k, sz, n, hk⟩
  refine ⟨⟨fun q x hq => ?_, fun c hc => ?_, set_fin hR.fin _ _, ?_, ?_⟩, ⟨hl, fun c hc hn => ?_, fun c hc hn ho => ?_⟩⟩
  · by_cases e1 : q = .v k
    · subst e1; rw [Store.set_same] at hq; cases hq
      exact ⟨vs', bt, putO_same w _ hlt, by omega, by simp [Prot.up]⟩
    · rw [Store.set_other _ _ e1] at hq
      refine (hR.blk _ _ hq).later hl ?_
      intro c hc
      have hcb : c ≠ b := by
        rintro rfl
        rcases hc with rfl | ⟨z, j, rfl⟩
        · have := hR.apart k sz n c hk; rw [hq] at this; cases this
        · cases q with
          | r d => exact (hR.blk _ _ hq).elim
          | v q => exact e1 (by rw [hR.one _ _ _ _ _ _ _ hq hk])
      exact ⟨putO_other w _ hcb, by simp only [Prot.up]; rw [if_neg hcb]⟩
  · simp only [World.putO, Array.size_setIfInBounds] at hc
    simp only [Prot.up]; rw [if_neg (by omega)]; exact hR.dlt c hc
  · intro k1 k2 z1 z2 n1 n2 c h1 h2
    by_cases e1 : k1 = k
    · subst e1
      rw [Store.set_same] at h1; cases h1
      by_cases e2 : k2 = k1
      · exact e2.symm
      · rw [Store.set_other _ _ (by simpa using e2)] at h2
        exact hR.one _ _ _ _ _ _ _ hk h2
    · rw [Store.set_other _ _ (by simpa using e1)] at h1
      by_cases e2 : k2 = k
      · subst e2
        rw [Store.set_same] at h2; cases h2
        exact hR.one _ _ _ _ _ _ _ h1 hk
      · rw [Store.set_other _ _ (by simpa using e2)] at h2
        exact hR.one _ _ _ _ _ _ _ h1 h2
  · intro k1 z1 n1 c h1
    rw [Store.set_other _ _ (by simp)]
    by_cases e1 : k1 = k
    · subst e1; rw [Store.set_same] at h1; cases h1; exact hR.apart _ _ _ _ hk
    · rw [Store.set_other _ _ (by simpa using e1)] at h1; exact hR.apart _ _ _ _ h1
  · exact putO_other w _ (by rintro rfl; exact hn hown)
  · refine hn ?_
    rcases ho with ho | ⟨k1, z1, n1, ho⟩
    · rw [Store.set_other _ _ (by simp)] at ho; exact Or.inl ho
    · by_cases e1 : k1 = k
      · subst e1; rw [Store.set_same] at ho; cases ho; exact hown
      · rw [Store.set_other _ _ (by simpa using e1)] at ho; exact Or.inr ⟨_, _, _, ho⟩

/-- The new block behind a slice that had to move. -/
theorem grow_rep {v vy : Value} {els ys : List (List PV)} {sz nc : Nat} {old new rest : Array Value} {e : TypeId} {D' : Prot} {b : Nat} {w' : World}
    (hall : ∀ el ∈ els, el.length = sz) (hally : ∀ el ∈ ys, el.length = sz)
    (ho : old.size = els.length * sz) (hor : ∀ i j, i < els.length → j < sz → Rep D' w' (old.getD (i * sz + j) undef) ((els.getD i []).getD j default))
    (hn : new.size = ys.length * sz) (hnr : ∀ i j, i < ys.length → j < sz → Rep D' w' (new.getD (i * sz + j) undef) ((ys.getD i []).getD j default))
    (hh : w'.heap[b]? = some (.cells (old ++ new ++ rest) e (0, 0))) (hD : D' b = (els ++ ys).length * sz) (hnc : (els ++ ys).length ≤ nc) :
    Rep D' w' (.slice (some ⟨b, 0, none⟩) (els ++ ys).length nc) (.sl (els ++ ys)) := by
  have hget : ∀ i j, i < (els ++ ys).length → j < sz → (old ++ new ++ rest)[i * sz + j]? = some (if i < els.length then old.getD (i * sz + j) undef else new.getD ((i - els.length) * sz + j) undef) := by
    intro i j hi hj
    simp only [List.length_append] at hi
    by_cases h1 : i < els.length
    · have hlt : i * sz + j < els.length * sz := by
        have : (i + 1) * sz ≤ els.length * sz := Nat.mul_le_mul_right _ h1
        rw [Nat.add_mul] at this; omega
      rw [if_pos h1, Array.append_assoc, Array.getElem?_append_left (by omega)]
      simp only [Array.getD]; rw [dif_pos (by omega)]; exact Array.getElem?_eq_getElem (by omega)
    · obtain ⟨q, rfl⟩ : ∃ q, i = els.length + q := ⟨i - els.length, by omega⟩
      have hq : q < ys.length := by omega
      have hlt : q * sz + j < ys.length * sz := by
        have : (q + 1) * sz ≤ ys.length * sz := Nat.mul_le_mul_right _ hq
        rw [Nat.add_mul] at this; omega
      rw [if_neg h1, Array.append_assoc, Array.getElem?_append_right (by rw [Nat.add_mul]; omega), Array.getElem?_append_left (by rw [Nat.add_mul]; omega)]
      have e1 : (els.length + q) * sz + j - old.size = q * sz + j := by rw [Nat.add_mul, ho]; omega
      rw [e1, show els.length + q - els.length = q from by omega]
      simp only [Array.getD]; rw [dif_pos (by omega)]; exact Array.getElem?_eq_getElem (by omega)
  refine .sl b 0 nc sz (els ++ ys) (fun i j => if i < els.length then old.getD (i * sz + j) undef else new.getD ((i - els.length) * sz + j) undef) hnc
    (fun el hel => by rcases List.mem_append.1 hel with h | h; exact hall _ h; exact hally _ h) (fun i j hi hj => ?_) (fun i j hi hj => ?_)
  · rw [cell_cells hh, Nat.zero_add]
    refine ⟨hget i j hi hj, ?_⟩
    rw [hD]
    have : (i + 1) * sz ≤ (els ++ ys).length * sz := Nat.mul_le_mul_right _ hi
    rw [Nat.add_mul] at this; omega
  · rw [getD_append_cells]
    simp only [List.length_append] at hi
    by_cases h1 : i < els.length
    · rw [if_pos h1, if_pos h1]; exact hor i j h1 hj
    · rw [if_neg h1, if_neg h1]; exact hnr _ _ (by omega) hj

theorem xappend_ok {S : Store} {vx vy : Value} {x y : AV} {t u ty : TypeId} {K : AV → Store → Prop} (hR : Rel S D w) (hx : RepA D w vx x) (hy : RepA D w vy y)
    {d : TypeDesc} (huu : P.underlying u = some d) (hd : ∀ k, d ≠ .int k) (h : xappend P t S x y K) :
    ∃ v w' D' x' S', (Builtin.append_ #[t, u] ty #[vx, vy]).run P w = .ok v w' ∧ Rel S' D' w' ∧ Ext S D w S' D' w' ∧ RepA D' w' v x' ∧ K x' S' ∧ ∀ r z, S (.r r) = some z → S' (.r r) = some z := by
  have keep : ∀ k (z : Blk) r zz, S (.r r) = some zz → (S.set (.v k) z) (.r r) = some zz := fun k z r zz hr => by rw [Store.set_other _ _ (by simp)]; exact hr
  unfold xappend at h
  split at h
  · rename_i sz e hxi
    obtain ⟨hu, inf, hinf, hsz⟩ := XI_slice hxi
    split at h
    · rename_i ag sz' z by' ys hti hys
      obtain ⟨i, dd, zv, hi, hu', hz, _, hisz, hzz, hby⟩ := TI_some hti
      rw [hinf] at hi; cases hi
      subst hzz
      obtain ⟨hzl, hally, h⟩ := h
      simp only [List.length_map, Array.length_toList] at hzl
      have hpy := pureS_rep hy hys
      have hyv : ∃ a2 c2, vy = .slice a2 ys.length c2 := by
        rcases hpy.sl_inv with ⟨_, h1, rfl⟩ | ⟨b, off, cap, z, vs, h1, _⟩
        · exact ⟨_, _, h1⟩
        · exact ⟨_, _, h1⟩
      obtain ⟨a2, c2, hyv⟩ := hyv
      obtain ⟨N, hN⟩ := hR.fin
      -- a slice that must move
      have grow : ∀ (base : Option Addr) (cap : Nat) (els : List (List PV)) (k : Nat), vx = .slice base els.length cap → Rep D w vx (.sl els) → (∀ el ∈ els, el.length = sz) → cap < els.length + ys.length →
          (els.length + ys.length) * by' ≤ 2 ^ 47 → els.length + ys.length < 2 ^ 62 → (∀ q, S (.v k) = some q → ∃ z m loc, q = .tip z m loc) →
          (∀ loc, K (.ts k sz loc (els ++ ys)) (S.set (.v k) (.tip sz (els ++ ys).length loc))) →
          ∃ v w' D' x' S', (Builtin.append_ #[t, u] ty #[vx, vy]).run P w = .ok v w' ∧ Rel S' D' w' ∧ Ext S D w S' D' w' ∧ RepA D' w' v x' ∧ K x' S' ∧ ∀ r z, S (.r r) = some z → S' (.r r) = some z := by
        intro base cap els k hvx hpx hall hgt hb hlt hk hK
        obtain ⟨hR1, hE1⟩ := drew_ok hR (w.drawn + 1)
        obtain ⟨old, ho1, ho2, ho3⟩ := run_firstCells (P := P) (hpx.later hE1.toLater) sz hall
        obtain ⟨new, hn1, hn2, hn3⟩ := run_firstCells (P := P) (hpy.later hE1.toLater) sz hally
        rw [hvx, ← hsz] at ho1
        rw [← hsz] at hn1
        obtain ⟨nc, hnc, hrun⟩ := run_append_grow (P := P) (w := w) (ty := ty) hu hinf hz huu hd hyv hgt (by rw [hby, Nat.mul_assoc]; omega) hlt ho1 hn1
        have hsz0 : (old ++ new ++ Builtin.zeroCells zv.cells (nc - (els.length + ys.length))).size = nc * sz := by
          simp only [Array.size_append, Builtin.zeroCells, Array.size_map, Array.size_range, ho2, hn2, hzl]
          rw [← Nat.add_mul, ← Nat.add_mul]; congr 1; omega
        have hlen : (els ++ ys).length = els.length + ys.length := by simp
        obtain ⟨hR2, hE2⟩ := tip_new hR1 (old ++ new ++ Builtin.zeroCells zv.cells (nc - (els.length + ys.length))) e k sz (els ++ ys).length hk (by rw [hsz0, hlen]; exact Nat.mul_le_mul_right _ hnc)
        refine ⟨.slice (some ⟨w.heap.size, 0, none⟩) (els ++ ys).length nc, _, _, .ts k sz (some w.heap.size) (els ++ ys), _, by rw [hvx, hlen]; exact hrun, hR2, hE1.trans hE2, ?_, hK _, keep _ _⟩
        have hrep := grow_rep (v := vx) (vy := vy) (nc := nc) hall hally ho2 (fun i j hi hj => (ho3 i j hi hj).later hE2.toLater) hn2 (fun i j hi hj => (hn3 i j hi hj).later hE2.toLater)
          (push_new { w with drawn := w.drawn + 1 } _) (by simp [Prot.up]) (by omega)
        refine .ts k w.heap.size nc sz (els ++ ys) hrep (fun el hel => by rcases List.mem_append.1 hel with h | h; exact hall _ h; exact hally _ h) ?_
        rw [bsize_cells (push_new { w with drawn := w.drawn + 1 } _), hsz0]; exact Nat.le_refl _
      -- a slice with no room: it moves, if anything is appended
      have full : ∀ (base : Option Addr) (els : List (List PV)) (k : Nat), vx = .slice base els.length els.length → Rep D w vx (.sl els) → (∀ el ∈ els, el.length = sz) →
          (els.length + ys.length) * by' ≤ 2 ^ 47 → els.length + ys.length < 2 ^ 62 → (S (.v k) = none ∨ ∃ z m, S (.v k) = some (.tip z m none)) →
          (∀ loc, K (.ts k sz loc (els ++ ys)) (S.set (.v k) (.tip sz (els ++ ys).length loc))) →
          ∃ v w' D' x' S', (Builtin.append_ #[t, u] ty #[vx, vy]).run P w = .ok v w' ∧ Rel S' D' w' ∧ Ext S D w S' D' w' ∧ RepA D' w' v x' ∧ K x' S' ∧ ∀ r z, S (.r r) = some z → S' (.r r) = some z := by
        intro base els k hvx hpx hall hb hlt hk hK
        by_cases h0 : ys.length = 0
        · have hys0 : ys = [] := List.length_eq_zero_iff.1 h0
          subst hys0
          obtain ⟨hR2, hE2⟩ := tip_none hR k sz (els ++ []).length hk
          refine ⟨vx, w, D, .ts k sz none (els ++ []), _, ?_, hR2, hE2, ?_, hK none, keep _ _⟩
          · rw [hyv, hvx]; exact run_append_zero hu hinf huu hd (Nat.le_refl _)
          · rw [List.append_nil, hvx]; rw [hvx] at hpx; exact .tsc k sz base els.length els hpx
        · exact grow base els.length els k hvx hpx hall (by omega) hb hlt (fun q hq => by
            rcases hk with hk | ⟨z, m, hk⟩ <;> rw [hk] at hq <;> cases hq; exact ⟨_, _, _, rfl⟩) hK
      -- a slice that must move, and is written then
      have own : ∀ (base : Option Addr) (els : List (List PV)), vx = .slice base els.length els.length → Rep D w vx (.sl els) → (∀ el ∈ els, el.length = sz) →
          (els.length + ys.length) * by' ≤ 2 ^ 47 → els.length + ys.length < 2 ^ 62 → ys ≠ [] → OwnP sz (els ++ ys) S K →
          ∃ v w' D' x' S', (Builtin.append_ #[t, u] ty #[vx, vy]).run P w = .ok v w' ∧ Rel S' D' w' ∧ Ext S D w S' D' w' ∧ RepA D' w' v x' ∧ K x' S' ∧ ∀ r z, S (.r r) = some z → S' (.r r) = some z := by
        intro base els hvx hpx hall hb hlt hne hK
        have hpos : 0 < ys.length := List.length_pos_iff.2 hne
        obtain ⟨hR1, hE1⟩ := drew_ok hR (w.drawn + 1)
        obtain ⟨old, ho1, ho2, ho3⟩ := run_firstCells (P := P) (hpx.later hE1.toLater) sz hall
        obtain ⟨new, hn1, hn2, hn3⟩ := run_firstCells (P := P) (hpy.later hE1.toLater) sz hally
        rw [hvx, ← hsz] at ho1
        rw [← hsz] at hn1
        obtain ⟨nc, hnc, hrun⟩ := run_append_grow (P := P) (w := w) (ty := ty) hu hinf hz huu hd hyv (by omega) (by rw [hby, Nat.mul_assoc]; omega) hlt ho1 hn1
        have hlen : (els ++ ys).length = els.length + ys.length := by simp
        have hally2 : ∀ el ∈ els ++ ys, el.length = sz := fun el hel => by rcases List.mem_append.1 hel with h | h; exact hall _ h; exact hally _ h
        have hfl := flatA_length hally2
        have hsz0 : (old ++ new ++ Builtin.zeroCells zv.cells (nc - (els.length + ys.length))).size = nc * sz := by
          simp only [Array.size_append, Builtin.zeroCells, Array.size_map, Array.size_range, ho2, hn2, hzl]
          rw [← Nat.add_mul, ← Nat.add_mul]; congr 1; omega
        have hcl : (flatA (els ++ ys) ++ List.replicate ((nc - (els ++ ys).length) * sz) AV.top).length = nc * sz := by
          simp only [List.length_append, List.length_replicate, hfl]
          rw [← Nat.add_mul, ← List.length_append]; congr 1; omega
        obtain ⟨hR2, hE2⟩ := new_cells hR1 e (old ++ new ++ Builtin.zeroCells zv.cells (nc - (els.length + ys.length))) (flatA (els ++ ys) ++ List.replicate ((nc - (els ++ ys).length) * sz) AV.top) (by rw [hsz0, hcl]) (fun i hi => by
          by_cases h1 : i < (els ++ ys).length * sz
          · have hzp : 0 < sz := Nat.pos_of_ne_zero (fun e => by rw [e, Nat.mul_zero] at h1; omega)
            have hq : i / sz < (els ++ ys).length := Nat.div_lt_of_lt_mul (by rw [Nat.mul_comm]; exact h1)
            have hm := Nat.mod_lt i hzp
            have e1 : i / sz * sz + i % sz = i := Nat.div_add_mod' i sz
            have e2 : (flatA (els ++ ys) ++ List.replicate ((nc - (els ++ ys).length) * sz) AV.top).getD i .top = .p (((els ++ ys).getD (i / sz) []).getD (i % sz) default) := by
              have := flatA_getD hally2 (i / sz) (i % sz) hq hm
              rw [e1] at this
              rw [← this]
              simp only [List.getD_eq_getElem?_getD]
              rw [List.getElem?_append_left (by rw [hfl]; exact h1)]
            rw [e2, getD_append_cells]
            refine .p ?_
            rw [hlen] at hq
            by_cases h2 : i / sz < els.length
            · rw [if_pos h2]
              have := ho3 _ _ h2 hm
              rw [e1] at this
              have hlt2 : i < old.size := by
                rw [ho2]
                have : (i / sz + 1) * sz ≤ els.length * sz := Nat.mul_le_mul_right _ h2
                rw [Nat.add_mul] at this; omega
              have e3 : (old ++ new ++ Builtin.zeroCells zv.cells (nc - (els.length + ys.length))).getD i undef = old.getD i undef := by
                simp only [Array.getD_eq_getD_getElem?]
                rw [Array.append_assoc, Array.getElem?_append_left hlt2]
              rw [e3]; exact this
            · rw [if_neg h2]
              obtain ⟨q, hqq⟩ : ∃ q, i / sz = els.length + q := ⟨i / sz - els.length, by omega⟩
              have hq2 : q < ys.length := by omega
              have := hn3 q (i % sz) hq2 hm
              have hii : i = els.length * sz + (q * sz + i % sz) := by rw [← Nat.add_assoc, ← Nat.add_mul, ← hqq, e1]
              have hlt2 : q * sz + i % sz < new.size := by
                rw [hn2]
                have : (q + 1) * sz ≤ ys.length * sz := Nat.mul_le_mul_right _ hq2
                rw [Nat.add_mul] at this; omega
              have e3 : (old ++ new ++ Builtin.zeroCells zv.cells (nc - (els.length + ys.length))).getD i undef = new.getD (q * sz + i % sz) undef := by
                simp only [Array.getD_eq_getD_getElem?]
                rw [Array.append_assoc, Array.getElem?_append_right (by omega), Array.getElem?_append_left (by omega)]
                congr 2; omega
              rw [e3, hqq, show els.length + q - els.length = q from by omega]; exact this
          · have e2 : (flatA (els ++ ys) ++ List.replicate ((nc - (els ++ ys).length) * sz) AV.top).getD i .top = .top := by
              simp only [List.getD_eq_getElem?_getD]
              rw [List.getElem?_append_right (by rw [hfl]; omega), List.getElem?_replicate]
              split <;> rfl
            rw [e2]; exact .top _)
        refine ⟨.slice (some ⟨w.heap.size, 0, none⟩) (els ++ ys).length nc, _, _, .ms w.heap.size sz 0 (els ++ ys).length nc, _, by rw [hvx, hlen]; exact hrun, hR2, hE1.trans hE2, ?_, hK _ _ (hR.newr) (by omega), ?_⟩
        · refine .ms _ _ _ _ _ _ (by omega) ?_ (fun _ => rfl)
          rw [bsize_cells (push_new { w with drawn := w.drawn + 1 } _), hsz0]; omega
        · intro r q hr
          rw [Store.set_other _ _ (by rintro e; cases e; rw [hR.newr] at hr; cases hr)]; exact hr
      split at h
      · -- nil
        obtain ⟨h1, h2, h3⟩ := h
        cases hx
        rcases h3 with h3 | ⟨hne, h3⟩
        rotate_left
        · exact own none [] rfl (.nil none) (fun _ h => by cases h) (by simpa using h1) (by simpa using h2) hne h3
        have := full none [] N rfl (.nil none) (fun _ h => by cases h) (by simpa using h1) (by simpa using h2) (Or.inl (hN N (Nat.le_refl _))) (fun loc => by simpa using h3 N (hN N (Nat.le_refl _)) loc)
        exact this
      · -- a slice without room
        obtain ⟨h0, h1, h2, h3⟩ := h
        cases hx with
        | cs hp =>
          rename_i els a n
          have hv : ∃ b, (Value.slice a n n) = .slice b els.length els.length := by
            rcases hp.sl_inv with ⟨_, hq, rfl⟩ | ⟨b, off, cap, z, vs, hq, _⟩
            · exact ⟨_, hq⟩
            · cases hq; exact ⟨_, rfl⟩
          obtain ⟨b, hv⟩ := hv
          rcases h3 with h3 | ⟨hne, h3⟩
          · exact full b els N hv hp h0 h1 h2 (Or.inl (hN N (Nat.le_refl _))) (fun loc => h3 N (hN N (Nat.le_refl _)) loc)
          · exact own b els hv hp h0 h1 h2 hne h3
      · -- a slice that grows
        rename_i k z' loc els
        obtain ⟨hzs, hk, h0, h1, h2, h3⟩ := h
        subst z'
        cases hx with
        | tsc _ _ a n _ hp =>
          have hv : ∃ b, (Value.slice a n n) = .slice b els.length els.length := by
            rcases hp.sl_inv with ⟨_, hq, rfl⟩ | ⟨b, off, cap, z, vs, hq, _⟩
            · exact ⟨_, hq⟩
            · cases hq; exact ⟨_, rfl⟩
          obtain ⟨b, hv⟩ := hv
          exact full b els k hv hp h0 h1 h2 (Or.inr ⟨_, _, hk⟩) h3
        | ts _ b cap _ _ hp hz' hcap =>
          by_cases hroom : els.length + ys.length ≤ cap
          · -- in place
            obtain ⟨vs, bt, hh, hsz1, hD⟩ := hR.blk _ _ hk
            obtain ⟨new, hn1, hn2, hn3⟩ := run_firstCells (P := P) hpy sz hally
            rw [hyv, ← hsz] at hn1
            have hbs : bsize w b = vs.size := bsize_cells hh
            by_cases hemp : els.length + ys.length = 0
            · have e1 : els = [] := List.length_eq_zero_iff.1 (by omega)
              have e2 : ys = [] := List.length_eq_zero_iff.1 (by omega)
              subst e1; subst e2
              refine ⟨.slice (some ⟨b, 0, none⟩) ([] : List (List PV)).length cap, w, D, .ts k sz (some b) ([] ++ []), S, ?_, hR, Ext.refl _ _ _, ?_, ?_, fun r z h => h⟩
              · rw [hyv]; exact run_append_zero hu hinf huu hd (by simp)
              · exact .ts k b cap sz [] hp hz' hcap
              · have hsame : S.set (.v k) (.tip sz ([] ++ [] : List (List PV)).length (some b)) = S := by
                  funext c; simp only [Store.set]; split
                  · rename_i ec; subst ec; exact hk.symm
                  · rfl
                have := h3 (some b)
                rw [hsame] at this; exact this
            · have hcapz : (els.length + ys.length) * sz ≤ vs.size := Nat.le_trans (Nat.mul_le_mul_right _ hroom) (by omega)
              have hrun := run_append_in (P := P) (w := w) (ty := ty) (vs := vs) (bt := bt) hu hinf huu hd hroom hn1 (by rw [hn2, hsz]) hh (by rw [hsz]; exact hcapz) (cells_scalar hn2 hn3)
              rw [hsz] at hrun
              have hwsz := writeAt_size vs (els.length * sz) new.toList
              have hfit : els.length * sz + new.toList.length ≤ vs.size := by rw [Nat.add_mul] at hcapz; simp; omega
              obtain ⟨hR2, hE2⟩ := tip_in hR hk hh hwsz hD (fun o ho => by rw [writeAt_get _ _ _ _ hfit, if_neg (by omega)]) (els ++ ys).length (by simp) (by rw [List.length_append]; exact hcapz)
              refine ⟨_, _, _, .ts k sz (some b) (els ++ ys), _, by rw [hyv]; exact hrun, hR2, hE2, ?_, h3 _, keep _ _⟩
              have hlt : b < w.heap.size := (Array.getElem?_eq_some_iff.1 hh).1
              have hheap := putO_same w (.cells (writeAt vs (els.length * sz) new.toList) bt (0, 0)) hlt
              have hlen : (els ++ ys).length = els.length + ys.length := by simp
              have hrep : Rep (Prot.up D b ((els ++ ys).length * sz)) (World.putO w b (.cells (writeAt vs (els.length * sz) new.toList) bt (0, 0))) (.slice (some ⟨b, 0, none⟩) (els ++ ys).length cap) (.sl (els ++ ys)) := by
                rcases (hp.later hE2.toLater).sl_inv with ⟨a0, hq, hels0⟩ | ⟨b', off, cap', z', vs', hq, hcap', hz2, hc2, hr2⟩
                · injection hq with _ _ hcc; omega
                · injection hq with hb1 _ hcc
                  injection hb1 with hb1
                  injection hb1 with hb1 hb2 _
                  subst hb1; subst hb2
                  have hzz : ∀ i, i < els.length → z' = sz := fun i hi => by rw [← h0 _ (getD_mem (d := []) hi)]; exact (hz2 _ (getD_mem hi)).symm
                  refine .sl b 0 cap sz (els ++ ys) (fun i j => if i < els.length then vs' i j else new.getD ((i - els.length) * sz + j) undef) (by omega)
                    (fun el hel => by rcases List.mem_append.1 hel with h | h; exact h0 _ h; exact hally _ h) (fun i j hi hj => ?_) (fun i j hi hj => ?_)
                  · rw [hlen] at hi
                    have hsp : (i + 1) * sz ≤ (els.length + ys.length) * sz := Nat.mul_le_mul_right _ hi
                    rw [Nat.add_mul] at hsp
                    refine ⟨?_, by simp only [Prot.up, if_true]; rw [hlen]; omega⟩
                    by_cases hi1 : i < els.length
                    · have e1 := hzz i hi1
                      rw [if_pos hi1]
                      have := (hc2 i j hi1 (by omega)).1
                      rw [e1] at this; exact this
                    · rw [if_neg hi1, cell_cells hheap, writeAt_get _ _ _ _ hfit]
                      obtain ⟨q, rfl⟩ : ∃ q, i = els.length + q := ⟨i - els.length, by omega⟩
                      have hq : q < ys.length := by omega
                      have hlt2 : q * sz + j < ys.length * sz := by
                        have : (q + 1) * sz ≤ ys.length * sz := Nat.mul_le_mul_right _ hq
                        rw [Nat.add_mul] at this; omega
                      rw [if_pos (by simp only [Array.length_toList]; rw [Nat.add_mul]; omega)]
                      have e1 : 0 + (els.length + q) * sz + j - els.length * sz = q * sz + j := by rw [Nat.add_mul]; omega
                      rw [e1, Array.getElem?_toList, show els.length + q - els.length = q from by omega]
                      simp only [Array.getD]; rw [dif_pos (by omega)]; exact Array.getElem?_eq_getElem (by omega)
                  · rw [getD_append_cells]
                    rw [hlen] at hi
                    by_cases hi1 : i < els.length
                    · rw [if_pos hi1, if_pos hi1]; exact hr2 i j hi1 (by rw [hzz i hi1]; exact hj)
                    · rw [if_neg hi1, if_neg hi1]; exact (hn3 _ _ (by omega) hj).later hE2.toLater
              rw [← hlen]
              exact .ts k b cap sz (els ++ ys) hrep (fun el hel => by rcases List.mem_append.1 hel with h | h; exact h0 _ h; exact hally _ h) (Nat.le_trans hcap (hE2.toLater.bsz b))
          · exact grow (some ⟨b, 0, none⟩) cap els k rfl hp h0 (by omega) h1 h2 (fun q hq => by rw [hk] at hq; cases hq; exact ⟨_, _, _, rfl⟩) h3
      · exact h.elim
    · exact h.elim
  · exact h.elim
end
end Go.Sk
