/- From a walk to a statement: what a law reads is data; behind it all reads as it did. -/
import Derived.Test.YthpfcfacofakoaaGreatSkCr
import Derived.ReadAgain
import Derived.RowKit3
set_option linter.unusedSimpArgs false
set_option linter.unusedVariables false
set_option linter.unusedSectionVars false
namespace Go.Sk
open Go Go.ChangeShapes Go.WideShapes

/-- All blocks that were there are as they were. -/
def Still (w w' : World) : Prop := w'.os = w.os ∧ w'.output = w.output ∧ ∀ b, b < w.heap.size → w'.heap[b]? = w.heap[b]?
theorem Ext.still {D D' : Prot} {w w' : World} {S' : Store} (h : Ext noS D w S' D' w') : Still w w' := ⟨h.toLater.os, h.toLater.output, fun b hb => h.foreign b hb (not_owned b)⟩
theorem Still.kept {w w' : World} (h : Still w w') (may : MemPlace → Prop) : w.keptBut w' may := by
  refine ⟨h.1, h.2.1, fun i hi => ?_⟩
  have := (World.keptBut_refl w may).2.2 i hi
  rw [h.2.2 i hi]; exact this
theorem Still.same {w w' : World} (h : Still w w') {p : MemPlace} (hp : p.block < w.heap.size) : w.sameAt w' p := by
  cases p with
  | cell b off => exact cell_of_heap (h.2.2 b hp) off
  | map b => exact h.2.2 b hp
section
variable {H : Type} {enc : TypeId × Value → H} {P : Program} {T : TypeId → Prop}

theorem trodAll_still (K : Kids P T) (hz : ∀ t e, T t → P.underlying t = some (.slice e) → 0 < P.cellsOf e) {W W' : World} (h : Still W W') {sp : Nat → Bool} :
    ∀ {ts : List TypeId} {vs : List Value} {ds : List (DataW H)} {ps : List MemPlace}, (∀ t ∈ ts, T t) → DataW.TrodAll enc P W 0 (fun _ => true) true ts vs ds ps → (∀ p ∈ ps, sp p.block = true) →
      DataW.TrodAll enc P W' 0 sp true ts vs ds ps := by
  intro ts vs ds ps hT hA hs
  refine DataW.TrodAll.respare K hz hT ?_ hs
  clear hs hT
  induction ts generalizing vs ds ps with
  | nil => obtain ⟨rfl, rfl, rfl⟩ := trodAll_nil hA; exact trodAll_mk0
  | cons t ts ih =>
    obtain ⟨v, vs', d, ds', p, q, rfl, rfl, rfl, ⟨n, h1⟩, h2⟩ := trodAll_cons hA
    exact ⟨p, q, ⟨n, DataW.trod_carry _ _ _ _ h1 (fun x hx => h.same (DataW.trod_lt n _ _ _ h1 x hx))⟩, ih h2, rfl⟩

theorem bridge (K : Kids P T) (hz : ∀ t e, T t → P.underlying t = some (.slice e) → 0 < P.cellsOf e) {f : Func} {s : ChangeSpec} {apart fresh handsOn again : Bool} {W W' : World} {args : Array Value} {ds gs : List (DataW H)} {before : List MemPlace} {r : TypeId}
    (hW : DataW.Whole enc P f.params.toList s.vars apart W args.toList ds gs before) (hv : s.vars = []) (hT : ∀ t ∈ f.params.toList, T t) (hr : f.resultTypes = #[r]) (hu : P.underlying r = some .bool)
    (h1 : (s.fn H (ds ++ gs)).results = [.lit (.bool true)]) (h2 : (s.fn H (ds ++ gs)).args = ds) (h3 : (s.fn H (ds ++ gs)).vars = []) (h : Still W W') :
    s.post enc P f apart fresh handsOn again W args (.bool true) W' := by
  have hlt := fun p hp => hW.lt p hp
  have hW' := hW
  obtain ⟨p, q, hA, hV, rfl, hfz, hn⟩ := hW
  rw [hv] at hV
  obtain ⟨rfl, rfl⟩ := trodVars_none hV
  have hbool : ∀ (b : Nat) (sp : Nat → Bool) (hd : Bool), DataW.TrodAll enc P W' b sp hd f.resultTypes.toList ((Value.bool true).resultList f.resultTypes.size) (s.fn H (ds ++ [])).results [] := by
    intro b sp hd
    rw [h1, hr]
    exact trodAll_mk1 ⟨1, by simp [DataW.trod, Value.cells, hu]⟩
  have hargs : ∀ sp : Nat → Bool, (∀ x ∈ p ++ [], sp x.block = true) → DataW.TrodAll enc P W' 0 sp true f.params.toList args.toList (s.fn H (ds ++ [])).args p := by
    intro sp hsp
    rw [h2]
    exact trodAll_still K hz h hT hA (fun x hx => hsp x (by simpa using hx))
  have hvars : ∀ sp : Nat → Bool, DataW.TrodVars enc P W' sp s.vars (s.fn H (ds ++ [])).vars [] := by
    intro sp; rw [hv, h3]; rfl
  have hold : ∀ x ∈ p ++ [], (fun b => decide (b < W.heap.size)) x.block = true := fun x hx => by simpa using hlt x hx
  have hp0 : p ++ ([] : List MemPlace) = p := List.append_nil _
  refine ⟨ds, [], p ++ [], [], p, [], hW', hbool _ _ _, hargs _ hold, hvars _, h.kept _, fun _ => ?_⟩
  refine ⟨?_, _, _, ([] ++ p) ++ [], ⟨[] ++ p, [], trodAll_append (hargs _ (fun _ _ => rfl)) (hbool _ _ _), hvars _, rfl, ?_, ?_⟩, ?_⟩
  · intro j t v hj hvj
    rw [hr] at hj hvj
    match j, hj, hvj with
    | 0, hj, hvj =>
      simp only [List.getElem?_toArray, List.getElem?_cons_zero, Option.some.injEq] at hj
      subst hj
      simp only [Value.resultList] at hvj
      simp at hvj
      subst hvj
      simp [Value.okWide, hu, Cell.okWide, Cell.ok]
    | j + 1, hj, _ => simp at hj
  · intro b off hb
    have hb' : MemPlace.cell b off ∈ p ++ [] := by simpa using hb
    have := hlt _ hb'
    have hz' := hfz b off hb'
    have e : W'.frozen? ⟨b, off, none⟩ = W.frozen? ⟨b, off, none⟩ := by
      simp only [World.frozen?, h.2.2 b this]
    rw [e]; exact hz'
  · intro ha
    have := hn ha
    simpa using this
  · intro x hx _
    have : x ∈ p ++ [] := by simpa using hx
    exact this

/-- Protection of all that lies there. -/
def allD (w : World) : Prot := fun b => bsize w b
theorem allD_cell (w : World) (b o : Nat) (v : Value) (h : w.cell? ⟨b, o, none⟩ = some v) : o < allD w b := by
  unfold allD bsize
  simp only [World.cell?] at h
  split at h
  · rename_i c t f hh
    rw [hh]
    exact (Array.getElem?_eq_some_iff.1 h).1
  all_goals first | (cases h; done) | (simp_all; done) | skip
theorem rel_all (w : World) : Rel noS (allD w) w := ⟨fun _ _ h => (by cases h), fun b hb => by
  have : w.heap[b]? = none := by simp [hb]
  simp [allD, bsize, this], ⟨0, fun _ _ => rfl⟩, fun _ _ _ _ _ _ _ h => (by cases h), fun _ _ _ _ h => (by cases h)⟩

theorem arg_agg {B : DataW H → Nat} {BA : List (DataW H) → Nat} (hB : BulkOk B BA) {N f : Nat} {W : World} {base : Nat} {t : TypeId} {v : Value} {d : DataW H} {p : List MemPlace} {sh : List Sh}
    (hs : shOf P f t = some sh) (hag : (match P.underlying t with | some (.struct _) | some (.array _ _) => true | _ => false) = true) (hok : Value.okWide P W .any base t v)
    (h : DataW.Trod enc P W 0 (fun _ => true) true t v d p) (hN : B d ≤ N) :
    ∃ pvs : List PV, pvs.length = sh.length ∧ (∀ i, i < sh.length → Fit N (sh.getD i .bool) (pvs.getD i default)) ∧ RepA (allD W) W v (.agg (pvs.map .p)) := by
  obtain ⟨n, hn⟩ := h
  obtain ⟨hl, pvs, h1, h2⟩ := trod_pv hB (D := allD W) (allD_cell W) n f t _ d p sh hn hs hN
  have hv : ∃ cs, v = .agg cs := by
    unfold Value.okWide at hok
    split at hok
    · obtain ⟨cs, rfl, _⟩ := hok; exact ⟨cs, rfl⟩
    · obtain ⟨cs, rfl, _⟩ := hok; exact ⟨cs, rfl⟩
    · rename_i h1 h2
      split at hag
      · rename_i he; exact absurd he (h1 _)
      · rename_i he; exact absurd he (h2 _ _)
      · cases hag
  obtain ⟨cs, rfl⟩ := hv
  refine ⟨pvs, h1, fun i hi => (h2 i hi).2, .agg _ _ (by rw [List.length_map, h1, ← hl]; simp [Value.cells]) (fun i hi => ?_)⟩
  simp only [List.length_map] at hi
  have := (h2 i (by omega)).1
  have e1 : (Value.agg cs).cells.toList.getD i undef = cs.getD i undef := by simp [Value.cells, List.getD_eq_getElem?_getD, Array.getD_eq_getD_getElem?]
  have e2 : (pvs.map AV.p).getD i .top = .p (pvs.getD i default) := by simp [List.getD_eq_getElem?_getD, hi]
  rw [e2, ← e1]; exact .p this

theorem arg_one {B : DataW H → Nat} {BA : List (DataW H) → Nat} (hB : BulkOk B BA) {N f : Nat} {W : World} {t : TypeId} {v : Value} {d : DataW H} {p : List MemPlace} {s : Sh}
    (hs : shOf P f t = some [s]) (hv : ∀ c, v ≠ .agg c) (h : DataW.Trod enc P W 0 (fun _ => true) true t v d p) (hN : B d ≤ N) :
    ∃ pv : PV, Fit N s pv ∧ RepA (allD W) W v (.p pv) := by
  obtain ⟨n, hn⟩ := h
  obtain ⟨hl, pvs, h1, h2⟩ := trod_pv hB (D := allD W) (allD_cell W) n f t _ d p [s] hn hs hN
  have hc : v.cells = #[v] := by cases v <;> first | rfl | exact absurd rfl (hv _)
  obtain ⟨h3, h4⟩ := h2 0 (by simp)
  refine ⟨pvs.getD 0 default, by simpa using h4, .p ?_⟩
  rw [hc] at h3
  simpa using h3
end
end Go.Sk
