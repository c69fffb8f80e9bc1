/- slices.SortFunc, at rows of numbers that are owned. -/
import Derived.Test.YthpfcfacofakoaaGreatSkCr
import Derived.Shelf.SlSortCmp.WholeK
import Derived.Shelf.SlSortCmp.NoneTotal
set_option linter.unusedSimpArgs false
set_option linter.unusedVariables false
set_option linter.unusedSectionVars false
namespace Go.Sk
open Go Go.Proofs Go.Sort Go.Shelf Go.Lib

/-- Worlds that grew by blocks that are nobody's. -/
theorem grow_free {S : Store} {D : Prot} {w : World} (h : Rel S D w) (os : Array Obj) : Rel S D (grow w os) ∧ Ext S D w S D (grow w os) := by
  have hget : ∀ b, b < w.heap.size → (grow w os).heap[b]? = w.heap[b]? := fun b hb => by
    show (w.heap ++ os)[b]? = _
    rw [Array.getElem?_append_left hb]
  have hlat : Later D w D (grow w os) := by
    refine ⟨rfl, rfl, rfl, by simp [grow], fun _ => Nat.le_refl _, fun b o ho => ?_, fun b => ?_, Nat.le_refl _⟩
    · have hb : b < w.heap.size := by
        rcases Nat.lt_or_ge b w.heap.size with h' | h'
        · exact h'
        · rw [h.dlt b h'] at ho; omega
      exact cell_of_heap (hget b hb) o
    · rcases Nat.lt_or_ge b w.heap.size with h' | h'
      · rw [bsize_of_heap (hget b h')]; exact Nat.le_refl _
      · have : w.heap[b]? = none := by simp [h']
        simp [bsize, this]
  refine ⟨⟨fun k x hk => (h.blk k x hk).later hlat ?_, fun b hb => h.dlt b (by simp [grow] at hb; omega), h.fin, h.one, h.apart⟩, ⟨hlat, fun b hb _ => hget b hb, fun b _ hn => hn⟩⟩
  intro c hc
  have hc' : c < w.heap.size := h.lt (by
    rcases hc with rfl | ⟨z, m, rfl⟩
    · exact Or.inl (by rw [hk]; simp)
    · cases k with
      | r b => exact (h.blk _ _ hk).elim
      | v k => exact Or.inr ⟨k, z, m, hk⟩)
  exact ⟨hget c hc', rfl⟩

theorem ext_grow {D D' : Prot} {w w' : World} {S' : Store} (h : Ext noS D w S' D' w') : ∃ q os', w' = grow (w.drewN q) os' := by
  refine ⟨w'.drawn - w.drawn, w'.heap.extract w.heap.size w'.heap.size, ?_⟩
  have hd := h.toLater.drawn
  have hs := h.toLater.size
  have hh : w'.heap = w.heap ++ w'.heap.extract w.heap.size w'.heap.size := by
    apply Array.ext_getElem?
    intro i
    rcases Nat.lt_or_ge i w.heap.size with h' | h'
    · rw [Array.getElem?_append_left h']; exact h.foreign i h' (not_owned i)
    · rw [Array.getElem?_append_right h', Array.getElem?_extract]
      by_cases hi : i < w'.heap.size
      · rw [if_pos (by omega)]; congr 1; omega
      · rw [if_neg (by omega), Array.getElem?_eq_none (by omega)]
  have e1 := h.toLater.tape
  have e2 := h.toLater.os
  have e3 := h.toLater.output
  obtain ⟨hp, tp, dr, os, out⟩ := w
  obtain ⟨hp', tp', dr', os', out'⟩ := w'
  dsimp only at *
  subst e1; subst e2; subst e3
  unfold grow World.drewN
  dsimp only
  rw [← hh]
  congr 1
  omega

theorem sort_none {P : Program} {ρ : Ren} (L : SlLaysF0.n6 P ρ) (ef : Enterable P (ρ.f 6)) {S : Store} {f : AV} {R : AV → Store → Prop} (hR : R (.tuple []) S) : CallR P (ρ.f 6) [.nils, f] S R := by
  refine ⟨ef, fun D w vs hrel ⟨hv1, hv2⟩ => ?_⟩
  have h0 := hv2 0 (by simp)
  have hvs : vs = #[vs.getD 0 undef, vs.getD 1 undef] := by
    apply Array.ext
    · simpa using hv1
    · intro i hi1 hi2
      simp only [List.size_toArray, List.length_cons, List.length_nil] at hi2
      match i, hi2 with
      | 0, _ => simp [Array.getD, hi1]
      | 1, _ => simp [Array.getD, hi1]
  generalize vs.getD 0 undef = v0 at h0 hvs
  generalize vs.getD 1 undef = v1 at hvs
  subst hvs
  cases h0
  have hc : Calls P (ρ.f 6) #[.slice none 0 0, v1] w fun r w' => ∃ v, r = .returned v ∧ (v = .tuple #[] ∧ w' = w) := (AnyF.slices_SortFunc_none L none 0 v1 w).mono fun r w' ⟨h1, h2⟩ => ⟨_, h1, rfl, h2⟩
  refine Gives.mono (Sk.Calls.gives hc) ?_
  rintro v w' ⟨rfl, rfl⟩
  exact ⟨.tuple [], S, D, hR, hrel, .tuple #[] [] rfl (fun i hi => by simp at hi), Ext.refl _ _ _⟩

section
variable {α : Type} [Inhabited α] (e : α → List (IntKind × Int))
/-- An element's cells: numbers. -/
def encV (x : α) : List Value := (e x).map fun p => .int p.1 p.2
def encP (x : α) : List PV := (e x).map fun p => .int p.1 p.2

theorem flat_getD {k : Nat} (he : ∀ x, (e x).length = k) (d : Array α) (t : Nat) (ht : t < d.size * k) :
    ∃ p : IntKind × Int, (flatK (encV e) k d).getD t undef = .int p.1 p.2 ∧ (flatA (d.toList.map (encP e))).getD t .top = .p (.int p.1 p.2) := by
  have hk : 0 < k := Nat.pos_of_ne_zero (fun h => by subst h; simp at ht)
  have hi : t / k < d.size := Nat.div_lt_of_lt_mul (by rw [Nat.mul_comm]; exact ht)
  have hj : t % k < k := Nat.mod_lt _ hk
  have h2 : t % k < (e (d[t / k]'hi)).length := by rw [he]; exact hj
  refine ⟨(e (d[t / k]'hi))[t % k]'h2, ?_, ?_⟩
  · have h1 : (flatK (encV e) k d).getD t undef = (flatK (encV e) k d)[t]! := by
      rw [getElem!_pos (flatK (encV e) k d) t (by simpa using ht)]; simp [Array.getD, ht]
    rw [h1, get_flatK _ _ _ _ ht, getElem!_pos d _ hi, getElem!_pos _ _ (by simpa [encV] using h2)]
    simp [encV]
  · have := flatA_getD (els := d.toList.map (encP e)) (sz := k) (by simp [encP, he]) (t / k) (t % k) (by simpa using hi) hj
    rw [show t / k * k + t % k = t from by rw [Nat.mul_comm]; exact Nat.div_add_mod t k] at this
    rw [this]
    have h3 : ((d.toList.map (encP e)).getD (t / k) []) = encP e (d[t / k]'hi) := by
      simp [List.getD_eq_getElem?_getD, hi]
    rw [h3]
    simp [encP, List.getD_eq_getElem?_getD, h2]

theorem flat_len {k : Nat} (he : ∀ x, (e x).length = k) (d : List α) : (flatA (d.map (encP e))).length = d.length * k := by
  rw [flatA_length (sz := k) (by simp [encP, he])]; simp

theorem putCells_eq (F vs : Array Value) (o : Nat) (h : o + F.size ≤ vs.size) : putCells id o F vs = writeAt vs o F.toList := by
  apply Array.ext_getElem?
  intro i
  rw [writeAt_get _ _ _ _ (by simpa using h)]
  simp only [putCells, Array.getElem?_mapIdx, Array.length_toList, Array.getElem?_toList, id]
  by_cases hi : i < vs.size
  · rw [Array.getElem?_eq_getElem hi, Option.map_some]
    by_cases hr : o ≤ i ∧ i < o + F.size
    · rw [if_pos hr, if_pos hr, Array.getElem?_eq_getElem (by omega), getElem!_pos _ _ (by omega)]
    · rw [if_neg hr, if_neg hr]
  · rw [Array.getElem?_eq_none (by omega)]
    rw [if_neg (by omega)]; rfl

theorem mapBlock_put {w : World} {b : Nat} {vs : Array Value} {ty : TypeId} {fz : Nat × Nat} (h : w.heap[b]? = some (.cells vs ty fz)) (f : Array Value → Array Value) :
    mapBlock w b f = World.putO w b (.cells (f vs) ty fz) := by
  unfold mapBlock World.putO
  congr 1
  apply Array.ext_getElem?
  intro k
  rw [Array.getElem?_modify, Array.getElem?_setIfInBounds]
  have hlt : b < w.heap.size := (Array.getElem?_eq_some_iff.1 h).1
  by_cases hk : b = k
  · subst hk; rw [if_pos rfl, if_pos rfl, if_pos hlt, h]; rfl
  · simp [hk]

theorem sort_call {P : Program} {ρ : Ren} (L : SlLaysF0.n6 P ρ) {k : Nat} (aE : ∀ w, (isAgg (ρ.t 24)).run P w = .ok true w) (zE : ∀ w, (Go.sizeOf (ρ.t 24)).run P w = .ok k w)
    (he : ∀ x, (e x).length = k) (cf : α → α → Int) (hO : SWO (ltOf cf)) {g : FuncId} (eg : Enterable P g) (ef : Enterable P (ρ.f 6))
    (hcmp : ∀ (x y : α) (w : World), Calls P g #[.agg (encV e x).toArray, .agg (encV e y).toArray] w fun r w' => r = .returned (.int .i64 (cf x y)) ∧ ∃ q os', w' = grow (w.drewN q) os')
    {S : Store} {b o c : Nat} {cs : List AV} (hb : S (.r b) = some (.cells cs)) (d : List α) (hd : d ≠ []) (hlen : d.length < 2 ^ 62) (hcs : (cs.drop o).take (d.length * k) = flatA (d.map (encP e)))
    {R : AV → Store → Prop} (hR : ∀ d' : List α, d'.Perm d → (∀ i j, i < j → j < d'.length → ¬ cf d'[j]! d'[i]! < 0) → R (.tuple []) (S.set (.r b) (.cells (splice cs o (flatA (d'.map (encP e))))))) :
    CallR P (ρ.f 6) [.ms b k o d.length c, .fn (.func g) [] []] S R := by
  refine ⟨ef, fun D w vs hrel hv => ?_⟩
  obtain ⟨hv1, hv2⟩ := hv
  have h0 := hv2 0 (by simp)
  have h1 := hv2 1 (by simp)
  have hvs : vs = #[vs.getD 0 undef, vs.getD 1 undef] := by
    apply Array.ext
    · simpa using hv1
    · intro i hi1 hi2
      simp only [List.size_toArray, List.length_cons, List.length_nil] at hi2
      match i, hi2 with
      | 0, _ => simp [Array.getD, hi1]
      | 1, _ => simp [Array.getD, hi1]
  generalize vs.getD 0 undef = v0 at h0 hvs
  generalize vs.getD 1 undef = v1 at h1 hvs
  subst hvs
  have hpos : 0 < d.length := List.length_pos_iff.2 hd
  cases h0 with
  | ms _ _ _ o' _ _ hnc hfit ho =>
  obtain rfl : o' = o := ho (by omega)
  cases h1 with
  | fn _ fv cv _ _ e1 e2 _ _ =>
  obtain rfl : fv = #[] := Array.size_eq_zero_iff.1 e1
  obtain rfl : cv = #[] := Array.size_eq_zero_iff.1 e2
  obtain ⟨cvs, ty, hh, hsz, hrep, hD⟩ := hrel.blk _ _ hb
  have hlt : b < w.heap.size := (Array.getElem?_eq_some_iff.1 hh).1
  have hcl : o' + d.length * k ≤ cs.length := by
    have h1 : (flatA (d.map (encP e))).length = d.length * k := flat_len e he d
    rw [← hcs] at h1
    simp only [List.length_take, List.length_drop] at h1
    by_cases hk : d.length * k = 0
    · rw [bsize_cells hh, hsz] at hfit
      have : o' ≤ cs.length := by omega
      omega
    · omega
  have hH : HoldsK (encV e) k w b o' d.toArray := by
    intro j hj
    simp only [size_flatK, List.size_toArray] at hj
    refine ⟨?_, by simp [World.frozen?, hh]⟩
    obtain ⟨p, hp1, hp2⟩ := flat_getD e he d.toArray j (by simpa using hj)
    have hr := hrep (o' + j) (by omega)
    have hc : cs.getD (o' + j) .top = .p (.int p.1 p.2) := by
      rw [← hp2, List.getD_eq_getElem?_getD, List.getD_eq_getElem?_getD]
      show _ = (flatA (d.map (encP e)))[j]?.getD .top
      rw [← hcs, List.getElem?_take, if_pos hj, List.getElem?_drop]
    rw [hc] at hr
    have hval : cvs.getD (o' + j) undef = .int p.1 p.2 := by
      generalize cvs.getD (o' + j) undef = v at hr
      cases hr with | p hr => cases hr; rfl
    rw [cell_cells hh, Array.getElem?_eq_getElem (by omega)]
    have e3 : cvs[o' + j]'(by omega) = .int p.1 p.2 := by
      rw [← hval]; simp [Array.getD, show o' + j < cvs.size from by omega]
    rw [e3]
    have e4 : (flatK (encV e) k d.toArray)[j]! = .int p.1 p.2 := by
      rw [← hp1, getElem!_pos _ j (by simpa using hj)]; simp [Array.getD, hj]
    rw [e4]; rfl
  have hcall := AnyQ.slices_SortFunc L k aE zE (encV e) (fun x => by simp [encV, he]) (fun x v hv => by
    simp only [encV, List.mem_map] at hv; obtain ⟨p, _, rfl⟩ := hv; rfl) cf hO g #[] b o' c d.toArray w eg (fun m os dk hs x y => by simpa using hcmp x y _) hH hlt (by simp; omega)
  have hcall' : Calls P (ρ.f 6) #[.slice (some ⟨b, o', none⟩) d.length c, .func (.func g) #[] #[]] w fun r w' => ∃ v, r = .returned v ∧ (v = .tuple #[] ∧ ∃ d' n os, PermIn 0 d.toArray.size d.toArray d' ∧ SortedIn (ltOf cf) 0 d.toArray.size d' ∧ w' = sortWorldK (encV e) k w b o' n d' os) :=
    hcall.mono fun r w' ⟨h1, h2⟩ => ⟨_, h1, rfl, h2⟩
  refine Gives.mono (Sk.Calls.gives hcall') ?_
  rintro v w' ⟨rfl, d', n, os, ⟨hps, _, hperm⟩, hsorted, rfl⟩
  have hps' : d'.size = d.length := by simpa using hps
  -- the world behind it
  obtain ⟨hR0, hE0⟩ := drew_ok hrel (w.drawn + n)
  have hh0 : (Sort.ahead w n).heap[b]? = some (.cells cvs ty (0, 0)) := hh
  have hF : (flatK (encV e) k d').size = d.length * k := by simp [hps']
  have hfl : (flatA (d'.toList.map (encP e))).length = d.length * k := by rw [flat_len e he]; simp [hps']
  have hw1 := writeAt_rep (D := D) (w := Sort.ahead w n) (c := cvs) (cs := cs) (l := flatK (encV e) k d') (xs := flatA (d'.toList.map (encP e))) (off := o') hsz (fun i hi => (hrep i hi).later hE0.toLater) (by rw [hF, hfl]) (fun i hi => by
    rw [hfl] at hi
    obtain ⟨p, hp1, hp2⟩ := flat_getD e he d' i (by rw [hps']; exact hi)
    rw [hp1, hp2]; exact .p (.int _ _)) (by rw [hfl]; exact hcl)
  have hcells : putRowK (encV e) k (Sort.ahead w n) b o' d' = World.putO (Sort.ahead w n) b (.cells (writeAt cvs o' (flatK (encV e) k d').toList) ty (0, 0)) := by
    unfold putRowK putRow
    rw [mapBlock_put hh0, putCells_eq _ _ _ (by rw [hF]; omega)]
  have hsz2 : cvs.size = (writeAt cvs o' (flatK (encV e) k d').toList).size := by rw [writeAt_size]
  have hlater := put_later (D := D) (n := 0) hh0 (vs' := writeAt cvs o' (flatK (encV e) k d').toList) (by omega) (by omega) (fun i hi => by omega)
  obtain ⟨hR1, hE1⟩ := put_own hR0 (b := b) (by rw [hb]; simp) hh0 hsz2 hD (.cells (splice cs o' (flatA (d'.toList.map (encP e))))) ⟨_, ty, putO_same _ _ hlt, hw1.1, fun i hi => (hw1.2 i hi).later hlater, by simp [Prot.up]⟩
  obtain ⟨hR2, hE2⟩ := grow_free hR1 os
  have hwe : sortWorldK (encV e) k w b o' n d' os = grow (World.putO (Sort.ahead w n) b (.cells (writeAt cvs o' (flatK (encV e) k d').toList) ty (0, 0))) os := by
    unfold sortWorldK; rw [hcells]
  rw [hwe]
  refine ⟨.tuple [], _, _, hR d'.toList ?_ ?_, hR2, .tuple #[] [] rfl (fun i hi => by simp at hi), (hE0.trans hE1).trans hE2⟩
  · have e1 : d'.extract 0 d.toArray.size = d' := by rw [show d.toArray.size = d'.size from by simp [hps'], Array.extract_size]
    rw [e1] at hperm
    simpa using hperm
  · intro i j hij hj
    have hj' : j < d'.size := by simpa using hj
    have := hsorted i j (Nat.zero_le _) hij (by simp; omega)
    simp only [ltOf, decide_eq_false_iff_not] at this
    have hi' : i < d'.size := by omega
    have g1 : d'.toList[j]! = d'[j]! := by rw [getElem!_pos d' j hj', getElem!_pos d'.toList j hj]; rfl
    have g2 : d'.toList[i]! = d'[i]! := by rw [getElem!_pos d' i hi', getElem!_pos d'.toList i (by simpa using hi')]; rfl
    rw [g1, g2]; exact this

theorem cmp_of {P : Program} {g : FuncId} {x y : α} {c : Int} (h : CallsR P g [.agg ((encP e x).map .p), .agg ((encP e y).map .p)] noS (fun r _ => r = .p (.int .i64 c))) (w : World) :
    Calls P g #[.agg (encV e x).toArray, .agg (encV e y).toArray] w fun r w' => r = .returned (.int .i64 c) ∧ ∃ q os', w' = grow (w.drewN q) os' := by
  have hrep : ∀ z : α, RepA noD w (.agg (encV e z).toArray) (.agg ((encP e z).map .p)) := fun z => .agg _ _ (by simp [encV, encP]) (fun i hi => by
    simp only [encP, List.map_map, List.length_map] at hi
    have h1 : (encV e z).toArray.getD i undef = .int (e z)[i].1 (e z)[i].2 := by simp [encV, Array.getD, hi]
    have h2 : ((encP e z).map AV.p).getD i .top = .p (.int (e z)[i].1 (e z)[i].2) := by simp [encP, List.getD_eq_getElem?_getD, hi]
    rw [h1, h2]; exact .p (.int _ _))
  refine (h noD w #[.agg (encV e x).toArray, .agg (encV e y).toArray] (rel_none w) ⟨rfl, fun i hi => ?_⟩).mono ?_
  · match i, hi with
    | 0, _ => exact hrep x
    | 1, _ => exact hrep y
  · rintro r w' ⟨v, rfl, x', S', D', rfl, _, hv, hE⟩
    refine ⟨?_, ext_grow hE⟩
    cases hv with | p hv => cases hv; rfl
end
end Go.Sk
