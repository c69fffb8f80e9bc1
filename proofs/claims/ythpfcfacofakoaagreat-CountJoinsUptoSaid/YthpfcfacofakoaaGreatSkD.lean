/- Memory: a new block, a block written anew, a draw. -/
import Derived.Test.YthpfcfacofakoaaGreatSkC
set_option linter.unusedSimpArgs false
set_option linter.unusedVariables false
set_option linter.unusedSectionVars false
namespace Go.Sk
open Go

def World.push (w : World) (o : Obj) : World := { w with heap := w.heap.push o }
def World.putO (w : World) (b : Nat) (o : Obj) : World := { w with heap := w.heap.setIfInBounds b o }

theorem push_get (w : World) (o : Obj) (b : Nat) (h : b < w.heap.size) : (World.push w o).heap[b]? = w.heap[b]? := by
  simp only [World.push, Array.getElem?_push]; rw [if_neg (by omega)]
theorem push_new (w : World) (o : Obj) : (World.push w o).heap[w.heap.size]? = some o := by
  show (w.heap.push o)[w.heap.size]? = some o
  rw [Array.getElem?_push, if_pos rfl]
theorem putO_other (w : World) {b c : Nat} (o : Obj) (h : c ≠ b) : (World.putO w b o).heap[c]? = w.heap[c]? := by
  simp only [World.putO]; rw [Array.getElem?_setIfInBounds, if_neg (fun e => h e.symm)]
theorem putO_same (w : World) {b : Nat} (o : Obj) (h : b < w.heap.size) : (World.putO w b o).heap[b]? = some o := by
  simp only [World.putO]; rw [Array.getElem?_setIfInBounds, if_pos rfl, if_pos h]

theorem cell_of_heap {w w' : World} {b : Nat} (h : w'.heap[b]? = w.heap[b]?) (o : Nat) : w'.cell? ⟨b, o, none⟩ = w.cell? ⟨b, o, none⟩ := by
  simp only [World.cell?, h]
theorem bsize_of_heap {w w' : World} {b : Nat} (h : w'.heap[b]? = w.heap[b]?) : bsize w' b = bsize w b := by simp only [bsize, h]
theorem cell_cells {w : World} {b : Nat} {vs : Array Value} {ty : TypeId} {fz : Nat × Nat} (h : w.heap[b]? = some (.cells vs ty fz)) (o : Nat) : w.cell? ⟨b, o, none⟩ = vs[o]? := by
  simp [World.cell?, h]
theorem bsize_cells {w : World} {b : Nat} {vs : Array Value} {ty : TypeId} {fz : Nat × Nat} (h : w.heap[b]? = some (.cells vs ty fz)) : bsize w b = vs.size := by simp [bsize, h]

/-- Protection raised at one block. -/
def Prot.up (D : Prot) (b n : Nat) : Prot := fun c => if c = b then n else D c

theorem push_later {D : Prot} {w : World} (o : Obj) (n : Nat) (hlt : ∀ b, w.heap.size ≤ b → D b = 0) : Later D w (Prot.up D w.heap.size n) (World.push w o) where
  os := rfl
  tape := rfl
  output := rfl
  drawn := Nat.le_refl _
  size := by simp [World.push]
  dle := fun b => by simp only [Prot.up]; split <;> simp_all
  prot := fun b o' h => by
    have hb : b < w.heap.size := by
      rcases Nat.lt_or_ge b w.heap.size with h' | h'
      · exact h'
      · rw [hlt b h'] at h; omega
    exact cell_of_heap (push_get w o b hb) o'
  bsz := fun b => by
    rcases Nat.lt_or_ge b w.heap.size with h' | h'
    · rw [bsize_of_heap (push_get w o b h')]; exact Nat.le_refl _
    · have : w.heap[b]? = none := by simp [h']
      simp [bsize, this]

/-- What was there stays looked after when a block is made. -/
theorem push_blk {S : Store} {D : Prot} {w : World} (h : Rel S D w) (o : Obj) (n : Nat) {k : Key} {x : Blk} (hk : S k = some x) : BlkRep (Prot.up D w.heap.size n) (World.push w o) k x := by
  refine (h.blk k x hk).later (push_later o n h.dlt) ?_
  intro c hc
  have hc' : c < w.heap.size := h.lt (by
    rcases hc with rfl | ⟨z, m, rfl⟩
    · exact Or.inl (by rw [hk]; simp)
    · cases k with
      | r b => exact (h.blk _ _ hk).elim
      | v k => exact Or.inr ⟨k, z, m, hk⟩)
  exact ⟨push_get w o c hc', by simp only [Prot.up]; rw [if_neg (by omega)]⟩

/-- A new block that is nobody's: data that is protected (n cells of it), or rubbish. -/
theorem push_free {S : Store} {D : Prot} {w : World} (h : Rel S D w) (o : Obj) (n : Nat) : Rel S (Prot.up D w.heap.size n) (World.push w o) ∧ Ext S D w S (Prot.up D w.heap.size n) (World.push w o) := by
  refine ⟨⟨fun k x hk => push_blk h o n hk, fun b hb => ?_, h.fin, h.one, h.apart⟩, ⟨push_later o n h.dlt, fun b hb _ => push_get w o b hb, fun b _ hn => hn⟩⟩
  simp only [World.push, Array.size_push] at hb
  simp only [Prot.up]; rw [if_neg (by omega)]; exact h.dlt b (by omega)

/-- A new block that is owned. -/
theorem push_own {S : Store} {D : Prot} {w : World} (h : Rel S D w) (o : Obj) (x : Blk) (hx : BlkRep (Prot.up D w.heap.size 0) (World.push w o) (.r w.heap.size) x) :
    Rel (S.set (.r w.heap.size) x) (Prot.up D w.heap.size 0) (World.push w o) ∧ Ext S D w (S.set (.r w.heap.size) x) (Prot.up D w.heap.size 0) (World.push w o) := by
  have own : ∀ b, b < w.heap.size → ¬ Owned S b → ¬ Owned (S.set (.r w.heap.size) x) b := by
    intro b hb hn ho
    refine hn ?_
    rcases ho with ho | ⟨k, z, m, ho⟩
    · rw [Store.set_other _ _ (by simp; omega)] at ho; exact Or.inl ho
    · rw [Store.set_other _ _ (by simp)] at ho; exact Or.inr ⟨k, z, m, ho⟩
  refine ⟨⟨fun k y hk => ?_, fun b hb => ?_, ?_, ?_, ?_⟩, ⟨push_later o 0 h.dlt, fun b hb _ => push_get w o b hb, own⟩⟩
  · by_cases e : k = .r w.heap.size
    · subst e; rw [Store.set_same] at hk; cases hk; exact hx
    · rw [Store.set_other _ _ e] at hk; exact push_blk h o 0 hk
  · simp only [World.push, Array.size_push] at hb
    simp only [Prot.up]; rw [if_neg (by omega)]; exact h.dlt b (by omega)
  · obtain ⟨N, hN⟩ := h.fin
    exact ⟨N, fun k hk => by rw [Store.set_other _ _ (by simp)]; exact hN k hk⟩
  · intro k k' z z' n n' b h1 h2
    rw [Store.set_other _ _ (by simp)] at h1 h2
    exact h.one k k' z z' n n' b h1 h2
  · intro k z n b h1
    rw [Store.set_other _ _ (by simp)] at h1
    have hb : b ≠ w.heap.size := by have := h.lt (Or.inr ⟨k, z, n, h1⟩); omega
    rw [Store.set_other _ _ (by simpa using hb)]
    exact h.apart k z n b h1

/-- An owned block of cells, written anew. -/
theorem put_later {D : Prot} {w : World} {b : Nat} {vs vs' : Array Value} {ty : TypeId} (hb : w.heap[b]? = some (.cells vs ty (0, 0))) (hs : vs.size ≤ vs'.size)
    {n : Nat} (hn : D b ≤ n) (hp : ∀ o, o < D b → vs'[o]? = vs[o]?) : Later D w (Prot.up D b n) (World.putO w b (.cells vs' ty (0, 0))) := by
  have hlt : b < w.heap.size := (Array.getElem?_eq_some_iff.1 hb).1
  have hnew := putO_same w (.cells vs' ty (0, 0)) hlt
  refine ⟨rfl, rfl, rfl, by simp [World.putO], fun c => ?_, fun c o ho => ?_, fun c => ?_, Nat.le_refl _⟩
  · simp only [Prot.up]; split <;> simp_all
  · by_cases e : c = b
    · subst e; rw [cell_cells hnew, cell_cells hb]; exact hp o ho
    · exact cell_of_heap (putO_other w _ e) o
  · by_cases e : c = b
    · subst e; rw [bsize_cells hnew, bsize_cells hb]; exact hs
    · rw [bsize_of_heap (putO_other w _ e)]; exact Nat.le_refl _

theorem put_own {S : Store} {D : Prot} {w : World} (h : Rel S D w) {b : Nat} {vs vs' : Array Value} {ty : TypeId} (ho : S (.r b) ≠ none) (hb : w.heap[b]? = some (.cells vs ty (0, 0))) (hs : vs.size = vs'.size)
    (hd : D b = 0) (x : Blk) (hx : BlkRep (Prot.up D b 0) (World.putO w b (.cells vs' ty (0, 0))) (.r b) x) :
    Rel (S.set (.r b) x) (Prot.up D b 0) (World.putO w b (.cells vs' ty (0, 0))) ∧ Ext S D w (S.set (.r b) x) (Prot.up D b 0) (World.putO w b (.cells vs' ty (0, 0))) := by
  have hl := put_later (D := D) (n := 0) hb (Nat.le_of_eq hs) (by omega) (fun o ho => by omega)
  have hD : Prot.up D b 0 = D := by funext c; simp only [Prot.up]; split <;> simp_all
  refine ⟨⟨fun k y hk => ?_, fun c hc => ?_, ?_, ?_, ?_⟩, ⟨hl, fun c hc hn => ?_, fun c hc hn ho' => ?_⟩⟩
  · by_cases e : k = .r b
    · subst e; rw [Store.set_same] at hk; cases hk; exact hx
    · rw [Store.set_other _ _ e] at hk
      refine (h.blk k y hk).later hl ?_
      intro c hc
      have : c ≠ b := by
        rintro rfl
        rcases hc with rfl | ⟨z, m, rfl⟩
        · exact e rfl
        · cases k with
          | r d => exact (h.blk _ _ hk).elim
          | v k => exact ho (h.apart k z m c hk)
      exact ⟨putO_other w _ this, by rw [hD]⟩
  · simp only [World.putO, Array.size_setIfInBounds] at hc; rw [hD]; exact h.dlt c hc
  · obtain ⟨N, hN⟩ := h.fin
    exact ⟨N, fun k hk => by rw [Store.set_other _ _ (by simp)]; exact hN k hk⟩
  · intro k k' z z' n n' b h1 h2
    rw [Store.set_other _ _ (by simp)] at h1 h2
    exact h.one k k' z z' n n' b h1 h2
  · intro k z n c h1
    rw [Store.set_other _ _ (by simp)] at h1
    have hc : c ≠ b := by rintro rfl; exact ho (h.apart k z n c h1)
    rw [Store.set_other _ _ (by simpa using hc)]
    exact h.apart k z n c h1
  · exact putO_other w _ (by rintro rfl; exact hn (Or.inl ho))
  · refine hn ?_
    rcases ho' with ho' | ⟨k, z, m, ho'⟩
    · by_cases e : c = b
      · subst e; exact Or.inl ho
      · rw [Store.set_other _ _ (by simpa using e)] at ho'; exact Or.inl ho'
    · rw [Store.set_other _ _ (by simp)] at ho'; exact Or.inr ⟨k, z, m, ho'⟩

theorem drew_ok {S : Store} {D : Prot} {w : World} (h : Rel S D w) (n : Nat) (hn : w.drawn ≤ n := by omega) : Rel S D { w with drawn := n } ∧ Ext S D w S D { w with drawn := n } := by
  have hl : Later D w D { w with drawn := n } := ⟨rfl, rfl, rfl, Nat.le_refl _, fun _ => Nat.le_refl _, fun _ _ _ => rfl, fun _ => Nat.le_refl _, hn⟩
  exact ⟨⟨fun k x hk => (h.blk k x hk).later hl (fun _ _ => ⟨rfl, rfl⟩), h.dlt, h.fin, h.one, h.apart⟩, ⟨hl, fun _ _ _ => rfl, fun _ _ hn => hn⟩⟩

/-! Cells written one by one. -/
def writeAt (c : Array Value) (o : Nat) : List Value → Array Value
  | [] => c
  | v :: r => writeAt (c.setIfInBounds o v) (o + 1) r

theorem writeAt_size (c : Array Value) (o : Nat) (l : List Value) : (writeAt c o l).size = c.size := by
  induction l generalizing c o with
  | nil => rfl
  | cons v r ih => simp [writeAt, ih]

theorem writeAt_get (l : List Value) : ∀ (c : Array Value) (o : Nat) (i : Nat), o + l.length ≤ c.size → (writeAt c o l)[i]? = if o ≤ i ∧ i < o + l.length then l[i - o]? else c[i]? := by
  induction l with
  | nil => intro c o i _; simp only [writeAt, List.length_nil, Nat.add_zero]; rw [if_neg (by omega)]
  | cons v r ih =>
    intro c o i h
    simp only [List.length_cons] at h
    rw [writeAt, ih _ _ _ (by simp; omega)]
    simp only [List.length_cons]
    by_cases h1 : i = o
    · subst h1
      rw [if_neg (by omega), if_pos (by omega), Array.getElem?_setIfInBounds, if_pos rfl, if_pos (by omega)]
      simp
    · by_cases h2 : o + 1 ≤ i ∧ i < o + 1 + r.length
      · rw [if_pos h2, if_pos (by omega)]
        rw [show i - o = (i - (o + 1)) + 1 from by omega, List.getElem?_cons_succ]
      · rw [if_neg h2, if_neg (by omega), Array.getElem?_setIfInBounds, if_neg (fun e => h1 e.symm)]

theorem run_storeCells (P : Program) (b : Nat) (ty : TypeId) (l : List Value) (hl : ∀ v ∈ l, (∀ c, v ≠ .agg c) ∧ (∀ c, v ≠ .tuple c)) :
    ∀ (w : World) (o i : Nat) (c : Array Value), w.heap[b]? = some (.cells c ty (0, 0)) → o + i + l.length ≤ c.size →
    (storeCells ⟨b, o, none⟩ l i).run P w = .ok () (World.putO w b (.cells (writeAt c (o + i) l) ty (0, 0))) := by
  induction l with
  | nil =>
    intro w o i c hc _
    have : World.putO w b (.cells (writeAt c (o + i) []) ty (0, 0)) = w := by
      have hb := (Array.getElem?_eq_some_iff.1 hc)
      obtain ⟨hlt, hv⟩ := hb
      simp only [World.putO, writeAt]
      have : w.heap.setIfInBounds b (.cells c ty (0, 0)) = w.heap := by
        apply Array.ext
        · simp
        · intro k h1 h2
          rw [Array.getElem_setIfInBounds]
          · split
            · rename_i e; subst e; exact hv.symm
            · rfl
      rw [this]
    rw [this]; rfl
  | cons v r ih =>
    intro w o i c hc hlen
    simp only [List.length_cons] at hlen
    have hv := hl v (by simp)
    have hlt : b < w.heap.size := (Array.getElem?_eq_some_iff.1 hc).1
    have hcell : w.cell? ⟨b, o + i, none⟩ = some c[o + i] := by rw [cell_cells hc, Array.getElem?_eq_getElem (by omega)]
    have hfz : w.frozen? ⟨b, o + i, none⟩ = false := by simp [World.frozen?, hc]
    have hset : w.setCell ⟨b, o + i, none⟩ v = World.putO w b (.cells (c.setIfInBounds (o + i) v) ty (0, 0)) := by
      obtain ⟨_, hg⟩ := Array.getElem?_eq_some_iff.1 hc
      simp only [World.setCell, World.putO]
      congr 1
      apply Array.ext
      · simp
      · intro k h1 h2
        rw [Array.getElem_modify, Array.getElem_setIfInBounds]
        · split
          · rename_i e; subst e; simp [hg]
          · rfl
    have hst : (store ((⟨b, o, none⟩ : Addr).add i) v).run P w = .ok () (World.putO w b (.cells (c.setIfInBounds (o + i) v) ty (0, 0))) := by
      rw [Addr.add_mk, ← hset]
      have h1 := hv.1
      have h2 := hv.2
      cases v with
      | agg c => exact absurd rfl (h1 c)
      | tuple c => exact absurd rfl (h2 c)
      | _ => simp only [store, Sem.run, hcell, hfz]; rfl
    simp only [storeCells, Sem.run_bind, hst, Result.andThen_ok]
    rw [ih (fun u hu => hl u (by simp [hu])) _ o (i + 1) (c.setIfInBounds (o + i) v) (putO_same w _ hlt) (by simp; omega)]
    congr 1
    simp only [World.putO, writeAt]
    congr 1
    rw [show o + (i + 1) = o + i + 1 from by omega]
    apply Array.ext_getElem?
    intro k
    simp only [Array.getElem?_setIfInBounds, Array.size_setIfInBounds]
    split <;> rfl
end Go.Sk
