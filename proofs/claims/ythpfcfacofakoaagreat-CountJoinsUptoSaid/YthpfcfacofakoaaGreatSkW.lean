/- What was written becomes data: the block is given up. -/
import Derived.Test.YthpfcfacofakoaaGreatSkV
set_option linter.unusedSimpArgs false
set_option linter.unusedVariables false
set_option linter.unusedSectionVars false
namespace Go.Sk
open Go

/-- What is known may be seen otherwise, whatever the memory is. -/
def Frz (S : Store) (x : AV) (S' : Store) (x' : AV) : Prop := ∀ D w v, Rel S D w → RepA D w v x → ∃ D', Rel S' D' w ∧ RepA D' w v x' ∧ Ext S D w S' D' w
theorem Frz.refl (S : Store) (x : AV) : Frz S x S x := fun D _ _ hR hv => ⟨D, hR, hv, Ext.refl _ _ _⟩
theorem Frz.trans {S S' S'' : Store} {x x' x'' : AV} (h : Frz S x S' x') (k : Frz S' x' S'' x'') : Frz S x S'' x'' := fun D w v hR hv =>
  let ⟨_, hR', hv', hE⟩ := h D w v hR hv
  let ⟨D'', hR'', hv'', hE'⟩ := k _ w v hR' hv'
  ⟨D'', hR'', hv'', hE.trans hE'⟩
theorem Frz.forget {S S' : Store} {x : AV} (h : Sub S' S) : Frz S x S' x := fun D _ _ hR hv => ⟨D, hR.forget h, hv, (Ext.refl _ _ _).forget h⟩
theorem CallR.frz {P : Program} {f : FuncId} {args : List AV} {S : Store} {R R' : AV → Store → Prop} (h : CallR P f args S R) (hf : ∀ x S', R x S' → ∃ x' S'', Frz S' x S'' x' ∧ R' x' S'') : CallR P f args S R' :=
  ⟨h.1, fun D w vs hR hv => (h.2 D w vs hR hv).mono fun v w' ⟨x, S', D', h1, h2, h3, h4⟩ =>
    let ⟨x', S'', hfz, hR'⟩ := hf x S' h1
    let ⟨D'', g1, g2, g3⟩ := hfz D' w' v h2 h3
    ⟨x', S'', D'', hR', g1, g2, h4.trans g3⟩⟩

structure StFz (s s' : St) : Prop where
  n : s'.n = s.n
  df : s'.df = s.df
  fz : ∀ D w a, RelSt s D w a → ∃ D', RelSt s' D' w a ∧ Ext s.S D w s'.S D' w
theorem Post.pre {s s' : St} {D D' : Prot} {w : World} (hE : Ext s.S D w s'.S D' w) {K : St → Prop} {a : Act} {w' : World} (h : Post s' D' w K a w') : Post s D w K a w' := by
  obtain ⟨t, D2, hK, h1, h2⟩ := h
  exact ⟨t, D2, hK, h1, hE.trans h2⟩
theorem AWP.fz {P : Program} {ro : Option Nat} {c : Code} {Q : Ex → St → Prop} {s s' : St} (h : AWP P ro c Q s') (f : StFz s s') : AWP P ro c Q s := fun D w a hs =>
  let ⟨D', hs', hE⟩ := f.fz D w a hs
  WP.mono (h D' w a hs') (fun _ _ _ hp => Post.pre hE hp)
theorem AWPH.fz {P : Program} {ro : Option Nat} {c : Code} {Q : Ex → St → Prop} {s s' : St} (h : AWPH P ro c Q s') (f : StFz s s') : AWPH P ro c Q s := by
  intro D w a hs b k cs hr
  obtain ⟨D', hs', hE⟩ := f.fz D w a hs
  obtain ⟨e, a', w', hp, harr⟩ := h D' w a hs' b k cs hr
  exact ⟨e, a', w', Post.pre hE hp, harr⟩

/-- A value behind which block b, up to cell m, is data. -/
def fz1 (b m : Nat) (cs : List AV) (x x' : AV) : Prop :=
  x' = x ∨ x' = .top ∨ ∃ z o n c els, x = .ms b z o n c ∧ o + n * z ≤ m ∧ x' = .p (.sl els) ∧ els.length = n ∧ (∀ el ∈ els, el.length = z) ∧ (cs.drop o).take (n * z) = flatA els
def fzL (b m : Nat) (cs : List AV) (l l' : List AV) : Prop := l.length = l'.length ∧ ∀ i, i < l.length → fz1 b m cs (l.getD i .top) (l'.getD i .top)
def fz2 (b m : Nat) (cs : List AV) (x x' : AV) : Prop := fz1 b m cs x x' ∨ ∃ l l', x = .agg l ∧ x' = .agg l' ∧ fzL b m cs l l'
def fzA (b m : Nat) (cs : List AV) (x x' : AV) : Prop := fz2 b m cs x x' ∨ ∃ l l', x = .tuple l ∧ x' = .tuple l' ∧ l.length = l'.length ∧ ∀ i, i < l.length → fz2 b m cs (l.getD i .top) (l'.getD i .top)
def fzB (b m : Nat) (cs : List AV) (y : Option Blk) (x : Blk) : Prop := y = some x ∨ ∃ l l', y = some (.cells l) ∧ x = .cells l' ∧ fzL b m cs l l'

theorem fzL_nil (b m : Nat) (cs : List AV) : fzL b m cs [] [] := ⟨rfl, fun i hi => by simp at hi⟩
theorem fzL_cons {b m : Nat} {cs : List AV} {x x' : AV} {l l' : List AV} (h : fz1 b m cs x x') (k : fzL b m cs l l') : fzL b m cs (x :: l) (x' :: l') := by
  refine ⟨by simp [k.1], fun i hi => ?_⟩
  cases i with
  | zero => exact h
  | succ i => exact k.2 i (by simpa using hi)
section
variable {S : Store} {D : Prot} {w : World} {b m : Nat} {cs : List AV}

theorem later_up (hR : Rel S D w) (hb : S (.r b) = some (.cells cs)) : Later D w (Prot.up D b m) w := by
  obtain ⟨vs, ty, hh, hsz, hrep, hD⟩ := hR.blk _ _ hb
  refine ⟨rfl, rfl, rfl, Nat.le_refl _, fun c => ?_, fun _ _ _ => rfl, fun _ => Nat.le_refl _, Nat.le_refl _⟩
  unfold Prot.up; split
  · rename_i e; subst e; omega
  · exact Nat.le_refl _

theorem fz1_rep (hR : Rel S D w) (hb : S (.r b) = some (.cells cs)) (hm : m ≤ cs.length) {v : Value} {x x' : AV} (h : fz1 b m cs x x') (hv : RepA D w v x) : RepA (Prot.up D b m) w v x' := by
  have hl := later_up (m := m) hR hb
  rcases h with rfl | rfl | ⟨z, o, n, c, els, rfl, hfit, rfl, hlen, hall, hcs⟩
  · exact hv.later hl
  · exact .top _
  · obtain ⟨vs, ty, hh, hsz, hrep, hD⟩ := hR.blk _ _ hb
    cases hv with
    | ms _ _ _ o2 _ _ hn hc ho =>
      subst hlen
      refine .p ?_
      refine .sl b o2 c z els (fun i j => vs.getD (o + i * z + j) undef) hn hall (fun i j hi hj => ?_) (fun i j hi hj => ?_)
      · have : o2 = o := ho (by omega)
        subst this
        have h1 : (i + 1) * z ≤ els.length * z := Nat.mul_le_mul_right _ hi
        rw [Nat.add_mul] at h1
        refine ⟨?_, by simp only [Prot.up, if_true]; omega⟩
        rw [cell_cells hh]
        simp only [Array.getD]; rw [dif_pos (by omega)]; exact Array.getElem?_eq_getElem (by omega)
      · have h1 : (i + 1) * z ≤ els.length * z := Nat.mul_le_mul_right _ hi
        rw [Nat.add_mul] at h1
        have h2 := hrep (o + i * z + j) (by omega)
        have h3 := flatA_getD hall i j hi hj
        rw [← hcs, getD_take_drop _ _ _ _ (by omega), ← Nat.add_assoc] at h3
        rw [h3] at h2
        exact h2.inv.later hl

theorem fzL_rep (hR : Rel S D w) (hb : S (.r b) = some (.cells cs)) (hm : m ≤ cs.length) {vs : Array Value} {l l' : List AV} (h : fzL b m cs l l') (hs : vs.size = l.length)
    (hv : ∀ i, i < l.length → RepA D w (vs.getD i undef) (l.getD i .top)) : vs.size = l'.length ∧ ∀ i, i < l'.length → RepA (Prot.up D b m) w (vs.getD i undef) (l'.getD i .top) :=
  ⟨hs.trans h.1, fun i hi => fz1_rep hR hb hm (h.2 i (by rw [h.1]; exact hi)) (hv i (by rw [h.1]; exact hi))⟩

theorem fz2_rep (hR : Rel S D w) (hb : S (.r b) = some (.cells cs)) (hm : m ≤ cs.length) {v : Value} {x x' : AV} (h : fz2 b m cs x x') (hv : RepA D w v x) : RepA (Prot.up D b m) w v x' := by
  rcases h with h | ⟨l, l', rfl, rfl, h⟩
  · exact fz1_rep hR hb hm h hv
  · cases hv with
    | agg vs _ hn hr =>
      obtain ⟨h1, h2⟩ := fzL_rep hR hb hm h hn hr
      exact .agg _ _ h1 h2

theorem fzA_rep (hR : Rel S D w) (hb : S (.r b) = some (.cells cs)) (hm : m ≤ cs.length) {v : Value} {x x' : AV} (h : fzA b m cs x x') (hv : RepA D w v x) : RepA (Prot.up D b m) w v x' := by
  rcases h with h | ⟨l, l', rfl, rfl, h1, h2⟩
  · exact fz2_rep hR hb hm h hv
  · cases hv with
    | tuple vs _ hn hr =>
      exact .tuple _ _ (hn.trans h1) (fun i hi => fz2_rep hR hb hm (h2 i (by omega)) (hr i (by omega)))

theorem rel_freeze {S' : Store} (hR : Rel S D w) (hb : S (.r b) = some (.cells cs)) (hm : m ≤ cs.length) (hS : ∀ k x, S' k = some x → k ≠ .r b ∧ fzB b m cs (S k) x) :
    Rel S' (Prot.up D b m) w ∧ Ext S D w S' (Prot.up D b m) w := by
  have hl := later_up (m := m) hR hb
  have tip : ∀ k z n loc, S' (.v k) = some (.tip z n loc) → S (.v k) = some (.tip z n loc) := by
    intro k z n loc h
    rcases (hS _ _ h).2 with h' | ⟨l, l', _, h', _⟩
    · exact h'
    · cases h'
  have none' : ∀ k, S k = none → S' k = none := by
    intro k h
    cases hx : S' k with
    | none => rfl
    | some x =>
      rcases (hS _ _ hx).2 with h' | ⟨l, l', h', _⟩ <;> rw [h] at h' <;> cases h'
  have own : ∀ c, Owned S' c → Owned S c := by
    rintro c (h | ⟨k, z, n, h⟩)
    · refine Or.inl fun e => h (none' _ e)
    · exact Or.inr ⟨k, z, n, tip _ _ _ _ h⟩
  refine ⟨⟨fun k x hk => ?_, fun c hc => ?_, ?_, fun k k' z z' n n' c h1 h2 => hR.one _ _ _ _ _ _ _ (tip _ _ _ _ h1) (tip _ _ _ _ h2), fun k z n c h1 => none' _ (hR.apart _ _ _ _ (tip _ _ _ _ h1))⟩, ⟨hl, fun _ _ _ => rfl, fun c _ hn ho => hn (own c ho)⟩⟩
  · obtain ⟨hne, hx⟩ := hS k x hk
    have hD : ∀ c, (k = .r c ∨ ∃ z n, x = .tip z n (some c)) → Prot.up D b m c = D c := by
      rintro c (rfl | ⟨z, n, rfl⟩)
      · unfold Prot.up; rw [if_neg]; rintro rfl; exact hne rfl
      · unfold Prot.up; rw [if_neg]; rintro rfl
        cases k with
        | r k =>
          rcases hx with h | ⟨_, _, _, h, _⟩
          · exact (hR.blk _ _ h).elim
          · cases h
        | v k => have := hR.apart _ _ _ _ (tip _ _ _ _ hk); rw [hb] at this; cases this
    rcases hx with hx | ⟨l, l', hx, rfl, hfz⟩
    · exact (hR.blk _ _ hx).later hl (fun c hc => ⟨rfl, hD c hc⟩)
    · cases k with
      | v k => exact (hR.blk _ _ hx).elim
      | r k =>
        obtain ⟨vs, ty, hh, hsz, hrep, hD0⟩ := hR.blk _ _ hx
        obtain ⟨h1, h2⟩ := fzL_rep hR hb hm hfz hsz hrep
        exact ⟨vs, ty, hh, h1, h2, (hD k (Or.inl rfl)).trans hD0⟩
  · unfold Prot.up; split
    · rename_i e; subst e
      exact absurd (hR.lt (Or.inl (by rw [hb]; simp))) (by omega)
    · exact hR.dlt c hc
  · obtain ⟨N, hN⟩ := hR.fin
    exact ⟨N, fun k hk => none' _ (hN k hk)⟩
end

theorem Frz.freeze {S S' : Store} {b m : Nat} {cs : List AV} {x x' : AV} (hb : S (.r b) = some (.cells cs)) (hm : m ≤ cs.length) (hS : ∀ k y, S' k = some y → k ≠ .r b ∧ fzB b m cs (S k) y) (hx : fzA b m cs x x') : Frz S x S' x' :=
  fun _ _ _ hR hv => let ⟨h1, h2⟩ := rel_freeze hR hb hm hS; ⟨_, h1, fzA_rep hR hb hm hx hv, h2⟩

theorem StFz.freeze {ρ ρ' : Nat → AV} {S S' : Store} {n : Nat} {df : List Nat} {b m : Nat} {cs : List AV} (hb : S (.r b) = some (.cells cs)) (hm : m ≤ cs.length) (hS : ∀ k y, S' k = some y → k ≠ .r b ∧ fzB b m cs (S k) y)
    (hρ : ∀ t, fzA b m cs (ρ t) (ρ' t)) (hdf : ∀ r ∈ df, S' (.r r) = some (.raw (.deferred (some [])) noKn)) : StFz ⟨ρ, S, n, df⟩ ⟨ρ', S', n, df⟩ := by
  refine ⟨rfl, rfl, fun D w a hs => ?_⟩
  obtain ⟨h1, h2⟩ := rel_freeze hs.rel hb hm hS
  exact ⟨_, ⟨h1, fun t => fzA_rep hs.rel hb hm (hρ t) (hs.slots t), hs.size, hs.defers, hdf, hs.nodup⟩, h2⟩

/-- Slot by slot. -/
def fzE (b m : Nat) (cs : List AV) : Env → (Nat → AV) → Prop
  | [], _ => True
  | (k, x') :: r, ρ => fzA b m cs (ρ k) x' ∧ fzE b m cs r ρ
theorem fzE_get {b m : Nat} {cs : List AV} {ρ : Nat → AV} : ∀ {ρ' : Env}, fzE b m cs ρ' ρ → ∀ t, fzA b m cs (ρ t) (ρ'.get t) := by
  intro ρ'
  induction ρ' with
  | nil => intro _ t; exact Or.inl (Or.inl (Or.inr (Or.inl rfl)))
  | cons kv r ih =>
    obtain ⟨k, x⟩ := kv
    intro h t
    simp only [Env.get]
    by_cases e : t = k
    · subst e; rw [if_pos rfl]; exact h.1
    · rw [if_neg e]; exact ih h.2 t
end Go.Sk
