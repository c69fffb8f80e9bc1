/- Slices that grow from nothing; loops with something that isn't known; blocks looked on as data. -/
import Derived.Test.YthpfcfacofakoaaGreatSkOr
set_option linter.unusedSimpArgs false
set_option linter.unusedVariables false
set_option linter.unusedSectionVars false
namespace Go.Sk
open Go

theorem join_nil (S : Store) : Store.join (fun _ => none) S = S := by
  funext q; unfold Store.join; cases S q <;> rfl
theorem join_setT {T E : Store} {k : Key} (x : Blk) (hk : E k = none) : (Store.join T E).set k x = Store.join (T.set k x) E := by
  funext q
  unfold Store.join Store.set
  by_cases e : q = k
  · subst e; simp [hk]
  · simp [e]
theorem Disj.setT {T E : Store} (h : Disj T E) {k : Key} (hk : E k = none) (x : Blk) : Disj (T.set k x) E := fun q => by
  by_cases e : q = k
  · subst e; exact Or.inl hk
  · rw [Store.set_other _ _ e]; exact h q
theorem Disj.nil (E : Store) : Disj (fun _ => none) E := fun _ => Or.inr rfl
theorem sub_set {S' U : Store} {k : Key} {x : Blk} (h : Sub S' U) (hk : U k = some x) : Sub (S'.set k x) U := by
  intro q y hq
  by_cases e : q = k
  · subst e; rw [Store.set_same] at hq; rw [hk]; exact hq
  · rw [Store.set_other _ _ e] at hq; exact h _ _ hq

section
variable {P : Program} {ro : Option Nat} {c : Code} {Q : Ex → St → Prop} {n : Nat} {df : List Nat}

theorem AWPH.iterE {s : St} {ι : Type} (st : ι → Nat → St) (n : Nat) (x0 : ι) (h0 : s.le (st x0 0))
    (round : ∀ i x, i < n → (∀ y, AWPH P ro c Q (st y (i + 1))) → AWPH P ro c Q (st x i)) (last : ∀ x, AWPH P ro c Q (st x n)) : AWPH P ro c Q s := by
  have key : ∀ k, k ≤ n → ∀ x, AWPH P ro c Q (st x (n - k)) := by
    intro k
    induction k with
    | zero => intro _ x; exact last x
    | succ k ih =>
      intro hk x
      have := round (n - (k + 1)) x (by omega) (by rw [show n - (k + 1) + 1 = n - k from by omega]; exact ih (by omega))
      exact this
  have := key n (Nat.le_refl _) x0
  rw [Nat.sub_self] at this
  exact this.of_le h0
/-- Round by round; something (x) isn't known. -/
theorem AWP.iterE {s : St} {ι : Type} (st : ι → Nat → St) (n : Nat) (x0 : ι) (h0 : s.le (st x0 0))
    (round : ∀ i x, i < n → (∀ y, AWPH P ro c Q (st y (i + 1))) → AWPH P ro c Q (st x i)) (last : ∀ x, AWPH P ro c Q (st x n)) : AWP P ro (.loop c) Q s :=
  AWP.head (AWPH.iterE st n x0 h0 round last)

theorem rel_tip0 {S : Store} {D : Prot} {w : World} (hR : Rel S D w) (k z : Nat) (hk : S (.v k) = none) : Rel (S.set (.v k) (.tip z 0 none)) D w ∧ Ext S D w (S.set (.v k) (.tip z 0 none)) D w :=
  tip_none hR k z 0 (Or.inl hk)

/-- Nothing, as a slice that grows. -/
theorem AWP.tip0 (t z : Nat) {ρ : Env} {S : Store} (ht : ρ.get t = .nils) (h : ∀ k, FreshV S k → AWP P ro c Q ⟨(ρ.put t (.ts k z none [])).get, S.set (.v k) (.tip z 0 none), n, df⟩) :
    AWP P ro c Q ⟨ρ.get, S, n, df⟩ := by
  intro D w a hs
  obtain ⟨N, hN⟩ := hs.rel.fin
  have hk := hN N (Nat.le_refl _)
  refine AWP.fz (s := ⟨ρ.get, S, n, df⟩) (h N hk) ⟨rfl, rfl, fun D w a hs => ?_⟩ D w a hs
  obtain ⟨hR, hE⟩ := rel_tip0 hs.rel N z hk
  refine ⟨D, ⟨hR, fun u => ?_, hs.size, hs.defers, fun r hr => ?_, hs.nodup⟩, hE⟩
  · show RepA D w _ ((ρ.put t (.ts N z none [])).get u)
    rw [Env.get_put]
    split
    · rename_i e; subst e
      have := hs.slots u
      change RepA D w _ (ρ.get u) at this
      rw [ht] at this
      generalize a.tmps.getD u undef = v at this ⊢
      cases this
      exact .tsc N z none 0 [] (.nil _)
    · exact hs.slots u
  · have := hs.df r hr
    show (S.set (.v N) (.tip z 0 none)) (.r r) = _
    rw [Store.set_other _ _ (by simp)]; exact this

/-- A block whose cells are seen otherwise. -/
theorem AWP.cellsB (b : Nat) {ρ : Nat → AV} {S : Store} {cs cs' : List AV} (hb : S (.r b) = some (.cells cs)) (hlen : cs'.length = cs.length)
    (hrep : ∀ D w i v, i < cs.length → RepA D w v (cs.getD i .top) → RepA D w v (cs'.getD i .top)) (h : AWP P ro c Q ⟨ρ, S.set (.r b) (.cells cs'), n, df⟩) :
    AWP P ro c Q ⟨ρ, S, n, df⟩ := by
  refine AWP.fz h ⟨rfl, rfl, fun D w a hs => ⟨D, ⟨?_, hs.slots, hs.size, hs.defers, fun r hr => ?_, hs.nodup⟩, ?_⟩⟩
  · refine ⟨fun k x hk => ?_, hs.rel.dlt, ?_, fun k k' z z' n n' c h1 h2 => ?_, fun k z n c h1 => ?_⟩
    · by_cases e : k = .r b
      · subst e
        change (S.set (.r b) (.cells cs')) (.r b) = some x at hk
        rw [Store.set_same] at hk
        cases hk
        obtain ⟨vs, ty, h1, h2, h3, h4⟩ := hs.rel.blk _ _ hb
        refine ⟨vs, ty, h1, by rw [hlen]; exact h2, fun i hi => ?_, h4⟩
        rw [hlen] at hi
        exact hrep _ _ _ _ hi (h3 i hi)
      · change (S.set (.r b) (.cells cs')) k = some x at hk
        rw [Store.set_other _ _ e] at hk
        exact hs.rel.blk _ _ hk
    · obtain ⟨N, hN⟩ := hs.rel.fin
      exact ⟨N, fun k hk => by show (S.set (.r b) (.cells cs')) (.v k) = none; rw [Store.set_other _ _ (by simp)]; exact hN k hk⟩
    · change (S.set (.r b) (.cells cs')) (.v k) = _ at h1; change (S.set (.r b) (.cells cs')) (.v k') = _ at h2
      rw [Store.set_other _ _ (by simp)] at h1 h2
      exact hs.rel.one k k' z z' n n' c h1 h2
    · change (S.set (.r b) (.cells cs')) (.v k) = _ at h1
      rw [Store.set_other _ _ (by simp)] at h1
      show (S.set (.r b) (.cells cs')) (.r c) = none
      have : S (.r c) = none := hs.rel.apart k z n c h1
      by_cases e : c = b
      · subst e; rw [hb] at this; cases this
      · rw [Store.set_other _ _ (by simp [e])]; exact this
  · have := hs.df r hr
    show (S.set (.r b) (.cells cs')) (.r r) = _
    by_cases e : r = b
    · subst e; change S (.r r) = _ at this; rw [hb] at this; cases this
    · rw [Store.set_other _ _ (by simp [e])]; exact this
  · refine ⟨Later.refl _ _, fun _ _ _ => rfl, fun c _ ho hn => ho ?_⟩
    rcases hn with h1 | ⟨k, z, m, h1⟩
    · by_cases e : c = b
      · subst e; exact Or.inl (by show S _ ≠ _; rw [hb]; simp)
      · refine Or.inl ?_
        change (S.set (.r b) (.cells cs')) (.r c) ≠ none at h1
        rwa [Store.set_other _ _ (by simp [e])] at h1
    · refine Or.inr ⟨k, z, m, ?_⟩
      change (S.set (.r b) (.cells cs')) (.v k) = _ at h1
      rwa [Store.set_other _ _ (by simp)] at h1
/-- A block looked on as data. -/
theorem AWP.dataB (b : Nat) {ρ : Nat → AV} {S : Store} {cs : List AV} (hb : S (.r b) = some (.cells cs)) (h : AWP P ro c Q ⟨ρ, S.set (.r b) (.cells (cs.map reif1)), n, df⟩) :
    AWP P ro c Q ⟨ρ, S, n, df⟩ :=
  AWP.cellsB b hb (List.length_map _) (fun D w i v hi hr => by rw [getD_map_lt cs i hi]; exact reif1_rep hr) h
theorem AWP.tipS (z : Nat) {ρ : Nat → AV} {S : Store} (h : ∀ k, FreshV S k → AWP P ro c Q ⟨ρ, S.set (.v k) (.tip z 0 none), n, df⟩) : AWP P ro c Q ⟨ρ, S, n, df⟩ := by
  intro D w a hs
  obtain ⟨N, hN⟩ := hs.rel.fin
  have hk := hN N (Nat.le_refl _)
  refine AWP.fz (s := ⟨ρ, S, n, df⟩) (h N hk) ⟨rfl, rfl, fun D w a hs => ?_⟩ D w a hs
  obtain ⟨hR, hE⟩ := rel_tip0 hs.rel N z hk
  refine ⟨D, ⟨hR, hs.slots, hs.size, hs.defers, fun r hr => ?_, hs.nodup⟩, hE⟩
  have := hs.df r hr
  show (S.set (.v N) (.tip z 0 none)) (.r r) = _
  rw [Store.set_other _ _ (by simp)]; exact this
/-- Nothing, in a block's cell, as a slice that grows. -/
theorem AWP.tipB (b i z : Nat) {ρ : Nat → AV} {S : Store} {cs : List AV} (hb : S (.r b) = some (.cells cs)) (hi : cs.getD i .top = .nils)
    (h : ∀ k, FreshV S k → AWP P ro c Q ⟨ρ, (S.set (.v k) (.tip z 0 none)).set (.r b) (.cells (cs.set i (.ts k z none []))), n, df⟩) : AWP P ro c Q ⟨ρ, S, n, df⟩ := by
  refine AWP.tipS z fun k hk => AWP.cellsB b (cs := cs) (by rw [Store.set_other _ _ (by simp)]; exact hb) (List.length_set) (fun D w j v hj hr => ?_) (h k hk)
  by_cases e : j = i
  · subst e
    rw [hi] at hr
    have : (cs.set j (.ts k z none [])).getD j .top = .ts k z none [] := by simp [List.getD_eq_getElem?_getD, hj]
    rw [this]
    cases hr
    exact .tsc k z none 0 [] (.nil _)
  · have : (cs.set i (.ts k z none [])).getD j .top = cs.getD j .top := by simp [List.getD_eq_getElem?_getD, List.getElem?_set, Ne.symm e]
    rw [this]; exact hr
end
end Go.Sk
