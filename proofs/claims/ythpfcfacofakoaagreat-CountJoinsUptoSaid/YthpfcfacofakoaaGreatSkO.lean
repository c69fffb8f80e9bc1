/- Loops over functions: an iterator's contract, and the loop's own rule. -/
import Derived.Test.YthpfcfacofakoaaGreatSkN
import Derived.RangeFuncNested
set_option linter.unusedSimpArgs false
set_option linter.unusedVariables false
set_option linter.unusedSectionVars false
namespace Go.Sk
open Go

/-! Two parts of what is owned. -/
def Store.join (T E : Store) : Store := fun q => match E q with | some x => some x | none => T q
def Disj (T E : Store) : Prop := ∀ q, E q = none ∨ T q = none

theorem join_comm {T E : Store} (h : Disj T E) : Store.join T E = Store.join E T := by
  funext q
  unfold Store.join
  rcases h q with e | e <;> rw [e]
  · cases T q <;> rfl
  · cases E q <;> rfl
theorem join_set (T E : Store) (k : Key) (x : Blk) : (Store.join T E).set k x = Store.join T (E.set k x) := by
  funext q; unfold Store.join Store.set; split <;> rfl
theorem join_none {T E : Store} {k : Key} (h : Store.join T E k = none) : T k = none ∧ E k = none := by
  unfold Store.join at h
  cases he : E k with
  | some x => rw [he] at h; cases h
  | none => rw [he] at h; exact ⟨h, rfl⟩
theorem Disj.symm {T E : Store} (h : Disj T E) : Disj E T := fun q => (h q).symm
theorem Disj.set {T E : Store} (h : Disj T E) {k : Key} (hk : T k = none) (x : Blk) : Disj T (E.set k x) := fun q => by
  by_cases e : q = k
  · subst e; exact Or.inr hk
  · rw [Store.set_other _ _ e]; exact h q
theorem Disj.unset {T E : Store} {k : Key} {x : Blk} (h : Disj T (E.set k x)) : T k = none := by
  rcases h k with e | e
  · rw [Store.set_same] at e; cases e
  · exact e

/-- What a function that is ranged over does: it yields its items in turn, until it is told to stop; of what it owns, nothing has changed behind it. -/
def SeqR (P : Program) (g : FuncId) (first caps : List AV) (T0 : Store) (n : Nat) (item : Nat → List AV) : Prop :=
  ∀ (l : Nat) (J : Nat → Store → Prop) (Jx : Store → Prop),
    (∀ k, k < n → ∀ E T, Sub T0 T → Disj T E → J k E →
      YieldR P l (item k) (Store.join E T) (fun r S' => ∃ E', S' = Store.join E' T ∧ Disj T E' ∧ (r = .p (.bool true) ∧ J (k + 1) E' ∨ r = .p (.bool false) ∧ Jx E'))) →
    ∀ E, Disj T0 E → J 0 E → CallR P g (first ++ [.fn (.yield l) [] []] ++ caps) (Store.join E T0) (fun _ S' => ∃ E', S' = Store.join E' T0 ∧ Disj T0 E' ∧ (J n E' ∨ Jx E'))

/-- Slots that a round is handed. -/
def setPs : List Nat → List AV → (Nat → AV) → Nat → AV
  | p :: ps, x :: xs, ρ => setPs ps xs (upd ρ p x)
  | _, _, ρ => ρ

theorem setPs_rep {D : Prot} {w : World} : ∀ (ps : List Nat) (vs : List Value) (xs : List AV) (tmps : Array Value) (ρ : Nat → AV),
    ps.length = xs.length → vs.length = xs.length → (∀ p ∈ ps, p < tmps.size) → (∀ i, i < xs.length → RepA D w (vs.getD i undef) (xs.getD i .top)) → (∀ t, RepA D w (tmps.getD t undef) (ρ t)) →
    (∀ t, RepA D w (((ps.zip vs).foldl (fun tmps (t, a) => tmps.setIfInBounds t a) tmps).getD t undef) (setPs ps xs ρ t)) ∧ ((ps.zip vs).foldl (fun tmps (t, a) => tmps.setIfInBounds t a) tmps).size = tmps.size := by
  intro ps
  induction ps with
  | nil => intro vs xs tmps ρ h1 h2 hp hr ht; exact ⟨ht, rfl⟩
  | cons p ps ih =>
    intro vs xs tmps ρ h1 h2 hp hr ht
    cases xs with
    | nil => simp at h1
    | cons x xs =>
      cases vs with
      | nil => simp at h2
      | cons v vs =>
        have hlt := hp p (by simp)
        have := ih vs xs (tmps.setIfInBounds p v) (upd ρ p x) (by simpa using h1) (by simpa using h2) (by intro q hq; simpa using hp q (by simp [hq])) (fun i hi => by simpa using hr (i + 1) (by simpa using hi)) (fun t => by
          unfold upd
          by_cases e : t = p
          · subst e
            rw [if_pos rfl]
            have : (tmps.setIfInBounds t v).getD t undef = v := by simp [Array.getD, hlt]
            rw [this]; exact hr 0 (by simp)
          · rw [if_neg e]
            have : (tmps.setIfInBounds p v).getD t undef = tmps.getD t undef := by
              simp only [Array.getD_eq_getD_getElem?]
              rw [Array.getElem?_setIfInBounds, if_neg (fun h => e h.symm)]
            rw [this]; exact ht t)
        refine ⟨this.1, ?_⟩
        have h2 := this.2
        simp only [Array.size_setIfInBounds] at h2
        exact h2

theorem zip_toList (ps : Array Nat) (vs : Array Value) (tmps : Array Value) :
    (ps.zip vs).foldl (fun tmps (t, a) => tmps.setIfInBounds t a) tmps = (ps.toList.zip vs.toList).foldl (fun tmps (t, a) => tmps.setIfInBounds t a) tmps := by
  rw [← Array.foldl_toList, Array.toList_zip]

/-! The record, owned as it is. -/
theorem put_raw {S : Store} {D : Prot} {w : World} (h : Rel S D w) {l : Nat} {o o' : Obj} {kn : Nat → Value × AV} (hl : S (.r l) = some (.raw o kn)) (hb : bsize w l = 0) :
    Rel (S.set (.r l) (.raw o' kn)) D (World.putO w l o') ∧ Ext S D w (S.set (.r l) (.raw o' kn)) D (World.putO w l o') := by
  obtain ⟨hh, hD, hk⟩ := h.blk _ _ hl
  have hlt : l < w.heap.size := (Array.getElem?_eq_some_iff.1 hh).1
  have hlat : Later D w D (World.putO w l o') := by
    refine ⟨rfl, rfl, rfl, by simp [World.putO], fun _ => Nat.le_refl _, fun c i hi => ?_, fun c => ?_, Nat.le_refl _⟩
    · have : c ≠ l := by rintro rfl; omega
      exact cell_of_heap (putO_other w _ this) i
    · by_cases e : c = l
      · subst e; omega
      · rw [bsize_of_heap (putO_other w _ e)]; exact Nat.le_refl _
  refine ⟨⟨fun k y hk' => ?_, fun c hc => ?_, ?_, ?_, ?_⟩, ⟨hlat, fun c hc hn => ?_, fun c hc hn ho' => ?_⟩⟩
  · by_cases e : k = .r l
    · subst e; rw [Store.set_same] at hk'; cases hk'
      exact ⟨putO_same w _ hlt, hD, fun t => (hk t).later hlat⟩
    · rw [Store.set_other _ _ e] at hk'
      refine (h.blk k y hk').later hlat ?_
      intro c hc
      have : c ≠ l := by
        rintro rfl
        rcases hc with rfl | ⟨z, m, rfl⟩
        · exact e rfl
        · cases k with
          | r d => exact (h.blk _ _ hk').elim
          | v k => have := h.apart k z m c hk'; rw [hl] at this; cases this
      exact ⟨putO_other w _ this, rfl⟩
  · simp only [World.putO, Array.size_setIfInBounds] at hc; exact h.dlt c hc
  · obtain ⟨N, hN⟩ := h.fin
    exact ⟨N, fun k hk => by rw [Store.set_other _ _ (by simp)]; exact hN k hk⟩
  · intro k k' z z' n n' b h1 h2
    rw [Store.set_other _ _ (by simp)] at h1 h2
    exact h.one k k' z z' n n' b h1 h2
  · intro k z n c h1
    rw [Store.set_other _ _ (by simp)] at h1
    have hc : c ≠ l := by rintro rfl; have := h.apart k z n c h1; rw [hl] at this; cases this
    rw [Store.set_other _ _ (by simpa using hc)]
    exact h.apart k z n c h1
  · exact putO_other w _ (by rintro rfl; exact hn (Or.inl (by rw [hl]; simp)))
  · refine hn ?_
    rcases ho' with ho' | ⟨k, z, m, ho'⟩
    · by_cases e : c = l
      · subst e; exact Or.inl (by rw [hl]; simp)
      · rw [Store.set_other _ _ (by simpa using e)] at ho'; exact Or.inl ho'
    · rw [Store.set_other _ _ (by simp)] at ho'; exact Or.inr ⟨k, z, m, ho'⟩

abbrev mark0 : Blk := .raw (.deferred (some [])) noKn

def jumpOf : Ex → Option Code
  | .normal => none
  | .exit id => some (.exit id)
  | .goto _ => none
  | .ret => some .ret

/-- What a round's body must come to. -/
def roundQ (T : Store) (J : Store → Prop) (Jx : Ex → Store → Prop) : Ex → St → Prop
  | .normal, s => ∃ E', Sub (Store.join T E') s.S ∧ Disj T E' ∧ J E'
  | .goto _, _ => False
  | e, s => ∃ E', Sub (Store.join T E') s.S ∧ Disj T E' ∧ Jx e E'

def noQ : Ex → St → Prop := fun _ _ => False

structure RoundEnv where
  fn : FuncId
  tmps : Array Value
  ps : Array Tmp
  assign : Code
  body : Code
  df : Nat

def RoundEnv.obj (v : RoundEnv) (st : LoopState) (p : Option Code) : Obj :=
  .loop { state := st, pending := p, fn := v.fn, tmps := v.tmps, params := v.ps, assign := v.assign, body := v.body, defers := v.df }

/-- What a round's code must come to: the assignment to the loop's variables, then the body; whatever the frame is. -/
def roundH (P : Program) (l : Nat) (assign body : Code) (n : Nat) (T E : Store) (J : Store → Prop) (Jx : Ex → Store → Prop) (ρ : Nat → AV) : Prop :=
  ∀ T', Sub T T' → Disj T' E → AWP P (some l) assign (thenQ (fun s1 => s1.df = [] ∧ ∃ E1, Sub (Store.join T' E1) s1.S ∧ Disj T' E1 ∧
    ∀ T'', Sub T T'' → Disj T'' E1 → AWP P (some l) body (roundQ T'' J Jx) ⟨s1.ρ, Store.join T'' E1, s1.n, []⟩) noQ) ⟨ρ, Store.join T' E, n, []⟩

/-- A round, as the iterator sees it: a call of yield. -/
theorem yield_ok {P : Program} {v : RoundEnv} {l : Nat} {n : Nat} {ρ : Nat → AV} {items : List AV} {T E : Store} {J : Store → Prop} {Jx : Ex → Store → Prop}
    (hps : v.ps.size = items.length) (hlt : ∀ p ∈ v.ps.toList, p < n) (hn : n ≤ v.tmps.size)
    (hd : Disj T E) (hl : E (.r l) = none) (hlT : T (.r l) = none) (hm : E (.r v.df) = none) (hmT : T (.r v.df) = none) (hne : v.df ≠ l)
    (hround : roundH P l v.assign v.body n T E J Jx (setPs v.ps.toList items ρ)) :
    YieldR P l items (Store.join ((E.set (.r v.df) mark0).set (.r l) (.raw (v.obj .ready none) (fun t => (v.tmps.getD t undef, ρ t)))) T)
      (fun r S' => ∃ E1, Disj T E1 ∧ E1 (.r l) = none ∧ E1 (.r v.df) = none ∧
        (r = .p (.bool true) ∧ S' = Store.join ((E1.set (.r v.df) mark0).set (.r l) (.raw (v.obj .ready none) (fun t => (v.tmps.getD t undef, ρ t)))) T ∧ J E1 ∨
         r = .p (.bool false) ∧ ∃ e c, jumpOf e = some c ∧ S' = Store.join ((E1.set (.r v.df) mark0).set (.r l) (.raw (v.obj .done (some c)) (fun t => (v.tmps.getD t undef, ρ t)))) T ∧ Jx e E1)) := by
  intro D w vs hR hv
  let kn : Nat → Value × AV := fun t => (v.tmps.getD t undef, ρ t)
  have hSl : ∀ (X : Store) (x : Blk), Store.join (X.set (.r l) x) T (.r l) = some x := fun X x => by
    unfold Store.join; rw [hlT]; exact Store.set_same _ _ _
  obtain ⟨hh, hD, hk⟩ := hR.blk _ _ (hSl _ _)
  have hlive : l < w.heap.size := (Array.getElem?_eq_some_iff.1 hh).1
  refine ⟨v.fn, _, v.assign, v.body, run_yield (r := { state := .ready, pending := none, fn := v.fn, tmps := v.tmps, params := v.ps, assign := v.assign, body := v.body, defers := v.df }) hh (by rw [hv.1]; exact hps.symm), ?_⟩
  intro c cs
  let b : Frame := { (default : Frame) with fn := v.fn, kind := .normal, roundOf := some l }
  have hb0 : ∀ tmps, Frame.round l v.fn tmps v.assign v.body .normal = aR b { tmps := tmps, defers := [] } [.code v.assign, .beginRound, .code v.body] := by
    intro tmps; simp only [Frame.round, Frame.atR, b]; rfl
  rw [hb0]
  obtain ⟨hslots, hsize⟩ := setPs_rep (D := D) (w := w) v.ps.toList vs.toList items v.tmps ρ (by simpa using hps) (by simpa using hv.1) (fun p hp => Nat.lt_of_lt_of_le (hlt p hp) hn)
    (fun i hi => by have := hv.2 i hi; simpa [Array.getD_eq_getD_getElem?, List.getD_eq_getElem?_getD] using this) hk
  rw [← zip_toList] at hslots hsize
  let tmps' := (v.ps.zip vs).foldl (fun tmps (t, a) => tmps.setIfInBounds t a) v.tmps
  -- the parts, turned over: the record and the mark belong to the frame
  let T1 : Store := (T.set (.r v.df) mark0).set (.r l) (.raw (v.obj .ready none) kn)
  have hT1 : Store.join T1 E = Store.join ((E.set (.r v.df) mark0).set (.r l) (.raw (v.obj .ready none) kn)) T := by
    funext q
    simp only [Store.join, T1, Store.set]
    by_cases e1 : q = .r l
    · subst e1; simp [hl, hlT]
    · by_cases e2 : q = .r v.df
      · subst e2; simp [hm, hmT, hne]
      · simp only [e1, e2, if_false]
        rcases hd q with e | e <;> rw [e]
        · cases T q <;> rfl
        · cases E q <;> rfl
  have hdT1 : Disj T1 E := by
    intro q
    simp only [T1, Store.set]
    by_cases e1 : q = .r l
    · subst e1; exact Or.inl hl
    · by_cases e2 : q = .r v.df
      · subst e2; exact Or.inl hm
      · simp only [e1, e2, if_false]; exact hd q
  have hsubT : ∀ x, Sub T ((T.set (.r v.df) mark0).set (.r l) x) := fun x => ((Sub.refl T).set hmT _).set hlT _
  have hT1l : ∀ (X : Store) (x : Blk), Disj ((T.set (.r v.df) mark0).set (.r l) x) X → X (.r l) = none ∧ X (.r v.df) = none := by
    intro X x hX
    constructor
    · rcases hX (.r l) with e | e
      · exact e
      · rw [Store.set_same] at e; cases e
    · rcases hX (.r v.df) with e | e
      · exact e
      · rw [Store.set_other _ _ (by simpa using hne), Store.set_same] at e; cases e
  have hback : ∀ (X : Store) (x : Blk), Disj ((T.set (.r v.df) mark0).set (.r l) x) X → Disj T X := by
    intro X x hX q
    rcases hX q with e | e
    · exact Or.inl e
    · refine Or.inr ?_
      simp only [Store.set] at e
      split at e
      · cases e
      · split at e
        · cases e
        · exact e
  -- the frame's first state
  have h0 : RelSt ⟨setPs v.ps.toList items ρ, Store.join T1 E, n, []⟩ D w { tmps := tmps', defers := [] } :=
    ⟨by rw [hT1]; exact hR, hslots, by show n ≤ tmps'.size; rw [hsize]; exact hn, rfl, (fun r hr => by cases hr), List.Pairwise.nil⟩
  obtain ⟨e, a1, w1, ⟨s1, D1, hq, h1, hE1⟩, harr⟩ := hround T1 (hsubT _) hdT1 D w _ h0 b [.beginRound, .code v.body] (c :: cs) rfl
  cases e with
  | exit id => exact hq.elim
  | goto t => exact hq.elim
  | ret => exact hq.elim
  | normal =>
    obtain ⟨hdf1, X1, hsub1, hdX, hbody⟩ := hq
    -- the record turns busy
    obtain ⟨hXl, hXm⟩ := hT1l _ _ hdX
    have hR1 : Rel (Store.join T1 X1) D1 w1 := h1.rel.forget hsub1
    have hl1 : Store.join T1 X1 (.r l) = some (.raw (v.obj .ready none) kn) := by
      unfold Store.join; rw [hXl]; exact Store.set_same _ _ _
    obtain ⟨hh1, hD1, hk1⟩ := hR1.blk _ _ hl1
    have hbs1 : bsize w1 l = 0 := by unfold bsize; rw [hh1]; rfl
    obtain ⟨hR2, hE2⟩ := put_raw (o' := v.obj .busy none) hR1 hl1 hbs1
    have hbr : (Instr.beginRound l).run P w1 = .ok () (World.putO w1 l (v.obj .busy none)) := run_beginRound hh1 rfl
    let T2 : Store := (T.set (.r v.df) mark0).set (.r l) (.raw (v.obj .busy none) kn)
    have hT2 : (Store.join T1 X1).set (.r l) (.raw (v.obj .busy none) kn) = Store.join T2 X1 := by
      funext q
      simp only [Store.join, T1, T2, Store.set]
      by_cases e1 : q = .r l
      · subst e1; simp [hXl]
      · simp only [e1, if_false]
    have hdX2 : Disj T2 X1 := by
      intro q
      by_cases e1 : q = .r l
      · subst e1; exact Or.inl hXl
      · rcases hdX q with e | e
        · exact Or.inl e
        · refine Or.inr ?_
          simp only [T1, T2, Store.set, e1, if_false] at e ⊢
          exact e
    have hb2 := hbody T2 (hsubT _) hdX2
    have hrel2 : RelSt ⟨s1.ρ, Store.join T2 X1, s1.n, []⟩ D1 (World.putO w1 l (v.obj .busy none)) a1 :=
      ⟨by rw [← hT2]; exact hR2, fun t => (h1.slots t).later hE2.toLater, h1.size, by rw [h1.defers, hdf1], (fun r hr => by cases hr), List.Pairwise.nil⟩
    have st1 : Steps P (lone (aR b a1 [.beginRound, .code v.body]) (c :: cs) w1) (lone (aR b a1 [.code v.body]) (c :: cs) (World.putO w1 l (v.obj .busy none))) := .one (stepR_beginRound rfl hbr)
    obtain ⟨e2, a2, w2, ⟨s2, D2, hq2, h2, hE3⟩, harr2⟩ := hb2 D1 _ a1 hrel2 b [] (c :: cs) rfl
    have hsteps0 := (Steps.trans harr st1)
    have hExt2 : Ext (Store.join T1 E) D w s2.S D2 w2 := by
      refine (hE1.forget hsub1).trans ?_
      rw [← hT2] at hE3
      exact hE2.trans hE3
    -- behind the body, however it ended
    have fin : ∀ (X2 : Store), Sub (Store.join T2 X2) s2.S → Disj T2 X2 → ∀ (st : LoopState) (p : Option Code), ∃ D', 
        (World.putO w2 l (v.obj st p)).heap[l]? = some (v.obj st p) ∧ w2.heap[l]? = some (v.obj .busy none) ∧ Disj T X2 ∧ X2 (.r l) = none ∧ X2 (.r v.df) = none ∧
        Rel (Store.join ((X2.set (.r v.df) mark0).set (.r l) (.raw (v.obj st p) kn)) T) D' (World.putO w2 l (v.obj st p)) ∧
        Ext (Store.join T1 E) D w (Store.join ((X2.set (.r v.df) mark0).set (.r l) (.raw (v.obj st p) kn)) T) D' (World.putO w2 l (v.obj st p)) := by
      intro X2 hs2 hd2 st p
      obtain ⟨g1, g2⟩ := hT1l _ _ hd2
      have hRa : Rel (Store.join T2 X2) D2 w2 := h2.rel.forget hs2
      have hla : Store.join T2 X2 (.r l) = some (.raw (v.obj .busy none) kn) := by
        unfold Store.join; rw [g1]; exact Store.set_same _ _ _
      obtain ⟨hha, hDa, hka⟩ := hRa.blk _ _ hla
      have hbsa : bsize w2 l = 0 := by unfold bsize; rw [hha]; rfl
      obtain ⟨hRb, hEb⟩ := put_raw (o' := v.obj st p) hRa hla hbsa
      have hla2 : l < w2.heap.size := (Array.getElem?_eq_some_iff.1 hha).1
      have heq : (Store.join T2 X2).set (.r l) (.raw (v.obj st p) kn) = Store.join ((X2.set (.r v.df) mark0).set (.r l) (.raw (v.obj st p) kn)) T := by
        funext q
        simp only [Store.join, T2, Store.set]
        by_cases e1 : q = .r l
        · subst e1; simp [hlT]
        · by_cases e2 : q = .r v.df
          · subst e2; simp [g2, hmT, hne]
          · simp only [e1, e2, if_false]
            rcases hback _ _ hd2 q with e | e <;> rw [e]
            · cases T q <;> rfl
            · cases X2 q <;> rfl
      rw [heq] at hRb hEb
      exact ⟨D2, putO_same _ _ hla2, hha, hback _ _ hd2, g1, g2, hRb, (hExt2.forget hs2).trans hEb⟩
    have fin2 : ∀ (X2 : Store), Sub (Store.join T2 X2) s2.S → Disj T2 X2 → ∀ (j : Option Code), (Instr.endRound l j).run P w2 = .ok (.bool j.isNone) (World.putO w2 l (v.obj (if j.isNone then .ready else .done) j)) := by
      intro X2 hs2 hd2 j
      obtain ⟨_, _, hh2, _⟩ := fin X2 hs2 hd2 .done j
      exact run_endRound (r := { state := .busy, pending := none, fn := v.fn, tmps := v.tmps, params := v.ps, assign := v.assign, body := v.body, defers := v.df }) j hh2
    cases e2 with
    | normal =>
      obtain ⟨X2, hs2, hd2, hJ⟩ := hq2
      obtain ⟨D', _, _, hdT, g1, g2, hRb, hEb⟩ := fin X2 hs2 hd2 .ready none
      refine ⟨.bool true, _, ⟨.p (.bool true), _, D', ⟨X2, hdT, g1, g2, Or.inl ⟨rfl, rfl, hJ⟩⟩, hRb, .p (.bool true), by rw [← hT1]; exact hEb⟩, ?_⟩
      exact (hsteps0.trans harr2).trans (.one (stepR_round_end rfl rfl (fin2 X2 hs2 hd2 none)))
    | ret =>
      obtain ⟨X2, hs2, hd2, hJ⟩ := hq2
      obtain ⟨D', _, _, hdT, g1, g2, hRb, hEb⟩ := fin X2 hs2 hd2 .done (some .ret)
      refine ⟨.bool false, _, ⟨.p (.bool false), _, D', ⟨X2, hdT, g1, g2, Or.inr ⟨rfl, .ret, _, rfl, rfl, hJ⟩⟩, hRb, .p (.bool false), by rw [← hT1]; exact hEb⟩, ?_⟩
      obtain ⟨k1, hs⟩ := harr2
      exact (hsteps0.trans hs).trans (.one (stepR_round_ret rfl rfl (fin2 X2 hs2 hd2 (some .ret))))
    | exit id =>
      obtain ⟨X2, hs2, hd2, hJ⟩ := hq2
      obtain ⟨D', _, _, hdT, g1, g2, hRb, hEb⟩ := fin X2 hs2 hd2 .done (some (.exit id))
      refine ⟨.bool false, _, ⟨.p (.bool false), _, D', ⟨X2, hdT, g1, g2, Or.inr ⟨rfl, .exit id, _, rfl, rfl, hJ⟩⟩, hRb, .p (.bool false), by rw [← hT1]; exact hEb⟩, ?_⟩
      obtain ⟨k1, hk, hs⟩ := harr2.2 rfl
      exact (hsteps0.trans hs).trans (.one (stepR_round_exit rfl rfl hk (fin2 X2 hs2 hd2 (some (.exit id)))))
    | goto t => exact hq2.elim

theorem Ext.sub {S S1 : Store} {D : Prot} {w : World} {S' : Store} {D' : Prot} {w' : World} (h : Ext S1 D w S' D' w') (hs : Sub S1 S) (hn : ∀ b, b < w.heap.size → ¬ Owned S b → ¬ Owned S1 b) : Ext S D w S' D' w' :=
  ⟨h.toLater, fun b hb ho => h.foreign b hb (hn b hb ho), fun b hb ho => h.fresh b hb (hn b hb ho)⟩

/-- A loop over a function, outermost in its function. -/
theorem AWP.rangeFunc {P : Program} {s : St} {g : Operand} {ps : Array Tmp} {assign body : Code} {Q : Ex → St → Prop} {f : FuncId} {first caps : List AV}
    (hg : ev s g = .fn (.func f) first caps) (T0 E0 : Store) (hS : s.S = Store.join T0 E0) (hd : Disj T0 E0) {n : Nat} {item : Nat → List AV}
    (hseq : SeqR P f first caps T0 n item) (hent : Enterable P f) (J : Nat → Store → Prop) (Jx : Ex → Store → Prop)
    (hps : ∀ k, k < n → ps.size = (item k).length) (hlt : ∀ p ∈ ps.toList, p < s.n) (h0 : J 0 E0)
    (hround : ∀ k, k < n → ∀ E T l, Sub T0 T → Disj T E → J k E → roundH P l assign body s.n T E (J (k + 1)) Jx (setPs ps.toList (item k) s.ρ))
    (hdf : ∀ E', (J n E' ∨ ∃ e, Jx e E') → ∀ r ∈ s.df, Store.join T0 E' (.r r) = some mark0)
    (hend : ∀ E' d, Disj T0 E' → J n E' → Store.join T0 E' (.r d) = none → d ∉ s.df → Q .normal ⟨s.ρ, (Store.join T0 E').set (.r d) mark0, s.n, d :: s.df⟩)
    (hout : ∀ e E' d, Disj T0 E' → Jx e E' → (e = .ret ∨ ∃ id, e = .exit id) → Store.join T0 E' (.r d) = none → d ∉ s.df → Q e ⟨s.ρ, (Store.join T0 E').set (.r d) mark0, s.n, d :: s.df⟩) :
    AWP P none (.rangeFunc g ps assign body) Q s := by
  intro D w a hs b k cs hro
  have hr := ev_rep hs g
  rw [hg] at hr
  generalize hv : a.eval g = v at hr
  cases hr with
  | fn _ fv cv _ _ h1 h2 r1 r2 =>
  -- the record
  let dd := w.heap.size
  let l := w.heap.size + 1
  let v : RoundEnv := ⟨b.fn, a.tmps, ps, assign, body, dd⟩
  let kn : Nat → Value × AV := fun t => (a.tmps.getD t undef, s.ρ t)
  let w1 : World := World.push (World.push w (.deferred (some []))) (v.obj .ready none)
  have hen : (Instr.enterLoop b.fn a.tmps ps assign body b.roundOf).run P w = .ok (l, [{ target := .collected dd, args := #[] }]) w1 := by
    rw [hro]; exact run_enterLoop_outer _ _ _ _ _
  obtain ⟨hRa, hEa⟩ := push_own hs.rel (.deferred (some [])) mark0 ⟨push_new w _, by simp [Prot.up], fun t => .top _⟩
  have hsz1 : (World.push w (.deferred (some []))).heap.size = w.heap.size + 1 := by simp [World.push]
  obtain ⟨hRb, hEb⟩ := push_own hRa (v.obj .ready none) (.raw (v.obj .ready none) kn) ⟨push_new _ _, by simp [Prot.up], fun t => (hs.slots t).later (hEa.toLater.trans (push_later _ 0 hRa.dlt))⟩
  rw [hsz1] at hRb hEb
  have hSd : s.S (.r dd) = none := hs.rel.newr
  have hSl : s.S (.r l) = none := by
    have := hRa.newr
    rw [hsz1, Store.set_other _ _ (by simp)] at this; exact this
  have hne : dd ≠ l := by omega
  rw [hS] at hSd hSl
  obtain ⟨hTd, hEd⟩ := join_none hSd
  obtain ⟨hTl, hEl⟩ := join_none hSl
  have hdd : dd ∉ s.df := fun hm => by
    have := hs.df dd hm
    rw [hS, hSd] at this; cases this
  let up (E : Store) (st : LoopState) (p : Option Code) : Store := (E.set (.r dd) mark0).set (.r l) (.raw (v.obj st p) kn)
  have hup : ∀ E, Disj T0 E → ∀ st p, Disj T0 (up E st p) := fun E h st p => (h.set hTd _).set hTl _
  have hst2 : (s.S.set (.r dd) mark0).set (.r l) (.raw (v.obj .ready none) kn) = Store.join (up E0 .ready none) T0 := by
    rw [hS, join_set, join_set, join_comm (hup E0 hd _ _)]
  have hdEb : Ext s.S D w (Store.join (up E0 .ready none) T0) (Prot.up (Prot.up D w.heap.size 0) (w.heap.size + 1) 0) w1 := by
    rw [← hst2]; exact hEa.trans hEb
  have hRw1 : Rel (Store.join (up E0 .ready none) T0) (Prot.up (Prot.up D w.heap.size 0) (w.heap.size + 1) 0) w1 := by
    rw [← hst2]; exact hRb
  -- the iterator
  let J' : Nat → Store → Prop := fun k E => ∃ E1, E = up E1 .ready none ∧ E1 (.r l) = none ∧ E1 (.r dd) = none ∧ J k E1
  let Jx' : Store → Prop := fun E => ∃ E1 e c, jumpOf e = some c ∧ E = up E1 .done (some c) ∧ E1 (.r l) = none ∧ E1 (.r dd) = none ∧ Jx e E1
  have hcall := hseq l J' Jx' (by
    rintro k hk E T hsub hdE ⟨E1, rfl, e1, e2, hJ⟩
    have hTl' : T (.r l) = none := hdE.unset
    have hTd' : T (.r dd) = none := by
      rcases hdE (.r dd) with e | e
      · simp only [up] at e; rw [Store.set_other _ _ (by simpa using hne), Store.set_same] at e; cases e
      · exact e
    have hdE1 : Disj T E1 := by
      intro q
      by_cases q1 : q = .r l
      · subst q1; exact Or.inl e1
      · by_cases q2 : q = .r dd
        · subst q2; exact Or.inl e2
        · rcases hdE q with e | e
          · simp only [up] at e; rw [Store.set_other _ _ q1, Store.set_other _ _ q2] at e; exact Or.inl e
          · exact Or.inr e
    have hy := yield_ok (P := P) (v := v) (l := l) (n := s.n) (ρ := s.ρ) (items := item k) (T := T) (E := E1) (J := J (k + 1)) (Jx := Jx) (hps k hk) hlt hs.size hdE1 e1 hTl' e2 hTd' hne (hround k hk E1 T l hsub hdE1 hJ)
    refine fun D w vs hR hv => ?_
    obtain ⟨fn', tm', as', bo', hrun, hgives⟩ := hy D w vs hR hv
    refine ⟨fn', tm', as', bo', hrun, hgives.mono ?_⟩
    rintro v' w' ⟨x, S', D', ⟨E2, g1, g2, g3, g4⟩, g5⟩
    refine ⟨x, S', D', ?_, g5⟩
    rcases g4 with ⟨rfl, rfl, g4⟩ | ⟨rfl, e, c, hc, rfl, g4⟩
    · exact ⟨_, rfl, (g1.set hTd' _).set hTl' _, Or.inl ⟨rfl, E2, rfl, g2, g3, g4⟩⟩
    · exact ⟨_, rfl, (g1.set hTd' _).set hTl' _, Or.inr ⟨rfl, E2, e, c, hc, rfl, g2, g3, g4⟩⟩) _ (hup E0 hd .ready none) ⟨E0, rfl, hEl, hEd, h0⟩
  have hrep : RepL (Prot.up (Prot.up D w.heap.size 0) (w.heap.size + 1) 0) w1 (fv ++ #[Value.func (.yield l) #[] #[]] ++ cv) (first ++ [.fn (.yield l) [] []] ++ caps) := by
    have hl := hdEb.toLater
    refine RepL.append (RepL.append ⟨h1, fun i hi => (r1 i hi).later hl⟩ ⟨rfl, fun i hi => ?_⟩) ⟨h2, fun i hi => (r2 i hi).later hl⟩
    have : i = 0 := by simpa using hi
    subst this
    exact .fn (.yield l) #[] #[] [] [] rfl rfl (fun i hi => by simp at hi) (fun i hi => by simp at hi)
  have hgives := hcall.2 _ w1 _ hRw1 hrep
  have hres : (resolve a.eval (rangeCall g l) 0).run P w1 = .ok { target := .fn (.func f) cv, args := fv ++ #[Value.func (.yield l) #[] #[]] } w1 := by
    have e1 : a.eval (.const (.func (.yield l) #[] #[])) = .func (.yield l) #[] #[] := rfl
    simp only [resolve, rangeCall, hv, Deferred.ofValue, Sem.run_pure, List.map_toArray, List.map_cons, List.map_nil, e1]
  have hinv : (invoke (.fn (.func f) cv) (fv ++ #[Value.func (.yield l) #[] #[]])).run P w1 = .ok (.enter f (fv ++ #[Value.func (.yield l) #[] #[]] ++ cv)) w1 := by
    simp only [invoke]; exact hent _ w1
  have st1 := stepR_rangeFunc (P := P) (b := b) (a := { tmps := a.tmps, defers := a.defers ++ b.defers }) (k := k) (cs := cs) (w := w) hen (by rw [eval_aR]; exact hres) hinv
  obtain ⟨rv, w2, ⟨x, S', D2, ⟨E', rfl, hdE', hJ⟩, hR2, _, hE2⟩, st2⟩ := hgives (aR b { a with defers := [{ target := .collected dd, args := #[] }] ++ a.defers } (.inRangeFunc l :: k)) cs
  rw [finish_atR_inRangeFunc] at st2
  have hsteps := Steps.head st1 st2
  -- the record, behind
  have fin : ∀ E1 st p, E' = up E1 st p → st ≠ .busy → E1 (.r l) = none → E1 (.r dd) = none → Disj T0 E1 → (∀ r ∈ s.df, Store.join T0 E1 (.r r) = some mark0) → ∃ w3 D3,
      Steps P (lone (aR b a (.code (.rangeFunc g ps assign body) :: k)) cs w) (lone (aR b { a with defers := [{ target := .collected dd, args := #[] }] ++ a.defers } ((p.map Item.code).toList ++ k)) cs w3) ∧
      RelSt ⟨s.ρ, (Store.join T0 E1).set (.r dd) mark0, s.n, dd :: s.df⟩ D3 w3 { a with defers := [{ target := .collected dd, args := #[] }] ++ a.defers } ∧
      Ext s.S D w ((Store.join T0 E1).set (.r dd) mark0) D3 w3 ∧ Store.join T0 E1 (.r dd) = none := by
    rintro E1 st p rfl hst e1 e2 hd1 hdf1
    have hl2 : Store.join (up E1 st p) T0 (.r l) = some (.raw (v.obj st p) kn) := by
      unfold Store.join; rw [hTl]; exact Store.set_same _ _ _
    obtain ⟨hh2, hD2, hk2⟩ := hR2.blk _ _ hl2
    have hbs2 : bsize w2 l = 0 := by unfold bsize; rw [hh2]; rfl
    obtain ⟨hR3, hE3⟩ := put_raw (o' := v.obj .exhausted p) hR2 hl2 hbs2
    have hel : (Instr.endLoop l).run P w2 = .ok p (World.putO w2 l (v.obj .exhausted p)) :=
      run_endLoop (r := { state := st, pending := p, fn := v.fn, tmps := v.tmps, params := v.ps, assign := v.assign, body := v.body, defers := v.df }) hh2 hst
    have hsub : Sub ((Store.join T0 E1).set (.r dd) mark0) ((Store.join (up E1 st p) T0).set (.r l) (.raw (v.obj .exhausted p) kn)) := by
      intro q x hq
      by_cases q1 : q = .r l
      · subst q1
        rw [Store.set_other _ _ (by simpa using hne.symm)] at hq
        simp only [Store.join, e1, hTl] at hq; cases hq
      · rw [Store.set_other _ _ q1]
        by_cases q2 : q = .r dd
        · subst q2
          rw [Store.set_same] at hq
          simp only [Store.join, hTd, up]
          rw [Store.set_other _ _ (by simpa using hne), Store.set_same]; exact hq
        · rw [Store.set_other _ _ q2] at hq
          rw [← join_comm (hup E1 hd1 st p)]
          simp only [Store.join, up] at hq ⊢
          rw [Store.set_other _ _ q1, Store.set_other _ _ q2]; exact hq
    refine ⟨_, D2, hsteps.trans (.one (stepR_endRangeFunc hel)), ⟨hR3.forget hsub, fun t => (hs.slots t).later (hdEb.toLater.trans (hE2.toLater.trans hE3.toLater)), hs.size, ?_, fun r hr => ?_, ?_⟩, ?_, ?_⟩
    · show _ ++ a.defers = _
      rw [hs.defers]; rfl
    · show ((Store.join T0 E1).set (.r dd) mark0) (.r r) = some mark0
      rcases List.mem_cons.1 hr with e | hr
      · rw [e]; exact Store.set_same _ _ _
      · have hne' : r ≠ dd := fun e => hdd (e ▸ hr)
        rw [Store.set_other _ _ (by simpa using hne')]; exact hdf1 r hr
    · exact List.nodup_cons.2 ⟨hdd, hs.nodup⟩
    · exact ((hdEb.trans hE2).trans hE3).forget hsub
    · simp only [Store.join, e2, hTd]
  rcases hJ with ⟨E1, hE', e1, e2, hJ⟩ | ⟨E1, e, c, hc, hE', e1, e2, hJ⟩
  · have hd1 : Disj T0 E1 := by
      intro q
      by_cases q1 : q = .r l
      · subst q1; exact Or.inl e1
      · by_cases q2 : q = .r dd
        · subst q2; exact Or.inl e2
        · rcases hdE' q with e | e
          · rw [hE'] at e; simp only [up] at e; rw [Store.set_other _ _ q1, Store.set_other _ _ q2] at e; exact Or.inl e
          · exact Or.inr e
    obtain ⟨w3, D3, hst, hrel, hext, hfr⟩ := fin E1 .ready none hE' (by simp) e1 e2 hd1 (hdf E1 (Or.inl hJ))
    exact ⟨.normal, _, w3, ⟨_, D3, hend E1 dd hd1 hJ hfr hdd, hrel, hext⟩, hst⟩
  · have hd1 : Disj T0 E1 := by
      intro q
      by_cases q1 : q = .r l
      · subst q1; exact Or.inl e1
      · by_cases q2 : q = .r dd
        · subst q2; exact Or.inl e2
        · rcases hdE' q with e | e
          · rw [hE'] at e; simp only [up] at e; rw [Store.set_other _ _ q1, Store.set_other _ _ q2] at e; exact Or.inl e
          · exact Or.inr e
    obtain ⟨w3, D3, hst, hrel, hext, hfr⟩ := fin E1 .done (some c) hE' (by simp) e1 e2 hd1 (hdf E1 (Or.inr ⟨e, hJ⟩))
    have hQ := hout e E1 dd hd1 hJ (by cases e <;> simp_all [jumpOf]) hfr hdd
    cases e with
    | normal => cases hc
    | goto t => cases hc
    | ret =>
      cases hc
      exact ⟨.ret, _, w3, ⟨_, D3, hQ, hrel, hext⟩, k, hst⟩
    | exit id =>
      cases hc
      exact ⟨.exit id, _, w3, ⟨_, D3, hQ, hrel, hext⟩, fun k' hk => hst.trans (.one (stepR_exit hk)), fun hk => ⟨k, hk, hst⟩⟩
end Go.Sk
