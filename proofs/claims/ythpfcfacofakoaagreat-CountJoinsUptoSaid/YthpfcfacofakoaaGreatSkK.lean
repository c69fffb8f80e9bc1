/- Regions, code, loops, functions. -/
import Derived.Test.YthpfcfacofakoaaGreatSkJa
set_option linter.unusedSimpArgs false
set_option linter.unusedVariables false
set_option linter.unusedSectionVars false
namespace Go.Sk
open Go

def St.putS (s : St) (d : Nat) (x : AV) : St := { s with ρ := upd s.ρ d x }

/-- The operations of a region, in the order of the text. -/
def xops (P : Program) (ops : Array Oper) (K : St → Prop) : List Oper → St → Prop
  | [], s => K s
  | o :: r, s => match o.guard with
    | none => xop P o (xops P ops K r) s
    | some (j, want) => match (ops[j]?).bind (·.dst) with
      | none => False
      | some d => d < s.n ∧ match s.ρ d with
        | .p (.bool b) => if b = want then xop P o (xops P ops K r) (s.putS d (.p (.bool want))) else dstOk o s ∧ xops P ops K r ((s.putS d (.p (.bool (!want)))).put o.dst (.tuple []))
        | .tuple [] => dstOk o s ∧ xops P ops K r (s.put o.dst (.tuple []))
        | _ => False

section
variable {P : Program} {s : St} {D : Prot} {w : World} {a : Act} {K : St → Prop}

theorem undef_rep : RepA D w undef (.tuple []) := .tuple #[] [] rfl (fun i hi => by simp at hi)

theorem RelSt.same {d : Nat} {x : AV} (h : RelSt s D w a) (hx : RepA D w (a.tmps.getD d undef) x) : RelSt (s.putS d x) D w a := by
  refine ⟨h.rel, fun t => ?_, h.size, h.defers, h.df, h.nodup⟩
  show RepA D w (a.tmps.getD t undef) (upd s.ρ d x t)
  unfold upd
  by_cases e : t = d
  · subst e; rw [if_pos rfl]; exact hx
  · rw [if_neg e]; exact h.slots t

theorem Post.mono {K K' : St → Prop} {a' : Act} {w' : World} (h : Post s D w K a' w') (hk : ∀ s, K s → K' s) : Post s D w K' a' w' := by
  obtain ⟨s', D', h1, h2, h3⟩ := h; exact ⟨s', D', hk _ h1, h2, h3⟩

theorem OpsWP.mono {ops : Array Oper} {K K' : Act → World → Prop} (hk : ∀ a w, K a w → K' a w) : ∀ (l : List Nat) (a : Act) (w : World), OpsWP P ops K l a w → OpsWP P ops K' l a w := by
  intro l
  induction l with
  | nil => exact fun a w h => hk _ _ h
  | cons i r ih =>
    intro a w h
    simp only [OpsWP] at h ⊢
    split
    · rename_i ho; rw [ho] at h; exact ih _ _ h
    · rename_i o ho
      rw [ho] at h
      dsimp only at h
      split
      · rename_i hw; rw [if_pos hw] at h; exact ⟨h.1, Upon.mono h.2 (fun a w h => ih a w h)⟩
      · rename_i hw; rw [if_neg hw] at h; exact ih _ _ h

theorem Post.trans {s2 : St} {D2 : Prot} {w2 : World} (hE : Ext s.S D w s2.S D2 w2) {a' : Act} {w' : World} (h : Post s2 D2 w2 K a' w') : Post s D w K a' w' := by
  obtain ⟨s', D', h1, h2, h3⟩ := h; exact ⟨s', D', h1, h2, hE.trans h3⟩

theorem xops_ok (ops : Array Oper) : ∀ (l : List Oper) (i : Nat) (s : St) (D : Prot) (w : World) (a : Act), ops.toList.drop i = l → RelSt s D w a → xops P ops K l s →
    OpsWP P ops (Post s D w K) (List.range' i l.length) a w := by
  intro l
  induction l with
  | nil => intro i s D w a _ h hx; exact ⟨s, D, hx, h, Ext.refl _ _ _⟩
  | cons o r ih =>
    intro i s D w a hl h hx
    have ho : ops[i]? = some o := by
      have : (ops.toList.drop i)[0]? = some o := by rw [hl]; rfl
      rw [List.getElem?_drop] at this
      simpa using this
    have hr : ops.toList.drop (i + 1) = r := by
      have := congrArg (List.drop 1) hl
      simpa [List.drop_drop, Nat.add_comm] using this
    -- one operation, and those behind it
    have step : ∀ (s1 : St), s1.S = s.S → RelSt s1 D w a → xop P o (xops P ops K r) s1 → noDefer o ∧ OpWP P o (OpsWP P ops (Post s D w K) (List.range' (i + 1) r.length)) a w := by
      intro s1 hs1 h1 hx1
      obtain ⟨hn, hop⟩ := xop_ok h1 hx1
      refine ⟨hn, Upon.mono hop ?_⟩
      rintro a2 w2 ⟨s2, D2, hK2, h2, hE2⟩
      rw [hs1] at hE2
      exact OpsWP.mono (fun _ _ h => Post.trans hE2 h) _ _ _ (ih (i + 1) s2 D2 w2 a2 hr h2 hK2)
    have hrange : List.range' i (o :: r).length = i :: List.range' (i + 1) r.length := by simp [List.range'_succ]
    rw [hrange]
    simp only [OpsWP, ho]
    simp only [xops] at hx
    split at hx
    · -- no guard
      rename_i hg
      rw [if_pos (by simp [Region.wanted, hg])]
      exact step s rfl h hx
    · rename_i j want hg
      split at hx
      · exact hx.elim
      · rename_i d hd
        obtain ⟨hdn, hx⟩ := hx
        have hslot := h.slots d
        have hlt : d < a.tmps.size := Nat.lt_of_lt_of_le hdn h.size
        have hget : a.tmps[d]? = some (a.tmps.getD d undef) := by simp [Array.getD, hlt]
        split at hx
        · rename_i b hb
          rw [hb] at hslot
          have hv := hslot.inv
          generalize hvv : a.tmps.getD d undef = v at hv hget
          cases hv
          have hy : yielded ops a.tmps j = some b := by simp only [yielded, hd, Option.bind_some, hget]
          by_cases hbw : b = want
          · rw [if_pos (by simp [Region.wanted, hg, hy, hbw])]
            have h1 := h.same (d := d) (x := .p (.bool want)) (by rw [hvv, hbw]; exact .p (.bool _))
            rw [if_pos hbw] at hx
            exact step (s.putS d (.p (.bool want))) rfl h1 hx
          · rw [if_neg (by simp [Region.wanted, hg, hy]; exact hbw)]
            rw [if_neg hbw] at hx
            obtain ⟨hdo, hxr⟩ := hx
            have hbn : b = !want := by cases b <;> cases want <;> simp_all
            have h1 := h.same (d := d) (x := .p (.bool (!want))) (by rw [hvv, hbn]; exact .p (.bool _))
            have h2 := h1.put (d := o.dst) (v := undef) (x := .tuple []) (by intro t ht; exact hdo.lt t ht) undef_rep
            have := ih (i + 1) _ D w _ hr h2 hxr
            refine OpsWP.mono (fun _ _ h => ?_) _ _ _ this
            refine Post.trans ?_ h
            rw [put_S]; exact Ext.refl _ _ _
        · rename_i hb
          rw [hb] at hslot
          generalize hvv : a.tmps.getD d undef = v at hslot hget
          have hvt : v = .tuple #[] := by
            cases hslot with
            | tuple vs _ hn _ => rw [Array.size_eq_zero_iff.1 hn]
          have hy : yielded ops a.tmps j = none := by simp only [yielded, hd, Option.bind_some, hget, hvt]
          rw [if_neg (by simp [Region.wanted, hg, hy])]
          obtain ⟨hdo, hxr⟩ := hx
          have h2 := h.put (d := o.dst) (v := undef) (x := .tuple []) hdo.lt undef_rep
          have := ih (i + 1) _ D w _ hr h2 hxr
          refine OpsWP.mono (fun _ _ h => ?_) _ _ _ this
          refine Post.trans ?_ h
          rw [put_S]; exact Ext.refl _ _ _
        · exact hx.elim
end

/-! Code. -/
/-- What is asked of code, of any memory that fits. -/
def AWP (P : Program) (ro : Option Nat) (c : Code) (Q : Ex → St → Prop) (s : St) : Prop :=
  ∀ D w a, RelSt s D w a → WP P ro c (fun e a' w' => Post s D w (Q e) a' w') a w

/-- Slots forgotten but for some. -/
def keepL (L : Nat → Bool) (ρ : Nat → AV) : Nat → AV := fun t => if L t then ρ t else .top
def St.keep (L : Nat → Bool) (s : St) : St := { s with ρ := keepL L s.ρ }

theorem Env.get_filter (ρ : Env) (p : Nat → Bool) (t : Nat) : Env.get (ρ.filter fun kv => p kv.1) t = (if p t then Env.get ρ t else .top) := by
  induction ρ with
  | nil => simp [Env.get]
  | cons kv r ih =>
    obtain ⟨k, v⟩ := kv
    by_cases hp : p k = true
    · rw [List.filter_cons_of_pos (by simpa using hp)]
      simp only [Env.get]
      by_cases e : t = k
      · subst e; simp [hp]
      · simp only [if_neg e]; exact ih
    · rw [List.filter_cons_of_neg (by simpa using hp)]
      rw [ih]
      by_cases e : t = k
      · subst e; simp [hp]
      · simp only [Env.get, if_neg e]

theorem keepL_get (L : Nat → Bool) (ρ : Env) : keepL L ρ.get = Env.get (ρ.filter fun kv => L kv.1) := by
  funext t; rw [Env.get_filter ρ L t]; rfl

theorem RelSt.keep {s : St} {D : Prot} {w : World} {a : Act} (L : Nat → Bool) (h : RelSt s D w a) : RelSt (s.keep L) D w a :=
  h.weaken (fun t => by
    unfold keepL
    split
    · exact Or.inl rfl
    · exact Or.inr rfl)

def thenQ (K : St → Prop) (Q : Ex → St → Prop) : Ex → St → Prop
  | .normal, s => K s
  | e, s => Q e s
def blockQ (id : Nat) (Q : Ex → St → Prop) : Ex → St → Prop
  | .exit i, s => if i = id then Q .normal s else Q (.exit i) s
  | e, s => Q e s

/-- Code as a walk sees it: loops, and regions whose order is open, are left as they are. -/
def xc (P : Program) (ro : Option Nat) (L : Nat → Bool) : Code → (Ex → St → Prop) → St → Prop
  | .skip, Q, s => Q .normal s
  | .label _, Q, s => Q .normal s
  | .exit id, Q, s => Q (.exit id) s
  | .ret, Q, s => Q .ret s
  | .seq x y, Q, s => xc P ro L x (thenQ (xc P ro L y Q) Q) s
  | .cond c x y, Q, s => match ev s c with | .p (.bool t) => if t = true then xc P ro L x Q s else xc P ro L y Q s | _ => False
  | .block id c, Q, s => xc P ro L c (blockQ id Q) s
  | .region _ ops false, Q, s => xops P ops (fun s' => Q .normal (s'.keep L)) ops.toList s
  | c, Q, s => AWP P ro c Q s

theorem xc_ok {P : Program} {ro : Option Nat} (L : Nat → Bool) : ∀ (c : Code) (Q : Ex → St → Prop) (s : St), xc P ro L c Q s → AWP P ro c Q s := by
  intro c
  induction c with
  | skip => exact fun Q s h D w a hs => WP.skip ⟨s, D, h, hs, Ext.refl _ _ _⟩
  | label l => exact fun Q s h D w a hs => WP.label ⟨s, D, h, hs, Ext.refl _ _ _⟩
  | exit id => exact fun Q s h D w a hs => WP.exit ⟨s, D, h, hs, Ext.refl _ _ _⟩
  | ret => exact fun Q s h D w a hs => WP.ret ⟨s, D, h, hs, Ext.refl _ _ _⟩
  | seq x y ihx ihy =>
    intro Q s h D w a hs
    refine WP.seq (WP.mono (ihx _ _ h D w a hs) ?_)
    rintro e a1 w1 ⟨s1, D1, hQ, h1, hE⟩
    cases e with
    | normal => exact WP.mono (ihy _ _ hQ D1 w1 a1 h1) (fun e a' w' h => Post.trans hE h)
    | exit id => exact ⟨s1, D1, hQ, h1, hE⟩
    | goto l => exact ⟨s1, D1, hQ, h1, hE⟩
    | ret => exact ⟨s1, D1, hQ, h1, hE⟩
  | cond c x y ihx ihy =>
    intro Q s h D w a hs
    simp only [xc] at h
    split at h
    · rename_i t ht
      have hr := ev_rep hs c
      rw [ht] at hr
      have hr := hr.inv
      generalize hv : a.eval c = v at hr
      cases hr
      refine WP.cond hv ?_
      cases t
      · exact ihy _ _ (by simpa using h) D w a hs
      · exact ihx _ _ (by simpa using h) D w a hs
    · exact h.elim
  | block id c ih =>
    intro Q s h D w a hs
    refine WP.block (WP.mono (ih _ _ h D w a hs) ?_)
    rintro e a1 w1 ⟨s1, D1, hQ, h1, hE⟩
    cases e with
    | exit i =>
      simp only [blockQ] at hQ
      simp only [Ex.inBlock]
      split
      · rename_i e; rw [if_pos e] at hQ; exact ⟨s1, D1, hQ, h1, hE⟩
      · rename_i e; rw [if_neg e] at hQ; exact ⟨s1, D1, hQ, h1, hE⟩
    | normal => exact ⟨s1, D1, hQ, h1, hE⟩
    | goto l => exact ⟨s1, D1, hQ, h1, hE⟩
    | ret => exact ⟨s1, D1, hQ, h1, hE⟩
  | region id ops draw =>
    intro Q s h D w a hs
    cases draw with
    | true => exact h D w a hs
    | false =>
      refine WP.region ?_
      have := xops_ok (P := P) (K := fun s' => Q .normal (s'.keep L)) ops ops.toList 0 s D w a rfl hs h
      rw [show List.range ops.size = List.range' 0 ops.toList.length from by simp [List.range_eq_range']]
      refine OpsWP.mono ?_ _ _ _ this
      rintro a' w' ⟨s', D', h1, h2, h3⟩
      exact ⟨s'.keep L, D', h1, h2.keep L, h3⟩
  | _ => exact fun Q s h => h

/-- A state of which less is known. -/
structure St.le (s t : St) : Prop where
  ρ : ∀ k, t.ρ k = s.ρ k ∨ t.ρ k = .top
  S : ∀ b x, t.S b = some x → s.S b = some x
  n : t.n = s.n
  df : t.df = s.df
  dfS : ∀ r ∈ t.df, t.S (.r r) = some (.raw (.deferred (some [])) noKn)

theorem RelSt.le {s t : St} {D : Prot} {w : World} {a : Act} (h : RelSt s D w a) (l : s.le t) : RelSt t D w a :=
  ⟨h.rel.forget l.S, fun k => by rcases l.ρ k with e | e <;> rw [e]; exact h.slots k; exact .top _, by rw [l.n]; exact h.size, by rw [l.df]; exact h.defers, l.dfS, by rw [l.df]; exact h.nodup⟩
theorem Ext.forget {S S' S'' : Store} {D D' : Prot} {w w' : World} (h : Ext S D w S' D' w') (hs : ∀ b x, S'' b = some x → S' b = some x) : Ext S D w S'' D' w' :=
  ⟨h.toLater, h.foreign, fun b hb hn ho => h.fresh b hb hn (Owned.forget ho hs)⟩

theorem Post.le {s : St} {D : Prot} {w : World} {K : St → Prop} {a : Act} {w' : World} (h : Post s D w (fun s' => ∃ t, s'.le t ∧ K t) a w') : Post s D w K a w' := by
  obtain ⟨s', D', ⟨t, hl, hK⟩, h1, h2⟩ := h
  exact ⟨t, D', hK, h1.le hl, h2.forget hl.S⟩

theorem AWP.mono {P : Program} {ro : Option Nat} {c : Code} {Q Q' : Ex → St → Prop} {s : St} (h : AWP P ro c Q s) (hq : ∀ e s, Q e s → Q' e s) : AWP P ro c Q' s :=
  fun D w a hs => WP.mono (h D w a hs) (fun _ _ _ hp => Post.mono hp (hq _))

/-- Less may be known behind a piece of code. -/
theorem AWP.weaken {P : Program} {ro : Option Nat} {c : Code} {Q : Ex → St → Prop} {s : St} (h : AWP P ro c (fun e s' => ∃ t, s'.le t ∧ Q e t) s) : AWP P ro c Q s :=
  fun D w a hs => WP.mono (h D w a hs) (fun _ _ _ hp => Post.le hp)

theorem AWP.of_le {P : Program} {ro : Option Nat} {c : Code} {Q : Ex → St → Prop} {s t : St} (h : AWP P ro c Q t) (l : s.le t) : AWP P ro c Q s :=
  fun D w a hs => WP.mono (h D w a (hs.le l)) (fun _ _ _ ⟨s', D', h1, h2, h3⟩ => ⟨s', D', h1, h2, h3.toLater, fun b hb hn => h3.foreign b hb (fun ho => hn (Owned.forget ho l.S)), fun b hb hn => h3.fresh b hb (fun ho => hn (Owned.forget ho l.S))⟩)

/-- A loop: what holds at each head, and what becomes less. -/
theorem AWP.loop {P : Program} {ro : Option Nat} {c : Code} {Q : Ex → St → Prop} {s : St} (I : Nat → St → Prop) (n : Nat) (h0 : I n s)
    (round : ∀ n s, I n s → AWP P ro c (thenQ (fun s' => ∃ t m, s'.le t ∧ m < n ∧ I m t) Q) s) : AWP P ro (.loop c) Q s := by
  intro D w a hs
  -- the measure stands beside the state
  suffices H : ∀ n s D w a, I n s → RelSt s D w a → ∀ (b : Frame) (k : List Item) (cs : List Frame), b.roundOf = ro →
      ∃ e a' w', Post s D w (Q e) a' w' ∧ Arr P (lone (aR b a (.code c :: .inLoop c :: k)) cs w) b k cs e a' w' by
    intro b k cs hr
    obtain ⟨e, a', w', hq, harr⟩ := H n s D w a h0 hs b k cs hr
    exact ⟨e, a', w', hq, .of_steps (.one stepR_loop) harr⟩
  intro n
  induction n using Nat.strongRecOn with
  | _ n ih =>
    intro s D w a hI hs b k cs hr
    obtain ⟨e, a₁, w₁, ⟨s1, D1, hq, h1, hE⟩, harr⟩ := round n s hI D w a hs b (.inLoop c :: k) cs hr
    cases e with
    | normal =>
      obtain ⟨t, m, hl, hm, hIm⟩ := hq
      obtain ⟨e₂, a₂, w₂, hq₂, harr₂⟩ := ih m hm t D1 w₁ a₁ hIm (h1.le hl) b k cs hr
      exact ⟨e₂, a₂, w₂, Post.trans (hE.forget hl.S) hq₂, .of_steps (Steps.trans harr (.one stepR_inLoop)) harr₂⟩
    | exit id => exact ⟨_, a₁, w₁, ⟨s1, D1, hq, h1, hE⟩, .pass (x := .inLoop c) rfl (by simp) harr⟩
    | goto l => exact ⟨_, a₁, w₁, ⟨s1, D1, hq, h1, hE⟩, .pass (x := .inLoop c) rfl (by simp) harr⟩
    | ret => exact ⟨_, a₁, w₁, ⟨s1, D1, hq, h1, hE⟩, .pass (x := .inLoop c) rfl (by simp) harr⟩

/-! Functions. -/
def envOf : Nat → List AV → Env
  | _, [] => []
  | i, x :: r => (i, x) :: envOf (i + 1) r

theorem envOf_get (xs : List AV) : ∀ (i t : Nat), (envOf i xs).get t = if i ≤ t ∧ t < i + xs.length then xs.getD (t - i) .top else .top := by
  induction xs with
  | nil => intro i t; simp [envOf, Env.get]
  | cons x r ih =>
    intro i t
    simp only [envOf, Env.get]
    by_cases e : t = i
    · subst e; rw [if_pos rfl, if_pos (by simp)]; simp
    · rw [if_neg e, ih]
      by_cases h : i + 1 ≤ t ∧ t < i + 1 + r.length
      · rw [if_pos h, if_pos (by simp; omega), show t - i = (t - (i + 1)) + 1 from by omega]; simp
      · rw [if_neg h, if_neg (by simp; omega)]

/-- What a function hands back. -/
def xres (P : Program) (s : St) : List ResultVar → Option (List AV)
  | [] => some []
  | .tmp t :: r => match xres P s r with | some l => some (s.ρ t :: l) | none => none
  | .cell x t :: r => match TI P t, s.ρ x, xres P s r with
    | some (ag, sz, _, _), .sp b o, some l => match s.S (.r b) with
      | some (.cells cs) => if o + sz ≤ cs.length ∧ (ag = false → sz = 1) then some ((if ag then .agg ((cs.drop o).take sz) else cs.getD o .top) :: l) else none
      | _ => none
    | _, _, _ => none

def outV : List AV → AV | [v] => v | vs => .tuple vs
def Sub (S' S : Store) : Prop := ∀ k x, S' k = some x → S k = some x
theorem Sub.refl (S : Store) : Sub S S := fun _ _ h => h
theorem Sub.set {S S' : Store} {k : Key} (h : Sub S S') (hk : S k = none) (x : Blk) : Sub S (S'.set k x) := by
  intro c y hc
  by_cases e : c = k
  · subst e; rw [hk] at hc; cases hc
  · rw [Store.set_other _ _ e]; exact h _ _ hc

def retQ (P : Program) (fn : Func) (R : AV → Store → Prop) : Ex → St → Prop
  | .normal, s | .ret, s => match xres P s fn.results.toList with
    | some vs => ∃ S', Sub S' s.S ∧ (∀ r ∈ s.df, S' (.r r) = none) ∧ (R (reif (outV vs)) S' ∨ R (outV vs) S')
    | none => False
  | _, _ => False

def resOf (tmps : Array Value) : ResultVar → Sem Value
  | .tmp t => pure (tmps.getD t undef)
  | .cell x t => do loadVar t (← asAddr (tmps.getD x undef))

theorem results_eq (fn : Func) (tmps : Array Value) : results fn tmps = (do let vs ← fn.results.mapM (resOf tmps); pure (if h : vs.size = 1 then vs[0] else .tuple vs)) := by
  unfold results
  congr 1

theorem xres_ok {P : Program} {s : St} {D : Prot} {w : World} {a : Act} (h : RelSt s D w a) :
    ∀ (rs : List ResultVar) (vs : List AV), xres P s rs = some vs →
      ∃ l : List Value, l.length = vs.length ∧ ∀ w2, (∀ b, b ∉ s.df → w2.heap[b]? = w.heap[b]?) → Later D w D w2 →
        (rs.mapM (resOf a.tmps)).run P w2 = .ok l w2 ∧ ∀ i, i < vs.length → RepA D w2 (l.getD i undef) (vs.getD i .top) := by
  intro rs
  induction rs with
  | nil => intro vs hx; simp only [xres, Option.some.injEq] at hx; subst hx; exact ⟨[], rfl, fun w2 _ _ => ⟨rfl, fun i hi => by simp at hi⟩⟩
  | cons r rs ih =>
    intro vs hx
    -- the first, and those behind it
    have join : ∀ (v : Value) (x : AV) (l : List AV), (∀ w2, (∀ b, b ∉ s.df → w2.heap[b]? = w.heap[b]?) → Later D w D w2 → (resOf a.tmps r).run P w2 = .ok v w2 ∧ RepA D w2 v x) → xres P s rs = some l → vs = x :: l →
        ∃ l : List Value, l.length = vs.length ∧ ∀ w2, (∀ b, b ∉ s.df → w2.heap[b]? = w.heap[b]?) → Later D w D w2 →
          ((r :: rs).mapM (resOf a.tmps)).run P w2 = .ok l w2 ∧ ∀ i, i < vs.length → RepA D w2 (l.getD i undef) (vs.getD i .top) := by
      rintro v x l hv hl' rfl
      obtain ⟨m, h2, h1⟩ := ih l hl'
      refine ⟨v :: m, by simp [h2], fun w2 hw hl => ?_⟩
      obtain ⟨g1, g2⟩ := h1 w2 hw hl
      obtain ⟨k1, k2⟩ := hv w2 hw hl
      refine ⟨?_, fun i hi => ?_⟩
      · simp only [List.mapM_cons, Sem.run_bind, k1, Result.andThen_ok, g1, Sem.run_pure]
      · cases i with
        | zero => exact k2
        | succ i => exact g2 i (by simpa using hi)
    cases r with
    | tmp t =>
      simp only [xres] at hx
      split at hx
      · rename_i l hl'
        simp only [Option.some.injEq] at hx
        exact join _ _ l (fun w2 _ hl => ⟨rfl, (h.slots t).later hl⟩) hl' hx.symm
      · cases hx
    | cell x t =>
      simp only [xres] at hx
      split at hx
      · rename_i ag sz z by' b o l hti hsl hl'
        split at hx
        · rename_i cs hb
          split at hx
          · rename_i hc
            simp only [Option.some.injEq] at hx
            obtain ⟨i, d, v, hi, hu, hz, hg, hn, _, _⟩ := TI_some hti
            obtain ⟨vs', ty, hh, hsz, hrep, _⟩ := h.rel.blk _ _ hb
            have hnb : b ∉ s.df := fun hm => by have := h.df b hm; rw [hb] at this; cases this
            have hslot := h.slots x
            rw [hsl] at hslot
            generalize hvv : a.tmps.getD x undef = v at hslot
            cases hslot
            refine join (if ag = true then .agg (Array.ofFn fun j : Fin i.size => vs'.getD (o + j) undef) else vs'.getD (o + 0) undef) _ l (fun w2 hw hl => ?_) hl' hx.symm
            have hh2 : w2.heap[b]? = some (.cells vs' ty (0, 0)) := (hw b hnb).trans hh
            have hld := run_loadVar P w2 t b o hi hu (fun j => vs'.getD (o + j) undef) (fun j hj => by
              rw [cell_cells hh2]; simp only [Array.getD]; rw [dif_pos (by omega)]; exact Array.getElem?_eq_getElem (by omega)) (by rw [hg, hn]; exact hc.2)
            rw [hg] at hld
            refine ⟨?_, ?_⟩
            · simp only [resOf, hvv, asAddr, Sem.run_bind, Sem.run_pure, Result.andThen_ok, hld]
            · cases ag with
              | true =>
                simp only [if_true]
                refine .agg _ _ (by simp; omega) (fun k hk => ?_)
                simp only [List.length_take, List.length_drop] at hk
                rw [ofFn_getD _ (fun j => vs'.getD (o + j) undef) _ (by omega)]
                have e : (List.take sz (List.drop o cs)).getD k .top = cs.getD (o + k) .top := by
                  simp only [List.getD_eq_getElem?_getD, List.getElem?_take, List.getElem?_drop]
                  rw [if_pos (by omega)]
                rw [e]; exact (hrep (o + k) (by omega)).later hl
              | false =>
                simp only [Bool.false_eq_true, if_false, Nat.add_zero]
                have := hc.2 rfl
                exact (hrep o (by omega)).later hl
          · cases hx
        · cases hx
      · cases hx

theorem ret_body {P : Program} {fn : Func} {S : Store} {R : AV → Store → Prop} {D : Prot} {w : World} {e : Ex} {s' : St} {D' : Prot} {w' : World} {a' : Act} (hq : retQ P fn R e s') (h1 : RelSt s' D' w' a') (hE : Ext S D w s'.S D' w') :
    BodyQ P fn (fun v w' => ∃ x S' D', R x S' ∧ Rel S' D' w' ∧ RepA D' w' v x ∧ Ext S D w S' D' w') e a' w' := by
  have key : (match xres P s' fn.results.toList with
      | some vs => ∃ S', Sub S' s'.S ∧ (∀ r ∈ s'.df, S' (.r r) = none) ∧ (R (reif (outV vs)) S' ∨ R (outV vs) S')
      | none => False) →
      ∃ df v, a'.defers = marks df ∧ (∀ r ∈ df, w'.heap[r]? = some (.deferred (some []))) ∧ df.Nodup ∧
      (∀ w₂ : World, (∀ b, b ∉ df → w₂.heap[b]? = w'.heap[b]?) → w₂.heap.size = w'.heap.size → w₂.tape = w'.tape → w₂.os = w'.os → w₂.output = w'.output → w₂.drawn = w'.drawn →
        (results fn a'.tmps).run P w₂ = .ok v w₂ ∧ ∃ x S' D', R x S' ∧ Rel S' D' w₂ ∧ RepA D' w₂ v x ∧ Ext S D w S' D' w₂) := by
    intro hx
    split at hx
    · rename_i vs hvs
      obtain ⟨S', hsub, hdf, hR'⟩ := hx
      obtain ⟨l, hl2, hl⟩ := xres_ok (P := P) h1 _ _ hvs
      refine ⟨s'.df, if h : l.toArray.size = 1 then l.toArray[0] else .tuple l.toArray, h1.defers, fun r hr => (h1.rel.blk _ _ (h1.df r hr)).1, h1.nodup, ?_⟩
      intro w₂ hw₂ hsz ht ho hou hdr
      -- behind the marks: nothing that is looked after has turned
      have hdfc : ∀ b ∈ s'.df, w'.heap[b]? = some (.deferred (some [])) := fun b hb => (h1.rel.blk _ _ (h1.df b hb)).1
      have hdf0 : ∀ b ∈ s'.df, D' b = 0 := fun b hb => (h1.rel.blk _ _ (h1.df b hb)).2.1
      have hlat : Later D' w' D' w₂ := by
        refine ⟨ho, ht, hou, by omega, fun _ => Nat.le_refl _, fun b o hlt => ?_, fun b => ?_, by omega⟩
        · by_cases hb : b ∈ s'.df
          · rw [hdf0 b hb] at hlt; omega
          · exact cell_of_heap (hw₂ b hb) o
        · by_cases hb : b ∈ s'.df
          · have : bsize w' b = 0 := by simp [bsize, hdfc b hb]
            omega
          · rw [bsize_of_heap (hw₂ b hb)]; exact Nat.le_refl _
      obtain ⟨g1, g2⟩ := hl w₂ hw₂ hlat
      have hrun : (results fn a'.tmps).run P w₂ = .ok (if h : l.toArray.size = 1 then l.toArray[0] else .tuple l.toArray) w₂ := by
        rw [results_eq, Array.mapM_eq_mapM_toList]
        simp only [Sem.run_bind, Sem.run_map, g1, Result.andThen_ok, Sem.run_pure]
      have hout : RepA D' w₂ (if h : l.toArray.size = 1 then l.toArray[0] else .tuple l.toArray) (outV vs) := by
        match vs, hl2, g2 with
        | [], hl2, g2 =>
          have : l = [] := List.length_eq_zero_iff.1 hl2
          subst this
          exact .tuple #[] [] rfl (fun i hi => by simp at hi)
        | [v], hl2, g2 =>
          match l, hl2, g2 with
          | [u], _, g2 => exact g2 0 (by simp)
        | v :: v' :: r, hl2, g2 =>
          rw [dif_neg (by simp [hl2])]
          exact .tuple _ _ (by simpa using hl2) (fun i hi => by
            have := g2 i hi
            simpa [Array.getD_eq_getD_getElem?, List.getD_eq_getElem?_getD] using this)
      have hRel : Rel S' D' w₂ := by
        have hf := h1.rel.forget hsub
        refine ⟨fun k x hk => ?_, fun b hb => hf.dlt b (by omega), hf.fin, hf.one, hf.apart⟩
        refine (hf.blk k x hk).later hlat ?_
        intro c hc
        have : c ∉ s'.df := by
          intro hm
          rcases hc with rfl | ⟨z, n, rfl⟩
          · rw [hdf c hm] at hk; cases hk
          · cases k with
            | r b => exact (hf.blk _ _ hk).elim
            | v k =>
              have := h1.rel.apart _ _ _ _ (hsub _ _ hk)
              rw [h1.df c hm] at this; cases this
        exact ⟨hw₂ c this, rfl⟩
      have hExt : Ext S D w S' D' w₂ := by
        refine ⟨hE.toLater.trans hlat, fun b hb hn => ?_, fun b hb hn ho => hE.fresh b hb hn (Owned.forget ho hsub)⟩
        have hb2 : b ∉ s'.df := fun hm => hE.fresh b hb hn (Or.inl (by rw [h1.df b hm]; simp))
        exact (hw₂ b hb2).trans (hE.foreign b hb hn)
      refine ⟨hrun, ?_⟩
      rcases hR' with hR' | hR'
      · exact ⟨_, S', D', hR', hRel, reif_rep hout, hExt⟩
      · exact ⟨_, S', D', hR', hRel, hout, hExt⟩
    · exact hx.elim
  cases e with
  | normal => exact key hq
  | ret => exact key hq
  | exit id => exact hq.elim
  | goto l => exact hq.elim

theorem first_st (fn : Func) {args : List AV} {S : Store} {D : Prot} {w : World} {vs : Array Value} (hR : Rel S D w) (hv : RepL D w vs args) :
    RelSt { ρ := Env.get (envOf 0 args), S := S, n := fn.ntmps, df := [] } D w { tmps := vs ++ Array.replicate (fn.ntmps - vs.size) undef, defers := [] } := by
    refine ⟨hR, fun t => ?_, by simp; omega, rfl, (fun r hr => by cases hr), List.Pairwise.nil⟩
    show RepA _ _ _ (Env.get (envOf 0 args) t)
    rw [envOf_get]
    split
    · rename_i ht
      have e : (vs ++ Array.replicate (fn.ntmps - vs.size) undef).getD t undef = vs.getD t undef := by
        simp only [Array.getD_eq_getD_getElem?]
        rw [Array.getElem?_append_left (by rw [hv.1]; omega)]
      rw [e, Nat.sub_zero]; exact hv.2 t (by omega)
    · exact .top _
theorem wp_of {P : Program} {fn : Func} {c : Code} {args : List AV} {S : Store} {R : AV → Store → Prop} {D : Prot} {w : World} {vs : Array Value}
    (h : AWP P none c (retQ P fn R) { ρ := Env.get (envOf 0 args), S := S, n := fn.ntmps, df := [] }) (hR : Rel S D w) (hv : RepL D w vs args) :
    WP P none c (BodyQ P fn fun v w' => ∃ x S' D', R x S' ∧ Rel S' D' w' ∧ RepA D' w' v x ∧ Ext S D w S' D' w') { tmps := vs ++ Array.replicate (fn.ntmps - vs.size) undef, defers := [] } w := by
  have h0 := first_st fn hR hv
  refine WP.mono (h D w _ h0) ?_
  rintro e a' w' ⟨s', D', hq, h1, hE⟩
  exact ret_body hq h1 hE

theorem callR_of {P : Program} {f : FuncId} {fn : Func} {c : Code} {args : List AV} {S : Store} {R : AV → Store → Prop} (hf : P.funcs[f]? = some fn) (hb : fn.body = some c) (hn : (fn.name == "runtime.NumGoroutine") = false)
    (h : AWP P none c (retQ P fn R) { ρ := Env.get (envOf 0 args), S := S, n := fn.ntmps, df := [] }) : CallR P f args S R :=
  ⟨enterable_of hf hn (by rw [hb]; rfl), fun _ _ _ hR hv => gives_of_wp hf hb (wp_of h hR hv)⟩
/-- The kit's own form of a call. -/
theorem calls_of {P : Program} {f : FuncId} {fn : Func} {c : Code} {args : List AV} {S : Store} {R : AV → Store → Prop} {D : Prot} {w : World} {vs : Array Value} (hf : P.funcs[f]? = some fn) (hb : fn.body = some c)
    (h : AWP P none c (retQ P fn R) { ρ := Env.get (envOf 0 args), S := S, n := fn.ntmps, df := [] }) (hR : Rel S D w) (hv : RepL D w vs args) :
    Calls P f vs w fun e w' => ∃ v, e = .returned v ∧ ∃ x S' D', R x S' ∧ Rel S' D' w' ∧ RepA D' w' v x ∧ Ext S D w S' D' w' :=
  calls_of_body hf hb (wp_of h hR hv)
end Go.Sk
