/- Regions whose order is open, with stores: into blocks that nothing in them looks at. -/
import Derived.Test.YthpfcfacofakoaaGreatSkRg
import Derived.Test.YthpfcfacofakoaaGreatSkOr
set_option linter.unusedSimpArgs false
set_option linter.unusedVariables false
set_option linter.unusedSectionVars false
namespace Go.Sk
open Go

/-- All blocks are kept, but for some. -/
def KeepX (X : Nat → Prop) (S S' : Store) : Prop := ∀ b y, ¬ X b → S (.r b) = some y → S' (.r b) = some y
theorem KeepX.of {X : Nat → Prop} {S S' : Store} (h : KeepR S S') : KeepX X S S' := fun b y _ hb => h b y hb
theorem KeepX.refl {X : Nat → Prop} {S : Store} : KeepX X S S := fun _ _ _ h => h
theorem KeepX.trans {X : Nat → Prop} {S T U : Store} (h : KeepX X S T) (k : KeepX X T U) : KeepX X S U := fun b y hx hb => k b y hx (h b y hx hb)
/-- An operation; what it stores, it stores into such blocks; what it loads, it loads elsewhere. -/
def xopY (X : Nat → Prop) (P : Program) (o : Oper) (cv : AV) (e : Operand → AV) (S : Store) (D : AV → Store → Prop) : Prop :=
  match o.op with
  | .load _ x => (∀ b k, e x = .sp b k → ¬ X b) ∧ xopG P o e S (fun _ => True) D
  | .store _ x _ => (∀ b k, e x = .sp b k → X b) ∧ xopG P o e S (fun _ => True) D
  | .call c => match c.callee with
    | .value f => (∀ S1, KeepX X S S1 → FunR P (e f) ((c.args.toList.map e).map reif) S1 (fun x S' => x = cv ∧ S' = S1)) ∧ D cv S
    | .builtin .copy => False
    | _ => xopG P o e S (fun _ => True) D
  | _ => xopG P o e S (fun _ => True) D

theorem det_loadX {X : Nat → Prop} (S : Store) (ag : Bool) (sz : Nat) (x : AV) (K : AV → Prop) (hx : ∀ b k, x = .sp b k → ¬ X b) (h : xload S ag sz x K) :
    ∃ v, K v ∧ ∀ S' K', KeepX X S S' → K' v → xload S' ag sz x K' := by
  unfold xload at h ⊢; split at h
  · rename_i b o
    split at h
    · rename_i cs hb
      refine ⟨_, h.2.2, fun S' K' hS h' => ?_⟩
      (try rw [hS _ _ (hx b o rfl) hb]); exact ⟨h.1, h.2.1, h'⟩
    · exact h.elim
  · exact ⟨_, h.2.2, fun S' K' _ h' => ⟨h.1, h.2.1, h'⟩⟩
  · exact h.elim
/-- Where it's as before. -/
def plainB (o : Oper) : Bool := match o.op with
  | .load .. => false
  | .store .. => false
  | .call c => match c.callee with | .value _ => false | .builtin .copy => false | _ => true
  | _ => true
theorem plain_eq {X : Nat → Prop} {P : Program} {o : Oper} {cv : AV} {e : Operand → AV} {S : Store} {D : AV → Store → Prop} (h : plainB o = true) : xopY X P o cv e S D = xopD P o cv e S D := by
  unfold xopY xopD
  unfold plainB at h
  cases ho : o.op <;> rw [ho] at h <;> dsimp only at h ⊢ <;> (try exact Bool.noConfusion h)
  rename_i c
  split at h
  · exact Bool.noConfusion h
  · exact Bool.noConfusion h
  · rename_i h1 h2
    split
    · rename_i f hc; exact (h1 f hc).elim
    · rename_i hc; exact (h2 hc).elim
    · rfl
theorem plain_load {o : Oper} (h : plainB o = true) : isLoad o = false := by
  unfold plainB at h
  unfold isLoad
  cases ho : o.op <;> rw [ho] at h <;> dsimp only at h ⊢ <;> (try exact Bool.noConfusion h)
  rename_i c
  split at h
  · exact Bool.noConfusion h
  · exact Bool.noConfusion h
  · rename_i h1 h2
    split
    · rename_i f hc; exact (h1 f hc).elim
    · rfl
theorem plain_store {o : Oper} (h : plainB o = true) : isStore o = false := by
  unfold plainB at h
  unfold isStore
  cases ho : o.op <;> rw [ho] at h <;> dsimp only at h ⊢ <;> (try exact Bool.noConfusion h)
  rename_i c
  split at h
  · exact Bool.noConfusion h
  · exact Bool.noConfusion h
  · rename_i h1 h2
    split
    · rename_i hc; exact (h2 hc).elim
    · rfl
/-- What isn't as before. -/
theorem plain_not {o : Oper} (h : plainB o = false) : (∃ t x, o.op = .load t x) ∨ (∃ t x y, o.op = .store t x y) ∨ ∃ c, o.op = .call c ∧ ((∃ f, c.callee = .value f) ∨ c.callee = .builtin .copy) := by
  unfold plainB at h
  cases ho : o.op <;> rw [ho] at h <;> dsimp only at h <;> (try exact Bool.noConfusion h)
  case load t x => exact Or.inl ⟨t, x, rfl⟩
  case store t x y => exact Or.inr (Or.inl ⟨t, x, y, rfl⟩)
  case call c =>
    refine Or.inr (Or.inr ⟨c, rfl, ?_⟩)
    split at h
    · rename_i f hc; exact Or.inl ⟨f, hc⟩
    · rename_i hc; exact Or.inr hc
    · exact Bool.noConfusion h

theorem quietY_ok {X : Nat → Prop} {P : Program} {o : Oper} {cv : AV} {e : Operand → AV} {S : Store} {D : AV → Store → Prop} (hq : quietB o = true) (h : xopY X P o cv e S D) :
    ∃ v, D v S ∧ ∀ S' D', KeepX X S S' → D' v S' → xopY X P o cv e S' D' := by
  cases hp : plainB o with
  | true =>
    rw [plain_eq hp] at h
    obtain ⟨v, h1, h2⟩ := quiet_ok hq h
    exact ⟨v, h1, fun S' D' _ h' => by rw [plain_eq hp]; exact h2 S' D' (fun e => by rw [plain_load hp] at e; cases e) h'⟩
  | false =>
    rcases plain_not hp with ⟨t, x, ho⟩ | ⟨t, x, y, ho⟩ | ⟨c, ho, ⟨f, hc⟩ | hc⟩
    · unfold xopY at h ⊢
      rw [ho] at h ⊢
      dsimp only at h ⊢
      obtain ⟨hx, h⟩ := h
      unfold xopG at h ⊢
      rw [ho] at h ⊢
      dsimp only at h ⊢
      split at h
      · obtain ⟨v, h1, h2⟩ := det_loadX (X := X) _ _ _ _ _ hx h
        exact ⟨v, h1, fun S' D' hk h' => ⟨hx, h2 S' (fun y => D' y S') hk h'⟩⟩
      · exact h.elim
    · unfold quietB at hq; rw [ho] at hq; exact Bool.noConfusion hq
    · unfold xopY at h ⊢
      rw [ho] at h ⊢
      dsimp only at h ⊢
      rw [hc] at h ⊢
      dsimp only at h ⊢
      exact ⟨_, h.2, fun S' D' hk h' => ⟨fun S2 hk2 => h.1 S2 (hk.trans hk2), h'⟩⟩
    · unfold xopY at h
      rw [ho] at h
      dsimp only at h
      rw [hc] at h
      exact h.elim
theorem keepY_ok {X : Nat → Prop} {P : Program} {o : Oper} {cv : AV} {e : Operand → AV} {S : Store} {D D' : AV → Store → Prop} (hm : ∀ v S', KeepX X S S' → D v S' → D' v S') (h : xopY X P o cv e S D) : xopY X P o cv e S D' := by
  cases hp : plainB o with
  | true =>
    rw [plain_eq hp] at h ⊢
    exact keep_ok (fun v S' hk => hm v S' (KeepX.of (hk (plain_store hp)))) h
  | false =>
    rcases plain_not hp with ⟨t, x, ho⟩ | ⟨t, x, y, ho⟩ | ⟨c, ho, ⟨f, hc⟩ | hc⟩
    · have hq : quietB o = true := by unfold quietB; rw [ho]
      obtain ⟨v, h1, h2⟩ := quietY_ok hq h
      exact h2 S D' KeepX.refl (hm v S KeepX.refl h1)
    · unfold xopY at h ⊢
      rw [ho] at h ⊢
      dsimp only at h ⊢
      obtain ⟨hx, h⟩ := h
      refine ⟨hx, ?_⟩
      unfold xopG at h ⊢
      rw [ho] at h ⊢
      dsimp only at h ⊢
      split at h
      · unfold xstore at h ⊢
        split at h
        · rename_i b k hb
          split at h
          · refine ⟨h.1, h.2.1, h.2.2.1, hm _ _ ?_ h.2.2.2⟩
            intro b' y' hx' hb'
            rw [Store.set_other]
            · exact hb'
            · intro he; cases he
              exact hx' (hx _ _ hb)
          · exact h.elim
        · exact h.elim
      · exact h.elim
    · have hq : quietB o = true := by unfold quietB; rw [ho]; dsimp only; rw [hc]
      obtain ⟨v, h1, h2⟩ := quietY_ok hq h
      exact h2 S D' KeepX.refl (hm v S KeepX.refl h1)
    · unfold xopY at h
      rw [ho] at h
      dsimp only at h
      rw [hc] at h
      exact h.elim
/-- It is as an operation of the old kind. -/
theorem xopD_of_Y {X : Nat → Prop} {P : Program} {o : Oper} {cv : AV} {e : Operand → AV} {S : Store} {D : AV → Store → Prop} (h : xopY X P o cv e S D) : xopD P o cv e S D := by
  cases hp : plainB o with
  | true => rw [plain_eq hp] at h; exact h
  | false =>
    rcases plain_not hp with ⟨t, x, ho⟩ | ⟨t, x, y, ho⟩ | ⟨c, ho, ⟨f, hc⟩ | hc⟩
    · unfold xopY at h
      unfold xopD
      rw [ho] at h ⊢
      exact h.2
    · unfold xopY at h
      unfold xopD
      rw [ho] at h ⊢
      exact h.2
    · unfold xopY at h
      unfold xopD
      rw [ho] at h ⊢
      dsimp only at h ⊢
      rw [hc] at h ⊢
      dsimp only at h ⊢
      exact ⟨fun S1 hk => h.1 S1 (KeepX.of hk), h.2⟩
    · unfold xopY at h
      rw [ho] at h
      dsimp only at h
      rw [hc] at h
      exact h.elim
theorem congrY_ok {X : Nat → Prop} {P : Program} {o : Oper} {cv : AV} {e e' : Operand → AV} {S : Store} {D : AV → Store → Prop} (he : ∀ x ∈ o.op.operands, e x = e' x) (h : xopY X P o cv e S D) : xopY X P o cv e' S D := by
  cases hp : plainB o with
  | true => rw [plain_eq hp] at h ⊢; exact congr_ok he h
  | false =>
    rcases plain_not hp with ⟨t, x, ho⟩ | ⟨t, x, y, ho⟩ | ⟨c, ho, ⟨f, hc⟩ | hc⟩
    · have hx : e x = e' x := he x (by rw [ho]; simp [Op.operands])
      have hD := congr_ok he (xopD_of_Y h)
      unfold xopY at h ⊢
      unfold xopD at hD
      rw [ho] at h hD ⊢
      dsimp only at h hD ⊢
      exact ⟨by rw [← hx]; exact h.1, hD⟩
    · have hx : e x = e' x := he x (by rw [ho]; simp [Op.operands])
      have hD := congr_ok he (xopD_of_Y h)
      unfold xopY at h ⊢
      unfold xopD at hD
      rw [ho] at h hD ⊢
      dsimp only at h hD ⊢
      exact ⟨by rw [← hx]; exact h.1, hD⟩
    · rw [ho] at he
      simp only [Op.operands] at he
      have hargs : ∀ q ∈ c.args.toList, e q = e' q := fun q hq => he q (by unfold Call.operands; simp; exact Or.inr (by simpa using hq))
      have hmap : c.args.toList.map e = c.args.toList.map e' := List.map_congr_left hargs
      have hf : e f = e' f := he f (by unfold Call.operands; rw [hc]; simp)
      unfold xopY at h ⊢
      rw [ho] at h ⊢
      dsimp only at h ⊢
      rw [hc] at h ⊢
      dsimp only at h ⊢
      rw [← hmap, ← hf]; exact h
    · unfold xopY at h
      rw [ho] at h
      dsimp only at h
      rw [hc] at h
      exact h.elim

/-! One operation of a region, its guard asked; any order; the order of the text. -/
def TVY (X : Nat → Prop) (P : Program) (ops : Array Oper) (n : Nat) (cv : AV) (o : Oper) (ρ : Nat → AV) (S : Store) (D : AV → Store → Prop) : Prop :=
  (match o.dst with | some t => t < n | none => True) ∧
  match o.guard with
  | none => xopY X P o cv (evF ρ) S D
  | some (j, want) => match (ops[j]?).bind (·.dst) with
    | none => False
    | some d => d < n ∧ match ρ d with
      | .p (.bool b) => if b = want then xopY X P o cv (evF ρ) S D else D (.tuple []) S
      | .tuple [] => D (.tuple []) S
      | _ => False
def TY (X : Nat → Prop) (P : Program) (ops : Array Oper) (n : Nat) (cv : Nat → AV) (i : Nat) (ρ : Nat → AV) (S : Store) (C : (Nat → AV) → Store → Prop) : Prop :=
  match ops[i]? with
  | none => C ρ S
  | some o => TVY X P ops n (cv i) o ρ S (fun v S' => C (updO ρ o.dst v) S')
section
variable {X : Nat → Prop} {P : Program} {ops : Array Oper} {n : Nat} {cv : Nat → AV}
theorem TVY_keep {o : Oper} {c : AV} {ρ : Nat → AV} {S : Store} {D D' : AV → Store → Prop} (hm : ∀ v S', KeepX X S S' → D v S' → D' v S') (h : TVY X P ops n c o ρ S D) : TVY X P ops n c o ρ S D' := by
  unfold TVY at h ⊢
  refine ⟨h.1, ?_⟩
  have h := h.2
  split at h
  · exact keepY_ok hm h
  · split at h
    · exact h.elim
    · refine ⟨h.1, ?_⟩
      have h := h.2
      split at h
      · split at h
        · rename_i e; rw [if_pos e]; exact keepY_ok hm h
        · rename_i e; rw [if_neg e]; exact hm _ _ KeepX.refl h
      · exact hm _ _ KeepX.refl h
      · exact h.elim
theorem TY_mono {i : Nat} {ρ : Nat → AV} {S : Store} {C C' : (Nat → AV) → Store → Prop} (hm : ∀ ρ S, C ρ S → C' ρ S) (h : TY X P ops n cv i ρ S C) : TY X P ops n cv i ρ S C' := by
  unfold TY at h ⊢
  split at h
  · exact hm _ _ h
  · exact TVY_keep (fun v S' _ h => hm _ _ h) h
theorem TV_of_Y {o : Oper} {c : AV} {ρ : Nat → AV} {S : Store} {D : AV → Store → Prop} (h : TVY X P ops n c o ρ S D) : TV P ops n c o ρ S D := by
  unfold TVY at h
  unfold TV
  refine ⟨h.1, ?_⟩
  have h := h.2
  cases hg : o.guard with
  | none => rw [hg] at h; exact xopD_of_Y h
  | some jw =>
    obtain ⟨j, want⟩ := jw
    rw [hg] at h
    dsimp only at h ⊢
    cases hd : (ops[j]?).bind (·.dst) with
    | none => rw [hd] at h; exact h.elim
    | some d =>
      rw [hd] at h
      dsimp only at h ⊢
      refine ⟨h.1, ?_⟩
      have h := h.2
      split at h
      · rename_i b hb
        rw [hb]
        dsimp only
        by_cases e : b = want
        · rw [if_pos e] at h ⊢; exact xopD_of_Y h
        · rw [if_neg e] at h ⊢; exact h
      · rename_i hb
        rw [hb]
        exact h
      · exact h.elim
theorem T_of_Y {i : Nat} {ρ : Nat → AV} {S : Store} {C : (Nat → AV) → Store → Prop} (h : TY X P ops n cv i ρ S C) : T P ops n cv i ρ S C := by
  unfold TY at h
  unfold T
  cases ho : ops[i]? with
  | none => rw [ho] at h; exact h
  | some o => rw [ho] at h; exact TV_of_Y h
theorem TVY_quiet {o : Oper} {c : AV} {ρ : Nat → AV} {S : Store} {D : AV → Store → Prop} (hq : quietB o = true) (h : TVY X P ops n c o ρ S D) :
    ∃ v, D v S ∧ ∀ S' D', KeepX X S S' → D' v S' → TVY X P ops n c o ρ S' D' := by
  unfold TVY at h ⊢
  obtain ⟨h0, h⟩ := h
  split at h
  · obtain ⟨v, h1, h2⟩ := quietY_ok hq h
    exact ⟨v, h1, fun S' D' hk h' => ⟨h0, h2 S' D' hk h'⟩⟩
  · split at h
    · exact h.elim
    · obtain ⟨hn, h⟩ := h
      split at h
      · rename_i b hb
        rcases Classical.em (b = _) with hbw | hbw
        · rw [if_pos hbw] at h
          obtain ⟨v, h1, h2⟩ := quietY_ok hq h
          exact ⟨v, h1, fun S' D' hk h' => ⟨h0, hn, by rw [if_pos hbw]; exact h2 S' D' hk h'⟩⟩
        · rw [if_neg hbw] at h
          exact ⟨_, h, fun S' D' _ h' => ⟨h0, hn, by rw [if_neg hbw]; exact h'⟩⟩
      · exact ⟨_, h, fun S' D' _ h' => ⟨h0, hn, h'⟩⟩
      · exact h.elim
theorem TVY_congr {o : Oper} {c : AV} {ρ : Nat → AV} {S : Store} {D : AV → Store → Prop} {d : Option Nat} {v : AV} (hl : ∀ t, d = some t → t ∉ o.looksAt ops) :
    TVY X P ops n c o ρ S D ↔ TVY X P ops n c o (updO ρ d v) S D := by
  have he : ∀ x ∈ o.op.operands, evF (updO ρ d v) x = evF ρ x := by
    intro x hx
    refine evF_upd (fun t ht e => hl t ht ?_)
    subst e
    unfold Oper.looksAt
    refine List.mem_append.2 (Or.inl (List.mem_filterMap.2 ⟨.tmp t, by simpa using hx, rfl⟩))
  have hg : ∀ j want g, o.guard = some (j, want) → (ops[j]?).bind (·.dst) = some g → updO ρ d v g = ρ g := by
    intro j want g h1 h2
    cases d with
    | none => rfl
    | some u =>
      simp only [updO, upd]
      rw [if_neg]
      rintro rfl
      refine hl g rfl ?_
      unfold Oper.looksAt
      rw [h1]
      exact List.mem_append.2 (Or.inr (by simp [h2]))
  unfold TVY
  refine and_congr Iff.rfl ?_
  split
  · exact ⟨congrY_ok (fun x hx => (he x hx).symm), congrY_ok he⟩
  · rename_i j want hgd
    split
    · exact Iff.rfl
    · rename_i g hgg
      rw [hg j want g hgd hgg]
      refine and_congr Iff.rfl ?_
      split
      · split
        · exact ⟨fun h => congrY_ok (fun x hx => (he x hx).symm) h, fun h => congrY_ok he h⟩
        · exact Iff.rfl
      · exact Iff.rfl
      · exact Iff.rfl
/-- The first one quiet, or the second one: and apart both ways. -/
def allocB (o : Oper) : Bool := (match o.op with | .alloc _ => true | _ => false) && (match o.guard with | none => true | some _ => false)
def okY (ops : Array Oper) (x y : Oper) : Bool := (quietB x || (allocB x && allocB y)) && x.apart ops y
theorem set_comm2 {S : Store} {k q : Key} (h : k ≠ q) (x y : Blk) : (S.set k x).set q y = (S.set q y).set k x := by
  funext r
  unfold Store.set
  by_cases h1 : r = q
  · subst h1
    rw [if_pos rfl, if_neg (Ne.symm h), if_pos rfl]
  · rw [if_neg h1]
    by_cases h2 : r = k
    · rw [if_pos h2, if_pos h2]
    · rw [if_neg h2, if_neg h2, if_neg h1]
theorem alloc_of {o : Oper} (h : allocB o = true) : (∃ t, o.op = .alloc t) ∧ o.guard = none := by
  unfold allocB at h
  rw [Bool.and_eq_true] at h
  obtain ⟨h1, h2⟩ := h
  constructor
  · split at h1
    · rename_i t ht; exact ⟨t, ht⟩
    · exact Bool.noConfusion h1
  · split at h2
    · assumption
    · exact Bool.noConfusion h2
/-- What an allocation is. -/
theorem TYA {i : Nat} {o : Oper} (hi : ops[i]? = some o) {t : TypeId} (ho : o.op = .alloc t) (hg : o.guard = none) {ρ : Nat → AV} {S : Store} {C : (Nat → AV) → Store → Prop} :
    TY X P ops n cv i ρ S C = ((match o.dst with | some t => t < n | none => True) ∧ match TI P t with | some (_, _, z, _) => ∀ b, S (.r b) = none → C (updO ρ o.dst (.sp b 0)) (S.set (.r b) (.cells z)) | none => False) := by
  unfold TY
  rw [hi]
  dsimp only
  unfold TVY
  rw [hg]
  dsimp only
  unfold xopY
  rw [ho]
  dsimp only
  unfold xopG
  rw [ho]
  dsimp only
  cases TI P t <;> rfl
/-- What is made without asking is of a known type and has a place. -/
def allocsB (P : Program) (n : Nat) (ops : Array Oper) : Bool := ops.toList.all fun o => !allocB o || (match o.op with | .alloc t => (TI P t).isSome | _ => true) && (match o.dst with | some t => decide (t < n) | none => true)
theorem allocs_spec (hA : allocsB P n ops = true) {i : Nat} {o : Oper} (hi : ops[i]? = some o) (ha : allocB o = true) {t : TypeId} (ho : o.op = .alloc t) : (match o.dst with | some t => t < n | none => True) ∧ ∃ z, TI P t = some z := by
  have hm : o ∈ ops.toList := by
    have := Array.mem_of_getElem? hi
    simpa using this
  have h := List.all_eq_true.1 hA o hm
  rw [ha, ho] at h
  simp only [Bool.not_true, Bool.false_or, Bool.and_eq_true] at h
  refine ⟨?_, Option.isSome_iff_exists.1 h.1⟩
  have h2 := h.2
  split at h2
  · rename_i t' ht
    exact of_decide_eq_true h2
  · trivial
theorem commA (hA : allocsB P n ops = true) {i j : Nat} {oi oj : Oper} (hi : ops[i]? = some oi) (hj : ops[j]? = some oj) (ha : allocB oi = true) (hb : allocB oj = true) (hap : oi.apart ops oj = true) {ρ : Nat → AV} {S : Store} {C : (Nat → AV) → Store → Prop}
    (h : TY X P ops n cv i ρ S (fun ρ' S' => TY X P ops n cv j ρ' S' C)) : TY X P ops n cv j ρ S (fun ρ' S' => TY X P ops n cv i ρ' S' C) := by
  obtain ⟨⟨ti, hti⟩, gi⟩ := alloc_of ha
  obtain ⟨⟨tj, htj⟩, gj⟩ := alloc_of hb
  obtain ⟨_, h2, _⟩ := Oper.apart_spec hap
  obtain ⟨d1, zi, hzi⟩ := allocs_spec hA hi ha hti
  obtain ⟨d2, zj, hzj⟩ := allocs_spec hA hj hb htj
  rw [TYA hi hti gi] at h
  rw [TYA hj htj gj]
  refine ⟨d2, ?_⟩
  rw [hzi] at h
  rw [hzj]
  dsimp only at h ⊢
  intro b hbj
  rw [TYA hi hti gi, hzi]
  refine ⟨d1, ?_⟩
  dsimp only
  intro b' hbi
  have hne : b' ≠ b := fun e => by subst e; rw [Store.set_same] at hbi; cases hbi
  have hk : (Key.r b') ≠ Key.r b := fun e => hne (by cases e; rfl)
  have hbi' : S (.r b') = none := by rwa [Store.set_other] at hbi; exact hk
  have h1 := h.2 b' hbi'
  rw [TYA hj htj gj, hzj] at h1
  have h3 := h1.2 b (by rw [Store.set_other]; exact hbj; exact fun e => hne (by cases e; rfl))
  rw [← upd_comm (fun t ht => h2 t ht), set_comm2 (Ne.symm hk)]
  exact h3
theorem commY (hA : allocsB P n ops = true) {i j : Nat} {oi oj : Oper} (hi : ops[i]? = some oi) (hj : ops[j]? = some oj) (hok : okY ops oi oj = true) {ρ : Nat → AV} {S : Store} {C : (Nat → AV) → Store → Prop}
    (h : TY X P ops n cv i ρ S (fun ρ' S' => TY X P ops n cv j ρ' S' C)) : TY X P ops n cv j ρ S (fun ρ' S' => TY X P ops n cv i ρ' S' C) := by
  unfold okY at hok
  simp only [Bool.and_eq_true, Bool.or_eq_true] at hok
  obtain ⟨hq | ⟨ha, hb⟩, hap⟩ := hok
  rotate_left
  · exact commA hA hi hj ha hb hap h
  obtain ⟨h1, h2, h3⟩ := Oper.apart_spec hap
  unfold TY at h ⊢
  rw [hi] at h
  rw [hj]
  dsimp only at h ⊢
  rw [hj] at h
  rw [hi]
  dsimp only at h ⊢
  obtain ⟨v, hv, hagain⟩ := TVY_quiet hq h
  have hv := (TVY_congr (X := X) (P := P) (ops := ops) (n := n) (c := cv j) (o := oj) (ρ := ρ) (S := S) (d := oi.dst) (v := v) (fun t ht => h1 t ht)).2 hv
  refine TVY_keep ?_ hv
  intro u S2 hk hC
  refine (TVY_congr (d := oj.dst) (v := u) (fun t ht => h3 t ht)).1 ?_
  refine hagain S2 _ hk ?_
  rw [← upd_comm (fun t ht => h2 t ht)]; exact hC
def xanyY (X : Nat → Prop) (P : Program) (ops : Array Oper) (n : Nat) (cv : Nat → AV) (C : (Nat → AV) → Store → Prop) : Nat → Array Bool → (Nat → AV) → Store → Prop
  | 0, _, ρ, S => C ρ S
  | f + 1, listed, ρ, S => (Region.ready .any ops listed = [] → C ρ S) ∧ ∀ i ∈ Region.ready .any ops listed, TY X P ops n cv i ρ S (xanyY X P ops n cv C f (listed.setIfInBounds i true))
theorem xany_of_Y {C : (Nat → AV) → Store → Prop} : ∀ (f : Nat) (listed : Array Bool) (ρ : Nat → AV) (S : Store), xanyY X P ops n cv C f listed ρ S → xany P ops n cv C f listed ρ S := by
  intro f
  induction f with
  | zero => intro _ _ _ h; exact h
  | succ f ih => intro listed ρ S h; exact ⟨h.1, fun i hi => T_mono (fun ρ' S' h' => ih _ ρ' S' h') (T_of_Y (h.2 i hi))⟩
def freeY (ops : Array Oper) (listed : Array Bool) (i : Nat) : Bool :=
  match ops[i]? with
  | none => false
  | some oi => (List.range ops.size).all fun j => j == i || listed.getD j true || match ops[j]? with
      | some oj => oj.after.any (fun e => Region.binds .any e && e.on == i) || okY ops oi oj
      | none => true
theorem freeY_spec {i : Nat} {oi : Oper} {listed : Array Bool} (hi : ops[i]? = some oi) (h : freeY ops listed i = true) (j : Nat) (oj : Oper)
    (hj : ops[j]? = some oj) (hne : j ≠ i) (hun : listed.getD j true = false) (hno : ∀ e ∈ oj.after, Region.binds .any e = true → e.on ≠ i) : okY ops oi oj = true := by
  unfold freeY at h
  rw [hi] at h
  have hlt : j < ops.size := (Array.getElem?_eq_some_iff.1 hj).1
  have := List.all_eq_true.1 h j (List.mem_range.2 hlt)
  rw [hj] at this
  simp only [Bool.or_eq_true, beq_iff_eq] at this
  rcases this with (h1 | h1) | (h1 | h1)
  · exact absurd h1 hne
  · rw [hun] at h1; cases h1
  · rw [Array.any_eq_true'] at h1
    obtain ⟨e, he, hb⟩ := h1
    simp only [Bool.and_eq_true, beq_iff_eq] at hb
    exact absurd hb.2 (hno e he hb.1)
  · exact h1
theorem anyY_first (hA : allocsB P n ops = true) {C : (Nat → AV) → Store → Prop} {i : Nat} {oi : Oper} (hi : ops[i]? = some oi) : ∀ (f : Nat) (R : List Nat) (listed : Array Bool) (ρ : Nat → AV) (S : Store), R.Nodup → R.length = f + 1 → (∀ j, j < ops.size → listed.getD j true = false → j ∈ R) →
    (∀ j oj, ops[j]? = some oj → j ≠ i → listed.getD j true = false → (∀ e ∈ oj.after, Region.binds .any e = true → e.on ≠ i) → okY ops oi oj = true) →
    i ∈ Region.ready .any ops listed → TY X P ops n cv i ρ S (xanyY X P ops n cv C f (listed.setIfInBounds i true)) → xanyY X P ops n cv C (f + 1) listed ρ S := by
  intro f
  induction f with
  | zero =>
    intro R listed ρ S hnd hlen hR hfree hr H
    refine ⟨(fun h0 => by rw [h0] at hr; cases hr), fun j hj => ?_⟩
    have inR : ∀ j, j ∈ Region.ready .any ops listed → j ∈ R := fun j hj => by
      obtain ⟨hun, o, ho, _⟩ := mem_ready.1 hj
      exact hR j (Array.getElem?_eq_some_iff.1 ho).1 hun
    have hji : j = i := by
      have h1 := inR j hj
      have h2 := inR i hr
      match R, hlen with
      | [x], _ => simp at h1 h2; rw [h1, h2]
    subst hji; exact H
  | succ f ih =>
    intro R listed ρ S hnd hlen hR hfree hr H
    refine ⟨(fun h0 => by rw [h0] at hr; cases hr), fun j hj => ?_⟩
    by_cases hji : j = i
    · subst hji; exact H
    · obtain ⟨hun, oj, hoj, hall⟩ := mem_ready.1 hj
      have hno : ∀ e ∈ oj.after, Region.binds .any e = true → e.on ≠ i := by
        intro e he hb hei
        have h1 := hall e he hb
        rw [hei] at h1
        have h2 := (mem_ready.1 hr).1
        have : listed.getD i true = listed.getD i false := by
          have hlt : i < listed.size := by
            rcases Nat.lt_or_ge i listed.size with h | h
            · exact h
            · simp [Array.getElem?_eq_none h] at h1
          simp [hlt]
        rw [this, h1] at h2; cases h2
      have hok := hfree j oj hoj hji hun hno
      have h2 : TY X P ops n cv i ρ S (fun ρ' S' => TY X P ops n cv j ρ' S' (xanyY X P ops n cv C f ((listed.setIfInBounds i true).setIfInBounds j true))) :=
        TY_mono (fun ρ' S' h => h.2 j (ready_mono hj hji)) H
      refine TY_mono (fun ρ' S' h => ?_) (commY hA hi hoj hok h2)
      have hjR : j ∈ R := hR j (Array.getElem?_eq_some_iff.1 hoj).1 hun
      refine ih (R.erase j) (listed.setIfInBounds j true) ρ' S' (hnd.erase j) (by rw [List.length_erase_of_mem hjR, hlen]; rfl) (fun x hx hxu => ?_) ?_ (ready_mono hr (Ne.symm hji)) ?_
      · by_cases e : j = x
        · subst e
          rcases Nat.lt_or_ge j listed.size with h | h
          · simp [h] at hxu
          · simp [h] at hxu
        · rw [getD_set_ne true e] at hxu
          exact (hnd.mem_erase_iff).2 ⟨Ne.symm e, hR x hx hxu⟩
      · intro j' oj' h1 h2 h3 h4
        refine hfree j' oj' h1 h2 ?_ h4
        by_cases e : j = j'
        · subst e
          rcases Nat.lt_or_ge j listed.size with h | h
          · simp [h] at h3
          · simp [h] at h3
        · rwa [getD_set_ne true e] at h3
      · rw [Array.setIfInBounds_comm _ _ hji]; exact h
/-- In the order of the text. -/
def xseqY (X : Nat → Prop) (P : Program) (ops : Array Oper) (n : Nat) (cv : Nat → AV) (C : (Nat → AV) → Store → Prop) : Nat → Nat → (Nat → AV) → Store → Prop
  | 0, _, ρ, S => C ρ S
  | l + 1, k, ρ, S => TY X P ops n cv k ρ S (xseqY X P ops n cv C l (k + 1))
def lexY (ops : Array Oper) : Nat → Nat → Array Bool → Bool
  | 0, _, listed => (Region.ready .any ops listed).isEmpty
  | f + 1, k, listed => (Region.ready .any ops listed).contains k && freeY ops listed k && lexY ops f (k + 1) (listed.setIfInBounds k true)
theorem anyY_of_seq (hA : allocsB P n ops = true) {C : (Nat → AV) → Store → Prop} : ∀ (l k : Nat) (listed : Array Bool) (ρ : Nat → AV) (S : Store), (∀ j, j < ops.size → listed.getD j true = false → k ≤ j ∧ j < k + l) → lexY ops l k listed = true → xseqY X P ops n cv C l k ρ S → xanyY X P ops n cv C l listed ρ S := by
  intro l
  induction l with
  | zero => intro k listed ρ S hR hB h; exact h
  | succ l ih =>
    intro k listed ρ S hR hB h
    simp only [lexY, Bool.and_eq_true] at hB
    obtain ⟨⟨hr, hf⟩, hB'⟩ := hB
    have hr : k ∈ Region.ready .any ops listed := by simpa using hr
    obtain ⟨oi, hoi⟩ : ∃ oi, ops[k]? = some oi := by obtain ⟨_, o, ho, _⟩ := mem_ready.1 hr; exact ⟨o, ho⟩
    refine anyY_first hA hoi l (List.range' k (l + 1)) listed ρ S List.nodup_range' (by simp) (fun j hj hu => ?_) (freeY_spec hoi hf) hr (TY_mono (fun ρ' S' h => ih (k + 1) _ ρ' S' ?_ hB' h) h)
    · have := hR j hj hu; rw [List.mem_range'_1]; omega
    · intro j hj hu
      by_cases e : k = j
      · subst e
        rcases Nat.lt_or_ge k listed.size with h | h
        · simp [h] at hu
        · simp [h] at hu
      · rw [getD_set_ne true e] at hu
        have := hR j hj hu; omega
/-- A region whose order is open, walked in the order of the text. -/
theorem AWP.drawY (X : Nat → Prop) {ro : Option Nat} {id : Nat} {Q : Ex → St → Prop} {s : St} (hm : P.follows .mixedOrders = true) (hB : lexY ops ops.size 0 (Array.replicate ops.size false) = true) (hA : allocsB P s.n ops = true) (cv : Nat → AV)
    (h : xseqY X P ops s.n cv (fun ρ S => Q .normal ⟨ρ, S, s.n, s.df⟩) ops.size 0 s.ρ s.S) : AWP P ro (.region id ops true) Q s := by
  intro D w a hs
  refine WP.region_draw (fun t => ?_)
  simp only [Region.schedule, hm, Bool.true_or, if_true]
  obtain ⟨hR, hE⟩ := drew_ok hs.rel (w.drawn + 1)
  have hs' : RelSt ⟨s.ρ, s.S, s.n, s.df⟩ D { w with drawn := w.drawn + 1 } a := hs.later hR hE.toLater hs.df
  have hany := xany_of_Y _ _ _ _ (anyY_of_seq (X := X) (P := P) (n := s.n) (cv := cv) hA ops.size 0 _ s.ρ s.S (fun j hj _ => ⟨Nat.zero_le _, by omega⟩) hB h)
  refine OpsWP.mono ?_ _ _ _ (any_ok (df := s.df) ops.size t _ s.ρ s.S D _ a hs' hany)
  rintro a' w' ⟨s', D', ⟨hn, hdf, hC⟩, h2, h3⟩
  obtain ⟨ρ', S', n', df'⟩ := s'
  dsimp only at hn hdf hC
  subst hn; subst hdf
  exact ⟨_, D', hC, h2, hE.trans h3⟩
end

/-- The same, as a walk sees it. -/
def xdrY (X : Nat → Prop) (P : Program) (ops : Array Oper) (cv : Nat → AV) (K : St → Prop) : List Oper → Nat → St → Prop
  | [], _, s => K s
  | o :: r, i, s => TVY X P ops s.n (cv i) o s.ρ s.S (fun v S' => xdrY X P ops cv K r (i + 1) ((s.withS S').put o.dst v))
theorem xdrY_seq {X : Nat → Prop} {P : Program} {ops : Array Oper} {cv : Nat → AV} {K : St → Prop} {n : Nat} {df : List Nat} : ∀ (l : List Oper) (k : Nat) (ρ : Nat → AV) (S : Store), ops.toList.drop k = l →
    xdrY X P ops cv K l k ⟨ρ, S, n, df⟩ → xseqY X P ops n cv (fun ρ S => K ⟨ρ, S, n, df⟩) l.length k ρ S := by
  intro l
  induction l with
  | nil => intro k ρ S _ h; exact h
  | cons o r ih =>
    intro k ρ S hl h
    have ho : ops[k]? = some o := by
      have : (ops.toList.drop k)[0]? = some o := by rw [hl]; rfl
      rw [List.getElem?_drop] at this
      simpa using this
    have hr : ops.toList.drop (k + 1) = r := by
      have := congrArg (List.drop 1) hl
      simpa [List.drop_drop, Nat.add_comm] using this
    simp only [xdrY] at h
    simp only [List.length_cons, xseqY, TY, ho]
    refine TVY_keep (fun v S' _ h => ?_) h
    have e : ((⟨ρ, S, n, df⟩ : St).withS S').put o.dst v = ⟨updO ρ o.dst v, S', n, df⟩ := by cases o.dst <;> rfl
    rw [e] at h
    exact ih (k + 1) _ _ hr h
theorem AWP.drawX {P : Program} {l : List Oper} {ro : Option Nat} {id : Nat} {Q : Ex → St → Prop} {s : St} (X : Nat → Prop) (L : Nat → Bool) (hm : P.follows .mixedOrders = true) (hB : lexY (List.toArray l) (List.toArray l).size 0 (Array.replicate (List.toArray l).size false) = true) (hA : allocsB P s.n (List.toArray l) = true) (cv : Nat → AV)
    (h : xdrY X P (List.toArray l) cv (kReg Q L) l 0 s) : AWP P ro (.region id (List.toArray l) true) Q s := by
  refine AWP.keepQ L (AWP.drawY X hm hB hA cv ?_)
  obtain ⟨ρ, S, n, df⟩ := s
  have := xdrY_seq (X := X) (P := P) (ops := List.toArray l) (cv := cv) (K := kReg Q L) (n := n) (df := df) l 0 ρ S rfl h
  exact this

/-! As a walk sees it, one operation behind the other. -/
def xY (X : Nat → Prop) (P : Program) (op : Op) (cv : AV) (e : Operand → AV) (S : Store) (D : AV → Store → Prop) : Prop := xopY X P { (default : Oper) with op := op } cv e S D
/-- Is it such a block? -/
def inX (X : Nat → Prop) (x : AV) : Prop := ∀ b k, x = .sp b k → X b
def outX (X : Nat → Prop) (x : AV) : Prop := ∀ b k, x = .sp b k → ¬ X b
theorem inX_sp (X : Nat → Prop) (b k : Nat) : inX X (.sp b k) = X b := propext ⟨fun h => h b k rfl, fun h b' k' e => by cases e; exact h⟩
theorem outX_sp (X : Nat → Prop) (b k : Nat) : outX X (.sp b k) = ¬ X b := propext ⟨fun h => h b k rfl, fun h b' k' e => by cases e; exact h⟩
section
variable {X : Nat → Prop} {P : Program} {cv : AV} {e : Operand → AV} {S : Store} {D : AV → Store → Prop}
theorem xY_load (t : TypeId) (x : Operand) : xY X P (.load t x) cv e S D = (outX X (e x) ∧ xO P (.load t x) e S (fun _ => True) D) := (rfl)
theorem xY_store (t : TypeId) (x y : Operand) : xY X P (.store t x y) cv e S D = (inX X (e x) ∧ xO P (.store t x y) e S (fun _ => True) D) := (rfl)
theorem xY_move (x : Operand) : xY X P (.move x) cv e S D = xO P (.move x) e S (fun _ => True) D := (rfl)
theorem xY_alloc (t : TypeId) : xY X P (.alloc t) cv e S D = xO P (.alloc t) e S (fun _ => True) D := (rfl)
theorem xY_fieldAddr (t : TypeId) (x : Operand) (f : Nat) : xY X P (.fieldAddr t x f) cv e S D = xO P (.fieldAddr t x f) e S (fun _ => True) D := (rfl)
theorem xY_indexAddr (t : TypeId) (x i : Operand) : xY X P (.indexAddr t x i) cv e S D = xO P (.indexAddr t x i) e S (fun _ => True) D := (rfl)
end
section
variable {X : Nat → Prop} {P : Program} {ops : Array Oper} {cv : Nat → AV} {K : St → Prop} {s : St} {d : Option Tmp} {op : Op} {ty : TypeId} {pos : String} {af : Array Edge} {r : List Oper} {i : Nat}
def kY (X : Nat → Prop) (P : Program) (ops : Array Oper) (cv : Nat → AV) (K : St → Prop) (r : List Oper) (i : Nat) (s : St) (d : Option Tmp) : AV → Store → Prop := fun v S' => xdrY X P ops cv K r (i + 1) ((s.withS S').put d v)
def xYo (X : Nat → Prop) (P : Program) (ops : Array Oper) (cv : Nat → AV) (K : St → Prop) (r : List Oper) (i : Nat) (d : Option Tmp) (op : Op) (s : St) : Prop := xY X P op (cv i) (ev s) s.S (kY X P ops cv K r i s d)
theorem xYo_app {ρ : Env} {S : Store} {n : Nat} {df : List Nat} : xYo X P ops cv K r i d op ⟨ρ.get, S, n, df⟩ = xY X P op (cv i) (ev ⟨ρ.get, S, n, df⟩) S (kY X P ops cv K r i ⟨ρ.get, S, n, df⟩ d) := (rfl)
@[congr] theorem xYo_congr {s' : St} (h : s = s') : xYo X P ops cv K r i d op s = xYo X P ops cv K r i d op s' := by rw [h]
def kYg (X : Nat → Prop) (P : Program) (ops : Array Oper) (cv : Nat → AV) (K : St → Prop) (r : List Oper) (i : Nat) (s : St) (d : Option Tmp) (op : Op) (w : Bool) : Option Bool → Prop
  | some b => if b = w then xYo X P ops cv K r i d op s else xdrY X P ops cv K r (i + 1) (s.put d (.tuple []))
  | none => xdrY X P ops cv K r (i + 1) (s.put d (.tuple []))
def kYs (X : Nat → Prop) (P : Program) (ops : Array Oper) (cv : Nat → AV) (K : St → Prop) (r : List Oper) (i : Nat) (s : St) (d : Option Tmp) (op : Op) (w : Bool) : Nat → Prop := fun g => g < s.n ∧ gdK (s.ρ g) (kYg X P ops cv K r i s d op w)
section
variable {ρ : Env} {S S' : Store} {n g t : Nat} {df : List Nat} {x : AV} {w : Bool}
theorem kY_some : kY X P ops cv K r i ⟨ρ.get, S, n, df⟩ (some t) x S' = xdrY X P ops cv K r (i + 1) ⟨(ρ.put t x).get, S', n, df⟩ := by
  show xdrY X P ops cv K r (i + 1) ⟨upd ρ.get t x, S', n, df⟩ = _; rw [upd_get]
theorem kY_none : kY X P ops cv K r i ⟨ρ.get, S, n, df⟩ none x S' = xdrY X P ops cv K r (i + 1) ⟨ρ.get, S', n, df⟩ := (rfl)
end
theorem xdrY_nil : xdrY X P ops cv K [] i s = K s := (rfl)
theorem xdrY_plain {ρ : Env} {S : Store} {n : Nat} {df : List Nat} : xdrY X P ops cv K (⟨d, op, ty, pos, af, none⟩ :: r) i ⟨ρ.get, S, n, df⟩ = dK d n (xYo X P ops cv K r i d op ⟨ρ.get, S, n, df⟩) := by
  unfold xYo; rw [ev_eq]; rfl
@[congr] theorem xdrY_congr {l : List Oper} {s' : St} (h : s = s') : xdrY X P ops cv K l i s = xdrY X P ops cv K l i s' := by rw [h]
@[congr] theorem xY_congr {c : AV} {e : Operand → AV} {S : Store} {D : AV → Store → Prop} : xY X P op c e S D = xY X P op c e S D := rfl
end
theorem Pure.drawX {X : Nat → Prop} {P : Program} {f : FuncId} {args : List AV} {r : AV} {S : Store} (h : Pure P f args r) : ∀ S1, KeepX X S S1 → CallR P f args S1 (pureR r S1) := fun S1 _ => h.use ⟨rfl, rfl⟩
attribute [go_sem ↓] xY_move xY_alloc xY_load xY_store xY_fieldAddr xY_indexAddr xdrY_nil xdrY_plain kY_some kY_none xYo_app
attribute [go_sem] xY_move xY_alloc xY_load xY_store xY_fieldAddr xY_indexAddr xdrY_nil xdrY_plain kY_some kY_none xYo_app inX_sp outX_sp
end Go.Sk
