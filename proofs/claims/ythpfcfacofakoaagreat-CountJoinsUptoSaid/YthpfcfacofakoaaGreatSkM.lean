/- Regions whose order is open: the order of the text serves every order. -/
import Derived.Test.YthpfcfacofakoaaGreatSkLm
import Derived.Still
set_option linter.unusedSimpArgs false
set_option linter.unusedVariables false
set_option linter.unusedSectionVars false
namespace Go.Sk
open Go

def evF (ρ : Nat → AV) : Operand → AV
  | .tmp t => ρ t
  | .const v => ofV v
  | .global _ => .top
  | .func f => .fn (.func f) [] []
theorem ev_eq (s : St) : ev s = evF s.ρ := by funext x; cases x <;> rfl

/-- What hands one value on, whoever goes on with it. -/
def Det (F : (AV → Prop) → Prop) : Prop := ∀ K, F K → ∃ v, K v ∧ ∀ K', K' v → F K'

theorem det_unop (op : UnOp) (x : AV) : Det (xunop op x) := by
  intro K h; unfold xunop at h ⊢; split at h
  · exact ⟨_, h, fun _ h => h⟩
  · exact ⟨_, h, fun _ h => h⟩
  · exact h.elim
theorem det_conv (d e : Option TypeDesc) (x : AV) : Det (xconv d e x) := by
  intro K h; unfold xconv at h ⊢; split at h
  · exact ⟨_, h, fun _ h => h⟩
  · exact h.elim
theorem det_intBin (op : BinOp) (k : IntKind) (a b : Int) : Det (fun K => intBin op k a b (fun v => K (.p v))) := by
  intro K h; cases op <;> simp only [intBin] at h ⊢ <;> first | exact ⟨_, h, fun _ h => h⟩ | exact ⟨_, h.2, fun _ h' => ⟨h.1, h'⟩⟩
theorem det_intShift (op : BinOp) (k : IntKind) (a b : Int) : Det (fun K => intShift op k a b (fun v => K (.p v))) := by
  intro K h; cases op <;> simp only [intShift] at h ⊢ <;> first | exact h.elim | exact ⟨_, h.2, fun _ h' => ⟨h.1, h'⟩⟩
theorem det_bin (d : Option TypeDesc) (op : BinOp) (x y : AV) : Det (xbin d op x y) := by
  intro K h; unfold xbin at h ⊢; split at h
  · split at h
    · rename_i hs; simp only [if_pos hs]; exact det_intShift _ _ _ _ K h
    · rename_i hs; simp only [if_neg hs]
      obtain ⟨hk, h⟩ := h
      obtain ⟨v, h1, h2⟩ := det_intBin _ _ _ _ K h
      exact ⟨v, h1, fun K' h' => ⟨hk, h2 K' h'⟩⟩
  · obtain ⟨hk, h⟩ := h
    cases op <;> first | exact h.elim | exact ⟨_, h, fun _ h' => ⟨hk, h'⟩⟩
  · cases op <;> first | exact h.elim | exact ⟨_, h, fun _ h' => h'⟩
  · obtain ⟨hk, h⟩ := h
    cases op <;> first | exact h.elim | exact ⟨_, h, fun _ h' => ⟨hk, h'⟩⟩
  · obtain ⟨hk, h⟩ := h
    cases op <;> first | exact h.elim | exact ⟨_, h, fun _ h' => ⟨hk, h'⟩⟩
  · exact h.elim
theorem det_bin2 (P : Program) (t : TypeId) (op : BinOp) (x y : AV) : Det (xbin2 P t op x y) := by
  intro K h; unfold xbin2 at h ⊢; split at h
  · unfold xeqA at h ⊢
    split at h
    · rename_i h1 h2
      obtain ⟨ha, h⟩ := h
      cases op <;> first | exact h.elim | (refine ⟨_, h, fun K' h' => ?_⟩; (try simp only [h1, h2]); exact ⟨ha, h'⟩)
    · exact h.elim
  · rename_i hne
    obtain ⟨v, h1, h2⟩ := det_bin _ _ _ _ K h
    refine ⟨v, h1, fun K' h' => ?_⟩
    exact h2 K' h'
theorem det_indexV (P : Program) (t : TypeId) (x y : AV) : Det (xindexV P t x y) := by
  intro K h; unfold xindexV at h ⊢; split at h
  · rename_i h1 h2
    split at h
    · rename_i h3
      refine ⟨_, h.2.2.2.2.2, fun K' h' => ?_⟩
      (try simp only [h1, h2, h3]); exact ⟨h.1, h.2.1, h.2.2.1, h.2.2.2.1, h.2.2.2.2.1, h'⟩
    · exact h.elim
  · exact h.elim
theorem det_extract (x : AV) (i : Nat) : Det (xextract x i) := by
  intro K h; unfold xextract at h ⊢; split at h
  · exact ⟨_, h.2, fun _ h' => ⟨h.1, h'⟩⟩
  · exact h.elim
theorem det_faddr (off sz : Nat) (x : AV) : Det (xfaddr off sz x) := by
  intro K h; unfold xfaddr at h ⊢; split at h <;> first | exact h.elim | exact ⟨_, h.2, fun _ h' => ⟨h.1, h'⟩⟩
theorem det_field (off sz : Nat) (g : Bool) (x : AV) : Det (xfield off sz g x) := by
  intro K h; unfold xfield at h ⊢; split at h <;> first | exact h.elim | exact ⟨_, h.2.2, fun _ h' => ⟨h.1, h.2.1, h'⟩⟩
theorem det_index (arr : Option Nat) (sz : Nat) (x ix : AV) : Det (xindex arr sz x ix) := by
  intro K h; unfold xindex at h ⊢; split at h
  · split at h
    · rename_i els he
      refine ⟨_, h.2.2.2.2, fun K' h' => ?_⟩
      (try rw [he]); exact ⟨h.1, h.2.1, h.2.2.1, h.2.2.2.1, h'⟩
    · rename_i he
      split at h
      · refine ⟨_, h.2.2, fun K' h' => ?_⟩; (try rw [he]); exact ⟨h.1, h.2.1, h'⟩
      · refine ⟨_, h.2.2, fun K' h' => ?_⟩; (try rw [he]); exact ⟨h.1, h.2.1, h'⟩
      · refine ⟨_, h.2.2.2, fun K' h' => ?_⟩; (try rw [he]); exact ⟨h.1, h.2.1, h.2.2.1, h'⟩
      · exact h.elim
  · exact h.elim
theorem det_sliceP (sz : Nat) (x : AV) (lo hi mx : Option AV) : Det (xsliceP sz x lo hi mx) := by
  intro K h; unfold xsliceP at h ⊢; split at h
  · rename_i els he
    split at h
    · rename_i l g hl hg
      cases mx with
      | none => exact ⟨_, h.2.2.2.2, fun K' h' => by (try simp only [he, hl, hg]); exact ⟨h.1, h.2.1, h.2.2.1, h.2.2.2.1, h'⟩⟩
      | some y => exact ⟨_, h.2.2.2.2.2.2, fun K' h' => by (try simp only [he, hl, hg]); exact ⟨h.1, h.2.1, h.2.2.1, h.2.2.2.1, h.2.2.2.2.1, h.2.2.2.2.2.1, h'⟩⟩
    · exact h.elim
  · exact h.elim
theorem det_slice (d : Option TypeDesc) (sz : Nat) (x : AV) (lo hi mx : Option AV) : Det (xslice d sz x lo hi mx) := by
  intro K h; unfold xslice at h ⊢; split at h
  · split at h
    · unfold xsliceM at h ⊢
      obtain ⟨h1, h2, h⟩ := h
      split at h
      · rename_i l g hl hg
        exact ⟨_, h.2.2.2, fun K' h' => by (try simp only [hl, hg]); exact ⟨h1, h2, h.1, h.2.1, h.2.2.1, h'⟩⟩
      · exact h.elim
    · split at h
      · rename_i l g hl hg
        exact ⟨_, h.2.2.2, fun K' h' => by (try simp only [hl, hg]); exact ⟨h.1, h.2.1, h.2.2.1, h'⟩⟩
      · exact h.elim
    · exact det_sliceP sz x lo hi mx K h
  · exact h.elim
theorem det_len (d : Option TypeDesc) (x : AV) : Det (xlen d x) := by
  intro K h; unfold xlen at h ⊢; split at h
  · split at h
    · exact ⟨_, h, fun _ h => h⟩
    · split at h
      · rename_i els he
        refine ⟨_, h, fun K' h' => ?_⟩
        (try rw [he]); exact h'
      · exact h.elim
  · split at h
    · exact ⟨_, h, fun _ h => h⟩
    · exact h.elim
  · exact ⟨_, h, fun _ h => h⟩
  · exact h.elim
theorem det_minmax (mx : Bool) (x y : AV) : Det (xminmax mx x y) := by
  intro K h; unfold xminmax at h ⊢; split at h
  · exact ⟨_, h, fun _ h => h⟩
  · exact h.elim
theorem det_build (P : Program) (t : TypeId) (e : Operand → AV) (ps : Array (Nat × Operand)) : Det (xbuild P t e ps) := by
  intro K h; unfold xbuild at h ⊢; split at h
  · rename_i h1 h2
    obtain ⟨ha, h⟩ := h
    split at h
    · rename_i cs hc; refine ⟨_, h, fun K' h' => ?_⟩; (try simp only [h1, h2, hc]); exact ⟨ha, h'⟩
    · exact h.elim
  · rename_i h1 h2
    split at h
    · rename_i hi
      split at h
      · rename_i cs hc; refine ⟨_, h, fun K' h' => ?_⟩; (try simp only [h1, h2, hi, hc]); exact h'
      · exact h.elim
    · exact h.elim
  · exact h.elim
theorem det_buildSlice (P : Program) (t : TypeId) (n : Nat) (e : Operand → AV) (ps : Array (Nat × Operand)) : Det (xbuildSlice P t n e ps) := by
  intro K h; unfold xbuildSlice at h ⊢; split at h
  · rename_i h1
    split at h
    · rename_i h2
      obtain ⟨ha, hb, h⟩ := h
      split at h
      · rename_i cs hc
        split at h
        · rename_i ps hp; refine ⟨_, h, fun K' h' => ?_⟩; (try simp only [h1, h2, hc, hp]); exact ⟨ha, hb, h'⟩
        · exact h.elim
      · exact h.elim
    · exact h.elim
  · exact h.elim
theorem det_load (S : Store) (ag : Bool) (sz : Nat) (x : AV) (K : AV → Prop) (h : xload S ag sz x K) :
    ∃ v, K v ∧ ∀ S' K', (∀ b y, S (.r b) = some y → S' (.r b) = some y) → K' v → xload S' ag sz x K' := by
  unfold xload at h ⊢; split at h
  · rename_i b o
    split at h
    · rename_i cs hb
      refine ⟨_, h.2.2, fun S' K' hS h' => ?_⟩
      (try rw [hS _ _ hb]); exact ⟨h.1, h.2.1, h'⟩
    · exact h.elim
  · exact ⟨_, h.2.2, fun S' K' _ h' => ⟨h.1, h.2.1, h'⟩⟩
  · exact h.elim

def KeepR (S S' : Store) : Prop := ∀ b y, S (.r b) = some y → S' (.r b) = some y

theorem newP_keep {sz : Nat} {els ys : List (List PV)} {S : Store} {C C' : AV → Store → Prop} (hm : ∀ v S', KeepR S S' → C v S' → C' v S') (h : NewP sz els ys S C) : NewP sz els ys S C' := by
  rcases h with h | ⟨hne, h⟩
  · refine Or.inl fun k hk loc => hm _ _ (fun b y hy => by rw [Store.set_other _ _ (by simp)]; exact hy) (h k hk loc)
  · refine Or.inr ⟨hne, fun b c hb hc => hm _ _ (fun b' y hy => by
      rw [Store.set_other _ _ (by rintro e; cases e; rw [hb] at hy; cases hy)]; exact hy) (h b c hb hc)⟩
/-- An operation; a call's value is known ahead, and it leaves all owned blocks alone; it may look at them. -/
def xopD (P : Program) (o : Oper) (cv : AV) (e : Operand → AV) (S : Store) (D : AV → Store → Prop) : Prop :=
  match o.op with
  | .call c => match c.callee with
    | .value f => (∀ S1, KeepR S S1 → FunR P (e f) ((c.args.toList.map e).map reif) S1 (fun x S' => x = cv ∧ S' = S1)) ∧ D cv S
    | .builtin .copy => (match c.args.toList, c.argTypes.toList with | [x, y], [t, _] => xcopy P t S (e x) (e y) D | _, _ => False)
    | _ => xopG P o e S (fun _ => True) D
  | _ => xopG P o e S (fun _ => True) D

def isLoad (o : Oper) : Bool := match o.op with | .load .. => true | .call c => (match c.callee with | .value _ => true | _ => false) | _ => false
def isStore (o : Oper) : Bool := match o.op with | .store .. => true | .call c => (match c.callee with | .builtin .copy => true | _ => false) | _ => false
def quietB (o : Oper) : Bool := match o.op with
  | .alloc _ | .box .. | .store .. => false
  | .call c => match c.callee with | .builtin .append => false | .builtin .copy => false | _ => true
  | _ => true

theorem quiet_ok {P : Program} {o : Oper} {cv : AV} {e : Operand → AV} {S : Store} {D : AV → Store → Prop} (hq : quietB o = true) (h : xopD P o cv e S D) :
    ∃ v, D v S ∧ ∀ S' D', (isLoad o = true → KeepR S S') → D' v S' → xopD P o cv e S' D' := by
  have use : ∀ {F : (AV → Prop) → Prop}, Det F → F (fun y => D y S) → ∃ v, D v S ∧ ∀ S' (D' : AV → Store → Prop), D' v S' → F (fun y => D' y S') := by
    intro F hF hf
    obtain ⟨v, h1, h2⟩ := hF _ hf
    exact ⟨v, h1, fun S' D' h' => h2 (fun y => D' y S') h'⟩
  unfold xopD at h ⊢
  unfold quietB at hq
  cases ho : o.op <;> rw [ho] at h hq <;> dsimp only at h hq ⊢ <;> (try unfold xopG at h ⊢) <;> (try rw [ho] at h) <;> (try (rw [ho])) <;> dsimp only at h ⊢ <;> (try exact h.elim) <;> (try exact Bool.noConfusion hq)
  case move x => exact ⟨_, h, fun _ _ _ h' => h'⟩
  case assign x => exact ⟨_, h, fun _ _ _ h' => h'⟩
  case pick c x y =>
    split at h
    · rename_i t ht; exact ⟨_, h, fun _ _ _ h' => h'⟩
    · exact h.elim
  case build t ps => obtain ⟨v, h1, h2⟩ := use (det_build P t e ps) h; exact ⟨v, h1, fun S' D' _ h' => h2 S' D' h'⟩
  case buildSlice t n ps => obtain ⟨v, h1, h2⟩ := use (det_buildSlice P t n e ps) h; exact ⟨v, h1, fun S' D' _ h' => h2 S' D' h'⟩
  case load t x =>
    split at h
    · obtain ⟨v, h1, h2⟩ := det_load _ _ _ _ _ h
      exact ⟨v, h1, fun S' D' hk h' => h2 S' (fun y => D' y S') (hk (by simp [isLoad, ho])) h'⟩
    · exact h.elim
  case nilCheck x => exact ⟨_, h.2, fun _ _ _ h' => ⟨h.1, h'⟩⟩
  case binOp op t x y u => obtain ⟨v, h1, h2⟩ := use (det_bin2 P t op _ _) h; exact ⟨v, h1, fun S' D' _ h' => h2 S' D' h'⟩
  case index t x ix => obtain ⟨v, h1, h2⟩ := use (det_indexV P t _ _) h; exact ⟨v, h1, fun S' D' _ h' => h2 S' D' h'⟩
  case unOp op t x => obtain ⟨v, h1, h2⟩ := use (det_unop op _) h; exact ⟨v, h1, fun S' D' _ h' => h2 S' D' h'⟩
  case convert t u x => obtain ⟨v, h1, h2⟩ := use (det_conv _ _ _) h; exact ⟨v, h1, fun S' D' _ h' => h2 S' D' h'⟩
  case makeFunc f x y => exact ⟨_, h, fun _ _ _ h' => h'⟩
  case slice t x lo hi mx =>
    split at h
    · obtain ⟨v, h1, h2⟩ := use (det_slice _ _ _ _ _ _) h; exact ⟨v, h1, fun S' D' _ h' => h2 S' D' h'⟩
    · exact h.elim
  case fieldAddr t x f =>
    split at h
    · obtain ⟨v, h1, h2⟩ := use (det_faddr _ _ _) h; exact ⟨v, h1, fun S' D' _ h' => h2 S' D' h'⟩
    · exact h.elim
  case field t x f =>
    split at h
    · obtain ⟨v, h1, h2⟩ := use (det_field _ _ _ _) h; exact ⟨v, h1, fun S' D' _ h' => h2 S' D' h'⟩
    · exact h.elim
  case indexAddr t x ix =>
    split at h
    · obtain ⟨v, h1, h2⟩ := use (det_index _ _ _ _) h; exact ⟨v, h1, fun S' D' _ h' => h2 S' D' h'⟩
    · exact h.elim
  case extract x i => obtain ⟨v, h1, h2⟩ := use (det_extract _ _) h; exact ⟨v, h1, fun S' D' _ h' => h2 S' D' h'⟩
  case call c =>
    split at h
    · rename_i f hc
      exact ⟨_, h.2, fun S' D' hk h' => ⟨fun S2 hk2 => h.1 S2 (fun b y hb => hk2 b y (hk (by simp [isLoad, ho, hc]) b y hb)), h'⟩⟩
    · rename_i hc; rw [hc] at hq; exact Bool.noConfusion hq
    · unfold xcall at h ⊢
      split at h
      · split at h
        · obtain ⟨v, h1, h2⟩ := use (det_len _ _) h; exact ⟨v, h1, fun S' D' _ h' => h2 S' D' h'⟩
        · exact h.elim
      · rename_i hc; rw [hc] at hq; exact Bool.noConfusion hq
      · split at h
        · obtain ⟨v, h1, h2⟩ := use (det_minmax _ _ _) h; exact ⟨v, h1, fun S' D' _ h' => h2 S' D' h'⟩
        · exact h.elim
      · split at h
        · obtain ⟨v, h1, h2⟩ := use (det_minmax _ _ _) h; exact ⟨v, h1, fun S' D' _ h' => h2 S' D' h'⟩
        · exact h.elim
      · rename_i hne _ _ f hc; exact (hne f hc).elim
      · exact h.elim

/-- Whoever goes on may know that no other block has turned. -/
theorem keep_ok {P : Program} {o : Oper} {cv : AV} {e : Operand → AV} {S : Store} {D D' : AV → Store → Prop} (hm : ∀ v S', (isStore o = false → KeepR S S') → D v S' → D' v S') (h : xopD P o cv e S D) : xopD P o cv e S D' := by
  by_cases hq : quietB o = true
  · obtain ⟨v, h1, h2⟩ := quiet_ok hq h
    exact h2 S D' (fun _ _ _ h => h) (hm v S (fun _ _ _ h => h) h1)
  · have hset : ∀ (k : Key) (x : Blk), (∀ b, k = .r b → S k = none) → KeepR S (S.set k x) := by
      intro k x hk b y hb
      rw [Store.set_other]; exact hb
      intro e
      have := hk b e.symm
      rw [← e] at this; rw [this] at hb; cases hb
    have hset' : ∀ (k : Nat) (x : Blk), KeepR S (S.set (.v k) x) := fun k x => hset _ x (fun b e => by cases e)
    unfold xopD at h ⊢
    unfold quietB at hq
    cases ho : o.op <;> rw [ho] at h hq <;> dsimp only at h hq ⊢ <;> (try exact absurd rfl hq) <;> (try unfold xopG at h ⊢) <;> (try rw [ho] at h) <;> (try (rw [ho])) <;> dsimp only at h ⊢
    case alloc t =>
      split at h
      · exact fun b hb => hm _ _ (fun _ => hset _ _ (fun b' e => by cases e; exact hb)) (h b hb)
      · exact h.elim
    case box t x => exact ⟨h.1, fun b hb => hm _ _ (fun _ => hset _ _ (fun b' e => by cases e; exact hb)) (h.2 b hb)⟩
    case store t x y =>
      split at h
      · unfold xstore at h ⊢
        split at h
        · split at h
          · exact ⟨h.1, h.2.1, h.2.2.1, hm _ _ (fun e => by simp [isStore, ho] at e) h.2.2.2⟩
          · exact h.elim
        · exact h.elim
      · exact h.elim
    case call c =>
      split at h
      · rename_i hc; rw [hc] at hq; exact absurd rfl hq
      · rename_i hc
        (try (rw [hc]; dsimp only))
        split at h
        · rename_i e1 e2
          (try (rw [e1, e2]; dsimp only))
          unfold xcopy at h ⊢
          split at h
          · refine ⟨h.1, ?_⟩
            have h := h.2
            split at h
            · exact ⟨h.1, h.2.1, hm _ _ (fun e => by simp [isStore, ho, hc] at e) h.2.2⟩
            · exact h.elim
          · exact h.elim
        · exact h.elim
      · unfold xcall at h ⊢
        split at h
        · rename_i hc; rw [hc] at hq; exact absurd rfl hq
        · split at h
          · refine ⟨h.1, ?_⟩
            have h := h.2
            unfold xappend at h ⊢
            split at h
            · split at h
              · refine ⟨h.1, h.2.1, ?_⟩
                have h := h.2.2
                split at h
                · exact ⟨h.1, h.2.1, newP_keep (fun v S' hk => hm _ _ (fun _ => hk)) h.2.2⟩
                · exact ⟨h.1, h.2.1, h.2.2.1, newP_keep (fun v S' hk => hm _ _ (fun _ => hk)) h.2.2.2⟩
                · exact ⟨h.1, h.2.1, h.2.2.1, h.2.2.2.1, h.2.2.2.2.1, fun loc => hm _ _ (fun _ => hset' _ _) (h.2.2.2.2.2 loc)⟩
                · exact h.elim
              · exact h.elim
            · exact h.elim
          · exact h.elim
        · rename_i hc; rw [hc] at hq; exact absurd rfl hq
        · rename_i hc; rw [hc] at hq; exact absurd rfl hq
        · rename_i hc; rw [hc] at hq; exact absurd rfl hq
        · exact h.elim

/-! What an operation looks at. -/
theorem parts_congr {e e' : Operand → AV} (ps : Array (Nat × Operand)) (h : ∀ x ∈ (ps.toList.map (·.2)).toArray, e x = e' x) : (ps.toList.map fun p => (p.1, e p.2)) = ps.toList.map fun p => (p.1, e' p.2) := by
  apply List.map_congr_left
  intro p hp
  rw [h p.2 (by simp; exact ⟨p.1, by simpa using hp⟩)]

theorem congr_ok {P : Program} {o : Oper} {cv : AV} {e e' : Operand → AV} {S : Store} {D : AV → Store → Prop} (he : ∀ x ∈ o.op.operands, e x = e' x) (h : xopD P o cv e S D) : xopD P o cv e' S D := by
  unfold xopD xopG at h ⊢
  cases ho : o.op <;> rw [ho] at h he <;> dsimp only at h ⊢ <;> (try exact h.elim) <;> simp only [Op.operands] at he
  case move x => rw [← he x (by simp)]; exact h
  case assign x => rw [← he x (by simp)]; exact h
  case pick c x y => rw [← he c (by simp), ← he x (by simp), ← he y (by simp)]; exact h
  case alloc t => exact h
  case box t x => rw [← he x (by simp)]; exact h
  case build t ps => unfold xbuild at h ⊢; rw [← parts_congr ps he]; exact h
  case buildSlice t n ps => unfold xbuildSlice at h ⊢; rw [← parts_congr ps he]; exact h
  case load t x => rw [← he x (by simp)]; exact h
  case store t x y => rw [← he x (by simp), ← he y (by simp)]; exact h
  case nilCheck x => rw [← he x (by simp)]; exact h
  case binOp op t x y u => rw [← he x (by simp), ← he y (by simp)]; exact h
  case unOp op t x => rw [← he x (by simp)]; exact h
  case convert t u x => rw [← he x (by simp)]; exact h
  case makeFunc f x y =>
    have h1 : x.toList.map e = x.toList.map e' := List.map_congr_left (fun q hq => he q (by simp; exact Or.inl (by simpa using hq)))
    have h2 : y.toList.map e = y.toList.map e' := List.map_congr_left (fun q hq => he q (by simp; exact Or.inr (by simpa using hq)))
    rw [← h1, ← h2]; exact h
  case slice t x lo hi mx =>
    have h1 : lo.map e = lo.map e' := by cases lo with | none => rfl | some q => simp only [Option.map_some]; rw [he q (by simp)]
    have h2 : hi.map e = hi.map e' := by cases hi with | none => rfl | some q => simp only [Option.map_some]; rw [he q (by simp)]
    have h3 : mx.map e = mx.map e' := by cases mx with | none => rfl | some q => simp only [Option.map_some]; rw [he q (by simp)]
    rw [← he x (by simp), ← h1, ← h2, ← h3]; exact h
  case fieldAddr t x f => rw [← he x (by simp)]; exact h
  case field t x f => rw [← he x (by simp)]; exact h
  case indexAddr t x ix => rw [← he x (by simp), ← he ix (by simp)]; exact h
  case index t x ix => rw [← he x (by simp), ← he ix (by simp)]; exact h
  case extract x i => rw [← he x (by simp)]; exact h
  case call c =>
    have hargs : ∀ q ∈ c.args.toList, e q = e' q := fun q hq => he q (by unfold Call.operands; simp; exact Or.inr (by simpa using hq))
    have hmap : c.args.toList.map e = c.args.toList.map e' := List.map_congr_left hargs
    split at h
    · rename_i f hc
      have hf : e f = e' f := he f (by unfold Call.operands; rw [hc]; simp)
      (try (rw [hc]; dsimp only))
      rw [← hmap, ← hf]; exact h
    · rename_i hc
      (try (rw [hc]; dsimp only))
      split at h
      · rename_i x y t u h1 h2
        (try (rw [h1, h2]; dsimp only))
        rw [← hargs x (by rw [h1]; simp), ← hargs y (by rw [h1]; simp)]; exact h
      · exact h.elim
    · rename_i hne hne2
      have goal : xcall P c e' S (fun _ => True) D := by
        unfold xcall at h ⊢
        split at h
        · rename_i hc; (try (rw [hc]; dsimp only))
          split at h
          · rename_i x t h1 h2; (try (rw [h1, h2]; dsimp only)); rw [← hargs x (by rw [h1]; simp)]; exact h
          · exact h.elim
        · rename_i hc; (try (rw [hc]; dsimp only))
          split at h
          · rename_i x y t u h1 h2; (try (rw [h1, h2]; dsimp only)); rw [← hargs x (by rw [h1]; simp), ← hargs y (by rw [h1]; simp)]; exact h
          · exact h.elim
        · rename_i hc; (try (rw [hc]; dsimp only))
          split at h
          · rename_i x y h1; (try (rw [h1]; dsimp only)); rw [← hargs x (by rw [h1]; simp), ← hargs y (by rw [h1]; simp)]; exact h
          · exact h.elim
        · rename_i hc; (try (rw [hc]; dsimp only))
          split at h
          · rename_i x y h1; (try (rw [h1]; dsimp only)); rw [← hargs x (by rw [h1]; simp), ← hargs y (by rw [h1]; simp)]; exact h
          · exact h.elim
        · rename_i f hc; exact (hne f hc).elim
        · exact h.elim
      first | exact goal | (split; (rename_i f hc; exact (hne f hc).elim); (rename_i hc; exact (hne2 hc).elim); exact goal)

/-! One operation of a region, its guard asked; any order; the order of the text. -/
def updO (ρ : Nat → AV) (d : Option Nat) (v : AV) : Nat → AV := match d with | some t => upd ρ t v | none => ρ

def TV (P : Program) (ops : Array Oper) (n : Nat) (cv : AV) (o : Oper) (ρ : Nat → AV) (S : Store) (D : AV → Store → Prop) : Prop :=
  (match o.dst with | some t => t < n | none => True) ∧
  match o.guard with
  | none => xopD P o cv (evF ρ) S D
  | some (j, want) => match (ops[j]?).bind (·.dst) with
    | none => False
    | some d => d < n ∧ match ρ d with
      | .p (.bool b) => if b = want then xopD P o cv (evF ρ) S D else D (.tuple []) S
      | .tuple [] => D (.tuple []) S
      | _ => False

def T (P : Program) (ops : Array Oper) (n : Nat) (cv : Nat → AV) (i : Nat) (ρ : Nat → AV) (S : Store) (C : (Nat → AV) → Store → Prop) : Prop :=
  match ops[i]? with
  | none => C ρ S
  | some o => TV P ops n (cv i) o ρ S (fun v S' => C (updO ρ o.dst v) S')

section
variable {P : Program} {ops : Array Oper} {n : Nat} {cv : Nat → AV}

theorem TV_keep {o : Oper} {c : AV} {ρ : Nat → AV} {S : Store} {D D' : AV → Store → Prop} (hm : ∀ v S', (isStore o = false → KeepR S S') → D v S' → D' v S') (h : TV P ops n c o ρ S D) : TV P ops n c o ρ S D' := by
  unfold TV at h ⊢
  refine ⟨h.1, ?_⟩
  have h := h.2
  split at h
  · exact keep_ok hm h
  · split at h
    · exact h.elim
    · refine ⟨h.1, ?_⟩
      have h := h.2
      split at h
      · split at h
        · rename_i e; rw [if_pos e]; exact keep_ok hm h
        · rename_i e; rw [if_neg e]; exact hm _ _ (fun _ _ _ h => h) h
      · exact hm _ _ (fun _ _ _ h => h) h
      · exact h.elim

theorem T_mono {i : Nat} {ρ : Nat → AV} {S : Store} {C C' : (Nat → AV) → Store → Prop} (hm : ∀ ρ S, C ρ S → C' ρ S) (h : T P ops n cv i ρ S C) : T P ops n cv i ρ S C' := by
  unfold T at h ⊢
  split at h
  · exact hm _ _ h
  · exact TV_keep (fun v S' _ h => hm _ _ h) h

theorem TV_quiet {o : Oper} {c : AV} {ρ : Nat → AV} {S : Store} {D : AV → Store → Prop} (hq : quietB o = true) (h : TV P ops n c o ρ S D) :
    ∃ v, D v S ∧ ∀ S' D', (isLoad o = true → KeepR S S') → D' v S' → TV P ops n c o ρ S' D' := by
  unfold TV at h ⊢
  obtain ⟨h0, h⟩ := h
  split at h
  · obtain ⟨v, h1, h2⟩ := quiet_ok hq h
    exact ⟨v, h1, fun S' D' hk h' => ⟨h0, h2 S' D' hk h'⟩⟩
  · split at h
    · exact h.elim
    · obtain ⟨hn, h⟩ := h
      split at h
      · rename_i b hb
        rcases Classical.em (b = _) with hbw | hbw
        · rw [if_pos hbw] at h
          obtain ⟨v, h1, h2⟩ := quiet_ok hq h
          exact ⟨v, h1, fun S' D' hk h' => ⟨h0, hn, by rw [if_pos hbw]; exact h2 S' D' hk h'⟩⟩
        · rw [if_neg hbw] at h
          exact ⟨_, h, fun S' D' _ h' => ⟨h0, hn, by rw [if_neg hbw]; exact h'⟩⟩
      · exact ⟨_, h, fun S' D' _ h' => ⟨h0, hn, h'⟩⟩
      · exact h.elim

theorem evF_upd {ρ : Nat → AV} {d : Option Nat} {v : AV} {x : Operand} (h : ∀ t, d = some t → x ≠ .tmp t) : evF (updO ρ d v) x = evF ρ x := by
  cases x with
  | tmp t =>
    cases d with
    | none => rfl
    | some u =>
      simp only [evF, updO, upd]
      rw [if_neg]; rintro rfl; exact h t rfl rfl
  | _ => rfl

theorem TV_congr {o : Oper} {c : AV} {ρ : Nat → AV} {S : Store} {D : AV → Store → Prop} {d : Option Nat} {v : AV} (hl : ∀ t, d = some t → t ∉ o.looksAt ops) :
    TV P ops n c o ρ S D ↔ TV P ops n c o (updO ρ d v) S D := by
  have he : ∀ x ∈ o.op.operands, evF (updO ρ d v) x = evF ρ x := by
    intro x hx
    refine evF_upd (fun t ht e => hl t ht ?_)
    subst e
    unfold Oper.looksAt
    refine List.mem_append.2 (Or.inl (List.mem_filterMap.2 ⟨.tmp t, by simpa using hx, rfl⟩))
  have hg : ∀ j want g, o.guard = some (j, want) → (ops[j]?).bind (·.dst) = some g → updO ρ d v g = ρ g := by
    intro j want g h1 h2
    cases d with
    | none => rfl
    | some u =>
      simp only [updO, upd]
      rw [if_neg]
      rintro rfl
      refine hl g rfl ?_
      unfold Oper.looksAt
      rw [h1]
      exact List.mem_append.2 (Or.inr (by simp [h2]))
  unfold TV
  refine and_congr Iff.rfl ?_
  split
  · exact ⟨congr_ok (fun x hx => (he x hx).symm), congr_ok he⟩
  · rename_i j want hgd
    split
    · exact Iff.rfl
    · rename_i g hgg
      rw [hg j want g hgd hgg]
      refine and_congr Iff.rfl ?_
      split
      · split
        · exact ⟨fun h => congr_ok (fun x hx => (he x hx).symm) h, fun h => congr_ok he h⟩
        · exact Iff.rfl
      · exact Iff.rfl
      · exact Iff.rfl

/-- Two that are apart, the first quiet: the other one may come first. -/
def okB (ops : Array Oper) (x y : Oper) : Bool := quietB x && x.apart ops y && !(isLoad x && isStore y)

theorem upd_comm {ρ : Nat → AV} {d e : Option Nat} {v u : AV} (h : ∀ t, d = some t → e ≠ some t) : updO (updO ρ d v) e u = updO (updO ρ e u) d v := by
  cases d with
  | none => rfl
  | some t =>
    cases e with
    | none => rfl
    | some q =>
      have : q ≠ t := fun hq => h t rfl (by rw [hq])
      funext x; simp only [updO, upd]
      by_cases h1 : x = q
      · subst h1; rw [if_pos rfl, if_neg this, if_pos rfl]
      · rw [if_neg h1]; by_cases h2 : x = t
        · rw [if_pos h2, if_pos h2]
        · rw [if_neg h2, if_neg h2, if_neg h1]

theorem comm {i j : Nat} {oi oj : Oper} (hi : ops[i]? = some oi) (hj : ops[j]? = some oj) (hok : okB ops oi oj = true) {ρ : Nat → AV} {S : Store} {C : (Nat → AV) → Store → Prop}
    (h : T P ops n cv i ρ S (fun ρ' S' => T P ops n cv j ρ' S' C)) : T P ops n cv j ρ S (fun ρ' S' => T P ops n cv i ρ' S' C) := by
  unfold okB at hok
  simp only [Bool.and_eq_true] at hok
  obtain ⟨⟨hq, hap⟩, hls⟩ := hok
  obtain ⟨h1, h2, h3⟩ := Oper.apart_spec hap
  unfold T at h ⊢
  rw [hi] at h
  rw [hj]
  dsimp only at h ⊢
  rw [hj] at h
  rw [hi]
  dsimp only at h ⊢
  obtain ⟨v, hv, hagain⟩ := TV_quiet hq h
  have hv := (TV_congr (P := P) (ops := ops) (n := n) (c := cv j) (o := oj) (ρ := ρ) (S := S) (d := oi.dst) (v := v) (fun t ht => h1 t ht)).2 hv
  refine TV_keep ?_ hv
  intro u S2 hk hC
  refine (TV_congr (d := oj.dst) (v := u) (fun t ht => h3 t ht)).1 ?_
  refine hagain S2 _ ?_ ?_
  · intro hl
    refine hk ?_
    rw [hl] at hls
    simpa using hls
  · rw [← upd_comm (fun t ht => h2 t ht)]; exact hC
end
end Go.Sk
