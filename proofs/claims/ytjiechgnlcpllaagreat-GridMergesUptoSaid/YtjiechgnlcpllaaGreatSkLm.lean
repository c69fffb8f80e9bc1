/- Maps: the rules of a walk. -/
import Derived.Test.YtjiechgnlcpllaaGreatSkL
set_option linter.unusedSimpArgs false
set_option linter.unusedVariables false
set_option linter.unusedSectionVars false
namespace Go.Sk
open Go

/-! Stops. -/
def MapP (kd : IntKind) (S : Store) (C : AV → Store → Prop) : Prop := ∀ b, S (.r b) = none → C (.map b) (S.set (.r b) (.mp kd [] 0))
theorem map_intro {kd : IntKind} {S : Store} {C : AV → Store → Prop} (h : ∀ b, Fresh S b → C (.map b) (S.set (.r b) (.mp kd [] 0))) : MapP kd S C := h
def NextP (r m since : Nat) (seen : Array Nat) (last : Nat) (kd : IntKind) (es : List (Nat × Int × AV)) (clk : Nat) (S : Store) (C : AV → Store → Prop) : Prop :=
  mfine since last seen es ∧ (mleft seen es = [] → C (.tuple [.p (.bool false)]) S) ∧
    ∀ e ∈ mleft seen es, C (.tuple [.p (.bool true), .p (.int kd e.2.1), e.2.2]) (S.set (.r r) (.raw (.mapIter (some m) since (seen.push e.1) clk) noKn))
theorem next_intro {r m since : Nat} {seen : Array Nat} {last : Nat} {kd : IntKind} {es : List (Nat × Int × AV)} {clk : Nat} {S : Store} {C : AV → Store → Prop}
    (h : mfine since last seen es) (h0 : mleft seen es = [] → C (.tuple [.p (.bool false)]) S)
    (h1 : ∀ e ∈ mleft seen es, C (.tuple [.p (.bool true), .p (.int kd e.2.1), e.2.2]) (S.set (.r r) (.raw (.mapIter (some m) since (seen.push e.1) clk) noKn))) :
    NextP r m since seen last kd es clk S C := ⟨h, h0, h1⟩
def EntryP (seen : Array Nat) (st : Nat) (kd : IntKind) (es : List (Nat × Int × AV)) (clk : Nat) (K : AV → Prop) : Prop :=
  match seen.back? with
  | some b => clk = st ∧ match mfind b es with
    | some (n, x) => K (.tuple [.p (.int kd n), x])
    | none => False
  | none => False
theorem entry_intro {seen : Array Nat} {st : Nat} {kd : IntKind} {es : List (Nat × Int × AV)} {clk : Nat} {K : AV → Prop} {b : Nat} {n : Int} {x : AV}
    (h1 : seen.back? = some b) (h2 : clk = st) (h3 : mfind b es = some (n, x)) (h : K (.tuple [.p (.int kd n), x])) : EntryP seen st kd es clk K := by
  unfold EntryP; rw [h1]; dsimp only; rw [h3]; exact ⟨h2, h⟩

/-! What goes on. -/
def miK (x : Option (IntKind × AV)) (K : IntKind → AV → Prop) : Prop := match x with | some (kd, z) => K kd z | none => False
def mpK (x : Option Blk) (K : IntKind → List (Nat × Int × AV) → Nat → Prop) : Prop := match x with | some (.mp kd es clk) => K kd es clk | _ => False
def itK (x : Option Blk) (K : Nat → Nat → Array Nat → Nat → Prop) : Prop := match x with | some (.raw (.mapIter (some m) since seen last) kn) => kn = noKn ∧ K m since seen last | _ => False
theorem miK_some (kd : IntKind) (z : AV) (K : IntKind → AV → Prop) : miK (some (kd, z)) K = K kd z := (rfl)
theorem mpK_some (kd : IntKind) (es : List (Nat × Int × AV)) (clk : Nat) (K : IntKind → List (Nat × Int × AV) → Nat → Prop) : mpK (some (.mp kd es clk)) K = K kd es clk := (rfl)
theorem itK_some (m since : Nat) (seen : Array Nat) (last : Nat) (K : Nat → Nat → Array Nat → Nat → Prop) : itK (some (.raw (.mapIter (some m) since seen last) noKn)) K = K m since seen last := by simp [itK]
@[congr] theorem miK_congr {x x' : Option (IntKind × AV)} {K : IntKind → AV → Prop} (h : x = x') : miK x K = miK x' K := by rw [h]
@[congr] theorem mpK_congr {x x' : Option Blk} {K : IntKind → List (Nat × Int × AV) → Nat → Prop} (h : x = x') : mpK x K = mpK x' K := by rw [h]
@[congr] theorem itK_congr {x x' : Option Blk} {K : Nat → Nat → Array Nat → Nat → Prop} (h : x = x') : itK x K = itK x' K := by rw [h]

section
variable {P : Program} {S : Store} {C : AV → Store → Prop}
theorem xE_makeMap {ρ : Env} {n : Nat} {df : List Nat} (t : TypeId) : xE P (.makeMap t none) ⟨ρ.get, S, n, df⟩ C = xmakeMap P t S C := (rfl)
theorem xE_lookup {ρ : Env} {n : Nat} {df : List Nat} (t : TypeId) (x k : Operand) (ok : Bool) : xE P (.lookup t x k ok) ⟨ρ.get, S, n, df⟩ C = xlookup P t S (ev ⟨ρ.get, S, n, df⟩ x) (ev ⟨ρ.get, S, n, df⟩ k) ok (kS C S) := (rfl)
theorem xE_mapUpdate {ρ : Env} {n : Nat} {df : List Nat} (t : TypeId) (x k y : Operand) : xE P (.mapUpdate t x k y) ⟨ρ.get, S, n, df⟩ C = xmapUpdate P t S (ev ⟨ρ.get, S, n, df⟩ x) (ev ⟨ρ.get, S, n, df⟩ k) (ev ⟨ρ.get, S, n, df⟩ y) (kStore C) := (rfl)
theorem xE_rangeM {ρ : Env} {n : Nat} {df : List Nat} (t : TypeId) (x : Operand) : xE P (.range t x) ⟨ρ.get, S, n, df⟩ C = xrange P t S (ev ⟨ρ.get, S, n, df⟩ x) C := (rfl)
theorem xE_next {ρ : Env} {n : Nat} {df : List Nat} (x : Operand) : xE P (.next x false) ⟨ρ.get, S, n, df⟩ C = xnext S (ev ⟨ρ.get, S, n, df⟩ x) C := (rfl)
theorem xE_entry {ρ : Env} {n : Nat} {df : List Nat} (x : Operand) : xE P (.entry x) ⟨ρ.get, S, n, df⟩ C = xentry S (ev ⟨ρ.get, S, n, df⟩ x) (kS C S) := (rfl)
def kMm (S : Store) (C : AV → Store → Prop) : IntKind → AV → Prop := fun kd _ => MapP kd S C
theorem kMm_app (kd : IntKind) (z : AV) : kMm S C kd z = MapP kd S C := (rfl)
theorem xmakeMap_eq (t : TypeId) : xmakeMap P t S C = miK (MI P t) (kMm S C) := by
  unfold xmakeMap miK kMm MapP; cases MI P t <;> rfl
def kLk2 (kd kd' : IntKind) (z : AV) (n : Int) (ok : Bool) (K : AV → Prop) : IntKind → List (Nat × Int × AV) → Nat → Prop := fun kd'' es _ =>
  kd' = kd ∧ kd'' = kd ∧ K (if ok then .tuple [(mget n es).getD z, .p (.bool (mget n es).isSome)] else (mget n es).getD z)
def kLk1 (S : Store) (b : Nat) (kd' : IntKind) (n : Int) (ok : Bool) (K : AV → Prop) : IntKind → AV → Prop := fun kd z => mpK (S (.r b)) (kLk2 kd kd' z n ok K)
theorem kLk2_f (kd kd' kd'' : IntKind) (z : AV) (n : Int) (K : AV → Prop) (es : List (Nat × Int × AV)) (c : Nat) : kLk2 kd kd' z n false K kd'' es c = (kd' = kd ∧ kd'' = kd ∧ K ((mget n es).getD z)) := (rfl)
theorem kLk2_t (kd kd' kd'' : IntKind) (z : AV) (n : Int) (K : AV → Prop) (es : List (Nat × Int × AV)) (c : Nat) : kLk2 kd kd' z n true K kd'' es c = (kd' = kd ∧ kd'' = kd ∧ K (.tuple [(mget n es).getD z, .p (.bool (mget n es).isSome)])) := (rfl)
theorem kLk1_app (b : Nat) (kd' : IntKind) (n : Int) (ok : Bool) (K : AV → Prop) (kd : IntKind) (z : AV) : kLk1 S b kd' n ok K kd z = mpK (S (.r b)) (kLk2 kd kd' z n ok K) := (rfl)
theorem xlookup_eq (t : TypeId) (b : Nat) (kd' : IntKind) (n : Int) (ok : Bool) (K : AV → Prop) : xlookup P t S (.map b) (.p (.int kd' n)) ok K = miK (MI P t) (kLk1 S b kd' n ok K) := by
  unfold xlookup miK kLk1 mpK kLk2
  cases MI P t with
  | none => rfl
  | some v => obtain ⟨kd, z⟩ := v; rfl
def kUp2 (S : Store) (b : Nat) (kd kd' : IntKind) (n : Int) (y : AV) (K : Store → Prop) : IntKind → List (Nat × Int × AV) → Nat → Prop := fun kd'' es clk =>
  kd' = kd ∧ kd'' = kd ∧ K (S.set (.r b) (.mp kd (mput n y clk es) (mclk n clk es)))
def kUp1 (S : Store) (b : Nat) (kd' : IntKind) (n : Int) (y : AV) (K : Store → Prop) : IntKind → AV → Prop := fun kd _ => mpK (S (.r b)) (kUp2 S b kd kd' n y K)
theorem kUp2_app (b : Nat) (kd kd' kd'' : IntKind) (n : Int) (y : AV) (K : Store → Prop) (es : List (Nat × Int × AV)) (clk : Nat) : kUp2 S b kd kd' n y K kd'' es clk = (kd' = kd ∧ kd'' = kd ∧ K (S.set (.r b) (.mp kd (mput n y clk es) (mclk n clk es)))) := (rfl)
theorem kUp1_app (b : Nat) (kd' : IntKind) (n : Int) (y : AV) (K : Store → Prop) (kd : IntKind) (z : AV) : kUp1 S b kd' n y K kd z = mpK (S (.r b)) (kUp2 S b kd kd' n y K) := (rfl)
theorem xmapUpdate_eq (t : TypeId) (b : Nat) (kd' : IntKind) (n : Int) (y : AV) (K : Store → Prop) : xmapUpdate P t S (.map b) (.p (.int kd' n)) y K = miK (MI P t) (kUp1 S b kd' n y K) := by
  unfold xmapUpdate miK kUp1 mpK kUp2
  cases MI P t with
  | none => rfl
  | some v => obtain ⟨kd, z⟩ := v; rfl
def kRg2 (S : Store) (m : Nat) (K : AV → Store → Prop) : IntKind → List (Nat × Int × AV) → Nat → Prop := fun _ _ clk => AllocP (.raw (.mapIter (some m) clk #[] clk) noKn) S K
def kRg1 (S : Store) (m : Nat) (K : AV → Store → Prop) : IntKind → AV → Prop := fun _ _ => mpK (S (.r m)) (kRg2 S m K)
theorem kRg2_app (m : Nat) (K : AV → Store → Prop) (kd : IntKind) (es : List (Nat × Int × AV)) (clk : Nat) : kRg2 S m K kd es clk = AllocP (.raw (.mapIter (some m) clk #[] clk) noKn) S K := (rfl)
theorem kRg1_app (m : Nat) (K : AV → Store → Prop) (kd : IntKind) (z : AV) : kRg1 S m K kd z = mpK (S (.r m)) (kRg2 S m K) := (rfl)
theorem xrange_eq (t : TypeId) (m : Nat) (K : AV → Store → Prop) : xrange P t S (.map m) K = miK (MI P t) (kRg1 S m K) := by
  unfold xrange miK kRg1 mpK kRg2 AllocP
  cases MI P t <;> rfl
def kNx2 (S : Store) (r m since : Nat) (seen : Array Nat) (last : Nat) (K : AV → Store → Prop) : IntKind → List (Nat × Int × AV) → Nat → Prop := fun kd es clk => NextP r m since seen last kd es clk S K
def kNx1 (S : Store) (r : Nat) (K : AV → Store → Prop) : Nat → Nat → Array Nat → Nat → Prop := fun m since seen last => mpK (S (.r m)) (kNx2 S r m since seen last K)
theorem kNx2_app (r m since : Nat) (seen : Array Nat) (last : Nat) (K : AV → Store → Prop) (kd : IntKind) (es : List (Nat × Int × AV)) (clk : Nat) : kNx2 S r m since seen last K kd es clk = NextP r m since seen last kd es clk S K := (rfl)
theorem kNx1_app (r m since : Nat) (seen : Array Nat) (last : Nat) (K : AV → Store → Prop) : kNx1 S r K m since seen last = mpK (S (.r m)) (kNx2 S r m since seen last K) := (rfl)
theorem xnext_eq (r : Nat) (K : AV → Store → Prop) : xnext S (.sp r 0) K = itK (S (.r r)) (kNx1 S r K) := by
  unfold xnext itK kNx1 mpK kNx2 NextP; rfl
def kEn2 (seen : Array Nat) (st : Nat) (K : AV → Prop) : IntKind → List (Nat × Int × AV) → Nat → Prop := fun kd es clk => EntryP seen st kd es clk K
def kEn1 (S : Store) (K : AV → Prop) : Nat → Nat → Array Nat → Nat → Prop := fun m _ seen st => mpK (S (.r m)) (kEn2 seen st K)
theorem kEn2_app (seen : Array Nat) (st : Nat) (K : AV → Prop) (kd : IntKind) (es : List (Nat × Int × AV)) (clk : Nat) : kEn2 seen st K kd es clk = EntryP seen st kd es clk K := (rfl)
theorem kEn1_app (K : AV → Prop) (m since : Nat) (seen : Array Nat) (st : Nat) : kEn1 S K m since seen st = mpK (S (.r m)) (kEn2 seen st K) := (rfl)
theorem xentry_eq (r : Nat) (K : AV → Prop) : xentry S (.sp r 0) K = itK (S (.r r)) (kEn1 S K) := by
  unfold xentry itK kEn1 mpK kEn2 EntryP; rfl
end
attribute [go_sem ↓] miK_some mpK_some itK_some xE_makeMap xE_lookup xE_mapUpdate xE_rangeM xE_next xE_entry kMm_app xmakeMap_eq kLk2_f kLk2_t kLk1_app xlookup_eq kUp2_app kUp1_app xmapUpdate_eq kRg2_app kRg1_app xrange_eq kNx2_app kNx1_app xnext_eq kEn2_app kEn1_app xentry_eq
attribute [go_sem] miK_some mpK_some itK_some xE_makeMap xE_lookup xE_mapUpdate xE_rangeM xE_next xE_entry kMm_app xmakeMap_eq kLk2_f kLk2_t kLk1_app xlookup_eq kUp2_app kUp1_app xmapUpdate_eq kRg2_app kRg1_app xrange_eq kNx2_app kNx1_app xnext_eq kEn2_app kEn1_app xentry_eq
end Go.Sk
