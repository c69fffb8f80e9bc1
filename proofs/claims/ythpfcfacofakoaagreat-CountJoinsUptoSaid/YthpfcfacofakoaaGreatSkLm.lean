/- Maps: the rules of a walk. -/
import Derived.Test.YthpfcfacofakoaaGreatSkL
set_option linter.unusedSimpArgs false
set_option linter.unusedVariables false
set_option linter.unusedSectionVars false
namespace Go.Sk
open Go

/-! Stops. -/
def MapP (kd : IntKind) (S : Store) (C : AV → Store → Prop) : Prop := ∀ b, S (.r b) = none → C (.map b) (S.set (.r b) (.mp kd [] 0))
def NextP (r m since : Nat) (seen : Array Nat) (last : Nat) (kd : IntKind) (es : List (Nat × Int × AV)) (clk : Nat) (S : Store) (C : AV → Store → Prop) : Prop :=
  mfine since last seen es ∧ (mleft seen es = [] → C (.tuple [.p (.bool false)]) S) ∧
    ∀ e ∈ mleft seen es, C (.tuple [.p (.bool true), .p (.int kd e.2.1), e.2.2]) (S.set (.r r) (.raw (.mapIter (some m) since (seen.push e.1) clk) noKn))
def EntryP (seen : Array Nat) (st : Nat) (kd : IntKind) (es : List (Nat × Int × AV)) (clk : Nat) (K : AV → Prop) : Prop :=
  match seen.back? with
  | some b => clk = st ∧ match mfind b es with
    | some (n, x) => K (.tuple [.p (.int kd n), x])
    | none => False
  | none => False
/-! What goes on. -/
def miK (x : Option (IntKind × AV)) (K : IntKind → AV → Prop) : Prop := match x with | some (kd, z) => K kd z | none => False
def mpK (x : Option Blk) (K : IntKind → List (Nat × Int × AV) → Nat → Prop) : Prop := match x with | some (.mp kd es clk) => K kd es clk | _ => False
def itK (x : Option Blk) (K : Nat → Nat → Array Nat → Nat → Prop) : Prop := match x with | some (.raw (.mapIter (some m) since seen last) kn) => kn = noKn ∧ K m since seen last | _ => False
@[congr] theorem miK_congr {x x' : Option (IntKind × AV)} {K : IntKind → AV → Prop} (h : x = x') : miK x K = miK x' K := by rw [h]
@[congr] theorem mpK_congr {x x' : Option Blk} {K : IntKind → List (Nat × Int × AV) → Nat → Prop} (h : x = x') : mpK x K = mpK x' K := by rw [h]
@[congr] theorem itK_congr {x x' : Option Blk} {K : Nat → Nat → Array Nat → Nat → Prop} (h : x = x') : itK x K = itK x' K := by rw [h]

section
variable {P : Program} {S : Store} {C : AV → Store → Prop}
def kMm (S : Store) (C : AV → Store → Prop) : IntKind → AV → Prop := fun kd _ => MapP kd S C
def kLk2 (kd kd' : IntKind) (z : AV) (n : Int) (ok : Bool) (K : AV → Prop) : IntKind → List (Nat × Int × AV) → Nat → Prop := fun kd'' es _ =>
  kd' = kd ∧ kd'' = kd ∧ K (if ok then .tuple [(mget n es).getD z, .p (.bool (mget n es).isSome)] else (mget n es).getD z)
def kLk1 (S : Store) (b : Nat) (kd' : IntKind) (n : Int) (ok : Bool) (K : AV → Prop) : IntKind → AV → Prop := fun kd z => mpK (S (.r b)) (kLk2 kd kd' z n ok K)
def kUp2 (S : Store) (b : Nat) (kd kd' : IntKind) (n : Int) (y : AV) (K : Store → Prop) : IntKind → List (Nat × Int × AV) → Nat → Prop := fun kd'' es clk =>
  kd' = kd ∧ kd'' = kd ∧ K (S.set (.r b) (.mp kd (mput n y clk es) (mclk n clk es)))
def kUp1 (S : Store) (b : Nat) (kd' : IntKind) (n : Int) (y : AV) (K : Store → Prop) : IntKind → AV → Prop := fun kd _ => mpK (S (.r b)) (kUp2 S b kd kd' n y K)
def kRg2 (S : Store) (m : Nat) (K : AV → Store → Prop) : IntKind → List (Nat × Int × AV) → Nat → Prop := fun _ _ clk => AllocP (.raw (.mapIter (some m) clk #[] clk) noKn) S K
def kRg1 (S : Store) (m : Nat) (K : AV → Store → Prop) : IntKind → AV → Prop := fun _ _ => mpK (S (.r m)) (kRg2 S m K)
def kNx2 (S : Store) (r m since : Nat) (seen : Array Nat) (last : Nat) (K : AV → Store → Prop) : IntKind → List (Nat × Int × AV) → Nat → Prop := fun kd es clk => NextP r m since seen last kd es clk S K
def kNx1 (S : Store) (r : Nat) (K : AV → Store → Prop) : Nat → Nat → Array Nat → Nat → Prop := fun m since seen last => mpK (S (.r m)) (kNx2 S r m since seen last K)
def kEn2 (seen : Array Nat) (st : Nat) (K : AV → Prop) : IntKind → List (Nat × Int × AV) → Nat → Prop := fun kd es clk => EntryP seen st kd es clk K
def kEn1 (S : Store) (K : AV → Prop) : Nat → Nat → Array Nat → Nat → Prop := fun m _ seen st => mpK (S (.r m)) (kEn2 seen st K)
end
end Go.Sk
