/- Items in a map; sums by key, as they came. -/
import Derived.Test.YtciaccjambdmkaaW13b
set_option linter.unusedSimpArgs false
set_option linter.unusedVariables false
set_option linter.unusedSectionVars false
namespace Go.Sk
open Go Go.Proofs

/-! Items in a map. -/
def mpF : Nat → List Item → List (Nat × Int × AV)
  | _, [] => []
  | i, x :: r => (i, (x.k : Int), u64 x.n) :: mpF (i + 1) r
theorem mpF_len : ∀ (l : List Item) (i : Nat), (mpF i l).length = l.length := by
  intro l; induction l with
  | nil => intro i; rfl
  | cons x r ih => intro i; simp [mpF, ih]
theorem mpF_app : ∀ (l m : List Item) (i : Nat), mpF i (l ++ m) = mpF i l ++ mpF (i + l.length) m := by
  intro l; induction l with
  | nil => intro m i; simp [mpF]
  | cons x r ih => intro m i; simp only [List.cons_append, mpF, ih, List.length_cons]; congr 3; omega
def getK (k : Nat) : List Item → Option Nat
  | [] => none
  | x :: r => if x.k = k then some x.n else getK k r
def setIn (k v : Nat) : List Item → List Item
  | [] => []
  | x :: r => if x.k = k then ⟨x.k, v⟩ :: r else x :: setIn k v r
def setK (k v : Nat) (l : List Item) : List Item := if (getK k l).isSome then setIn k v l else l ++ [⟨k, v⟩]
theorem mget_mpF (k : Nat) : ∀ (l : List Item) (i : Nat), mget (k : Int) (mpF i l) = (getK k l).map (fun n => u64 n) := by
  intro l; induction l with
  | nil => intro i; rfl
  | cons x r ih =>
    intro i
    simp only [mpF, mget, getK]
    by_cases h : x.k = k
    · simp [h]
    · rw [if_neg (by omega), if_neg h]; exact ih _
theorem mset_mpF (k v : Nat) : ∀ (l : List Item) (i : Nat), mset (k : Int) (u64 v) (mpF i l) = mpF i (setIn k v l) := by
  intro l; induction l with
  | nil => intro i; rfl
  | cons x r ih =>
    intro i
    simp only [mpF, mset, setIn]
    by_cases h : x.k = k
    · simp [h, mpF]
    · rw [if_neg (by omega), if_neg h, mpF, ih]
theorem setIn_len (k v : Nat) : ∀ l : List Item, (setIn k v l).length = l.length := by
  intro l; induction l with
  | nil => rfl
  | cons x r ih => simp only [setIn]; split <;> simp [ih]
theorem mput_mpF (k v : Nat) (l : List Item) : mput (k : Int) (u64 v) l.length (mpF 0 l) = mpF 0 (setK k v l) := by
  unfold mput setK
  rw [mget_mpF]
  cases h : getK k l with
  | none => simp only [Option.map_none, Option.isSome_none, Bool.false_eq_true, if_false]; rw [mpF_app]; simp [mpF]
  | some n => simp only [Option.map_some, Option.isSome_some, if_true]; exact mset_mpF _ _ _ _
theorem mclk_mpF (k v : Nat) (l : List Item) : mclk (k : Int) l.length (mpF 0 l) = (setK k v l).length := by
  unfold mclk setK
  rw [mget_mpF]
  cases h : getK k l with
  | none => simp
  | some n => simp [setIn_len]
theorem mem_mpF : ∀ (l : List Item) (i : Nat) (e : Nat × Int × AV), e ∈ mpF i l → i ≤ e.1 ∧ e.1 < i + l.length ∧ ∃ h : e.1 - i < l.length, e.2.1 = ((l[e.1 - i]).k : Int) ∧ e.2.2 = u64 (l[e.1 - i]).n := by
  intro l; induction l with
  | nil => intro i e h; simp [mpF] at h
  | cons x r ih =>
    intro i e h
    simp only [mpF, List.mem_cons] at h
    rcases h with rfl | h
    · simp
    · obtain ⟨h1, h2, h3, h4, h5⟩ := ih _ _ h
      obtain ⟨d, hd⟩ : ∃ d, e.1 = i + 1 + d := ⟨e.1 - (i + 1), by omega⟩
      have e1 : e.1 - (i + 1) = d := by omega
      have e2 : e.1 - i = d + 1 := by omega
      simp only [e1] at h3 h4 h5
      refine ⟨by omega, by simp; omega, ?_⟩
      simp only [e2, List.length_cons, List.getElem_cons_succ]
      exact ⟨by omega, h4, h5⟩
theorem mfind_mpF : ∀ (l : List Item) (i j : Nat) (h : j < l.length), mfind (i + j) (mpF i l) = some (((l[j]).k : Int), u64 (l[j]).n) := by
  intro l; induction l with
  | nil => intro i j h; simp at h
  | cons x r ih =>
    intro i j h
    cases j with
    | zero => simp [mpF, mfind]
    | succ j =>
      simp only [mpF, mfind]
      rw [if_neg (by omega), show i + (j + 1) = i + 1 + j from by omega, ih (i + 1) j (by simpa using h)]
      simp

/-- The sums, by key, as they came. -/
noncomputable def sumsV (l : List Event) (lo hi : Nat) : List Item := l.foldl (fun acc e => if lo ≤ e.t ∧ e.t ≤ hi then setK e.k (m64 ((getK e.k acc).getD 0 + e.w)) acc else acc) []
theorem sumsV_snoc (l : List Event) (lo hi i : Nat) (h : i < l.length) : sumsV (l.take (i + 1)) lo hi =
    if lo ≤ l[i].t ∧ l[i].t ≤ hi then setK l[i].k (m64 ((getK l[i].k (sumsV (l.take i) lo hi)).getD 0 + l[i].w)) (sumsV (l.take i) lo hi) else sumsV (l.take i) lo hi := by
  unfold sumsV; rw [List.take_succ_eq_append_getElem h, List.foldl_append]; rfl

theorem setK_len (k v : Nat) (l : List Item) : (setK k v l).length ≤ l.length + 1 := by
  unfold setK; split
  · rw [setIn_len]; omega
  · simp
theorem sumsV_len (l : List Event) (lo hi : Nat) : (sumsV l lo hi).length ≤ l.length := by
  have : ∀ i, i ≤ l.length → (sumsV (l.take i) lo hi).length ≤ i := by
    intro i
    induction i with
    | zero => intro _; simp [sumsV]
    | succ i ih =>
      intro h
      rw [sumsV_snoc _ _ _ _ h]
      split
      · have := ih (by omega); have := setK_len l[i].k (m64 ((getK l[i].k (sumsV (l.take i) lo hi)).getD 0 + l[i].w)) (sumsV (l.take i) lo hi); omega
      · have := ih (by omega); omega
  have := this l.length (Nat.le_refl _)
  rwa [List.take_length] at this

/-- The result: the items, by key. -/
def Rising (l : List Item) : Prop := ∀ i j, i < j → j < l.length → (l[i]!).k ≤ (l[j]!).k
end Go.Sk
