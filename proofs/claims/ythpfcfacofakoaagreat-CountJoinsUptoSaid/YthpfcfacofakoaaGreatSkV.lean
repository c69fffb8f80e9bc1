/- Loops by their heads: one round unrolled. -/
import Derived.Test.YthpfcfacofakoaaGreatSkU
set_option linter.unusedSimpArgs false
set_option linter.unusedVariables false
set_option linter.unusedSectionVars false
namespace Go.Sk
open Go

/-- At a loop's head. -/
def AWPH (P : Program) (ro : Option Nat) (c : Code) (Q : Ex → St → Prop) (s : St) : Prop :=
  ∀ D w a, RelSt s D w a → ∀ (b : Frame) (k : List Item) (cs : List Frame), b.roundOf = ro →
    ∃ e a' w', Post s D w (Q e) a' w' ∧ Arr P (lone (aR b a (.code c :: .inLoop c :: k)) cs w) b k cs e a' w'

theorem AWP.head {P : Program} {ro : Option Nat} {c : Code} {Q : Ex → St → Prop} {s : St} (h : AWPH P ro c Q s) : AWP P ro (.loop c) Q s := by
  intro D w a hs b k cs hr
  obtain ⟨e, a', w', hq, harr⟩ := h D w a hs b k cs hr
  exact ⟨e, a', w', hq, .of_steps (.one stepR_loop) harr⟩

theorem AWPH.step {P : Program} {ro : Option Nat} {c : Code} {Q : Ex → St → Prop} {s : St} (h : AWP P ro c (thenQ (AWPH P ro c Q) Q) s) : AWPH P ro c Q s := by
  intro D w a hs b k cs hr
  obtain ⟨e, a₁, w₁, ⟨s1, D1, hq, h1, hE⟩, harr⟩ := h D w a hs b (.inLoop c :: k) cs hr
  cases e with
  | normal =>
    obtain ⟨e₂, a₂, w₂, hq₂, harr₂⟩ := hq D1 w₁ a₁ h1 b k cs hr
    exact ⟨e₂, a₂, w₂, Post.trans hE hq₂, .of_steps (Steps.trans harr (.one stepR_inLoop)) harr₂⟩
  | exit id => exact ⟨_, a₁, w₁, ⟨s1, D1, hq, h1, hE⟩, .pass (x := .inLoop c) rfl (by simp) harr⟩
  | goto l => exact ⟨_, a₁, w₁, ⟨s1, D1, hq, h1, hE⟩, .pass (x := .inLoop c) rfl (by simp) harr⟩
  | ret => exact ⟨_, a₁, w₁, ⟨s1, D1, hq, h1, hE⟩, .pass (x := .inLoop c) rfl (by simp) harr⟩

theorem AWPH.of_le {P : Program} {ro : Option Nat} {c : Code} {Q : Ex → St → Prop} {s t : St} (h : AWPH P ro c Q t) (l : s.le t) : AWPH P ro c Q s := by
  intro D w a hs b k cs hr
  obtain ⟨e, a', w', ⟨s', D', h1, h2, h3⟩, harr⟩ := h D w a (hs.le l) b k cs hr
  exact ⟨e, a', w', ⟨s', D', h1, h2, h3.toLater, fun b hb hn => h3.foreign b hb (fun ho => hn (Owned.forget ho l.S)), fun b hb hn => h3.fresh b hb (fun ho => hn (Owned.forget ho l.S))⟩, harr⟩

theorem AWPH.mono {P : Program} {ro : Option Nat} {c : Code} {Q Q' : Ex → St → Prop} {s : St} (h : AWPH P ro c Q s) (hq : ∀ e s, Q e s → Q' e s) : AWPH P ro c Q' s :=
  fun D w a hs b k cs hr => let ⟨e, a', w', hp, harr⟩ := h D w a hs b k cs hr; ⟨e, a', w', Post.mono hp (hq e), harr⟩

/-- At a loop's head, with less known: the slots and blocks that are named. -/
theorem AWPH.at {P : Program} {ro : Option Nat} {c : Code} {Q : Ex → St → Prop} {σ : Nat → AV} {S : Store} {n : Nat} {df : List Nat} (ρ : Env) (S' : Store) (h : AWPH P ro c Q ⟨ρ.get, S', n, df⟩)
    (h1 : subEnv ρ σ) (h2 : Sub S' S) (h3 : ∀ r ∈ df, S' (.r r) = some (.raw (.deferred (some [])) noKn)) : AWPH P ro c Q ⟨σ, S, n, df⟩ :=
  h.of_le (le_of h1 h2 rfl rfl h3)

/-- Round by round: where each one ends, the next begins. -/
theorem AWPH.iter {P : Program} {ro : Option Nat} {c : Code} {Q : Ex → St → Prop} {s : St} (st : Nat → St) (n : Nat) (h0 : s.le (st 0))
    (round : ∀ i, i < n → AWPH P ro c Q (st (i + 1)) → AWPH P ro c Q (st i)) (last : AWPH P ro c Q (st n)) : AWPH P ro c Q s := by
  have key : ∀ k, k ≤ n → AWPH P ro c Q (st (n - k)) := by
    intro k
    induction k with
    | zero => intro _; exact last
    | succ k ih =>
      intro hk
      have := round (n - (k + 1)) (by omega) (by rw [show n - (k + 1) + 1 = n - k from by omega]; exact ih (by omega))
      exact this
  have := key n (Nat.le_refl _)
  rw [Nat.sub_self] at this
  exact this.of_le h0
theorem AWP.iter {P : Program} {ro : Option Nat} {c : Code} {Q : Ex → St → Prop} {s : St} (st : Nat → St) (n : Nat) (h0 : s.le (st 0))
    (round : ∀ i, i < n → AWPH P ro c Q (st (i + 1)) → AWPH P ro c Q (st i)) (last : AWPH P ro c Q (st n)) : AWP P ro (.loop c) Q s :=
  AWP.head (AWPH.iter st n h0 round last)
/-- Round by round, where it isn't known which comes next. -/
theorem AWP.roam {P : Program} {ro : Option Nat} {c : Code} {Q : Ex → St → Prop} {s : St} {ι : Type} (inv : ι → Prop) (st : ι → St) (μ : ι → Nat) (i0 : ι) (hi : inv i0) (h0 : s.le (st i0))
    (round : ∀ i, inv i → (∀ j, inv j → μ j < μ i → AWPH P ro c Q (st j)) → AWPH P ro c Q (st i)) : AWP P ro (.loop c) Q s := by
  have key : ∀ n i, inv i → μ i = n → AWPH P ro c Q (st i) := by
    intro n
    induction n using Nat.strongRecOn with
    | _ n ih => exact fun i hi hn => round i hi fun j hj hlt => ih (μ j) (hn ▸ hlt) j hj rfl
  exact AWP.head ((key _ i0 hi rfl).of_le h0)
theorem AWPH.roam {P : Program} {ro : Option Nat} {c : Code} {Q : Ex → St → Prop} {s : St} {ι : Type} (inv : ι → Prop) (st : ι → St) (μ : ι → Nat) (i0 : ι) (hi : inv i0) (h0 : s.le (st i0))
    (round : ∀ i, inv i → (∀ j, inv j → μ j < μ i → AWPH P ro c Q (st j)) → AWPH P ro c Q (st i)) : AWPH P ro c Q s := by
  have key : ∀ n i, inv i → μ i = n → AWPH P ro c Q (st i) := by
    intro n
    induction n using Nat.strongRecOn with
    | _ n ih => exact fun i hi hn => round i hi fun j hj hlt => ih (μ j) (hn ▸ hlt) j hj rfl
  exact (key _ i0 hi rfl).of_le h0
theorem ltN' {i n : Nat} (h : i < n) : (i : Int) < (n : Int) := by omega
end Go.Sk
