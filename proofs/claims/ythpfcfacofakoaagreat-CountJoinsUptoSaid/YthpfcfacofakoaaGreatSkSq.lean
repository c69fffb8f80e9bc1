/- A walk that stops between two parts of the code. -/
import Derived.Test.YthpfcfacofakoaaGreatSkW
set_option linter.unusedSimpArgs false
set_option linter.unusedVariables false
set_option linter.unusedSectionVars false
namespace Go.Sk
open Go
theorem AWP.seqA {P : Program} {ro : Option Nat} {x y : Code} {Q : Ex → St → Prop} {s : St} (h : AWP P ro x (thenQ (AWP P ro y Q) Q) s) : AWP P ro (.seq x y) Q s := by
  intro D w a hs
  refine WP.seq (WP.mono (h D w a hs) ?_)
  rintro e a1 w1 ⟨s1, D1, hQ, h1, hE⟩
  cases e with
  | normal => exact WP.mono (hQ D1 w1 a1 h1) (fun e a' w' h => Post.trans hE h)
  | exit id => exact ⟨s1, D1, hQ, h1, hE⟩
  | goto l => exact ⟨s1, D1, hQ, h1, hE⟩
  | ret => exact ⟨s1, D1, hQ, h1, hE⟩
theorem AWP.blockA {P : Program} {ro : Option Nat} {i : Nat} {c : Code} {Q : Ex → St → Prop} {s : St} (h : AWP P ro c (blockQ i Q) s) : AWP P ro (.block i c) Q s := by
  intro D w a hs
  refine WP.block (WP.mono (h D w a hs) ?_)
  rintro e a1 w1 ⟨s1, D1, hQ, h1, hE⟩
  cases e with
  | exit i =>
    simp only [blockQ] at hQ
    simp only [Ex.inBlock]
    split
    · rename_i e; rw [if_pos e] at hQ; exact ⟨s1, D1, hQ, h1, hE⟩
    · rename_i e; rw [if_neg e] at hQ; exact ⟨s1, D1, hQ, h1, hE⟩
  | normal => exact ⟨s1, D1, hQ, h1, hE⟩
  | goto l => exact ⟨s1, D1, hQ, h1, hE⟩
  | ret => exact ⟨s1, D1, hQ, h1, hE⟩
theorem StFz.env {ρ : Nat → AV} {ρ' : Env} {S S' : Store} {n : Nat} {df : List Nat} {b m : Nat} {cs : List AV} (hb : S (.r b) = some (.cells cs)) (hm : m ≤ cs.length) (hS : ∀ k y, S' k = some y → k ≠ .r b ∧ fzB b m cs (S k) y)
    (hρ : fzE b m cs ρ' ρ) (hdf : ∀ r ∈ df, S' (.r r) = some (.raw (.deferred (some [])) noKn)) : StFz ⟨ρ, S, n, df⟩ ⟨ρ'.get, S', n, df⟩ :=
  StFz.freeze hb hm hS (fzE_get hρ) hdf
end Go.Sk
