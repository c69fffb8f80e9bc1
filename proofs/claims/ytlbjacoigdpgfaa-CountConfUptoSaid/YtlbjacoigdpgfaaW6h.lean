/- Walks: weight that comes to any histogram. -/
import Derived.Test.YtlbjacoigdpgfaaW6d
import Derived.Test.YtlbjacoigdpgfaaW6b
set_option linter.unusedSimpArgs false
set_option linter.unusedVariables false
set_option linter.unusedSectionVars false
namespace Go.Sk
open Go Go.Proofs

noncomputable def addH (h : Hist) (t w : Nat) : Hist × Int := addV h.k.toNat h.g h.ls t w
structure Hist.Ok (h : Hist) : Prop where
  k0 : 0 ≤ h.k
  k1 : h.k < 1073741824
  ls : h.ls.length < 1073741824
  ll : ∀ l ∈ h.ls, l.length < 1073741824
  tot : totN 0 h.ls ≤ 4503599627370496
theorem hist_addH (h : Hist) (ok : h.Ok) (t w : Nat) (hw : w < 18446744073709551616) : Pure Try.prog 57 [h.av, u64 t, u64 w] (.tuple [(addH h t w).1.av, i64 (addH h t w).2]) := by
  obtain ⟨k, g, ls⟩ := h
  obtain ⟨h1, h2, h3, h4, h5⟩ := ok
  dsimp only at h1 h2 h3 h4 h5
  obtain ⟨k, rfl⟩ : ∃ k' : Nat, k = k' := ⟨k.toNat, by omega⟩
  have := hist_Add k g ls t w (by omega) hw h3 h4 h5
  unfold addH; simpa using this
theorem ref06_addH (h : Hist) (ok : h.Ok) (t w : Nat) (hw : w < 18446744073709551616) : Pure Try.prog 69 [h.av, u64 t, u64 w] (.tuple [(addH h t w).1.av, i64 (addH h t w).2]) := by
  obtain ⟨k, g, ls⟩ := h
  obtain ⟨h1, h2, h3, h4, h5⟩ := ok
  dsimp only at h1 h2 h3 h4 h5
  obtain ⟨k, rfl⟩ : ∃ k' : Nat, k = k' := ⟨k.toNat, by omega⟩
  have := ref06_Add k g ls t w (by omega) hw h3 h4 h5
  unfold addH; simpa using this

end Go.Sk
