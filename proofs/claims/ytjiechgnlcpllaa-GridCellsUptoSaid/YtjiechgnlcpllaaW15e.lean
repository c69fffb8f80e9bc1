/- Walks: copies of grids; one change. -/
import Derived.Test.YtjiechgnlcpllaaA15
import Derived.Test.YtjiechgnlcpllaaW6d
import Derived.Test.YtjiechgnlcpllaaW6b
set_option linter.unusedSimpArgs false
set_option linter.unusedVariables false
set_option linter.unusedSectionVars false
namespace Go.Sk
open Go Go.Proofs

noncomputable def addH (h : Hist) (t w : Nat) : Hist × Int := addV h.k.toNat h.g h.ls t w
structure Hist.Ok (h : Hist) : Prop where
  k0 : 0 ≤ h.k
  k1 : h.k < 1073741824
  ls : h.ls.length < 1073741824
  ll : ∀ l ∈ h.ls, l.length < 1073741824
  tot : totN 0 h.ls ≤ 4503599627370496
theorem hist_addH (h : Hist) (ok : h.Ok) (t w : Nat) (hw : w < 18446744073709551616) : Pure Try.prog 63 [h.av, u64 t, u64 w] (.tuple [(addH h t w).1.av, i64 (addH h t w).2]) := by
  obtain ⟨k, g, ls⟩ := h
  obtain ⟨h1, h2, h3, h4, h5⟩ := ok
  dsimp only at h1 h2 h3 h4 h5
  obtain ⟨k, rfl⟩ : ∃ k' : Nat, k = k' := ⟨k.toNat, by omega⟩
  have := hist_Add k g ls t w (by omega) hw h3 h4 h5
  unfold addH; simpa using this
theorem ref06_addH (h : Hist) (ok : h.Ok) (t w : Nat) (hw : w < 18446744073709551616) : Pure Try.prog 45 [h.av, u64 t, u64 w] (.tuple [(addH h t w).1.av, i64 (addH h t w).2]) := by
  obtain ⟨k, g, ls⟩ := h
  obtain ⟨h1, h2, h3, h4, h5⟩ := ok
  dsimp only at h1 h2 h3 h4 h5
  obtain ⟨k, rfl⟩ : ∃ k' : Nat, k = k' := ⟨k.toNat, by omega⟩
  have := ref06_Add k g ls t w (by omega) hw h3 h4 h5
  unfold addH; simpa using this

def gridM (g : Grid) (bo n : Nat) : List AV := [i64 g.w, .p (.sl (g.sd.map Seed.pv)), .ms bo 1 0 n n, i64 g.all.k, i64 g.all.g, .p (.sl (g.all.ls.map lvE))]
set_option maxHeartbeats 1000000 in
theorem copied (g : Grid) (w : Nat) (hw : 1 ≤ w) (hw2 : w < 1048576) (hn : g.rows.length < 1048576) (hsd : g.sd.length < 1048576) (hr : ∀ r ∈ g.rows, r.length = w) (S : Store) :
    CallR Try.prog 41 [g.av] S (fun r S' => ∃ bo rb, r = .agg (gridM g bo g.rows.length) ∧ Rows S bo w rb g.rows 0 S') := by
  refine callR_of Try.func41 rfl rfl (xc_ok (bitB 30783) _ _ _ ?_)
  simp only [go_sem, decide_true, decide_false, Nat.lt_irrefl]
  refine alloc_intro fun c1 h1 => ?_
  simp only [go_sem, decide_true, decide_false, Nat.lt_irrefl]
  refine alloc_intro fun c2 h2 => ?_
  simp only [fresh_set] at h2
  simp only [go_sem, decide_true, decide_false, Nat.lt_irrefl, h2, List.length_map]
  refine ⟨by clear h2; omega, by clear h2; omega, make_intro fun bo hbo => ?_⟩
  simp only [fresh_set] at hbo
  simp only [go_sem, decide_true, decide_false, Nat.lt_irrefl, h2, hbo]
  have k1 : (((S.set (.r c1) (.cells [i64 g.w, .p (.sl (g.sd.map Seed.pv)), .p (.sl (g.rows.map rowE)), i64 g.all.k, i64 g.all.g, .p (.sl (g.all.ls.map lvE))])).set (.r c2) (.cells [i64 0, .nils, .nils, i64 0, i64 0, .nils])) (.r c1)) = some (.cells [i64 g.w, .p (.sl (g.sd.map Seed.pv)), .p (.sl (g.rows.map rowE)), i64 g.all.k, i64 g.all.g, .p (.sl (g.all.ls.map lvE))]) := by simp only [go_sem, decide_true, decide_false, Nat.lt_irrefl, h2]
  have k2 : (((S.set (.r c1) (.cells [i64 g.w, .p (.sl (g.sd.map Seed.pv)), .p (.sl (g.rows.map rowE)), i64 g.all.k, i64 g.all.g, .p (.sl (g.all.ls.map lvE))])).set (.r c2) (.cells [i64 0, .nils, .nils, i64 0, i64 0, .nils])) (.r c2)) = some (.cells [i64 0, .nils, .nils, i64 0, i64 0, .nils]) := by simp only [go_sem, decide_true, decide_false, Nat.lt_irrefl, h2]
  have hS1 : Sub S ((S.set (.r c1) (.cells [i64 g.w, .p (.sl (g.sd.map Seed.pv)), .p (.sl (g.rows.map rowE)), i64 g.all.k, i64 g.all.g, .p (.sl (g.all.ls.map lvE))])).set (.r c2) (.cells [i64 0, .nils, .nils, i64 0, i64 0, .nils])) := Sub.set (Sub.set (Sub.refl _) h1 _) h2.2 _
  have kbo : ((S.set (.r c1) (.cells [i64 g.w, .p (.sl (g.sd.map Seed.pv)), .p (.sl (g.rows.map rowE)), i64 g.all.k, i64 g.all.g, .p (.sl (g.all.ls.map lvE))])).set (.r c2) (.cells [i64 0, .nils, .nils, i64 0, i64 0, .nils])) (.r bo) = none := by
    have := hbo.2.2
    simp [Store.set, hbo.1, hbo.2.1]; exact this
  generalize (S.set (.r c1) (.cells [i64 g.w, .p (.sl (g.sd.map Seed.pv)), .p (.sl (g.rows.map rowE)), i64 g.all.k, i64 g.all.g, .p (.sl (g.all.ls.map lvE))])).set (.r c2) (.cells [i64 0, .nils, .nils, i64 0, i64 0, .nils]) = S1 at *
  refine AWP.roam (ι := Nat × List (Nat × Nat) × Store) (fun y => y.1 ≤ g.rows.length ∧ y.2.1.length = y.1 ∧ Rows S1 bo w y.2.1 (g.rows.take y.1) (g.rows.length - y.1) y.2.2)
    (fun y => ⟨Env.get [(1, .sp c1 0), (2, .sp c2 0), (3, .ms bo 1 0 g.rows.length g.rows.length), (11, .p (.sl (g.rows.map rowE))), (12, i64 g.rows.length), (13, i64 y.1)], y.2.2, 31, []⟩) (fun y => g.rows.length - y.1) (0, [], S1.set (.r bo) (.cells (zcs [.nils] g.rows.length))) ⟨Nat.zero_le _, rfl, by rw [List.take_zero]; exact Rows.start kbo⟩ ?_ ?_
  · exact le_of (by simp only [go_sem, decide_true, decide_false, Nat.lt_irrefl] <;> rfl) (Sub.refl _) rfl rfl (by simp)
  · rintro ⟨i, rb, U⟩ ⟨hi, hl, hR⟩ ih
    dsimp only at hi hl hR ⊢
    refine AWPH.step (xc_ok (bitB 30783) _ _ _ ?_)
    by_cases c : i < g.rows.length
    rotate_left
    · obtain rfl : i = g.rows.length := by clear h2 hbo; omega
      have u1 := hR.sub _ _ k1
      have u2 := hR.sub _ _ k2
      rw [Nat.sub_self, List.take_length] at hR
      simp only [go_sem, decide_true, decide_false, Nat.lt_irrefl, u1, u2]
      refine (clone_seeds g.sd (by clear h2 hbo; omega)).useA ?_
      simp only [go_sem, decide_true, decide_false, Nat.lt_irrefl, u1, u2, h2]
      have f1 : S (.r c1) = none := h1
      have f2 : S (.r c2) = none := h2.2
      have hne : Key.r c2 ≠ .r c1 := rkey_ne h2.1.1
      exact ⟨_, Sub.refl _, Or.inl ⟨bo, rb, rfl, Rows.base ((hR.known k1 _).known ((Store.set_other _ _ hne).trans k2) _) (Sub.set (Sub.set hS1 f1 _) f2 _)⟩⟩
    have hri : g.rows[i].length = w := hr _ (List.getElem_mem c)
    obtain ⟨q, hq⟩ : ∃ q, g.rows.length - i = q + 1 := ⟨g.rows.length - i - 1, by clear h2 hbo; omega⟩
    rw [hq] at hR
    have ub := hR.outer
    simp only [go_sem, decide_true, decide_false, Nat.lt_irrefl, c, ltN' c, getD_map' _ _ _ _ c, rowE_mk]
    refine (clone_row g.rows[i] (by intro e; rw [e] at hri; simp at hri; omega) (by clear h2 hbo; omega) U).useA ?_
    rintro _ _ ⟨b, cc, hb, hc, rfl, rfl⟩
    have nb : ¬ bo = b ∧ ¬ b = bo := by constructor <;> rintro rfl <;> (rw [show U (.r _) = none from hb] at ub; cases ub)
    simp only [go_sem, decide_true, decide_false, Nat.lt_irrefl, ltN' c, nb, ub]
    refine ⟨by rw [List.length_append, List.length_map, zcs_length, hl]; simp, ?_⟩
    rw [next_cells (by rw [List.length_map, hl])]
    have hR2 := hR.grow (b := b) (c := cc) hb hri (hri ▸ hc)
    unfold rowB at hR2
    rw [← List.take_succ_eq_append_getElem c, show q = g.rows.length - (i + 1) by clear h2 hbo nb; omega] at hR2
    rw [hri] at *
    refine (ih (i + 1, rb ++ [(b, cc)], _) ⟨c, by simp [hl], hR2⟩ (by dsimp only; clear h2 hbo nb; omega)).back ?_ (by simp) ?_
    · dsimp only
      rw [show g.rows.length - (i + 1) = q by clear h2 hbo nb; omega]
      exact Sub.refl _
    · simp only [go_sem, decide_true, decide_false, Nat.lt_irrefl, wi_succ (show i < 4611686018427387904 by clear h2 hbo nb; omega)]
end Go.Sk
