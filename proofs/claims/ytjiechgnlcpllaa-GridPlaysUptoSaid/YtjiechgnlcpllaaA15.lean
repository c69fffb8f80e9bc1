/- Rows of a grid as blocks of their own, and how they become data. -/
import Derived.Test.YtjiechgnlcpllaaW15d
import Derived.Test.YtjiechgnlcpllaaSkRg
set_option linter.unusedSimpArgs false
set_option linter.unusedVariables false
set_option linter.unusedSectionVars false
namespace Go.Sk
open Go Go.Proofs

def rowM (w : Nat) (p : Nat × Nat) : AV := .ms p.1 3 0 w p.2
def rowB (w c : Nat) (r : List Hist) : Blk := .cells (flatA (r.map Hist.cs) ++ List.replicate ((c - w) * 3) .top)
/-- rows: the rows; m: how many places of the outer block are still empty. -/
structure Rows (S0 : Store) (bo w : Nat) (rb : List (Nat × Nat)) (rows : List (List Hist)) (m : Nat) (U : Store) : Prop where
  len : rb.length = rows.length
  wid : ∀ r ∈ rows, r.length = w
  fo : S0 (.r bo) = none
  sub : Sub S0 U
  outer : U (.r bo) = some (.cells (rb.map (rowM w) ++ zcs [.nils] m))
  row : ∀ i (h : i < rb.length), U (.r (rb[i]).1) = some (rowB w (rb[i]).2 (rows.getD i [])) ∧ S0 (.r (rb[i]).1) = none ∧ ¬ (rb[i]).1 = bo ∧ w ≤ (rb[i]).2
  nd : ∀ i j (hi : i < rb.length) (hj : j < rb.length), (rb[i]).1 = (rb[j]).1 → i = j

theorem Rows.start {S : Store} {bo w m : Nat} (h : S (.r bo) = none) : Rows S bo w [] [] m (S.set (.r bo) (.cells (zcs [.nils] m))) :=
  ⟨rfl, fun _ h => (by simp at h), h, Sub.set (Sub.refl _) h _, by rw [Store.set_same]; rfl, fun i h => by simp at h, fun i j h => by simp at h⟩

theorem splice_next (A : List AV) (m : Nat) (x : AV) : splice (A ++ zcs [.nils] (m + 1)) (0 + A.length * 1) [x] = A ++ [x] ++ zcs [.nils] m := by
  have : zcs [AV.nils] (m + 1) = AV.nils :: zcs [AV.nils] m := by unfold zcs; rw [List.replicate_succ]; rfl
  rw [this]
  unfold splice
  simp [List.take_append_of_le_length, List.drop_append]

theorem none_of_sub {S U : Store} {k : Key} (h : Sub S U) (hk : U k = none) : S k = none := by
  cases e : S k with
  | none => rfl
  | some x => have := h _ _ e; rw [hk] at this; cases this
theorem rkey_ne {a b : Nat} (h : ¬ a = b) : ¬ (Key.r a) = .r b := fun e => h (by injection e)

theorem Rows.grow {S0 U : Store} {bo w m : Nat} {rb : List (Nat × Nat)} {rows : List (List Hist)} (h : Rows S0 bo w rb rows (m + 1) U) {b c : Nat} {r : List Hist} (hb : U (.r b) = none) (hr : r.length = w) (hc : w ≤ c) :
    Rows S0 bo w (rb ++ [(b, c)]) (rows ++ [r]) m ((U.set (.r b) (rowB w c r)).set (.r bo) (.cells (rb.map (rowM w) ++ [.ms b 3 0 w c] ++ zcs [.nils] m))) := by
  have nb : ¬ b = bo := by rintro rfl; rw [h.outer] at hb; cases hb
  have n0 : S0 (.r b) = none := none_of_sub h.sub hb
  have nr : ∀ i (hi : i < rb.length), ¬ (rb[i]).1 = b := by rintro i hi rfl; rw [(h.row i hi).1] at hb; cases hb
  refine ⟨by simp [h.len], ?_, h.fo, ?_, ?_, ?_, ?_⟩
  · intro x hx
    rcases List.mem_append.1 hx with hx | hx
    · exact h.wid x hx
    · simp only [List.mem_singleton] at hx; subst hx; exact hr
  · intro k x hk
    have h1 : k ≠ .r b := by rintro rfl; rw [n0] at hk; cases hk
    have h2 : k ≠ .r bo := by rintro rfl; rw [h.fo] at hk; cases hk
    rw [Store.set_other _ _ h2, Store.set_other _ _ h1]; exact h.sub _ _ hk
  · rw [Store.set_same]; simp [rowM]
  · intro i hi
    by_cases c1 : i < rb.length
    · rw [List.getElem_append_left c1]
      obtain ⟨r1, r2, r3, r4⟩ := h.row i c1
      refine ⟨?_, r2, r3, r4⟩
      rw [Store.set_other _ _ (rkey_ne r3), Store.set_other _ _ (rkey_ne (nr i c1)), r1]
      congr 1
      have c2 : i < rows.length := by rw [← h.len]; exact c1
      simp [List.getD_eq_getElem?_getD, List.getElem?_append_left c2]
    · simp only [List.length_append, List.length_singleton] at hi
      obtain rfl : i = rb.length := by omega
      simp only [List.getElem_concat_length]
      refine ⟨?_, n0, nb, hc⟩
      rw [Store.set_other _ _ (rkey_ne nb), Store.set_same]
      congr 1
      simp [List.getD_eq_getElem?_getD, h.len]
  · intro i j hi hj e
    simp only [List.length_append, List.length_singleton] at hi hj
    by_cases c1 : i < rb.length <;> by_cases c2 : j < rb.length
    · rw [List.getElem_append_left c1, List.getElem_append_left c2] at e; exact h.nd i j c1 c2 e
    · obtain rfl : j = rb.length := by omega
      rw [List.getElem_append_left c1] at e; simp only [List.getElem_concat_length] at e; exact absurd e (nr i c1)
    · obtain rfl : i = rb.length := by omega
      rw [List.getElem_append_left c2] at e; simp only [List.getElem_concat_length] at e; exact absurd e.symm (nr j c2)
    · omega

/-- Another block is written, or new. -/
theorem Rows.other {S0 U : Store} {bo w m : Nat} {rb : List (Nat × Nat)} {rows : List (List Hist)} (h : Rows S0 bo w rb rows m U) {q : Key} (x : Blk) (h1 : q ≠ .r bo) (h2 : ∀ i (h : i < rb.length), q ≠ .r (rb[i]).1) :
    Rows (S0.set q x) bo w rb rows m (U.set q x) := by
  refine ⟨h.len, h.wid, ?_, ?_, ?_, fun i hi => ?_, h.nd⟩
  · rw [Store.set_other _ _ h1.symm]; exact h.fo
  · intro k y hk
    by_cases e : k = q
    · subst e; rw [Store.set_same] at hk ⊢; exact hk
    · rw [Store.set_other _ _ e] at hk ⊢; exact h.sub _ _ hk
  · rw [Store.set_other _ _ h1.symm]; exact h.outer
  · obtain ⟨r1, r2, r3, r4⟩ := h.row i hi
    have hn := h2 i hi
    exact ⟨by rw [Store.set_other _ _ hn.symm]; exact r1, by rw [Store.set_other _ _ hn.symm]; exact r2, r3, r4⟩
theorem Rows.known {S0 U : Store} {bo w m : Nat} {rb : List (Nat × Nat)} {rows : List (List Hist)} (h : Rows S0 bo w rb rows m U) {q : Key} {y : Blk} (hq : S0 q = some y) (x : Blk) : Rows (S0.set q x) bo w rb rows m (U.set q x) :=
  h.other x (by rintro rfl; rw [h.fo] at hq; cases hq) (fun i hi => by rintro rfl; rw [(h.row i hi).2.1] at hq; cases hq)
theorem Rows.fresh {S0 U : Store} {bo w m : Nat} {rb : List (Nat × Nat)} {rows : List (List Hist)} (h : Rows S0 bo w rb rows m U) {q : Key} (hq : U q = none) (x : Blk) : Rows (S0.set q x) bo w rb rows m (U.set q x) :=
  h.other x (by rintro rfl; rw [h.outer] at hq; cases hq) (fun i hi => by rintro rfl; rw [(h.row i hi).1] at hq; cases hq)

theorem Rows.base {S S0 U : Store} {bo w m : Nat} {rb : List (Nat × Nat)} {rows : List (List Hist)} (h : Rows S0 bo w rb rows m U) (hs : Sub S S0) : Rows S bo w rb rows m U :=
  ⟨h.len, h.wid, none_of_sub hs h.fo, hs.trans h.sub, h.outer, fun i hi => let ⟨r1, r2, r3, r4⟩ := h.row i hi; ⟨r1, none_of_sub hs r2, r3, r4⟩, h.nd⟩
theorem next_cells {A : List AV} {m i : Nat} (hA : A.length = i) (x : AV) : List.take (i * 1) (A ++ zcs [.nils] (m + 1)) ++ [x] ++ List.drop (i * 1 + 1) (A ++ zcs [.nils] (m + 1)) = A ++ [x] ++ zcs [.nils] m := by
  have := splice_next A m x
  subst hA
  unfold splice at this
  rw [Nat.zero_add] at this
  exact this

/-- A cell of a row is written. -/
theorem Rows.setRow {S0 U : Store} {bo w m : Nat} {rb : List (Nat × Nat)} {rows : List (List Hist)} (h : Rows S0 bo w rb rows m U) {i : Nat} (hi : i < rb.length) {r : List Hist} (hr : r.length = w) :
    Rows S0 bo w rb (rows.set i r) m (U.set (.r (rb[i]).1) (rowB w (rb[i]).2 r)) := by
  obtain ⟨r1, r2, r3, r4⟩ := h.row i hi
  refine ⟨by simp [h.len], ?_, h.fo, ?_, ?_, fun j hj => ?_, h.nd⟩
  · intro x hx
    rcases List.mem_or_eq_of_mem_set hx with hx | rfl
    · exact h.wid x hx
    · exact hr
  · intro k y hk
    have : k ≠ .r (rb[i]).1 := by rintro rfl; rw [r2] at hk; cases hk
    rw [Store.set_other _ _ this]; exact h.sub _ _ hk
  · rw [Store.set_other _ _ (rkey_ne fun e => r3 e.symm)]; exact h.outer
  · obtain ⟨s1, s2, s3, s4⟩ := h.row j hj
    refine ⟨?_, s2, s3, s4⟩
    by_cases e : j = i
    · subst e; rw [Store.set_same]; congr 2
      have : j < rows.length := by rw [← h.len]; exact hj
      simp [List.getD_eq_getElem?_getD, this]
    · rw [Store.set_other _ _ (rkey_ne fun e2 => e (h.nd _ _ _ _ e2)), s1]; congr 2
      simp [List.getD_eq_getElem?_getD, List.getElem?_set, Ne.symm e]

/-! Cells of a row. -/
theorem flat_cut (r : List Hist) (t : List AV) : ∀ c, (h : c < r.length) → ((flatA (r.map Hist.cs) ++ t).drop (c * 3)).take 3 = (r[c]).cs.map .p := by
  induction r with
  | nil => intro c h; simp at h
  | cons x r ih =>
    intro c h
    cases c with
    | zero => simp [flatA, Hist.cs]
    | succ c =>
      have := ih c (by simpa using h)
      have e : flatA (List.map Hist.cs (x :: r)) = x.cs.map .p ++ flatA (List.map Hist.cs r) := by simp [flatA]
      rw [e, List.append_assoc, show (c + 1) * 3 = 3 + c * 3 by omega, ← List.drop_drop]
      simpa [Hist.cs] using this
theorem flat_put (r : List Hist) (t : List AV) (y : Hist) : ∀ c, (h : c < r.length) → splice (flatA (r.map Hist.cs) ++ t) (c * 3) (y.cs.map .p) = flatA ((r.set c y).map Hist.cs) ++ t := by
  induction r with
  | nil => intro c h; simp at h
  | cons x r ih =>
    intro c h
    have e : ∀ (x : Hist) (r : List Hist), flatA (List.map Hist.cs (x :: r)) = x.cs.map .p ++ flatA (List.map Hist.cs r) := by intro x r; simp [flatA]
    cases c with
    | zero => rw [List.set_cons_zero, e, e]; unfold splice; simp [Hist.cs]
    | succ c =>
      have := ih c (by simpa using h)
      rw [List.set_cons_succ, e, e, List.append_assoc, List.append_assoc, ← this]
      generalize flatA (List.map Hist.cs r) ++ t = F
      unfold splice
      rw [show (c + 1) * 3 = c * 3 + 3 by omega]
      simp only [Hist.cs, List.map_cons, List.map_nil, List.cons_append, List.nil_append, List.length_cons, List.length_nil]
      rw [show c * 3 + 3 + (0 + 1 + 1 + 1) = (c * 3 + (0 + 1 + 1 + 1)) + 3 by omega]
      simp only [List.take_succ_cons, List.drop_succ_cons, List.cons_append]
theorem hflat_len (r : List Hist) : (flatA (r.map Hist.cs)).length = r.length * 3 := by rw [flatA_length (sz := 3) hist_len]; simp

/-! All as data. -/
def mixC (w : Nat) (rb : List (Nat × Nat)) (rows : List (List Hist)) (j : Nat) : List AV := (List.range rb.length).map fun i => if i < j then .p (rowP (rows.getD i [])) else rowM w (rb.getD i (0, 0))
open Classical in
noncomputable def mixS (S U : Store) (bo w : Nat) (rb : List (Nat × Nat)) (rows : List (List Hist)) (j : Nat) : Store := fun k =>
  if k = .r bo then some (.cells (mixC w rb rows j)) else if ∃ i, j ≤ i ∧ ∃ h : i < rb.length, k = .r (rb[i]).1 then U k else S k
theorem mixC_len {w : Nat} {rb : List (Nat × Nat)} {rows : List (List Hist)} {j : Nat} : (mixC w rb rows j).length = rb.length := by simp [mixC]
theorem mixC_getD {w : Nat} {rb : List (Nat × Nat)} {rows : List (List Hist)} {j i : Nat} (h : i < rb.length) : (mixC w rb rows j).getD i .top = if i < j then .p (rowP (rows.getD i [])) else rowM w (rb.getD i (0, 0)) := by
  simp [mixC, List.getD_eq_getElem?_getD, h]

theorem frz_rows {S0 S U : Store} {bo w : Nat} {rb : List (Nat × Nat)} {rows : List (List Hist)} (h : Rows S0 bo w rb rows 0 U) (hS : Sub S S0) (a0 a1 a3 a4 a5 e : AV) :
    Frz U (.tuple [.agg [a0, a1, .ms bo 1 0 rb.length rb.length, a3, a4, a5], e]) S (.tuple [.agg [a0, a1, .p (.sl (rows.map rowE)), a3, a4, a5], e]) ∧
    Frz U (.agg [a0, a1, .ms bo 1 0 rb.length rb.length, a3, a4, a5]) S (.agg [a0, a1, .p (.sl (rows.map rowE)), a3, a4, a5]) := by
  have sbo : S (.r bo) = none := none_of_sub hS h.fo
  have srb : ∀ i (hi : i < rb.length), S (.r (rb[i]).1) = none := fun i hi => none_of_sub hS (h.row i hi).2.1
  have step0 : ∀ x, Frz U x (mixS S U bo w rb rows 0) x := by
    intro x
    apply Frz.forget
    intro k y hk
    unfold mixS at hk
    split at hk
    · rename_i e1
      subst e1
      rw [h.outer]
      rw [← hk]
      congr 2
      apply List.ext_getElem (by simp [mixC, zcs])
      intro i h1 h2
      have hi : i < rb.length := by simpa [zcs] using h1
      simp [mixC, zcs, hi]
    · split at hk
      · exact hk
      · exact h.sub _ _ (hS _ _ hk)
  have step : ∀ x j, j < rb.length → Frz (mixS S U bo w rb rows j) x (mixS S U bo w rb rows (j + 1)) x := by
    intro x j hj
    obtain ⟨r1, r2, r3, r4⟩ := h.row j hj
    have hw : (rows.getD j []).length = w := by
      have : j < rows.length := by rw [← h.len]; exact hj
      rw [show rows.getD j [] = rows[j] by simp [List.getD_eq_getElem?_getD, this]]
      exact h.wid _ (List.getElem_mem this)
    refine Frz.freeze (b := (rb[j]).1) (m := w * 3) (cs := flatA ((rows.getD j []).map Hist.cs) ++ List.replicate (((rb[j]).2 - w) * 3) .top) ?_ ?_ ?_ (Or.inl (Or.inl (Or.inl rfl)))
    · unfold mixS
      rw [if_neg (rkey_ne r3), if_pos ⟨j, Nat.le_refl _, hj, rfl⟩, r1]; rfl
    · rw [List.length_append, hflat_len, hw]; omega
    · intro k y hk
      unfold mixS at hk
      split at hk
      · rename_i e1
        subst e1
        refine ⟨rkey_ne fun e => r3 e.symm, Or.inr ⟨mixC w rb rows j, mixC w rb rows (j + 1), by unfold mixS; rw [if_pos rfl], by injection hk with hk; exact hk.symm, by rw [mixC_len, mixC_len], fun i hi => ?_⟩⟩
        rw [mixC_len] at hi
        rw [mixC_getD hi, mixC_getD hi]
        by_cases c1 : i < j
        · rw [if_pos c1, if_pos (by omega)]; exact Or.inl rfl
        · by_cases c2 : i = j
          · subst c2
            rw [if_neg c1, if_pos (by omega)]
            refine Or.inr (Or.inr ⟨3, 0, w, (rb[i]).2, (rows.getD i []).map Hist.cs, ?_, by omega, rfl, by rw [List.length_map]; exact hw, hist_len, ?_⟩)
            · simp [rowM, List.getD_eq_getElem?_getD, hi]
            · rw [List.drop_zero, List.take_append_of_le_length (by rw [hflat_len, hw]; exact Nat.le_refl _), List.take_of_length_le (by rw [hflat_len, hw]; exact Nat.le_refl _)]
          · rw [if_neg c1, if_neg (by omega)]; exact Or.inl rfl
      · rename_i e1
        split at hk
        · rename_i e2
          obtain ⟨i, hi1, hi2, rfl⟩ := e2
          refine ⟨rkey_ne fun e => ?_, Or.inl ?_⟩
          · have := h.nd _ _ _ _ e; omega
          · unfold mixS; rw [if_neg e1, if_pos ⟨i, by omega, hi2, rfl⟩]; exact hk
        · rename_i e2
          refine ⟨?_, Or.inl ?_⟩
          · rintro rfl; rw [srb j hj] at hk; cases hk
          · unfold mixS; rw [if_neg e1, if_neg ?_]; exact hk
            rintro ⟨i, hi1, hi2, rfl⟩
            rw [srb i hi2] at hk; cases hk
  have all : ∀ x j, j ≤ rb.length → Frz U x (mixS S U bo w rb rows j) x := by
    intro x j
    induction j with
    | zero => intro _; exact step0 x
    | succ j ih => intro hj; exact (ih (by omega)).trans (step x j (by omega))
  have hbo : mixS S U bo w rb rows rb.length (.r bo) = some (.cells (mixC w rb rows rb.length)) := by unfold mixS; rw [if_pos rfl]
  have hflat : mixC w rb rows rb.length = flatA (rows.map rowE) := by
    apply List.ext_getElem
    · rw [mixC_len, flatA_length (sz := 1) row_len, h.len]; simp
    · intro i h1 h2
      have hi : i < rb.length := by rw [mixC_len] at h1; exact h1
      have hi2 : i < rows.length := by rw [← h.len]; exact hi
      have e1 := flatA_getD (sz := 1) (els := rows.map rowE) row_len i 0 (by simpa using hi2) (by omega)
      rw [Nat.mul_one, Nat.add_zero, List.getD_eq_getElem?_getD, List.getElem?_eq_getElem h2, Option.getD_some] at e1
      rw [e1]
      have e2 := mixC_getD (w := w) (rows := rows) (j := rb.length) hi
      rw [if_pos hi, List.getD_eq_getElem?_getD, List.getElem?_eq_getElem h1, Option.getD_some] at e2
      rw [e2]
      simp [List.getD_eq_getElem?_getD, hi2, rowE]
  have hlast : ∀ k y, S k = some y → k ≠ .r bo ∧ fzB bo rb.length (mixC w rb rows rb.length) (mixS S U bo w rb rows rb.length k) y := by
    intro k y hk
    have n1 : k ≠ .r bo := by rintro rfl; rw [sbo] at hk; cases hk
    refine ⟨n1, Or.inl ?_⟩
    unfold mixS
    rw [if_neg n1, if_neg ?_]; exact hk
    rintro ⟨i, hi1, hi2, rfl⟩
    omega
  have one : fz1 bo rb.length (mixC w rb rows rb.length) (.ms bo 1 0 rb.length rb.length) (.p (.sl (rows.map rowE))) := by
    refine Or.inr (Or.inr ⟨1, 0, rb.length, rb.length, rows.map rowE, rfl, by omega, rfl, by rw [List.length_map, h.len], row_len, ?_⟩)
    rw [List.drop_zero, Nat.mul_one, List.take_of_length_le (by rw [mixC_len]; exact Nat.le_refl _), hflat]
  have agg : fz2 bo rb.length (mixC w rb rows rb.length) (.agg [a0, a1, .ms bo 1 0 rb.length rb.length, a3, a4, a5]) (.agg [a0, a1, .p (.sl (rows.map rowE)), a3, a4, a5]) :=
    Or.inr ⟨_, _, rfl, rfl, fzL_cons (Or.inl rfl) (fzL_cons (Or.inl rfl) (fzL_cons one (fzL_cons (Or.inl rfl) (fzL_cons (Or.inl rfl) (fzL_cons (Or.inl rfl) (fzL_nil _ _ _))))))⟩
  refine ⟨(all _ rb.length (Nat.le_refl _)).trans (Frz.freeze hbo (by rw [mixC_len]; exact Nat.le_refl _) hlast (Or.inr ⟨_, _, rfl, rfl, rfl, fun i hi => ?_⟩)), (all _ rb.length (Nat.le_refl _)).trans (Frz.freeze hbo (by rw [mixC_len]; exact Nat.le_refl _) hlast (Or.inl agg))⟩
  match i, hi with
  | 0, _ => exact agg
  | 1, _ => exact Or.inl (Or.inl rfl)
end Go.Sk
