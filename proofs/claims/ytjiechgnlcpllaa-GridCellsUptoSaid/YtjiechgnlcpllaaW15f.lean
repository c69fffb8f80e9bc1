/- Walks: one change. -/
import Derived.Test.YtjiechgnlcpllaaW15e
set_option linter.unusedSimpArgs false
set_option linter.unusedVariables false
set_option linter.unusedSectionVars false
namespace Go.Sk
open Go Go.Proofs

theorem change_to (cc b o : Nat) (t k w : Nat) (err : Int) (cs : List AV) (h : Hist) (S : Store) (hcc : S (.r cc) = some (.cells [u64 t, u64 k, u64 w, i64 err])) (hb : S (.r b) = some (.cells cs)) (hne : ¬ b = cc ∧ ¬ cc = b)
    (hcut : (cs.drop o).take 3 = h.cs.map .p) (hlen : o + 3 ≤ cs.length) (hok : h.Ok) (hw : w < 18446744073709551616) :
    CallR Try.prog 42 [.sp cc 0, .sp b o] S
      (fun _ S' => (err = 0 → S' = (S.set (.r b) (.cells (splice cs o ((addH h t w).1.cs.map .p)))).set (.r cc) (.cells [u64 t, u64 k, u64 w, i64 (addH h t w).2])) ∧ (¬ err = 0 → S' = S)) := by
  refine callR_of Try.func42 rfl rfl (xc_ok (bitB 259) _ _ _ ?_)
  simp only [go_sem, decide_true, decide_false, Nat.lt_irrefl, hcc]
  by_cases c : err = 0
  rotate_left
  · have e : (err == 0) = false := by simpa using c
    simp only [go_sem, decide_true, decide_false, Nat.lt_irrefl, e]
    exact ⟨_, Sub.refl _, Or.inl ⟨fun h => absurd h c, fun _ => rfl⟩⟩
  subst c
  simp only [go_sem, decide_true, decide_false, Nat.lt_irrefl, beq_self_eq_true]
  refine AWP.draw2 (bitB 259) mixed (by kernel_rfl) (fun j => .tuple [(addH h t w).1.av, i64 (addH h t w).2]) ?_
  simp only [go_sem, decide_true, decide_false, Nat.lt_irrefl, hcc, hb, hne, hcut]
  exact ⟨hlen, (hist_addH h hok t w hw).draw, hlen, _, Sub.refl _, Or.inl rfl⟩

/-! What an event does to a grid. -/
def colN (g : Grid) (x i : Nat) : Nat := (colV (g.sd.getD i default) x g.w).toNat
noncomputable def stepG (g : Grid) (e : Event) (i : Nat) (y : List (List Hist) × Int) : List (List Hist) × Int :=
  if y.2 = 0 then (y.1.set i ((y.1.getD i []).set (colN g e.k i) (addH ((y.1.getD i []).getD (colN g e.k i) zeroH) e.t e.w).1), (addH ((y.1.getD i []).getD (colN g e.k i) zeroH) e.t e.w).2) else y
noncomputable def rowsV (g : Grid) (e : Event) : Nat → List (List Hist) × Int
  | 0 => (g.rows, (addH g.all e.t e.w).2)
  | i + 1 => stepG g e i (rowsV g e i)
noncomputable def addG (g : Grid) (e : Event) : Grid × Int :=
  if e.k < 2305843009213693951 then
    if (rowsV g e g.rows.length).2 = 0 then (⟨g.w, g.sd, (rowsV g e g.rows.length).1, (addH g.all e.t e.w).1⟩, 0) else (zeroG, (rowsV g e g.rows.length).2)
  else (zeroG, 7)
structure Grid.Ok (g : Grid) : Prop where
  w1 : 1 ≤ g.w
  w2 : g.w < 1048576
  n : g.rows.length < 1048576
  sd : g.sd.length = g.rows.length
  wid : ∀ r ∈ g.rows, r.length = g.w.toNat
  all : g.all.Ok
  hs : ∀ r ∈ g.rows, ∀ h ∈ r, h.Ok
  so : ∀ s ∈ g.sd, s.Ok
theorem colN_lt (g : Grid) (h : 1 ≤ g.w) (x i : Nat) : colN g x i < g.w.toNat := by
  unfold colN colV
  split
  · simp; omega
  · rw [Int.toNat_natCast]; exact Nat.mod_lt _ (by omega)
theorem colV_nn (s : Seed) (x : Nat) (w : Int) : 0 ≤ colV s x w := by
  unfold colV; split
  · exact Int.le_refl _
  · exact Int.natCast_nonneg _
theorem rowsV_len (g : Grid) (e : Event) : ∀ i, (rowsV g e i).1.length = g.rows.length := by
  intro i
  induction i with
  | zero => rfl
  | succ i ih => unfold rowsV stepG; split <;> simp [ih]
theorem rowsV_later (g : Grid) (e : Event) : ∀ i j, i ≤ j → (rowsV g e i).1.getD j [] = g.rows.getD j [] := by
  intro i
  induction i with
  | zero => intro j _; rfl
  | succ i ih =>
    intro j hj
    unfold rowsV stepG
    split
    · rw [← ih j (by omega)]
      simp [List.getD_eq_getElem?_getD, List.getElem?_set, show ¬ i = j by omega]
    · exact ih j (by omega)
theorem rowsV_stop (g : Grid) (e : Event) (i : Nat) (h : ¬ (rowsV g e i).2 = 0) : ∀ j, rowsV g e (i + j) = rowsV g e i := by
  intro j
  induction j with
  | zero => rfl
  | succ j ih => show stepG g e (i + j) (rowsV g e (i + j)) = _; rw [ih]; unfold stepG; rw [if_neg h]
end Go.Sk
