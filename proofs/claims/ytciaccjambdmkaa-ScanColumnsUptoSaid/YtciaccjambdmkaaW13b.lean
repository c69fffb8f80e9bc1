/- Walks: the reference's keys; two lists of items; comparisons. -/
import Derived.Test.YtciaccjambdmkaaW13a
set_option linter.unusedSimpArgs false
set_option linter.unusedVariables false
set_option linter.unusedSectionVars false
namespace Go.Sk
open Go Go.Proofs

theorem isNaN_u (x : Nat) : Pure Try.prog 37 [u64 x] (bl false) := fun S => by
  refine callR_of Try.func37 rfl rfl (xc_ok (bitB 5) _ _ _ ?_)
  simp only [go_sem, decide_true, decide_false, Nat.lt_irrefl]
  (refine ⟨S, by (repeat (first | exact Sub.refl _ | refine Sub.setF ?_ (by first | assumption | exact And.right (by assumption) | exact And.right (And.right (by assumption)) | exact And.right (And.right (And.right (by assumption))) | exact And.right (And.right (And.right (And.right (by assumption)))) | exact And.right (And.right (And.right (And.right (And.right (by assumption))))) | exact And.right (And.right (And.right (And.right (And.right (And.right (by assumption)))))) | exact And.right (And.right (And.right (And.right (And.right (And.right (And.right (by assumption))))))) | exact And.right (And.right (And.right (And.right (And.right (And.right (And.right (And.right (by assumption)))))))) | exact And.right (And.right (And.right (And.right (And.right (And.right (And.right (And.right (And.right (by assumption)))))))))) | refine Sub.setV ?_ (by first | assumption | exact And.right (by assumption) | exact And.right (And.right (by assumption)) | exact And.right (And.right (And.right (by assumption))) | exact And.right (And.right (And.right (And.right (by assumption)))) | exact And.right (And.right (And.right (And.right (And.right (by assumption))))) | exact And.right (And.right (And.right (And.right (And.right (And.right (by assumption)))))) | exact And.right (And.right (And.right (And.right (And.right (And.right (And.right (by assumption))))))) | exact And.right (And.right (And.right (And.right (And.right (And.right (And.right (And.right (by assumption)))))))) | exact And.right (And.right (And.right (And.right (And.right (And.right (And.right (And.right (And.right (by assumption)))))))))))), ?_⟩); simp
def cmpV (x y : Nat) : Int := if x < y then -1 else if y < x then 1 else 0
theorem cmp_Compare (x y : Nat) : Pure Try.prog 25 [u64 x, u64 y] (i64 (cmpV x y)) := fun S => by
  refine callR_of Try.func25 rfl rfl (xc_ok (bitB 604275) _ _ _ ?_)
  simp only [go_sem, decide_true, decide_false, Nat.lt_irrefl]
  refine (isNaN_u x).useA ?_
  simp only [go_sem, decide_true, decide_false, Nat.lt_irrefl]
  refine (isNaN_u y).useA ?_
  simp only [go_sem, decide_true, decide_false, Nat.lt_irrefl]
  (first | refine dec_split (fun h1 => ?_) (fun h1 => ?_) | refine gdd_split (fun h1 => ?_) (fun h1 => ?_) | refine bool_split (fun h1 => ?_) (fun h1 => ?_) | refine gd_split (fun h1 => ?_) (fun h1 => ?_)) <;> simp only [go_sem, decide_true, decide_false, Nat.lt_irrefl]
  · (refine ⟨S, by (repeat (first | exact Sub.refl _ | refine Sub.setF ?_ (by first | assumption | exact And.right (by assumption) | exact And.right (And.right (by assumption)) | exact And.right (And.right (And.right (by assumption))) | exact And.right (And.right (And.right (And.right (by assumption)))) | exact And.right (And.right (And.right (And.right (And.right (by assumption))))) | exact And.right (And.right (And.right (And.right (And.right (And.right (by assumption)))))) | exact And.right (And.right (And.right (And.right (And.right (And.right (And.right (by assumption))))))) | exact And.right (And.right (And.right (And.right (And.right (And.right (And.right (And.right (by assumption)))))))) | exact And.right (And.right (And.right (And.right (And.right (And.right (And.right (And.right (And.right (by assumption)))))))))) | refine Sub.setV ?_ (by first | assumption | exact And.right (by assumption) | exact And.right (And.right (by assumption)) | exact And.right (And.right (And.right (by assumption))) | exact And.right (And.right (And.right (And.right (by assumption)))) | exact And.right (And.right (And.right (And.right (And.right (by assumption))))) | exact And.right (And.right (And.right (And.right (And.right (And.right (by assumption)))))) | exact And.right (And.right (And.right (And.right (And.right (And.right (And.right (by assumption))))))) | exact And.right (And.right (And.right (And.right (And.right (And.right (And.right (And.right (by assumption)))))))) | exact And.right (And.right (And.right (And.right (And.right (And.right (And.right (And.right (And.right (by assumption)))))))))))), ?_⟩); simp [cmpV, h1]
  · (first | refine dec_split (fun h2 => ?_) (fun h2 => ?_) | refine gdd_split (fun h2 => ?_) (fun h2 => ?_) | refine bool_split (fun h2 => ?_) (fun h2 => ?_) | refine gd_split (fun h2 => ?_) (fun h2 => ?_)) <;> simp only [go_sem, decide_true, decide_false, Nat.lt_irrefl]
    · (refine ⟨S, by (repeat (first | exact Sub.refl _ | refine Sub.setF ?_ (by first | assumption | exact And.right (by assumption) | exact And.right (And.right (by assumption)) | exact And.right (And.right (And.right (by assumption))) | exact And.right (And.right (And.right (And.right (by assumption)))) | exact And.right (And.right (And.right (And.right (And.right (by assumption))))) | exact And.right (And.right (And.right (And.right (And.right (And.right (by assumption)))))) | exact And.right (And.right (And.right (And.right (And.right (And.right (And.right (by assumption))))))) | exact And.right (And.right (And.right (And.right (And.right (And.right (And.right (And.right (by assumption)))))))) | exact And.right (And.right (And.right (And.right (And.right (And.right (And.right (And.right (And.right (by assumption)))))))))) | refine Sub.setV ?_ (by first | assumption | exact And.right (by assumption) | exact And.right (And.right (by assumption)) | exact And.right (And.right (And.right (by assumption))) | exact And.right (And.right (And.right (And.right (by assumption)))) | exact And.right (And.right (And.right (And.right (And.right (by assumption))))) | exact And.right (And.right (And.right (And.right (And.right (And.right (by assumption)))))) | exact And.right (And.right (And.right (And.right (And.right (And.right (And.right (by assumption))))))) | exact And.right (And.right (And.right (And.right (And.right (And.right (And.right (And.right (by assumption)))))))) | exact And.right (And.right (And.right (And.right (And.right (And.right (And.right (And.right (And.right (by assumption)))))))))))), ?_⟩); simp [cmpV, h1, h2]
    · (refine ⟨S, by (repeat (first | exact Sub.refl _ | refine Sub.setF ?_ (by first | assumption | exact And.right (by assumption) | exact And.right (And.right (by assumption)) | exact And.right (And.right (And.right (by assumption))) | exact And.right (And.right (And.right (And.right (by assumption)))) | exact And.right (And.right (And.right (And.right (And.right (by assumption))))) | exact And.right (And.right (And.right (And.right (And.right (And.right (by assumption)))))) | exact And.right (And.right (And.right (And.right (And.right (And.right (And.right (by assumption))))))) | exact And.right (And.right (And.right (And.right (And.right (And.right (And.right (And.right (by assumption)))))))) | exact And.right (And.right (And.right (And.right (And.right (And.right (And.right (And.right (And.right (by assumption)))))))))) | refine Sub.setV ?_ (by first | assumption | exact And.right (by assumption) | exact And.right (And.right (by assumption)) | exact And.right (And.right (And.right (by assumption))) | exact And.right (And.right (And.right (And.right (by assumption)))) | exact And.right (And.right (And.right (And.right (And.right (by assumption))))) | exact And.right (And.right (And.right (And.right (And.right (And.right (by assumption)))))) | exact And.right (And.right (And.right (And.right (And.right (And.right (And.right (by assumption))))))) | exact And.right (And.right (And.right (And.right (And.right (And.right (And.right (And.right (by assumption)))))))) | exact And.right (And.right (And.right (And.right (And.right (And.right (And.right (And.right (And.right (by assumption)))))))))))), ?_⟩); simp [cmpV, h1, h2]
theorem scan_Keys1 (x y : Item) : Pure Try.prog 24 [x.av, y.av] (i64 (cmpV x.k y.k)) := fun S => by
  refine callR_of Try.func24 rfl rfl (xc_ok (bitB 31) _ _ _ ?_)
  simp only [go_sem, decide_true, decide_false, Nat.lt_irrefl]
  refine alloc_intro fun b hb => ?_
  simp only [go_sem, decide_true, decide_false, Nat.lt_irrefl]
  refine alloc_intro fun b' hb' => ?_
  simp only [fresh_set] at hb'
  simp only [go_sem, decide_true, decide_false, Nat.lt_irrefl, hb']
  refine (cmp_Compare x.k y.k).useA ?_
  simp only [go_sem, decide_true, decide_false, Nat.lt_irrefl]
  (refine ⟨S, by (repeat (first | exact Sub.refl _ | refine Sub.setF ?_ (by first | assumption | exact And.right (by assumption) | exact And.right (And.right (by assumption)) | exact And.right (And.right (And.right (by assumption))) | exact And.right (And.right (And.right (And.right (by assumption)))) | exact And.right (And.right (And.right (And.right (And.right (by assumption))))) | exact And.right (And.right (And.right (And.right (And.right (And.right (by assumption)))))) | exact And.right (And.right (And.right (And.right (And.right (And.right (And.right (by assumption))))))) | exact And.right (And.right (And.right (And.right (And.right (And.right (And.right (And.right (by assumption)))))))) | exact And.right (And.right (And.right (And.right (And.right (And.right (And.right (And.right (And.right (by assumption)))))))))) | refine Sub.setV ?_ (by first | assumption | exact And.right (by assumption) | exact And.right (And.right (by assumption)) | exact And.right (And.right (And.right (by assumption))) | exact And.right (And.right (And.right (And.right (by assumption)))) | exact And.right (And.right (And.right (And.right (And.right (by assumption))))) | exact And.right (And.right (And.right (And.right (And.right (And.right (by assumption)))))) | exact And.right (And.right (And.right (And.right (And.right (And.right (And.right (by assumption))))))) | exact And.right (And.right (And.right (And.right (And.right (And.right (And.right (And.right (by assumption)))))))) | exact And.right (And.right (And.right (And.right (And.right (And.right (And.right (And.right (And.right (by assumption)))))))))))), ?_⟩); simp

def placeV (l : List Item) (k : Nat) : Nat := (l.takeWhile fun e => decide (e.k < k)).length
theorem placeV_le (l : List Item) (k : Nat) : placeV l k ≤ l.length := by
  unfold placeV; exact (List.takeWhile_sublist _).length_le
theorem placeV_lt (l : List Item) (k : Nat) : ∀ i (h : i < placeV l k), (l[i]'(Nat.lt_of_lt_of_le h (placeV_le l k))).k < k := by
  induction l with
  | nil => intro i h; simp [placeV] at h
  | cons x r ih =>
    intro i h
    unfold placeV at h
    rw [List.takeWhile_cons] at h
    by_cases hx : x.k < k
    · simp only [hx, decide_true, if_true] at h
      cases i with
      | zero => simpa using hx
      | succ i => simp only [List.getElem_cons_succ]; exact ih i (by unfold placeV; simpa using h)
    · simp [hx] at h
theorem placeV_at (l : List Item) (k : Nat) (h : placeV l k < l.length) : ¬ (l[placeV l k]).k < k := by
  induction l with
  | nil => simp at h
  | cons x r ih =>
    by_cases hx : x.k < k
    · have e : placeV (x :: r) k = placeV r k + 1 := by unfold placeV; rw [List.takeWhile_cons]; simp [hx]
      simp only [e, List.getElem_cons_succ]
      exact ih (by rw [e] at h; simpa using h)
    · have e : placeV (x :: r) k = 0 := by unfold placeV; rw [List.takeWhile_cons]; simp [hx]
      simp only [e, List.getElem_cons_zero]
      exact hx

theorem ref13_place (l : List Item) (k : Nat) (hl : l.length < 4611686018427387904) : Pure Try.prog 38 [.p (itP l), u64 k] (i64 (placeV l k : Nat)) := fun S => by
  refine callR_of Try.func38 rfl rfl (xc_ok (bitB 262195) _ _ _ ?_)
  simp only [go_sem, decide_true, decide_false, Nat.lt_irrefl, itP]
  have hle := placeV_le l k
  refine AWP.iter (fun i => ⟨Env.get [(0, .p (.sl (l.map Item.pv))), (1, u64 k), (5, i64 i)], S, 22, []⟩) (placeV l k) ?_ ?_ ?_
  · exact le_of (by simp only [go_sem, decide_true, decide_false, Nat.lt_irrefl]; simp) (Sub.refl _) rfl rfl (by simp)
  · intro i hi ih
    have hil : i < l.length := by omega
    have hk := placeV_lt l k i hi
    refine AWPH.step (xc_ok (bitB 262195) _ _ _ ?_)
    simp only [go_sem, decide_true, decide_false, Nat.lt_irrefl, hil, ltN' hil, getD_map' _ _ _ _ hil, hk]
    refine ih.back (by (repeat (first | exact Sub.refl _ | refine Sub.setF ?_ (by first | assumption | exact And.right (by assumption) | exact And.right (And.right (by assumption)) | exact And.right (And.right (And.right (by assumption))) | exact And.right (And.right (And.right (And.right (by assumption)))) | exact And.right (And.right (And.right (And.right (And.right (by assumption))))) | exact And.right (And.right (And.right (And.right (And.right (And.right (by assumption)))))) | exact And.right (And.right (And.right (And.right (And.right (And.right (And.right (by assumption))))))) | exact And.right (And.right (And.right (And.right (And.right (And.right (And.right (And.right (by assumption)))))))) | exact And.right (And.right (And.right (And.right (And.right (And.right (And.right (And.right (And.right (by assumption)))))))))) | refine Sub.setV ?_ (by first | assumption | exact And.right (by assumption) | exact And.right (And.right (by assumption)) | exact And.right (And.right (And.right (by assumption))) | exact And.right (And.right (And.right (And.right (by assumption)))) | exact And.right (And.right (And.right (And.right (And.right (by assumption))))) | exact And.right (And.right (And.right (And.right (And.right (And.right (by assumption)))))) | exact And.right (And.right (And.right (And.right (And.right (And.right (And.right (by assumption))))))) | exact And.right (And.right (And.right (And.right (And.right (And.right (And.right (And.right (by assumption)))))))) | exact And.right (And.right (And.right (And.right (And.right (And.right (And.right (And.right (And.right (by assumption))))))))))))) (by simp) ?_
    simp only [go_sem, decide_true, decide_false, Nat.lt_irrefl, wi_succ (show i < 4611686018427387904 by omega)]
  · refine AWPH.step (xc_ok (bitB 262195) _ _ _ ?_)
    by_cases h : placeV l k < l.length
    · have hk := placeV_at l k h
      simp only [go_sem, decide_true, decide_false, Nat.lt_irrefl, h, ltN' h, getD_map' _ _ _ _ h, hk]
      (refine ⟨S, by (repeat (first | exact Sub.refl _ | refine Sub.setF ?_ (by first | assumption | exact And.right (by assumption) | exact And.right (And.right (by assumption)) | exact And.right (And.right (And.right (by assumption))) | exact And.right (And.right (And.right (And.right (by assumption)))) | exact And.right (And.right (And.right (And.right (And.right (by assumption))))) | exact And.right (And.right (And.right (And.right (And.right (And.right (by assumption)))))) | exact And.right (And.right (And.right (And.right (And.right (And.right (And.right (by assumption))))))) | exact And.right (And.right (And.right (And.right (And.right (And.right (And.right (And.right (by assumption)))))))) | exact And.right (And.right (And.right (And.right (And.right (And.right (And.right (And.right (And.right (by assumption)))))))))) | refine Sub.setV ?_ (by first | assumption | exact And.right (by assumption) | exact And.right (And.right (by assumption)) | exact And.right (And.right (And.right (by assumption))) | exact And.right (And.right (And.right (And.right (by assumption)))) | exact And.right (And.right (And.right (And.right (And.right (by assumption))))) | exact And.right (And.right (And.right (And.right (And.right (And.right (by assumption)))))) | exact And.right (And.right (And.right (And.right (And.right (And.right (And.right (by assumption))))))) | exact And.right (And.right (And.right (And.right (And.right (And.right (And.right (And.right (by assumption)))))))) | exact And.right (And.right (And.right (And.right (And.right (And.right (And.right (And.right (And.right (by assumption)))))))))))), ?_⟩); simp
    · simp only [go_sem, decide_true, decide_false, Nat.lt_irrefl, h]
      (refine ⟨S, by (repeat (first | exact Sub.refl _ | refine Sub.setF ?_ (by first | assumption | exact And.right (by assumption) | exact And.right (And.right (by assumption)) | exact And.right (And.right (And.right (by assumption))) | exact And.right (And.right (And.right (And.right (by assumption)))) | exact And.right (And.right (And.right (And.right (And.right (by assumption))))) | exact And.right (And.right (And.right (And.right (And.right (And.right (by assumption)))))) | exact And.right (And.right (And.right (And.right (And.right (And.right (And.right (by assumption))))))) | exact And.right (And.right (And.right (And.right (And.right (And.right (And.right (And.right (by assumption)))))))) | exact And.right (And.right (And.right (And.right (And.right (And.right (And.right (And.right (And.right (by assumption)))))))))) | refine Sub.setV ?_ (by first | assumption | exact And.right (by assumption) | exact And.right (And.right (by assumption)) | exact And.right (And.right (And.right (by assumption))) | exact And.right (And.right (And.right (And.right (by assumption)))) | exact And.right (And.right (And.right (And.right (And.right (by assumption))))) | exact And.right (And.right (And.right (And.right (And.right (And.right (by assumption)))))) | exact And.right (And.right (And.right (And.right (And.right (And.right (And.right (by assumption))))))) | exact And.right (And.right (And.right (And.right (And.right (And.right (And.right (And.right (by assumption)))))))) | exact And.right (And.right (And.right (And.right (And.right (And.right (And.right (And.right (And.right (by assumption)))))))))))), ?_⟩); simp

/-- A list with more of a key. -/
noncomputable def putV (l : List Item) (k w : Nat) : List Item :=
  if h : placeV l k < l.length then
    if l[placeV l k].k = k then l.take (placeV l k) ++ [⟨k, m64 (l[placeV l k].n + w)⟩] ++ l.drop (placeV l k + 1) else l.take (placeV l k) ++ [⟨k, w⟩] ++ l.drop (placeV l k)
  else l.take (placeV l k) ++ [⟨k, w⟩] ++ l.drop (placeV l k)

theorem item_len {l : List Item} : ∀ el ∈ l.map Item.pv, el.length = 2 := by
  intro el h; obtain ⟨x, _, rfl⟩ := List.mem_map.1 h; rfl
theorem item_lenT {l : List Item} {n : Nat} : ∀ el ∈ (l.map Item.pv).take n, el.length = 2 := fun el h => item_len el (List.mem_of_mem_take h)
theorem item_lenD {l : List Item} {n : Nat} : ∀ el ∈ (l.map Item.pv).drop n, el.length = 2 := fun el h => item_len el (List.mem_of_mem_drop h)

theorem item_lenTD {l : List Item} {n m : Nat} : ∀ el ∈ ((l.map Item.pv).drop n).take m, el.length = 2 := fun el h => item_lenD el (List.mem_of_mem_take h)
theorem item_lenA {l : List Item} {n : Nat} (x : List PV) (hx : x.length = 2) : ∀ el ∈ (l.map Item.pv).take n ++ [x], el.length = 2 := by
  intro el h
  rcases List.mem_append.1 h with h | h
  · exact item_lenT el h
  · rw [List.mem_singleton.1 h]; exact hx

theorem ref13_Put (l : List Item) (k w : Nat) (hl : l.length < 1099511627776) : Pure Try.prog 26 [.p (itP l), u64 k, u64 w] (.p (itP (putV l k w))) := fun S => by
  refine callR_of Try.func26 rfl rfl (xc_ok (bitB 536871367) _ _ _ ?_)
  simp only [go_sem, decide_true, decide_false, Nat.lt_irrefl]
  refine (ref13_place l k (by omega)).useA ?_
  have hle := placeV_le l k
  simp only [go_sem, decide_true, decide_false, Nat.lt_irrefl, itP]
  refine ⟨item_len, hle, item_lenT, by simp; omega, by simp; omega, tip_intro fun b loc hb => ?_⟩
  simp only [go_sem, decide_true, decide_false, Nat.lt_irrefl]
  by_cases h : placeV l k < l.length
  · simp only [go_sem, decide_true, decide_false, Nat.lt_irrefl, h, ltN' h, getD_map' _ _ _ _ h]
    cases h2 : ((l[placeV l k]).k == k)
    · have h3 : ¬ (l[placeV l k]).k = k := by simpa using h2
      simp only [go_sem, decide_true, decide_false, Nat.lt_irrefl, h2, h, ltN' h, getD_map' _ _ _ _ h]
      refine ⟨by simp, item_lenT, by simp; omega, by simp; omega, grow_intro fun loc => ?_⟩
      simp only [go_sem, decide_true, decide_false, Nat.lt_irrefl]
      refine ⟨item_len, by omega, item_lenTD, item_lenA _ rfl, by simp; omega, by simp; omega, grow_intro fun loc => ?_⟩
      simp only [go_sem, decide_true, decide_false, Nat.lt_irrefl]
      (refine ⟨S, by (repeat (first | exact Sub.refl _ | refine Sub.setF ?_ (by first | assumption | exact And.right (by assumption) | exact And.right (And.right (by assumption)) | exact And.right (And.right (And.right (by assumption))) | exact And.right (And.right (And.right (And.right (by assumption)))) | exact And.right (And.right (And.right (And.right (And.right (by assumption))))) | exact And.right (And.right (And.right (And.right (And.right (And.right (by assumption)))))) | exact And.right (And.right (And.right (And.right (And.right (And.right (And.right (by assumption))))))) | exact And.right (And.right (And.right (And.right (And.right (And.right (And.right (And.right (by assumption)))))))) | exact And.right (And.right (And.right (And.right (And.right (And.right (And.right (And.right (And.right (by assumption)))))))))) | refine Sub.setV ?_ (by first | assumption | exact And.right (by assumption) | exact And.right (And.right (by assumption)) | exact And.right (And.right (And.right (by assumption))) | exact And.right (And.right (And.right (And.right (by assumption)))) | exact And.right (And.right (And.right (And.right (And.right (by assumption))))) | exact And.right (And.right (And.right (And.right (And.right (And.right (by assumption)))))) | exact And.right (And.right (And.right (And.right (And.right (And.right (And.right (by assumption))))))) | exact And.right (And.right (And.right (And.right (And.right (And.right (And.right (And.right (by assumption)))))))) | exact And.right (And.right (And.right (And.right (And.right (And.right (And.right (And.right (And.right (by assumption)))))))))))), ?_⟩)
      simp [putV, h, h3, Item.pv, List.map_take, List.map_drop]
      exact List.take_of_length_le (by simp)
    · have h3 : (l[placeV l k]).k = k := by simpa using h2
      simp only [go_sem, decide_true, decide_false, Nat.lt_irrefl, h2, h, ltN' h, getD_map' _ _ _ _ h]
      refine ⟨by simp, item_lenT, by simp; omega, by simp; omega, grow_intro fun loc => ?_⟩
      simp only [go_sem, decide_true, decide_false, Nat.lt_irrefl, wi_succ (show placeV l k < 4611686018427387904 by omega)]
      refine ⟨item_len, by omega, item_lenTD, item_lenA _ rfl, by simp; omega, by simp; omega, grow_intro fun loc => ?_⟩
      simp only [go_sem, decide_true, decide_false, Nat.lt_irrefl]
      (refine ⟨S, by (repeat (first | exact Sub.refl _ | refine Sub.setF ?_ (by first | assumption | exact And.right (by assumption) | exact And.right (And.right (by assumption)) | exact And.right (And.right (And.right (by assumption))) | exact And.right (And.right (And.right (And.right (by assumption)))) | exact And.right (And.right (And.right (And.right (And.right (by assumption))))) | exact And.right (And.right (And.right (And.right (And.right (And.right (by assumption)))))) | exact And.right (And.right (And.right (And.right (And.right (And.right (And.right (by assumption))))))) | exact And.right (And.right (And.right (And.right (And.right (And.right (And.right (And.right (by assumption)))))))) | exact And.right (And.right (And.right (And.right (And.right (And.right (And.right (And.right (And.right (by assumption)))))))))) | refine Sub.setV ?_ (by first | assumption | exact And.right (by assumption) | exact And.right (And.right (by assumption)) | exact And.right (And.right (And.right (by assumption))) | exact And.right (And.right (And.right (And.right (by assumption)))) | exact And.right (And.right (And.right (And.right (And.right (by assumption))))) | exact And.right (And.right (And.right (And.right (And.right (And.right (by assumption)))))) | exact And.right (And.right (And.right (And.right (And.right (And.right (And.right (by assumption))))))) | exact And.right (And.right (And.right (And.right (And.right (And.right (And.right (And.right (by assumption)))))))) | exact And.right (And.right (And.right (And.right (And.right (And.right (And.right (And.right (And.right (by assumption)))))))))))), ?_⟩)
      simp [putV, h, h3, Item.pv, List.map_take, List.map_drop]
      exact List.take_of_length_le (by simp)
  · simp only [go_sem, decide_true, decide_false, Nat.lt_irrefl, h]
    refine ⟨by simp, item_lenT, by simp; omega, by simp; omega, grow_intro fun loc => ?_⟩
    simp only [go_sem, decide_true, decide_false, Nat.lt_irrefl]
    refine ⟨item_len, by omega, item_lenTD, item_lenA _ rfl, by simp; omega, by simp; omega, grow_intro fun loc => ?_⟩
    simp only [go_sem, decide_true, decide_false, Nat.lt_irrefl]
    (refine ⟨S, by (repeat (first | exact Sub.refl _ | refine Sub.setF ?_ (by first | assumption | exact And.right (by assumption) | exact And.right (And.right (by assumption)) | exact And.right (And.right (And.right (by assumption))) | exact And.right (And.right (And.right (And.right (by assumption)))) | exact And.right (And.right (And.right (And.right (And.right (by assumption))))) | exact And.right (And.right (And.right (And.right (And.right (And.right (by assumption)))))) | exact And.right (And.right (And.right (And.right (And.right (And.right (And.right (by assumption))))))) | exact And.right (And.right (And.right (And.right (And.right (And.right (And.right (And.right (by assumption)))))))) | exact And.right (And.right (And.right (And.right (And.right (And.right (And.right (And.right (And.right (by assumption)))))))))) | refine Sub.setV ?_ (by first | assumption | exact And.right (by assumption) | exact And.right (And.right (by assumption)) | exact And.right (And.right (And.right (by assumption))) | exact And.right (And.right (And.right (And.right (by assumption)))) | exact And.right (And.right (And.right (And.right (And.right (by assumption))))) | exact And.right (And.right (And.right (And.right (And.right (And.right (by assumption)))))) | exact And.right (And.right (And.right (And.right (And.right (And.right (And.right (by assumption))))))) | exact And.right (And.right (And.right (And.right (And.right (And.right (And.right (And.right (by assumption)))))))) | exact And.right (And.right (And.right (And.right (And.right (And.right (And.right (And.right (And.right (by assumption)))))))))))), ?_⟩)
    simp [putV, h, Item.pv, List.map_take, List.map_drop]
    exact List.take_of_length_le (by simp)
end Go.Sk
