/- Texts W10g W10h W10i W10j, joined. -/
import Derived.Test.YtmpockfgppcnbaaR10G
import Derived.Test.YtmpockfgppcnbaaW6d
import Derived.Test.YtmpockfgppcnbaaR10E
set_option linter.unusedSimpArgs false
set_option linter.unusedVariables false
set_option linter.unusedSectionVars false
-- W10g
section
namespace Go.Sk
open Go Go.Proofs

theorem replay_Merge (l : List Hist) (hn : l.length < 1048576) (hf : ∀ h ∈ l, h.Fine) (hg4 : ∀ h ∈ l, h.g ≤ 4) :
    Pure Try.prog 27 [.p (.sl (l.map Hist.cs))] (.tuple [(withV [] l).1.av, i64 (withV [] l).2]) := fun S => by
  refine callR_of Try.func27 rfl rfl (xc_ok (bitB 13) _ _ _ ?_)
  simp only [go_sem]
  refine alloc_intro fun c2 h2 => ?_
  have y2 : S (.r c2) = none := h2
  simp only [go_sem]
  refine (replay_With [] l hn (by simp) (fun e he => by cases he) hf hg4).useA ?_
  simp only [go_sem]
  (refine ⟨S, by (repeat (first | exact Sub.refl _ | refine Sub.setF ?_ (by first | assumption | simp only [*]) | refine Sub.setV ?_ (by first | assumption | simp only [*]))), ?_⟩); simp
def wgtS (s : (Bool × Bool) × Nat) (e : Event) : (Bool × Bool) × Nat :=
  ((s.1.1 && decide (0 < e.w), s.1.2 && decide (e.t ≤ 9223372036854775807)), min (s.2 + min e.w 4503599627370497) 4503599627370497)
def wgtF (l : List Event) : (Bool × Bool) × Nat := l.foldl wgtS ((true, true), 0)
theorem wgtF_snoc (l : List Event) (i : Nat) (hi : i < l.length) : wgtF (l.take (i + 1)) = wgtS (wgtF (l.take i)) l[i] := by
  unfold wgtF; rw [List.take_succ_eq_append_getElem hi, List.foldl_append]; rfl
theorem wgtF_eq (l : List Event) : wgtF l = ((!l.any (fun e => e.w == 0), !l.any (fun e => decide (9223372036854775807 < e.t))), min (sumE Event.w l) 4503599627370497) := by
  have key : ∀ (l : List Event) (a b : Bool) (n : Nat), n ≤ 4503599627370497 → l.foldl wgtS ((a, b), n) = ((a && !l.any (fun e => e.w == 0), b && !l.any (fun e => decide (9223372036854775807 < e.t))), min (n + sumE Event.w l) 4503599627370497) := by
    intro l
    induction l with
    | nil => intro a b n h; simp [sumE_nil]; omega
    | cons e r ih =>
      intro a b n h
      rw [List.foldl_cons]
      have e0 : wgtS ((a, b), n) e = ((a && decide (0 < e.w), b && decide (e.t ≤ 9223372036854775807)), min (n + min e.w 4503599627370497) 4503599627370497) := rfl
      rw [e0, ih _ _ _ (Nat.min_le_right _ _), sumE_cons]
      refine Prod.ext (Prod.ext ?_ ?_) ?_
      · have e1 : decide (0 < e.w) = !(e.w == 0) := by
          by_cases h0 : e.w = 0
          · simp [h0]
          · have : 0 < e.w := by omega
            simp [h0, this]
        simp only [List.any_cons, e1, Bool.not_or, Bool.and_assoc]
      · have e1 : decide (e.t ≤ 9223372036854775807) = !decide (9223372036854775807 < e.t) := by
          by_cases h0 : 9223372036854775807 < e.t
          · have : ¬ e.t ≤ 9223372036854775807 := by omega
            simp [h0, this]
          · have : e.t ≤ 9223372036854775807 := by omega
            simp [h0, this]
        simp only [List.any_cons, e1, Bool.not_or, Bool.and_assoc]
      · show min (min (n + min e.w 4503599627370497) 4503599627370497 + sumE Event.w r) 4503599627370497 = min (n + (e.w + sumE Event.w r)) 4503599627370497
        omega
  have := key l true true 0 (by omega)
  simpa [wgtF] using this
set_option maxHeartbeats 1000000 in
set_option maxRecDepth 8000 in
theorem ref10_weighed (l : List Event) (hn : l.length < 1048576) (ho : ∀ e ∈ l, e.Ok) : Pure Try.prog 71 [.p (evsP l)] (.tuple [bl (wgtF l).1.1, bl (wgtF l).1.2, u64 (wgtF l).2]) := fun S => by
  refine callR_of Try.func71 rfl rfl (xc_ok (bitB 4605) _ _ _ ?_)
  simp only [go_sem, evsP]
  refine AWP.iter (fun i => ⟨Env.get [(0, .p (evsP l)), (5, bl (wgtF (l.take i)).1.1), (6, bl (wgtF (l.take i)).1.2), (7, u64 (wgtF (l.take i)).2), (8, i64 i)], S, 45, []⟩) l.length ?_ ?_ ?_
  · exact le_of (by simp only [go_sem, evsP]; simp [wgtF]) (Sub.refl _) rfl rfl (by simp)
  · intro i hi ih
    have hs := wgtF_snoc l i hi
    have hb : (wgtF (l.take i)).2 ≤ 4503599627370497 := by rw [wgtF_eq]; exact Nat.min_le_right _ _
    have hqi : wi ((i : Int) + 1) = ((i + 1 : Nat) : Int) := wi_succ (show i < 4611686018427387904 by omega)
    refine AWPH.step (xc_ok (bitB 4605) _ _ _ ?_)
    rw [hs] at ih
    obtain ⟨⟨⟨a, b⟩, n⟩, hst⟩ : ∃ s, wgtF (l.take i) = s := ⟨_, rfl⟩
    rw [hst] at ih hb ⊢
    unfold wgtS at ih
    dsimp only at ih hb ⊢
    have hwi := (ho _ (List.getElem_mem hi)).w
    obtain ⟨w, hw⟩ : ∃ w, (l[i]).w = w := ⟨_, rfl⟩
    obtain ⟨t, ht⟩ : ∃ t, (l[i]).t = t := ⟨_, rfl⟩
    rw [hw, ht] at ih
    rw [hw] at hwi
    have hpv : (l.map Event.pv).getD i [] = [.int .u64 t, .int .u64 (l[i]).k, .int .u64 w] := by rw [getD_map' _ _ _ _ hi, ← hw, ← ht]; rfl
    by_cases c1 : 4503599627370497 < w
    · have em : m64 (n + 4503599627370497) = n + 4503599627370497 := m64_id (by omega)
      have e1 : min w 4503599627370497 = 4503599627370497 := Nat.min_eq_right (Nat.le_of_lt c1)
      rw [e1] at ih
      by_cases c2 : 4503599627370497 < n + 4503599627370497
      · have e2 : min (n + 4503599627370497) 4503599627370497 = 4503599627370497 := Nat.min_eq_right (Nat.le_of_lt c2)
        rw [e2] at ih
        cases a <;> cases b
        all_goals
          simp only [go_sem, evsP, hi, ltN' hi, hpv, List.length_map, c1, em, c2]
          refine ih.back (by (repeat (first | exact Sub.refl _ | refine Sub.setF ?_ (by first | assumption | simp only [*]) | refine Sub.setV ?_ (by first | assumption | simp only [*])))) (by simp) ?_
          simp only [go_sem, evsP, hqi, Bool.false_and, Bool.true_and]
      · have e2 : min (n + 4503599627370497) 4503599627370497 = n + 4503599627370497 := Nat.min_eq_left (Nat.le_of_not_lt c2)
        rw [e2] at ih
        cases a <;> cases b
        all_goals
          simp only [go_sem, evsP, hi, ltN' hi, hpv, List.length_map, c1, em, c2]
          refine ih.back (by (repeat (first | exact Sub.refl _ | refine Sub.setF ?_ (by first | assumption | simp only [*]) | refine Sub.setV ?_ (by first | assumption | simp only [*])))) (by simp) ?_
          simp only [go_sem, evsP, hqi, Bool.false_and, Bool.true_and]
    · have em : m64 (n + w) = n + w := m64_id (by omega)
      have e1 : min w 4503599627370497 = w := Nat.min_eq_left (Nat.le_of_not_lt c1)
      rw [e1] at ih
      by_cases c2 : 4503599627370497 < n + w
      · have e2 : min (n + w) 4503599627370497 = 4503599627370497 := Nat.min_eq_right (Nat.le_of_lt c2)
        rw [e2] at ih
        cases a <;> cases b
        all_goals
          simp only [go_sem, evsP, hi, ltN' hi, hpv, List.length_map, c1, em, c2]
          refine ih.back (by (repeat (first | exact Sub.refl _ | refine Sub.setF ?_ (by first | assumption | simp only [*]) | refine Sub.setV ?_ (by first | assumption | simp only [*])))) (by simp) ?_
          simp only [go_sem, evsP, hqi, Bool.false_and, Bool.true_and]
      · have e2 : min (n + w) 4503599627370497 = n + w := Nat.min_eq_left (Nat.le_of_not_lt c2)
        rw [e2] at ih
        cases a <;> cases b
        all_goals
          simp only [go_sem, evsP, hi, ltN' hi, hpv, List.length_map, c1, em, c2]
          refine ih.back (by (repeat (first | exact Sub.refl _ | refine Sub.setF ?_ (by first | assumption | simp only [*]) | refine Sub.setV ?_ (by first | assumption | simp only [*])))) (by simp) ?_
          simp only [go_sem, evsP, hqi, Bool.false_and, Bool.true_and]
  · refine AWPH.step (xc_ok (bitB 4605) _ _ _ ?_)
    simp only [go_sem, evsP, List.take_length, List.length_map]
    (refine ⟨S, by (repeat (first | exact Sub.refl _ | refine Sub.setF ?_ (by first | assumption | simp only [*]) | refine Sub.setV ?_ (by first | assumption | simp only [*]))), ?_⟩); simp
end Go.Sk
end

-- W10h
section
namespace Go.Sk
open Go Go.Proofs

theorem sumT_snoc (l : List Hist) (i : Nat) (hi : i < l.length) : sumT (l.take (i + 1)) = sumT (l.take i) + totN 0 (l[i]).ls := by
  unfold sumT; rw [List.take_succ_eq_append_getElem hi, List.map_append, List.sum_append]; simp
theorem sumT_le (l : List Hist) (hg : ∀ h ∈ l, totN 0 h.ls ≤ 4503599627370496) : sumT l ≤ l.length * 4503599627370496 := by
  induction l with
  | nil => exact Nat.le_refl _
  | cons h r ih =>
    rw [sumT_cons, List.length_cons, Nat.add_mul, Nat.one_mul]
    have h1 := hg h (by simp)
    have h2 := ih (fun x hx => hg x (by simp [hx]))
    omega
theorem withV_e {evs : List Event} {l : List Hist} (h : l = [] ∨ evs.any (fun e => e.w == 0) = true) : withV evs l = (zeroH, 1) := by unfold withV; rw [if_pos h]
theorem withV_ok {evs : List Event} {l : List Hist} (c : Came l evs) : (withV evs l).2 = 0 := by rw [with_val c]
set_option maxHeartbeats 2000000 in
set_option maxRecDepth 8000 in
theorem ref10_bad (evs : List Event) (l : List Hist) (hn : l.length ≤ 1000) (hne : evs.length < 1048576) (hoe : ∀ e ∈ evs, e.Ok) (hf : ∀ h ∈ l, h.Fine) (hg4 : ∀ h ∈ l, h.g ≤ 4) :
    Pure Try.prog 50 [.p (evsP evs), .p (.sl (l.map Hist.cs))] (i64 (withV evs l).2) := fun S => by
  refine callR_of Try.func50 rfl rfl (xc_ok (bitB 239807681756481458163) _ _ _ ?_)
  simp only [go_sem]
  refine (ref10_weighed evs hne hoe).useA ?_
  rw [wgtF_eq]
  dsimp only
  obtain ⟨A, hA⟩ : ∃ A, min (sumE Event.w evs) 4503599627370497 = A := ⟨_, rfl⟩
  have hA1 : A ≤ 4503599627370497 := by rw [← hA]; exact Nat.min_le_right _ _
  have hA2 : 4503599627370496 < A ↔ 4503599627370496 < sumE Event.w evs := by rw [← hA]; omega
  have hA3 : ¬ 4503599627370496 < A → A = sumE Event.w evs := fun h => by rw [← hA] at h ⊢; omega
  rw [hA]
  by_cases hl0 : l = []
  · subst hl0
    simp only [go_sem, List.map_nil]
    rw [withV_e (Or.inl rfl)]
    (refine ⟨S, by (repeat (first | exact Sub.refl _ | refine Sub.setF ?_ (by first | assumption | simp only [*]) | refine Sub.setV ?_ (by first | assumption | simp only [*]))), ?_⟩); simp
  have hlen : 0 < l.length := List.length_pos_iff.2 hl0
  have q0 : (l.length == 0) = false := by simpa using hl0
  cases hem : evs.any (fun e => e.w == 0)
  rotate_left
  · simp only [go_sem, q0, List.length_map, Bool.not_true]
    rw [withV_e (Or.inr hem)]
    (refine ⟨S, by (repeat (first | exact Sub.refl _ | refine Sub.setF ?_ (by first | assumption | simp only [*]) | refine Sub.setV ?_ (by first | assumption | simp only [*]))), ?_⟩); simp
  obtain ⟨k0, hk0⟩ : ∃ k0, (l.headD zeroH).k = k0 := ⟨_, rfl⟩
  have hk0' : (l[0]).k = k0 := by rw [← hk0]; cases l with | nil => exact absurd rfl hl0 | cons a r => rfl
  have hsl : ∀ h ∈ l, h.ls.length ≤ 53 ∧ totN 0 h.ls ≤ 4503599627370496 := fun h hh => ⟨(hf h hh).good.len, (hf h hh).good.tot⟩
  have hget0 : (l.map Hist.cs).getD 0 [] = [.int .i64 k0, .int .i64 (l[0]).g, .sl ((l[0]).ls.map lvE)] := by
    rw [getD_map' _ _ _ _ hlen, ← hk0']; rfl
  simp only [go_sem, q0, List.length_map, Bool.not_false, Bool.not_true]
  refine AWP.roam (ι := Nat) (fun i => i ≤ l.length ∧ ∀ j (h : j < i) (h2 : j < l.length), (l[j]).k = k0)
    (fun i => ⟨Env.get [(1, .p (.sl (l.map Hist.cs))), (6, bl (!evs.any fun e => decide (9223372036854775807 < e.t))), (8, i64 (maxG (l.take i))), (9, u64 (A + sumT (l.take i))), (10, bl (decide (4503599627370496 < A + sumT (l.take i)))), (11, i64 i)], S, 68, []⟩) (fun i => l.length - i) 0 ⟨Nat.zero_le _, fun j h => by omega⟩ ?_ ?_
  · refine le_of (by simp only [go_sem, List.length_map] <;> simp [maxG, sumT]) (Sub.refl _) rfl rfl (by simp)
  · rintro i ⟨hi, hall⟩ ih
    refine AWPH.step (xc_ok (bitB 239807681756481458163) _ _ _ ?_)
    by_cases c : i < l.length
    · have hsi := hsl _ (List.getElem_mem c)
      have hsn := maxG_snoc l i c
      have htn := sumT_snoc l i c
      have hst := sumT_le (l.take i) (fun h hh => (hsl h (List.mem_of_mem_take hh)).2)
      have hst2 : (l.take i).length * 4503599627370496 ≤ 1000 * 4503599627370496 := Nat.mul_le_mul_right _ (by rw [List.length_take]; omega)
      have hqi : wi ((i : Int) + 1) = ((i + 1 : Nat) : Int) := wi_succ (show i < 4611686018427387904 by omega)
      have hkk : (l[i]).k ≠ k0 → (l.any fun h => h.k != (l.headD zeroH).k) = true := fun h => List.any_eq_true.2 ⟨_, List.getElem_mem c, by rw [hk0]; simpa using h⟩
      have hget : (l.map Hist.cs).getD i [] = [.int .i64 (l[i]).k, .int .i64 (l[i]).g, .sl ((l[i]).ls.map lvE)] := by
        rw [getD_map' _ _ _ _ c]; rfl
      simp only [go_sem, c, ltN' c, List.length_map]
      refine AWP.draw2 (bitB 239807681756481458163) mixed (by kernel_rfl) (fun j => bl false) ?_
      simp only [go_sem, c, ltN' c, hget, hlen, ltN' hlen, hget0, List.length_map]
      by_cases hk : (l[i]).k = k0
      rotate_left
      · have e1 : ((l[i]).k != k0) = true := by simpa using hk
        simp only [go_sem, e1]
        rw [withV_k hl0 hem (hkk hk)]
        (refine ⟨S, by (repeat (first | exact Sub.refl _ | refine Sub.setF ?_ (by first | assumption | simp only [*]) | refine Sub.setV ?_ (by first | assumption | simp only [*]))), ?_⟩); simp
      have e1 : ((l[i]).k != k0) = false := by simpa using hk
      have emax : (if (l[i]).g > maxG (l.take i) then (l[i]).g else maxG (l.take i)) = maxG (l.take (i + 1)) := by rw [hsn]; split <;> omega
      simp only [go_sem, e1, c, ltN' c, hget, List.length_map, emax]
      have htv : totV (l[i]).ls = totN 0 (l[i]).ls := totV_eq (by omega)
      refine (ref06_Total (l[i]).k (l[i]).g (l[i]).ls (by omega)).useA ?_
      rw [htv]
      have em : m64 (A + sumT (l.take i) + totN 0 (l[i]).ls) = A + sumT (l.take (i + 1)) := by rw [m64_id (by omega), htn]; omega
      have hinv : i + 1 ≤ l.length ∧ ∀ j (h : j < i + 1) (h2 : j < l.length), (l[j]).k = k0 := ⟨c, fun j h h2 => by
        rcases Nat.lt_or_ge j i with hj | hj
        · exact hall j hj h2
        · obtain rfl : j = i := by omega
          exact hk⟩
      by_cases o1 : 4503599627370496 < A + sumT (l.take i)
      · have o2 : 4503599627370496 < A + sumT (l.take (i + 1)) := by omega
        simp only [go_sem, em, o1]
        refine (ih (i + 1) hinv (by omega)).back (by (repeat (first | exact Sub.refl _ | refine Sub.setF ?_ (by first | assumption | simp only [*]) | refine Sub.setV ?_ (by first | assumption | simp only [*])))) (by simp) ?_
        simp only [go_sem, hqi, o2]
      · simp only [go_sem, em, o1]
        refine (ih (i + 1) hinv (by omega)).back (by (repeat (first | exact Sub.refl _ | refine Sub.setF ?_ (by first | assumption | simp only [*]) | refine Sub.setV ?_ (by first | assumption | simp only [*])))) (by simp) ?_
        simp only [go_sem, hqi]
    · obtain rfl : i = l.length := by omega
      have hnk : l.any (fun h => h.k != (l.headD zeroH).k) = false := by
        rw [List.any_eq_false]
        intro h hh
        obtain ⟨j, hj, rfl⟩ := List.getElem_of_mem hh
        rw [hk0, hall j hj hj]; simp
      have hov : (4503599627370496 < A + sumT l) ↔ (4503599627370496 < sumT l + sumE Event.w evs) := by
        by_cases q : 4503599627370496 < A
        · have := hA2.1 q; constructor <;> intro _ <;> omega
        · rw [hA3 q]; omega
      simp only [go_sem, c, List.take_length, List.length_map]
      by_cases t1 : maxG l ≥ 4
      · simp only [go_sem, t1]
        rw [withV_g hl0 hem hnk (by omega)]
        (refine ⟨S, by (repeat (first | exact Sub.refl _ | refine Sub.setF ?_ (by first | assumption | simp only [*]) | refine Sub.setV ?_ (by first | assumption | simp only [*]))), ?_⟩); simp
      simp only [go_sem, t1]
      cases hfr : evs.any (fun e => decide (9223372036854775807 < e.t))
      rotate_left
      · simp only [go_sem, Bool.not_true, Bool.not_false]
        rw [withV_t hl0 hem hnk (by omega) hfr]
        (refine ⟨S, by (repeat (first | exact Sub.refl _ | refine Sub.setF ?_ (by first | assumption | simp only [*]) | refine Sub.setV ?_ (by first | assumption | simp only [*]))), ?_⟩); simp
      simp only [go_sem, Bool.not_true, Bool.not_false]
      by_cases t2 : 4503599627370496 < A + sumT l
      · simp only [go_sem, t2]
        rw [withV_o hl0 hem hnk (by omega) hfr (hov.1 t2)]
        (refine ⟨S, by (repeat (first | exact Sub.refl _ | refine Sub.setF ?_ (by first | assumption | simp only [*]) | refine Sub.setV ?_ (by first | assumption | simp only [*]))), ?_⟩); simp
      · simp only [go_sem, t2]
        rw [withV_ok (came_of hf hl0 hem hnk (by omega) hfr (fun h => t2 (hov.2 h)))]
        (refine ⟨S, by (repeat (first | exact Sub.refl _ | refine Sub.setF ?_ (by first | assumption | simp only [*]) | refine Sub.setV ?_ (by first | assumption | simp only [*]))), ?_⟩); simp
end Go.Sk
end

-- W10i
section
namespace Go.Sk
open Go Go.Proofs

set_option maxHeartbeats 1000000 in
set_option maxRecDepth 4000 in
theorem ref10_least (m : List (Nat × Nat)) (js : List Nat) (hn : m.length < 1099511627776) {S : Store} {b c : Nat} (hb : S (.r b) = some (.cells ((doneL m.length js).map bl))) :
    CallR Try.prog 52 [.p (.sl (m.map lumE)), .ms b 1 0 m.length c] S (fun r S' => (∃ a : Int, r = i64 a ∧ LeastAt m js m.length a) ∧ S' = S) := by
  refine callR_of Try.func52 rfl rfl (xc_ok (bitB 17179870323) _ _ _ ?_)
  simp only [go_sem]
  refine AWP.roam (ι := Nat × Int) (fun x => x.1 ≤ m.length ∧ LeastAt m js x.1 x.2)
    (fun x => ⟨Env.get [(0, .p (.sl (m.map lumE))), (1, .ms b 1 0 m.length c), (5, i64 x.2), (6, i64 x.1)], S, 37, []⟩) (fun x => m.length - x.1) (0, -1) ⟨Nat.zero_le _, least_zero m js⟩ ?_ ?_
  · refine le_of (by simp only [go_sem] <;> rfl) (Sub.refl _) rfl rfl (by simp)
  · rintro ⟨i, a⟩ ⟨hi, hL⟩ ih
    dsimp only at hi hL ⊢
    have hqi : wi ((i : Int) + 1) = ((i + 1 : Nat) : Int) := wi_succ (show i < 4611686018427387904 by omega)
    refine AWPH.step (xc_ok (bitB 17179870323) _ _ _ ?_)
    by_cases hc : i < m.length
    rotate_left
    · obtain rfl : i = m.length := by omega
      simp only [go_sem, List.length_map]
      exact ⟨_, Sub.refl _, Or.inl ⟨⟨a, rfl, hL⟩, rfl⟩⟩
    have hdl := done_len m.length js
    have hdg := done_get m.length js i hc
    simp only [go_sem, hc, ltN' hc, List.length_map]
    have hdg3 : (List.map bl (doneL m.length js)).getD (i * 1) AV.top = bl (decide (i ∈ js)) := by
      rw [Nat.mul_one, List.getD_eq_getElem?_getD, List.getElem?_map, hdg]; rfl
    have hmi : (m.map lumE).getD i [] = [.int .u64 (m.getD i default).1, .int .u64 (m.getD i default).2] := by
      rw [getD_map' _ _ _ _ hc]; simp [List.getD_eq_getElem?_getD, hc, lumE]
    by_cases hj : i ∈ js
    · refine AWP.draw2 (bitB 17179870323) mixed (by kernel_rfl) (fun j => bl false) ?_
      simp only [go_sem, hc, ltN' hc, List.length_map, hb, hdl, hdg3, hj, decide_true, Bool.not_true]
      refine ⟨by omega, ?_⟩
      refine (ih (i + 1, a) ⟨hc, least_skip hL hj⟩ (by dsimp only; omega)).back (by (repeat (first | exact Sub.refl _ | refine Sub.setF ?_ (by first | assumption | simp only [*]) | refine Sub.setV ?_ (by first | assumption | simp only [*])))) (by simp) ?_
      simp only [go_sem, hqi]
    · by_cases ha : a < 0
      · obtain rfl : a = -1 := by
          rcases hL with ⟨e, _⟩ | ⟨q, e, _⟩
          · exact e
          · omega
        refine AWP.draw2 (bitB 17179870323) mixed (by kernel_rfl) (fun j => bl false) ?_
        simp only [go_sem, hc, ltN' hc, List.length_map, hb, hdl, hdg3, hj, ha, decide_false, Bool.not_false]
        refine ⟨by omega, ?_⟩
        refine (ih (i + 1, (i : Int)) ⟨hc, least_first hL hj⟩ (by dsimp only; omega)).back (by (repeat (first | exact Sub.refl _ | refine Sub.setF ?_ (by first | assumption | simp only [*]) | refine Sub.setV ?_ (by first | assumption | simp only [*])))) (by simp) ?_
        simp only [go_sem, hqi]
      · obtain ⟨q, rfl⟩ : ∃ q : Nat, a = q := ⟨a.toNat, by omega⟩
        obtain ⟨hq, hl1, hl2⟩ := least_more hL hj
        have hqm : q < m.length := by omega
        have hmq : (m.map lumE).getD q [] = [.int .u64 (m.getD q default).1, .int .u64 (m.getD q default).2] := by
          rw [getD_map' _ _ _ _ hqm]; simp [List.getD_eq_getElem?_getD, hqm, lumE]
        by_cases hlt : (m.getD i default).1 < (m.getD q default).1
        · refine AWP.draw2 (bitB 17179870323) mixed (by kernel_rfl) (fun j => bl false) ?_
          simp only [go_sem, hc, ltN' hc, List.length_map, hb, hdl, hdg3, hj, ha, decide_false, Bool.not_false, hmi, hmq, hqm, ltN' hqm, hlt]
          refine ⟨by omega, ?_⟩
          refine (ih (i + 1, (i : Int)) ⟨hc, hl1 hlt⟩ (by dsimp only; omega)).back (by (repeat (first | exact Sub.refl _ | refine Sub.setF ?_ (by first | assumption | simp only [*]) | refine Sub.setV ?_ (by first | assumption | simp only [*])))) (by simp) ?_
          simp only [go_sem, hqi]
        · refine AWP.draw2 (bitB 17179870323) mixed (by kernel_rfl) (fun j => bl false) ?_
          simp only [go_sem, hc, ltN' hc, List.length_map, hb, hdl, hdg3, hj, ha, decide_false, Bool.not_false, hmi, hmq, hqm, ltN' hqm, hlt]
          refine ⟨by omega, ?_⟩
          refine (ih (i + 1, (q : Int)) ⟨hc, hl2 hlt⟩ (by dsimp only; omega)).back (by (repeat (first | exact Sub.refl _ | refine Sub.setF ?_ (by first | assumption | simp only [*]) | refine Sub.setV ?_ (by first | assumption | simp only [*])))) (by simp) ?_
          simp only [go_sem, hqi]
end Go.Sk
end

-- W10j
section
namespace Go.Sk
open Go Go.Proofs

theorem came_iff {evs : List Event} {l : List Hist} (hf : ∀ h ∈ l, h.Fine) (h0 : (withV evs l).2 = 0) : Came l evs := by
  by_cases c1 : l = [] ∨ evs.any (fun e => e.w == 0) = true
  · rw [withV_e c1] at h0; simp at h0
  have hl : l ≠ [] := fun e => c1 (Or.inl e)
  have h1 : evs.any (fun e => e.w == 0) = false := by
    cases h : evs.any (fun e => e.w == 0) with
    | true => exact absurd (Or.inr h) c1
    | false => rfl
  cases h2 : l.any (fun h => h.k != (l.headD zeroH).k) with
  | true => rw [withV_k hl h1 h2] at h0; simp at h0
  | false =>
    by_cases h3 : 4 ≤ maxG l
    · rw [withV_g hl h1 h2 h3] at h0; simp at h0
    cases h4 : evs.any (fun e => decide (9223372036854775807 < e.t)) with
    | true => rw [withV_t hl h1 h2 h3 h4] at h0; simp at h0
    | false =>
      by_cases h5 : 4503599627370496 < sumT l + sumE Event.w evs
      · rw [withV_o hl h1 h2 h3 h4 h5] at h0; simp at h0
      exact came_of hf hl h1 h2 h3 h4 h5
theorem withV_no {evs : List Event} {l : List Hist} (hf : ∀ h ∈ l, h.Fine) (h0 : (withV evs l).2 ≠ 0) : (withV evs l).1 = zeroH := by
  by_cases c1 : l = [] ∨ evs.any (fun e => e.w == 0) = true
  · rw [withV_e c1]
  have hl : l ≠ [] := fun e => c1 (Or.inl e)
  have h1 : evs.any (fun e => e.w == 0) = false := by
    cases h : evs.any (fun e => e.w == 0) with
    | true => exact absurd (Or.inr h) c1
    | false => rfl
  cases h2 : l.any (fun h => h.k != (l.headD zeroH).k) with
  | true => rw [withV_k hl h1 h2]
  | false =>
    by_cases h3 : 4 ≤ maxG l
    · rw [withV_g hl h1 h2 h3]
    cases h4 : evs.any (fun e => decide (9223372036854775807 < e.t)) with
    | true => rw [withV_t hl h1 h2 h3 h4]
    | false =>
      by_cases h5 : 4503599627370496 < sumT l + sumE Event.w evs
      · rw [withV_o hl h1 h2 h3 h4 h5]
      exact absurd (withV_ok (came_of hf hl h1 h2 h3 h4 h5)) h0
set_option maxHeartbeats 2000000 in
set_option maxRecDepth 8000 in
theorem ref10_With (evs : List Event) (l : List Hist) (hn : l.length ≤ 1000) (hne : evs.length < 1048576) (hoe : ∀ e ∈ evs, e.Ok) (hf : ∀ h ∈ l, h.Fine) (hg4 : ∀ h ∈ l, h.g ≤ 4) :
    Pure Try.prog 25 [.p (evsP evs), .p (.sl (l.map Hist.cs))] (.tuple [(withV evs l).1.av, i64 (withV evs l).2]) := fun S => by
  refine callR_of Try.func25 rfl rfl (xc_ok (bitB 1180591761459196788723) _ _ _ ?_)
  simp only [go_sem]
  refine alloc_intro fun c4 h4 => ?_
  have y4 : S (.r c4) = none := h4
  simp only [go_sem]
  refine (ref10_bad evs l hn hne hoe hf hg4).useA ?_
  by_cases h0 : (withV evs l).2 = 0
  rotate_left
  · have e0 : ((withV evs l).2 != 0) = true := by simpa using h0
    rw [withV_no hf h0]
    simp only [go_sem, e0]
    (refine ⟨S, by (repeat (first | exact Sub.refl _ | refine Sub.setF ?_ (by first | assumption | simp only [*]) | refine Sub.setV ?_ (by first | assumption | simp only [*]))), ?_⟩); simp [zeroH]
  have hcm := came_iff hf h0
  have hl0 := hcm.ne
  have hlen : 0 < l.length := List.length_pos_iff.2 hl0
  have e0 : ((withV evs l).2 != 0) = false := by simpa using h0
  obtain ⟨k0, hk0⟩ : ∃ k0, (l.headD zeroH).k = k0 := ⟨_, rfl⟩
  have hk0' : (l[0]).k = k0 := by rw [← hk0]; cases l with | nil => exact absurd rfl hl0 | cons a r => rfl
  have hsl : ∀ h ∈ l, h.ls.length ≤ 53 ∧ totN 0 h.ls ≤ 4503599627370496 := fun h hh => ⟨(hf h hh).good.len, (hf h hh).good.tot⟩
  have hget0 : (l.map Hist.cs).getD 0 [] = [.int .i64 k0, .int .i64 (l[0]).g, .sl ((l[0]).ls.map lvE)] := by
    rw [getD_map' _ _ _ _ hlen, ← hk0']; rfl
  simp only [go_sem, e0, hlen, ltN' hlen, hget0, List.length_map]
  refine alloc_intro fun c7 h7 => ?_
  simp only [fresh_set] at h7
  have y7 : S (.r c7) = none := h7.2
  simp only [go_sem, h7]
  refine AWP.iter (fun i => ⟨Env.get [(0, .p (evsP evs)), (1, .p (.sl (l.map Hist.cs))), (4, .sp c4 0), (7, .sp c7 0), (8, i64 (maxG (l.take i))), (9, i64 i)],
    (S.set (.r c4) (.cells [i64 0, i64 0, .nils])).set (.r c7) (.cells [i64 k0, i64 0, .nils]), 99, []⟩) l.length ?_ ?_ ?_
  · refine le_of (by simp only [go_sem] <;> simp [maxG]) ?_ rfl rfl (by simp)
    ((try dsimp only); (repeat refine sub_set ?_ ?_) <;> first | ((repeat (first | exact Sub.refl _ | refine Sub.setF ?_ (by first | assumption | simp only [*]) | refine Sub.setV ?_ (by first | assumption | simp only [*]))); done) | (simp only [go_sem, h7]; done) | (simp only [go_sem, h7]; rfl) | rfl)
  · intro i hi ih
    have hsn := maxG_snoc l i hi
    have hqi : wi ((i : Int) + 1) = ((i + 1 : Nat) : Int) := wi_succ (show i < 4611686018427387904 by clear h7; omega)
    have hget : (l.map Hist.cs).getD i [] = [.int .i64 (l[i]).k, .int .i64 (l[i]).g, .sl ((l[i]).ls.map lvE)] := by
      rw [getD_map' _ _ _ _ hi]; rfl
    have emax : (if (l[i]).g > maxG (l.take i) then (l[i]).g else maxG (l.take i)) = maxG (l.take (i + 1)) := by rw [hsn]; split <;> omega
    refine AWPH.step (xc_ok (bitB 1180591761459196788723) _ _ _ ?_)
    simp only [go_sem, hi, ltN' hi, hget, List.length_map, emax]
    refine ih.back (by (repeat (first | exact Sub.refl _ | refine Sub.setF ?_ (by first | assumption | simp only [*]) | refine Sub.setV ?_ (by first | assumption | simp only [*])))) (by simp) ?_
    simp only [go_sem, hqi]
  · refine AWPH.step (xc_ok (bitB 1180591761459196788723) _ _ _ ?_)
    simp only [go_sem, h7, List.take_length, List.length_map]
    refine (ref10_lumps l (by omega) (fun h hh => (hf h hh).good) _).useA ?_
    rintro _ _ ⟨v, loc, hv, rfl, rfl⟩
    simp only [freshv_setr] at hv
    simp only [go_sem, h7, hv]
    have hRl := lumpsR_len l (fun h hh => (hf h hh).good)
    have hbig : ∀ i, (lumpsR l ++ evL (evs.take i)).length ≤ 61048576 := fun i => by
      have : (evL (evs.take i)).length ≤ evs.length := by unfold evL; rw [List.length_map, List.length_take]; omega
      rw [List.length_append]; omega
    refine AWP.iterE (ι := Option Nat) (fun loc i => ⟨Env.get [(0, .p (evsP evs)), (4, .sp c4 0), (7, .sp c7 0), (8, i64 (maxG l)), (10, .ts v 2 loc ((lumpsR l ++ evL (evs.take i)).map lumE)), (11, i64 i)],
      ((S.set (.r c4) (.cells [i64 0, i64 0, .nils])).set (.r c7) (.cells [i64 k0, i64 0, .nils])).set (.v v) (.tip 2 (lumpsR l ++ evL (evs.take i)).length loc), 99, []⟩) evs.length loc ?_ ?_ ?_
    · have q : lumpsR l ++ evL [] = lumpsR l := List.append_nil _
      refine le_of (by simp only [go_sem, List.take_zero, q] <;> rfl) ?_ rfl rfl (by simp)
      ((try dsimp only); (repeat refine sub_set ?_ ?_) <;> first | ((repeat (first | exact Sub.refl _ | refine Sub.setF ?_ (by first | assumption | simp only [*]) | refine Sub.setV ?_ (by first | assumption | simp only [*]))); done) | (simp only [go_sem, h7, hv, List.take_zero, q]; done) | (simp only [go_sem, h7, hv, List.take_zero, q]; rfl) | rfl)
    · intro i loc hi ih
      have hqi : wi ((i : Int) + 1) = ((i + 1 : Nat) : Int) := wi_succ (show i < 4611686018427387904 by clear h7; omega)
      have hb := hbig i
      have hnext : lumpsR l ++ evL (evs.take (i + 1)) = (lumpsR l ++ evL (evs.take i)) ++ [((evs[i]).t, (evs[i]).w)] := by
        unfold evL
        rw [List.take_succ_eq_append_getElem hi, List.map_append, List.append_assoc]; rfl
      rw [hnext] at ih
      generalize lumpsR l ++ evL (evs.take i) = M at *
      have hlx : (M ++ [((evs[i]).t, (evs[i]).w)]).length = M.length + 1 := by rw [List.length_append]; rfl
      have e5 : M.map lumE ++ [[.int .u64 (evs[i]).t, .int .u64 (evs[i]).w]] = (M ++ [((evs[i]).t, (evs[i]).w)]).map lumE := by rw [List.map_append]; rfl
      refine AWPH.step (xc_ok (bitB 1180591761459196788723) _ _ _ ?_)
      simp only [go_sem, evsP, hi, ltN' hi, List.length_map]
      refine AWP.draw2 (bitB 1180591761459196788723) mixed (by kernel_rfl) (fun j => bl false) ?_
      simp only [go_sem, evsP, hi, ltN' hi, getD_map' _ _ _ _ hi, List.length_map, hv]
      refine ⟨by rintro el rfl; rfl, lum_len, by clear h7; omega, by clear h7; omega, grow_intro fun loc' => ?_⟩
      simp only [go_sem, hv, hqi, e5]
      refine (ih loc').back ?_ (by simp) ?_
      · ((try dsimp only); (repeat refine sub_set ?_ ?_) <;> first | ((repeat (first | exact Sub.refl _ | refine Sub.setF ?_ (by first | assumption | simp only [*]) | refine Sub.setV ?_ (by first | assumption | simp only [*]))); done) | (simp only [go_sem, h7, hv, e5, hlx, List.length_map]; done) | (simp only [go_sem, h7, hv, e5, hlx, List.length_map]; rfl) | rfl)
      · simp only [go_sem, hqi, evsP]
    · intro loc
      have hb := hbig evs.length
      rw [List.take_length] at hb ⊢
      generalize hM : lumpsR l ++ evL evs = M at *
      refine AWPH.step (xc_ok (bitB 1180591761459196788723) _ _ _ ?_)
      have hMp : M.Perm (lumpsP l ++ evL evs) := by rw [← hM]; exact List.Perm.append_right _ (lumpsR_perm l)
      obtain ⟨hcl, hcs⟩ := came_lumps hcm
      have hMe : ∀ x ∈ M, x.1 ≤ 9223372036854775807 ∧ 1 ≤ x.2 := fun x hx => hcl x (hMp.mem_iff.1 hx)
      have hMs : sumW M ≤ 4503599627370496 := by rw [sumW_perm hMp, hcs]; exact hcm.tot
      have hfk := (hcm.fine _ (head_mem hcm.ne)).good
      have hk2 : 2 ≤ k0 := by rw [← hk0]; exact hfk.k0
      have hk3 : k0 ≤ 1024 := by rw [← hk0]; exact hfk.k1
      simp only [go_sem, h7, hv, evsP, List.length_map]
      refine ⟨by clear h7; omega, by clear h7; omega, make_intro fun b hbf => ?_⟩
      simp only [fresh_set, fresh_setv] at hbf
      have yb : S (.r b) = none := hbf.2.2
      simp only [go_sem, h7, hv, hbf]
      refine AWP.data 10 ?_
      have hz0 : zcs [bl false] M.length = (doneL M.length []).map bl := by
        apply List.ext_getElem
        · simp [zcs, doneL]
        · intro i h1 h2
          simp [zcs, doneL]
      simp only [go_sem, h7, hv, hbf, hz0]
      refine AWP.roam (ι := List Nat) (fun js => Picks M js ∧ js.length ≤ M.length)
        (fun js => ⟨Env.get [(4, .sp c4 0), (7, .sp c7 0), (8, i64 (maxG l)), (10, .p (.sl (M.map lumE))), (12, .ms b 1 0 M.length M.length), (13, i64 js.length)],
          ((S.set (.r c4) (.cells [i64 0, i64 0, .nils])).set (.r c7) (.cells [i64 (foldH ⟨k0, 0, []⟩ (pickL M js)).k, i64 (foldH ⟨k0, 0, []⟩ (pickL M js)).g, if js = [] then .nils else .p (.sl ((foldH ⟨k0, 0, []⟩ (pickL M js)).ls.map lvE))])).set (.r b) (.cells ((doneL M.length js).map bl)), 99, []⟩) (fun js => M.length - js.length) [] ⟨picks_nil M, Nat.zero_le _⟩ ?_ ?_
      · refine le_of (by simp only [go_sem, List.length_nil] <;> rfl) ?_ rfl rfl (by simp)
        rw [if_pos rfl]
        show Sub (((S.set (.r c4) (.cells [i64 0, i64 0, .nils])).set (.r c7) (.cells [i64 k0, i64 0, .nils])).set (.r b) (.cells ((doneL M.length []).map bl))) _
        ((try dsimp only); (repeat refine sub_set ?_ ?_) <;> first | ((repeat (first | exact Sub.refl _ | refine Sub.setF ?_ (by first | assumption | simp only [*]) | refine Sub.setV ?_ (by first | assumption | simp only [*]))); done) | (simp only [go_sem, h7, hv, hbf]; done) | (simp only [go_sem, h7, hv, hbf]; rfl) | rfl)
      · rintro js ⟨hp, hjl⟩ ih
        have hqi : wi ((js.length : Int) + 1) = ((js.length + 1 : Nat) : Int) := wi_succ (show js.length < 4611686018427387904 by clear h7; omega)
        refine AWPH.step (xc_ok (bitB 1180591761459196788723) _ _ _ ?_)
        by_cases hc : js.length < M.length
        · simp only [go_sem, h7, hv, hbf, hc, ltN' hc, List.length_map]
          refine (ref10_least M js (by clear h7; omega) (by simp only [go_sem, h7, hbf])).useA ?_
          rintro _ _ ⟨⟨a, rfl, hL⟩, rfl⟩
          obtain ⟨q, rfl, hq1, hq2, hq3⟩ := least_end hp hc hL
          have hp2 := picks_snoc hp hq1 hq2 hq3
          have hgood := picks_good hk2 hk3 0 hp hMe hMs
          have hqm : (M.map lumE).getD q [] = [.int .u64 (M.getD q default).1, .int .u64 (M.getD q default).2] := by
            rw [getD_map' _ _ _ _ hq1]; simp [List.getD_eq_getElem?_getD, hq1, lumE]
          have hqw : (M.getD q default).2 < 18446744073709551616 := by
            have := sumW_mem (l := M) (M.getD q default) (by rw [List.getD_eq_getElem?_getD, List.getElem?_eq_getElem hq1]; exact List.getElem_mem hq1)
            clear h7 hbf; omega
          have hfs : (addH (foldH ⟨k0, 0, []⟩ (pickL M js)) (M.getD q default).1 (M.getD q default).2).1 = foldH ⟨k0, 0, []⟩ (pickL M (js ++ [q])) := by rw [pickL_snoc, foldH_snoc]
          have hcall := ref06_addH (foldH ⟨k0, 0, []⟩ (pickL M js)) hgood.ok (M.getD q default).1 (M.getD q default).2 hqw
          have hdl := done_len M.length js
          have hds : List.take (q * 1) (List.map bl (doneL M.length js)) ++ [AV.p (PV.bool true)] ++ List.drop (q * 1 + 1) (List.map bl (doneL M.length js)) = (doneL M.length (js ++ [q])).map bl := by
            rw [Nat.mul_one, ← done_set, List.map_set, List.set_eq_take_append_cons_drop, if_pos (by rw [List.length_map, hdl]; exact hq1)]
            simp
          have hjs1 : (js ++ [q] = []) = False := by simp
          have hjl1 : (js ++ [q]).length = js.length + 1 := by rw [List.length_append]; rfl
          simp only [go_sem, h7, hv, hbf, hq1, ltN' hq1, List.length_map]
          refine ⟨by rw [hdl]; clear h7 hbf; omega, ?_⟩
          by_cases hj0 : js = []
          · have hF0 : foldH ⟨k0, 0, []⟩ (pickL M js) = ⟨k0, 0, []⟩ := by rw [hj0]; rfl
            refine AWP.draw2 (bitB 1180591761459196788723) mixed (by kernel_rfl) (fun j => .tuple [(addH (foldH ⟨k0, 0, []⟩ (pickL M js)) (M.getD q default).1 (M.getD q default).2).1.av, i64 (addH (foldH ⟨k0, 0, []⟩ (pickL M js)) (M.getD q default).1 (M.getD q default).2).2]) ?_
            rw [if_pos hj0, hF0, hds]
            rw [hF0] at hcall hfs
            simp only [go_sem, h7, hv, hbf, hq1, ltN' hq1, hqm, List.length_map]
            refine ⟨hcall.draw, alloc_intro fun c15 h15 => ?_⟩
            simp only [fresh_set] at h15
            rw [hfs]
            simp only [go_sem, h7, hv, hbf, h15]
            refine (ih (js ++ [q]) ⟨hp2, by rw [hjl1]; clear h7 hbf; omega⟩ (by rw [hjl1]; clear h7 hbf; omega)).back ?_ (by simp) ?_
            · ((try dsimp only); (repeat refine sub_set ?_ ?_) <;> first | ((repeat (first | exact Sub.refl _ | refine Sub.setF ?_ (by first | assumption | simp only [*]) | refine Sub.setV ?_ (by first | assumption | simp only [*]))); done) | (simp only [go_sem, h7, hv, hbf, h15, hjs1, if_false]; done) | (simp only [go_sem, h7, hv, hbf, h15, hjs1, if_false]; rfl) | rfl)
            · simp only [go_sem, hqi, hjl1]
          · refine AWP.draw2 (bitB 1180591761459196788723) mixed (by kernel_rfl) (fun j => .tuple [(addH (foldH ⟨k0, 0, []⟩ (pickL M js)) (M.getD q default).1 (M.getD q default).2).1.av, i64 (addH (foldH ⟨k0, 0, []⟩ (pickL M js)) (M.getD q default).1 (M.getD q default).2).2]) ?_
            rw [if_neg hj0, hds]
            simp only [go_sem, h7, hv, hbf, hq1, ltN' hq1, hqm, List.length_map]
            refine ⟨hcall.draw, alloc_intro fun c15 h15 => ?_⟩
            simp only [fresh_set] at h15
            rw [hfs]
            simp only [go_sem, h7, hv, hbf, h15]
            refine (ih (js ++ [q]) ⟨hp2, by rw [hjl1]; clear h7 hbf; omega⟩ (by rw [hjl1]; clear h7 hbf; omega)).back ?_ (by simp) ?_
            · ((try dsimp only); (repeat refine sub_set ?_ ?_) <;> first | ((repeat (first | exact Sub.refl _ | refine Sub.setF ?_ (by first | assumption | simp only [*]) | refine Sub.setV ?_ (by first | assumption | simp only [*]))); done) | (simp only [go_sem, h7, hv, hbf, h15, hjs1, if_false]; done) | (simp only [go_sem, h7, hv, hbf, h15, hjs1, if_false]; rfl) | rfl)
            · simp only [go_sem, hqi, hjl1]
        · have hjn : js.length = M.length := by clear h7 hbf; omega
          have hperm := (picks_all hp hjn).trans hMp
          obtain ⟨hw, _⟩ := with_any hcm hperm hp.ord 0
          obtain ⟨_, _, b3, b4, _⟩ := with_ok hcm
          have hmg := maxG_le (l := l) hg4
          have ew : wi (maxG l + 1) = maxG l + 1 := wi_id (by clear h7 hbf; omega) (by clear h7 hbf; omega)
          rw [hk0] at hw b3
          have hres : (withV evs l).1 = ⟨k0, maxG l + 1, (withV evs l).1.ls⟩ := by rw [← b3, ← b4]
          rw [h0, hres]
          rw [hw]
          simp only [go_sem, h7, hv, hbf, hc, List.length_map, ew]
          by_cases hj0 : js = []
          · rw [hj0] at hw
            have hls : (withV evs l).1.ls = [] := by
              have : (⟨k0, 0, []⟩ : Hist) = ⟨k0, 0, (withV evs l).1.ls⟩ := hw
              simpa using this.symm
            rw [if_pos hj0, hls]
            simp only [go_sem]
            refine ⟨S, Sub.set (Sub.set (Sub.set (Sub.set (Sub.set (Sub.refl _) y4 _) y7 _) yb _) y7 _) y4 _, ?_⟩
            exact Or.inl rfl
          · rw [if_neg hj0]
            simp only [go_sem]
            refine ⟨S, Sub.set (Sub.set (Sub.set (Sub.set (Sub.set (Sub.refl _) y4 _) y7 _) yb _) y7 _) y4 _, ?_⟩
            exact Or.inr rfl
theorem ref10_Merge (l : List Hist) (hn : l.length ≤ 1000) (hf : ∀ h ∈ l, h.Fine) (hg4 : ∀ h ∈ l, h.g ≤ 4) :
    Pure Try.prog 32 [.p (.sl (l.map Hist.cs))] (.tuple [(withV [] l).1.av, i64 (withV [] l).2]) := fun S => by
  refine callR_of Try.func32 rfl rfl (xc_ok (bitB 13) _ _ _ ?_)
  simp only [go_sem]
  refine alloc_intro fun c2 h2 => ?_
  have y2 : S (.r c2) = none := h2
  simp only [go_sem]
  refine (ref10_With [] l hn (by simp) (fun e he => by cases he) hf hg4).useA ?_
  simp only [go_sem]
  (refine ⟨S, by (repeat (first | exact Sub.refl _ | refine Sub.setF ?_ (by first | assumption | simp only [*]) | refine Sub.setV ?_ (by first | assumption | simp only [*]))), ?_⟩); simp
end Go.Sk
end
