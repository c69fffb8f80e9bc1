/- Texts W13p W10a A40 A42 A41, joined. -/
import Derived.Test.YtmpockfgppcnbaaW0
import Derived.Test.YtmpockfgppcnbaaR10D
import Derived.Test.YtmpockfgppcnbaaSkTp
import Derived.Test.YtmpockfgppcnbaaSkRg
set_option linter.unusedSimpArgs false
set_option linter.unusedVariables false
set_option linter.unusedSectionVars false
-- W13p
section
namespace Go.Sk

structure Event.Ok (e : Event) : Prop where
  t : e.t < 18446744073709551616
  k : e.k < 18446744073709551616
  w : e.w < 18446744073709551616
noncomputable def withinV (tick span : Nat) (e : Event) : Bool := decide (e.t ≤ tick) && (decide (span > tick) || decide (e.t > sub64 tick span))

noncomputable def sumV (p : Event → Bool) (q : Event → Nat) (n : Nat) (l : List Event) : Nat := l.foldl (fun n e => if p e = true then m64 (n + q e) else n) n
theorem sumV_snoc (p : Event → Bool) (q : Event → Nat) (n : Nat) (l : List Event) (i : Nat) (hi : i < l.length) : sumV p q n (l.take (i + 1)) = if p l[i] = true then m64 (sumV p q n (l.take i) + q l[i]) else sumV p q n (l.take i) := by
  unfold sumV; rw [List.take_succ_eq_append_getElem hi, List.foldl_append]; rfl

noncomputable def spanV (l : List Event) (tick span : Nat) : Nat := sumV (withinV tick span) Event.w 0 l

end Go.Sk
end

-- W10a
section
namespace Go.Sk
open Go Go.Proofs

theorem with_empty (e : Event) : Pure Try.prog 42 [e.av] (bl (e.w == 0)) := fun S => by
  refine callR_of Try.func42 rfl rfl (xc_ok (bitB 7) _ _ _ ?_)
  simp only [go_sem]
  refine alloc_intro fun b hb => ?_
  simp only [go_sem]
  (refine ⟨S, by (repeat (first | exact Sub.refl _ | refine Sub.setF ?_ (by first | assumption | simp only [*]) | refine Sub.setV ?_ (by first | assumption | simp only [*]))), ?_⟩); simp
theorem with_far (e : Event) : Pure Try.prog 43 [e.av] (bl (decide (9223372036854775807 < e.t))) := fun S => by
  refine callR_of Try.func43 rfl rfl (xc_ok (bitB 7) _ _ _ ?_)
  simp only [go_sem]
  refine alloc_intro fun b hb => ?_
  simp only [go_sem]
  (refine ⟨S, by (repeat (first | exact Sub.refl _ | refine Sub.setF ?_ (by first | assumption | simp only [*]) | refine Sub.setV ?_ (by first | assumption | simp only [*]))), ?_⟩); simp
theorem index_any (f : Nat) (p : Event → Bool) (hp : ∀ e : Event, Pure Try.prog f [e.av] (bl (p e))) (l : List Event) (hn : l.length < 1099511627776) :
    Pure Try.prog 66 [.p (evsP l), .fn (.func f) [] []] (i64 (if l.any p = true then (l.findIdx p : Int) else -1)) := fun S => by
  refine callR_of Try.func66 rfl rfl (xc_ok (bitB 66483) _ _ _ ?_)
  simp only [go_sem, evsP]
  refine AWP.roam (ι := Nat) (fun i => i ≤ l.length ∧ ∀ j (h : j < i) (h2 : j < l.length), p l[j] = false)
    (fun i => ⟨Env.get [(0, .p (evsP l)), (1, .fn (.func f) [] []), (7, i64 l.length), (8, i64 i)], S, 19, []⟩) (fun i => l.length - i) 0 ⟨by simp, fun j h => by omega⟩ ?_ ?_
  · exact le_of (by simp only [go_sem, evsP, List.length_map] <;> rfl) (Sub.refl _) rfl rfl (by simp)
  · rintro i ⟨hi, hall⟩ ih
    refine AWPH.step (xc_ok (bitB 66483) _ _ _ ?_)
    by_cases c : i < l.length
    · simp only [go_sem, evsP, c, ltN' c, getD_map' _ _ _ _ c, List.length_map]
      refine Pure.useF (first := []) (caps := []) (args := [(l[i]).av]) (a2 := [(l[i]).av]) (hp l[i]) rfl ?_
      cases ho : p l[i]
      · simp only [go_sem]
        refine (ih (i + 1) ⟨c, fun j h h2 => ?_⟩ (by omega)).back (by (repeat (first | exact Sub.refl _ | refine Sub.setF ?_ (by first | assumption | simp only [*]) | refine Sub.setV ?_ (by first | assumption | simp only [*])))) (by simp) ?_
        · rcases Nat.lt_or_ge j i with hj | hj
          · exact hall j hj h2
          · obtain rfl : j = i := by omega
            exact ho
        · simp only [go_sem, evsP, wi_succ (show i < 4611686018427387904 by omega)]
      · simp only [go_sem]
        have h1 : l.any p = true := List.any_eq_true.2 ⟨_, List.getElem_mem c, ho⟩
        have h2 : l.findIdx p = i := (List.findIdx_eq c).2 ⟨ho, fun j hj => hall j hj (by omega)⟩
        (refine ⟨S, by (repeat (first | exact Sub.refl _ | refine Sub.setF ?_ (by first | assumption | simp only [*]) | refine Sub.setV ?_ (by first | assumption | simp only [*]))), ?_⟩); rw [if_pos h1, h2]; simp
    · obtain rfl : i = l.length := by omega
      simp only [go_sem, evsP, c, List.length_map]
      have h1 : ¬ l.any p = true := fun h => by
        obtain ⟨x, hx, h⟩ := List.any_eq_true.1 h
        obtain ⟨j, hj, rfl⟩ := List.getElem_of_mem hx
        rw [hall j hj hj] at h; cases h
      (refine ⟨S, by (repeat (first | exact Sub.refl _ | refine Sub.setF ?_ (by first | assumption | simp only [*]) | refine Sub.setV ?_ (by first | assumption | simp only [*]))), ?_⟩); rw [if_neg h1]; simp
theorem contains_any (f : Nat) (p : Event → Bool) (hp : ∀ e : Event, Pure Try.prog f [e.av] (bl (p e))) (l : List Event) (hn : l.length < 1099511627776) :
    Pure Try.prog 44 [.p (evsP l), .fn (.func f) [] []] (bl (l.any p)) := fun S => by
  refine callR_of Try.func44 rfl rfl (xc_ok (bitB 19) _ _ _ ?_)
  simp only [go_sem]
  refine (index_any f p hp l hn).useA ?_
  simp only [go_sem]
  have e : decide ((if l.any p = true then (l.findIdx p : Int) else -1) ≥ 0) = l.any p := by
    cases l.any p <;> simp
  simp only [go_sem, e]
  (refine ⟨S, by (repeat (first | exact Sub.refl _ | refine Sub.setF ?_ (by first | assumption | simp only [*]) | refine Sub.setV ?_ (by first | assumption | simp only [*]))), ?_⟩); simp

/-- How much weight there still may be, and whether there was more. -/
def layS (s : Nat × Bool) (n : Nat) : Nat × Bool := (s.1 - min n s.1, s.2 || decide (s.1 < n))
def scaleC (s : Nat × Bool) : List AV := [u64 s.1, bl s.2]
theorem lay_in {S : Store} {b : Nat} (s : Nat × Bool) (n : Nat) (hs : s.1 < 18446744073709551616) (h1 : S (.r b) = some (.cells (scaleC s))) :
    CallR Try.prog 45 [.sp b 0, u64 n] S (fun r S' => r = .tuple [] ∧ S' = S.set (.r b) (.cells (scaleC (layS s n)))) := by
  obtain ⟨a, o⟩ := s
  unfold scaleC at h1 ⊢
  dsimp only at hs h1 ⊢
  refine callR_of Try.func45 rfl rfl (xc_ok (bitB 3) _ _ _ ?_)
  have hm : min n a ≤ a := Nat.min_le_right _ _
  by_cases c : a < n
  · have e1 : min n a = a := by omega
    have e2 : sub64 a a = 0 := by rw [sub64_le hs (Nat.le_refl a)]; omega
    cases o
    · simp only [go_sem, h1]
      refine AWP.draw2 (bitB 3) mixed (by kernel_rfl) (fun j => bl false) ?_
      simp only [go_sem, c, e2]
      exact ⟨_, Sub.refl _, Or.inl (by simp [layS, c, e1, e2] <;> rfl)⟩
    · simp only [go_sem, h1]
      refine AWP.draw2 (bitB 3) mixed (by kernel_rfl) (fun j => bl false) ?_
      simp only [go_sem, c, e2]
      exact ⟨_, Sub.refl _, Or.inl (by simp [layS, c, e1, e2] <;> rfl)⟩
  · have e1 : min n a = n := by omega
    have e2 : sub64 a n = a - n := sub64_le hs (by omega)
    cases o
    · simp only [go_sem, h1]
      refine AWP.draw2 (bitB 3) mixed (by kernel_rfl) (fun j => bl false) ?_
      simp only [go_sem, c, e2]
      exact ⟨_, Sub.refl _, Or.inl (by simp [layS, c, e1, e2] <;> rfl)⟩
    · simp only [go_sem, h1]
      refine AWP.draw2 (bitB 3) mixed (by kernel_rfl) (fun j => bl false) ?_
      simp only [go_sem, c, e2]
      exact ⟨_, Sub.refl _, Or.inl (by simp [layS, c, e1, e2] <;> rfl)⟩
end Go.Sk
end

-- A40
section
namespace Go.Sk

def gA (l : List Hist) : Int := l.foldl (fun g h => max g (h.g + 1)) 0
theorem gA_snoc (l : List Hist) (i : Nat) (hi : i < l.length) : gA (l.take (i + 1)) = max (gA (l.take i)) ((l[i]).g + 1) := by
  unfold gA; rw [List.take_succ_eq_append_getElem hi, List.foldl_append]; rfl
theorem maxG_snoc (l : List Hist) (i : Nat) (hi : i < l.length) : maxG (l.take (i + 1)) = max (maxG (l.take i)) (l[i]).g := by
  unfold maxG; rw [List.take_succ_eq_append_getElem hi, List.foldl_append]; rfl
theorem gA_eq {l : List Hist} (hne : l ≠ []) (hg : ∀ h ∈ l, 0 ≤ h.g) : gA l = maxG l + 1 := by
  have key : ∀ (l : List Hist) (g : Int), l.foldl (fun g h => max g (h.g + 1)) (g + 1) = l.foldl (fun g h => max g h.g) g + 1 := by
    intro l
    induction l with
    | nil => intro g; rfl
    | cons x r ih =>
      intro g
      simp only [List.foldl_cons]
      rw [← ih (max g x.g)]
      congr 1; omega
  cases l with
  | nil => exact absurd rfl hne
  | cons x r =>
    have hx := hg x (by simp)
    unfold gA maxG
    simp only [List.foldl_cons]
    rw [show max (0 : Int) (x.g + 1) = x.g + 1 by omega, show max (0 : Int) x.g = x.g by omega]
    exact key r x.g
theorem gA_le {l : List Hist} (hg : ∀ h ∈ l, h.g ≤ 4) : 0 ≤ gA l ∧ gA l ≤ 5 := by
  have key : ∀ (l : List Hist) (g : Int), (∀ h ∈ l, h.g ≤ 4) → 0 ≤ g → g ≤ 5 → 0 ≤ l.foldl (fun g h => max g (h.g + 1)) g ∧ l.foldl (fun g h => max g (h.g + 1)) g ≤ 5 := by
    intro l
    induction l with
    | nil => intro g _ h1 h2; exact ⟨h1, h2⟩
    | cons x r ih =>
      intro g h h1 h2
      have := h x (by simp)
      exact ih _ (fun y hy => h y (by simp [hy])) (by dsimp only; omega) (by dsimp only; omega)
  exact key l 0 hg (by omega) (by omega)
theorem maxG_le {l : List Hist} (hg : ∀ h ∈ l, h.g ≤ 4) : 0 ≤ maxG l ∧ maxG l ≤ 4 := by
  have key : ∀ (l : List Hist) (g : Int), (∀ h ∈ l, h.g ≤ 4) → 0 ≤ g → g ≤ 4 → 0 ≤ l.foldl (fun g h => max g h.g) g ∧ l.foldl (fun g h => max g h.g) g ≤ 4 := by
    intro l
    induction l with
    | nil => intro g _ h1 h2; exact ⟨h1, h2⟩
    | cons x r ih =>
      intro g h h1 h2
      have := h x (by simp)
      exact ih _ (fun y hy => h y (by simp [hy])) (by dsimp only; omega) (by dsimp only; omega)
  exact key l 0 hg (by omega) (by omega)
def layN (s : Nat × Bool) (ns : List Nat) : Nat × Bool := ns.foldl layS s
theorem layN_eq (ns : List Nat) : ∀ s : Nat × Bool, layN s ns = (s.1 - ns.sum, s.2 || decide (s.1 < ns.sum)) := by
  induction ns with
  | nil => intro s; obtain ⟨a, o⟩ := s; simp [layN]
  | cons n r ih =>
    intro s
    obtain ⟨a, o⟩ := s
    show layN (layS (a, o) n) r = _
    rw [ih]
    unfold layS
    simp only [List.sum_cons]
    refine Prod.ext ?_ ?_
    · show a - min n a - r.sum = a - (n + r.sum); omega
    · show ((o || decide (a < n)) || decide (a - min n a < r.sum)) = (o || decide (a < n + r.sum))
      rw [Bool.or_assoc]
      congr 1
      by_cases h1 : a < n
      · simp [h1]; omega
      · have e : (a - min n a < r.sum) ↔ (a < n + r.sum) := by omega
        simp [h1, e]
theorem layN_lt (ns : List Nat) (s : Nat × Bool) : (layN s ns).1 ≤ s.1 := by rw [layN_eq]; exact Nat.sub_le _ _
def totsL (l : List Hist) : List Nat := l.map fun h => totN 0 h.ls
theorem layN_snoc (s : Nat × Bool) (ns : List Nat) (n : Nat) : layN s (ns ++ [n]) = layS (layN s ns) n := by unfold layN; rw [List.foldl_append]; rfl
theorem totsL_snoc (l : List Hist) (i : Nat) (hi : i < l.length) : totsL (l.take (i + 1)) = totsL (l.take i) ++ [totN 0 (l[i]).ls] := by
  unfold totsL; rw [List.take_succ_eq_append_getElem hi, List.map_append]; rfl
theorem evW_snoc (l : List Event) (i : Nat) (hi : i < l.length) : (l.take (i + 1)).map Event.w = (l.take i).map Event.w ++ [(l[i]).w] := by
  rw [List.take_succ_eq_append_getElem hi, List.map_append]; rfl
theorem withV_k {evs : List Event} {l : List Hist} (hl : l ≠ []) (h1 : evs.any (fun e => e.w == 0) = false) (h2 : l.any (fun h => h.k != (l.headD zeroH).k) = true) : withV evs l = (zeroH, 9) := by
  unfold withV
  rw [if_neg (by rw [h1]; simp [hl]), if_pos h2]
theorem withV_g {evs : List Event} {l : List Hist} (hl : l ≠ []) (h1 : evs.any (fun e => e.w == 0) = false) (h2 : l.any (fun h => h.k != (l.headD zeroH).k) = false) (h3 : 4 ≤ maxG l) : withV evs l = (zeroH, 10) := by
  unfold withV
  rw [if_neg (by rw [h1]; simp [hl]), if_neg (by rw [h2]; simp), if_pos h3]
theorem withV_t {evs : List Event} {l : List Hist} (hl : l ≠ []) (h1 : evs.any (fun e => e.w == 0) = false) (h2 : l.any (fun h => h.k != (l.headD zeroH).k) = false) (h3 : ¬ 4 ≤ maxG l) (h4 : evs.any (fun e => decide (9223372036854775807 < e.t)) = true) : withV evs l = (zeroH, 6) := by
  unfold withV
  rw [if_neg (by rw [h1]; simp [hl]), if_neg (by rw [h2]; simp), if_neg h3, if_pos h4]
theorem withV_o {evs : List Event} {l : List Hist} (hl : l ≠ []) (h1 : evs.any (fun e => e.w == 0) = false) (h2 : l.any (fun h => h.k != (l.headD zeroH).k) = false) (h3 : ¬ 4 ≤ maxG l) (h4 : evs.any (fun e => decide (9223372036854775807 < e.t)) = false) (h5 : 4503599627370496 < sumT l + sumE Event.w evs) : withV evs l = (zeroH, 5) := by
  unfold withV
  rw [if_neg (by rw [h1]; simp [hl]), if_neg (by rw [h2]; simp), if_neg h3, if_neg (by rw [h4]; simp), if_pos h5]
theorem came_of {evs : List Event} {l : List Hist} (hf : ∀ h ∈ l, h.Fine) (hl : l ≠ []) (h1 : evs.any (fun e => e.w == 0) = false) (h2 : l.any (fun h => h.k != (l.headD zeroH).k) = false) (h3 : ¬ 4 ≤ maxG l) (h4 : evs.any (fun e => decide (9223372036854775807 < e.t)) = false) (h5 : ¬ 4503599627370496 < sumT l + sumE Event.w evs) : Came l evs := by
  refine ⟨hl, fun h hh => ?_, hf, by omega, fun e he => ⟨?_, ?_⟩, by omega⟩
  · rw [List.any_eq_false] at h2
    have := h2 h hh
    simpa using this
  · rw [List.any_eq_false] at h1
    have := h1 e he
    simp at this; omega
  · rw [List.any_eq_false] at h4
    have := h4 e he
    simp at this; omega
theorem over_eq (l : List Hist) (evs : List Event) : (layN (layN (4503599627370496, false) (totsL l)) (evs.map Event.w)).2 = decide (4503599627370496 < sumT l + sumE Event.w evs) := by
  rw [layN_eq, layN_eq]
  have h1 : (totsL l).sum = sumT l := rfl
  have h2 : (evs.map Event.w).sum = sumE Event.w evs := rfl
  rw [h1, h2]
  dsimp only
  by_cases a : 4503599627370496 < sumT l
  · simp [a]; omega
  · have e : (4503599627370496 - sumT l < sumE Event.w evs) ↔ (4503599627370496 < sumT l + sumE Event.w evs) := by omega
    simp [a, e]
end Go.Sk
end

-- A42
section
namespace Go.Sk

theorem flowS_few {k i : Nat} {c : List Span} (h : c ≠ []) (hl : c.length ≤ mostN k i) : flowS k i [] c = [c] := by
  have hp : pairsN c.length (mostN k i) = 0 := by unfold pairsN; omega
  rw [flowS_cons (fun e => h e.2)]
  simp only [List.headD_nil, List.nil_append, List.tail_nil, hp, Nat.mul_zero, List.drop_zero, List.take_zero]
  have : pairUp [] = [] := rfl
  rw [this, flowS_nil]
theorem newM_zero : newM 0 = ⟨2, 0, []⟩ := rfl
theorem made_one (g : Nat) (hg : g < 1000) : madeD 0 [⟨g, 1⟩] = ⟨2, 0, [[⟨g, g⟩]]⟩ := by
  have e : madeD 0 [⟨g, 1⟩] = (madeS (newM 0, 0) ⟨g, 1⟩).1 := rfl
  have hv := one_val (k := 2) (by omega) (t := g) (w := 1) (by omega) (Nat.le_refl _) (by omega)
  have e3 : (0 + g % 1000) = g := by omega
  rw [e, newM_zero]
  unfold madeS
  dsimp only
  rw [e3, hv, if_pos rfl, flowS_few (by simp) (by rw [List.length_replicate]; unfold mostN; simp)]
  rfl
def aw0 : Hist := ⟨2, 0, [[⟨1, 1⟩]]⟩
def aw1 : Hist := ⟨2, 0, [[⟨2, 2⟩]]⟩
theorem aw_made : madeD 0 [⟨1, 1⟩] = aw0 ∧ madeD 0 [⟨2, 1⟩] = aw1 := ⟨made_one 1 (by omega), made_one 2 (by omega)⟩
theorem aw_came : Came [aw1, aw0] [] := by
  have h0 := (made_deep 0 [⟨1, 1⟩]).1.fine
  have h1 := (made_deep 0 [⟨2, 1⟩]).1.fine
  rw [aw_made.1] at h0
  rw [aw_made.2] at h1
  refine ⟨by simp, fun h hh => ?_, fun h hh => ?_, by decide, fun e he => (by cases he), by decide⟩
  · simp only [List.mem_cons, List.not_mem_nil, or_false] at hh
    rcases hh with rfl | rfl <;> rfl
  · simp only [List.mem_cons, List.not_mem_nil, or_false] at hh
    rcases hh with rfl | rfl
    · exact h1
    · exact h0
theorem aw_with : withV [] [aw1, aw0] = (⟨2, 1, [[⟨1, 1⟩, ⟨2, 2⟩]]⟩, 0) := by
  have c := aw_came
  have hp : ([(1, 1), (2, 1)] : List (Nat × Nat)).Perm (lumpsP [aw1, aw0] ++ evL []) := by
    show List.Perm [(1, 1), (2, 1)] [(2, 1), (1, 1)]
    exact List.Perm.swap _ _ _
  have ho : Ord [(1, 1), (2, 1)] := by unfold Ord; simp
  obtain ⟨a, _⟩ := with_any c hp ho 0
  obtain ⟨b1, _, b3, b4, _⟩ := with_ok c
  have hk : ([aw1, aw0].headD zeroH).k = 2 := rfl
  rw [hk] at a b3
  have hf := (fold_new (k := 2) (by omega) (by omega) ho (fun x hx => by
    simp only [List.mem_cons, List.not_mem_nil, or_false] at hx
    rcases hx with rfl | rfl <;> (constructor <;> (dsimp only; omega))) (by decide)).1
  rw [hf] at a
  have hu : unitsE [(1, 1), (2, 1)] = [⟨1, 1⟩, ⟨2, 2⟩] := rfl
  rw [hu, flowS_few (by simp) (by unfold mostN; simp)] at a
  have hls : (withV [] [aw1, aw0]).1.ls = [[⟨1, 1⟩, ⟨2, 2⟩]] := by
    have := congrArg Hist.ls a
    simpa using this.symm
  have hg : maxG [aw1, aw0] = 0 := rfl
  rw [hg] at b4
  generalize withV [] [aw1, aw0] = R at *
  obtain ⟨⟨rk, rg, rl⟩, rc⟩ := R
  simp only at b1 b3 b4 hls
  rw [b1, b3, b4, hls]; rfl
end Go.Sk
end

-- A41
section
namespace Go.Sk

theorem nd_perm : ∀ (l m : List Nat), l.Nodup → m.Nodup → (∀ x, x ∈ l ↔ x ∈ m) → l.Perm m := by
  intro l
  induction l with
  | nil =>
    intro m _ _ h
    have : m = [] := List.eq_nil_iff_forall_not_mem.2 fun x hx => by simpa using (h x).2 hx
    subst this; exact List.Perm.refl _
  | cons a r ih =>
    intro m h1 h2 h
    have ha : a ∈ m := (h a).1 List.mem_cons_self
    obtain ⟨hna, hr⟩ := List.nodup_cons.1 h1
    have hp := List.perm_cons_erase ha
    refine ((ih (m.erase a) hr (h2.erase a) fun x => ?_).cons a).trans hp.symm
    rw [h2.mem_erase_iff]
    constructor
    · intro hx; exact ⟨by rintro rfl; exact hna hx, (h x).1 (List.mem_cons_of_mem _ hx)⟩
    · rintro ⟨hne, hx⟩
      rcases List.mem_cons.1 ((h x).2 hx) with e | e
      · exact absurd e hne
      · exact e
theorem nd_all (js : List Nat) (n : Nat) (h : js.Nodup) (hb : ∀ x ∈ js, x < n) (hl : js.length = n) : js.Perm (List.range n) := by
  have hp : js.Perm ((List.range n).filter fun x => decide (x ∈ js)) := nd_perm _ _ h (List.nodup_range.filter _) fun x => by
    rw [List.mem_filter, List.mem_range]; simp; exact fun hx => hb x hx
  have hlen := hp.length_eq
  have e : (List.range n).filter (fun x => decide (x ∈ js)) = List.range n := by
    refine List.filter_eq_self.2 ?_
    refine List.length_filter_eq_length_iff.1 ?_
    rw [← hlen, hl, List.length_range]
  rw [e] at hp; exact hp
theorem nd_lt (js : List Nat) (n : Nat) (h : js.Nodup) (hb : ∀ x ∈ js, x < n) (hl : js.length < n) : ∃ x, x < n ∧ x ∉ js := by
  apply Classical.byContradiction
  intro hc
  have hall : ∀ x, x < n → x ∈ js := fun x hx => Classical.byContradiction fun hn => hc ⟨x, hx, hn⟩
  have hp : js.Perm (List.range n) := nd_perm _ _ h List.nodup_range fun x => by
    rw [List.mem_range]; exact ⟨hb x, hall x⟩
  have := hp.length_eq
  rw [List.length_range] at this; omega
def pickL (m : List (Nat × Nat)) (js : List Nat) : List (Nat × Nat) := js.map fun j => m.getD j default
structure Picks (m : List (Nat × Nat)) (js : List Nat) : Prop where
  nd : js.Nodup
  lt : ∀ j ∈ js, j < m.length
  ord : Ord (pickL m js)
  rest : ∀ i ∈ js, ∀ j, j < m.length → j ∉ js → (m.getD i default).1 ≤ (m.getD j default).1
theorem picks_nil (m : List (Nat × Nat)) : Picks m [] := ⟨List.nodup_nil, fun j h => (by cases h), List.Pairwise.nil, fun i h => (by cases h)⟩
theorem picks_snoc {m : List (Nat × Nat)} {js : List Nat} (p : Picks m js) {a : Nat} (ha : a < m.length) (hn : a ∉ js) (hm : ∀ j, j < m.length → j ∉ js → (m.getD a default).1 ≤ (m.getD j default).1) : Picks m (js ++ [a]) := by
  refine ⟨?_, fun j hj => ?_, ?_, fun i hi j hj hjn => ?_⟩
  · rw [List.nodup_append]
    refine ⟨p.nd, by simp, fun x hx y hy => ?_⟩
    simp only [List.mem_singleton] at hy
    subst hy; rintro rfl; exact hn hx
  · rcases List.mem_append.1 hj with h | h
    · exact p.lt j h
    · rw [List.mem_singleton.1 h]; exact ha
  · unfold Ord pickL
    rw [List.map_append]
    refine List.pairwise_append.2 ⟨p.ord, by simp, fun x hx y hy => ?_⟩
    obtain ⟨i, hi, rfl⟩ := List.mem_map.1 hx
    simp only [List.map_cons, List.map_nil, List.mem_singleton] at hy
    subst hy
    exact p.rest i hi a ha hn
  · rw [List.mem_append, List.mem_singleton] at hjn
    rcases List.mem_append.1 hi with h | h
    · exact p.rest i h j hj (fun h => hjn (Or.inl h))
    · rw [List.mem_singleton.1 h]; exact hm j hj (fun h => hjn (Or.inl h))
theorem picks_all {m : List (Nat × Nat)} {js : List Nat} (p : Picks m js) (hl : js.length = m.length) : (pickL m js).Perm m := by
  have hp := (nd_all js m.length p.nd p.lt hl).map (fun j => m.getD j default)
  have e : (List.range m.length).map (fun j => m.getD j default) = m := by
    apply List.ext_getElem
    · simp
    · intro i h1 h2
      simp at h1
      simp [List.getD_eq_getElem?_getD, h2]
  rw [e] at hp; exact hp
def doneL (n : Nat) (js : List Nat) : List Bool := (List.range n).map fun j => decide (j ∈ js)
theorem done_len (n : Nat) (js : List Nat) : (doneL n js).length = n := by unfold doneL; simp
theorem done_get (n : Nat) (js : List Nat) (j : Nat) (h : j < n) : (doneL n js)[j]? = some (decide (j ∈ js)) := by unfold doneL; simp [h]
theorem done_set (n : Nat) (js : List Nat) (a : Nat) : (doneL n js).set a true = doneL n (js ++ [a]) := by
  apply List.ext_getElem
  · simp [doneL]
  · intro i h1 h2
    rw [List.getElem_set]
    unfold doneL
    by_cases e : a = i
    · simp [e]
    · have e' : ¬ i = a := fun h => e h.symm
      simp [e, e']
/-- What is so of the place of the least one, of the first i. -/
def LeastAt (m : List (Nat × Nat)) (js : List Nat) (i : Nat) (a : Int) : Prop :=
  (a = -1 ∧ ∀ j, j < i → j ∈ js) ∨ ∃ q : Nat, a = q ∧ q < i ∧ q ∉ js ∧ ∀ j, j < i → j ∉ js → (m.getD q default).1 ≤ (m.getD j default).1
theorem least_zero (m : List (Nat × Nat)) (js : List Nat) : LeastAt m js 0 (-1) := Or.inl ⟨rfl, fun j h => by omega⟩
theorem least_skip {m : List (Nat × Nat)} {js : List Nat} {i : Nat} {a : Int} (h : LeastAt m js i a) (hi : i ∈ js) : LeastAt m js (i + 1) a := by
  rcases h with ⟨rfl, h⟩ | ⟨q, rfl, h1, h2, h3⟩
  · refine Or.inl ⟨rfl, fun j hj => ?_⟩
    rcases Nat.lt_or_ge j i with c | c
    · exact h j c
    · obtain rfl : j = i := by omega
      exact hi
  · refine Or.inr ⟨q, rfl, by omega, h2, fun j hj hn => ?_⟩
    rcases Nat.lt_or_ge j i with c | c
    · exact h3 j c hn
    · obtain rfl : j = i := by omega
      exact absurd hi hn
theorem least_first {m : List (Nat × Nat)} {js : List Nat} {i : Nat} (h : LeastAt m js i (-1)) (hi : i ∉ js) : LeastAt m js (i + 1) i := by
  rcases h with ⟨_, h⟩ | ⟨q, e, _⟩
  · refine Or.inr ⟨i, rfl, by omega, hi, fun j hj hn => ?_⟩
    rcases Nat.lt_or_ge j i with c | c
    · exact absurd (h j c) hn
    · obtain rfl : j = i := by omega
      exact Nat.le_refl _
  · omega
theorem least_more {m : List (Nat × Nat)} {js : List Nat} {i q : Nat} (h : LeastAt m js i q) (hi : i ∉ js) :
    q < i ∧ ((m.getD i default).1 < (m.getD q default).1 → LeastAt m js (i + 1) i) ∧ (¬ (m.getD i default).1 < (m.getD q default).1 → LeastAt m js (i + 1) q) := by
  rcases h with ⟨e, _⟩ | ⟨q', e, h1, h2, h3⟩
  · omega
  · obtain rfl : q = q' := by omega
    refine ⟨h1, fun hlt => Or.inr ⟨i, rfl, by omega, hi, fun j hj hn => ?_⟩, fun hge => Or.inr ⟨q, rfl, by omega, h2, fun j hj hn => ?_⟩⟩
    · rcases Nat.lt_or_ge j i with c | c
      · have := h3 j c hn; omega
      · obtain rfl : j = i := by omega
        exact Nat.le_refl _
    · rcases Nat.lt_or_ge j i with c | c
      · exact h3 j c hn
      · obtain rfl : j = i := by omega
        omega
theorem picks_sub {m : List (Nat × Nat)} {js : List Nat} (p : Picks m js) : sumW (pickL m js) ≤ sumW m ∧ ∀ x ∈ pickL m js, x ∈ m := by
  constructor
  · have hp : (js ++ (List.range m.length).filter fun x => decide (x ∉ js)).Perm (List.range m.length) := by
      refine nd_perm _ _ ?_ List.nodup_range fun x => ?_
      · rw [List.nodup_append]
        refine ⟨p.nd, List.nodup_range.filter _, fun x hx y hy => ?_⟩
        have := (List.mem_filter.1 hy).2
        rintro rfl
        simp [hx] at this
      · rw [List.mem_append, List.mem_filter, List.mem_range]
        constructor
        · rintro (h | h)
          · exact p.lt x h
          · exact h.1
        · intro h
          by_cases hx : x ∈ js
          · exact Or.inl hx
          · exact Or.inr ⟨h, by simpa using hx⟩
    have h2 := hp.map (fun j => m.getD j default)
    rw [List.map_append] at h2
    have e : (List.range m.length).map (fun j => m.getD j default) = m := by
      apply List.ext_getElem
      · simp
      · intro i h1 h2
        simp at h1
        simp [List.getD_eq_getElem?_getD, h2]
    rw [e] at h2
    have h3 := sumW_perm h2
    rw [sumW_app] at h3
    show sumW (js.map fun j => m.getD j default) ≤ _
    omega
  · intro x hx
    obtain ⟨j, hj, rfl⟩ := List.mem_map.1 hx
    have hl := p.lt j hj
    rw [List.getD_eq_getElem?_getD, List.getElem?_eq_getElem hl]
    exact List.getElem_mem hl
theorem picks_good {k : Int} (h1 : 2 ≤ k) (h2 : k ≤ 1024) (g : Int) {m : List (Nat × Nat)} {js : List Nat} (p : Picks m js) (he : ∀ x ∈ m, x.1 ≤ 9223372036854775807 ∧ 1 ≤ x.2) (ht : sumW m ≤ 4503599627370496) : (foldH ⟨k, g, []⟩ (pickL m js)).Good := by
  obtain ⟨a, b⟩ := picks_sub p
  exact fold_good h1 h2 g p.ord (fun x hx => he x (b x hx)) (by omega)
theorem pickL_snoc (m : List (Nat × Nat)) (js : List Nat) (a : Nat) : pickL m (js ++ [a]) = pickL m js ++ [m.getD a default] := by unfold pickL; rw [List.map_append]; rfl
theorem least_end {m : List (Nat × Nat)} {js : List Nat} (p : Picks m js) (hl : js.length < m.length) {a : Int} (h : LeastAt m js m.length a) :
    ∃ q : Nat, a = q ∧ q < m.length ∧ q ∉ js ∧ ∀ j, j < m.length → j ∉ js → (m.getD q default).1 ≤ (m.getD j default).1 := by
  rcases h with ⟨_, h⟩ | h
  · obtain ⟨x, h1, h2⟩ := nd_lt js m.length p.nd p.lt hl
    exact absurd (h x h1) h2
  · exact h
end Go.Sk
end
