/- Plain: sums of events, by whatever order; lists by key. -/
import Derived.Test.YtciaccjambdmkaaK13
import Derived.Test.YtciaccjambdmkaaW13d
set_option linter.unusedSimpArgs false
set_option linter.unusedVariables false
set_option linter.unusedSectionVars false
namespace Go.Sk

/-! Sums. -/
def natSum (p : Event → Bool) (q : Event → Nat) (l : List Event) : Nat := ((l.filter p).map q).sum
theorem sumV_eq (p : Event → Bool) (q : Event → Nat) : ∀ (l : List Event) (n : Nat), n < 18446744073709551616 → sumV p q n l = (n + natSum p q l) % 18446744073709551616 := by
  intro l
  induction l with
  | nil => intro n h; simp [sumV, natSum, Nat.mod_eq_of_lt h]
  | cons e r ih =>
    intro n h
    have e1 : sumV p q n (e :: r) = sumV p q (if p e = true then m64 (n + q e) else n) r := rfl
    rw [e1]
    cases hp : p e
    · rw [if_neg (by simp), ih n h]; simp [natSum, hp]
    · rw [if_pos rfl, m64_eq, ih _ (Nat.mod_lt _ (by decide))]
      simp only [natSum, List.filter_cons, hp, if_true, List.map_cons, List.sum_cons]
      omega
theorem sumV0 (p : Event → Bool) (q : Event → Nat) (l : List Event) : sumV p q 0 l = natSum p q l % 18446744073709551616 := by rw [sumV_eq _ _ _ _ (by decide), Nat.zero_add]
theorem natSum_app (p : Event → Bool) (q : Event → Nat) (l k : List Event) : natSum p q (l ++ k) = natSum p q l + natSum p q k := by simp [natSum]
theorem spanV_comm (l k : List Event) (t s : Nat) : spanV (l ++ k) t s = spanV (k ++ l) t s := by
  unfold spanV; rw [sumV0, sumV0, natSum_app, natSum_app, Nat.add_comm]
theorem colSumV_comm (l k : List Event) (t s : Nat) (sd : Seed) (w c : Int) : colSumV (l ++ k) t s sd w c = colSumV (k ++ l) t s sd w c := by
  unfold colSumV; rw [sumV0, sumV0, natSum_app, natSum_app, Nat.add_comm]
theorem spanV_app (l k : List Event) (t s : Nat) : spanV (l ++ k) t s = m64 (spanV l t s + spanV k t s) := by
  unfold spanV; rw [sumV0, sumV0, sumV0, natSum_app, m64_eq]; omega
theorem spanV_lt (l : List Event) (t s : Nat) : spanV l t s < 18446744073709551616 := by
  unfold spanV; rw [sumV0]; exact Nat.mod_lt _ (by decide)

/-- All columns, together. -/
noncomputable def colsV (l : List Event) (t s : Nat) (sd : Seed) (w : Int) : Nat → Nat
  | 0 => 0
  | c + 1 => m64 (colsV l t s sd w c + colSumV l t s sd w (c : Int))
noncomputable def colsN (l : List Event) (t s : Nat) (sd : Seed) (w : Int) : Nat → Nat
  | 0 => 0
  | c + 1 => colsN l t s sd w c + natSum (fun e => withinV t s e && decide (colV sd e.k w = (c : Int))) Event.w l
theorem colsV_eq (l : List Event) (t s : Nat) (sd : Seed) (w : Int) (c : Nat) : colsV l t s sd w c = colsN l t s sd w c % 18446744073709551616 := by
  induction c with
  | zero => rfl
  | succ c ih =>
    simp only [colsV, colsN]
    rw [ih, m64_eq]
    unfold colSumV
    rw [sumV0]
    show _ = (colsN l t s sd w c + natSum (inV t s sd w c) Event.w l) % _
    omega
theorem colsN_cons (e : Event) (r : List Event) (t s : Nat) (sd : Seed) (w : Int) (h0 : 0 ≤ colV sd e.k w) (c : Nat) :
    colsN (e :: r) t s sd w c = colsN r t s sd w c + (if withinV t s e = true ∧ colV sd e.k w < (c : Int) then e.w else 0) := by
  induction c with
  | zero => simp only [colsN]; rw [if_neg (by omega)]
  | succ c ih =>
    simp only [colsN]
    rw [ih]
    cases hw : withinV t s e
    · simp [natSum, hw]
    · by_cases hc : colV sd e.k w = (c : Int)
      · simp only [natSum, List.filter_cons, hw, hc, decide_true, Bool.and_self, if_true, List.map_cons, List.sum_cons, true_and]
        rw [if_neg (by omega), if_pos (by omega)]; omega
      · by_cases hd : colV sd e.k w < (c : Int)
        · have h2 : colV sd e.k w < ((c + 1 : Nat) : Int) := by omega
          simp only [natSum, List.filter_cons, hw, hc, decide_false, Bool.and_false, Bool.false_eq_true, if_false, true_and, hd, h2, if_true]; omega
        · have h2 : ¬ colV sd e.k w < ((c + 1 : Nat) : Int) := by omega
          simp only [natSum, List.filter_cons, hw, hc, decide_false, Bool.and_false, Bool.false_eq_true, if_false, true_and, hd, h2]; omega
theorem colV_range (s : Seed) (x : Nat) (w : Int) (hw : 1 ≤ w) : 0 ≤ colV s x w ∧ colV s x w < w := by
  unfold colV
  split
  · omega
  · have : restV s x % w.toNat < w.toNat := Nat.mod_lt _ (by omega)
    omega
theorem colsN_all (t s : Nat) (sd : Seed) (w : Nat) (hw : 1 ≤ w) : ∀ l : List Event, colsN l t s sd (w : Int) w = natSum (withinV t s) Event.w l := by
  intro l
  induction l with
  | nil =>
    have : ∀ c, colsN [] t s sd (w : Int) c = 0 := by
      intro c; induction c with
      | zero => rfl
      | succ c ih => simp [colsN, ih, natSum]
    rw [this]; rfl
  | cons e r ih =>
    obtain ⟨h0, h1⟩ := colV_range sd e.k (w : Int) (by omega)
    rw [colsN_cons _ _ _ _ _ _ h0, ih]
    cases hw : withinV t s e
    · simp [natSum, hw]
    · rw [if_pos ⟨rfl, h1⟩]
      simp only [natSum, List.filter_cons, hw, if_true, List.map_cons, List.sum_cons]; omega
theorem colsV_all (l : List Event) (t s : Nat) (sd : Seed) (w : Nat) (hw : 1 ≤ w) : colsV l t s sd (w : Int) w = spanV l t s := by
  rw [colsV_eq, colsN_all _ _ _ _ hw]; unfold spanV; rw [sumV0]
theorem colSumV_none (l : List Event) (t s : Nat) (sd : Seed) (w : Int) (hw : 1 ≤ w) : colSumV l t s sd w w = 0 := by
  unfold colSumV
  rw [sumV0]
  have : natSum (inV t s sd w w) Event.w l = 0 := by
    unfold natSum
    have : l.filter (inV t s sd w w) = [] := by
      rw [List.filter_eq_nil_iff]
      intro e _
      have := colV_range sd e.k w hw
      have h : ¬ colV sd e.k w = w := by omega
      simp [inV, h]
    rw [this]; rfl
  rw [this]

/-! Lists by key. -/
/-- Keys rise, each stands once. -/
def Rise (l : List Item) : Prop := l.Pairwise fun x y => x.k < y.k
theorem getK_none {k : Nat} {l : List Item} : getK k l = none ↔ ∀ x ∈ l, x.k ≠ k := by
  induction l with
  | nil => simp [getK]
  | cons y r ih =>
    unfold getK
    by_cases h : y.k = k
    · simp [h]
    · rw [if_neg h, ih]; simp [h]
theorem getK_mem {k n : Nat} {l : List Item} (h : getK k l = some n) : (⟨k, n⟩ : Item) ∈ l := by
  induction l with
  | nil => cases h
  | cons y r ih =>
    unfold getK at h
    by_cases hy : y.k = k
    · rw [if_pos hy] at h
      obtain ⟨a, b⟩ := y
      simp only [Option.some.injEq] at h hy
      subst h; subst hy
      exact List.mem_cons_self
    · rw [if_neg hy] at h; exact List.mem_cons_of_mem _ (ih h)
def NoDupK (l : List Item) : Prop := l.Pairwise fun x y => x.k ≠ y.k
theorem Rise.nodup {l : List Item} (h : Rise l) : NoDupK l := List.Pairwise.imp (fun h => by omega) h
theorem getK_of {l : List Item} (h : NoDupK l) {x : Item} (hx : x ∈ l) : getK x.k l = some x.n := by
  induction l with
  | nil => cases hx
  | cons y r ih =>
    obtain ⟨h1, h2⟩ := List.pairwise_cons.1 h
    unfold getK
    rcases List.mem_cons.1 hx with rfl | hx
    · rw [if_pos rfl]
    · rw [if_neg (h1 x hx)]; exact ih h2 hx
theorem getK_perm {l m : List Item} (hp : l.Perm m) (h : NoDupK l) (k : Nat) : getK k l = getK k m := by
  have hm : NoDupK m := hp.pairwise h (fun h => Ne.symm h)
  cases hk : getK k l with
  | none =>
    rw [getK_none] at hk
    exact (getK_none.2 fun x hx => hk x (hp.mem_iff.2 hx)).symm
  | some n => exact (getK_of hm (hp.mem_iff.1 (getK_mem hk))).symm
theorem rise_ext : ∀ {l m : List Item}, Rise l → Rise m → (∀ k, getK k l = getK k m) → l = m := by
  intro l
  induction l with
  | nil =>
    intro m _ _ h
    cases m with
    | nil => rfl
    | cons y r => have := h y.k; simp [getK] at this
  | cons x r ih =>
    intro m hl hm h
    cases m with
    | nil => have := h x.k; simp [getK] at this
    | cons y t =>
      obtain ⟨h1, h2⟩ := List.pairwise_cons.1 hl
      obtain ⟨g1, g2⟩ := List.pairwise_cons.1 hm
      have hx : getK x.k (y :: t) = some x.n := by rw [← h]; simp [getK]
      have hy : getK y.k (x :: r) = some y.n := by rw [h]; simp [getK]
      have e : x.k = y.k := by
        rcases List.mem_cons.1 (getK_mem hx) with e | e
        · exact congrArg Item.k e
        · have a := g1 _ e
          rcases List.mem_cons.1 (getK_mem hy) with e' | e'
          · exact (congrArg Item.k e').symm
          · have b := h1 _ e'; dsimp only at a b; omega
      have e2 : x.n = y.n := by
        unfold getK at hx; rw [if_pos e.symm] at hx; simpa using hx.symm
      have exy : x = y := by cases x; cases y; simp_all
      subst exy
      congr 1
      refine ih h2 g2 fun k => ?_
      have := h k
      unfold getK at this
      by_cases hk : x.k = k
      · subst hk
        rw [getK_none.2 (fun z hz => by have := h1 z hz; omega), getK_none.2 (fun z hz => by have := g1 z hz; omega)]
      · rwa [if_neg hk, if_neg hk] at this

/-- What comes of a key. -/
def hitsL (l : List Event) (lo hi k : Nat) : List Event := l.filter fun e => decide (lo ≤ e.t ∧ e.t ≤ hi) && decide (e.k = k)
def keyN (l : List Event) (lo hi k : Nat) : Option Nat := if hitsL l lo hi k = [] then none else some (((hitsL l lo hi k).map Event.w).sum % 18446744073709551616)

theorem getK_setIn (k v x : Nat) : ∀ l : List Item, getK x (setIn k v l) = if x = k ∧ (getK k l).isSome then some v else getK x l := by
  intro l
  induction l with
  | nil => simp [setIn, getK]
  | cons y r ih =>
    unfold setIn
    by_cases h : y.k = k
    · rw [if_pos h]
      by_cases hx : x = k
      · subst hx; simp [getK, h]
      · simp only [getK, h, if_neg (Ne.symm hx), hx, false_and, if_false]
    · rw [if_neg h]
      by_cases hx : y.k = x
      · have : ¬ x = k := by omega
        simp only [getK, hx, if_true, this, false_and, if_false]
      · simp only [getK, if_neg hx, ih, if_neg h]
theorem getK_app (x : Nat) (l m : List Item) : getK x (l ++ m) = (getK x l).or (getK x m) := by
  induction l with
  | nil => simp [getK]
  | cons y r ih => simp only [List.cons_append, getK]; split <;> simp [ih]
theorem getK_setK (k v x : Nat) (l : List Item) : getK x (setK k v l) = if x = k then some v else getK x l := by
  unfold setK
  cases h : getK k l with
  | some n => simp only [Option.isSome_some, if_true, getK_setIn, h, and_true]
  | none =>
    simp only [Option.isSome_none, Bool.false_eq_true, if_false, getK_app]
    by_cases hx : x = k
    · subst hx; simp [h, getK]
    · simp [getK, hx, Ne.symm hx]
theorem setIn_keys (k v : Nat) (l : List Item) : (setIn k v l).map Item.k = l.map Item.k := by
  induction l with
  | nil => rfl
  | cons y r ih => unfold setIn; split <;> simp [ih]
theorem nodupK_iff (l : List Item) : NoDupK l ↔ (l.map Item.k).Nodup := by unfold NoDupK List.Nodup; rw [List.pairwise_map]
theorem setK_nodup {k v : Nat} {l : List Item} (h : NoDupK l) : NoDupK (setK k v l) := by
  unfold setK
  cases hk : getK k l with
  | some n => simp only [Option.isSome_some, if_true]; rw [nodupK_iff, setIn_keys, ← nodupK_iff]; exact h
  | none =>
    simp only [Option.isSome_none, Bool.false_eq_true, if_false]
    rw [getK_none] at hk
    unfold NoDupK
    rw [List.pairwise_append]
    exact ⟨h, by simp, fun a ha b hb => by rw [List.mem_singleton.1 hb]; exact hk a ha⟩

theorem hitsL_snoc (l : List Event) (e : Event) (lo hi k : Nat) : hitsL (l ++ [e]) lo hi k = hitsL l lo hi k ++ (if (lo ≤ e.t ∧ e.t ≤ hi) ∧ e.k = k then [e] else []) := by
  unfold hitsL
  rw [List.filter_append]
  congr 1
  by_cases h : (lo ≤ e.t ∧ e.t ≤ hi) ∧ e.k = k
  · rw [if_pos h]; simp [h.1, h.2]
  · rw [if_neg h]
    rw [List.filter_eq_nil_iff]
    intro x hx
    rw [List.mem_singleton.1 hx]
    simpa using fun a b => fun c => h ⟨⟨a, b⟩, c⟩
theorem keyN_snoc (l : List Event) (e : Event) (lo hi k : Nat) : keyN (l ++ [e]) lo hi k = if (lo ≤ e.t ∧ e.t ≤ hi) ∧ e.k = k then some (((keyN l lo hi k).getD 0 + e.w) % 18446744073709551616) else keyN l lo hi k := by
  unfold keyN
  rw [hitsL_snoc]
  by_cases h : (lo ≤ e.t ∧ e.t ≤ hi) ∧ e.k = k
  · simp only [if_pos h]
    rw [if_neg (by simp)]
    by_cases h0 : hitsL l lo hi k = []
    · simp [h0]
    · rw [if_neg h0]; simp
  · simp [if_neg h]

theorem sumsV_app1 (l : List Event) (e : Event) (lo hi : Nat) : sumsV (l ++ [e]) lo hi = if lo ≤ e.t ∧ e.t ≤ hi then setK e.k (m64 ((getK e.k (sumsV l lo hi)).getD 0 + e.w)) (sumsV l lo hi) else sumsV l lo hi := by
  unfold sumsV; rw [List.foldl_append]; rfl
theorem snoc_ind {P : List Event → Prop} (h0 : P []) (h1 : ∀ l e, P l → P (l ++ [e])) (l : List Event) : P l := by
  have : ∀ n (l : List Event), l.length = n → P l := by
    intro n
    induction n with
    | zero => intro l hl; rw [List.length_eq_zero_iff.1 hl]; exact h0
    | succ n ih =>
      intro l hl
      have hne : l ≠ [] := by rintro rfl; simp at hl
      rw [← List.dropLast_concat_getLast hne]
      exact h1 _ _ (ih _ (by simp [hl]))
  exact this _ l rfl
theorem sumsV_spec (lo hi : Nat) (l : List Event) : NoDupK (sumsV l lo hi) ∧ ∀ k, getK k (sumsV l lo hi) = keyN l lo hi k := by
  refine snoc_ind (P := fun l => NoDupK (sumsV l lo hi) ∧ ∀ k, getK k (sumsV l lo hi) = keyN l lo hi k) ⟨List.Pairwise.nil, fun k => rfl⟩ (fun l e ih => ?_) l
  obtain ⟨h1, h2⟩ := ih
  rw [sumsV_app1]
  by_cases h : lo ≤ e.t ∧ e.t ≤ hi
  · rw [if_pos h]
    refine ⟨setK_nodup h1, fun k => ?_⟩
    rw [getK_setK, keyN_snoc, h2, h2, m64_eq]
    by_cases hk : k = e.k
    · subst hk; rw [if_pos rfl, if_pos ⟨h, rfl⟩]
    · rw [if_neg hk, if_neg (fun c => hk c.2.symm)]
  · rw [if_neg h]
    refine ⟨h1, fun k => ?_⟩
    rw [keyN_snoc, h2, if_neg (fun c => h c.1)]

/-- Whatever rises, and is of these sums, is one list. -/
theorem rising_rise {m : List Item} (h : Rising m) (hn : NoDupK m) : Rise m := by
  unfold Rise
  rw [List.pairwise_iff_getElem]
  intro i j hi hj hij
  have h1 := h i j hij hj
  have h2 := (List.pairwise_iff_getElem.1 hn) i j hi hj hij
  rw [getElem!_pos m i hi, getElem!_pos m j hj] at h1
  omega
theorem keys_spec {m : List Item} {l : List Event} {lo hi : Nat} (hp : m.Perm (sumsV l lo hi)) (hr : Rising m) : Rise m ∧ ∀ k, getK k m = keyN l lo hi k := by
  obtain ⟨h1, h2⟩ := sumsV_spec lo hi l
  have hn : NoDupK m := hp.symm.pairwise h1 (fun h => Ne.symm h)
  exact ⟨rising_rise hr hn, fun k => by rw [getK_perm hp hn, h2]⟩
theorem keyN_perm {l m : List Event} (hp : l.Perm m) (lo hi k : Nat) : keyN l lo hi k = keyN m lo hi k := by
  have h : (hitsL l lo hi k).Perm (hitsL m lo hi k) := hp.filter _
  unfold keyN
  by_cases h0 : hitsL l lo hi k = []
  · rw [h0] at h; rw [if_pos h0, if_pos h.symm.eq_nil]
  · rw [if_neg h0, if_neg (fun e => h0 (by rw [e] at h; exact h.eq_nil)), (h.map _).sum_nat]
theorem keys_one {m m' : List Item} {l l' : List Event} {lo hi : Nat} (hl : l.Perm l') (hp : m.Perm (sumsV l lo hi)) (hr : Rising m) (hp' : m'.Perm (sumsV l' lo hi)) (hr' : Rising m') : m = m' := by
  obtain ⟨a, b⟩ := keys_spec hp hr
  obtain ⟨c, d⟩ := keys_spec hp' hr'
  exact rise_ext a c fun k => by rw [b, d, keyN_perm hl]

/-! The document's list. -/
theorem take_lt {l : List Item} {k : Nat} : ∀ x ∈ l.take (placeV l k), x.k < k := by
  intro x hx
  obtain ⟨i, hi, rfl⟩ := List.getElem_of_mem hx
  rw [List.length_take] at hi
  rw [List.getElem_take]
  exact placeV_lt l k i (by omega)
theorem putV_rise {l : List Item} {k w : Nat} (h : Rise l) : Rise (putV l k w) ∧ ∀ x, getK x (putV l k w) = if x = k then some (match getK k l with | some n => m64 (n + w) | none => w) else getK x l := by
  have hsplit : l = l.take (placeV l k) ++ l.drop (placeV l k) := (List.take_append_drop _ _).symm
  have hlt := take_lt (l := l) (k := k)
  have hr := h
  rw [hsplit] at hr
  unfold Rise at hr
  rw [List.pairwise_append] at hr
  obtain ⟨r1, r2, r3⟩ := hr
  have g1 : getK k (l.take (placeV l k)) = none := getK_none.2 fun x hx => by have := hlt x hx; omega
  have gk : getK k l = getK k (l.drop (placeV l k)) := by
    rw [hsplit, getK_app, g1, Option.none_or, ← hsplit]
  have gx : ∀ x, getK x l = (getK x (l.take (placeV l k))).or (getK x (l.drop (placeV l k))) := fun x => by
    rw [← getK_app, ← hsplit]
  have gen : ∀ (v : Nat) (t : List Item), Rise t → (∀ x ∈ t, k < x.k) → Rise (l.take (placeV l k) ++ [⟨k, v⟩] ++ t) ∧
      ∀ x, getK x (l.take (placeV l k) ++ [⟨k, v⟩] ++ t) = if x = k then some v else (getK x (l.take (placeV l k))).or (getK x t) := by
    intro v t ht hk
    refine ⟨?_, fun x => ?_⟩
    · unfold Rise
      rw [List.append_assoc, List.pairwise_append]
      refine ⟨r1, List.pairwise_cons.2 ⟨fun x hx => hk x hx, ht⟩, fun a ha b hb => ?_⟩
      have := hlt a ha
      rcases List.mem_cons.1 hb with rfl | hb
      · exact this
      · have := hk b hb; omega
    · rw [getK_app, getK_app]
      by_cases hx : x = k
      · subst hx; simp [g1, getK]
      · simp [hx, getK, Ne.symm hx]
  unfold putV
  by_cases hd : placeV l k < l.length
  · have hnl := placeV_at l k hd
    have hdr : l.drop (placeV l k) = l[placeV l k] :: l.drop (placeV l k + 1) := List.drop_eq_getElem_cons hd
    rw [dif_pos hd]
    rw [hdr] at r2
    obtain ⟨r4, r5⟩ := List.pairwise_cons.1 r2
    by_cases he : l[placeV l k].k = k
    · rw [if_pos he]
      obtain ⟨a, b⟩ := gen (m64 (l[placeV l k].n + w)) (l.drop (placeV l k + 1)) r5 (fun x hx => by have := r4 x hx; omega)
      refine ⟨a, fun x => ?_⟩
      rw [b]
      have : getK k l = some l[placeV l k].n := by rw [gk, hdr]; simp [getK, he]
      rw [this]
      by_cases hx : x = k
      · simp [hx]
      · rw [if_neg hx, if_neg hx, gx, hdr]
        congr 1
        unfold getK
        rw [if_neg (by omega)]
        cases l.drop (placeV l k + 1) <;> rfl
    · rw [if_neg he]
      obtain ⟨a, b⟩ := gen w (l.drop (placeV l k)) (by rw [hdr]; exact r2) (fun x hx => by
        rw [hdr] at hx
        rcases List.mem_cons.1 hx with rfl | hx
        · omega
        · have := r4 x hx; omega)
      refine ⟨a, fun x => ?_⟩
      rw [b]
      have : getK k l = none := by
        rw [gk, getK_none]
        intro x hx
        rw [hdr] at hx
        rcases List.mem_cons.1 hx with rfl | hx
        · exact he
        · have := r4 x hx; omega
      rw [this, gx]
  · rw [dif_neg hd]
    have hdr : l.drop (placeV l k) = [] := List.drop_eq_nil_of_le (by omega)
    obtain ⟨a, b⟩ := gen w (l.drop (placeV l k)) (by rw [hdr]; exact List.Pairwise.nil) (fun x hx => by rw [hdr] at hx; cases hx)
    refine ⟨a, fun x => ?_⟩
    rw [b]
    have : getK k l = none := by rw [gk, hdr]; rfl
    rw [this, gx]
theorem keysR_app1 (l : List Event) (e : Event) (lo hi : Nat) : keysR (l ++ [e]) lo hi = if lo ≤ e.t ∧ e.t ≤ hi then putV (keysR l lo hi) e.k e.w else keysR l lo hi := by
  unfold keysR; rw [List.foldl_append]; rfl
theorem keysR_spec (lo hi : Nat) (l : List Event) (hl : ∀ e ∈ l, e.Ok) : Rise (keysR l lo hi) ∧ ∀ k, getK k (keysR l lo hi) = keyN l lo hi k := by
  revert hl
  refine snoc_ind (P := fun l => (∀ e ∈ l, e.Ok) → Rise (keysR l lo hi) ∧ ∀ k, getK k (keysR l lo hi) = keyN l lo hi k) (fun _ => ⟨List.Pairwise.nil, fun k => rfl⟩) (fun l e ih hl => ?_) l
  obtain ⟨h1, h2⟩ := ih fun e he => hl e (List.mem_append_left _ he)
  have hw := (hl e (by simp)).w
  rw [keysR_app1]
  by_cases h : lo ≤ e.t ∧ e.t ≤ hi
  · rw [if_pos h]
    obtain ⟨a, b⟩ := putV_rise (k := e.k) (w := e.w) h1
    refine ⟨a, fun k => ?_⟩
    rw [b, keyN_snoc, h2, h2]
    by_cases hk : k = e.k
    · subst hk; rw [if_pos rfl, if_pos ⟨h, rfl⟩]
      cases keyN l lo hi e.k with
      | none => simp [Nat.mod_eq_of_lt hw]
      | some n => simp [m64_eq]
    · rw [if_neg hk, if_neg (fun c => hk c.2.symm)]
  · rw [if_neg h]
    refine ⟨h1, fun k => ?_⟩
    rw [keyN_snoc, h2, if_neg (fun c => h c.1)]
theorem keys_doc {m : List Item} {l : List Event} {lo hi : Nat} (hl : ∀ e ∈ l, e.Ok) (hp : m.Perm (sumsV l lo hi)) (hr : Rising m) : m = keysR l lo hi := by
  obtain ⟨a, b⟩ := keys_spec hp hr
  obtain ⟨c, d⟩ := keysR_spec lo hi l hl
  exact rise_ext a c fun k => by rw [b, d]

/-! All keys, together. -/
def itSum (l : List Item) : Nat := (l.map Item.n).sum
theorem itSum_setIn (k v : Nat) : ∀ l : List Item, itSum (setIn k v l) + (getK k l).getD 0 = itSum l + (if (getK k l).isSome then v else 0) := by
  intro l
  induction l with
  | nil => rfl
  | cons y r ih =>
    unfold setIn getK
    by_cases h : y.k = k
    · simp [h, itSum]; omega
    · simp only [if_neg h]
      simp only [itSum, List.map_cons, List.sum_cons] at ih ⊢; omega
theorem sumsV_sum (lo hi : Nat) (l : List Event) : itSum (sumsV l lo hi) % 18446744073709551616 = natSum (fun e => decide (lo ≤ e.t ∧ e.t ≤ hi)) Event.w l % 18446744073709551616 := by
  refine snoc_ind (P := fun l => itSum (sumsV l lo hi) % 18446744073709551616 = natSum (fun e => decide (lo ≤ e.t ∧ e.t ≤ hi)) Event.w l % 18446744073709551616) rfl (fun l e ih => ?_) l
  rw [sumsV_app1, natSum_app]
  by_cases h : lo ≤ e.t ∧ e.t ≤ hi
  · rw [if_pos h]
    have e1 : natSum (fun e => decide (lo ≤ e.t ∧ e.t ≤ hi)) Event.w [e] = e.w := by simp [natSum, h]
    rw [e1]
    unfold setK
    cases hk : getK e.k (sumsV l lo hi) with
    | none =>
      simp only [Option.isSome_none, Bool.false_eq_true, if_false, Option.getD_none, Nat.zero_add, m64_eq]
      have : itSum (sumsV l lo hi ++ [⟨e.k, e.w % 18446744073709551616⟩]) = itSum (sumsV l lo hi) + e.w % 18446744073709551616 := by simp [itSum]
      rw [this]; omega
    | some n =>
      simp only [Option.isSome_some, if_true, Option.getD_some, m64_eq]
      have := itSum_setIn e.k ((n + e.w) % 18446744073709551616) (sumsV l lo hi)
      rw [hk] at this
      simp only [Option.getD_some, Option.isSome_some, if_true] at this
      omega
  · rw [if_neg h]
    have e1 : natSum (fun e => decide (lo ≤ e.t ∧ e.t ≤ hi)) Event.w [e] = 0 := by
      unfold natSum
      rw [List.filter_eq_nil_iff.2 (by intro x hx; rw [List.mem_singleton.1 hx]; simpa using fun a => by omega)]; rfl
    rw [e1, Nat.add_zero, ih]
theorem itSum_perm {l m : List Item} (h : l.Perm m) : itSum l = itSum m := (h.map _).sum_nat
/-- What is added up, one by one. -/
noncomputable def addsV : List Item → Nat := fun l => l.foldl (fun n x => m64 (n + x.n)) 0
theorem addsV_snoc (l : List Item) (i : Nat) (h : i < l.length) : addsV (l.take (i + 1)) = m64 (addsV (l.take i) + l[i].n) := by
  unfold addsV; rw [List.take_succ_eq_append_getElem h, List.foldl_append]; rfl
theorem addsV_eq (l : List Item) : addsV l = itSum l % 18446744073709551616 := by
  have : ∀ n, n < 18446744073709551616 → l.foldl (fun n x => m64 (n + x.n)) n = (n + itSum l) % 18446744073709551616 := by
    induction l with
    | nil => intro n h; simp [itSum, Nat.mod_eq_of_lt h]
    | cons x r ih =>
      intro n h
      rw [List.foldl_cons, m64_eq, ih _ (Nat.mod_lt _ (by decide))]
      simp only [itSum, List.map_cons, List.sum_cons]; omega
  have := this 0 (by decide)
  unfold addsV
  rw [this, Nat.zero_add]
theorem all_spec {m : List Item} {l : List Event} {t s : Nat} (ht : t < 4611686018427387904) (h1 : 1 ≤ s) (h2 : s ≤ t + 1)
    (hp : m.Perm (sumsV l (m64 (sub64 t s + 1)) t)) : addsV m = spanV l t s := by
  have e : m64 (sub64 t s + 1) = t + 1 - s := by rw [m64_eq, sub64_eq]; omega
  rw [e] at hp
  rw [addsV_eq, itSum_perm hp, sumsV_sum]
  unfold spanV
  rw [sumV0]
  congr 2
  funext x
  unfold withinV
  rw [Bool.eq_iff_iff]
  simp only [Bool.and_eq_true, Bool.or_eq_true, decide_eq_true_eq, sub64_eq]
  constructor <;> intro h <;> omega
end Go.Sk
