/- Texts A53 A54 A55 A56 WSa W12i W12j A41 W10i W10j, joined. -/
import Derived.Test.YthpfcfacofakoaaGreatRKC
import Derived.Test.YthpfcfacofakoaaGreatRKA
import Derived.Test.YthpfcfacofakoaaGreatSkTp
import Derived.Test.YthpfcfacofakoaaGreatRKD
import Derived.Test.YthpfcfacofakoaaGreatSkZ
import Derived.Test.YthpfcfacofakoaaGreatRKE
set_option linter.unusedSimpArgs false
set_option linter.unusedVariables false
set_option linter.unusedSectionVars false
-- A53
section
namespace Go.Sk

theorem get_mid (A B : List Event) (x : Event) (i : Nat) (hi : i = A.length) (h : i < (A ++ x :: B).length) : (A ++ x :: B)[i] = x := by
  subst hi; simp
theorem set_mid (A B : List Event) (x y : Event) (i : Nat) (hi : i = A.length) : (A ++ x :: B).set i y = A ++ y :: B := by
  subst hi; simp
theorem swap_far (A B C : List Event) (u v : Event) (i j : Nat) (hi : i = A.length) (hj : j = A.length + 1 + B.length) : ((A ++ u :: (B ++ v :: C)).set i v).set j u = A ++ v :: (B ++ u :: C) := by
  rw [set_mid A _ u v i hi]
  have e1 : A ++ v :: (B ++ v :: C) = (A ++ v :: B) ++ v :: C := by simp
  rw [e1, set_mid (A ++ v :: B) C v u j (by rw [hj]; simp; omega)]; simp
theorem get_far (A B C : List Event) (u v : Event) (j : Nat) (hj : j = A.length + 1 + B.length) (h : j < (A ++ u :: (B ++ v :: C)).length) : (A ++ u :: (B ++ v :: C))[j] = v := by
  have e1 : A ++ u :: (B ++ v :: C) = (A ++ u :: B) ++ v :: C := by simp
  simp only [e1]
  exact get_mid _ _ _ _ (by rw [hj]; simp; omega) _
/-- Two ranges, so far. -/
def swr (P U W V Q : List Event) (i : Nat) : List Event := P ++ V.take i ++ (U.drop i ++ W ++ (U.take i ++ (V.drop i ++ Q)))
theorem swr_zero (P U W V Q : List Event) : swr P U W V Q 0 = P ++ U ++ W ++ V ++ Q := by simp [swr]
theorem swr_all (P U W V Q : List Event) (i : Nat) (h1 : U.length = i) (h2 : V.length = i) : swr P U W V Q i = P ++ V ++ W ++ U ++ Q := by
  subst h1; unfold swr
  rw [List.drop_length, List.take_length, ← h2, List.drop_length, List.take_length]; simp
theorem swr_split (P U W V Q : List Event) (i : Nat) (hu : i < U.length) (hv : i < V.length) : swr P U W V Q i = (P ++ V.take i) ++ U[i] :: ((U.drop (i + 1) ++ W ++ U.take i) ++ V[i] :: (V.drop (i + 1) ++ Q)) := by
  unfold swr
  rw [List.drop_eq_getElem_cons hu, List.drop_eq_getElem_cons hv]
  simp only [List.append_assoc, List.cons_append, List.nil_append]
theorem swr_step (P U W V Q : List Event) (i n : Nat) (hn : U.length = n) (hm : V.length = n) (h : i < n) (a b : Nat) (ha : a = P.length + i) (hb : b = P.length + n + W.length + i) :
    ∃ (hu : i < U.length) (hv : i < V.length), (∀ h : a < (swr P U W V Q i).length, (swr P U W V Q i)[a] = U[i]) ∧ (∀ h : b < (swr P U W V Q i).length, (swr P U W V Q i)[b] = V[i]) ∧ ((swr P U W V Q i).set a V[i]).set b U[i] = swr P U W V Q (i + 1) := by
  have hu : i < U.length := by omega
  have hv : i < V.length := by omega
  have e1 : (P ++ V.take i).length = P.length + i := by rw [List.length_append, List.length_take]; omega
  have e2 : (P ++ V.take i).length + 1 + (U.drop (i + 1) ++ W ++ U.take i).length = P.length + n + W.length + i := by
    simp only [List.length_append, List.length_take, List.length_drop]; omega
  refine ⟨hu, hv, fun h => ?_, fun h => ?_, ?_⟩
  · simp only [swr_split P U W V Q i hu hv]
    exact get_mid _ _ _ _ (by rw [e1]; exact ha) _
  · simp only [swr_split P U W V Q i hu hv]
    exact get_far _ _ _ _ _ _ (by rw [e2]; exact hb) _
  · rw [swr_split P U W V Q i hu hv, swap_far _ _ _ _ _ _ _ (by rw [e1]; exact ha) (by rw [e2]; exact hb)]
    unfold swr
    rw [List.take_succ_eq_append_getElem hv, List.take_succ_eq_append_getElem hu]
    simp only [List.append_assoc, List.cons_append, List.nil_append]
theorem swr_len (P U W V Q : List Event) (i n : Nat) (hn : U.length = n) (hm : V.length = n) (h : i ≤ n) : (swr P U W V Q i).length = P.length + n + W.length + n + Q.length := by
  unfold swr; simp only [List.length_append, List.length_take, List.length_drop]; omega
end Go.Sk
end

-- A54
section
namespace Go.Sk

theorem srt_get {l : List Event} (h : Srt l) (i j : Nat) (hi : i < l.length) (hj : j < l.length) (hij : i ≤ j) : (l[i]).t ≤ (l[j]).t := by
  by_cases e : i = j
  · subst e; exact Nat.le_refl _
  · exact List.pairwise_iff_getElem.1 h i j hi hj (by omega)
theorem srt_take {l : List Event} (h : Srt l) (k : Nat) : Srt (l.take k) := List.Pairwise.sublist (List.take_sublist _ _) h
theorem srt_drop {l : List Event} (h : Srt l) (k : Nat) : Srt (l.drop k) := List.Pairwise.sublist (List.drop_sublist _ _) h
theorem mem_take_get {l : List Event} {k : Nat} {x : Event} (h : x ∈ l.take k) : ∃ i, ∃ hi : i < l.length, i < k ∧ l[i] = x := by
  obtain ⟨i, hi, rfl⟩ := List.getElem_of_mem h
  rw [List.length_take] at hi
  exact ⟨i, by omega, by omega, by simp⟩
theorem mem_drop_get {l : List Event} {k : Nat} {x : Event} (h : x ∈ l.drop k) : ∃ i, ∃ hi : i < l.length, k ≤ i ∧ l[i] = x := by
  obtain ⟨i, hi, rfl⟩ := List.getElem_of_mem h
  rw [List.length_drop] at hi
  exact ⟨k + i, by omega, by omega, by simp⟩
theorem take_snoc' {α : Type} (l : List α) (i : Nat) (h : i < l.length) : l.take (i + 1) = l.take i ++ [l[i]] := List.take_succ_eq_append_getElem h
theorem take_le {l : List Event} (h : Srt l) {k : Nat} {x : Event} (hx : x ∈ l.take k) (h1 : k - 1 < l.length) : x.t ≤ (l[k - 1]).t := by
  obtain ⟨i, hi, hk, rfl⟩ := mem_take_get hx
  exact srt_get h _ _ hi h1 (by omega)
theorem drop_ge {l : List Event} (h : Srt l) {k : Nat} {x : Event} (hx : x ∈ l.drop k) (h1 : k < l.length) : (l[k]).t ≤ x.t := by
  obtain ⟨i, hi, hk, rfl⟩ := mem_drop_get hx
  exact srt_get h _ _ h1 hi (by omega)
/-- One goes into a row behind it: ahead of all that are no less. -/
theorem ins_left {V : List Event} {u : Event} (h : Srt V) (k : Nat) (hk : k ≤ V.length) (h1 : ∀ x ∈ V.take k, x.t < u.t) (h2 : ∀ x ∈ V.drop k, u.t ≤ x.t) : Srt (V.take k ++ u :: V.drop k) ∧ Feq ([u] ++ V) (V.take k ++ u :: V.drop k) := by
  refine ⟨srt_app (srt_take h k) (List.pairwise_cons.2 ⟨h2, srt_drop h k⟩) fun x hx y hy => ?_, ?_⟩
  · have a := h1 x hx
    rcases List.mem_cons.1 hy with rfl | hy
    · omega
    · have b := h2 y hy; omega
  · have s : Feq ([u] ++ V.take k) (V.take k ++ [u]) := Feq.swap fun a ha b hb q => by
      obtain rfl := List.mem_singleton.1 ha
      have := h1 b hb; omega
    have := s.app (Feq.refl (V.drop k))
    rw [List.append_assoc, List.take_append_drop, List.append_assoc] at this
    exact this
theorem ins_right {U : List Event} {v : Event} (h : Srt U) (k : Nat) (hk : k ≤ U.length) (h1 : ∀ x ∈ U.take k, x.t ≤ v.t) (h2 : ∀ x ∈ U.drop k, v.t < x.t) : Srt (U.take k ++ v :: U.drop k) ∧ Feq (U ++ [v]) (U.take k ++ v :: U.drop k) := by
  have e : U.take k ++ U.drop k = U := List.take_append_drop k U
  have := put_ins (Y1 := U.take k) (Y2 := U.drop k) (e := v) (by rw [e]; exact h) h1 h2
  rw [e] at this
  exact this
/-- Halves, cut so that each of the first is no more than each of the second. -/
theorem merge_cut {U V W1 W2 : List Event} (hU : Srt U) (hV : Srt V) (i j : Nat) (hi : i ≤ U.length) (hj : j ≤ V.length)
    (hb : i = 0 ∨ j = V.length ∨ ∃ (h1 : i - 1 < U.length) (h2 : j < V.length), (U[i - 1]).t ≤ (V[j]).t)
    (hc : j = 0 ∨ i = U.length ∨ ∃ (h1 : j - 1 < V.length) (h2 : i < U.length), (V[j - 1]).t < (U[i]).t)
    (h1 : Srt W1) (k1 : Feq (U.take i ++ V.take j) W1) (h2 : Srt W2) (k2 : Feq (U.drop i ++ V.drop j) W2) : Srt (W1 ++ W2) ∧ Feq (U ++ V) (W1 ++ W2) := by
  have eU : U.take i ++ U.drop i = U := List.take_append_drop i U
  have eV : V.take j ++ V.drop j = V := List.take_append_drop j V
  have := merge_two (U1 := U.take i) (U2 := U.drop i) (V1 := V.take j) (V2 := V.drop j) h1 k1 h2 k2 ?_ ?_ ?_ ?_
  · rw [eU, eV] at this; exact this
  · exact (srt_of_app (by rw [eU]; exact hU)).2.2
  · intro x hx y hy
    rcases hb with rfl | rfl | ⟨q1, q2, q⟩
    · simp at hx
    · simp at hy
    · have a := take_le hU hx q1
      have b := drop_ge hV hy q2
      omega
  · intro x hx y hy
    rcases hc with rfl | rfl | ⟨q1, q2, q⟩
    · simp at hx
    · simp at hy
    · have a := take_le hV hx q1
      have b := drop_ge hU hy q2
      omega
  · exact (srt_of_app (by rw [eV]; exact hV)).2.2

/-! Rows of so many that are in order each. -/
def Chunks (s : Nat) (M : List Event) (a c : Nat) : Prop := ∀ p q (hp : p < M.length) (hq : q < M.length), a ≤ p → p ≤ q → q < c → p / s = q / s → (M[p]).t ≤ (M[q]).t
end Go.Sk
end

-- A55
section
namespace Go.Sk

/-- Rows that are in order each: of s events each, but for the last one. -/
def Ck (s : Nat) : List (List Event) → Prop
  | [] => True
  | [x] => Srt x ∧ 0 < x.length ∧ x.length ≤ s
  | x :: y :: r => Srt x ∧ x.length = s ∧ Ck s (y :: r)
theorem Ck.tail {s : Nat} {x : List Event} {r : List (List Event)} (h : Ck s (x :: r)) : Ck s r := by
  cases r with
  | nil => trivial
  | cons y r => exact h.2.2
theorem Ck.head {s : Nat} (hs : 0 < s) {x : List Event} {r : List (List Event)} (h : Ck s (x :: r)) : Srt x ∧ 0 < x.length ∧ x.length ≤ s := by
  cases r with
  | nil => exact h
  | cons y r => exact ⟨h.1, by rw [h.2.1]; exact hs, Nat.le_of_eq h.2.1⟩
theorem Ck.full {s : Nat} {x : List Event} {r : List (List Event)} (h : Ck s (x :: r)) (hr : r ≠ []) : x.length = s := by
  cases r with
  | nil => exact absurd rfl hr
  | cons y r => exact h.2.1
theorem Ck.pos {s : Nat} (hs : 0 < s) : ∀ {r : List (List Event)}, Ck s r → r ≠ [] → 0 < r.flatten.length := by
  intro r h hr
  cases r with
  | nil => exact absurd rfl hr
  | cons x r => rw [List.flatten_cons, List.length_append]; have := (h.head hs).2.1; omega
theorem Ck.app {s : Nat} : ∀ {D R : List (List Event)}, (∀ x ∈ D, Srt x ∧ x.length = s) → Ck s R → (0 < s) → Ck s (D ++ R) := by
  intro D
  induction D with
  | nil => intro R _ h _; exact h
  | cons d D ih =>
    intro R hD hR hs
    have hd := hD d (by simp)
    have hD' : ∀ x ∈ D, Srt x ∧ x.length = s := fun x hx => hD x (by simp [hx])
    have := ih hD' hR hs
    rw [List.cons_append]
    cases hq : D ++ R with
    | nil => exact ⟨hd.1, by rw [hd.2]; exact hs, Nat.le_of_eq hd.2⟩
    | cons y r => rw [hq] at this; exact ⟨hd.1, hd.2, this⟩
/-- One row that is wide enough is all. -/
theorem Ck.one {s : Nat} (hs : 0 < s) {R : List (List Event)} (h : Ck s R) (hn : R.flatten.length ≤ s) : Srt R.flatten := by
  match R, h with
  | [], _ => exact List.Pairwise.nil
  | [x], h => simpa using h.1
  | x :: y :: r, h =>
    exfalso
    have h1 := h.2.1
    have h2 := Ck.pos hs h.2.2 (by simp)
    rw [List.flatten_cons, List.length_append] at hn
    omega
/-- Two rows at the head of what is left. -/
theorem Ck.two {s : Nat} (hs : 0 < s) {R : List (List Event)} (h : Ck s R) (hn : s < R.flatten.length) : ∃ x y r, R = x :: y :: r ∧ Srt x ∧ Srt y ∧ x.length = s ∧ 0 < y.length ∧ y.length ≤ s ∧ Ck s r ∧ (r ≠ [] → y.length = s) := by
  match R, h with
  | [], _ => simp at hn
  | [x], h => simp at hn; have := h.2.2; omega
  | x :: y :: r, h =>
    have hy := Ck.head hs h.2.2
    exact ⟨x, y, r, rfl, h.1, hy.1, h.2.1, hy.2.1, hy.2.2, h.2.2.tail, fun hr => h.2.2.full hr⟩

/-! A list of events as cells, and what is behind it. -/
def evc (l : List Event) (t : List AV) : List AV := flatA (l.map Event.pv) ++ t
theorem flat_cons (e : Event) (l : List Event) : flatA ((e :: l).map Event.pv) = (e.pv.map .p) ++ flatA (l.map Event.pv) := by simp [flatA]
theorem evc_len (l : List Event) (t : List AV) : (evc l t).length = l.length * 3 + t.length := by
  unfold evc; rw [List.length_append]
  congr 1
  induction l with
  | nil => rfl
  | cons e l ih => rw [flat_cons, List.length_append, ih]; simp [Event.pv]; omega
theorem evc_drop (l : List Event) (t : List AV) : ∀ i, (h : i < l.length) → ((evc l t).drop (i * 3)).take 3 = (l[i]).pv.map .p := by
  induction l with
  | nil => intro i h; simp at h
  | cons e l ih =>
    intro i h
    cases i with
    | zero => unfold evc; rw [flat_cons]; simp [Event.pv]
    | succ i =>
      have := ih i (by simpa using h)
      rw [List.getElem_cons_succ, ← this]
      unfold evc
      rw [flat_cons, Nat.add_mul]
      simp only [Event.pv, List.map_cons, List.map_nil, List.cons_append, List.nil_append, Nat.one_mul]
      rfl
theorem evc_put (l : List Event) (t : List AV) (y : Event) : ∀ i, (h : i < l.length) → (evc l t).take (i * 3) ++ y.pv.map .p ++ (evc l t).drop (i * 3 + 3) = evc (l.set i y) t := by
  induction l with
  | nil => intro i h; simp at h
  | cons e l ih =>
    intro i h
    cases i with
    | zero => rw [List.set_cons_zero]; unfold evc; rw [flat_cons, flat_cons]; simp [Event.pv]
    | succ i =>
      have := ih i (by simpa using h)
      unfold evc at this ⊢
      rw [List.set_cons_succ, flat_cons, flat_cons, List.append_assoc (e.pv.map _), List.append_assoc (e.pv.map _), ← this, Nat.add_mul]
      simp only [Event.pv, List.map_cons, List.map_nil, List.cons_append, List.nil_append, Nat.one_mul]
      rfl
end Go.Sk
end

-- A56
section
namespace Go.Sk

/-- A row with an event in it at a place. -/
def inE (P Y : List Event) (e : Event) (R : List Event) (k : Nat) : List Event := P ++ (Y.take k ++ e :: Y.drop k) ++ R
theorem inE_len (P Y : List Event) (e : Event) (R : List Event) (k : Nat) (hk : k ≤ Y.length) : (inE P Y e R k).length = P.length + Y.length + 1 + R.length := by
  unfold inE; simp only [List.length_append, List.length_cons, List.length_take, List.length_drop]; omega
theorem inE_split (P Y : List Event) (e : Event) (R : List Event) (k : Nat) (hk : k < Y.length) :
    inE P Y e R (k + 1) = (P ++ Y.take k) ++ Y[k] :: e :: (Y.drop (k + 1) ++ R) ∧ inE P Y e R k = (P ++ Y.take k) ++ e :: Y[k] :: (Y.drop (k + 1) ++ R) := by
  unfold inE
  rw [List.take_succ_eq_append_getElem hk, List.drop_eq_getElem_cons hk]
  constructor <;> simp only [List.append_assoc, List.cons_append, List.nil_append]
theorem set_two (A B : List Event) (u v x : Event) (i : Nat) (hi : i = A.length + 1) : (A ++ u :: v :: B).set i x = A ++ u :: x :: B := by
  have e1 : A ++ u :: v :: B = (A ++ [u]) ++ v :: B := by simp
  rw [e1, set_mid (A ++ [u]) B v x i (by rw [hi]; simp)]; simp
theorem get_two (A B : List Event) (u v : Event) (i : Nat) (hi : i = A.length + 1) (h : i < (A ++ u :: v :: B).length) : (A ++ u :: v :: B)[i] = v := by
  have e1 : A ++ u :: v :: B = (A ++ [u]) ++ v :: B := by simp
  simp only [e1]
  exact get_mid _ _ _ _ (by rw [hi]; simp) _
/-- One step to the left. -/
theorem inE_left (P Y : List Event) (e : Event) (R : List Event) (k j : Nat) (hk : k < Y.length) (hj : j = P.length + k) :
    (∀ h : j + 1 < (inE P Y e R (k + 1)).length, (inE P Y e R (k + 1))[j + 1] = e) ∧ (∀ h : j < (inE P Y e R (k + 1)).length, (inE P Y e R (k + 1))[j] = Y[k]) ∧ ((inE P Y e R (k + 1)).set (j + 1) Y[k]).set j e = inE P Y e R k := by
  obtain ⟨h1, h2⟩ := inE_split P Y e R k hk
  have hl : (P ++ Y.take k).length = j := by rw [List.length_append, List.length_take, hj]; omega
  refine ⟨fun h => ?_, fun h => ?_, ?_⟩
  · simp only [h1]; exact get_two _ _ _ _ _ (by rw [hl]) _
  · simp only [h1]; exact get_mid _ _ _ _ hl.symm _
  · rw [h1, h2, set_two _ _ _ _ _ _ (by rw [hl]), set_mid _ _ _ _ _ hl.symm]
/-- One step to the right. -/
theorem inE_right (P Y : List Event) (e : Event) (R : List Event) (k j : Nat) (hk : k < Y.length) (hj : j = P.length + k) :
    (∀ h : j < (inE P Y e R k).length, (inE P Y e R k)[j] = e) ∧ (∀ h : j + 1 < (inE P Y e R k).length, (inE P Y e R k)[j + 1] = Y[k]) ∧ ((inE P Y e R k).set j Y[k]).set (j + 1) e = inE P Y e R (k + 1) := by
  obtain ⟨h1, h2⟩ := inE_split P Y e R k hk
  have hl : (P ++ Y.take k).length = j := by rw [List.length_append, List.length_take, hj]; omega
  refine ⟨fun h => ?_, fun h => ?_, ?_⟩
  · simp only [h2]; exact get_mid _ _ _ _ hl.symm _
  · simp only [h2]; exact get_two _ _ _ _ _ (by rw [hl]) _
  · rw [h1, h2, set_mid _ _ _ _ _ hl.symm, set_two _ _ _ _ _ _ (by rw [hl])]
theorem inE_zero (P Y : List Event) (e : Event) (R : List Event) : inE P Y e R 0 = P ++ e :: (Y ++ R) := by simp [inE]
theorem inE_all (P Y : List Event) (e : Event) (R : List Event) (k : Nat) (hk : k = Y.length) : inE P Y e R k = P ++ Y ++ e :: R := by subst hk; simp [inE]
/-- What stands at a place of three rows. -/
theorem get3 (P U V : List Event) (i j : Nat) (hj : j = P.length + i) (hi : i < U.length) (h : j < (P ++ U ++ V).length) : (P ++ U ++ V)[j] = U[i] := by
  subst hj
  rw [List.getElem_append_left (by rw [List.length_append]; omega), List.getElem_append_right (by omega)]
  congr 1; omega
theorem get4 (P U V Q : List Event) (i j : Nat) (hj : j = P.length + U.length + i) (hi : i < V.length) (h : j < (P ++ U ++ V ++ Q).length) : (P ++ U ++ V ++ Q)[j] = V[i] := by
  have := get3 (P ++ U) V Q i j (by rw [List.length_append]; exact hj) hi h
  exact this
theorem get4a (P U V Q : List Event) (i j : Nat) (hj : j = P.length + i) (hi : i < U.length) (h : j < (P ++ U ++ V ++ Q).length) : (P ++ U ++ V ++ Q)[j] = U[i] := by
  have e : P ++ U ++ V ++ Q = P ++ U ++ (V ++ Q) := by simp
  simp only [e]
  exact get3 P U (V ++ Q) i j hj hi _
/-- An event goes to its place: all behind it are later. -/
theorem ins_place {Y : List Event} {e : Event} {k : Nat} (h : Srt Y) (hk : k ≤ Y.length) (h1 : k = 0 ∨ ∃ q : k - 1 < Y.length, (Y[k - 1]).t ≤ e.t) (h2 : ∀ x ∈ Y.drop k, e.t < x.t) : Srt (Y.take k ++ e :: Y.drop k) ∧ Feq (Y ++ [e]) (Y.take k ++ e :: Y.drop k) := by
  refine ins_right h k hk (fun x hx => ?_) h2
  rcases h1 with rfl | ⟨q, h1⟩
  · simp at hx
  · exact Nat.le_trans (take_le h hx q) h1
theorem drop_step {Y : List Event} {e : Event} {k : Nat} (hk : k < Y.length) (h : ∀ x ∈ Y.drop (k + 1), e.t < x.t) (h1 : e.t < (Y[k]).t) : ∀ x ∈ Y.drop k, e.t < x.t := fun x hx => by
  rw [List.drop_eq_getElem_cons hk] at hx
  rcases List.mem_cons.1 hx with rfl | hx
  · exact h1
  · exact h x hx
theorem srt_one (U : List Event) : Srt (U.take 1) := by
  cases U with
  | nil => exact List.Pairwise.nil
  | cons u U => simp [Srt]
theorem set_back {S : Store} {k : Key} {x : Blk} (h : S k = some x) : S.set k x = S := by
  funext q
  unfold Store.set
  by_cases e : q = k
  · subst e; rw [if_pos rfl, h]
  · rw [if_neg e]
end Go.Sk
end

-- WSa
section
namespace Go.Sk
open Go Go.Proofs

def cmpN' (x y : Nat) : Int := if x < y then -1 else if y < x then 1 else 0
theorem cmpN'_neg (x y : Nat) : cmpN' x y < 0 ↔ x < y := by
  unfold cmpN'
  repeat' split
  all_goals omega
theorem isNaN_u' (n : Nat) : Pure Tryz.prog 144 [u64 n] (bl false) := fun S => by
  refine callR_of Tryz.func144 rfl rfl (xc_ok (bitB 5) _ _ _ ?_)
  simp only [go_sem]
  (refine ⟨S, by (repeat (first | exact Sub.refl _ | refine Sub.setF ?_ (by first | assumption | simp only [*]) | refine Sub.setV ?_ (by first | assumption | simp only [*]))), ?_⟩); simp
theorem cmp_u64' (x y : Nat) : Pure Tryz.prog 83 [u64 x, u64 y] (i64 (cmpN' x y)) := fun S => by
  refine callR_of Tryz.func83 rfl rfl (xc_ok (bitB 604275) _ _ _ ?_)
  simp only [go_sem]
  refine (isNaN_u' x).useA ?_
  simp only [go_sem]
  refine (isNaN_u' y).useA ?_
  by_cases h1 : x < y
  · simp only [go_sem, h1]
    (refine ⟨S, by (repeat (first | exact Sub.refl _ | refine Sub.setF ?_ (by first | assumption | simp only [*]) | refine Sub.setV ?_ (by first | assumption | simp only [*]))), ?_⟩); simp [cmpN', h1]
  · by_cases h2 : y < x
    · simp only [go_sem, h1, h2]
      (refine ⟨S, by (repeat (first | exact Sub.refl _ | refine Sub.setF ?_ (by first | assumption | simp only [*]) | refine Sub.setV ?_ (by first | assumption | simp only [*]))), ?_⟩); simp [cmpN', h1, h2]
    · simp only [go_sem, h1, h2]
      (refine ⟨S, by (repeat (first | exact Sub.refl _ | refine Sub.setF ?_ (by first | assumption | simp only [*]) | refine Sub.setV ?_ (by first | assumption | simp only [*]))), ?_⟩); simp [cmpN', h1, h2]
theorem join_cmp (x y : Event) : Pure Tryz.prog 82 [x.av, y.av] (i64 (cmpN' x.t y.t)) := fun S => by
  refine callR_of Tryz.func82 rfl rfl (xc_ok (bitB 31) _ _ _ ?_)
  simp only [go_sem]
  refine alloc_intro fun b hb => ?_
  simp only [go_sem]
  refine alloc_intro fun b' hb' => ?_
  simp only [fresh_set] at hb'
  simp only [go_sem, hb']
  refine (cmp_u64' x.t y.t).useA ?_
  simp only [go_sem]
  (refine ⟨S, by (repeat (first | exact Sub.refl _ | refine Sub.setF ?_ (by first | assumption | simp only [*]) | refine Sub.setV ?_ (by first | assumption | simp only [*]))), ?_⟩); simp
theorem evc_drop' (l : List Event) (t : List AV) (i : Nat) (h : i < l.length) : ((evc l t).drop (i * 3)).take 3 = [u64 (l[i]).t, u64 (l[i]).k, u64 (l[i]).w] := by
  rw [evc_drop l t i h]; rfl
theorem evc_put' (l : List Event) (t : List AV) (y : Event) (i : Nat) (h : i < l.length) : (evc l t).take (i * 3) ++ [u64 y.t, u64 y.k, u64 y.w] ++ (evc l t).drop (i * 3 + 3) = evc (l.set i y) t := by
  rw [← evc_put l t y i h]; rfl
theorem evc_fit (l : List Event) (t : List AV) (i : Nat) (h : i < l.length) : i * 3 + 3 ≤ (evc l t).length := by rw [evc_len]; omega
/-- A row of events that is written, with room. -/
abbrev evB (l : List Event) (t : List AV) : Blk := .cells (evc l t)
set_option maxHeartbeats 1000000 in
theorem swap_range (P U W V Q : List Event) (t : List AV) (b n N c : Nat) (cm : AV) (hU : U.length = n) (hV : V.length = n) (hN : (P ++ U ++ W ++ V ++ Q).length = N) (hc : N < 1073741824) {S : Store} (i0 j0 : Nat) (hi0 : i0 = P.length) (hj0 : j0 = P.length + n + W.length) :
    S (.r b) = some (evB (P ++ U ++ W ++ V ++ Q) t) → CallR Tryz.prog 237 [.ms b 3 0 N c, i64 i0, i64 j0, i64 n, cm] S (fun r S' => r = .tuple [] ∧ S' = S.set (.r b) (evB (P ++ V ++ W ++ U ++ Q) t)) := fun hb => by
  have hN' : N = P.length + n + W.length + n + Q.length := by rw [← hN]; simp only [List.length_append]; omega
  refine callR_of Tryz.func237 rfl rfl (xc_ok (bitB 9247) _ _ _ ?_)
  simp only [go_sem]
  refine AWP.iter (fun i => ⟨Env.get [(0, .ms b 3 0 N c), (1, i64 i0), (2, i64 j0), (3, i64 n), (10, i64 i)], S.set (.r b) (evB (swr P U W V Q i) t), 38, []⟩) n ?_ ?_ ?_
  · refine le_of (by simp only [go_sem] <;> rfl) ?_ rfl rfl (by simp)
    rw [swr_zero]
    exact sub_set (Sub.refl _) hb
  · intro i hi ih
    refine AWPH.step (xc_ok (bitB 9247) _ _ _ ?_)
    obtain ⟨hu, hv, g1, g2, g3⟩ := swr_step P U W V Q i n hU hV hi (i0 + i) (j0 + i) (by omega) (by omega)
    have hl := swr_len P U W V Q i n hU hV (by omega)
    have a1 : i0 + i < (swr P U W V Q i).length := by omega
    have a2 : j0 + i < (swr P U W V Q i).length := by omega
    have w1 : wi ((i0 : Int) + (i : Int)) = ((i0 + i : Nat) : Int) := by rw [wi_id (by omega) (by omega)]; omega
    have w2 : wi ((j0 : Int) + (i : Int)) = ((j0 + i : Nat) : Int) := by rw [wi_id (by omega) (by omega)]; omega
    have f1 := evc_fit (swr P U W V Q i) t _ a1
    have f2 := evc_fit (swr P U W V Q i) t _ a2
    have d1 := evc_drop' (swr P U W V Q i) t _ a1
    have d2 := evc_drop' (swr P U W V Q i) t _ a2
    rw [g1 a1] at d1
    rw [g2 a2] at d2
    have p1 := evc_put' (swr P U W V Q i) t V[i] (i0 + i) a1
    have p2 := evc_put' ((swr P U W V Q i).set (i0 + i) V[i]) t U[i] (j0 + i) (by rw [List.length_set]; exact a2)
    rw [g3] at p2
    have f3 := evc_fit ((swr P U W V Q i).set (i0 + i) V[i]) t (j0 + i) (by rw [List.length_set]; exact a2)
    have n1 : i0 + i < N := by omega
    have n2 : j0 + i < N := by omega
    simp only [go_sem, hi, ltN' hi]
    refine AWP.draw2 (bitB 9247) mixed (by kernel_rfl) (fun j => bl false) ?_
    simp only [go_sem, w1, w2, n1, n2, ltN' n1, ltN' n2, Nat.zero_add, d1, d2, p1, p2, f1, f2, f3]
    refine ih.back (Sub.refl _) (by simp) ?_
    simp only [go_sem, wi_succ (show i < 4611686018427387904 by omega)]
  · refine AWPH.step (xc_ok (bitB 9247) _ _ _ ?_)
    simp only [go_sem]
    exact ⟨_, Sub.refl _, Or.inl (by rw [swr_all P U W V Q n hU hV])⟩
set_option maxHeartbeats 1000000 in
theorem insert_sort (P U Q : List Event) (t : List AV) (b N c : Nat) (hN : (P ++ U ++ Q).length = N) (hc : N < 1073741824) {S : Store} (a0 b0 : Nat) (ha0 : a0 = P.length) (hb0 : b0 = P.length + U.length) :
    S (.r b) = some (evB (P ++ U ++ Q) t) → CallR Tryz.prog 190 [.ms b 3 0 N c, i64 a0, i64 b0, .fn (.func 82) [] []] S (fun r S' => r = .tuple [] ∧ ∃ W, Srt W ∧ Feq U W ∧ S' = S.set (.r b) (evB (P ++ W ++ Q) t)) := fun hb => by
  have hN' : N = P.length + U.length + Q.length := by rw [← hN]; simp only [List.length_append]
  refine callR_of Tryz.func190 rfl rfl (xc_ok (bitB 17179886351) _ _ _ ?_)
  have w0 : wi ((a0 : Int) + 1) = ((a0 + 1 : Nat) : Int) := wi_succ (by omega)
  simp only [go_sem, w0]
  by_cases hU0 : U = []
  · subst hU0
    have q0 : ¬ ((a0 + 1 : Nat) : Int) < ((b0 : Nat) : Int) := by simp at hb0; omega
    refine AWP.roam (ι := Unit) (fun _ => True) (fun _ => ⟨Env.get [(0, .ms b 3 0 N c), (1, i64 a0), (2, i64 b0), (3, .fn (.func 82) [] []), (8, i64 (a0 + 1 : Nat))], S, 53, []⟩) (fun _ => 0) () trivial ?_ ?_
    · exact le_of (by simp only [go_sem] <;> rfl) (Sub.refl _) rfl rfl (by simp)
    · intro _ _ _
      refine AWPH.step (xc_ok (bitB 17179886351) _ _ _ ?_)
      simp only [go_sem, q0]
      exact ⟨_, Sub.refl _, Or.inl ⟨[], List.Pairwise.nil, Feq.refl _, by rw [set_back hb]⟩⟩
  have hpos : 0 < U.length := List.length_pos_iff.2 hU0
  refine AWP.roam (ι := Nat × List Event) (fun x => 1 ≤ x.1 ∧ x.1 ≤ U.length ∧ Srt x.2 ∧ Feq (U.take x.1) x.2)
    (fun x => ⟨Env.get [(0, .ms b 3 0 N c), (1, i64 a0), (2, i64 b0), (3, .fn (.func 82) [] []), (8, i64 (a0 + x.1 : Nat))], S.set (.r b) (evB (P ++ x.2 ++ U.drop x.1 ++ Q) t), 53, []⟩) (fun x => U.length - x.1) (1, U.take 1) ⟨Nat.le_refl _, hpos, srt_one U, Feq.refl _⟩ ?_ ?_
  · refine le_of (by simp only [go_sem] <;> rfl) ?_ rfl rfl (by simp)
    dsimp only
    rw [List.append_assoc P, List.take_append_drop]
    exact sub_set (Sub.refl _) hb
  rintro ⟨i, Y⟩ ⟨hi1, hi, hs, hf⟩ ih
  dsimp only at hi1 hi hs hf ih ⊢
  have hYl : Y.length = i := by rw [← hf.len, List.length_take]; omega
  refine AWPH.step (xc_ok (bitB 17179886351) _ _ _ ?_)
  by_cases ci : i < U.length
  rotate_left
  · obtain rfl : i = U.length := by omega
    have q0 : ¬ ((a0 + U.length : Nat) : Int) < ((b0 : Nat) : Int) := by omega
    simp only [go_sem, q0]
    rw [List.take_length] at hf
    exact ⟨_, Sub.refl _, Or.inl ⟨Y, hs, hf, by rw [List.drop_length]; simp⟩⟩
  have q1 : ((a0 + i : Nat) : Int) < ((b0 : Nat) : Int) := by omega
  have hrow : P ++ Y ++ U.drop i ++ Q = inE P Y U[i] (U.drop (i + 1) ++ Q) i := by
    rw [inE_all P Y U[i] _ i hYl.symm, List.drop_eq_getElem_cons ci]; simp only [List.append_assoc, List.cons_append]
  simp only [go_sem, q1, hrow]
  refine AWP.roam (ι := Nat) (fun k => k ≤ i ∧ ∀ x ∈ Y.drop k, (U[i]).t < x.t)
    (fun k => ⟨Env.get [(0, .ms b 3 0 N c), (1, i64 a0), (2, i64 b0), (3, .fn (.func 82) [] []), (8, i64 (a0 + i : Nat)), (9, i64 (a0 + k : Nat))], S.set (.r b) (evB (inE P Y U[i] (U.drop (i + 1) ++ Q) k) t), 53, []⟩) (fun k => k) i ⟨Nat.le_refl _, fun x hx => by rw [← hYl, List.drop_length] at hx; simp at hx⟩ ?_ ?_
  · exact le_of (by simp only [go_sem] <;> rfl) (Sub.refl _) rfl rfl (by simp)
  have wi1 : wi (((a0 + i : Nat) : Int) + 1) = ((a0 + (i + 1) : Nat) : Int) := by rw [wi_id (by omega) (by omega)]; omega
  have hend : ∀ k, k ≤ i → Srt (Y.take k ++ U[i] :: Y.drop k) → Feq (Y ++ [U[i]]) (Y.take k ++ U[i] :: Y.drop k) → _ := fun k hk h1 h2 => ih (i + 1, Y.take k ++ U[i] :: Y.drop k) ⟨by dsimp only; omega, ci, h1, by dsimp only; rw [List.take_succ_eq_append_getElem ci]; exact (hf.app (Feq.refl _)).trans h2⟩ (by dsimp only; omega)
  rintro k ⟨hk, hlt⟩ ih2
  refine AWPH.step (xc_ok (bitB 17179886351) _ _ _ ?_)
  have hrest : ∀ k, P ++ (Y.take k ++ U[i] :: Y.drop k) ++ U.drop (i + 1) ++ Q = inE P Y U[i] (U.drop (i + 1) ++ Q) k := fun k => by unfold inE; simp
  by_cases k0 : k = 0
  · subst k0
    have q2 : ¬ ((a0 + 0 : Nat) : Int) > ((a0 : Nat) : Int) := by omega
    refine AWP.draw2 (bitB 17179886351) mixed (by kernel_rfl) (fun j => i64 0) ?_
    simp only [go_sem, q2]
    obtain ⟨h1, h2⟩ := ins_place (e := U[i]) hs (Nat.zero_le _) (Or.inl rfl) hlt
    refine (hend 0 (Nat.zero_le _) h1 h2).back ?_ (by simp) ?_
    · dsimp only; rw [hrest]; exact Sub.refl _
    · simp only [go_sem, wi1]
  obtain ⟨k, rfl⟩ : ∃ m, k = m + 1 := ⟨k - 1, by omega⟩
  have hkY : k < Y.length := by omega
  obtain ⟨g1, g2, g3⟩ := inE_left P Y U[i] (U.drop (i + 1) ++ Q) k (a0 + k) hkY (by omega)
  have hl := inE_len P Y U[i] (U.drop (i + 1) ++ Q) (k + 1) hkY
  have hQ : (U.drop (i + 1) ++ Q).length + i + 1 = U.length + Q.length := by rw [List.length_append, List.length_drop]; omega
  have a1 : a0 + k + 1 < (inE P Y U[i] (U.drop (i + 1) ++ Q) (k + 1)).length := by omega
  have a2 : a0 + k < (inE P Y U[i] (U.drop (i + 1) ++ Q) (k + 1)).length := by omega
  have q2 : ((a0 + (k + 1) : Nat) : Int) > ((a0 : Nat) : Int) := by omega
  have w1 : wi (((a0 + (k + 1) : Nat) : Int) - 1) = ((a0 + k : Nat) : Int) := by rw [wi_id (by omega) (by omega)]; omega
  have e1 : a0 + (k + 1) = a0 + k + 1 := by omega
  rw [e1] at w1 q2
  generalize hL : inE P Y U[i] (U.drop (i + 1) ++ Q) (k + 1) = L at *
  have f1 := evc_fit L t _ a1
  have f2 := evc_fit L t _ a2
  have d1 := evc_drop' L t _ a1
  have d2 := evc_drop' L t _ a2
  rw [g1 a1] at d1
  rw [g2 a2] at d2
  have p1 := evc_put' L t Y[k] (a0 + k + 1) a1
  have p2 := evc_put' (L.set (a0 + k + 1) Y[k]) t U[i] (a0 + k) (by rw [List.length_set]; exact a2)
  rw [g3] at p2
  have f3 := evc_fit (L.set (a0 + k + 1) Y[k]) t (a0 + k) (by rw [List.length_set]; exact a2)
  have n1 : a0 + k + 1 < N := by omega
  have n2 : a0 + k < N := by omega
  refine AWP.draw2 (bitB 17179886351) mixed (by kernel_rfl) (fun j => i64 (cmpN' (U[i]).t (Y[k]).t)) ?_
  simp only [go_sem, q2, e1, w1, n1, n2, ltN' n1, ltN' n2, Nat.zero_add, d1, d2, f1, f2]
  refine ⟨(join_cmp U[i] Y[k]).draw, ?_⟩
  by_cases hc2 : (U[i]).t < (Y[k]).t
  · have q3 : cmpN' (U[i]).t (Y[k]).t < 0 := (cmpN'_neg _ _).2 hc2
    simp only [go_sem, q3]
    refine AWP.draw2 (bitB 17179886351) mixed (by kernel_rfl) (fun j => i64 0) ?_
    simp only [go_sem, e1, w1, n1, n2, ltN' n1, ltN' n2, Nat.zero_add, d1, d2, p1, p2, f1, f2, f3]
    refine (ih2 k ⟨by omega, drop_step hkY hlt hc2⟩ (by omega)).back (Sub.refl _) (by simp) ?_
    simp only [go_sem, w1]
  · have q3 : ¬ cmpN' (U[i]).t (Y[k]).t < 0 := fun h => hc2 ((cmpN'_neg _ _).1 h)
    simp only [go_sem, q3]
    obtain ⟨h1, h2⟩ := ins_place (e := U[i]) hs (show k + 1 ≤ Y.length from hkY) (Or.inr ⟨by simpa using hkY, by simp only [Nat.add_sub_cancel]; omega⟩) hlt
    refine (hend (k + 1) (by omega) h1 h2).back ?_ (by simp) ?_
    · dsimp only; rw [hrest, hL]; exact Sub.refl _
    · simp only [go_sem, wi1]
end Go.Sk
end

-- W12i
section
namespace Go.Sk
open Go Go.Proofs

theorem gather_snoc (l : List Event) (e : Event) : gatherE (l ++ [e]) = putE (gatherE l) e := by unfold gatherE; rw [List.foldl_append]; rfl
theorem putE_spl (l : List Event) (e : Event) : putE l e = splO e.t l ++ [e] ++ splS e.t l := by unfold putE splO splS; simp
theorem putE_len (l : List Event) (e : Event) : (putE l e).length = l.length + 1 := by
  have := spl_len e.t l
  rw [putE_spl]; simp only [List.length_append, List.length_singleton]; omega
set_option maxHeartbeats 2000000 in
set_option maxRecDepth 4000 in
theorem ref12_Gather (l : List Buf) (hl : l.length ≤ 1000) (hn : (allE l).length < 268435456) : Pure Tryz.prog 53 [.p (.sl (l.map Buf.pv))] (.p (evsP (gatherE (allE l)))) := fun S => by
  refine callR_of Tryz.func53 rfl rfl (xc_ok (bitB 4198909) _ _ _ ?_)
  simp only [go_sem]
  refine AWP.tip0 3 3 (by simp only [go_sem]) fun v0 hv0 => ?_
  simp only [go_sem]
  refine AWP.roam (ι := Nat × Nat × Option Nat) (fun y => y.1 ≤ l.length ∧ FreshV S y.2.1)
    (fun y => ⟨Env.get [(0, .p (.sl (l.map Buf.pv))), (2, .nils), (3, .ts y.2.1 3 y.2.2 ((gatherE (allE (l.take y.1))).map Event.pv)), (4, i64 y.1)], S.set (.v y.2.1) (.tip 3 (gatherE (allE (l.take y.1))).length y.2.2), 58, []⟩) (fun y => l.length - y.1) (0, v0, none) ⟨Nat.zero_le _, hv0⟩ ?_ ?_
  · exact le_of (by simp only [go_sem, List.take_zero] <;> simp [allE, gatherE]) (Sub.refl _) rfl rfl (by simp)
  rintro ⟨i, v, loc⟩ ⟨hi, hv⟩ ih
  dsimp only at hi hv ih ⊢
  refine AWPH.step (xc_ok (bitB 4198909) _ _ _ ?_)
  by_cases ci : i < l.length
  rotate_left
  · obtain rfl : i = l.length := by omega
    rw [List.take_length]
    simp only [go_sem, ci, List.length_map]
    exact ⟨S, Sub.set (Sub.refl _) hv _, by simp [evsP]⟩
  have hai := allE_snoc l i ci
  have hal := allE_le l (i + 1)
  have hpv : (l.map Buf.pv).getD i [] = [.int .u64 (l[i]).late, .int .i64 (l[i]).room, .int .u64 (l[i]).mark, .int .u64 (l[i]).front, .sl ((l[i]).evs.map Event.pv)] := by rw [getD_map' _ _ _ _ ci]; rfl
  have hqi : wi ((i : Int) + 1) = ((i + 1 : Nat) : Int) := wi_succ (show i < 4611686018427387904 by omega)
  obtain ⟨E, hE⟩ : ∃ E, allE (l.take i) = E := ⟨_, rfl⟩
  rw [hE] at hai ⊢
  rw [hai, List.length_append] at hal
  generalize hx : l[i] = x at *
  simp only [go_sem, ci, ltN' ci, List.length_map]
  refine AWP.roam (ι := Nat × Nat × Option Nat) (fun y => y.1 ≤ x.evs.length ∧ FreshV S y.2.1)
    (fun y => ⟨Env.get [(0, .p (.sl (l.map Buf.pv))), (2, .nils), (3, .ts y.2.1 3 y.2.2 ((gatherE (E ++ x.evs.take y.1)).map Event.pv)), (4, i64 i), (5, i64 y.1)], S.set (.v y.2.1) (.tip 3 (gatherE (E ++ x.evs.take y.1)).length y.2.2), 58, []⟩) (fun y => x.evs.length - y.1) (0, v, loc) ⟨Nat.zero_le _, hv⟩ ?_ ?_
  · exact le_of (by simp only [go_sem, List.take_zero, List.append_nil] <;> rfl) (by rw [List.take_zero, List.append_nil]; exact Sub.refl _) rfl rfl (by simp)
  clear hv
  rintro ⟨j, v, loc⟩ ⟨hj, hv⟩ jh
  dsimp only at hj hv jh ⊢
  refine AWPH.step (xc_ok (bitB 4198909) _ _ _ ?_)
  by_cases cj : j < x.evs.length
  rotate_left
  · obtain rfl : j = x.evs.length := by omega
    rw [List.take_length, ← hai]
    simp only [go_sem, ci, ltN' ci, hpv, cj, List.length_map]
    refine (ih (i + 1, v, loc) ⟨ci, hv⟩ (by dsimp only; omega)).back (Sub.refl _) (by simp) ?_
    simp only [go_sem, hqi]
  have hqj : wi ((j : Int) + 1) = ((j + 1 : Nat) : Int) := wi_succ (show j < 4611686018427387904 by omega)
  have hts : E ++ x.evs.take (j + 1) = (E ++ x.evs.take j) ++ [x.evs[j]] := by rw [List.take_succ_eq_append_getElem cj, List.append_assoc]
  have hgl := gather_len (E ++ x.evs.take j)
  have hel : (E ++ x.evs.take j).length ≤ E.length + x.evs.length := by rw [List.length_append, List.length_take]; omega
  have hgs := gather_snoc (E ++ x.evs.take j) x.evs[j]
  have hgp := putE_spl (gatherE (E ++ x.evs.take j)) x.evs[j]
  have hpl := putE_len (gatherE (E ++ x.evs.take j)) x.evs[j]
  have hsl := spl_len (x.evs[j]).t (gatherE (E ++ x.evs.take j))
  rw [← hts] at hgs
  rw [← hgs] at hgp hpl
  simp only [go_sem, ci, ltN' ci, hpv, cj, ltN' cj, getD_map' _ _ _ _ cj, List.length_map]
  generalize he : x.evs[j] = e at *
  generalize gatherE (E ++ x.evs.take j) = C at *
  generalize hC2 : gatherE (E ++ x.evs.take (j + 1)) = C2 at *
  refine (ref12_split C e.t (by omega) _).useA ?_
  rintro _ _ ⟨k1, k2, loc1, loc2, hk1, hk2, hkk, rfl, rfl⟩
  simp only [freshv_set] at hk1 hk2
  obtain ⟨O, hO⟩ : ∃ O, splO e.t C = O := ⟨_, rfl⟩
  obtain ⟨T, hT⟩ : ∃ T, splS e.t C = T := ⟨_, rfl⟩
  rw [hO, hT] at hsl hgp
  simp only [hO, hT]
  simp only [go_sem, hkk, hk1, hk2]
  refine ⟨evn_len, by omega, by omega, tip_intro fun k3 loc3 hk3 => ?_⟩
  simp only [freshv_set] at hk3
  have z3 : S (.v k3) = none := hk3.2.2.2
  simp only [go_sem, ci, ltN' ci, hpv, cj, ltN' cj, getD_map' _ _ _ _ cj, hkk, hk1, hk2, hk3, he, List.length_map]
  refine ⟨by rintro el rfl; rfl, evn_len, by omega, by omega, grow_intro fun loc4 => ?_⟩
  have ha1 : O.map Event.pv ++ [[.int .u64 e.t, .int .u64 e.k, .int .u64 e.w]] = (O ++ [e]).map Event.pv := by rw [List.map_append]; rfl
  have ha2 : (O ++ [e]).map Event.pv ++ T.map Event.pv = C2.map Event.pv := by rw [hgp, ← List.map_append]
  simp only [go_sem, hkk, hk1, hk2, hk3, ha1]
  refine ⟨evn_len, evn_len, by simp only [List.length_append, List.length_singleton]; omega, by simp only [List.length_append, List.length_singleton]; omega, grow_intro fun loc5 => ?_⟩
  simp only [go_sem, hkk, hk1, hk2, hk3, ha2, hqj]
  refine (jh (j + 1, k3, loc5) ⟨cj, z3⟩ (by dsimp only; omega)).back ?_ (by simp) ?_
  · rw [hC2]
    have yv : S (.v v) = none := hv
    have y1 : S (.v k1) = none := hk1.2
    have y2 : S (.v k2) = none := hk2.2
    have hlc : (List.map Event.pv C2).length = C2.length := List.length_map ..
    refine sub_set ?_ ?_
    · repeat' first | exact Sub.refl _ | refine Sub.set ?_ (by assumption) _
    · simp only [go_sem, hkk, hk1, hk2, hk3, List.length_map]
  · simp only [go_sem, hqj, ha2, hC2]
end Go.Sk
end

-- W12j
section
namespace Go.Sk
open Go Go.Proofs

theorem Frz.reif {S S' : Store} {x : AV} (h : Sub S' S) : Frz S x S' (Sk.reif x) := fun D _ _ hR hv => ⟨D, hR.forget h, reif_rep hv, (Ext.refl _ _ _).forget h⟩
theorem ref12_splitP (l : List Event) (f : Nat) (hl : l.length < 1073741824) : Pure Tryz.prog 94 [.p (evsP l), u64 f] (.tuple [.p (evsP (splO f l)), .p (evsP (splS f l))]) := fun S => by
  refine (ref12_split l f hl S).frz ?_
  rintro r S' ⟨k1, k2, loc1, loc2, h1, h2, hkk, rfl, rfl⟩
  exact ⟨_, S, Frz.reif (Sub.set (Sub.set (Sub.refl _) h1 _) h2 _), rfl, rfl⟩
set_option maxHeartbeats 2000000 in
set_option maxRecDepth 4000 in
theorem ref12_Join (l : List Buf) (hl : l.length ≤ 1000) (hn : (allE l).length < 268435456) : Pure Tryz.prog 36 [.p (.sl (l.map Buf.pv))] (.tuple [(joinB l).1.av, .p (evsP (joinB l).2)]) := fun S => by
  refine callR_of Tryz.func36 rfl rfl (xc_ok (bitB 16778493) _ _ _ ?_)
  simp only [go_sem]
  refine alloc_intro fun c2 h2 => ?_
  have y2 : S (.r c2) = none := h2
  by_cases hl0 : l = []
  · subst hl0
    simp only [go_sem, List.map_nil, List.length_nil]
    exact ⟨S, Sub.set (Sub.refl _) y2 _, by simp [joinB, zeroB, evsP]⟩
  have hnl : 0 < l.length := List.length_pos_iff.2 hl0
  obtain ⟨g, hg⟩ : ∃ g, l.headD zeroB = g := ⟨_, rfl⟩
  have hget0 : (l.map Buf.pv).getD 0 [] = [.int .u64 g.late, .int .i64 g.room, .int .u64 g.mark, .int .u64 g.front, .sl (g.evs.map Event.pv)] := by rw [← hg]; cases l with | nil => exact absurd rfl hl0 | cons a r => rfl
  have hlb : (l.length == 0) = false := by rw [beq_eq_false_iff_ne]; omega
  have hres : joinB l = (⟨g.late, g.room, maxK Buf.mark l, maxK Buf.front l, splS (maxK Buf.front l) (gatherE (allE l))⟩, splO (maxK Buf.front l) (gatherE (allE l))) := by
    unfold joinB
    obtain ⟨s1, s2⟩ := spl_eq (maxK Buf.front l) _ (gather_ok (allE l)).1
    rw [if_neg hl0, hg, s1, s2]
  rw [hres]
  clear hres
  have hG := ref12_Gather l hl hn
  have hGl := gather_len (allE l)
  simp only [go_sem, hlb, List.length_map]
  refine AWP.draw2 (bitB 16778493) mixed (by kernel_rfl) (fun _ => bl false) ?_
  simp only [go_sem, hnl, ltN' hnl, hget0, List.length_map]
  refine alloc_intro fun c4 h4 => ?_
  simp only [fresh_set] at h4
  have y4 : S (.r c4) = none := h4.2
  simp only [go_sem, h4]
  refine AWP.iter (fun i => ⟨Env.get [(0, .p (.sl (l.map Buf.pv))), (2, .sp c2 0), (3, .nils), (4, .sp c4 0), (5, i64 i)], (S.set (.r c2) (.cells [u64 0, i64 0, u64 0, u64 0, .nils])).set (.r c4) (.cells [u64 g.late, i64 g.room, u64 (maxK Buf.mark (l.take i)), u64 (maxK Buf.front (l.take i)), .nils]), 57, []⟩) l.length ?_ ?_ ?_
  · refine le_of (by simp only [go_sem] <;> rfl) ?_ rfl rfl (by simp)
    ((try dsimp only); (repeat refine sub_set ?_ ?_) <;> first | ((repeat (first | exact Sub.refl _ | refine Sub.setF ?_ (by first | assumption | simp only [*]) | refine Sub.setV ?_ (by first | assumption | simp only [*]))); done) | (simp only [go_sem, h4, List.take_zero]; done) | (simp only [go_sem, h4, List.take_zero]; rfl) | rfl)
  · intro i hi ih
    have hqi : wi ((i : Int) + 1) = ((i + 1 : Nat) : Int) := wi_succ (show i < 4611686018427387904 by clear h4; omega)
    have hpv : (l.map Buf.pv).getD i [] = [.int .u64 (l[i]).late, .int .i64 (l[i]).room, .int .u64 (l[i]).mark, .int .u64 (l[i]).front, .sl ((l[i]).evs.map Event.pv)] := by rw [getD_map' _ _ _ _ hi]; rfl
    have hx1 := maxK_snoc Buf.mark l i hi
    have hx2 := maxK_snoc Buf.front l i hi
    generalize l[i] = x at *
    generalize maxK Buf.mark (l.take i) = m0 at *
    generalize maxK Buf.front (l.take i) = f0 at *
    have e1 : (if m0 < x.mark then ((x.mark : Nat) : Int) else ((m0 : Nat) : Int)) = ((max m0 x.mark : Nat) : Int) := by split <;> omega
    have e2 : (if f0 < x.front then ((x.front : Nat) : Int) else ((f0 : Nat) : Int)) = ((max f0 x.front : Nat) : Int) := by split <;> omega
    refine AWPH.step (xc_ok (bitB 16778493) _ _ _ ?_)
    simp only [go_sem, hi, ltN' hi, List.length_map]
    refine AWP.draw3 (bitB 16778493) mixed (by kernel_rfl) (fun _ => bl false) ?_
    simp only [go_sem, h4, hi, ltN' hi, hpv, List.length_map, e1]
    refine AWP.draw3 (bitB 16778493) mixed (by kernel_rfl) (fun _ => bl false) ?_
    simp only [go_sem, h4, hi, ltN' hi, hpv, List.length_map, e2]
    refine ih.back ?_ (by simp) ?_
    · rw [hx1, hx2]
      ((try dsimp only); (repeat refine sub_set ?_ ?_) <;> first | ((repeat (first | exact Sub.refl _ | refine Sub.setF ?_ (by first | assumption | simp only [*]) | refine Sub.setV ?_ (by first | assumption | simp only [*]))); done) | (simp only [go_sem, h4]; done) | (simp only [go_sem, h4]; rfl) | rfl)
    · simp only [go_sem, hqi]
  · refine AWPH.step (xc_ok (bitB 16778493) _ _ _ ?_)
    rw [List.take_length]
    generalize maxK Buf.mark l = M at *
    generalize maxK Buf.front l = F at *
    have hsl := spl_len F (gatherE (allE l))
    generalize gatherE (allE l) = G at *
    simp only [go_sem, h4, List.length_map]
    refine AWP.draw2 (bitB 16778493) mixed (by kernel_rfl) (fun j => if j = 1 then .p (evsP G) else .tuple [.p (evsP (splO F G)), .p (evsP (splS F G))]) ?_
    simp only [go_sem, h4]
    refine ⟨hG.draw, (ref12_splitP G F (by clear h4; omega)).draw, S, Sub.set (Sub.set (Sub.set (Sub.refl _) y2 _) y4 _) y2 _, by simp [evsP]⟩
end Go.Sk
end

-- A41
section
namespace Go.Sk

theorem nd_perm : ∀ (l m : List Nat), l.Nodup → m.Nodup → (∀ x, x ∈ l ↔ x ∈ m) → l.Perm m := by
  intro l
  induction l with
  | nil =>
    intro m _ _ h
    have : m = [] := List.eq_nil_iff_forall_not_mem.2 fun x hx => by simpa using (h x).2 hx
    subst this; exact List.Perm.refl _
  | cons a r ih =>
    intro m h1 h2 h
    have ha : a ∈ m := (h a).1 List.mem_cons_self
    obtain ⟨hna, hr⟩ := List.nodup_cons.1 h1
    have hp := List.perm_cons_erase ha
    refine ((ih (m.erase a) hr (h2.erase a) fun x => ?_).cons a).trans hp.symm
    rw [h2.mem_erase_iff]
    constructor
    · intro hx; exact ⟨by rintro rfl; exact hna hx, (h x).1 (List.mem_cons_of_mem _ hx)⟩
    · rintro ⟨hne, hx⟩
      rcases List.mem_cons.1 ((h x).2 hx) with e | e
      · exact absurd e hne
      · exact e
theorem nd_all (js : List Nat) (n : Nat) (h : js.Nodup) (hb : ∀ x ∈ js, x < n) (hl : js.length = n) : js.Perm (List.range n) := by
  have hp : js.Perm ((List.range n).filter fun x => decide (x ∈ js)) := nd_perm _ _ h (List.nodup_range.filter _) fun x => by
    rw [List.mem_filter, List.mem_range]; simp; exact fun hx => hb x hx
  have hlen := hp.length_eq
  have e : (List.range n).filter (fun x => decide (x ∈ js)) = List.range n := by
    refine List.filter_eq_self.2 ?_
    refine List.length_filter_eq_length_iff.1 ?_
    rw [← hlen, hl, List.length_range]
  rw [e] at hp; exact hp
theorem nd_lt (js : List Nat) (n : Nat) (h : js.Nodup) (hb : ∀ x ∈ js, x < n) (hl : js.length < n) : ∃ x, x < n ∧ x ∉ js := by
  apply Classical.byContradiction
  intro hc
  have hall : ∀ x, x < n → x ∈ js := fun x hx => Classical.byContradiction fun hn => hc ⟨x, hx, hn⟩
  have hp : js.Perm (List.range n) := nd_perm _ _ h List.nodup_range fun x => by
    rw [List.mem_range]; exact ⟨hb x, hall x⟩
  have := hp.length_eq
  rw [List.length_range] at this; omega
def pickL (m : List (Nat × Nat)) (js : List Nat) : List (Nat × Nat) := js.map fun j => m.getD j default
structure Picks (m : List (Nat × Nat)) (js : List Nat) : Prop where
  nd : js.Nodup
  lt : ∀ j ∈ js, j < m.length
  ord : Ord (pickL m js)
  rest : ∀ i ∈ js, ∀ j, j < m.length → j ∉ js → (m.getD i default).1 ≤ (m.getD j default).1
theorem picks_nil (m : List (Nat × Nat)) : Picks m [] := ⟨List.nodup_nil, fun j h => (by cases h), List.Pairwise.nil, fun i h => (by cases h)⟩
theorem picks_snoc {m : List (Nat × Nat)} {js : List Nat} (p : Picks m js) {a : Nat} (ha : a < m.length) (hn : a ∉ js) (hm : ∀ j, j < m.length → j ∉ js → (m.getD a default).1 ≤ (m.getD j default).1) : Picks m (js ++ [a]) := by
  refine ⟨?_, fun j hj => ?_, ?_, fun i hi j hj hjn => ?_⟩
  · rw [List.nodup_append]
    refine ⟨p.nd, by simp, fun x hx y hy => ?_⟩
    simp only [List.mem_singleton] at hy
    subst hy; rintro rfl; exact hn hx
  · rcases List.mem_append.1 hj with h | h
    · exact p.lt j h
    · rw [List.mem_singleton.1 h]; exact ha
  · unfold Ord pickL
    rw [List.map_append]
    refine List.pairwise_append.2 ⟨p.ord, by simp, fun x hx y hy => ?_⟩
    obtain ⟨i, hi, rfl⟩ := List.mem_map.1 hx
    simp only [List.map_cons, List.map_nil, List.mem_singleton] at hy
    subst hy
    exact p.rest i hi a ha hn
  · rw [List.mem_append, List.mem_singleton] at hjn
    rcases List.mem_append.1 hi with h | h
    · exact p.rest i h j hj (fun h => hjn (Or.inl h))
    · rw [List.mem_singleton.1 h]; exact hm j hj (fun h => hjn (Or.inl h))
theorem picks_all {m : List (Nat × Nat)} {js : List Nat} (p : Picks m js) (hl : js.length = m.length) : (pickL m js).Perm m := by
  have hp := (nd_all js m.length p.nd p.lt hl).map (fun j => m.getD j default)
  have e : (List.range m.length).map (fun j => m.getD j default) = m := by
    apply List.ext_getElem
    · simp
    · intro i h1 h2
      simp at h1
      simp [List.getD_eq_getElem?_getD, h2]
  rw [e] at hp; exact hp
def doneL (n : Nat) (js : List Nat) : List Bool := (List.range n).map fun j => decide (j ∈ js)
theorem done_len (n : Nat) (js : List Nat) : (doneL n js).length = n := by unfold doneL; simp
theorem done_get (n : Nat) (js : List Nat) (j : Nat) (h : j < n) : (doneL n js)[j]? = some (decide (j ∈ js)) := by unfold doneL; simp [h]
theorem done_set (n : Nat) (js : List Nat) (a : Nat) : (doneL n js).set a true = doneL n (js ++ [a]) := by
  apply List.ext_getElem
  · simp [doneL]
  · intro i h1 h2
    rw [List.getElem_set]
    unfold doneL
    by_cases e : a = i
    · simp [e]
    · have e' : ¬ i = a := fun h => e h.symm
      simp [e, e']
/-- What is so of the place of the least one, of the first i. -/
def LeastAt (m : List (Nat × Nat)) (js : List Nat) (i : Nat) (a : Int) : Prop :=
  (a = -1 ∧ ∀ j, j < i → j ∈ js) ∨ ∃ q : Nat, a = q ∧ q < i ∧ q ∉ js ∧ ∀ j, j < i → j ∉ js → (m.getD q default).1 ≤ (m.getD j default).1
theorem least_zero (m : List (Nat × Nat)) (js : List Nat) : LeastAt m js 0 (-1) := Or.inl ⟨rfl, fun j h => by omega⟩
theorem least_skip {m : List (Nat × Nat)} {js : List Nat} {i : Nat} {a : Int} (h : LeastAt m js i a) (hi : i ∈ js) : LeastAt m js (i + 1) a := by
  rcases h with ⟨rfl, h⟩ | ⟨q, rfl, h1, h2, h3⟩
  · refine Or.inl ⟨rfl, fun j hj => ?_⟩
    rcases Nat.lt_or_ge j i with c | c
    · exact h j c
    · obtain rfl : j = i := by omega
      exact hi
  · refine Or.inr ⟨q, rfl, by omega, h2, fun j hj hn => ?_⟩
    rcases Nat.lt_or_ge j i with c | c
    · exact h3 j c hn
    · obtain rfl : j = i := by omega
      exact absurd hi hn
theorem least_first {m : List (Nat × Nat)} {js : List Nat} {i : Nat} (h : LeastAt m js i (-1)) (hi : i ∉ js) : LeastAt m js (i + 1) i := by
  rcases h with ⟨_, h⟩ | ⟨q, e, _⟩
  · refine Or.inr ⟨i, rfl, by omega, hi, fun j hj hn => ?_⟩
    rcases Nat.lt_or_ge j i with c | c
    · exact absurd (h j c) hn
    · obtain rfl : j = i := by omega
      exact Nat.le_refl _
  · omega
theorem least_more {m : List (Nat × Nat)} {js : List Nat} {i q : Nat} (h : LeastAt m js i q) (hi : i ∉ js) :
    q < i ∧ ((m.getD i default).1 < (m.getD q default).1 → LeastAt m js (i + 1) i) ∧ (¬ (m.getD i default).1 < (m.getD q default).1 → LeastAt m js (i + 1) q) := by
  rcases h with ⟨e, _⟩ | ⟨q', e, h1, h2, h3⟩
  · omega
  · obtain rfl : q = q' := by omega
    refine ⟨h1, fun hlt => Or.inr ⟨i, rfl, by omega, hi, fun j hj hn => ?_⟩, fun hge => Or.inr ⟨q, rfl, by omega, h2, fun j hj hn => ?_⟩⟩
    · rcases Nat.lt_or_ge j i with c | c
      · have := h3 j c hn; omega
      · obtain rfl : j = i := by omega
        exact Nat.le_refl _
    · rcases Nat.lt_or_ge j i with c | c
      · exact h3 j c hn
      · obtain rfl : j = i := by omega
        omega
theorem picks_sub {m : List (Nat × Nat)} {js : List Nat} (p : Picks m js) : sumW (pickL m js) ≤ sumW m ∧ ∀ x ∈ pickL m js, x ∈ m := by
  constructor
  · have hp : (js ++ (List.range m.length).filter fun x => decide (x ∉ js)).Perm (List.range m.length) := by
      refine nd_perm _ _ ?_ List.nodup_range fun x => ?_
      · rw [List.nodup_append]
        refine ⟨p.nd, List.nodup_range.filter _, fun x hx y hy => ?_⟩
        have := (List.mem_filter.1 hy).2
        rintro rfl
        simp [hx] at this
      · rw [List.mem_append, List.mem_filter, List.mem_range]
        constructor
        · rintro (h | h)
          · exact p.lt x h
          · exact h.1
        · intro h
          by_cases hx : x ∈ js
          · exact Or.inl hx
          · exact Or.inr ⟨h, by simpa using hx⟩
    have h2 := hp.map (fun j => m.getD j default)
    rw [List.map_append] at h2
    have e : (List.range m.length).map (fun j => m.getD j default) = m := by
      apply List.ext_getElem
      · simp
      · intro i h1 h2
        simp at h1
        simp [List.getD_eq_getElem?_getD, h2]
    rw [e] at h2
    have h3 := sumW_perm h2
    rw [sumW_app] at h3
    show sumW (js.map fun j => m.getD j default) ≤ _
    omega
  · intro x hx
    obtain ⟨j, hj, rfl⟩ := List.mem_map.1 hx
    have hl := p.lt j hj
    rw [List.getD_eq_getElem?_getD, List.getElem?_eq_getElem hl]
    exact List.getElem_mem hl
theorem picks_good {k : Int} (h1 : 2 ≤ k) (h2 : k ≤ 1024) (g : Int) {m : List (Nat × Nat)} {js : List Nat} (p : Picks m js) (he : ∀ x ∈ m, x.1 ≤ 9223372036854775807 ∧ 1 ≤ x.2) (ht : sumW m ≤ 4503599627370496) : (foldH ⟨k, g, []⟩ (pickL m js)).Good := by
  obtain ⟨a, b⟩ := picks_sub p
  exact fold_good h1 h2 g p.ord (fun x hx => he x (b x hx)) (by omega)
theorem pickL_snoc (m : List (Nat × Nat)) (js : List Nat) (a : Nat) : pickL m (js ++ [a]) = pickL m js ++ [m.getD a default] := by unfold pickL; rw [List.map_append]; rfl
theorem least_end {m : List (Nat × Nat)} {js : List Nat} (p : Picks m js) (hl : js.length < m.length) {a : Int} (h : LeastAt m js m.length a) :
    ∃ q : Nat, a = q ∧ q < m.length ∧ q ∉ js ∧ ∀ j, j < m.length → j ∉ js → (m.getD q default).1 ≤ (m.getD j default).1 := by
  rcases h with ⟨_, h⟩ | h
  · obtain ⟨x, h1, h2⟩ := nd_lt js m.length p.nd p.lt hl
    exact absurd (h x h1) h2
  · exact h
end Go.Sk
end

-- W10i
section
namespace Go.Sk
open Go Go.Proofs

set_option maxHeartbeats 1000000 in
set_option maxRecDepth 4000 in
theorem ref10_least (m : List (Nat × Nat)) (js : List Nat) (hn : m.length < 1099511627776) {S : Store} {b c : Nat} (hb : S (.r b) = some (.cells ((doneL m.length js).map bl))) :
    CallR Tryz.prog 97 [.p (.sl (m.map lumE)), .ms b 1 0 m.length c] S (fun r S' => (∃ a : Int, r = i64 a ∧ LeastAt m js m.length a) ∧ S' = S) := by
  refine callR_of Tryz.func97 rfl rfl (xc_ok (bitB 17179870323) _ _ _ ?_)
  simp only [go_sem]
  refine AWP.roam (ι := Nat × Int) (fun x => x.1 ≤ m.length ∧ LeastAt m js x.1 x.2)
    (fun x => ⟨Env.get [(0, .p (.sl (m.map lumE))), (1, .ms b 1 0 m.length c), (5, i64 x.2), (6, i64 x.1)], S, 37, []⟩) (fun x => m.length - x.1) (0, -1) ⟨Nat.zero_le _, least_zero m js⟩ ?_ ?_
  · refine le_of (by simp only [go_sem] <;> rfl) (Sub.refl _) rfl rfl (by simp)
  · rintro ⟨i, a⟩ ⟨hi, hL⟩ ih
    dsimp only at hi hL ⊢
    have hqi : wi ((i : Int) + 1) = ((i + 1 : Nat) : Int) := wi_succ (show i < 4611686018427387904 by omega)
    refine AWPH.step (xc_ok (bitB 17179870323) _ _ _ ?_)
    by_cases hc : i < m.length
    rotate_left
    · obtain rfl : i = m.length := by omega
      simp only [go_sem, List.length_map]
      exact ⟨_, Sub.refl _, Or.inl ⟨⟨a, rfl, hL⟩, rfl⟩⟩
    have hdl := done_len m.length js
    have hdg := done_get m.length js i hc
    simp only [go_sem, hc, ltN' hc, List.length_map]
    have hdg3 : (List.map bl (doneL m.length js)).getD (i * 1) AV.top = bl (decide (i ∈ js)) := by
      rw [Nat.mul_one, List.getD_eq_getElem?_getD, List.getElem?_map, hdg]; rfl
    have hmi : (m.map lumE).getD i [] = [.int .u64 (m.getD i default).1, .int .u64 (m.getD i default).2] := by
      rw [getD_map' _ _ _ _ hc]; simp [List.getD_eq_getElem?_getD, hc, lumE]
    by_cases hj : i ∈ js
    · refine AWP.draw2 (bitB 17179870323) mixed (by kernel_rfl) (fun j => bl false) ?_
      simp only [go_sem, hc, ltN' hc, List.length_map, hb, hdl, hdg3, hj, decide_true, Bool.not_true]
      refine ⟨by omega, ?_⟩
      refine (ih (i + 1, a) ⟨hc, least_skip hL hj⟩ (by dsimp only; omega)).back (by (repeat (first | exact Sub.refl _ | refine Sub.setF ?_ (by first | assumption | simp only [*]) | refine Sub.setV ?_ (by first | assumption | simp only [*])))) (by simp) ?_
      simp only [go_sem, hqi]
    · by_cases ha : a < 0
      · obtain rfl : a = -1 := by
          rcases hL with ⟨e, _⟩ | ⟨q, e, _⟩
          · exact e
          · omega
        refine AWP.draw2 (bitB 17179870323) mixed (by kernel_rfl) (fun j => bl false) ?_
        simp only [go_sem, hc, ltN' hc, List.length_map, hb, hdl, hdg3, hj, ha, decide_false, Bool.not_false]
        refine ⟨by omega, ?_⟩
        refine (ih (i + 1, (i : Int)) ⟨hc, least_first hL hj⟩ (by dsimp only; omega)).back (by (repeat (first | exact Sub.refl _ | refine Sub.setF ?_ (by first | assumption | simp only [*]) | refine Sub.setV ?_ (by first | assumption | simp only [*])))) (by simp) ?_
        simp only [go_sem, hqi]
      · obtain ⟨q, rfl⟩ : ∃ q : Nat, a = q := ⟨a.toNat, by omega⟩
        obtain ⟨hq, hl1, hl2⟩ := least_more hL hj
        have hqm : q < m.length := by omega
        have hmq : (m.map lumE).getD q [] = [.int .u64 (m.getD q default).1, .int .u64 (m.getD q default).2] := by
          rw [getD_map' _ _ _ _ hqm]; simp [List.getD_eq_getElem?_getD, hqm, lumE]
        by_cases hlt : (m.getD i default).1 < (m.getD q default).1
        · refine AWP.draw2 (bitB 17179870323) mixed (by kernel_rfl) (fun j => bl false) ?_
          simp only [go_sem, hc, ltN' hc, List.length_map, hb, hdl, hdg3, hj, ha, decide_false, Bool.not_false, hmi, hmq, hqm, ltN' hqm, hlt]
          refine ⟨by omega, ?_⟩
          refine (ih (i + 1, (i : Int)) ⟨hc, hl1 hlt⟩ (by dsimp only; omega)).back (by (repeat (first | exact Sub.refl _ | refine Sub.setF ?_ (by first | assumption | simp only [*]) | refine Sub.setV ?_ (by first | assumption | simp only [*])))) (by simp) ?_
          simp only [go_sem, hqi]
        · refine AWP.draw2 (bitB 17179870323) mixed (by kernel_rfl) (fun j => bl false) ?_
          simp only [go_sem, hc, ltN' hc, List.length_map, hb, hdl, hdg3, hj, ha, decide_false, Bool.not_false, hmi, hmq, hqm, ltN' hqm, hlt]
          refine ⟨by omega, ?_⟩
          refine (ih (i + 1, (q : Int)) ⟨hc, hl2 hlt⟩ (by dsimp only; omega)).back (by (repeat (first | exact Sub.refl _ | refine Sub.setF ?_ (by first | assumption | simp only [*]) | refine Sub.setV ?_ (by first | assumption | simp only [*])))) (by simp) ?_
          simp only [go_sem, hqi]
end Go.Sk
end

-- W10j
section
namespace Go.Sk
open Go Go.Proofs

theorem came_iff {evs : List Event} {l : List Hist} (hf : ∀ h ∈ l, h.Fine) (h0 : (withV evs l).2 = 0) : Came l evs := by
  by_cases c1 : l = [] ∨ evs.any (fun e => e.w == 0) = true
  · rw [withV_e c1] at h0; simp at h0
  have hl : l ≠ [] := fun e => c1 (Or.inl e)
  have h1 : evs.any (fun e => e.w == 0) = false := by
    cases h : evs.any (fun e => e.w == 0) with
    | true => exact absurd (Or.inr h) c1
    | false => rfl
  cases h2 : l.any (fun h => h.k != (l.headD zeroH).k) with
  | true => rw [withV_k hl h1 h2] at h0; simp at h0
  | false =>
    by_cases h3 : 4 ≤ maxG l
    · rw [withV_g hl h1 h2 h3] at h0; simp at h0
    cases h4 : evs.any (fun e => decide (9223372036854775807 < e.t)) with
    | true => rw [withV_t hl h1 h2 h3 h4] at h0; simp at h0
    | false =>
      by_cases h5 : 4503599627370496 < sumT l + sumE Event.w evs
      · rw [withV_o hl h1 h2 h3 h4 h5] at h0; simp at h0
      exact came_of hf hl h1 h2 h3 h4 h5
theorem withV_no {evs : List Event} {l : List Hist} (hf : ∀ h ∈ l, h.Fine) (h0 : (withV evs l).2 ≠ 0) : (withV evs l).1 = zeroH := by
  by_cases c1 : l = [] ∨ evs.any (fun e => e.w == 0) = true
  · rw [withV_e c1]
  have hl : l ≠ [] := fun e => c1 (Or.inl e)
  have h1 : evs.any (fun e => e.w == 0) = false := by
    cases h : evs.any (fun e => e.w == 0) with
    | true => exact absurd (Or.inr h) c1
    | false => rfl
  cases h2 : l.any (fun h => h.k != (l.headD zeroH).k) with
  | true => rw [withV_k hl h1 h2]
  | false =>
    by_cases h3 : 4 ≤ maxG l
    · rw [withV_g hl h1 h2 h3]
    cases h4 : evs.any (fun e => decide (9223372036854775807 < e.t)) with
    | true => rw [withV_t hl h1 h2 h3 h4]
    | false =>
      by_cases h5 : 4503599627370496 < sumT l + sumE Event.w evs
      · rw [withV_o hl h1 h2 h3 h4 h5]
      exact absurd (withV_ok (came_of hf hl h1 h2 h3 h4 h5)) h0
set_option maxHeartbeats 2000000 in
set_option maxRecDepth 8000 in
theorem ref10_With (evs : List Event) (l : List Hist) (hn : l.length ≤ 1000) (hne : evs.length < 1048576) (hoe : ∀ e ∈ evs, e.Ok) (hf : ∀ h ∈ l, h.Fine) (hg4 : ∀ h ∈ l, h.g ≤ 4) :
    Pure Tryz.prog 37 [.p (evsP evs), .p (.sl (l.map Hist.cs))] (.tuple [(withV evs l).1.av, i64 (withV evs l).2]) := fun S => by
  refine callR_of Tryz.func37 rfl rfl (xc_ok (bitB 1180591761459196788723) _ _ _ ?_)
  simp only [go_sem]
  refine alloc_intro fun c4 h4 => ?_
  have y4 : S (.r c4) = none := h4
  simp only [go_sem]
  refine (ref10_bad evs l hn hne hoe hf hg4).useA ?_
  by_cases h0 : (withV evs l).2 = 0
  rotate_left
  · have e0 : ((withV evs l).2 != 0) = true := by simpa using h0
    rw [withV_no hf h0]
    simp only [go_sem, e0]
    (refine ⟨S, by (repeat (first | exact Sub.refl _ | refine Sub.setF ?_ (by first | assumption | simp only [*]) | refine Sub.setV ?_ (by first | assumption | simp only [*]))), ?_⟩); simp [zeroH]
  have hcm := came_iff hf h0
  have hl0 := hcm.ne
  have hlen : 0 < l.length := List.length_pos_iff.2 hl0
  have e0 : ((withV evs l).2 != 0) = false := by simpa using h0
  obtain ⟨k0, hk0⟩ : ∃ k0, (l.headD zeroH).k = k0 := ⟨_, rfl⟩
  have hk0' : (l[0]).k = k0 := by rw [← hk0]; cases l with | nil => exact absurd rfl hl0 | cons a r => rfl
  have hsl : ∀ h ∈ l, h.ls.length ≤ 53 ∧ totN 0 h.ls ≤ 4503599627370496 := fun h hh => ⟨(hf h hh).good.len, (hf h hh).good.tot⟩
  have hget0 : (l.map Hist.cs).getD 0 [] = [.int .i64 k0, .int .i64 (l[0]).g, .sl ((l[0]).ls.map lvE)] := by
    rw [getD_map' _ _ _ _ hlen, ← hk0']; rfl
  simp only [go_sem, e0, hlen, ltN' hlen, hget0, List.length_map]
  refine alloc_intro fun c7 h7 => ?_
  simp only [fresh_set] at h7
  have y7 : S (.r c7) = none := h7.2
  simp only [go_sem, h7]
  refine AWP.iter (fun i => ⟨Env.get [(0, .p (evsP evs)), (1, .p (.sl (l.map Hist.cs))), (4, .sp c4 0), (7, .sp c7 0), (8, i64 (maxG (l.take i))), (9, i64 i)],
    (S.set (.r c4) (.cells [i64 0, i64 0, .nils])).set (.r c7) (.cells [i64 k0, i64 0, .nils]), 99, []⟩) l.length ?_ ?_ ?_
  · refine le_of (by simp only [go_sem] <;> simp [maxG]) ?_ rfl rfl (by simp)
    ((try dsimp only); (repeat refine sub_set ?_ ?_) <;> first | ((repeat (first | exact Sub.refl _ | refine Sub.setF ?_ (by first | assumption | simp only [*]) | refine Sub.setV ?_ (by first | assumption | simp only [*]))); done) | (simp only [go_sem, h7]; done) | (simp only [go_sem, h7]; rfl) | rfl)
  · intro i hi ih
    have hsn := maxG_snoc l i hi
    have hqi : wi ((i : Int) + 1) = ((i + 1 : Nat) : Int) := wi_succ (show i < 4611686018427387904 by clear h7; omega)
    have hget : (l.map Hist.cs).getD i [] = [.int .i64 (l[i]).k, .int .i64 (l[i]).g, .sl ((l[i]).ls.map lvE)] := by
      rw [getD_map' _ _ _ _ hi]; rfl
    have emax : (if (l[i]).g > maxG (l.take i) then (l[i]).g else maxG (l.take i)) = maxG (l.take (i + 1)) := by rw [hsn]; split <;> omega
    refine AWPH.step (xc_ok (bitB 1180591761459196788723) _ _ _ ?_)
    simp only [go_sem, hi, ltN' hi, hget, List.length_map, emax]
    refine ih.back (by (repeat (first | exact Sub.refl _ | refine Sub.setF ?_ (by first | assumption | simp only [*]) | refine Sub.setV ?_ (by first | assumption | simp only [*])))) (by simp) ?_
    simp only [go_sem, hqi]
  · refine AWPH.step (xc_ok (bitB 1180591761459196788723) _ _ _ ?_)
    simp only [go_sem, h7, List.take_length, List.length_map]
    refine (ref10_lumps l (by omega) (fun h hh => (hf h hh).good) _).useA ?_
    rintro _ _ ⟨v, loc, hv, rfl, rfl⟩
    simp only [freshv_setr] at hv
    simp only [go_sem, h7, hv]
    have hRl := lumpsR_len l (fun h hh => (hf h hh).good)
    have hbig : ∀ i, (lumpsR l ++ evL (evs.take i)).length ≤ 61048576 := fun i => by
      have : (evL (evs.take i)).length ≤ evs.length := by unfold evL; rw [List.length_map, List.length_take]; omega
      rw [List.length_append]; omega
    refine AWP.iterE (ι := Option Nat) (fun loc i => ⟨Env.get [(0, .p (evsP evs)), (4, .sp c4 0), (7, .sp c7 0), (8, i64 (maxG l)), (10, .ts v 2 loc ((lumpsR l ++ evL (evs.take i)).map lumE)), (11, i64 i)],
      ((S.set (.r c4) (.cells [i64 0, i64 0, .nils])).set (.r c7) (.cells [i64 k0, i64 0, .nils])).set (.v v) (.tip 2 (lumpsR l ++ evL (evs.take i)).length loc), 99, []⟩) evs.length loc ?_ ?_ ?_
    · have q : lumpsR l ++ evL [] = lumpsR l := List.append_nil _
      refine le_of (by simp only [go_sem, List.take_zero, q] <;> rfl) ?_ rfl rfl (by simp)
      ((try dsimp only); (repeat refine sub_set ?_ ?_) <;> first | ((repeat (first | exact Sub.refl _ | refine Sub.setF ?_ (by first | assumption | simp only [*]) | refine Sub.setV ?_ (by first | assumption | simp only [*]))); done) | (simp only [go_sem, h7, hv, List.take_zero, q]; done) | (simp only [go_sem, h7, hv, List.take_zero, q]; rfl) | rfl)
    · intro i loc hi ih
      have hqi : wi ((i : Int) + 1) = ((i + 1 : Nat) : Int) := wi_succ (show i < 4611686018427387904 by clear h7; omega)
      have hb := hbig i
      have hnext : lumpsR l ++ evL (evs.take (i + 1)) = (lumpsR l ++ evL (evs.take i)) ++ [((evs[i]).t, (evs[i]).w)] := by
        unfold evL
        rw [List.take_succ_eq_append_getElem hi, List.map_append, List.append_assoc]; rfl
      rw [hnext] at ih
      generalize lumpsR l ++ evL (evs.take i) = M at *
      have hlx : (M ++ [((evs[i]).t, (evs[i]).w)]).length = M.length + 1 := by rw [List.length_append]; rfl
      have e5 : M.map lumE ++ [[.int .u64 (evs[i]).t, .int .u64 (evs[i]).w]] = (M ++ [((evs[i]).t, (evs[i]).w)]).map lumE := by rw [List.map_append]; rfl
      refine AWPH.step (xc_ok (bitB 1180591761459196788723) _ _ _ ?_)
      simp only [go_sem, evsP, hi, ltN' hi, List.length_map]
      refine AWP.draw2 (bitB 1180591761459196788723) mixed (by kernel_rfl) (fun j => bl false) ?_
      simp only [go_sem, evsP, hi, ltN' hi, getD_map' _ _ _ _ hi, List.length_map, hv]
      refine ⟨by rintro el rfl; rfl, lum_len, by clear h7; omega, by clear h7; omega, grow_intro fun loc' => ?_⟩
      simp only [go_sem, hv, hqi, e5]
      refine (ih loc').back ?_ (by simp) ?_
      · ((try dsimp only); (repeat refine sub_set ?_ ?_) <;> first | ((repeat (first | exact Sub.refl _ | refine Sub.setF ?_ (by first | assumption | simp only [*]) | refine Sub.setV ?_ (by first | assumption | simp only [*]))); done) | (simp only [go_sem, h7, hv, e5, hlx, List.length_map]; done) | (simp only [go_sem, h7, hv, e5, hlx, List.length_map]; rfl) | rfl)
      · simp only [go_sem, hqi, evsP]
    · intro loc
      have hb := hbig evs.length
      rw [List.take_length] at hb ⊢
      generalize hM : lumpsR l ++ evL evs = M at *
      refine AWPH.step (xc_ok (bitB 1180591761459196788723) _ _ _ ?_)
      have hMp : M.Perm (lumpsP l ++ evL evs) := by rw [← hM]; exact List.Perm.append_right _ (lumpsR_perm l)
      obtain ⟨hcl, hcs⟩ := came_lumps hcm
      have hMe : ∀ x ∈ M, x.1 ≤ 9223372036854775807 ∧ 1 ≤ x.2 := fun x hx => hcl x (hMp.mem_iff.1 hx)
      have hMs : sumW M ≤ 4503599627370496 := by rw [sumW_perm hMp, hcs]; exact hcm.tot
      have hfk := (hcm.fine _ (head_mem hcm.ne)).good
      have hk2 : 2 ≤ k0 := by rw [← hk0]; exact hfk.k0
      have hk3 : k0 ≤ 1024 := by rw [← hk0]; exact hfk.k1
      simp only [go_sem, h7, hv, evsP, List.length_map]
      refine ⟨by clear h7; omega, by clear h7; omega, make_intro fun b hbf => ?_⟩
      simp only [fresh_set, fresh_setv] at hbf
      have yb : S (.r b) = none := hbf.2.2
      simp only [go_sem, h7, hv, hbf]
      refine AWP.data 10 ?_
      have hz0 : zcs [bl false] M.length = (doneL M.length []).map bl := by
        apply List.ext_getElem
        · simp [zcs, doneL]
        · intro i h1 h2
          simp [zcs, doneL]
      simp only [go_sem, h7, hv, hbf, hz0]
      refine AWP.roam (ι := List Nat) (fun js => Picks M js ∧ js.length ≤ M.length)
        (fun js => ⟨Env.get [(4, .sp c4 0), (7, .sp c7 0), (8, i64 (maxG l)), (10, .p (.sl (M.map lumE))), (12, .ms b 1 0 M.length M.length), (13, i64 js.length)],
          ((S.set (.r c4) (.cells [i64 0, i64 0, .nils])).set (.r c7) (.cells [i64 (foldH ⟨k0, 0, []⟩ (pickL M js)).k, i64 (foldH ⟨k0, 0, []⟩ (pickL M js)).g, if js = [] then .nils else .p (.sl ((foldH ⟨k0, 0, []⟩ (pickL M js)).ls.map lvE))])).set (.r b) (.cells ((doneL M.length js).map bl)), 99, []⟩) (fun js => M.length - js.length) [] ⟨picks_nil M, Nat.zero_le _⟩ ?_ ?_
      · refine le_of (by simp only [go_sem, List.length_nil] <;> rfl) ?_ rfl rfl (by simp)
        rw [if_pos rfl]
        show Sub (((S.set (.r c4) (.cells [i64 0, i64 0, .nils])).set (.r c7) (.cells [i64 k0, i64 0, .nils])).set (.r b) (.cells ((doneL M.length []).map bl))) _
        ((try dsimp only); (repeat refine sub_set ?_ ?_) <;> first | ((repeat (first | exact Sub.refl _ | refine Sub.setF ?_ (by first | assumption | simp only [*]) | refine Sub.setV ?_ (by first | assumption | simp only [*]))); done) | (simp only [go_sem, h7, hv, hbf]; done) | (simp only [go_sem, h7, hv, hbf]; rfl) | rfl)
      · rintro js ⟨hp, hjl⟩ ih
        have hqi : wi ((js.length : Int) + 1) = ((js.length + 1 : Nat) : Int) := wi_succ (show js.length < 4611686018427387904 by clear h7; omega)
        refine AWPH.step (xc_ok (bitB 1180591761459196788723) _ _ _ ?_)
        by_cases hc : js.length < M.length
        · simp only [go_sem, h7, hv, hbf, hc, ltN' hc, List.length_map]
          refine (ref10_least M js (by clear h7; omega) (by simp only [go_sem, h7, hbf])).useA ?_
          rintro _ _ ⟨⟨a, rfl, hL⟩, rfl⟩
          obtain ⟨q, rfl, hq1, hq2, hq3⟩ := least_end hp hc hL
          have hp2 := picks_snoc hp hq1 hq2 hq3
          have hgood := picks_good hk2 hk3 0 hp hMe hMs
          have hqm : (M.map lumE).getD q [] = [.int .u64 (M.getD q default).1, .int .u64 (M.getD q default).2] := by
            rw [getD_map' _ _ _ _ hq1]; simp [List.getD_eq_getElem?_getD, hq1, lumE]
          have hqw : (M.getD q default).2 < 18446744073709551616 := by
            have := sumW_mem (l := M) (M.getD q default) (by rw [List.getD_eq_getElem?_getD, List.getElem?_eq_getElem hq1]; exact List.getElem_mem hq1)
            clear h7 hbf; omega
          have hfs : (addH (foldH ⟨k0, 0, []⟩ (pickL M js)) (M.getD q default).1 (M.getD q default).2).1 = foldH ⟨k0, 0, []⟩ (pickL M (js ++ [q])) := by rw [pickL_snoc, foldH_snoc]
          have hcall := ref06_addH (foldH ⟨k0, 0, []⟩ (pickL M js)) hgood.ok (M.getD q default).1 (M.getD q default).2 hqw
          have hdl := done_len M.length js
          have hds : List.take (q * 1) (List.map bl (doneL M.length js)) ++ [AV.p (PV.bool true)] ++ List.drop (q * 1 + 1) (List.map bl (doneL M.length js)) = (doneL M.length (js ++ [q])).map bl := by
            rw [Nat.mul_one, ← done_set, List.map_set, List.set_eq_take_append_cons_drop, if_pos (by rw [List.length_map, hdl]; exact hq1)]
            simp
          have hjs1 : (js ++ [q] = []) = False := by simp
          have hjl1 : (js ++ [q]).length = js.length + 1 := by rw [List.length_append]; rfl
          simp only [go_sem, h7, hv, hbf, hq1, ltN' hq1, List.length_map]
          refine ⟨by rw [hdl]; clear h7 hbf; omega, ?_⟩
          by_cases hj0 : js = []
          · have hF0 : foldH ⟨k0, 0, []⟩ (pickL M js) = ⟨k0, 0, []⟩ := by rw [hj0]; rfl
            refine AWP.draw2 (bitB 1180591761459196788723) mixed (by kernel_rfl) (fun j => .tuple [(addH (foldH ⟨k0, 0, []⟩ (pickL M js)) (M.getD q default).1 (M.getD q default).2).1.av, i64 (addH (foldH ⟨k0, 0, []⟩ (pickL M js)) (M.getD q default).1 (M.getD q default).2).2]) ?_
            rw [if_pos hj0, hF0, hds]
            rw [hF0] at hcall hfs
            simp only [go_sem, h7, hv, hbf, hq1, ltN' hq1, hqm, List.length_map]
            refine ⟨hcall.draw, alloc_intro fun c15 h15 => ?_⟩
            simp only [fresh_set] at h15
            rw [hfs]
            simp only [go_sem, h7, hv, hbf, h15]
            refine (ih (js ++ [q]) ⟨hp2, by rw [hjl1]; clear h7 hbf; omega⟩ (by rw [hjl1]; clear h7 hbf; omega)).back ?_ (by simp) ?_
            · ((try dsimp only); (repeat refine sub_set ?_ ?_) <;> first | ((repeat (first | exact Sub.refl _ | refine Sub.setF ?_ (by first | assumption | simp only [*]) | refine Sub.setV ?_ (by first | assumption | simp only [*]))); done) | (simp only [go_sem, h7, hv, hbf, h15, hjs1, if_false]; done) | (simp only [go_sem, h7, hv, hbf, h15, hjs1, if_false]; rfl) | rfl)
            · simp only [go_sem, hqi, hjl1]
          · refine AWP.draw2 (bitB 1180591761459196788723) mixed (by kernel_rfl) (fun j => .tuple [(addH (foldH ⟨k0, 0, []⟩ (pickL M js)) (M.getD q default).1 (M.getD q default).2).1.av, i64 (addH (foldH ⟨k0, 0, []⟩ (pickL M js)) (M.getD q default).1 (M.getD q default).2).2]) ?_
            rw [if_neg hj0, hds]
            simp only [go_sem, h7, hv, hbf, hq1, ltN' hq1, hqm, List.length_map]
            refine ⟨hcall.draw, alloc_intro fun c15 h15 => ?_⟩
            simp only [fresh_set] at h15
            rw [hfs]
            simp only [go_sem, h7, hv, hbf, h15]
            refine (ih (js ++ [q]) ⟨hp2, by rw [hjl1]; clear h7 hbf; omega⟩ (by rw [hjl1]; clear h7 hbf; omega)).back ?_ (by simp) ?_
            · ((try dsimp only); (repeat refine sub_set ?_ ?_) <;> first | ((repeat (first | exact Sub.refl _ | refine Sub.setF ?_ (by first | assumption | simp only [*]) | refine Sub.setV ?_ (by first | assumption | simp only [*]))); done) | (simp only [go_sem, h7, hv, hbf, h15, hjs1, if_false]; done) | (simp only [go_sem, h7, hv, hbf, h15, hjs1, if_false]; rfl) | rfl)
            · simp only [go_sem, hqi, hjl1]
        · have hjn : js.length = M.length := by clear h7 hbf; omega
          have hperm := (picks_all hp hjn).trans hMp
          obtain ⟨hw, _⟩ := with_any hcm hperm hp.ord 0
          obtain ⟨_, _, b3, b4, _⟩ := with_ok hcm
          have hmg := maxG_le (l := l) hg4
          have ew : wi (maxG l + 1) = maxG l + 1 := wi_id (by clear h7 hbf; omega) (by clear h7 hbf; omega)
          rw [hk0] at hw b3
          have hres : (withV evs l).1 = ⟨k0, maxG l + 1, (withV evs l).1.ls⟩ := by rw [← b3, ← b4]
          rw [h0, hres]
          rw [hw]
          simp only [go_sem, h7, hv, hbf, hc, List.length_map, ew]
          by_cases hj0 : js = []
          · rw [hj0] at hw
            have hls : (withV evs l).1.ls = [] := by
              have : (⟨k0, 0, []⟩ : Hist) = ⟨k0, 0, (withV evs l).1.ls⟩ := hw
              simpa using this.symm
            rw [if_pos hj0, hls]
            simp only [go_sem]
            refine ⟨S, Sub.set (Sub.set (Sub.set (Sub.set (Sub.set (Sub.refl _) y4 _) y7 _) yb _) y7 _) y4 _, ?_⟩
            exact Or.inl rfl
          · rw [if_neg hj0]
            simp only [go_sem]
            refine ⟨S, Sub.set (Sub.set (Sub.set (Sub.set (Sub.set (Sub.refl _) y4 _) y7 _) yb _) y7 _) y4 _, ?_⟩
            exact Or.inr rfl
theorem ref10_Merge (l : List Hist) (hn : l.length ≤ 1000) (hf : ∀ h ∈ l, h.Fine) (hg4 : ∀ h ∈ l, h.g ≤ 4) :
    Pure Tryz.prog 34 [.p (.sl (l.map Hist.cs))] (.tuple [(withV [] l).1.av, i64 (withV [] l).2]) := fun S => by
  refine callR_of Tryz.func34 rfl rfl (xc_ok (bitB 13) _ _ _ ?_)
  simp only [go_sem]
  refine alloc_intro fun c2 h2 => ?_
  have y2 : S (.r c2) = none := h2
  simp only [go_sem]
  refine (ref10_With [] l hn (by simp) (fun e he => by cases he) hf hg4).useA ?_
  simp only [go_sem]
  (refine ⟨S, by (repeat (first | exact Sub.refl _ | refine Sub.setF ?_ (by first | assumption | simp only [*]) | refine Sub.setV ?_ (by first | assumption | simp only [*]))), ?_⟩); simp
end Go.Sk
end
