/- Texts A53 A54 A55 A56 WSa W10b W10c WSort W10d W10f W10e W14d W14e W14f, joined. -/
import Derived.Test.YthpfcfacofakoaaGreatRJC
import Derived.Test.YthpfcfacofakoaaGreatRJA
import Derived.Test.YthpfcfacofakoaaGreatSkTp
import Derived.Test.YthpfcfacofakoaaGreatRJB
import Derived.Test.YthpfcfacofakoaaGreatSkRg
import Derived.Shelf.SlSortCmp.WholeK
import Derived.Test.YthpfcfacofakoaaGreatProg
import Derived.Test.YthpfcfacofakoaaGreatSkS
import Derived.Test.YthpfcfacofakoaaGreatRJD
set_option linter.unusedSimpArgs false
set_option linter.unusedVariables false
set_option linter.unusedSectionVars false
-- A53
section
namespace Go.Sk

theorem get_mid (A B : List Event) (x : Event) (i : Nat) (hi : i = A.length) (h : i < (A ++ x :: B).length) : (A ++ x :: B)[i] = x := by
  subst hi; simp
theorem set_mid (A B : List Event) (x y : Event) (i : Nat) (hi : i = A.length) : (A ++ x :: B).set i y = A ++ y :: B := by
  subst hi; simp
theorem swap_far (A B C : List Event) (u v : Event) (i j : Nat) (hi : i = A.length) (hj : j = A.length + 1 + B.length) : ((A ++ u :: (B ++ v :: C)).set i v).set j u = A ++ v :: (B ++ u :: C) := by
  rw [set_mid A _ u v i hi]
  have e1 : A ++ v :: (B ++ v :: C) = (A ++ v :: B) ++ v :: C := by simp
  rw [e1, set_mid (A ++ v :: B) C v u j (by rw [hj]; simp; omega)]; simp
theorem get_far (A B C : List Event) (u v : Event) (j : Nat) (hj : j = A.length + 1 + B.length) (h : j < (A ++ u :: (B ++ v :: C)).length) : (A ++ u :: (B ++ v :: C))[j] = v := by
  have e1 : A ++ u :: (B ++ v :: C) = (A ++ u :: B) ++ v :: C := by simp
  simp only [e1]
  exact get_mid _ _ _ _ (by rw [hj]; simp; omega) _
/-- Two ranges, so far. -/
def swr (P U W V Q : List Event) (i : Nat) : List Event := P ++ V.take i ++ (U.drop i ++ W ++ (U.take i ++ (V.drop i ++ Q)))
theorem swr_zero (P U W V Q : List Event) : swr P U W V Q 0 = P ++ U ++ W ++ V ++ Q := by simp [swr]
theorem swr_all (P U W V Q : List Event) (i : Nat) (h1 : U.length = i) (h2 : V.length = i) : swr P U W V Q i = P ++ V ++ W ++ U ++ Q := by
  subst h1; unfold swr
  rw [List.drop_length, List.take_length, ← h2, List.drop_length, List.take_length]; simp
theorem swr_split (P U W V Q : List Event) (i : Nat) (hu : i < U.length) (hv : i < V.length) : swr P U W V Q i = (P ++ V.take i) ++ U[i] :: ((U.drop (i + 1) ++ W ++ U.take i) ++ V[i] :: (V.drop (i + 1) ++ Q)) := by
  unfold swr
  rw [List.drop_eq_getElem_cons hu, List.drop_eq_getElem_cons hv]
  simp only [List.append_assoc, List.cons_append, List.nil_append]
theorem swr_step (P U W V Q : List Event) (i n : Nat) (hn : U.length = n) (hm : V.length = n) (h : i < n) (a b : Nat) (ha : a = P.length + i) (hb : b = P.length + n + W.length + i) :
    ∃ (hu : i < U.length) (hv : i < V.length), (∀ h : a < (swr P U W V Q i).length, (swr P U W V Q i)[a] = U[i]) ∧ (∀ h : b < (swr P U W V Q i).length, (swr P U W V Q i)[b] = V[i]) ∧ ((swr P U W V Q i).set a V[i]).set b U[i] = swr P U W V Q (i + 1) := by
  have hu : i < U.length := by omega
  have hv : i < V.length := by omega
  have e1 : (P ++ V.take i).length = P.length + i := by rw [List.length_append, List.length_take]; omega
  have e2 : (P ++ V.take i).length + 1 + (U.drop (i + 1) ++ W ++ U.take i).length = P.length + n + W.length + i := by
    simp only [List.length_append, List.length_take, List.length_drop]; omega
  refine ⟨hu, hv, fun h => ?_, fun h => ?_, ?_⟩
  · simp only [swr_split P U W V Q i hu hv]
    exact get_mid _ _ _ _ (by rw [e1]; exact ha) _
  · simp only [swr_split P U W V Q i hu hv]
    exact get_far _ _ _ _ _ _ (by rw [e2]; exact hb) _
  · rw [swr_split P U W V Q i hu hv, swap_far _ _ _ _ _ _ _ (by rw [e1]; exact ha) (by rw [e2]; exact hb)]
    unfold swr
    rw [List.take_succ_eq_append_getElem hv, List.take_succ_eq_append_getElem hu]
    simp only [List.append_assoc, List.cons_append, List.nil_append]
theorem swr_len (P U W V Q : List Event) (i n : Nat) (hn : U.length = n) (hm : V.length = n) (h : i ≤ n) : (swr P U W V Q i).length = P.length + n + W.length + n + Q.length := by
  unfold swr; simp only [List.length_append, List.length_take, List.length_drop]; omega
end Go.Sk
end

-- A54
section
namespace Go.Sk

theorem srt_get {l : List Event} (h : Srt l) (i j : Nat) (hi : i < l.length) (hj : j < l.length) (hij : i ≤ j) : (l[i]).t ≤ (l[j]).t := by
  by_cases e : i = j
  · subst e; exact Nat.le_refl _
  · exact List.pairwise_iff_getElem.1 h i j hi hj (by omega)
theorem srt_take {l : List Event} (h : Srt l) (k : Nat) : Srt (l.take k) := List.Pairwise.sublist (List.take_sublist _ _) h
theorem srt_drop {l : List Event} (h : Srt l) (k : Nat) : Srt (l.drop k) := List.Pairwise.sublist (List.drop_sublist _ _) h
theorem mem_take_get {l : List Event} {k : Nat} {x : Event} (h : x ∈ l.take k) : ∃ i, ∃ hi : i < l.length, i < k ∧ l[i] = x := by
  obtain ⟨i, hi, rfl⟩ := List.getElem_of_mem h
  rw [List.length_take] at hi
  exact ⟨i, by omega, by omega, by simp⟩
theorem mem_drop_get {l : List Event} {k : Nat} {x : Event} (h : x ∈ l.drop k) : ∃ i, ∃ hi : i < l.length, k ≤ i ∧ l[i] = x := by
  obtain ⟨i, hi, rfl⟩ := List.getElem_of_mem h
  rw [List.length_drop] at hi
  exact ⟨k + i, by omega, by omega, by simp⟩
theorem take_snoc' {α : Type} (l : List α) (i : Nat) (h : i < l.length) : l.take (i + 1) = l.take i ++ [l[i]] := List.take_succ_eq_append_getElem h
theorem take_le {l : List Event} (h : Srt l) {k : Nat} {x : Event} (hx : x ∈ l.take k) (h1 : k - 1 < l.length) : x.t ≤ (l[k - 1]).t := by
  obtain ⟨i, hi, hk, rfl⟩ := mem_take_get hx
  exact srt_get h _ _ hi h1 (by omega)
theorem drop_ge {l : List Event} (h : Srt l) {k : Nat} {x : Event} (hx : x ∈ l.drop k) (h1 : k < l.length) : (l[k]).t ≤ x.t := by
  obtain ⟨i, hi, hk, rfl⟩ := mem_drop_get hx
  exact srt_get h _ _ h1 hi (by omega)
/-- One goes into a row behind it: ahead of all that are no less. -/
theorem ins_left {V : List Event} {u : Event} (h : Srt V) (k : Nat) (hk : k ≤ V.length) (h1 : ∀ x ∈ V.take k, x.t < u.t) (h2 : ∀ x ∈ V.drop k, u.t ≤ x.t) : Srt (V.take k ++ u :: V.drop k) ∧ Feq ([u] ++ V) (V.take k ++ u :: V.drop k) := by
  refine ⟨srt_app (srt_take h k) (List.pairwise_cons.2 ⟨h2, srt_drop h k⟩) fun x hx y hy => ?_, ?_⟩
  · have a := h1 x hx
    rcases List.mem_cons.1 hy with rfl | hy
    · omega
    · have b := h2 y hy; omega
  · have s : Feq ([u] ++ V.take k) (V.take k ++ [u]) := Feq.swap fun a ha b hb q => by
      obtain rfl := List.mem_singleton.1 ha
      have := h1 b hb; omega
    have := s.app (Feq.refl (V.drop k))
    rw [List.append_assoc, List.take_append_drop, List.append_assoc] at this
    exact this
theorem ins_right {U : List Event} {v : Event} (h : Srt U) (k : Nat) (hk : k ≤ U.length) (h1 : ∀ x ∈ U.take k, x.t ≤ v.t) (h2 : ∀ x ∈ U.drop k, v.t < x.t) : Srt (U.take k ++ v :: U.drop k) ∧ Feq (U ++ [v]) (U.take k ++ v :: U.drop k) := by
  have e : U.take k ++ U.drop k = U := List.take_append_drop k U
  have := put_ins (Y1 := U.take k) (Y2 := U.drop k) (e := v) (by rw [e]; exact h) h1 h2
  rw [e] at this
  exact this
/-- Halves, cut so that each of the first is no more than each of the second. -/
theorem merge_cut {U V W1 W2 : List Event} (hU : Srt U) (hV : Srt V) (i j : Nat) (hi : i ≤ U.length) (hj : j ≤ V.length)
    (hb : i = 0 ∨ j = V.length ∨ ∃ (h1 : i - 1 < U.length) (h2 : j < V.length), (U[i - 1]).t ≤ (V[j]).t)
    (hc : j = 0 ∨ i = U.length ∨ ∃ (h1 : j - 1 < V.length) (h2 : i < U.length), (V[j - 1]).t < (U[i]).t)
    (h1 : Srt W1) (k1 : Feq (U.take i ++ V.take j) W1) (h2 : Srt W2) (k2 : Feq (U.drop i ++ V.drop j) W2) : Srt (W1 ++ W2) ∧ Feq (U ++ V) (W1 ++ W2) := by
  have eU : U.take i ++ U.drop i = U := List.take_append_drop i U
  have eV : V.take j ++ V.drop j = V := List.take_append_drop j V
  have := merge_two (U1 := U.take i) (U2 := U.drop i) (V1 := V.take j) (V2 := V.drop j) h1 k1 h2 k2 ?_ ?_ ?_ ?_
  · rw [eU, eV] at this; exact this
  · exact (srt_of_app (by rw [eU]; exact hU)).2.2
  · intro x hx y hy
    rcases hb with rfl | rfl | ⟨q1, q2, q⟩
    · simp at hx
    · simp at hy
    · have a := take_le hU hx q1
      have b := drop_ge hV hy q2
      omega
  · intro x hx y hy
    rcases hc with rfl | rfl | ⟨q1, q2, q⟩
    · simp at hx
    · simp at hy
    · have a := take_le hV hx q1
      have b := drop_ge hU hy q2
      omega
  · exact (srt_of_app (by rw [eV]; exact hV)).2.2

/-! Rows of so many that are in order each. -/
def Chunks (s : Nat) (M : List Event) (a c : Nat) : Prop := ∀ p q (hp : p < M.length) (hq : q < M.length), a ≤ p → p ≤ q → q < c → p / s = q / s → (M[p]).t ≤ (M[q]).t
end Go.Sk
end

-- A55
section
namespace Go.Sk

/-- Rows that are in order each: of s events each, but for the last one. -/
def Ck (s : Nat) : List (List Event) → Prop
  | [] => True
  | [x] => Srt x ∧ 0 < x.length ∧ x.length ≤ s
  | x :: y :: r => Srt x ∧ x.length = s ∧ Ck s (y :: r)
theorem Ck.tail {s : Nat} {x : List Event} {r : List (List Event)} (h : Ck s (x :: r)) : Ck s r := by
  cases r with
  | nil => trivial
  | cons y r => exact h.2.2
theorem Ck.head {s : Nat} (hs : 0 < s) {x : List Event} {r : List (List Event)} (h : Ck s (x :: r)) : Srt x ∧ 0 < x.length ∧ x.length ≤ s := by
  cases r with
  | nil => exact h
  | cons y r => exact ⟨h.1, by rw [h.2.1]; exact hs, Nat.le_of_eq h.2.1⟩
theorem Ck.full {s : Nat} {x : List Event} {r : List (List Event)} (h : Ck s (x :: r)) (hr : r ≠ []) : x.length = s := by
  cases r with
  | nil => exact absurd rfl hr
  | cons y r => exact h.2.1
theorem Ck.pos {s : Nat} (hs : 0 < s) : ∀ {r : List (List Event)}, Ck s r → r ≠ [] → 0 < r.flatten.length := by
  intro r h hr
  cases r with
  | nil => exact absurd rfl hr
  | cons x r => rw [List.flatten_cons, List.length_append]; have := (h.head hs).2.1; omega
theorem Ck.app {s : Nat} : ∀ {D R : List (List Event)}, (∀ x ∈ D, Srt x ∧ x.length = s) → Ck s R → (0 < s) → Ck s (D ++ R) := by
  intro D
  induction D with
  | nil => intro R _ h _; exact h
  | cons d D ih =>
    intro R hD hR hs
    have hd := hD d (by simp)
    have hD' : ∀ x ∈ D, Srt x ∧ x.length = s := fun x hx => hD x (by simp [hx])
    have := ih hD' hR hs
    rw [List.cons_append]
    cases hq : D ++ R with
    | nil => exact ⟨hd.1, by rw [hd.2]; exact hs, Nat.le_of_eq hd.2⟩
    | cons y r => rw [hq] at this; exact ⟨hd.1, hd.2, this⟩
/-- One row that is wide enough is all. -/
theorem Ck.one {s : Nat} (hs : 0 < s) {R : List (List Event)} (h : Ck s R) (hn : R.flatten.length ≤ s) : Srt R.flatten := by
  match R, h with
  | [], _ => exact List.Pairwise.nil
  | [x], h => simpa using h.1
  | x :: y :: r, h =>
    exfalso
    have h1 := h.2.1
    have h2 := Ck.pos hs h.2.2 (by simp)
    rw [List.flatten_cons, List.length_append] at hn
    omega
/-- Two rows at the head of what is left. -/
theorem Ck.two {s : Nat} (hs : 0 < s) {R : List (List Event)} (h : Ck s R) (hn : s < R.flatten.length) : ∃ x y r, R = x :: y :: r ∧ Srt x ∧ Srt y ∧ x.length = s ∧ 0 < y.length ∧ y.length ≤ s ∧ Ck s r ∧ (r ≠ [] → y.length = s) := by
  match R, h with
  | [], _ => simp at hn
  | [x], h => simp at hn; have := h.2.2; omega
  | x :: y :: r, h =>
    have hy := Ck.head hs h.2.2
    exact ⟨x, y, r, rfl, h.1, hy.1, h.2.1, hy.2.1, hy.2.2, h.2.2.tail, fun hr => h.2.2.full hr⟩

/-! A list of events as cells, and what is behind it. -/
def evc (l : List Event) (t : List AV) : List AV := flatA (l.map Event.pv) ++ t
theorem flat_cons (e : Event) (l : List Event) : flatA ((e :: l).map Event.pv) = (e.pv.map .p) ++ flatA (l.map Event.pv) := by simp [flatA]
theorem evc_len (l : List Event) (t : List AV) : (evc l t).length = l.length * 3 + t.length := by
  unfold evc; rw [List.length_append]
  congr 1
  induction l with
  | nil => rfl
  | cons e l ih => rw [flat_cons, List.length_append, ih]; simp [Event.pv]; omega
theorem evc_drop (l : List Event) (t : List AV) : ∀ i, (h : i < l.length) → ((evc l t).drop (i * 3)).take 3 = (l[i]).pv.map .p := by
  induction l with
  | nil => intro i h; simp at h
  | cons e l ih =>
    intro i h
    cases i with
    | zero => unfold evc; rw [flat_cons]; simp [Event.pv]
    | succ i =>
      have := ih i (by simpa using h)
      rw [List.getElem_cons_succ, ← this]
      unfold evc
      rw [flat_cons, Nat.add_mul]
      simp only [Event.pv, List.map_cons, List.map_nil, List.cons_append, List.nil_append, Nat.one_mul]
      rfl
theorem evc_put (l : List Event) (t : List AV) (y : Event) : ∀ i, (h : i < l.length) → (evc l t).take (i * 3) ++ y.pv.map .p ++ (evc l t).drop (i * 3 + 3) = evc (l.set i y) t := by
  induction l with
  | nil => intro i h; simp at h
  | cons e l ih =>
    intro i h
    cases i with
    | zero => rw [List.set_cons_zero]; unfold evc; rw [flat_cons, flat_cons]; simp [Event.pv]
    | succ i =>
      have := ih i (by simpa using h)
      unfold evc at this ⊢
      rw [List.set_cons_succ, flat_cons, flat_cons, List.append_assoc (e.pv.map _), List.append_assoc (e.pv.map _), ← this, Nat.add_mul]
      simp only [Event.pv, List.map_cons, List.map_nil, List.cons_append, List.nil_append, Nat.one_mul]
      rfl
end Go.Sk
end

-- A56
section
namespace Go.Sk

/-- A row with an event in it at a place. -/
def inE (P Y : List Event) (e : Event) (R : List Event) (k : Nat) : List Event := P ++ (Y.take k ++ e :: Y.drop k) ++ R
theorem inE_len (P Y : List Event) (e : Event) (R : List Event) (k : Nat) (hk : k ≤ Y.length) : (inE P Y e R k).length = P.length + Y.length + 1 + R.length := by
  unfold inE; simp only [List.length_append, List.length_cons, List.length_take, List.length_drop]; omega
theorem inE_split (P Y : List Event) (e : Event) (R : List Event) (k : Nat) (hk : k < Y.length) :
    inE P Y e R (k + 1) = (P ++ Y.take k) ++ Y[k] :: e :: (Y.drop (k + 1) ++ R) ∧ inE P Y e R k = (P ++ Y.take k) ++ e :: Y[k] :: (Y.drop (k + 1) ++ R) := by
  unfold inE
  rw [List.take_succ_eq_append_getElem hk, List.drop_eq_getElem_cons hk]
  constructor <;> simp only [List.append_assoc, List.cons_append, List.nil_append]
theorem set_two (A B : List Event) (u v x : Event) (i : Nat) (hi : i = A.length + 1) : (A ++ u :: v :: B).set i x = A ++ u :: x :: B := by
  have e1 : A ++ u :: v :: B = (A ++ [u]) ++ v :: B := by simp
  rw [e1, set_mid (A ++ [u]) B v x i (by rw [hi]; simp)]; simp
theorem get_two (A B : List Event) (u v : Event) (i : Nat) (hi : i = A.length + 1) (h : i < (A ++ u :: v :: B).length) : (A ++ u :: v :: B)[i] = v := by
  have e1 : A ++ u :: v :: B = (A ++ [u]) ++ v :: B := by simp
  simp only [e1]
  exact get_mid _ _ _ _ (by rw [hi]; simp) _
/-- One step to the left. -/
theorem inE_left (P Y : List Event) (e : Event) (R : List Event) (k j : Nat) (hk : k < Y.length) (hj : j = P.length + k) :
    (∀ h : j + 1 < (inE P Y e R (k + 1)).length, (inE P Y e R (k + 1))[j + 1] = e) ∧ (∀ h : j < (inE P Y e R (k + 1)).length, (inE P Y e R (k + 1))[j] = Y[k]) ∧ ((inE P Y e R (k + 1)).set (j + 1) Y[k]).set j e = inE P Y e R k := by
  obtain ⟨h1, h2⟩ := inE_split P Y e R k hk
  have hl : (P ++ Y.take k).length = j := by rw [List.length_append, List.length_take, hj]; omega
  refine ⟨fun h => ?_, fun h => ?_, ?_⟩
  · simp only [h1]; exact get_two _ _ _ _ _ (by rw [hl]) _
  · simp only [h1]; exact get_mid _ _ _ _ hl.symm _
  · rw [h1, h2, set_two _ _ _ _ _ _ (by rw [hl]), set_mid _ _ _ _ _ hl.symm]
/-- One step to the right. -/
theorem inE_right (P Y : List Event) (e : Event) (R : List Event) (k j : Nat) (hk : k < Y.length) (hj : j = P.length + k) :
    (∀ h : j < (inE P Y e R k).length, (inE P Y e R k)[j] = e) ∧ (∀ h : j + 1 < (inE P Y e R k).length, (inE P Y e R k)[j + 1] = Y[k]) ∧ ((inE P Y e R k).set j Y[k]).set (j + 1) e = inE P Y e R (k + 1) := by
  obtain ⟨h1, h2⟩ := inE_split P Y e R k hk
  have hl : (P ++ Y.take k).length = j := by rw [List.length_append, List.length_take, hj]; omega
  refine ⟨fun h => ?_, fun h => ?_, ?_⟩
  · simp only [h2]; exact get_mid _ _ _ _ hl.symm _
  · simp only [h2]; exact get_two _ _ _ _ _ (by rw [hl]) _
  · rw [h1, h2, set_mid _ _ _ _ _ hl.symm, set_two _ _ _ _ _ _ (by rw [hl])]
theorem inE_zero (P Y : List Event) (e : Event) (R : List Event) : inE P Y e R 0 = P ++ e :: (Y ++ R) := by simp [inE]
theorem inE_all (P Y : List Event) (e : Event) (R : List Event) (k : Nat) (hk : k = Y.length) : inE P Y e R k = P ++ Y ++ e :: R := by subst hk; simp [inE]
/-- What stands at a place of three rows. -/
theorem get3 (P U V : List Event) (i j : Nat) (hj : j = P.length + i) (hi : i < U.length) (h : j < (P ++ U ++ V).length) : (P ++ U ++ V)[j] = U[i] := by
  subst hj
  rw [List.getElem_append_left (by rw [List.length_append]; omega), List.getElem_append_right (by omega)]
  congr 1; omega
theorem get4 (P U V Q : List Event) (i j : Nat) (hj : j = P.length + U.length + i) (hi : i < V.length) (h : j < (P ++ U ++ V ++ Q).length) : (P ++ U ++ V ++ Q)[j] = V[i] := by
  have := get3 (P ++ U) V Q i j (by rw [List.length_append]; exact hj) hi h
  exact this
theorem get4a (P U V Q : List Event) (i j : Nat) (hj : j = P.length + i) (hi : i < U.length) (h : j < (P ++ U ++ V ++ Q).length) : (P ++ U ++ V ++ Q)[j] = U[i] := by
  have e : P ++ U ++ V ++ Q = P ++ U ++ (V ++ Q) := by simp
  simp only [e]
  exact get3 P U (V ++ Q) i j hj hi _
/-- An event goes to its place: all behind it are later. -/
theorem ins_place {Y : List Event} {e : Event} {k : Nat} (h : Srt Y) (hk : k ≤ Y.length) (h1 : k = 0 ∨ ∃ q : k - 1 < Y.length, (Y[k - 1]).t ≤ e.t) (h2 : ∀ x ∈ Y.drop k, e.t < x.t) : Srt (Y.take k ++ e :: Y.drop k) ∧ Feq (Y ++ [e]) (Y.take k ++ e :: Y.drop k) := by
  refine ins_right h k hk (fun x hx => ?_) h2
  rcases h1 with rfl | ⟨q, h1⟩
  · simp at hx
  · exact Nat.le_trans (take_le h hx q) h1
theorem drop_step {Y : List Event} {e : Event} {k : Nat} (hk : k < Y.length) (h : ∀ x ∈ Y.drop (k + 1), e.t < x.t) (h1 : e.t < (Y[k]).t) : ∀ x ∈ Y.drop k, e.t < x.t := fun x hx => by
  rw [List.drop_eq_getElem_cons hk] at hx
  rcases List.mem_cons.1 hx with rfl | hx
  · exact h1
  · exact h x hx
theorem srt_one (U : List Event) : Srt (U.take 1) := by
  cases U with
  | nil => exact List.Pairwise.nil
  | cons u U => simp [Srt]
theorem set_back {S : Store} {k : Key} {x : Blk} (h : S k = some x) : S.set k x = S := by
  funext q
  unfold Store.set
  by_cases e : q = k
  · subst e; rw [if_pos rfl, h]
  · rw [if_neg e]
end Go.Sk
end

-- WSa
section
namespace Go.Sk
open Go Go.Proofs

def cmpN' (x y : Nat) : Int := if x < y then -1 else if y < x then 1 else 0
theorem cmpN'_neg (x y : Nat) : cmpN' x y < 0 ↔ x < y := by
  unfold cmpN'
  repeat' split
  all_goals omega
theorem isNaN_u' (n : Nat) : Pure Tryz.prog 144 [u64 n] (bl false) := fun S => by
  refine callR_of Tryz.func144 rfl rfl (xc_ok (bitB 5) _ _ _ ?_)
  simp only [go_sem]
  (refine ⟨S, by (repeat (first | exact Sub.refl _ | refine Sub.setF ?_ (by first | assumption | simp only [*]) | refine Sub.setV ?_ (by first | assumption | simp only [*]))), ?_⟩); simp
theorem cmp_u64' (x y : Nat) : Pure Tryz.prog 83 [u64 x, u64 y] (i64 (cmpN' x y)) := fun S => by
  refine callR_of Tryz.func83 rfl rfl (xc_ok (bitB 604275) _ _ _ ?_)
  simp only [go_sem]
  refine (isNaN_u' x).useA ?_
  simp only [go_sem]
  refine (isNaN_u' y).useA ?_
  by_cases h1 : x < y
  · simp only [go_sem, h1]
    (refine ⟨S, by (repeat (first | exact Sub.refl _ | refine Sub.setF ?_ (by first | assumption | simp only [*]) | refine Sub.setV ?_ (by first | assumption | simp only [*]))), ?_⟩); simp [cmpN', h1]
  · by_cases h2 : y < x
    · simp only [go_sem, h1, h2]
      (refine ⟨S, by (repeat (first | exact Sub.refl _ | refine Sub.setF ?_ (by first | assumption | simp only [*]) | refine Sub.setV ?_ (by first | assumption | simp only [*]))), ?_⟩); simp [cmpN', h1, h2]
    · simp only [go_sem, h1, h2]
      (refine ⟨S, by (repeat (first | exact Sub.refl _ | refine Sub.setF ?_ (by first | assumption | simp only [*]) | refine Sub.setV ?_ (by first | assumption | simp only [*]))), ?_⟩); simp [cmpN', h1, h2]
theorem join_cmp (x y : Event) : Pure Tryz.prog 82 [x.av, y.av] (i64 (cmpN' x.t y.t)) := fun S => by
  refine callR_of Tryz.func82 rfl rfl (xc_ok (bitB 31) _ _ _ ?_)
  simp only [go_sem]
  refine alloc_intro fun b hb => ?_
  simp only [go_sem]
  refine alloc_intro fun b' hb' => ?_
  simp only [fresh_set] at hb'
  simp only [go_sem, hb']
  refine (cmp_u64' x.t y.t).useA ?_
  simp only [go_sem]
  (refine ⟨S, by (repeat (first | exact Sub.refl _ | refine Sub.setF ?_ (by first | assumption | simp only [*]) | refine Sub.setV ?_ (by first | assumption | simp only [*]))), ?_⟩); simp
theorem evc_drop' (l : List Event) (t : List AV) (i : Nat) (h : i < l.length) : ((evc l t).drop (i * 3)).take 3 = [u64 (l[i]).t, u64 (l[i]).k, u64 (l[i]).w] := by
  rw [evc_drop l t i h]; rfl
theorem evc_put' (l : List Event) (t : List AV) (y : Event) (i : Nat) (h : i < l.length) : (evc l t).take (i * 3) ++ [u64 y.t, u64 y.k, u64 y.w] ++ (evc l t).drop (i * 3 + 3) = evc (l.set i y) t := by
  rw [← evc_put l t y i h]; rfl
theorem evc_fit (l : List Event) (t : List AV) (i : Nat) (h : i < l.length) : i * 3 + 3 ≤ (evc l t).length := by rw [evc_len]; omega
/-- A row of events that is written, with room. -/
abbrev evB (l : List Event) (t : List AV) : Blk := .cells (evc l t)
set_option maxHeartbeats 1000000 in
theorem swap_range (P U W V Q : List Event) (t : List AV) (b n N c : Nat) (cm : AV) (hU : U.length = n) (hV : V.length = n) (hN : (P ++ U ++ W ++ V ++ Q).length = N) (hc : N < 1073741824) {S : Store} (i0 j0 : Nat) (hi0 : i0 = P.length) (hj0 : j0 = P.length + n + W.length) :
    S (.r b) = some (evB (P ++ U ++ W ++ V ++ Q) t) → CallR Tryz.prog 237 [.ms b 3 0 N c, i64 i0, i64 j0, i64 n, cm] S (fun r S' => r = .tuple [] ∧ S' = S.set (.r b) (evB (P ++ V ++ W ++ U ++ Q) t)) := fun hb => by
  have hN' : N = P.length + n + W.length + n + Q.length := by rw [← hN]; simp only [List.length_append]; omega
  refine callR_of Tryz.func237 rfl rfl (xc_ok (bitB 9247) _ _ _ ?_)
  simp only [go_sem]
  refine AWP.iter (fun i => ⟨Env.get [(0, .ms b 3 0 N c), (1, i64 i0), (2, i64 j0), (3, i64 n), (10, i64 i)], S.set (.r b) (evB (swr P U W V Q i) t), 38, []⟩) n ?_ ?_ ?_
  · refine le_of (by simp only [go_sem] <;> rfl) ?_ rfl rfl (by simp)
    rw [swr_zero]
    exact sub_set (Sub.refl _) hb
  · intro i hi ih
    refine AWPH.step (xc_ok (bitB 9247) _ _ _ ?_)
    obtain ⟨hu, hv, g1, g2, g3⟩ := swr_step P U W V Q i n hU hV hi (i0 + i) (j0 + i) (by omega) (by omega)
    have hl := swr_len P U W V Q i n hU hV (by omega)
    have a1 : i0 + i < (swr P U W V Q i).length := by omega
    have a2 : j0 + i < (swr P U W V Q i).length := by omega
    have w1 : wi ((i0 : Int) + (i : Int)) = ((i0 + i : Nat) : Int) := by rw [wi_id (by omega) (by omega)]; omega
    have w2 : wi ((j0 : Int) + (i : Int)) = ((j0 + i : Nat) : Int) := by rw [wi_id (by omega) (by omega)]; omega
    have f1 := evc_fit (swr P U W V Q i) t _ a1
    have f2 := evc_fit (swr P U W V Q i) t _ a2
    have d1 := evc_drop' (swr P U W V Q i) t _ a1
    have d2 := evc_drop' (swr P U W V Q i) t _ a2
    rw [g1 a1] at d1
    rw [g2 a2] at d2
    have p1 := evc_put' (swr P U W V Q i) t V[i] (i0 + i) a1
    have p2 := evc_put' ((swr P U W V Q i).set (i0 + i) V[i]) t U[i] (j0 + i) (by rw [List.length_set]; exact a2)
    rw [g3] at p2
    have f3 := evc_fit ((swr P U W V Q i).set (i0 + i) V[i]) t (j0 + i) (by rw [List.length_set]; exact a2)
    have n1 : i0 + i < N := by omega
    have n2 : j0 + i < N := by omega
    simp only [go_sem, hi, ltN' hi]
    refine AWP.draw2 (bitB 9247) mixed (by kernel_rfl) (fun j => bl false) ?_
    simp only [go_sem, w1, w2, n1, n2, ltN' n1, ltN' n2, Nat.zero_add, d1, d2, p1, p2, f1, f2, f3]
    refine ih.back (Sub.refl _) (by simp) ?_
    simp only [go_sem, wi_succ (show i < 4611686018427387904 by omega)]
  · refine AWPH.step (xc_ok (bitB 9247) _ _ _ ?_)
    simp only [go_sem]
    exact ⟨_, Sub.refl _, Or.inl (by rw [swr_all P U W V Q n hU hV])⟩
set_option maxHeartbeats 1000000 in
theorem insert_sort (P U Q : List Event) (t : List AV) (b N c : Nat) (hN : (P ++ U ++ Q).length = N) (hc : N < 1073741824) {S : Store} (a0 b0 : Nat) (ha0 : a0 = P.length) (hb0 : b0 = P.length + U.length) :
    S (.r b) = some (evB (P ++ U ++ Q) t) → CallR Tryz.prog 190 [.ms b 3 0 N c, i64 a0, i64 b0, .fn (.func 82) [] []] S (fun r S' => r = .tuple [] ∧ ∃ W, Srt W ∧ Feq U W ∧ S' = S.set (.r b) (evB (P ++ W ++ Q) t)) := fun hb => by
  have hN' : N = P.length + U.length + Q.length := by rw [← hN]; simp only [List.length_append]
  refine callR_of Tryz.func190 rfl rfl (xc_ok (bitB 17179886351) _ _ _ ?_)
  have w0 : wi ((a0 : Int) + 1) = ((a0 + 1 : Nat) : Int) := wi_succ (by omega)
  simp only [go_sem, w0]
  by_cases hU0 : U = []
  · subst hU0
    have q0 : ¬ ((a0 + 1 : Nat) : Int) < ((b0 : Nat) : Int) := by simp at hb0; omega
    refine AWP.roam (ι := Unit) (fun _ => True) (fun _ => ⟨Env.get [(0, .ms b 3 0 N c), (1, i64 a0), (2, i64 b0), (3, .fn (.func 82) [] []), (8, i64 (a0 + 1 : Nat))], S, 53, []⟩) (fun _ => 0) () trivial ?_ ?_
    · exact le_of (by simp only [go_sem] <;> rfl) (Sub.refl _) rfl rfl (by simp)
    · intro _ _ _
      refine AWPH.step (xc_ok (bitB 17179886351) _ _ _ ?_)
      simp only [go_sem, q0]
      exact ⟨_, Sub.refl _, Or.inl ⟨[], List.Pairwise.nil, Feq.refl _, by rw [set_back hb]⟩⟩
  have hpos : 0 < U.length := List.length_pos_iff.2 hU0
  refine AWP.roam (ι := Nat × List Event) (fun x => 1 ≤ x.1 ∧ x.1 ≤ U.length ∧ Srt x.2 ∧ Feq (U.take x.1) x.2)
    (fun x => ⟨Env.get [(0, .ms b 3 0 N c), (1, i64 a0), (2, i64 b0), (3, .fn (.func 82) [] []), (8, i64 (a0 + x.1 : Nat))], S.set (.r b) (evB (P ++ x.2 ++ U.drop x.1 ++ Q) t), 53, []⟩) (fun x => U.length - x.1) (1, U.take 1) ⟨Nat.le_refl _, hpos, srt_one U, Feq.refl _⟩ ?_ ?_
  · refine le_of (by simp only [go_sem] <;> rfl) ?_ rfl rfl (by simp)
    dsimp only
    rw [List.append_assoc P, List.take_append_drop]
    exact sub_set (Sub.refl _) hb
  rintro ⟨i, Y⟩ ⟨hi1, hi, hs, hf⟩ ih
  dsimp only at hi1 hi hs hf ih ⊢
  have hYl : Y.length = i := by rw [← hf.len, List.length_take]; omega
  refine AWPH.step (xc_ok (bitB 17179886351) _ _ _ ?_)
  by_cases ci : i < U.length
  rotate_left
  · obtain rfl : i = U.length := by omega
    have q0 : ¬ ((a0 + U.length : Nat) : Int) < ((b0 : Nat) : Int) := by omega
    simp only [go_sem, q0]
    rw [List.take_length] at hf
    exact ⟨_, Sub.refl _, Or.inl ⟨Y, hs, hf, by rw [List.drop_length]; simp⟩⟩
  have q1 : ((a0 + i : Nat) : Int) < ((b0 : Nat) : Int) := by omega
  have hrow : P ++ Y ++ U.drop i ++ Q = inE P Y U[i] (U.drop (i + 1) ++ Q) i := by
    rw [inE_all P Y U[i] _ i hYl.symm, List.drop_eq_getElem_cons ci]; simp only [List.append_assoc, List.cons_append]
  simp only [go_sem, q1, hrow]
  refine AWP.roam (ι := Nat) (fun k => k ≤ i ∧ ∀ x ∈ Y.drop k, (U[i]).t < x.t)
    (fun k => ⟨Env.get [(0, .ms b 3 0 N c), (1, i64 a0), (2, i64 b0), (3, .fn (.func 82) [] []), (8, i64 (a0 + i : Nat)), (9, i64 (a0 + k : Nat))], S.set (.r b) (evB (inE P Y U[i] (U.drop (i + 1) ++ Q) k) t), 53, []⟩) (fun k => k) i ⟨Nat.le_refl _, fun x hx => by rw [← hYl, List.drop_length] at hx; simp at hx⟩ ?_ ?_
  · exact le_of (by simp only [go_sem] <;> rfl) (Sub.refl _) rfl rfl (by simp)
  have wi1 : wi (((a0 + i : Nat) : Int) + 1) = ((a0 + (i + 1) : Nat) : Int) := by rw [wi_id (by omega) (by omega)]; omega
  have hend : ∀ k, k ≤ i → Srt (Y.take k ++ U[i] :: Y.drop k) → Feq (Y ++ [U[i]]) (Y.take k ++ U[i] :: Y.drop k) → _ := fun k hk h1 h2 => ih (i + 1, Y.take k ++ U[i] :: Y.drop k) ⟨by dsimp only; omega, ci, h1, by dsimp only; rw [List.take_succ_eq_append_getElem ci]; exact (hf.app (Feq.refl _)).trans h2⟩ (by dsimp only; omega)
  rintro k ⟨hk, hlt⟩ ih2
  refine AWPH.step (xc_ok (bitB 17179886351) _ _ _ ?_)
  have hrest : ∀ k, P ++ (Y.take k ++ U[i] :: Y.drop k) ++ U.drop (i + 1) ++ Q = inE P Y U[i] (U.drop (i + 1) ++ Q) k := fun k => by unfold inE; simp
  by_cases k0 : k = 0
  · subst k0
    have q2 : ¬ ((a0 + 0 : Nat) : Int) > ((a0 : Nat) : Int) := by omega
    refine AWP.draw2 (bitB 17179886351) mixed (by kernel_rfl) (fun j => i64 0) ?_
    simp only [go_sem, q2]
    obtain ⟨h1, h2⟩ := ins_place (e := U[i]) hs (Nat.zero_le _) (Or.inl rfl) hlt
    refine (hend 0 (Nat.zero_le _) h1 h2).back ?_ (by simp) ?_
    · dsimp only; rw [hrest]; exact Sub.refl _
    · simp only [go_sem, wi1]
  obtain ⟨k, rfl⟩ : ∃ m, k = m + 1 := ⟨k - 1, by omega⟩
  have hkY : k < Y.length := by omega
  obtain ⟨g1, g2, g3⟩ := inE_left P Y U[i] (U.drop (i + 1) ++ Q) k (a0 + k) hkY (by omega)
  have hl := inE_len P Y U[i] (U.drop (i + 1) ++ Q) (k + 1) hkY
  have hQ : (U.drop (i + 1) ++ Q).length + i + 1 = U.length + Q.length := by rw [List.length_append, List.length_drop]; omega
  have a1 : a0 + k + 1 < (inE P Y U[i] (U.drop (i + 1) ++ Q) (k + 1)).length := by omega
  have a2 : a0 + k < (inE P Y U[i] (U.drop (i + 1) ++ Q) (k + 1)).length := by omega
  have q2 : ((a0 + (k + 1) : Nat) : Int) > ((a0 : Nat) : Int) := by omega
  have w1 : wi (((a0 + (k + 1) : Nat) : Int) - 1) = ((a0 + k : Nat) : Int) := by rw [wi_id (by omega) (by omega)]; omega
  have e1 : a0 + (k + 1) = a0 + k + 1 := by omega
  rw [e1] at w1 q2
  generalize hL : inE P Y U[i] (U.drop (i + 1) ++ Q) (k + 1) = L at *
  have f1 := evc_fit L t _ a1
  have f2 := evc_fit L t _ a2
  have d1 := evc_drop' L t _ a1
  have d2 := evc_drop' L t _ a2
  rw [g1 a1] at d1
  rw [g2 a2] at d2
  have p1 := evc_put' L t Y[k] (a0 + k + 1) a1
  have p2 := evc_put' (L.set (a0 + k + 1) Y[k]) t U[i] (a0 + k) (by rw [List.length_set]; exact a2)
  rw [g3] at p2
  have f3 := evc_fit (L.set (a0 + k + 1) Y[k]) t (a0 + k) (by rw [List.length_set]; exact a2)
  have n1 : a0 + k + 1 < N := by omega
  have n2 : a0 + k < N := by omega
  refine AWP.draw2 (bitB 17179886351) mixed (by kernel_rfl) (fun j => i64 (cmpN' (U[i]).t (Y[k]).t)) ?_
  simp only [go_sem, q2, e1, w1, n1, n2, ltN' n1, ltN' n2, Nat.zero_add, d1, d2, f1, f2]
  refine ⟨(join_cmp U[i] Y[k]).draw, ?_⟩
  by_cases hc2 : (U[i]).t < (Y[k]).t
  · have q3 : cmpN' (U[i]).t (Y[k]).t < 0 := (cmpN'_neg _ _).2 hc2
    simp only [go_sem, q3]
    refine AWP.draw2 (bitB 17179886351) mixed (by kernel_rfl) (fun j => i64 0) ?_
    simp only [go_sem, e1, w1, n1, n2, ltN' n1, ltN' n2, Nat.zero_add, d1, d2, p1, p2, f1, f2, f3]
    refine (ih2 k ⟨by omega, drop_step hkY hlt hc2⟩ (by omega)).back (Sub.refl _) (by simp) ?_
    simp only [go_sem, w1]
  · have q3 : ¬ cmpN' (U[i]).t (Y[k]).t < 0 := fun h => hc2 ((cmpN'_neg _ _).1 h)
    simp only [go_sem, q3]
    obtain ⟨h1, h2⟩ := ins_place (e := U[i]) hs (show k + 1 ≤ Y.length from hkY) (Or.inr ⟨by simpa using hkY, by simp only [Nat.add_sub_cancel]; omega⟩) hlt
    refine (hend (k + 1) (by omega) h1 h2).back ?_ (by simp) ?_
    · dsimp only; rw [hrest, hL]; exact Sub.refl _
    · simp only [go_sem, wi1]
end Go.Sk
end

-- W10b
section
namespace Go.Sk
open Go Go.Proofs

/-- All buckets of some. -/
def bucksH (l : List Hist) : List (Span × Nat) := l.flatMap fun h => bucksF 0 h.ls
theorem bucksH_next (l : List Hist) (a : Nat) (ha : a < l.length) : bucksH (l.take (a + 1)) = bucksH (l.take a) ++ bucksF 0 (l[a]).ls := by
  unfold bucksH; rw [List.take_succ_eq_append_getElem ha, List.flatMap_append]; simp
theorem bucksH_get (l : List Hist) (a : Nat) (ha : a < l.length) (q : Nat) (hq : q < (bucksF 0 (l[a]).ls).length) :
    (bucksH (l.take a)).length + q < (bucksH l).length ∧ (bucksH l).getD ((bucksH (l.take a)).length + q) default = (bucksF 0 (l[a]).ls).getD q default := by
  have e : bucksH l = bucksH (l.take a) ++ (bucksF 0 (l[a]).ls ++ bucksH (l.drop (a + 1))) := by
    have h1 : l = l.take a ++ l[a] :: l.drop (a + 1) := by rw [← List.drop_eq_getElem_cons ha, List.take_append_drop]
    have : bucksH (l.take a ++ l[a] :: l.drop (a + 1)) = bucksH (l.take a) ++ (bucksF 0 (l[a]).ls ++ bucksH (l.drop (a + 1))) := by
      unfold bucksH; rw [List.flatMap_append, List.flatMap_cons]
    rw [← h1] at this; exact this
  refine ⟨by rw [e]; simp only [List.length_append]; omega, ?_⟩
  rw [List.getD_eq_getElem?_getD, e, List.getElem?_append_right (by omega), Nat.add_sub_cancel_left, List.getElem?_append_left hq, List.getD_eq_getElem?_getD]
noncomputable def itemsH (L : List (Span × Nat)) : Nat → List AV := fun k => [.agg [u64 (L.getD k default).1.b, u64 (units (L.getD k default).2)]]
set_option maxHeartbeats 2000000 in
set_option maxRecDepth 4000 in
theorem lumps1 (l : List Hist) (hn : l.length < 1048576) (hs : ∀ h ∈ l, h.ls.length < 1099511627776 ∧ ∀ x ∈ h.ls, x.length < 1099511627776) {T0 : Store} {b : Nat} (h1 : T0 (.r b) = some (.cells [.p (.sl (l.map Hist.cs))])) :
    SeqR Tryz.prog 147 [] [.sp b 0] T0 (bucksH l).length (itemsH (bucksH l)) := by
  intro ll J Jx hy E hd h0
  simp only [List.nil_append, List.singleton_append]
  refine callR_of Tryz.func147 rfl rfl (xc_ok (bitB 68846296947) _ _ _ ?_)
  simp only [go_sem, h1]
  refine AWP.roam (ι := Nat × Store) (fun x => x.1 ≤ l.length ∧ Disj T0 x.2 ∧ J (bucksH (l.take x.1)).length x.2)
    (fun x => ⟨Env.get [(0, .fn (.yield ll) [] []), (1, .sp b 0), (9, .p (.sl (l.map Hist.cs))), (10, i64 l.length), (11, i64 x.1)], Store.join x.2 T0, 40, []⟩) (fun x => l.length - x.1) (0, E) ⟨by simp, hd, h0⟩ ?_ ?_
  · exact le_of (by simp only [go_sem, List.length_map] <;> rfl) (Sub.refl _) rfl rfl (by simp)
  · rintro ⟨a, E⟩ ⟨ha, hd, hJ⟩ kh
    dsimp only at ha hd hJ ⊢
    refine AWPH.step (xc_ok (bitB 68846296947) _ _ _ ?_)
    by_cases ca : a < l.length
    rotate_left
    · obtain rfl : a = l.length := by omega
      rw [List.take_length] at hJ
      simp only [go_sem]
      exact ⟨_, Sub.refl _, Or.inl ⟨E, rfl, hd, Or.inl hJ⟩⟩
    obtain ⟨hsa, hsb⟩ := hs _ (List.getElem_mem ca)
    have hnext := bucksH_next l a ca
    have hgetH := bucksH_get l a ca
    simp only [go_sem, ca, ltN' ca, getD_map' _ _ _ _ ca, List.length_map]
    generalize l[a] = hh at *
    obtain ⟨hk, hg, ls⟩ := hh
    dsimp only at hsa hsb hnext hgetH
    refine alloc_intro fun e hfe => ?_
    have hfe' := join_none hfe
    simp only [go_sem]
    rw [join_set]
    refine AWP.roam (ι := Nat × Store) (fun x => x.1 ≤ ls.length ∧ Disj T0 x.2 ∧ J ((bucksH (l.take a)).length + (bucksF 0 (ls.take x.1)).length) x.2)
      (fun x => ⟨Env.get [(0, .fn (.yield ll) [] []), (1, .sp b 0), (9, .p (.sl (l.map Hist.cs))), (10, i64 l.length), (11, i64 a), (16, .p (.sl (ls.map lvE))), (17, i64 ls.length), (18, i64 x.1)], Store.join x.2 T0, 40, []⟩) (fun x => ls.length - x.1) (0, E) ⟨by simp, hd, by simpa [bucksF] using hJ⟩ ?_ ?_
    · refine le_of (by simp only [go_sem, List.length_map] <;> simp) ?_ rfl rfl (by simp)
      exact sub_join_set hfe'.2 hfe'.1
    · rintro ⟨i, E⟩ ⟨hi, hd, hJ⟩ ih
      dsimp only at hi hd hJ ⊢
      refine AWPH.step (xc_ok (bitB 68846296947) _ _ _ ?_)
      by_cases c : i < ls.length
      rotate_left
      · obtain rfl : i = ls.length := by omega
        rw [List.take_length] at hJ
        simp only [go_sem]
        refine (kh (a + 1, E) ⟨ca, hd, by rw [hnext, List.length_append]; exact hJ⟩ (by dsimp only; omega)).back (Sub.refl _) (by simp) ?_
        simp only [go_sem, wi_succ (show a < 4611686018427387904 by omega)]
      have hll := hsb _ (List.getElem_mem c)
      simp only [go_sem, c, ltN' c, getD_map' _ _ _ _ c, lvE_mk]
      refine AWP.roam (ι := Nat × Store) (fun x => x.1 ≤ ls[i].length ∧ Disj T0 x.2 ∧ J ((bucksH (l.take a)).length + ((bucksF 0 (ls.take i)).length + x.1)) x.2)
        (fun x => ⟨Env.get [(0, .fn (.yield ll) [] []), (1, .sp b 0), (5, i64 i), (9, .p (.sl (l.map Hist.cs))), (10, i64 l.length), (11, i64 a), (16, .p (.sl (ls.map lvE))), (17, i64 ls.length), (18, i64 i), (23, .p (lvP ls[i])), (24, i64 ls[i].length), (25, i64 x.1)], Store.join x.2 T0, 40, []⟩) (fun x => ls[i].length - x.1) (0, E) ⟨by simp, hd, hJ⟩ ?_ ?_
      · exact le_of (by simp only [go_sem, lvP] <;> simp) (Sub.refl _) rfl rfl (by simp)
      · rintro ⟨j, E⟩ ⟨hj, hd, hJ⟩ jh
        dsimp only at hj hd hJ ⊢
        refine AWPH.step (xc_ok (bitB 68846296947) _ _ _ ?_)
        by_cases cj : j < ls[i].length
        rotate_left
        · obtain rfl : j = ls[i].length := by omega
          simp only [go_sem, lvP]
          refine (ih (i + 1, E) ⟨c, hd, by rw [bucks_next ls i c]; simpa using hJ⟩ (by dsimp only; omega)).back (Sub.refl _) (by simp) ?_
          simp only [go_sem, wi_succ (show i < 4611686018427387904 by omega)]
        have hget0 := bucks_get ls i c j cj
        have hget := hgetH _ hget0.1
        rw [hget0.2] at hget
        simp only [go_sem, lvP, cj, ltN' cj, getD_map' _ _ _ _ cj]
        refine alloc_intro fun d hfd => ?_
        have hfd' := join_none hfd
        simp only [go_sem]
        rw [join_set]
        have hyi := hy _ hget.1 E (T0.set (.r d) (.cells [u64 (ls[i][j]).a, u64 (ls[i][j]).b])) ((Sub.refl T0).set hfd'.2 _) (hd.setT hfd'.1 _) hJ
        simp only [itemsH, hget.2] at hyi
        have hjs : wi ((j : Int) + 1) = ((j + 1 : Nat) : Int) := wi_succ (show j < 4611686018427387904 by omega)
        refine AWP.orders (bitB 68846296947) mixed [[0,1,2,3,4,5,6,7],[0,1,3,2,4,5,6,7],[0,1,3,4,2,5,6,7],[0,3,1,2,4,5,6,7],[0,3,1,4,2,5,6,7],[0,3,4,1,2,5,6,7],[1,0,2,3,4,5,6,7],[1,0,3,2,4,5,6,7],[1,0,3,4,2,5,6,7],[1,2,0,3,4,5,6,7],[1,2,3,0,4,5,6,7],[1,2,3,4,0,5,6,7],[1,2,3,4,5,0,6,7],[1,3,0,2,4,5,6,7],[1,3,0,4,2,5,6,7],[1,3,2,0,4,5,6,7],[1,3,2,4,0,5,6,7],[1,3,2,4,5,0,6,7],[1,3,4,0,2,5,6,7],[1,3,4,2,0,5,6,7],[1,3,4,2,5,0,6,7],[3,0,1,2,4,5,6,7],[3,0,1,4,2,5,6,7],[3,0,4,1,2,5,6,7],[3,1,0,2,4,5,6,7],[3,1,0,4,2,5,6,7],[3,1,2,0,4,5,6,7],[3,1,2,4,0,5,6,7],[3,1,2,4,5,0,6,7],[3,1,4,0,2,5,6,7],[3,1,4,2,0,5,6,7],[3,1,4,2,5,0,6,7],[3,4,0,1,2,5,6,7],[3,4,1,0,2,5,6,7],[3,4,1,2,0,5,6,7],[3,4,1,2,5,0,6,7]] (by kernel_rfl) ?_
        simp only [List.forall_mem_cons, List.not_mem_nil, false_implies, implies_true, and_true, opsAt, List.getElem?_cons_zero, List.getElem?_cons_succ]
        repeat' (with_reducible refine And.intro ?_ ?_)
        all_goals
          simp only [go_sem]
          refine hyi.useA rfl ?_
          rintro r S' ⟨E', rfl, hd2, ⟨rfl, hJ2⟩ | ⟨rfl, hJ2⟩⟩
          · obtain ⟨hd3, hed⟩ := hd2.unsetT hfd'.2
            simp only [go_sem]
            refine (jh (j + 1, E') ⟨cj, hd3, by rw [← Nat.add_assoc, ← Nat.add_assoc]; rw [← Nat.add_assoc] at hJ2; exact hJ2⟩ (by dsimp only; omega)).back (sub_join_set hfd'.2 hed) (by simp) ?_
            simp only [go_sem, hjs, lvP]
          · obtain ⟨hd3, hed⟩ := hd2.unsetT hfd'.2
            simp only [go_sem]
            exact ⟨_, sub_join_set hfd'.2 hed, Or.inl ⟨E', rfl, hd3, Or.inr hJ2⟩⟩
theorem lumps_it (l : List Hist) (S : Store) : CallR Tryz.prog 89 [.p (.sl (l.map Hist.cs))] S
    (fun r S' => ∃ b, Fresh S b ∧ r = .fn (.func 147) [] [.sp b 0] ∧ S' = S.set (.r b) (.cells [.p (.sl (l.map Hist.cs))])) := by
  refine callR_of Tryz.func89 rfl rfl (xc_ok (bitB 7) _ _ _ ?_)
  simp only [go_sem]
  refine alloc_intro fun b hb => ?_
  simp only [go_sem]
  exact ⟨_, Sub.refl _, Or.inl ⟨b, hb, rfl, rfl⟩⟩
end Go.Sk
end

-- W10c
section
namespace Go.Sk
open Go Go.Proofs

def lumE (x : Nat × Nat) : List PV := [.int .u64 x.1, .int .u64 x.2]
theorem lumpsD_len : ∀ (ls : List (List Span)) i, (lumpsD i ls).length = bksN ls := by
  intro ls
  induction ls with
  | nil => intro i; rfl
  | cons l r ih => intro i; show (lumpsD (i + 1) r ++ l.map (fun s : Span => (s.b, 2 ^ i))).length = _; rw [List.length_append, ih, List.length_map]; unfold bksN; rw [List.map_cons, List.sum_cons]; omega
theorem good_bks {h : Hist} (g : h.Good) : bksN h.ls ≤ 60000 := by
  have h1 := bks_le (c := h.k.toNat + 2) h.ls g.sm
  have h2 := g.len
  have h3 := g.k1
  have h4 : (h.k.toNat + 2) * h.ls.length ≤ 1026 * 53 := Nat.mul_le_mul (by omega) h2
  omega
theorem lumpsR_len : ∀ (l : List Hist), (∀ h ∈ l, h.Good) → (lumpsR l).length ≤ l.length * 60000 := by
  intro l
  induction l with
  | nil => intro _; exact Nat.le_refl _
  | cons h r ih =>
    intro hg
    have h1 := good_bks (hg h (by simp))
    have h2 := ih (fun x hx => hg x (by simp [hx]))
    have e : lumpsR (h :: r) = lumpsD 0 h.ls ++ lumpsR r := by unfold lumpsR; rw [List.flatMap_cons]
    rw [e, List.length_append, lumpsD_len, List.length_cons]; omega
theorem units_two {i : Nat} (h : i < 64) : units i = 2 ^ i := by
  have h1 : (2 : Nat) ^ i < 2 ^ 64 := Nat.pow_lt_pow_right (by decide) h
  have e : (2 : Nat) ^ 64 = 18446744073709551616 := by decide
  unfold units; rw [Nat.min_eq_left (by omega), Nat.one_mul, m64_id (by omega)]

end Go.Sk
end

-- WSort
section
namespace Go.Proofs
open Go.Shelf
def Tryz.sortLump_ren : Go.Shelf.Ren := ⟨fun | 6 => 90 | 15 => 149 | 14 => 148 | 28 => 200 | 29 => 201 | 20 => 192 | 21 => 193 | 22 => 194 | 23 => 195 | 24 => 196 | 25 => 197 | 26 => 198 | 27 => 199 | 46 => 221 | 47 => 222 | 48 => 223 | 49 => 224 | 50 => 225 | 57 => 238 | n => n, fun | 22 => 179 | 24 => 184 | 25 => 186 | 3 => 3 | 39 => 206 | 0 => 0 | 53 => 297 | 55 => 23 | 4 => 4 | 46 => 290 | 45 => 289 | 50 => 294 | 5 => 5 | 9 => 9 | 66 => 316 | 70 => 320 | 76 => 332 | 77 => 333 | n => n, fun | n => n⟩
theorem Tryz.sortLump : Go.Proofs.SlLaysF0.n6 Tryz.prog Tryz.sortLump_ren where
  mixed := by kernel_rfl
  f6 := ⟨"slices.SortFunc[[]skylight/replay.lump,skylight/replay.lump]", by decide, Tryz.func90.trans (congrArg some (by kernel_rfl))⟩
  f14 := ⟨"slices.pdqsortCmpFunc[skylight/replay.lump]", by decide, Tryz.func148.trans (congrArg some (by kernel_rfl))⟩
  f15 := Tryz.func149.trans (congrArg some (by kernel_rfl))
  f20 := ⟨"slices.insertionSortCmpFunc[skylight/replay.lump]", by decide, Tryz.func192.trans (congrArg some (by kernel_rfl))⟩
  f21 := ⟨"slices.heapSortCmpFunc[skylight/replay.lump]", by decide, Tryz.func193.trans (congrArg some (by kernel_rfl))⟩
  f22 := ⟨"slices.breakPatternsCmpFunc[skylight/replay.lump]", by decide, Tryz.func194.trans (congrArg some (by kernel_rfl))⟩
  f23 := ⟨"slices.choosePivotCmpFunc[skylight/replay.lump]", by decide, Tryz.func195.trans (congrArg some (by kernel_rfl))⟩
  f24 := ⟨"slices.reverseRangeCmpFunc[skylight/replay.lump]", by decide, Tryz.func196.trans (congrArg some (by kernel_rfl))⟩
  f25 := ⟨"slices.partialInsertionSortCmpFunc[skylight/replay.lump]", by decide, Tryz.func197.trans (congrArg some (by kernel_rfl))⟩
  f26 := ⟨"slices.partitionEqualCmpFunc[skylight/replay.lump]", by decide, Tryz.func198.trans (congrArg some (by kernel_rfl))⟩
  f27 := ⟨"slices.partitionCmpFunc[skylight/replay.lump]", by decide, Tryz.func199.trans (congrArg some (by kernel_rfl))⟩
  f28 := Tryz.func200.trans (congrArg some (by kernel_rfl))
  f29 := Tryz.func201.trans (congrArg some (by kernel_rfl))
  f46 := ⟨"slices.siftDownCmpFunc[skylight/replay.lump]", by decide, Tryz.func221.trans (congrArg some (by kernel_rfl))⟩
  f47 := Tryz.func222.trans (congrArg some (by kernel_rfl))
  f48 := Tryz.func223.trans (congrArg some (by kernel_rfl))
  f49 := ⟨"slices.medianAdjacentCmpFunc[skylight/replay.lump]", by decide, Tryz.func224.trans (congrArg some (by kernel_rfl))⟩
  f50 := ⟨"slices.medianCmpFunc[skylight/replay.lump]", by decide, Tryz.func225.trans (congrArg some (by kernel_rfl))⟩
  f57 := ⟨"slices.order2CmpFunc[skylight/replay.lump]", by decide, Tryz.func238.trans (congrArg some (by kernel_rfl))⟩
  t0 := Tryz.underlying0
  a0 := Tryz.isAgg0
  z0 := Tryz.sizeOf0
  v0 := Tryz.zeroValue0
  t3 := Tryz.underlying3
  a3 := Tryz.isAgg3
  z3 := Tryz.sizeOf3
  v3 := Tryz.zeroValue3
  t4 := Tryz.underlying4
  a4 := Tryz.isAgg4
  z4 := Tryz.sizeOf4
  v4 := Tryz.zeroValue4
  t5 := Tryz.underlying5
  a5 := Tryz.isAgg5
  z5 := Tryz.sizeOf5
  v5 := Tryz.zeroValue5
  t9 := Tryz.underlying9
  a9 := Tryz.isAgg9
  z9 := Tryz.sizeOf9
  v9 := Tryz.zeroValue9
  t22 := Tryz.underlying179
  a22 := Tryz.isAgg179
  z22 := Tryz.sizeOf179
  v22 := Tryz.zeroValue179
  t25 := Tryz.underlying186
  a25 := Tryz.isAgg186
  z25 := Tryz.sizeOf186
  v25 := Tryz.zeroValue186
  t39 := Tryz.underlying206
  a39 := Tryz.isAgg206
  z39 := Tryz.sizeOf206
  v39 := Tryz.zeroValue206
  t45 := Tryz.underlying289
  a45 := Tryz.isAgg289
  z45 := Tryz.sizeOf289
  v45 := Tryz.zeroValue289
  t46 := Tryz.underlying290
  a46 := Tryz.isAgg290
  z46 := Tryz.sizeOf290
  v46 := Tryz.zeroValue290
  t50 := Tryz.underlying294
  a50 := Tryz.isAgg294
  z50 := Tryz.sizeOf294
  v50 := Tryz.zeroValue294
  t53 := Tryz.underlying297
  a53 := Tryz.isAgg297
  z53 := Tryz.sizeOf297
  v53 := Tryz.zeroValue297
  t55 := Tryz.underlying23
  a55 := Tryz.isAgg23
  z55 := Tryz.sizeOf23
  v55 := Tryz.zeroValue23
  t66 := Tryz.underlying316
  a66 := Tryz.isAgg316
  z66 := Tryz.sizeOf316
  v66 := Tryz.zeroValue316
  t70 := Tryz.underlying320
  a70 := Tryz.isAgg320
  z70 := Tryz.sizeOf320
  v70 := Tryz.zeroValue320
  t76 := Tryz.underlying332
  a76 := Tryz.isAgg332
  z76 := Tryz.sizeOf332
  v76 := Tryz.zeroValue332
  t77 := Tryz.underlying333
  a77 := Tryz.isAgg333
  z77 := Tryz.sizeOf333
  v77 := Tryz.zeroValue333
end Go.Proofs
end

-- W10d
section
namespace Go.Sk
open Go Go.Proofs Go.Sort

def cmpN (x y : Nat) : Int := if x < y then -1 else if y < x then 1 else 0
theorem isNaN_u (n : Nat) : Pure Tryz.prog 144 [u64 n] (bl false) := fun S => by
  refine callR_of Tryz.func144 rfl rfl (xc_ok (bitB 5) _ _ _ ?_)
  simp only [go_sem]
  (refine ⟨S, by (repeat (first | exact Sub.refl _ | refine Sub.setF ?_ (by first | assumption | simp only [*]) | refine Sub.setV ?_ (by first | assumption | simp only [*]))), ?_⟩); simp
theorem cmp_u64 (x y : Nat) : Pure Tryz.prog 83 [u64 x, u64 y] (i64 (cmpN x y)) := fun S => by
  refine callR_of Tryz.func83 rfl rfl (xc_ok (bitB 604275) _ _ _ ?_)
  simp only [go_sem]
  refine (isNaN_u x).useA ?_
  simp only [go_sem]
  refine (isNaN_u y).useA ?_
  by_cases h1 : x < y
  · simp only [go_sem, h1]
    (refine ⟨S, by (repeat (first | exact Sub.refl _ | refine Sub.setF ?_ (by first | assumption | simp only [*]) | refine Sub.setV ?_ (by first | assumption | simp only [*]))), ?_⟩); simp [cmpN, h1]
  · by_cases h2 : y < x
    · simp only [go_sem, h1, h2]
      (refine ⟨S, by (repeat (first | exact Sub.refl _ | refine Sub.setF ?_ (by first | assumption | simp only [*]) | refine Sub.setV ?_ (by first | assumption | simp only [*]))), ?_⟩); simp [cmpN, h1, h2]
    · simp only [go_sem, h1, h2]
      (refine ⟨S, by (repeat (first | exact Sub.refl _ | refine Sub.setF ?_ (by first | assumption | simp only [*]) | refine Sub.setV ?_ (by first | assumption | simp only [*]))), ?_⟩); simp [cmpN, h1, h2]
theorem with_cmp (x y : Nat × Nat) (S : Store) : CallsR Tryz.prog 91 [.agg ((lumE x).map .p), .agg ((lumE y).map .p)] S (fun r _ => r = i64 (cmpN x.1 y.1)) := by
  refine callsR_of Tryz.func91 rfl (xc_ok (bitB 31) _ _ _ ?_)
  simp only [go_sem, lumE]
  refine alloc_intro fun b hb => ?_
  simp only [go_sem]
  refine alloc_intro fun b' hb' => ?_
  simp only [fresh_set] at hb'
  simp only [go_sem, hb']
  refine (cmp_u64 x.1 y.1).useA ?_
  simp only [go_sem]
  exact ⟨_, Sub.refl _⟩
def luE (x : Nat × Nat) : List (IntKind × Int) := [(.u64, (x.1 : Int)), (.u64, (x.2 : Int))]
theorem cmpN_neg (x y : Nat) : cmpN x y < 0 ↔ x < y := by
  unfold cmpN
  repeat' split
  all_goals omega
theorem swo_lu : SWO (ltOf fun x y : Nat × Nat => cmpN x.1 y.1) where
  irrefl := fun x => by simp [ltOf, cmpN_neg]
  trans := fun x y z h1 h2 => by simp only [ltOf, cmpN_neg, decide_eq_true_eq] at *; omega
  ntrans := fun x y z h1 h2 => by simp only [ltOf, cmpN_neg, decide_eq_false_iff_not] at *; omega
/-- A row of lumps that is written, with room. -/
def rowL (m : List (Nat × Nat)) (c : Nat) : Blk := .cells (flatA (m.map lumE) ++ List.replicate ((c - m.length) * 2) .top)
theorem rowL_len (m : List (Nat × Nat)) : (flatA (m.map lumE)).length = m.length * 2 := by
  rw [flatA_length (sz := 2) (by intro el h; obtain ⟨x, _, rfl⟩ := List.mem_map.1 h; rfl)]; simp
theorem ord_of {m : List (Nat × Nat)} (h : ∀ i j, i < j → ∀ hj : j < m.length, ∀ hi : i < m.length, (m[i]).1 ≤ (m[j]).1) : Ord m := by
  unfold Ord
  rw [List.pairwise_iff_getElem]
  intro i j hi hj hij
  exact h i j hij hj hi
theorem sort_lu {S : Store} {b c n : Nat} (m : List (Nat × Nat)) (hn : m.length = n) (hb : S (.r b) = some (rowL m c)) (hm : m ≠ []) (hl : m.length < 4611686018427387904) {R : AV → Store → Prop}
    (hR : ∀ m' : List (Nat × Nat), m'.Perm m → Ord m' → R (.tuple []) (S.set (.r b) (rowL m' c))) :
    CallR Tryz.prog 90 [.ms b 2 0 n c, .fn (.func 91) [] []] S R := by
  subst hn
  have hen : Enterable Tryz.prog 91 := enterable_of Tryz.func91 rfl rfl
  have hen2 : Enterable Tryz.prog 90 := enterable_of Tryz.func90 rfl rfl
  have hmap : ∀ l : List (Nat × Nat), l.map (encP luE) = l.map lumE := fun l => rfl
  refine sort_call luE Tryz.sortLump (k := 2) Tryz.isAgg184 Tryz.sizeOf184 (fun _ => rfl) (fun x y : Nat × Nat => cmpN x.1 y.1) swo_lu hen hen2 (fun x y w => cmp_of luE (with_cmp x y noS) w) hb m hm (by omega) ?_ ?_
  · rw [List.drop_zero, hmap, List.take_append_of_le_length (by rw [rowL_len]; exact Nat.le_refl _), List.take_of_length_le (by rw [rowL_len]; exact Nat.le_refl _)]
  · intro m' hp hs
    have hlen := hp.length_eq
    have := hR m' hp (ord_of fun i j hij hj hi => by
      have := hs i j hij hj
      rw [cmpN_neg] at this
      simp only [getElem!_pos, hi, hj] at this; omega)
    have e : splice (flatA (m.map lumE) ++ List.replicate ((c - m.length) * 2) AV.top) 0 (flatA (m'.map (encP luE))) = flatA (m'.map lumE) ++ List.replicate ((c - m'.length) * 2) .top := by
      unfold splice
      rw [hmap, List.take_zero, List.nil_append, Nat.zero_add, rowL_len, hlen]
      congr 1
      rw [List.drop_append_of_le_length (by rw [rowL_len]; exact Nat.le_refl _), List.drop_of_length_le (by rw [rowL_len]; exact Nat.le_refl _), List.nil_append]
    rw [e]; exact this
end Go.Sk
end

-- W10f
section
namespace Go.Sk
open Go Go.Proofs

noncomputable def lumpU (x : Span × Nat) : Nat × Nat := (x.1.b, units x.2)
/-- A row of lumps in a box. -/
def rowS (S0 : Store) (c : Nat) (m : List (Nat × Nat)) (y : Nat × Nat) : Store :=
  match m with
  | [] => S0.set (.r c) (.cells [.nils])
  | x :: r => (S0.set (.r y.1) (rowL (x :: r) ((x :: r).length + y.2))).set (.r c) (.cells [.ms y.1 2 0 (x :: r).length ((x :: r).length + y.2)])
theorem rowS_nil (S0 : Store) (c : Nat) (y : Nat × Nat) : rowS S0 c [] y = S0.set (.r c) (.cells [.nils]) := rfl
theorem rowS_ne {S0 : Store} {c : Nat} {m : List (Nat × Nat)} (h : m ≠ []) (y : Nat × Nat) : rowS S0 c m y = (S0.set (.r y.1) (rowL m (m.length + y.2))).set (.r c) (.cells [.ms y.1 2 0 m.length (m.length + y.2)]) := by
  cases m with
  | nil => exact absurd rfl h
  | cons x r => rfl
theorem lflat_app (l m : List (List PV)) : flatA (l ++ m) = flatA l ++ flatA m := by simp [flatA]
theorem rowL_in (m : List (Nat × Nat)) (x : Nat × Nat) (c : Nat) (hc : m.length + 1 ≤ c) :
    rowL (m ++ [x]) c = .cells (splice (flatA (m.map lumE) ++ List.replicate ((c - m.length) * 2) AV.top) (0 + m.length * 2) (flatA [lumE x])) := by
  have hA := rowL_len m
  unfold rowL splice
  congr 1
  rw [List.map_append, lflat_app, Nat.zero_add, List.take_append_of_le_length (by rw [hA]; exact Nat.le_refl _), List.take_of_length_le (by rw [hA]; exact Nat.le_refl _)]
  have e2 : flatA ([x].map lumE) = flatA [lumE x] := rfl
  rw [e2]
  congr 1
  rw [List.drop_append, hA]
  have e3 : (flatA [lumE x]).length = 2 := rfl
  rw [e3, List.drop_of_length_le (by rw [hA]; omega), List.nil_append, List.drop_replicate]
  congr 1
  simp; omega
theorem rowL_out (m : List (Nat × Nat)) (x : Nat × Nat) (c c' : Nat) :
    rowL (m ++ [x]) c' = .cells (((flatA (m.map lumE) ++ List.replicate ((c - m.length) * 2) AV.top).drop 0).take (m.length * 2) ++ flatA [lumE x] ++ List.replicate ((c' - (m.length + 1)) * 2) .top) := by
  have hA := rowL_len m
  unfold rowL
  congr 1
  rw [List.map_append, lflat_app, List.drop_zero, List.take_append_of_le_length (by rw [hA]; exact Nat.le_refl _), List.take_of_length_le (by rw [hA]; exact Nat.le_refl _)]
  have e2 : flatA ([x].map lumE) = flatA [lumE x] := rfl
  rw [e2]
  congr 2
  simp
theorem rowL_one (x : Nat × Nat) (c : Nat) : rowL [x] c = .cells (flatA [lumE x] ++ List.replicate ((c - 1) * 2) .top) := rfl
theorem bucksF_lum : ∀ (ls : List (List Span)) (i : Nat), i + ls.length ≤ 64 → (bucksF i ls).map lumpU = lumpsA i ls := by
  intro ls
  induction ls with
  | nil => intro i _; rfl
  | cons l r ih =>
    intro i h
    rw [List.length_cons] at h
    have hu := units_two (i := i) (by omega)
    show (l.map (fun s => (s, i)) ++ bucksF (i + 1) r).map lumpU = l.map (fun s => (s.b, 2 ^ i)) ++ lumpsA (i + 1) r
    rw [List.map_append, ih (i + 1) (by omega), List.map_map]
    congr 1
    apply List.map_congr_left
    intro s _
    show (s.b, units i) = _
    rw [hu]
theorem lumpU_eq : ∀ (l : List Hist), (∀ h ∈ l, h.ls.length ≤ 53) → (bucksH l).map lumpU = lumpsP l := by
  intro l
  induction l with
  | nil => intro _; rfl
  | cons h r ih =>
    intro hh
    have e1 : bucksH (h :: r) = bucksF 0 h.ls ++ bucksH r := by unfold bucksH; rw [List.flatMap_cons]
    rw [e1, List.map_append, ih (fun x hx => hh x (by simp [hx])), lumpsP_cons, bucksF_lum h.ls 0 (by have := hh h (by simp); omega)]
theorem lumpsP_len (l : List Hist) (hg : ∀ h ∈ l, h.Good) : (lumpsP l).length ≤ l.length * 60000 := by
  rw [← (lumpsR_perm l).length_eq]; exact lumpsR_len l hg
theorem Disj.sub {T A B : Store} (h : Disj T A) (hs : Sub B A) : Disj T B := fun q => by
  cases hb : B q with
  | none => exact Or.inl rfl
  | some y =>
    rcases h q with e | e
    · rw [hs _ _ hb] at e; cases e
    · exact Or.inr e
theorem Disj.at {T E : Store} {k : Key} {y : Blk} (h : Disj T E) (hk : E k = some y) : T k = none := by
  rcases h k with e | e
  · rw [hk] at e; cases e
  · exact e
theorem flat_at : ∀ (m : List (Nat × Nat)) (i : Nat) (hi : i < m.length) (R : List AV), ((flatA (m.map lumE) ++ R).drop (i * 2)).take 2 = [u64 (m[i]).1, u64 (m[i]).2] := by
  intro m
  induction m with
  | nil => intro i hi; cases hi
  | cons x r ih =>
    intro i hi R
    have e : flatA ((x :: r).map lumE) ++ R = u64 x.1 :: u64 x.2 :: (flatA (r.map lumE) ++ R) := by
      rw [List.map_cons]; rfl
    rw [e]
    cases i with
    | zero => rfl
    | succ i =>
      rw [show (i + 1) * 2 = i * 2 + 1 + 1 by omega, List.drop_succ_cons, List.drop_succ_cons, ih i (by simpa using hi)]
      rfl
theorem sumW_mem {l : List (Nat × Nat)} : ∀ x ∈ l, x.2 ≤ sumW l := by
  induction l with
  | nil => intro x hx; cases hx
  | cons y r ih =>
    intro x hx
    rw [sumW_cons]
    rcases List.mem_cons.1 hx with rfl | hx
    · omega
    · have := ih x hx; omega
end Go.Sk
end

-- W10e
section
namespace Go.Sk
open Go Go.Proofs

set_option maxHeartbeats 2000000 in
set_option maxRecDepth 8000 in
theorem replay_With (evs : List Event) (l : List Hist) (hn : l.length < 1048576) (hne : evs.length < 1048576) (hoe : ∀ e ∈ evs, e.Ok) (hf : ∀ h ∈ l, h.Fine) (hg4 : ∀ h ∈ l, h.g ≤ 4) :
    Pure Tryz.prog 31 [.p (evsP evs), .p (.sl (l.map Hist.cs))] (.tuple [(withV evs l).1.av, i64 (withV evs l).2]) := fun S => by
  refine callR_of Tryz.func31 rfl rfl (xc_ok (bitB 38942524475571453149370480702712819) _ _ _ ?_)
  simp only [go_sem]
  refine alloc_intro fun c4 h4 => ?_
  have y4 : S (.r c4) = none := h4
  simp only [go_sem]
  by_cases hl0 : l = []
  · subst hl0
    simp only [go_sem, List.map_nil]
    (refine ⟨S, by (repeat (first | exact Sub.refl _ | refine Sub.setF ?_ (by first | assumption | simp only [*]) | refine Sub.setV ?_ (by first | assumption | simp only [*]))), ?_⟩); simp [withV, zeroH]
  have hlen : 0 < l.length := List.length_pos_iff.2 hl0
  have q0 : (l.length == 0) = false := by simpa using hl0
  simp only [go_sem, q0, List.length_map]
  refine (contains_any _ _ with_empty evs (by omega)).useA ?_
  cases hem : evs.any (fun e => e.w == 0)
  rotate_left
  · simp only [go_sem]
    (refine ⟨S, by (repeat (first | exact Sub.refl _ | refine Sub.setF ?_ (by first | assumption | simp only [*]) | refine Sub.setV ?_ (by first | assumption | simp only [*]))), ?_⟩); simp [withV, zeroH, hem]
  obtain ⟨k0, hk0⟩ : ∃ k0, (l.headD zeroH).k = k0 := ⟨_, rfl⟩
  have hk0' : (l[0]).k = k0 := by rw [← hk0]; cases l with | nil => exact absurd rfl hl0 | cons a r => rfl
  simp only [go_sem, hlen, ltN' hlen, getD_map' _ _ _ _ hlen, hk0', List.length_map]
  refine alloc_intro fun c8 h8 => ?_
  simp only [fresh_set] at h8
  have y8 : S (.r c8) = none := h8.2
  simp only [go_sem, h8]
  refine alloc_intro fun c9 h9 => ?_
  simp only [fresh_set] at h9
  have y9 : S (.r c9) = none := h9.2.2
  simp only [go_sem, h8, h9]
  have hsl : ∀ h ∈ l, h.ls.length ≤ 53 ∧ totN 0 h.ls ≤ 4503599627370496 := fun h hh => ⟨(hf h hh).good.len, (hf h hh).good.tot⟩
  refine AWP.roam (ι := Nat) (fun i => i ≤ l.length ∧ ∀ j (h : j < i) (h2 : j < l.length), (l[j]).k = k0)
    (fun i => ⟨Env.get [(0, .p (evsP evs)), (1, .p (.sl (l.map Hist.cs))), (4, .sp c4 0), (6, .fn (.func 85) [] []), (7, .fn (.func 86) [] []), (8, .sp c8 0), (9, .sp c9 0), (36, .p (.sl (l.map Hist.cs))), (37, i64 l.length), (38, i64 i)],
      ((S.set (.r c4) (.cells [i64 0, i64 0, .nils])).set (.r c8) (.cells [i64 k0, i64 (gA (l.take i)), .nils])).set (.r c9) (.cells (scaleC (layN (4503599627370496, false) (totsL (l.take i))))), 128, []⟩) (fun i => l.length - i) 0 ⟨Nat.zero_le _, fun j h => by omega⟩ ?_ ?_
  · refine le_of (by simp only [go_sem, List.length_map] <;> rfl) ?_ rfl rfl (by simp)
    ((try dsimp only); (repeat refine sub_set ?_ ?_) <;> first | ((repeat (first | exact Sub.refl _ | refine Sub.setF ?_ (by first | assumption | simp only [*]) | refine Sub.setV ?_ (by first | assumption | simp only [*]))); done) | (simp only [go_sem, h8, h9, List.take_zero, gA, totsL, layN, scaleC, List.foldl_nil, List.map_nil]; done) | (simp only [go_sem, h8, h9, List.take_zero, gA, totsL, layN, scaleC, List.foldl_nil, List.map_nil]; rfl) | rfl)
  · rintro i ⟨hi, hall⟩ ih
    refine AWPH.step (xc_ok (bitB 38942524475571453149370480702712819) _ _ _ ?_)
    by_cases c : i < l.length
    · have hsi := hsl _ (List.getElem_mem c)
      have hgi := hg4 _ (List.getElem_mem c)
      have hgi0 := (hf _ (List.getElem_mem c)).g0
      have hsn := gA_snoc l i c
      have htn := totsL_snoc l i c
      have hgt := gA_le (l := l.take i) (fun h hh => hg4 h (List.mem_of_mem_take hh))
      have hln := layN_snoc (4503599627370496, false) (totsL (l.take i)) (totN 0 (l[i]).ls)
      have hll := layN_lt (totsL (l.take i)) (4503599627370496, false)
      have hkk : (l[i]).k ≠ k0 → (l.any fun h => h.k != (l.headD zeroH).k) = true := fun h => List.any_eq_true.2 ⟨_, List.getElem_mem c, by rw [hk0]; simpa using h⟩
      have hget : (l.map Hist.cs).getD i [] = [.int .i64 (l[i]).k, .int .i64 (l[i]).g, .sl ((l[i]).ls.map lvE)] := by
        rw [getD_map' _ _ _ _ c]; rfl
      simp only [go_sem, c, ltN' c, hget, List.length_map]
      refine alloc_intro fun c11 h11 => ?_
      simp only [fresh_set] at h11
      simp only [go_sem, h8, h9, h11]
      by_cases hk : (l[i]).k = k0
      · have e1 : ((l[i]).k != k0) = false := by simpa using hk
        simp only [go_sem, e1, h8, h9, h11]
        have htv : totV (l[i]).ls = totN 0 (l[i]).ls := totV_eq (by omega)
        have ew : wi ((l[i]).g + 1) = (l[i]).g + 1 := wi_id (by omega) (by omega)
        have emax : (if (l[i]).g + 1 > gA (l.take i) then (l[i]).g + 1 else gA (l.take i)) = gA (l.take (i + 1)) := by rw [hsn]; split <;> omega
        refine (hist_Total (l[i]).k (l[i]).g (l[i]).ls (by omega)).useA ?_
        rw [htv, ew, emax]
        simp only [go_sem, h8, h9, h11]
        refine (lay_in (layN (4503599627370496, false) (totsL (l.take i))) (totN 0 (l[i]).ls) (by dsimp only at hll; omega) (by simp only [go_sem, h8, h9, h11])).useA ?_
        rintro _ _ ⟨rfl, rfl⟩
        rw [← hln, ← htn]
        simp only [go_sem, h8, h9, h11]
        refine (ih (i + 1) ⟨c, fun j h h2 => ?_⟩ (by omega)).back ?_ (by simp) ?_
        · rcases Nat.lt_or_ge j i with hj | hj
          · exact hall j hj h2
          · obtain rfl : j = i := by omega
            exact hk
        · ((try dsimp only); (repeat refine sub_set ?_ ?_) <;> first | ((repeat (first | exact Sub.refl _ | refine Sub.setF ?_ (by first | assumption | simp only [*]) | refine Sub.setV ?_ (by first | assumption | simp only [*]))); done) | (simp only [go_sem, h8, h9, h11]; done) | (simp only [go_sem, h8, h9, h11]; rfl) | rfl)
        · simp only [go_sem, wi_succ (show i < 4611686018427387904 by omega)]
      · have e1 : ((l[i]).k != k0) = true := by simpa using hk
        simp only [go_sem, e1, h8, h9, h11]
        rw [withV_k hl0 hem (hkk hk)]
        (refine ⟨S, by (repeat (first | exact Sub.refl _ | refine Sub.setF ?_ (by first | assumption | simp only [*]) | refine Sub.setV ?_ (by first | assumption | simp only [*]))), ?_⟩); simp [zeroH]
    · obtain rfl : i = l.length := by omega
      have hnk : l.any (fun h => h.k != (l.headD zeroH).k) = false := by
        rw [List.any_eq_false]
        intro h hh
        obtain ⟨j, hj, rfl⟩ := List.getElem_of_mem hh
        rw [hk0, hall j hj hj]; simp
      have hgl := gA_le (l := l) hg4
      have hge := gA_eq hl0 (fun h hh => (hf h hh).g0)
      have hTl : (totsL l).sum = sumT l := rfl
      simp only [go_sem, List.take_length, evsP, List.length_map]
      have hll := layN_lt (totsL l) (4503599627370496, false)
      obtain ⟨s0, hs0⟩ : ∃ s0, layN (4503599627370496, false) (totsL l) = s0 := ⟨_, rfl⟩
      rw [hs0] at hll ⊢
      dsimp only at hll
      refine AWP.iter (fun i => ⟨Env.get [(0, .p (evsP evs)), (1, .p (.sl (l.map Hist.cs))), (4, .sp c4 0), (7, .fn (.func 86) [] []), (8, .sp c8 0), (9, .sp c9 0), (60, .p (evsP evs)), (61, i64 evs.length), (62, i64 i)],
        ((S.set (.r c4) (.cells [i64 0, i64 0, .nils])).set (.r c8) (.cells [i64 k0, i64 (gA l), .nils])).set (.r c9) (.cells (scaleC (layN s0 ((evs.take i).map Event.w)))), 128, []⟩) evs.length ?_ ?_ ?_
      · refine le_of (by simp only [go_sem, evsP, List.length_map] <;> rfl) ?_ rfl rfl (by simp)
        ((try dsimp only); (repeat refine sub_set ?_ ?_) <;> first | ((repeat (first | exact Sub.refl _ | refine Sub.setF ?_ (by first | assumption | simp only [*]) | refine Sub.setV ?_ (by first | assumption | simp only [*]))); done) | (simp only [go_sem, h8, h9, List.take_zero, List.map_nil, layN, List.foldl_nil]; done) | (simp only [go_sem, h8, h9, List.take_zero, List.map_nil, layN, List.foldl_nil]; rfl) | rfl)
      · intro i hi ih
        have hli := layN_lt ((evs.take i).map Event.w) s0
        have hwi := (hoe _ (List.getElem_mem hi)).w
        refine AWPH.step (xc_ok (bitB 38942524475571453149370480702712819) _ _ _ ?_)
        simp only [go_sem, evsP, hi, ltN' hi, getD_map' _ _ _ _ hi, List.length_map]
        refine alloc_intro fun c13 h13 => ?_
        simp only [fresh_set] at h13
        simp only [go_sem, h8, h9, h13]
        refine (lay_in (layN s0 ((evs.take i).map Event.w)) (evs[i]).w (by omega) (by simp only [go_sem, h8, h9, h13])).useA ?_
        rintro _ _ ⟨rfl, rfl⟩
        rw [← layN_snoc, ← evW_snoc _ _ hi]
        simp only [go_sem, h8, h9, h13]
        refine ih.back ?_ (by simp) ?_
        · ((try dsimp only); (repeat refine sub_set ?_ ?_) <;> first | ((repeat (first | exact Sub.refl _ | refine Sub.setF ?_ (by first | assumption | simp only [*]) | refine Sub.setV ?_ (by first | assumption | simp only [*]))); done) | (simp only [go_sem, h8, h9, h13]; done) | (simp only [go_sem, h8, h9, h13]; rfl) | rfl)
        · simp only [go_sem, evsP, wi_succ (show i < 4611686018427387904 by omega)]
      · refine AWPH.step (xc_ok (bitB 38942524475571453149370480702712819) _ _ _ ?_)
        have hov := over_eq l evs
        rw [hs0] at hov
        simp only [go_sem, h8, h9, evsP, List.take_length, List.length_map]
        by_cases t1 : gA l > 4
        · simp only [go_sem, t1, h8, h9]
          rw [withV_g hl0 hem hnk (by omega)]
          (refine ⟨S, by (repeat (first | exact Sub.refl _ | refine Sub.setF ?_ (by first | assumption | simp only [*]) | refine Sub.setV ?_ (by first | assumption | simp only [*]))), ?_⟩); simp [zeroH]
        simp only [go_sem, t1, h8, h9]
        refine (contains_any _ _ with_far evs (by omega)).useA ?_
        cases hfr : evs.any (fun e => decide (9223372036854775807 < e.t))
        rotate_left
        · simp only [go_sem, h8, h9]
          rw [withV_t hl0 hem hnk (by omega) hfr]
          (refine ⟨S, by (repeat (first | exact Sub.refl _ | refine Sub.setF ?_ (by first | assumption | simp only [*]) | refine Sub.setV ?_ (by first | assumption | simp only [*]))), ?_⟩); simp [zeroH]
        simp only [go_sem, h8, h9, scaleC, hov]
        by_cases t2 : 4503599627370496 < sumT l + sumE Event.w evs
        · simp only [go_sem, t2, h8, h9]
          rw [withV_o hl0 hem hnk (by omega) hfr t2]
          (refine ⟨S, by (repeat (first | exact Sub.refl _ | refine Sub.setF ?_ (by first | assumption | simp only [*]) | refine Sub.setV ?_ (by first | assumption | simp only [*]))), ?_⟩); simp [zeroH]
        simp only [go_sem, t2, h8, h9]
        have hcm := came_of hf hl0 hem hnk (by omega) hfr t2
        refine alloc_intro fun c14 h14 => ?_
        simp only [fresh_set] at h14
        have y14 : S (.r c14) = none := h14.2.2.2
        simp only [go_sem, h8, h9, h14]
        refine (lumps_it l _).useA ?_
        rintro _ _ ⟨b, hb, rfl, rfl⟩
        simp only [fresh_set] at hb
        have yb : S (.r b) = none := hb.2.2.2.2
        simp only [go_sem, h8, h9, h14, hb]
        obtain ⟨L, hL⟩ : ∃ L, (bucksH l).map lumpU = L := ⟨_, rfl⟩
        have hLl : L.length = (bucksH l).length := by rw [← hL, List.length_map]
        have hseq := lumps1 l (by omega) (fun h hh => ⟨by have := (hsl h hh).1; omega, fun x hx => by have := (hf h hh).good.sm x hx; have := (hf h hh).good.k1; omega⟩) (T0 := eS.set (.r b) (.cells [.p (.sl (l.map Hist.cs))])) (b := b) (by simp only [go_sem])
        have hitem : ∀ j, j < L.length → itemsH (bucksH l) j = [.agg ((lumE (L.getD j default)).map .p)] := fun j hj => by
          rw [hLl] at hj
          unfold itemsH
          rw [← hL, getD_map' _ _ _ _ hj]
          simp [List.getD_eq_getElem?_getD, hj, lumE, lumpU]
        rw [← hLl] at hseq
        generalize itemsH (bucksH l) = IT at *
        have hLP : L = lumpsP l := by rw [← hL]; exact lumpU_eq l (fun h hh => (hsl h hh).1)
        have hLbig : L.length ≤ 62914560000 := by
          rw [hLP]
          have := lumpsP_len l (fun h hh => (hf h hh).good)
          have h3 : l.length * 60000 ≤ 1048576 * 60000 := Nat.mul_le_mul_right _ (by omega)
          omega
        refine AWP.rangeE (ι := {y : Nat × Nat // (¬ y.1 = c4 ∧ ¬ c4 = y.1) ∧ (¬ y.1 = c8 ∧ ¬ c8 = y.1) ∧ (¬ y.1 = c14 ∧ ¬ c14 = y.1) ∧ S (.r y.1) = none}) (f := 147) (first := []) (caps := [.sp b 0]) (by simp only [go_sem]) _
          (fun j y => rowS ((S.set (.r c4) (.cells [i64 0, i64 0, .nils])).set (.r c8) (.cells [i64 k0, i64 (gA l), .nils])) c14 (L.take j) y.1) ⟨(b, 0), hb.2.2.2.1, hb.2.2.1, hb.1, yb⟩
          ?_ ?_ hseq (enterable_of Tryz.func147 rfl rfl) (fun _ _ => False) (fun j hj => by rw [hitem j hj]; rfl) (by simp) ?_ ?_ ?_
        · refine sub_joinT (sub_join0 ?_) ?_ ?_
          · rw [List.take_zero, rowS_nil]
            ((try dsimp only); (repeat refine sub_set ?_ ?_) <;> first | ((repeat (first | exact Sub.refl _ | refine Sub.setF ?_ (by first | assumption | simp only [*]) | refine Sub.setV ?_ (by first | assumption | simp only [*]))); done) | (simp only [go_sem, h8, h9, h14, hb]; done) | (simp only [go_sem, h8, h9, h14, hb]; rfl) | rfl)
          all_goals simp only [go_sem, h8, h9, h14, hb, yb, rowS_nil, List.take_zero]
        · rw [List.take_zero, rowS_nil]
          refine (Disj.nil _).setT ?_ _
          simp only [go_sem, h8, h9, h14, hb, yb]
        · rintro j ⟨⟨b1, r1⟩, z4, z8, z14, zS⟩ ll hj T hT hdT
          dsimp only at z4 z8 z14 zS hdT ⊢
          refine xc_ok (bitB 38942524475571453149370480702712819) _ _ _ ?_
          rw [hitem j hj]
          simp only [go_sem]
          refine alloc_intro fun e he => ?_
          have hje := join_none he
          obtain ⟨M, hM⟩ : ∃ M, L.take j = M := ⟨_, rfl⟩
          obtain ⟨x, hx⟩ : ∃ x, L.getD j default = x := ⟨_, rfl⟩
          have hnext : L.take (j + 1) = M ++ [x] := by rw [List.take_succ_eq_append_getElem hj, hM, ← hx]; simp [List.getD_eq_getElem?_getD, hj]
          have hMl : M.length = j := by rw [← hM, List.length_take]; exact Nat.min_eq_left (Nat.le_of_lt hj)
          rw [hM] at hje hdT ⊢
          rw [hx, hnext]
          clear he
          by_cases hM0 : M = []
          · rw [hM0] at hje hdT ⊢
            rw [rowS_nil] at hje hdT ⊢
            have n4 : ¬ c4 = e ∧ ¬ e = c4 := by constructor <;> rintro rfl <;> simp [Store.set, h8, h14] at hje
            have n8 : ¬ c8 = e ∧ ¬ e = c8 := by constructor <;> rintro rfl <;> simp [Store.set, h14] at hje
            have n14 : ¬ c14 = e ∧ ¬ e = c14 := by constructor <;> rintro rfl <;> simp [Store.set] at hje
            have ge : S (.r e) = none := by have := hje.2; simpa [Store.set, n4, n8, n14] using this
            simp only [go_sem, lumE]
            refine ⟨_, by rw [join_set]; exact Sub.refl _, hdT.set hje.1 _, fun T' hT' hdT' => ?_⟩
            refine xc_ok (bitB 38942524475571453149370480702712819) _ _ _ ?_
            simp only [go_sem, h8, h14, n4, n8, n14, lumE]
            refine ⟨by rintro el rfl; rfl, own_intro (by simp) fun b2 cc hb2 hcc => ?_⟩
            have hjb := join_none hb2
            have m4 : ¬ c4 = b2 ∧ ¬ b2 = c4 := by constructor <;> rintro rfl <;> simp [Store.set, h8, h14, n4] at hjb
            have m8 : ¬ c8 = b2 ∧ ¬ b2 = c8 := by constructor <;> rintro rfl <;> simp [Store.set, h14, n8] at hjb
            have m14 : ¬ c14 = b2 ∧ ¬ b2 = c14 := by constructor <;> rintro rfl <;> simp [Store.set, n14] at hjb
            have me : ¬ e = b2 ∧ ¬ b2 = e := by constructor <;> rintro rfl <;> simp [Store.set] at hjb
            have gb : S (.r b2) = none := by have := hjb.2; simpa [Store.set, m4, m8, m14, me] using this
            have hcc' : 1 ≤ cc := by simpa using hcc
            have hc1 : 1 + (cc - 1) = cc := by omega
            simp only [go_sem, h8, h14, n4, n8, n14, m4, m8, m14, me]
            have t14 : T' (.r c14) = none := hdT'.at (y := .cells [.nils]) (by simp only [go_sem, n14])
            rw [join_set, join_set]
            have hF := fun x1 x2 => (hdT'.set hjb.1 x1).set t14 x2
            refine ⟨⟨(b2, cc - 1), ⟨m4.2, m4.1⟩, ⟨m8.2, m8.1⟩, ⟨m14.2, m14.1⟩, gb⟩, (fun hS => ⟨Sub.joinD hS (hF _ _), (hF _ _).sub hS⟩ : Sub _ _ → _ ∧ _) ?_⟩
            rw [rowS_ne (by simp)]
            dsimp only
            rw [show [x].length + (cc - 1) = cc from hc1, rowL_one]
            ((try dsimp only); (repeat refine sub_set ?_ ?_) <;> first | ((repeat (first | exact Sub.refl _ | refine Sub.setF ?_ (by first | assumption | simp only [*]) | refine Sub.setV ?_ (by first | assumption | simp only [*]))); done) | (simp only [go_sem, h8, h14, n4, n8, n14, m4, m8, m14, me, ge, gb, lumE, List.length_cons, List.length_nil]; done) | (simp only [go_sem, h8, h14, n4, n8, n14, m4, m8, m14, me, ge, gb, lumE, List.length_cons, List.length_nil]; rfl) | rfl)
          · rw [rowS_ne hM0] at hje hdT ⊢
            dsimp only at hje hdT ⊢
            have n4 : ¬ c4 = e ∧ ¬ e = c4 := by constructor <;> rintro rfl <;> simp [Store.set, h8, h14, z4] at hje
            have n8 : ¬ c8 = e ∧ ¬ e = c8 := by constructor <;> rintro rfl <;> simp [Store.set, h14, z8] at hje
            have n14 : ¬ c14 = e ∧ ¬ e = c14 := by constructor <;> rintro rfl <;> simp [Store.set] at hje
            have n1 : ¬ b1 = e ∧ ¬ e = b1 := by constructor <;> rintro rfl <;> simp [Store.set, z14] at hje
            have ge : S (.r e) = none := by have := hje.2; simpa [Store.set, n4, n8, n14, n1] using this
            have hA := rowL_len M
            simp only [go_sem, lumE]
            refine ⟨_, by rw [join_set]; exact Sub.refl _, hdT.set hje.1 _, fun T' hT' hdT' => ?_⟩
            refine xc_ok (bitB 38942524475571453149370480702712819) _ _ _ ?_
            simp only [go_sem, h8, h14, n4, n8, n14, n1, z4, z8, z14, rowL]
            have t14 : T' (.r c14) = none := hdT'.at (y := .cells [.ms b1 2 0 M.length (M.length + r1)]) (by simp only [go_sem, n14])
            have tb1 : T' (.r b1) = none := hdT'.at (y := rowL M (M.length + r1)) (by simp only [go_sem, n14, n1, z14])
            have hlx : (M ++ [x]).length = M.length + 1 := by rw [List.length_append]; rfl
            have hlA : (flatA (List.map lumE M) ++ List.replicate ((M.length + r1 - M.length) * 2) AV.top).length = (M.length + r1) * 2 := by
              rw [List.length_append, hA, List.length_replicate]; omega
            refine ⟨by rintro el rfl; rfl, by rw [hlA]; omega, rfl, more_two (by omega) (by omega) (fun hin => ⟨by rw [hlA]; omega, ?_⟩) (fun hout b2 cc hb2 hcc => ?_)⟩
            · simp only [go_sem, h8, h14, n4, n8, n14, n1, z4, z8, z14]
              rw [join_set, join_set]
              have hF := fun x1 x2 => (hdT'.set tb1 x1).set t14 x2
              refine ⟨⟨(b1, r1 - 1), z4, z8, z14, zS⟩, (fun hS => ⟨Sub.joinD hS (hF _ _), (hF _ _).sub hS⟩ : Sub _ _ → _ ∧ _) ?_⟩
              rw [rowS_ne (by simp)]
              dsimp only
              have hin' := rowL_in M x (M.length + r1) hin
              simp only [splice, Nat.zero_add] at hin'
              rw [hlx, show M.length + 1 + (r1 - 1) = M.length + r1 by omega, hin']
              ((try dsimp only); (repeat refine sub_set ?_ ?_) <;> first | ((repeat (first | exact Sub.refl _ | refine Sub.setF ?_ (by first | assumption | simp only [*]) | refine Sub.setV ?_ (by first | assumption | simp only [*]))); done) | (simp only [go_sem, h8, h14, n4, n8, n14, n1, z4, z8, z14, ge, zS, lumE]; done) | (simp only [go_sem, h8, h14, n4, n8, n14, n1, z4, z8, z14, ge, zS, lumE]; rfl) | rfl)
            · have hjb := join_none hb2
              have m4 : ¬ c4 = b2 ∧ ¬ b2 = c4 := by constructor <;> rintro rfl <;> simp [Store.set, h8, h14, n4, z4] at hjb
              have m8 : ¬ c8 = b2 ∧ ¬ b2 = c8 := by constructor <;> rintro rfl <;> simp [Store.set, h14, n8, z8] at hjb
              have m14 : ¬ c14 = b2 ∧ ¬ b2 = c14 := by constructor <;> rintro rfl <;> simp [Store.set, n14] at hjb
              have m1 : ¬ b1 = b2 ∧ ¬ b2 = b1 := by constructor <;> rintro rfl <;> simp [Store.set, n1, z14] at hjb
              have me : ¬ e = b2 ∧ ¬ b2 = e := by constructor <;> rintro rfl <;> simp [Store.set] at hjb
              have gb : S (.r b2) = none := by have := hjb.2; simpa [Store.set, m4, m8, m14, m1, me] using this
              simp only [go_sem, h8, h14, n4, n8, n14, n1, z4, z8, z14, m4, m8, m14, m1, me]
              rw [join_set, join_set]
              have hF := fun x1 x2 => (hdT'.set hjb.1 x1).set t14 x2
              refine ⟨⟨(b2, cc - (M.length + 1)), ⟨m4.2, m4.1⟩, ⟨m8.2, m8.1⟩, ⟨m14.2, m14.1⟩, gb⟩, (fun hS => ⟨Sub.joinD hS (hF _ _), (hF _ _).sub hS⟩ : Sub _ _ → _ ∧ _) ?_⟩
              rw [rowS_ne (by simp)]
              dsimp only
              rw [hlx, show M.length + 1 + (cc - (M.length + 1)) = cc by omega, rowL_out M x (M.length + r1) cc]
              ((try dsimp only); (repeat refine sub_set ?_ ?_) <;> first | ((repeat (first | exact Sub.refl _ | refine Sub.setF ?_ (by first | assumption | simp only [*]) | refine Sub.setV ?_ (by first | assumption | simp only [*]))); done) | (simp only [go_sem, h8, h14, n4, n8, n14, n1, z4, z8, z14, m4, m8, m14, m1, me, ge, gb, zS, lumE]; done) | (simp only [go_sem, h8, h14, n4, n8, n14, n1, z4, z8, z14, m4, m8, m14, m1, me, ge, gb, zS, lumE]; rfl) | rfl)
        · rintro ⟨⟨b1, r1⟩, z4, z8, z14, zS⟩ d hd
          dsimp only at z4 z8 z14 zS hd ⊢
          have hjd := join_none hd
          rw [List.take_length] at hjd ⊢
          have db : ¬ b = d ∧ ¬ d = b := by constructor <;> rintro rfl <;> simp [Store.set] at hjd
          obtain ⟨y, hy⟩ : ∃ y : {y : Nat × Nat // (¬ y.1 = c4 ∧ ¬ c4 = y.1) ∧ (¬ y.1 = c8 ∧ ¬ c8 = y.1) ∧ (¬ y.1 = c14 ∧ ¬ c14 = y.1) ∧ (¬ y.1 = d ∧ ¬ d = y.1) ∧ S (.r y.1) = none},
              rowS ((S.set (.r c4) (.cells [i64 0, i64 0, .nils])).set (.r c8) (.cells [i64 k0, i64 (gA l), .nils])) c14 L (b1, r1) = rowS ((S.set (.r c4) (.cells [i64 0, i64 0, .nils])).set (.r c8) (.cells [i64 k0, i64 (gA l), .nils])) c14 L y.1 := by
            by_cases hL0 : L = []
            · refine ⟨⟨(b, 0), hb.2.2.2.1, hb.2.2.1, hb.1, db, yb⟩, ?_⟩
              rw [hL0, rowS_nil, rowS_nil]
            · have d1 : ¬ b1 = d ∧ ¬ d = b1 := by
                rw [rowS_ne hL0] at hjd
                constructor <;> rintro rfl <;> simp [Store.set, z14] at hjd
              exact ⟨⟨(b1, r1), z4, z8, z14, d1, zS⟩, rfl⟩
          rw [hy] at hjd ⊢
          have d14 : ¬ c14 = d ∧ ¬ d = c14 := by
            have := hjd.2
            unfold rowS at this
            constructor <;> rintro rfl <;> (split at this <;> simp [Store.set] at this)
          have hrow : ∀ k, rowS ((S.set (.r c4) (.cells [i64 0, i64 0, .nils])).set (.r c8) (.cells [i64 k0, i64 (gA l), .nils])) c14 L y.1 k = none → ((S.set (.r c4) (.cells [i64 0, i64 0, .nils])).set (.r c8) (.cells [i64 k0, i64 (gA l), .nils])) k = none := by
            intro k hk
            unfold rowS at hk
            split at hk <;> (simp only [Store.set] at hk ⊢; (repeat' split at hk) <;> simp_all)
          have hjd2 := hrow _ hjd.2
          have d4 : ¬ c4 = d ∧ ¬ d = c4 := by constructor <;> rintro rfl <;> simp [Store.set, h8] at hjd2
          have d8 : ¬ c8 = d ∧ ¬ d = c8 := by constructor <;> rintro rfl <;> simp [Store.set] at hjd2
          have gd : S (.r d) = none := by simpa [Store.set, d4, d8] using hjd2
          have hMbig : ∀ i, (L ++ evL (evs.take i)).length ≤ 62915608576 := fun i => by
            have : (evL (evs.take i)).length ≤ evs.length := by unfold evL; rw [List.length_map, List.length_take]; omega
            rw [List.length_append]; omega
          simp only [go_sem]
          refine AWP.iterE (ι := {y : Nat × Nat // (¬ y.1 = c4 ∧ ¬ c4 = y.1) ∧ (¬ y.1 = c8 ∧ ¬ c8 = y.1) ∧ (¬ y.1 = c14 ∧ ¬ c14 = y.1) ∧ (¬ y.1 = d ∧ ¬ d = y.1) ∧ S (.r y.1) = none})
            (fun y i => ⟨Env.get [(4, .sp c4 0), (8, .sp c8 0), (14, .sp c14 0), (94, .p (evsP evs)), (95, i64 evs.length), (96, i64 i)],
              (rowS ((S.set (.r c4) (.cells [i64 0, i64 0, .nils])).set (.r c8) (.cells [i64 k0, i64 (gA l), .nils])) c14 (L ++ evL (evs.take i)) y.1).set (.r d) mark0, 128, [d]⟩) evs.length y ?_ ?_ ?_
          · refine le_of (by simp only [go_sem, evsP, List.length_map] <;> rfl) ?_ rfl rfl (fun r hr => by rw [List.mem_singleton.1 hr, Store.set_same])
            rw [List.take_zero, show L ++ evL [] = L from List.append_nil L]
            exact Sub.both (Sub.joinL (Sub.refl _)) _ _
          · rintro i ⟨⟨b1, r1⟩, z4, z8, z14, zd, zS⟩ hi ih
            dsimp only at z4 z8 z14 zd zS ih ⊢
            have hqi : wi ((i : Int) + 1) = ((i + 1 : Nat) : Int) := wi_succ (show i < 4611686018427387904 by clear h8 h9 h14 hb; omega)
            have hMb := hMbig i
            have hnext : L ++ evL (evs.take (i + 1)) = (L ++ evL (evs.take i)) ++ [((evs[i]).t, (evs[i]).w)] := by
              unfold evL
              rw [List.take_succ_eq_append_getElem hi, List.map_append, List.append_assoc]; rfl
            rw [hnext] at ih
            generalize L ++ evL (evs.take i) = M at *
            refine AWPH.step (xc_ok (bitB 38942524475571453149370480702712819) _ _ _ ?_)
            by_cases hM0 : M = []
            · rw [hM0, List.nil_append] at ih
              rw [hM0, rowS_nil]
              simp only [go_sem, evsP, hi, ltN' hi, getD_map' _ _ _ _ hi, List.length_map]
              refine alloc_intro fun e he => ?_
              simp only [fresh_set] at he
              simp only [go_sem, he, h8, h14, d14]
              refine ⟨by rintro el rfl; rfl, own_intro (by simp) fun b2 cc hb2 hcc => ?_⟩
              simp only [fresh_set] at hb2
              have hcc' : 1 ≤ cc := by simpa using hcc
              have hc1 : 1 + (cc - 1) = cc := by clear h8 h9 h14 hb he hb2; omega
              simp only [go_sem, he, hb2, h8, h14, d14]
              refine (ih ⟨(b2, cc - 1), hb2.2.2.2.2.1, hb2.2.2.2.1, hb2.2.2.1, hb2.2.1, hb2.2.2.2.2.2⟩).back ?_ (fun r hr => by rw [List.mem_singleton.1 hr, Store.set_same]) ?_
              · rw [rowS_ne (by simp)]
                dsimp only
                rw [show [((evs[i]).t, (evs[i]).w)].length + (cc - 1) = cc from hc1, rowL_one]
                ((try dsimp only); (repeat refine sub_set ?_ ?_) <;> first | ((repeat (first | exact Sub.refl _ | refine Sub.setF ?_ (by first | assumption | simp only [*]) | refine Sub.setV ?_ (by first | assumption | simp only [*]))); done) | (simp only [go_sem, he, hb2, h8, h14, d14, d8, d4, lumE, List.length_cons, List.length_nil]; done) | (simp only [go_sem, he, hb2, h8, h14, d14, d8, d4, lumE, List.length_cons, List.length_nil]; rfl) | rfl)
              · simp only [go_sem, evsP, hqi]
            · rw [rowS_ne hM0]
              dsimp only
              have hA := rowL_len M
              have hlA : (flatA (List.map lumE M) ++ List.replicate ((M.length + r1 - M.length) * 2) AV.top).length = (M.length + r1) * 2 := by
                rw [List.length_append, hA, List.length_replicate]; clear h8 h9 h14 hb; omega
              have hlx : (M ++ [((evs[i]).t, (evs[i]).w)]).length = M.length + 1 := by rw [List.length_append]; rfl
              simp only [go_sem, evsP, hi, ltN' hi, getD_map' _ _ _ _ hi, List.length_map]
              refine alloc_intro fun e he => ?_
              simp only [fresh_set] at he
              simp only [go_sem, he, h8, h14, d14, z14, zd, rowL]
              refine ⟨by rintro el rfl; rfl, by rw [hlA]; clear h8 h9 h14 hb he; omega, rfl, more_two (by clear h8 h9 h14 hb he; omega) (by clear h8 h9 h14 hb he; omega) (fun hin => ⟨by rw [hlA]; clear h8 h9 h14 hb he; omega, ?_⟩) (fun hout b2 cc hb2 hcc => ?_)⟩
              · simp only [go_sem, he, h8, h14, d14, z14, zd]
                refine (ih ⟨(b1, r1 - 1), z4, z8, z14, zd, zS⟩).back ?_ (fun r hr => by rw [List.mem_singleton.1 hr, Store.set_same]) ?_
                · rw [rowS_ne (by simp)]
                  dsimp only
                  have hin' := rowL_in M ((evs[i]).t, (evs[i]).w) (M.length + r1) hin
                  simp only [splice, Nat.zero_add] at hin'
                  rw [hlx, show M.length + 1 + (r1 - 1) = M.length + r1 by clear h8 h9 h14 hb he; omega, hin']
                  ((try dsimp only); (repeat refine sub_set ?_ ?_) <;> first | ((repeat (first | exact Sub.refl _ | refine Sub.setF ?_ (by first | assumption | simp only [*]) | refine Sub.setV ?_ (by first | assumption | simp only [*]))); done) | (simp only [go_sem, he, h8, h14, d14, d8, d4, z14, z8, z4, zd, lumE]; done) | (simp only [go_sem, he, h8, h14, d14, d8, d4, z14, z8, z4, zd, lumE]; rfl) | rfl)
                · simp only [go_sem, evsP, hqi]
              · simp only [fresh_set] at hb2
                simp only [go_sem, he, hb2, h8, h14, d14, z14, zd]
                refine (ih ⟨(b2, cc - (M.length + 1)), hb2.2.2.2.2.2.1, hb2.2.2.2.2.1, hb2.2.2.1, hb2.2.1, hb2.2.2.2.2.2.2⟩).back ?_ (fun r hr => by rw [List.mem_singleton.1 hr, Store.set_same]) ?_
                · rw [rowS_ne (by simp)]
                  dsimp only
                  rw [hlx, show M.length + 1 + (cc - (M.length + 1)) = cc by clear h8 h9 h14 hb he hb2; omega, rowL_out M ((evs[i]).t, (evs[i]).w) (M.length + r1) cc]
                  ((try dsimp only); (repeat refine sub_set ?_ ?_) <;> first | ((repeat (first | exact Sub.refl _ | refine Sub.setF ?_ (by first | assumption | simp only [*]) | refine Sub.setV ?_ (by first | assumption | simp only [*]))); done) | (simp only [go_sem, he, hb2, h8, h14, d14, d8, d4, z14, z8, z4, zd, lumE]; done) | (simp only [go_sem, he, hb2, h8, h14, d14, d8, d4, z14, z8, z4, zd, lumE]; rfl) | rfl)
                · simp only [go_sem, evsP, hqi]
          · rintro ⟨⟨b1, r1⟩, z4, z8, z14, zd, zS⟩
            dsimp only at z4 z8 z14 zd zS ⊢
            refine AWPH.step (xc_ok (bitB 38942524475571453149370480702712819) _ _ _ ?_)
            have hMb := hMbig evs.length
            rw [List.take_length] at hMb ⊢
            obtain ⟨M, hM⟩ : ∃ M, L ++ evL evs = M := ⟨_, rfl⟩
            rw [hM] at hMb ⊢
            have hres : ∀ m' : List (Nat × Nat), m'.Perm M → Ord m' → (withV evs l).1 = foldH ⟨k0, gA l, []⟩ m' ∧ ∀ i, (foldH ⟨k0, gA l, []⟩ (m'.take i)).Good := fun m' hp ho => by
              rw [← hM, hLP] at hp
              obtain ⟨a1, a2⟩ := with_any hcm hp ho (gA l)
              rw [hk0] at a1 a2
              refine ⟨?_, a2⟩
              rw [a1, hge]
              obtain ⟨_, _, b3, b4, _⟩ := with_ok hcm
              rw [← hk0, ← b3, ← b4]
            have hok2 : (withV evs l).2 = 0 := (with_ok hcm).1
            rw [hok2]
            by_cases hM0 : M = []
            · rw [hM0, rowS_nil]
              have hr0 := (hres [] (by rw [hM0]) List.Pairwise.nil).1
              rw [hr0]
              simp only [go_sem, h8, h14, d14, List.length_map]
              refine Or.inr (sort_none Tryz.sortLump (enterable_of Tryz.func90 rfl rfl) ?_)
              simp only [go_sem, h8, h14, d14]
              refine ⟨fun r hr => by subst hr; rw [if_pos rfl], ?_⟩
              refine AWP.head (AWPH.step (xc_ok (bitB 38942524475571453149370480702712819) _ _ _ ?_))
              simp only [go_sem, h8, h14, d14, d8, d4]
              change boolK (.p (.bool false)) _
              simp only [go_sem, h8, h14, d14, d8, d4]
              refine ⟨S, Sub.set (Sub.set (Sub.set (Sub.set (Sub.set (Sub.refl _) y4 _) y8 _) y14 _) gd _) y4 _, fun r hr => hr ▸ gd, ?_⟩
              simp [foldH]
            · rw [rowS_ne hM0]
              dsimp only
              simp only [go_sem, h8, h14, d14, z14, zd, List.length_map]
              refine Or.inr (sort_lu M rfl (by simp only [go_sem, h8, h14, d14, z14, zd]) hM0 (by clear h8 h9 h14 hb; omega) fun m' hp ho => ?_)
              obtain ⟨hr1, hr2⟩ := hres m' hp ho
              rw [hr1]
              have hl' := hp.length_eq
              simp only [go_sem, h8, h14, d14, z14, zd]
              refine ⟨fun r hr => by subst hr; rw [if_neg zd.2, if_pos rfl], ?_⟩
              have hmw : ∀ x ∈ m', x.2 < 18446744073709551616 := fun x hx => by
                have := (came_lumps hcm)
                rw [← hLP, hM] at this
                have h2 := (sumW_perm hp)
                have h3 : x.2 ≤ sumW m' := sumW_mem x hx
                have h5 := hcm.tot
                clear h8 h9 h14 hb; omega
              obtain ⟨F, hF⟩ : ∃ F : Nat → Hist, (fun i => foldH ⟨k0, gA l, []⟩ (m'.take i)) = F := ⟨_, rfl⟩
              have hFi : ∀ i, foldH ⟨k0, gA l, []⟩ (m'.take i) = F i := fun i => by rw [← hF]
              have hFs : ∀ i (h : i < m'.length), F (i + 1) = (addH (F i) (m'[i]).1 (m'[i]).2).1 := fun i h => by
                rw [← hFi, ← hFi, List.take_succ_eq_append_getElem h, foldH_snoc]
              have hFk : ∀ i, i ≤ m'.length → (F i).Good := fun i _ => by rw [← hFi]; exact hr2 i
              have hF0 : F 0 = ⟨k0, gA l, []⟩ := by rw [← hFi]; rfl
              refine AWP.iter (fun i => ⟨Env.get [(4, .sp c4 0), (8, .sp c8 0), (111, .ms b1 2 0 M.length (M.length + r1)), (112, i64 m'.length), (113, i64 i)],
                (((S.set (.r c4) (.cells [i64 0, i64 0, .nils])).set (.r c8) (.cells [i64 (F i).k, i64 (F i).g, if i = 0 then .nils else .p (.sl ((F i).ls.map lvE))])).set (.r b1) (rowL m' (M.length + r1))).set (.r d) mark0, 128, [d]⟩) m'.length ?_ ?_ ?_
              · refine le_of (by simp only [go_sem, hl'] <;> rfl) ?_ rfl rfl (fun r hr => by rw [List.mem_singleton.1 hr, Store.set_same])
                rw [hF0]
                ((try dsimp only); (repeat refine sub_set ?_ ?_) <;> first | ((repeat (first | exact Sub.refl _ | refine Sub.setF ?_ (by first | assumption | simp only [*]) | refine Sub.setV ?_ (by first | assumption | simp only [*]))); done) | (simp only [go_sem, h8, h14, d14, d8, d4, z14, z8, z4, zd]; done) | (simp only [go_sem, h8, h14, d14, d8, d4, z14, z8, z4, zd]; rfl) | rfl)
              · intro i hi ih
                have hqi : wi ((i : Int) + 1) = ((i + 1 : Nat) : Int) := wi_succ (show i < 4611686018427387904 by clear h8 h9 h14 hb; omega)
                refine AWPH.step (xc_ok (bitB 38942524475571453149370480702712819) _ _ _ ?_)
                have hA := rowL_len m'
                have hfa := flat_at m' i hi (List.replicate ((M.length + r1 - m'.length) * 2) AV.top)
                simp only [go_sem, h8, h14, d14, d8, d4, z14, z8, z4, zd, hi, ltN' hi, rowL]
                refine ⟨by clear h8 h9 h14 hb; omega, by rw [List.length_append, hA]; clear h8 h9 h14 hb; omega, alloc_intro fun e he => ?_⟩
                simp only [fresh_set] at he
                have hcall := hist_addH (F i) (hFk i (Nat.le_of_lt hi)).ok (m'[i]).1 (m'[i]).2 (hmw _ (List.getElem_mem hi))
                have hi1 : (i + 1 = 0) = False := by simp
                by_cases hi0 : i = 0
                · subst hi0
                  rw [hF0] at hcall
                  rw [Nat.zero_mul, List.drop_zero] at hfa
                  simp only [go_sem, he, hfa, hF0, h8, h14, d14, d8, d4, z14, z8, z4, zd, if_true]
                  refine hcall.useA ?_
                  have hF1 : (addH ⟨k0, gA l, []⟩ (m'[0]).1 (m'[0]).2).1 = F (0 + 1) := by rw [hFs 0 hi, hF0]
                  rw [hF1]
                  simp only [go_sem, he, h8, h14, d14, d8, d4, z14, z8, z4, zd]
                  refine ⟨fun r hr => by subst hr; rw [if_neg he.1.2, if_pos rfl], ?_⟩
                  refine ih.back ?_ (fun r hr => by rw [List.mem_singleton.1 hr, Store.set_same]) ?_
                  · ((try dsimp only); (repeat refine sub_set ?_ ?_) <;> first | ((repeat (first | exact Sub.refl _ | refine Sub.setF ?_ (by first | assumption | simp only [*]) | refine Sub.setV ?_ (by first | assumption | simp only [*]))); done) | (simp only [go_sem, he, h8, h14, d14, d8, d4, z14, z8, z4, zd, hi1, if_false, rowL]; done) | (simp only [go_sem, he, h8, h14, d14, d8, d4, z14, z8, z4, zd, hi1, if_false, rowL]; rfl) | rfl)
                  · simp only [go_sem, hqi]
                · simp only [go_sem, he, hfa, h8, h14, d14, d8, d4, z14, z8, z4, zd, hi0, if_false]
                  refine hcall.useA ?_
                  rw [← hFs i hi]
                  simp only [go_sem, he, h8, h14, d14, d8, d4, z14, z8, z4, zd]
                  refine ⟨fun r hr => by subst hr; rw [if_neg he.1.2, if_pos rfl], ?_⟩
                  refine ih.back ?_ (fun r hr => by rw [List.mem_singleton.1 hr, Store.set_same]) ?_
                  · ((try dsimp only); (repeat refine sub_set ?_ ?_) <;> first | ((repeat (first | exact Sub.refl _ | refine Sub.setF ?_ (by first | assumption | simp only [*]) | refine Sub.setV ?_ (by first | assumption | simp only [*]))); done) | (simp only [go_sem, he, h8, h14, d14, d8, d4, z14, z8, z4, zd, hi1, if_false, rowL]; done) | (simp only [go_sem, he, h8, h14, d14, d8, d4, z14, z8, z4, zd, hi1, if_false, rowL]; rfl) | rfl)
                  · simp only [go_sem, hqi]
              · refine AWPH.step (xc_ok (bitB 38942524475571453149370480702712819) _ _ _ ?_)
                have hm0 : m'.length ≠ 0 := fun h => hM0 (List.eq_nil_of_length_eq_zero (by rw [← hl', h]))
                simp only [go_sem, h8, h14, d14, d8, d4, z14, z8, z4, zd, hm0, if_false]
                have hFl : foldH ⟨k0, gA l, []⟩ m' = F m'.length := by rw [← hFi, List.take_length]
                refine ⟨S, Sub.set (Sub.set (Sub.set (Sub.set (Sub.set (Sub.refl _) y4 _) y8 _) zS _) gd _) y4 _, fun r hr => hr ▸ gd, ?_⟩
                rw [hFl]
                exact Or.inr ⟨rfl, rfl⟩
        · intro e E' d _ h; exact h.elim
end Go.Sk
end

-- W14d
section
namespace Go.Sk
open Go Go.Proofs

theorem Hist.Ok.lo {h : Hist} (g : h.Good) : h.Lo := g.lo
set_option maxHeartbeats 1000000 in
set_option maxRecDepth 4000 in
theorem ref14_pass (s : Skt) (b : Buf) (out : List Event) (hp : Pre s out) : Pure Tryz.prog 100 [(Skt.mk s.win b s.past).av, .p (evsP out)] (passK s b out).av := fun S => by
  have hn := hp.len
  refine callR_of Tryz.func100 rfl rfl (xc_ok (bitB 2167) _ _ _ ?_)
  simp only [go_sem]
  refine alloc_intro fun c2 h2 => ?_
  simp only [go_sem]
  refine alloc_intro fun c4 h4 => ?_
  simp only [fresh_set] at h4
  simp only [go_sem, h4]
  have y2 : S (.r c2) = none := h2
  have y4 : S (.r c4) = none := h4.2
  have n42 : ¬ c4 = c2 ∧ ¬ c2 = c4 := h4.1
  refine AWP.iter (fun i => ⟨Env.get [(1, .p (evsP out)), (2, .sp c2 0), (4, .sp c4 0), (5, i64 i)], (S.set (.r c2) (.cells [u64 s.win, u64 b.late, i64 b.room, u64 b.mark, u64 b.front, .p (.sl (b.evs.map Event.pv)), i64 (passV s.past (out.take i)).k, i64 (passV s.past (out.take i)).g, .p (.sl ((passV s.past (out.take i)).ls.map lvE))])).set (.r c4) (.cells [u64 0, u64 0, i64 0, u64 0, u64 0, .nils, i64 0, i64 0, .nils]), 42, []⟩) out.length ?_ ?_ ?_
  · refine le_of (by simp only [go_sem] <;> simp) ?_ rfl rfl (by simp)
    have h0 : passV s.past [] = s.past := rfl
    ((try dsimp only); (repeat refine sub_set ?_ ?_) <;> first | ((repeat (first | exact Sub.refl _ | refine Sub.setF ?_ (by first | assumption | simp only [*]) | refine Sub.setV ?_ (by first | assumption | simp only [*]))); done) | (simp only [go_sem, n42, List.take_zero, h0]; done) | (simp only [go_sem, n42, List.take_zero, h0]; rfl) | rfl)
  · intro i hi ih
    have hgo := hp.good i (by omega)
    refine AWPH.step (xc_ok (bitB 2167) _ _ _ ?_)
    simp only [go_sem, evsP, hi, ltN' hi, List.length_map]
    refine AWP.draw2 (bitB 2167) mixed (by kernel_rfl) (fun j => .tuple [(addH (passV s.past (out.take i)) (out[i]).t (out[i]).w).1.av, i64 (addH (passV s.past (out.take i)) (out[i]).t (out[i]).w).2]) ?_
    simp only [go_sem, evsP, n42, hi, ltN' hi, getD_map' _ _ _ _ hi]
    refine ⟨(ref06_addH (passV s.past (out.take i)) hgo.ok (out[i]).t (out[i]).w (hp.w _ (List.getElem_mem hi))).draw, alloc_intro fun c6 h6 => ?_⟩
    simp only [fresh_set] at h6
    have hs := passV_snoc s.past out i hi
    rw [← hs]
    simp only [go_sem, n42, h6]
    refine ih.back ?_ (by simp) ?_
    · ((try dsimp only); (repeat refine sub_set ?_ ?_) <;> first | ((repeat (first | exact Sub.refl _ | refine Sub.setF ?_ (by first | assumption | simp only [*]) | refine Sub.setV ?_ (by first | assumption | simp only [*]))); done) | (simp only [go_sem, n42, h6]; done) | (simp only [go_sem, n42, h6]; rfl) | rfl)
    · simp only [go_sem, evsP, wi_succ (show i < 4611686018427387904 by omega)]
  · refine AWPH.step (xc_ok (bitB 2167) _ _ _ ?_)
    have hfin := hp.good out.length (Nat.le_refl _)
    have htd := hp.tidy
    rw [List.take_length] at hfin
    have hD := ref07_Drop (passV s.past out).k (passV s.past out).g (passV s.past out).ls b.front s.win hfin.lo.1 hfin.lo.2
    rw [docD_eq (oldV_anti b.front s.win) htd hfin.ne] at hD
    simp only [go_sem, evsP, n42, List.length_map, List.take_length]
    refine hD.useA ?_
    simp only [go_sem, n42]
    refine ⟨S, ?_, ?_⟩
    · repeat' first
        | exact Sub.refl _
        | refine Sub.set ?_ (by assumption) _
    · simp [passK, dropH]
theorem ref14_heavy (a c : Nat) (ha : a ≤ 4503599627370496) : Pure Tryz.prog 140 [u64 a, u64 c] (bl (decide (4503599627370496 < a + c))) := fun S => by
  refine callR_of Tryz.func140 rfl rfl (xc_ok (bitB 19) _ _ _ ?_)
  simp only [go_sem]
  by_cases q1 : 4503599627370496 < c
  · simp only [go_sem, q1]
    (refine ⟨S, by (repeat (first | exact Sub.refl _ | refine Sub.setF ?_ (by first | assumption | simp only [*]) | refine Sub.setV ?_ (by first | assumption | simp only [*]))), ?_⟩); simp; omega
  · have hm : m64 (a + c) = a + c := m64_id (by omega)
    simp only [go_sem, q1, hm]
    (refine ⟨S, by (repeat (first | exact Sub.refl _ | refine Sub.setF ?_ (by first | assumption | simp only [*]) | refine Sub.setV ?_ (by first | assumption | simp only [*]))), ?_⟩); simp
set_option maxHeartbeats 1000000 in
set_option maxRecDepth 4000 in
theorem ref14_Add (s : Skt) (hg : s.Good) (e : Event) (he : e.Ok) : Pure Tryz.prog 78 [s.av, e.av] (.tuple [(addK s e).1.av, i64 (addK s e).2]) := fun S => by
  obtain ⟨hz, hn⟩ := hg.sz
  obtain ⟨w1, w2⟩ := hg.wt
  have htot := hg.tot
  refine callR_of Tryz.func78 rfl rfl (xc_ok (bitB 1074004479) _ _ _ ?_)
  simp only [go_sem]
  refine alloc_intro fun c2 h2 => ?_
  simp only [go_sem]
  refine alloc_intro fun c3 h3 => ?_
  simp only [fresh_set] at h3
  simp only [go_sem, h3]
  refine alloc_intro fun c4 h4 => ?_
  simp only [fresh_set] at h4
  simp only [go_sem, h3, h4]
  refine (ref12_Push s.b hz hn hg.sr e).useA ?_
  have hpre := push_pre hg e
  have hres : addK s e = if (pushB s.b e).2 = 0 then (if 4503599627370496 < totN 0 s.past.ls + sumE Event.w s.b.evs + e.w then (zeroK, 5) else (passK s (pushB s.b e).1.1 (pushB s.b e).1.2, 0)) else (zeroK, (pushB s.b e).2) := rfl
  rw [hres]
  generalize pushB s.b e = R at *
  obtain ⟨⟨b', out⟩, bad⟩ := R
  dsimp only at hpre ⊢
  simp only [go_sem, h3, h4]
  refine alloc_intro fun c6 h6 => ?_
  simp only [fresh_set] at h6
  have y2 : S (.r c2) = none := h2
  have y3 : S (.r c3) = none := h3.2
  have y4 : S (.r c4) = none := h4.2.2
  have y6 : S (.r c6) = none := h6.2.2.2
  by_cases h0 : bad = 0
  rotate_left
  · have h0b : (bad != 0) = true := by simpa using h0
    simp only [go_sem, h3, h4, h6, h0b]
    refine ⟨S, ?_, ?_⟩
    · repeat' first
        | exact Sub.refl _
        | refine Sub.set ?_ (by assumption) _
    · rw [if_neg h0]; simp [zeroK, zeroB, zeroH]
  have h0b : (bad != 0) = false := by simpa using h0
  simp only [go_sem, h3, h4, h6, h0b]
  have hT := ref06_Total s.past.k s.past.g s.past.ls (by have := hg.pg.len; omega)
  have hW := ref12_Weight s.b (by omega)
  rw [w1] at hT
  rw [w2] at hW
  have hH := ref14_heavy (totN 0 s.past.ls + sumE Event.w s.b.evs) e.w htot
  have hm : m64 (totN 0 s.past.ls + sumE Event.w s.b.evs) = totN 0 s.past.ls + sumE Event.w s.b.evs := m64_id (by omega)
  by_cases hh : 4503599627370496 < totN 0 s.past.ls + sumE Event.w s.b.evs + e.w
  · rw [decide_eq_true hh] at hH
    refine AWP.draw2 (bitB 1074004479) mixed (by kernel_rfl) (fun j => if j = 2 then u64 (totN 0 s.past.ls) else if j = 5 then u64 (sumE Event.w s.b.evs) else bl true) ?_
    simp only [go_sem, h3, h4, h6, hm]
    refine ⟨hT.draw, hW.draw, hH.draw, S, ?_, ?_⟩
    · repeat' first
        | exact Sub.refl _
        | refine Sub.set ?_ (by assumption) _
    · rw [if_pos h0, if_pos hh]; simp [zeroK, zeroB, zeroH]
  · rw [decide_eq_false hh] at hH
    have hp := hpre h0 hh
    refine AWP.draw2 (bitB 1074004479) mixed (by kernel_rfl) (fun j => if j = 2 then u64 (totN 0 s.past.ls) else if j = 5 then u64 (sumE Event.w s.b.evs) else bl false) ?_
    simp only [go_sem, h3, h4, h6, hm]
    refine ⟨hT.draw, hW.draw, hH.draw, ?_⟩
    refine (ref14_pass s b' out hp).useA ?_
    simp only [go_sem, h3, h4, h6]
    refine ⟨S, ?_, ?_⟩
    · repeat' first
        | exact Sub.refl _
        | refine Sub.set ?_ (by assumption) _
    · rw [if_pos h0, if_neg hh]; simp
set_option maxHeartbeats 1000000 in
set_option maxRecDepth 4000 in
theorem ref14_MoveP (s : Skt) (hz : s.b.Sz) (hsr : Srt s.b.evs) (t : Nat) (hpre : (moveB s.b t).2 = 0 → Pre s (moveB s.b t).1.2) : Pure Tryz.prog 38 [s.av, u64 t] (.tuple [(moveK s t).1.av, i64 (moveK s t).2]) := fun S => by
  refine callR_of Tryz.func38 rfl rfl (xc_ok (bitB 262647) _ _ _ ?_)
  simp only [go_sem]
  refine alloc_intro fun c2 h2 => ?_
  simp only [go_sem]
  refine alloc_intro fun c4 h4 => ?_
  simp only [fresh_set] at h4
  simp only [go_sem, h4]
  refine (ref12_Move s.b hz hsr t).useA ?_
  have hres : moveK s t = if (moveB s.b t).2 = 0 then (passK s (moveB s.b t).1.1 (moveB s.b t).1.2, 0) else (zeroK, (moveB s.b t).2) := rfl
  rw [hres]
  generalize moveB s.b t = R at *
  obtain ⟨⟨b', out⟩, bad⟩ := R
  dsimp only at hpre ⊢
  simp only [go_sem, h4]
  refine alloc_intro fun c6 h6 => ?_
  simp only [fresh_set] at h6
  have y2 : S (.r c2) = none := h2
  have y4 : S (.r c4) = none := h4.2
  have y6 : S (.r c6) = none := h6.2.2
  by_cases h0 : bad = 0
  rotate_left
  · have h0b : (bad != 0) = true := by simpa using h0
    simp only [go_sem, h4, h6, h0b]
    refine ⟨S, ?_, ?_⟩
    · repeat' first
        | exact Sub.refl _
        | refine Sub.set ?_ (by assumption) _
    · rw [if_neg h0]; simp [zeroK, zeroB, zeroH]
  have h0b : (bad != 0) = false := by simpa using h0
  have hp := hpre h0
  simp only [go_sem, h4, h6, h0b]
  refine (ref14_pass s b' out hp).useA ?_
  simp only [go_sem, h4, h6]
  refine ⟨S, ?_, ?_⟩
  · repeat' first
      | exact Sub.refl _
      | refine Sub.set ?_ (by assumption) _
  · rw [if_pos h0]; simp
theorem ref14_Move (s : Skt) (hg : s.Good) (t : Nat) : Pure Tryz.prog 38 [s.av, u64 t] (.tuple [(moveK s t).1.av, i64 (moveK s t).2]) := ref14_MoveP s hg.sz.1 hg.sr t (move_pre hg t)
theorem ref14_One (s : Skt) (hg : s.Good) (e : Event) (he : e.Ok) : Pure Tryz.prog 27 [s.av, e.av] (.tuple [(oneK s e).1.av, i64 (oneK s e).2]) := fun S => by
  refine callR_of Tryz.func27 rfl rfl (xc_ok (bitB 319) _ _ _ ?_)
  simp only [go_sem]
  refine alloc_intro fun c2 h2 => ?_
  simp only [go_sem]
  refine alloc_intro fun c3 h3 => ?_
  simp only [fresh_set] at h3
  simp only [go_sem, h3]
  refine alloc_intro fun c4 h4 => ?_
  simp only [fresh_set] at h4
  have y2 : S (.r c2) = none := h2
  have y3 : S (.r c3) = none := h3.2
  have y4 : S (.r c4) = none := h4.2.2
  by_cases c : e.w = 0
  · have g : (e.w == 0) = true := by simpa using c
    have h1 : oneK s e = moveK s e.t := by unfold oneK; rw [if_pos c]
    rw [h1]
    simp only [go_sem, h3, h4, g]
    refine (ref14_Move s hg e.t).useA ?_
    simp only [go_sem, h3, h4]
    refine ⟨S, ?_, ?_⟩
    · repeat' first
        | exact Sub.refl _
        | refine Sub.set ?_ (by assumption) _
    · simp
  · have g : (e.w == 0) = false := by simpa using c
    have h1 : oneK s e = addK s e := by unfold oneK; rw [if_neg c]
    rw [h1]
    simp only [go_sem, h3, h4, g]
    refine (ref14_Add s hg e he).useA ?_
    simp only [go_sem, h3, h4]
    refine ⟨S, ?_, ?_⟩
    · repeat' first
        | exact Sub.refl _
        | refine Sub.set ?_ (by assumption) _
    · simp
end Go.Sk
end

-- W14e
section
namespace Go.Sk
open Go Go.Proofs

set_option maxHeartbeats 2000000 in
set_option maxRecDepth 8000 in
theorem ref14_Made (k : Int) (n0 n1 : Nat) (l : List Event) (hk0 : -9223372036854775808 ≤ k) (hk : k < 9223372036854775808) (b0 : n0 < 18446744073709551616) (b1 : n1 < 18446744073709551616) (hl : l.length < 1099511627776) (ho : ∀ e ∈ l, e.Ok) :
    Pure Tryz.prog 8 [i64 k, u64 n0, u64 n1, .p (evsP l)] (.tuple [(madeK k n0 n1 l).1.av, .p (evsP (madeK k n0 n1 l).2)]) := fun S => by
  refine callR_of Tryz.func8 rfl rfl (xc_ok (bitB 289356344778063631) _ _ _ ?_)
  simp only [go_sem, evsP]
  refine alloc_intro fun c8 h8 => ?_
  simp only [go_sem]
  have q1 : wi (max k 0 % 30) = max k 0 % 30 := wi_id (by omega) (by omega)
  have q2 : wi (2 + max k 0 % 30) = 2 + max k 0 % 30 := wi_id (by omega) (by omega)
  have q3 : m64 (1 + n0 % 1000) = 1 + n0 % 1000 := m64_id (by omega)
  have q4 : wi ((n1 % 7 : Nat) : Int) = ((n1 % 7 : Nat) : Int) := wi_id (by omega) (by omega)
  have q5 : wi (1 + ((n1 % 7 : Nat) : Int)) = 1 + ((n1 % 7 : Nat) : Int) := wi_id (by omega) (by omega)
  have q0 : (if (0 : Int) > k then 0 else k).tmod 30 = max k 0 % 30 := by
    have : (if (0 : Int) > k then 0 else k) = max k 0 := by split <;> omega
    rw [this, Int.tmod_eq_emod_of_nonneg (by omega)]
  simp only [go_sem, q0, q1, q2, q3]
  refine ⟨by decide, ?_⟩
  have hN := ref14_New (2 + max k 0 % 30) (1 + n0 % 1000) (n1 % 100) (1 + (n1 % 7 : Nat))
  simp only [go_sem, q0, q1, q2, q3, q4, q5]
  refine hN.useA ?_
  simp only [go_sem, q0, q1, q2, q3, q4, q5]
  refine alloc_intro fun c10 h10 => ?_
  simp only [fresh_set] at h10
  simp only [go_sem, h10]
  have y8 : S (.r c8) = none := h8
  have y10 : S (.r c10) = none := h10.2
  have hnew := (newK_good (k := 2 + max k 0 % 30) (win := 1 + n0 % 1000) (late := n1 % 100) (room := 1 + (n1 % 7 : Nat)) (by omega) (by omega) (by omega) (by omega) (by omega) (by omega) (by omega)).1
  have hm0 : madeKo ((l.take 30).drop 0) (newK (2 + max k 0 % 30) (1 + n0 % 1000) (n1 % 100) (1 + (n1 % 7 : Nat))) [] = madeK k n0 n1 l := by rw [List.drop_zero]; rfl
  generalize newK (2 + max k 0 % 30) (1 + n0 % 1000) (n1 % 100) (1 + (n1 % 7 : Nat)) = s0 at hN hnew hm0 ⊢
  clear hN q0 q1 q2 q3 q4 q5
  refine AWP.tip0 11 3 (by simp only [go_sem]) fun v hv => ?_
  simp only [freshv_setr] at hv
  simp only [go_sem]
  refine AWP.roam (ι := Nat × Skt × List Event × Option Nat) (fun y => y.1 ≤ l.length ∧ y.1 ≤ 30 ∧ y.2.1.Good ∧ y.2.2.1.length ≤ y.1 ∧ madeKo ((l.take 30).drop y.1) y.2.1 y.2.2.1 = madeK k n0 n1 l)
    (fun y => ⟨Env.get [(3, .p (evsP l)), (8, .sp c8 0), (10, .sp c10 0), (11, .ts v 3 y.2.2.2 (y.2.2.1.map Event.pv)), (12, i64 y.1)],
      ((S.set (.r c8) (.cells [u64 0, u64 0, i64 0, u64 0, u64 0, .nils, i64 0, i64 0, .nils])).set (.r c10) (.cells [u64 y.2.1.win, u64 y.2.1.b.late, i64 y.2.1.b.room, u64 y.2.1.b.mark, u64 y.2.1.b.front, .p (.sl (y.2.1.b.evs.map Event.pv)), i64 y.2.1.past.k, i64 y.2.1.past.g, .p (.sl (y.2.1.past.ls.map lvE))])).set (.v v) (.tip 3 y.2.2.1.length y.2.2.2), 69, []⟩)
    (fun y => l.length - y.1) (0, s0, [], none) ⟨Nat.zero_le _, Nat.zero_le _, hnew, Nat.le_refl _, hm0⟩ ?_ ?_
  · refine le_of (by simp only [go_sem, evsP] <;> rfl) ?_ rfl rfl (by simp)
    ((try dsimp only); (repeat refine sub_set ?_ ?_) <;> first | ((repeat (first | exact Sub.refl _ | refine Sub.setF ?_ (by first | assumption | simp only [*]) | refine Sub.setV ?_ (by first | assumption | simp only [*]))); done) | (simp only [go_sem, h10, hv, List.map_nil, List.length_nil]; done) | (simp only [go_sem, h10, hv, List.map_nil, List.length_nil]; rfl) | rfl)
  rintro ⟨i, s, all, loc⟩ ⟨hi, hi2, hg, hall, hm⟩ ih
  dsimp only at hi hi2 hg hall hm ⊢
  refine AWPH.step (xc_ok (bitB 289356344778063631) _ _ _ ?_)
  have hlen2 : (l.take 30).length = min 30 l.length := List.length_take
  have stop : ¬ (i < l.length ∧ i < 30) → (s, all) = madeK k n0 n1 l := by
    intro hc
    rw [List.drop_of_length_le (by rw [hlen2]; clear h10; omega)] at hm
    exact hm
  by_cases c1 : i < l.length
  rotate_left
  · simp only [go_sem, c1, h10, evsP, List.length_map]
    have := stop (fun h => c1 h.1)
    refine ⟨S, ?_, ?_⟩
    · repeat' first | exact Sub.refl _ | refine Sub.set ?_ (by assumption) _
    · rw [← this]; simp
  by_cases c2' : (i : Int) < 30
  rotate_left
  · simp only [go_sem, c1, c2', h10, evsP, List.length_map]
    have := stop (fun h => c2' (by clear h10; omega))
    refine ⟨S, ?_, ?_⟩
    · repeat' first | exact Sub.refl _ | refine Sub.set ?_ (by assumption) _
    · rw [← this]; simp
  have hok : (l[i]).Ok := ho _ (List.getElem_mem c1)
  have hq : wi ((i : Int) + 1) = ((i + 1 : Nat) : Int) := wi_succ (show i < 4611686018427387904 by clear h10; omega)
  simp only [go_sem, c1, c2', h10, evsP, ltN' c1, getD_map' _ _ _ _ c1, List.length_map]
  refine AWP.draw2 (bitB 289356344778063631) mixed (by kernel_rfl) (fun j => .tuple [(oneK s (l[i])).1.av, i64 (oneK s (l[i])).2]) ?_
  simp only [go_sem, c1, h10, evsP, ltN' c1, getD_map' _ _ _ _ c1]
  refine ⟨(ref14_One s hg (l[i]) hok).draw, ?_⟩
  have hdrop : (l.take 30).drop i = l[i] :: (l.take 30).drop (i + 1) := by
    rw [List.drop_eq_getElem_cons (by rw [hlen2]; clear h10; omega)]
    congr 1
    rw [List.getElem_take]
  rw [hdrop] at hm
  unfold madeKo at hm
  have hgd := oneK_ok hg (l[i])
  generalize oneK s (l[i]) = X at *
  refine alloc_intro fun c13 h13 => ?_
  simp only [fresh_set, fresh_setv] at h13
  by_cases ex : X.2 = 0
  rotate_left
  · have exb : (X.2 == 0) = false := by simpa using ex
    rw [if_neg ex] at hm
    simp only [go_sem, exb, h10, h13, hv]
    refine (ih (i + 1, s, all, loc) ⟨c1, by dsimp only; clear h10 h13; omega, hg, by dsimp only; clear h10 h13; omega, hm⟩ (by dsimp only; clear h10 h13; omega)).back ?_ (by simp) ?_
    · ((try dsimp only); (repeat refine sub_set ?_ ?_) <;> first | ((repeat (first | exact Sub.refl _ | refine Sub.setF ?_ (by first | assumption | simp only [*]) | refine Sub.setV ?_ (by first | assumption | simp only [*]))); done) | (simp only [go_sem, h10, h13, hv]; done) | (simp only [go_sem, h10, h13, hv]; rfl) | rfl)
    · simp only [go_sem, hq, evsP]
  have exb : (X.2 == 0) = true := by simpa using ex
  rw [if_pos ex] at hm
  simp only [go_sem, exb, h10, h13, hv, ltN' c1, getD_map' _ _ _ _ c1]
  by_cases ew : 0 < (l[i]).w
  rotate_left
  · rw [if_neg ew] at hm
    simp only [go_sem, ew, h10, h13, hv]
    refine (ih (i + 1, X.1, all, loc) ⟨c1, by dsimp only; clear h10 h13; omega, (hgd ex).1, by dsimp only; clear h10 h13; omega, hm⟩ (by dsimp only; clear h10 h13; omega)).back ?_ (by simp) ?_
    · ((try dsimp only); (repeat refine sub_set ?_ ?_) <;> first | ((repeat (first | exact Sub.refl _ | refine Sub.setF ?_ (by first | assumption | simp only [*]) | refine Sub.setV ?_ (by first | assumption | simp only [*]))); done) | (simp only [go_sem, h10, h13, hv]; done) | (simp only [go_sem, h10, h13, hv]; rfl) | rfl)
    · simp only [go_sem, hq, evsP]
  rw [if_pos ew] at hm
  simp only [go_sem, ew, h10, h13, hv, ltN' c1, getD_map' _ _ _ _ c1]
  have e5 : List.map Event.pv all ++ [[.int .u64 (l[i]).t, .int .u64 (l[i]).k, .int .u64 (l[i]).w]] = List.map Event.pv (all ++ [l[i]]) := by rw [List.map_append]; rfl
  refine ⟨by rintro el rfl; rfl, evn_len, by clear h10 h13; omega, by clear h10 h13; omega, grow_intro fun loc' => ?_⟩
  simp only [go_sem, h10, h13, hv, e5, hq]
  refine (ih (i + 1, X.1, all ++ [l[i]], loc') ⟨c1, by dsimp only; clear h10 h13; omega, (hgd ex).1, by simp; clear h10 h13; omega, hm⟩ (by dsimp only; clear h10 h13; omega)).back ?_ (by simp) ?_
  · ((try dsimp only); (repeat refine sub_set ?_ ?_) <;> first | ((repeat (first | exact Sub.refl _ | refine Sub.setF ?_ (by first | assumption | simp only [*]) | refine Sub.setV ?_ (by first | assumption | simp only [*]))); done) | (simp only [go_sem, h10, h13, hv, List.length_map, e5]; done) | (simp only [go_sem, h10, h13, hv, List.length_map, e5]; rfl) | rfl)
  · simp only [go_sem, hq, evsP, e5]
end Go.Sk
end

-- W14f
section
namespace Go.Sk
open Go Go.Proofs

def s14 : Skt := ⟨10, ⟨2, 9, 5, 3, [⟨5, 0, 3⟩]⟩, ⟨2, 0, []⟩⟩
theorem push14 : pushB ⟨2, 9, 0, 0, []⟩ ⟨5, 0, 3⟩ = ((⟨2, 9, 5, 3, [⟨5, 0, 3⟩]⟩, []), 0) := by
  have h : settleN 9 [⟨5, 0, 3⟩] 3 = (3, 0) := by rw [settleN_end (by decide)]; rfl
  unfold pushB
  rw [if_neg (by decide), if_neg (by decide), if_neg (by decide)]
  unfold settleB
  show ((Buf.mk _ _ _ (settleN 9 [⟨5, 0, 3⟩] 3).1 (List.drop (settleN 9 [⟨5, 0, 3⟩] 3).2 _), List.take (settleN 9 [⟨5, 0, 3⟩] 3).2 _), (0 : Int)) = _
  rw [h]; rfl
theorem add14 : addK (newK 2 10 2 9) ⟨5, 0, 3⟩ = (s14, 0) := by
  unfold addK newK
  dsimp only
  rw [push14, if_pos rfl, if_neg (by decide)]
  rfl
theorem qa14 : queryK s14 5 10 = (3, 0) := by
  have h1 : estV ([] : List (List Span)) 5 10 = 0 := by
    show m64 (0 + 0 / 2) = 0
    exact m64_id (by decide)
  have h2 : spanV [⟨5, 0, 3⟩] 5 10 = 3 := by
    show (if withinV 5 10 ⟨5, 0, 3⟩ = true then m64 (0 + 3) else 0) = 3
    rw [if_pos (by unfold withinV; decide), m64_id (by decide)]
  unfold queryK s14
  dsimp only
  rw [if_neg (by decide), if_neg (by decide), h1, h2, m64_id (by decide)]
theorem qb14 : queryK s14 2 10 = (0, 6) := by
  unfold queryK
  rw [if_pos (by decide)]
theorem g14 : (newK 2 10 2 9).Good := (newK_good (by decide) (by decide) (by decide) (by decide) (by decide) (by decide) (by decide)).1
theorem gs14 : s14.Good := by
  have h : (oneK (newK 2 10 2 9) ⟨5, 0, 3⟩) = (s14, 0) := by unfold oneK; rw [if_neg (by decide)]; exact add14
  have := (oneK_ok g14 ⟨5, 0, 3⟩ (by rw [h])).1
  rw [h] at this; exact this
set_option maxHeartbeats 1000000 in
set_option maxRecDepth 8000 in
theorem awake14 : Pure Tryz.prog 7 [] (bl true) := fun S => by
  have hN := count_New 2 10 2 9
  have hc : confK 2 10 2 9 = true := by decide
  rw [hc] at hN
  simp only [if_true] at hN
  have hA := count_Add (newK 2 10 2 9) g14 ⟨5, 0, 3⟩ ⟨by decide, by decide, by decide⟩
  rw [add14] at hA
  have hQ := count_Query s14 gs14 5 10
  rw [qa14] at hQ
  have hR := count_Query s14 gs14 2 10
  rw [qb14] at hR
  have hS := count_Same s14 s14 gs14.small
  rw [decide_eq_true (rfl : s14 = s14)] at hS
  have hD := count_Same (newK 2 10 2 9) s14 g14.small
  rw [decide_eq_false (by decide)] at hD
  refine callR_of Tryz.func7 rfl rfl (xc_ok (bitB 383) _ _ _ ?_)
  simp only [go_sem]
  refine hN.useA ?_
  simp only [go_sem]
  refine alloc_intro fun c1 h1 => ?_
  simp only [go_sem]
  refine hA.useA ?_
  simp only [go_sem]
  refine alloc_intro fun c3 h3 => ?_
  simp only [fresh_set] at h3
  simp only [go_sem, h3]
  refine hQ.useA ?_
  simp only [go_sem, h3]
  refine hR.useA ?_
  simp only [go_sem, h3, beq_self_eq_true]
  refine hS.useA ?_
  simp only [go_sem, h3]
  refine hD.useA ?_
  simp only [go_sem, h3]
  have y1 : S (.r c1) = none := h1
  have y3 : S (.r c3) = none := h3.2
  exact ⟨S, by repeat' first | exact Sub.refl _ | refine Sub.set ?_ (by assumption) _, Or.inl rfl⟩
end Go.Sk
end
