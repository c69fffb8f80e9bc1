/- Plain: buckets of one size. -/
import Derived.Test.YtlbjacoigdpgfaaW0
set_option linter.unusedSimpArgs false
set_option linter.unusedVariables false
set_option linter.unusedSectionVars false
namespace Go.Sk

def mostN (k i : Nat) : Nat := if i = 0 then k + 1 else (k + 1) / 2 + 1
theorem mostN_pos (k i : Nat) : 1 ≤ mostN k i := by unfold mostN; split <;> omega
theorem mostN_le (k i : Nat) : mostN k i ≤ k + 2 := by unfold mostN; split <;> omega

/-- Two by two. -/
def pairUp : List Span → List Span
  | a :: b :: r => ⟨a.a, b.b⟩ :: pairUp r
  | _ => []
/-- All that comes to a level, in turn. -/
def lineV (l add : List Span) (many tick : Nat) : List Span := l ++ add ++ List.replicate many ⟨tick, tick⟩
def pairsN (n most : Nat) : Nat := (n - most + 1) / 2
/-- What stays; what goes, one by one; and how many more of the tick go. -/
def stayV (l : List Span) (most : Nat) (add : List Span) (many tick : Nat) : List Span := (lineV l add many tick).drop (2 * pairsN (l.length + add.length + many) most)
def outsN (n most many : Nat) : Nat := min (pairsN (n + many) most) ((n + 1) / 2)
def outsV (l : List Span) (most : Nat) (add : List Span) (many tick : Nat) : List Span := (pairUp (lineV l add many tick)).take (outsN (l.length + add.length) most many)
def leftV (l : List Span) (most : Nat) (add : List Span) (many : Nat) : Nat := pairsN (l.length + add.length + many) most - outsN (l.length + add.length) most many

theorem pairUp_length (l : List Span) : (pairUp l).length = l.length / 2 := by
  induction l using pairUp.induct with
  | case1 a b r ih => simp only [pairUp, List.length_cons, ih]; omega
  | case2 l h =>
    match l, h with
    | [], _ => rfl
    | [x], _ => simp [pairUp]
    | x :: y :: r, h => exact absurd rfl (h x y r)
theorem pairUp_get (l : List Span) : ∀ (i : Nat) (h : i < (pairUp l).length) (h1 : 2 * i < l.length) (h2 : 2 * i + 1 < l.length), (pairUp l)[i] = ⟨l[2 * i].a, l[2 * i + 1].b⟩ := by
  induction l using pairUp.induct with
  | case1 a b r ih =>
    intro i h h1 h2
    cases i with
    | zero => rfl
    | succ i =>
      simp only [pairUp, List.length_cons, Nat.add_lt_add_iff_right] at h h1 h2
      simp only [pairUp, List.getElem_cons_succ]
      rw [ih i h (by omega) (by omega)]
      have e1 : 2 * (i + 1) = 2 * i + 1 + 1 := by omega
      simp only [e1, List.getElem_cons_succ]
  | case2 l h =>
    intro i hi
    match l, h with
    | [], _ => simp [pairUp] at hi
    | [x], _ => simp [pairUp] at hi
    | x :: y :: r, h => exact absurd rfl (h x y r)
theorem lineV_length (l add : List Span) (many tick : Nat) : (lineV l add many tick).length = l.length + add.length + many := by simp [lineV]; omega
theorem lineV_lt {l add : List Span} {many tick i : Nat} (h : i < l.length + add.length) : (lineV l add many tick)[i]'(by rw [lineV_length]; omega) = (l ++ add)[i]'(by simp; omega) := by
  unfold lineV
  rw [List.getElem_append_left]
theorem lineV_ge {l add : List Span} {many tick i : Nat} (h : l.length + add.length ≤ i) (h2 : i < (lineV l add many tick).length) : (lineV l add many tick)[i] = ⟨tick, tick⟩ := by
  have h3 : i < (l ++ add ++ List.replicate many (⟨tick, tick⟩ : Span)).length := h2
  show (l ++ add ++ List.replicate many (⟨tick, tick⟩ : Span))[i]'h3 = _
  rw [List.getElem_append_right (by simpa using h)]
  simp
/-- The i-th that goes. -/
theorem out_get {l add : List Span} {many tick i : Nat} (h : 2 * i < l.length + add.length) (h2 : 2 * i + 1 < l.length + add.length + many) (h3 : i < (pairUp (lineV l add many tick)).length) :
    (pairUp (lineV l add many tick))[i] = ⟨((l ++ add)[2 * i]'(by simp; omega)).a, if h : 2 * i + 1 < l.length + add.length then ((l ++ add)[2 * i + 1]'(by simp; omega)).b else tick⟩ := by
  rw [pairUp_get _ _ h3 (by rw [lineV_length]; omega) (by rw [lineV_length]; omega)]
  rw [lineV_lt h]
  split
  · rename_i h4; rw [lineV_lt h4]
  · rename_i h4; rw [lineV_ge (by omega)]

theorem drop_head {l : List Span} {m i : Nat} {s : Span} (h : i < l.length) : (l.drop i ++ List.replicate m s).getD 0 default = l[i] := by
  rw [List.drop_eq_getElem_cons h]; rfl
theorem drop_head2 {l : List Span} {m i : Nat} {s : Span} (h : l.length ≤ i) (hm : 0 < m) : (l.drop i ++ List.replicate m s).getD 0 default = s := by
  rw [List.drop_of_length_le h]
  obtain ⟨k, rfl⟩ : ∃ k, m = k + 1 := ⟨m - 1, by omega⟩
  rfl
/-- What the first loop leaves. -/
theorem left_eq {n most many q : Nat} (hm : 1 ≤ most) (hq : outsN n most many = q) :
    ((n - 2 * q) + (many - (2 * q - n)) - most + 1) / 2 = pairsN (n + many) most - q ∧ 2 * (pairsN (n + many) most - q) ≤ many - (2 * q - n) ∧ (0 < (n - 2 * q) + (many - (2 * q - n)) - most → n - 2 * q = 0) := by
  unfold outsN pairsN at *; omega
theorem app_getD {l : List Span} {m i : Nat} {s : Span} (h : i < l.length + m) : (l.drop i ++ List.replicate (m - (i - l.length)) s).getD 0 default = (l ++ List.replicate m s)[i]'(by simpa using h) := by
  by_cases hl : i < l.length
  · rw [drop_head hl, List.getElem_append_left hl]
  · rw [drop_head2 (by omega) (by omega), List.getElem_append_right (by omega)]
    simp
/-- What the j-th round finds. -/
theorem two_next {l : List Span} {many j n most : Nat} (hn : l.length = n) (hm : 1 ≤ most) (hj : j < outsN n most many) :
    2 * j < n ∧ most < n + many - 2 * j ∧ 2 * j + 1 < n + many ∧ 2 * j - n = 0 ∧ (2 * (j + 1) - n = 1 - (n - (2 * j + 1)) ) := by
  unfold outsN pairsN at hj
  omega
theorem stay_eq (l add : List Span) (many tick most : Nat) (hm : 1 ≤ most) :
    stayV l most add many tick = (l ++ add).drop (2 * outsN (l.length + add.length) most many) ++ List.replicate (many - (2 * outsN (l.length + add.length) most many - (l.length + add.length)) - 2 * leftV l most add many) ⟨tick, tick⟩ := by
  unfold stayV lineV leftV
  rw [List.drop_append, List.drop_replicate]
  simp only [List.length_append]
  have h1 : pairsN (l.length + add.length + many) most ≤ outsN (l.length + add.length) most many ∨ outsN (l.length + add.length) most many = (l.length + add.length + 1) / 2 := by unfold outsN; omega
  have h2 : outsN (l.length + add.length) most many ≤ pairsN (l.length + add.length + many) most := by unfold outsN; omega
  rcases h1 with h1 | h1
  · have e : pairsN (l.length + add.length + many) most = outsN (l.length + add.length) most many := by omega
    rw [e]; congr 2; omega
  · rw [List.drop_of_length_le (i := 2 * pairsN (l.length + add.length + many) most) (by simp; omega), List.drop_of_length_le (i := 2 * outsN (l.length + add.length) most many) (by simp; omega)]
    congr 2; omega
theorem stay_len (l add : List Span) (many tick most : Nat) : (stayV l most add many tick).length = l.length + add.length + many - 2 * pairsN (l.length + add.length + many) most := by
  unfold stayV; rw [List.length_drop, lineV_length]
theorem stay_le (l add : List Span) (many tick most : Nat) (hm : 1 ≤ most) : (stayV l most add many tick).length ≤ most := by
  rw [stay_len]; unfold pairsN; omega
theorem outs_len (l add : List Span) (many tick most : Nat) (hm : 1 ≤ most) : (outsV l most add many tick).length = outsN (l.length + add.length) most many := by
  unfold outsV; rw [List.length_take, pairUp_length, lineV_length]; unfold outsN pairsN; omega
theorem outs_snoc (l add : List Span) (many tick most j : Nat) (hm : 1 ≤ most) (hj : j < outsN (l.length + add.length) most many) :
    (pairUp (lineV l add many tick)).take (j + 1) = (pairUp (lineV l add many tick)).take j ++ [⟨((l ++ add)[2 * j]'(by simp; have := two_next (l := l ++ add) (by simp) hm hj; omega)).a,
      if h : 2 * j + 1 < l.length + add.length then ((l ++ add)[2 * j + 1]'(by simp; omega)).b else tick⟩] := by
  obtain ⟨h1, h2, h3, _, _⟩ := two_next (l := l ++ add) (by simp) hm hj
  have hlt : j < (pairUp (lineV l add many tick)).length := by rw [pairUp_length, lineV_length]; omega
  rw [List.take_succ_eq_append_getElem hlt, out_get h1 h3 hlt]
end Go.Sk
