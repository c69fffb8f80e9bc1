/- Texts A5 A6 A7 A18 A30 WMx A12, joined. -/
import Derived.Test.YtmpockfgppcnbaaW0
set_option linter.unusedSimpArgs false
set_option linter.unusedVariables false
set_option linter.unusedSectionVars false
-- A5
section
namespace Go.Sk

def mostN (k i : Nat) : Nat := if i = 0 then k + 1 else (k + 1) / 2 + 1
theorem mostN_pos (k i : Nat) : 1 ≤ mostN k i := by unfold mostN; split <;> omega
theorem mostN_le (k i : Nat) : mostN k i ≤ k + 2 := by unfold mostN; split <;> omega

/-- Two by two. -/
def pairUp : List Span → List Span
  | a :: b :: r => ⟨a.a, b.b⟩ :: pairUp r
  | _ => []
/-- All that comes to a level, in turn. -/
def lineV (l add : List Span) (many tick : Nat) : List Span := l ++ add ++ List.replicate many ⟨tick, tick⟩
def pairsN (n most : Nat) : Nat := (n - most + 1) / 2
/-- What stays; what goes, one by one; and how many more of the tick go. -/
def stayV (l : List Span) (most : Nat) (add : List Span) (many tick : Nat) : List Span := (lineV l add many tick).drop (2 * pairsN (l.length + add.length + many) most)
def outsN (n most many : Nat) : Nat := min (pairsN (n + many) most) ((n + 1) / 2)
def outsV (l : List Span) (most : Nat) (add : List Span) (many tick : Nat) : List Span := (pairUp (lineV l add many tick)).take (outsN (l.length + add.length) most many)
def leftV (l : List Span) (most : Nat) (add : List Span) (many : Nat) : Nat := pairsN (l.length + add.length + many) most - outsN (l.length + add.length) most many

theorem pairUp_length (l : List Span) : (pairUp l).length = l.length / 2 := by
  induction l using pairUp.induct with
  | case1 a b r ih => simp only [pairUp, List.length_cons, ih]; omega
  | case2 l h =>
    match l, h with
    | [], _ => rfl
    | [x], _ => simp [pairUp]
    | x :: y :: r, h => exact absurd rfl (h x y r)
theorem pairUp_get (l : List Span) : ∀ (i : Nat) (h : i < (pairUp l).length) (h1 : 2 * i < l.length) (h2 : 2 * i + 1 < l.length), (pairUp l)[i] = ⟨l[2 * i].a, l[2 * i + 1].b⟩ := by
  induction l using pairUp.induct with
  | case1 a b r ih =>
    intro i h h1 h2
    cases i with
    | zero => rfl
    | succ i =>
      simp only [pairUp, List.length_cons, Nat.add_lt_add_iff_right] at h h1 h2
      simp only [pairUp, List.getElem_cons_succ]
      rw [ih i h (by omega) (by omega)]
      have e1 : 2 * (i + 1) = 2 * i + 1 + 1 := by omega
      simp only [e1, List.getElem_cons_succ]
  | case2 l h =>
    intro i hi
    match l, h with
    | [], _ => simp [pairUp] at hi
    | [x], _ => simp [pairUp] at hi
    | x :: y :: r, h => exact absurd rfl (h x y r)
theorem lineV_length (l add : List Span) (many tick : Nat) : (lineV l add many tick).length = l.length + add.length + many := by simp [lineV]; omega
theorem lineV_lt {l add : List Span} {many tick i : Nat} (h : i < l.length + add.length) : (lineV l add many tick)[i]'(by rw [lineV_length]; omega) = (l ++ add)[i]'(by simp; omega) := by
  unfold lineV
  rw [List.getElem_append_left]
theorem lineV_ge {l add : List Span} {many tick i : Nat} (h : l.length + add.length ≤ i) (h2 : i < (lineV l add many tick).length) : (lineV l add many tick)[i] = ⟨tick, tick⟩ := by
  have h3 : i < (l ++ add ++ List.replicate many (⟨tick, tick⟩ : Span)).length := h2
  show (l ++ add ++ List.replicate many (⟨tick, tick⟩ : Span))[i]'h3 = _
  rw [List.getElem_append_right (by simpa using h)]
  simp
/-- The i-th that goes. -/
theorem out_get {l add : List Span} {many tick i : Nat} (h : 2 * i < l.length + add.length) (h2 : 2 * i + 1 < l.length + add.length + many) (h3 : i < (pairUp (lineV l add many tick)).length) :
    (pairUp (lineV l add many tick))[i] = ⟨((l ++ add)[2 * i]'(by simp; omega)).a, if h : 2 * i + 1 < l.length + add.length then ((l ++ add)[2 * i + 1]'(by simp; omega)).b else tick⟩ := by
  rw [pairUp_get _ _ h3 (by rw [lineV_length]; omega) (by rw [lineV_length]; omega)]
  rw [lineV_lt h]
  split
  · rename_i h4; rw [lineV_lt h4]
  · rename_i h4; rw [lineV_ge (by omega)]

theorem drop_head {l : List Span} {m i : Nat} {s : Span} (h : i < l.length) : (l.drop i ++ List.replicate m s).getD 0 default = l[i] := by
  rw [List.drop_eq_getElem_cons h]; rfl
theorem drop_head2 {l : List Span} {m i : Nat} {s : Span} (h : l.length ≤ i) (hm : 0 < m) : (l.drop i ++ List.replicate m s).getD 0 default = s := by
  rw [List.drop_of_length_le h]
  obtain ⟨k, rfl⟩ : ∃ k, m = k + 1 := ⟨m - 1, by omega⟩
  rfl
/-- What the first loop leaves. -/
theorem left_eq {n most many q : Nat} (hm : 1 ≤ most) (hq : outsN n most many = q) :
    ((n - 2 * q) + (many - (2 * q - n)) - most + 1) / 2 = pairsN (n + many) most - q ∧ 2 * (pairsN (n + many) most - q) ≤ many - (2 * q - n) ∧ (0 < (n - 2 * q) + (many - (2 * q - n)) - most → n - 2 * q = 0) := by
  unfold outsN pairsN at *; omega
theorem app_getD {l : List Span} {m i : Nat} {s : Span} (h : i < l.length + m) : (l.drop i ++ List.replicate (m - (i - l.length)) s).getD 0 default = (l ++ List.replicate m s)[i]'(by simpa using h) := by
  by_cases hl : i < l.length
  · rw [drop_head hl, List.getElem_append_left hl]
  · rw [drop_head2 (by omega) (by omega), List.getElem_append_right (by omega)]
    simp
/-- What the j-th round finds. -/
theorem two_next {l : List Span} {many j n most : Nat} (hn : l.length = n) (hm : 1 ≤ most) (hj : j < outsN n most many) :
    2 * j < n ∧ most < n + many - 2 * j ∧ 2 * j + 1 < n + many ∧ 2 * j - n = 0 ∧ (2 * (j + 1) - n = 1 - (n - (2 * j + 1)) ) := by
  unfold outsN pairsN at hj
  omega
theorem stay_eq (l add : List Span) (many tick most : Nat) (hm : 1 ≤ most) :
    stayV l most add many tick = (l ++ add).drop (2 * outsN (l.length + add.length) most many) ++ List.replicate (many - (2 * outsN (l.length + add.length) most many - (l.length + add.length)) - 2 * leftV l most add many) ⟨tick, tick⟩ := by
  unfold stayV lineV leftV
  rw [List.drop_append, List.drop_replicate]
  simp only [List.length_append]
  have h1 : pairsN (l.length + add.length + many) most ≤ outsN (l.length + add.length) most many ∨ outsN (l.length + add.length) most many = (l.length + add.length + 1) / 2 := by unfold outsN; omega
  have h2 : outsN (l.length + add.length) most many ≤ pairsN (l.length + add.length + many) most := by unfold outsN; omega
  rcases h1 with h1 | h1
  · have e : pairsN (l.length + add.length + many) most = outsN (l.length + add.length) most many := by omega
    rw [e]; congr 2; omega
  · rw [List.drop_of_length_le (i := 2 * pairsN (l.length + add.length + many) most) (by simp; omega), List.drop_of_length_le (i := 2 * outsN (l.length + add.length) most many) (by simp; omega)]
    congr 2; omega
theorem stay_len (l add : List Span) (many tick most : Nat) : (stayV l most add many tick).length = l.length + add.length + many - 2 * pairsN (l.length + add.length + many) most := by
  unfold stayV; rw [List.length_drop, lineV_length]
theorem stay_le (l add : List Span) (many tick most : Nat) (hm : 1 ≤ most) : (stayV l most add many tick).length ≤ most := by
  rw [stay_len]; unfold pairsN; omega
theorem outs_len (l add : List Span) (many tick most : Nat) (hm : 1 ≤ most) : (outsV l most add many tick).length = outsN (l.length + add.length) most many := by
  unfold outsV; rw [List.length_take, pairUp_length, lineV_length]; unfold outsN pairsN; omega
theorem outs_snoc (l add : List Span) (many tick most j : Nat) (hm : 1 ≤ most) (hj : j < outsN (l.length + add.length) most many) :
    (pairUp (lineV l add many tick)).take (j + 1) = (pairUp (lineV l add many tick)).take j ++ [⟨((l ++ add)[2 * j]'(by simp; have := two_next (l := l ++ add) (by simp) hm hj; omega)).a,
      if h : 2 * j + 1 < l.length + add.length then ((l ++ add)[2 * j + 1]'(by simp; omega)).b else tick⟩] := by
  obtain ⟨h1, h2, h3, _, _⟩ := two_next (l := l ++ add) (by simp) hm hj
  have hlt : j < (pairUp (lineV l add many tick)).length := by rw [pairUp_length, lineV_length]; omega
  rw [List.take_succ_eq_append_getElem hlt, out_get h1 h3 hlt]
end Go.Sk
end

-- A6
section
namespace Go.Sk

/-- The last bucket's last tick, of level 0. -/
def lastV (ls : List (List Span)) : Nat × Bool := match ls with
  | [] => (0, false)
  | l :: _ => match l.getLast? with | some s => (s.b, true) | none => (0, false)
/-- All buckets' weight, modulo 2^64. -/
noncomputable def totF (i n : Nat) : List (List Span) → Nat
  | [] => n
  | l :: r => totF (i + 1) (m64 (n + m64 (m64 l.length * 2 ^ min i 64))) r
noncomputable def totV (ls : List (List Span)) : Nat := totF 0 0 ls
theorem totF_snoc (l : List Span) : ∀ (r : List (List Span)) (i n : Nat), totF i n (r ++ [l]) = m64 (totF i n r + m64 (m64 l.length * 2 ^ min (i + r.length) 64)) := by
  intro r
  induction r with
  | nil => intro i n; simp [totF]
  | cons x r ih => intro i n; simp only [List.cons_append, totF, ih, List.length_cons]; rw [show i + 1 + r.length = i + (r.length + 1) from by omega]
theorem totF_take (ls : List (List Span)) (i : Nat) (h : i < ls.length) : totF 0 0 (ls.take (i + 1)) = m64 (totF 0 0 (ls.take i) + m64 (m64 (ls[i]).length * 2 ^ min i 64)) := by
  rw [List.take_succ_eq_append_getElem h, totF_snoc, List.length_take, Nat.min_eq_left (Nat.le_of_lt h), Nat.zero_add]
/-- The weight. -/
def totN : Nat → List (List Span) → Nat
  | _, [] => 0
  | i, l :: r => l.length * 2 ^ i + totN (i + 1) r
theorem totN_ge (ls : List (List Span)) : ∀ i, ∀ l ∈ ls, l ≠ [] → 2 ^ i ≤ totN i ls := by
  induction ls with
  | nil => intro i l h; cases h
  | cons x r ih =>
    intro i l h hne
    simp only [totN]
    rcases List.mem_cons.1 h with rfl | h
    · have : 1 ≤ l.length := by cases l with | nil => exact absurd rfl hne | cons a b => simp
      have := Nat.mul_le_mul_right (2 ^ i) this
      omega
    · have := ih (i + 1) l h hne
      rw [Nat.pow_succ] at this; omega
theorem totF_eq (ls : List (List Span)) : ∀ (i n : Nat), n + totN i ls < 18446744073709551616 → totF i n ls = n + totN i ls := by
  induction ls with
  | nil => intro i n _; simp [totF, totN]
  | cons l r ih =>
    intro i n h
    simp only [totF, totN] at h ⊢
    have hb : m64 (m64 l.length * 2 ^ min i 64) = l.length * 2 ^ i := by
      by_cases hl : l = []
      · subst hl; simp [m64_eq]
      · have h1 : 1 ≤ l.length := by cases l with | nil => exact absurd rfl hl | cons a b => simp
        have h3 : 2 ^ i ≤ l.length * 2 ^ i := by have := Nat.mul_le_mul_right (2 ^ i) h1; omega
        have hi : i < 64 := by
          apply Classical.byContradiction
          intro hc
          have : (2 : Nat) ^ 64 ≤ 2 ^ i := Nat.pow_le_pow_right (by decide) (by omega)
          have e : (2 : Nat) ^ 64 = 18446744073709551616 := by decide
          omega
        have h4 : l.length ≤ l.length * 2 ^ i := Nat.le_mul_of_pos_right _ (Nat.pow_pos (by decide))
        rw [Nat.min_eq_left (by omega), m64_id (show l.length < 18446744073709551616 by omega), m64_id (by omega)]
    rw [hb, m64_id (by omega), ih _ _ (by omega)]; omega
theorem totV_eq {ls : List (List Span)} (h : totN 0 ls < 18446744073709551616) : totV ls = totN 0 ls := by
  unfold totV; rw [totF_eq _ _ _ (by omega), Nat.zero_add]

theorem go_less (l : List Span) (most : Nat) (add : List Span) (many tick : Nat) (hm : 1 ≤ most) : (outsV l most add many tick).length + leftV l most add many = pairsN (l.length + add.length + many) most := by
  rw [outs_len _ _ _ _ _ hm]; unfold leftV outsN; omega
/-- What stays on each level, from level i on. -/
def flowV (k tick : Nat) (i : Nat) (ls : List (List Span)) (come : List Span) (many : Nat) : List (List Span) :=
  match ls with
  | l :: r => stayV l (mostN k i) come many tick :: flowV k tick (i + 1) r (outsV l (mostN k i) come many tick) (leftV l (mostN k i) come many)
  | [] => if _h : come.length + many = 0 then [] else
      stayV [] (mostN k i) come many tick :: flowV k tick (i + 1) [] (outsV [] (mostN k i) come many tick) (leftV [] (mostN k i) come many)
termination_by (ls.length, come.length + many)
decreasing_by
  · exact Prod.Lex.left _ _ (by simp)
  · refine Prod.Lex.right _ ?_
    rw [go_less _ _ _ _ _ (mostN_pos k i)]
    have := mostN_pos k i
    unfold pairsN; simp; omega
theorem flowV_nil {k tick i : Nat} {come : List Span} {many : Nat} (h : come.length + many = 0) : flowV k tick i [] come many = [] := by rw [flowV, dif_pos h]
theorem flowV_cons {k tick i : Nat} {ls : List (List Span)} {come : List Span} {many : Nat} (h : ¬ (ls = [] ∧ come.length + many = 0)) :
    flowV k tick i ls come many = stayV (ls.headD []) (mostN k i) come many tick :: flowV k tick (i + 1) ls.tail (outsV (ls.headD []) (mostN k i) come many tick) (leftV (ls.headD []) (mostN k i) come many) := by
  cases ls with
  | cons l r => rw [flowV]; rfl
  | nil => rw [flowV, dif_neg (by simpa using h)]; rfl
theorem flow_len (k tick : Nat) : ∀ (b i : Nat) (ls : List (List Span)) (come : List Span) (many : Nat), (∀ l ∈ ls, l.length < 2 ^ b) → come.length + many < 2 ^ b → (flowV k tick i ls come many).length ≤ ls.length + b := by
  have nil : ∀ (b i : Nat) (come : List Span) (many : Nat), come.length + many < 2 ^ b → (flowV k tick i [] come many).length ≤ b := by
    intro b
    induction b with
    | zero => intro i come many h; rw [flowV_nil (by simpa using h)]; simp
    | succ b ih =>
      intro i come many h
      by_cases h0 : come.length + many = 0
      · rw [flowV_nil h0]; simp
      · rw [flowV_cons (by simp only [true_and]; exact h0)]
        have hg := go_less [] (mostN k i) come many tick (mostN_pos k i)
        have hm := mostN_pos k i
        simp only [List.headD_nil, List.tail_nil, List.length_cons]
        have := ih (i + 1) (outsV [] (mostN k i) come many tick) (leftV [] (mostN k i) come many) (by rw [hg]; unfold pairsN; rw [Nat.pow_succ] at h; simp; omega)
        omega
  intro b i ls
  induction ls generalizing i with
  | nil => intro come many _ h; have := nil b i come many (by omega); simpa using this
  | cons l r ih =>
    intro come many hl h
    rw [flowV_cons (by simp)]
    have hg := go_less l (mostN k i) come many tick (mostN_pos k i)
    have hm := mostN_pos k i
    simp only [List.headD_cons, List.tail_cons, List.length_cons]
    have h1 := hl l List.mem_cons_self
    have := ih (i + 1) (outsV l (mostN k i) come many tick) (leftV l (mostN k i) come many) (fun x hx => hl x (List.mem_cons_of_mem _ hx)) (by rw [hg]; unfold pairsN; omega)
    omega
theorem outs_small {l add : List Span} {most many tick B : Nat} (hm : 1 ≤ most) (hl : l.length ≤ B) (ha : add.length ≤ B) : (outsV l most add many tick).length ≤ B := by
  rw [outs_len _ _ _ _ _ hm]; unfold outsN; omega
theorem left_small {l add : List Span} {most many B : Nat} (hl : l.length ≤ B) (ha : add.length ≤ B) (h : many ≤ 4611686018427387904 / 4) (hB : B ≤ 1099511627776) : leftV l most add many ≤ 4611686018427387904 / 4 := by
  unfold leftV outsN pairsN; omega

def zeroH : Hist := ⟨0, 0, []⟩
/-- Weight comes. -/
noncomputable def addV (k : Nat) (g : Int) (ls : List (List Span)) (tick w : Nat) : Hist × Int :=
  if w = 0 then (zeroH, 1)
  else if 9223372036854775807 < tick ∨ ((lastV ls).2 = true ∧ tick < (lastV ls).1) then (zeroH, 6)
  else if 4503599627370496 - totN 0 ls < w then (zeroH, 5)
  else (⟨k, g, flowV k tick 0 ls [] w⟩, 0)
end Go.Sk
end

-- A7
section
namespace Go.Sk

theorem stay_all (l add : List Span) (many tick most : Nat) (hm : 1 ≤ most) : (stayV l most add many tick).length + 2 * ((outsV l most add many tick).length + leftV l most add many) = l.length + add.length + many := by
  rw [go_less _ _ _ _ _ hm, stay_len]; unfold pairsN; omega
theorem stay_ne (l add : List Span) (many tick most : Nat) (hm : 2 ≤ most) (h : 0 < l.length + add.length + many) : stayV l most add many tick ≠ [] := by
  intro e
  have := congrArg List.length e
  rw [stay_len] at this; unfold pairsN at this; simp at this; omega
theorem mostN_two {k : Nat} (hk : 2 ≤ k) (i : Nat) : 2 ≤ mostN k i := by unfold mostN; split <;> omega

theorem flow_nil_ind (k tick : Nat) (p : Nat → List Span → Nat → Prop) (h0 : ∀ i come many, come.length + many = 0 → p i come many)
    (h1 : ∀ i come many, ¬ come.length + many = 0 → p (i + 1) (outsV [] (mostN k i) come many tick) (leftV [] (mostN k i) come many) → p i come many) : ∀ b i come many, come.length + many ≤ b → p i come many := by
  intro b
  induction b with
  | zero => intro i come many h; exact h0 _ _ _ (by omega)
  | succ b ih =>
    intro i come many h
    by_cases hz : come.length + many = 0
    · exact h0 _ _ _ hz
    · refine h1 i come many hz (ih _ _ _ ?_)
      rw [go_less _ _ _ _ _ (mostN_pos k i)]
      have := mostN_pos k i
      unfold pairsN; simp; omega
theorem flow_ind (k tick : Nat) (p : Nat → List (List Span) → List Span → Nat → Prop) (h0 : ∀ i come many, come.length + many = 0 → p i [] come many)
    (h1 : ∀ i ls come many, ¬ (ls = [] ∧ come.length + many = 0) → p (i + 1) ls.tail (outsV (ls.headD []) (mostN k i) come many tick) (leftV (ls.headD []) (mostN k i) come many) → p i ls come many) : ∀ ls i come many, p i ls come many := by
  have hnil : ∀ i come many, p i [] come many := fun i come many =>
    flow_nil_ind k tick (fun i come many => p i [] come many) h0 (fun i come many hz hp => h1 i [] come many (by simpa using hz) hp) _ i come many (Nat.le_refl _)
  intro ls
  induction ls with
  | nil => exact hnil
  | cons l r ih => intro i come many; exact h1 i (l :: r) come many (by simp) (ih _ _ _)

theorem flow_tot (k tick : Nat) : ∀ ls i come many, totN i (flowV k tick i ls come many) = totN i ls + (come.length + many) * 2 ^ i := by
  refine flow_ind k tick (fun i ls come many => totN i (flowV k tick i ls come many) = totN i ls + (come.length + many) * 2 ^ i) ?_ ?_
  · intro i come many h; rw [flowV_nil h, h]; simp
  · intro i ls come many h ih
    rw [flowV_cons h]
    simp only [totN]
    rw [ih]
    have hs := stay_all (ls.headD []) come many tick (mostN k i) (mostN_pos k i)
    have ht : totN i ls = (ls.headD []).length * 2 ^ i + totN (i + 1) ls.tail := by cases ls <;> simp [totN]
    rw [ht]
    generalize (stayV (ls.headD []) (mostN k i) come many tick).length = A at *
    generalize (outsV (ls.headD []) (mostN k i) come many tick).length + leftV (ls.headD []) (mostN k i) come many = B at *
    generalize (ls.headD []).length = C at *
    have e : C * 2 ^ i + (come.length + many) * 2 ^ i = A * 2 ^ i + (2 * B) * 2 ^ i := by
      rw [← Nat.add_mul, ← Nat.add_mul]; congr 1; omega
    have e2 : B * 2 ^ (i + 1) = (2 * B) * 2 ^ i := by rw [Nat.pow_succ, Nat.mul_comm 2 B, Nat.mul_assoc, Nat.mul_comm 2]
    omega
theorem flow_small (k tick : Nat) : ∀ ls i come many, ∀ l ∈ flowV k tick i ls come many, l.length ≤ k + 2 := by
  refine flow_ind k tick (fun i ls come many => ∀ l ∈ flowV k tick i ls come many, l.length ≤ k + 2) ?_ ?_
  · intro i come many h l hl; rw [flowV_nil h] at hl; cases hl
  · intro i ls come many h ih l hl
    rw [flowV_cons h] at hl
    rcases List.mem_cons.1 hl with rfl | hl
    · exact Nat.le_trans (stay_le _ _ _ _ _ (mostN_pos k i)) (mostN_le k i)
    · exact ih l hl
theorem flow_ne (k tick : Nat) (hk : 2 ≤ k) : ∀ ls i come many, (∀ l ∈ ls, l ≠ []) → ∀ l ∈ flowV k tick i ls come many, l ≠ [] := by
  refine flow_ind k tick (fun i ls come many => (∀ l ∈ ls, l ≠ []) → ∀ l ∈ flowV k tick i ls come many, l ≠ []) ?_ ?_
  · intro i come many h _ l hl; rw [flowV_nil h] at hl; cases hl
  · intro i ls come many h ih hne l hl
    rw [flowV_cons h] at hl
    rcases List.mem_cons.1 hl with rfl | hl
    · refine stay_ne _ _ _ _ _ (mostN_two hk i) ?_
      cases ls with
      | nil => simp only [true_and] at h; simp; omega
      | cons x r =>
        have := hne x List.mem_cons_self
        cases x with
        | nil => exact absurd rfl this
        | cons a b => simp; omega
    · exact ih (fun x hx => hne x (List.mem_of_mem_tail hx)) l hl
theorem tot_levels : ∀ (ls : List (List Span)) (i : Nat), (∀ l ∈ ls, l ≠ []) → 2 ^ (i + ls.length) ≤ totN i ls + 2 ^ i := by
  intro ls
  induction ls with
  | nil => intro i _; simp
  | cons l r ih =>
    intro i h
    have := ih (i + 1) (fun x hx => h x (List.mem_cons_of_mem _ hx))
    have hl : 1 ≤ l.length := by have := h l List.mem_cons_self; cases l with | nil => exact absurd rfl this | cons a b => simp
    have h2 := Nat.mul_le_mul_right (2 ^ i) hl
    simp only [totN, List.length_cons]
    rw [show i + (r.length + 1) = i + 1 + r.length by omega]
    rw [Nat.pow_succ 2 i] at this
    omega

/-- A histogram that came to be by adding alone. -/
structure Hist.Good (h : Hist) : Prop where
  k0 : 2 ≤ h.k
  k1 : h.k ≤ 1024
  ne : ∀ l ∈ h.ls, l ≠ []
  sm : ∀ l ∈ h.ls, l.length ≤ h.k.toNat + 2
  tot : totN 0 h.ls ≤ 4503599627370496
theorem Hist.Good.len {h : Hist} (g : h.Good) : h.ls.length ≤ 53 := by
  have := tot_levels h.ls 0 g.ne
  have h2 := g.tot
  apply Classical.byContradiction
  intro hc
  have : (2 : Nat) ^ 54 ≤ 2 ^ (0 + h.ls.length) := Nat.pow_le_pow_right (by decide) (by omega)
  have e : (2 : Nat) ^ 54 = 18014398509481984 := by decide
  omega
theorem addV_good {h : Hist} (g : h.Good) (t w : Nat) (e : (addV h.k.toNat h.g h.ls t w).2 = 0) : (addV h.k.toNat h.g h.ls t w).1.Good ∧ (addV h.k.toNat h.g h.ls t w).1.k = h.k ∧ (addV h.k.toNat h.g h.ls t w).1.g = h.g ∧ totN 0 (addV h.k.toNat h.g h.ls t w).1.ls = totN 0 h.ls + w := by
  obtain ⟨k, gg, ls⟩ := h
  obtain ⟨h1, h2, h3, h4, h5⟩ := g
  dsimp only at h1 h2 h3 h4 h5 e ⊢
  obtain ⟨k, rfl⟩ : ∃ k' : Nat, k = k' := ⟨k.toNat, by omega⟩
  rw [Int.toNat_natCast] at *
  unfold addV at e ⊢
  split
  · rename_i c; rw [if_pos c] at e; simp at e
  · rename_i c; rw [if_neg c] at e
    split
    · rename_i c; rw [if_pos c] at e; simp at e
    · rename_i c; rw [if_neg c] at e
      split
      · rename_i c; rw [if_pos c] at e; simp at e
      · rename_i c2
        have ht := flow_tot k t ls 0 [] w
        simp only [List.length_nil, Nat.zero_add, Nat.pow_zero, Nat.mul_one] at ht
        refine ⟨⟨h1, h2, flow_ne k t (by omega) ls 0 [] w h3, ?_, ?_⟩, rfl, rfl, ht⟩
        · intro l hl; rw [Int.toNat_natCast]; exact flow_small k t ls 0 [] w l hl
        · dsimp only; rw [ht]; omega
end Go.Sk
end

-- A18
section
namespace Go.Sk

/-- All buckets, the oldest ones first. -/
def flat : List (List Span) → List Span
  | [] => []
  | l :: r => flat r ++ l
theorem flat_tail (ls : List (List Span)) : flat ls = flat ls.tail ++ ls.headD [] := by cases ls <;> simp [flat]
def Bef (x y : Span) : Prop := x.b ≤ y.a
def Mono (W : Nat → Bool) : Prop := ∀ x y, x ≤ y → W x = true → W y = true
def lo (W : Nat → Bool) (l : List Span) : Nat := l.countP (fun s => W s.a)
def hi (W : Nat → Bool) (l : List Span) : Nat := l.countP (fun s => W s.b)
def loL (W : Nat → Bool) : Nat → List (List Span) → Nat
  | _, [] => 0
  | i, l :: r => lo W l * 2 ^ i + loL W (i + 1) r
def hiL (W : Nat → Bool) : Nat → List (List Span) → Nat
  | _, [] => 0
  | i, l :: r => hi W l * 2 ^ i + hiL W (i + 1) r
theorem loL_tail (W : Nat → Bool) (i : Nat) (ls : List (List Span)) : loL W i ls = lo W (ls.headD []) * 2 ^ i + loL W (i + 1) ls.tail := by cases ls <;> simp [loL, lo]
theorem hiL_tail (W : Nat → Bool) (i : Nat) (ls : List (List Span)) : hiL W i ls = hi W (ls.headD []) * 2 ^ i + hiL W (i + 1) ls.tail := by cases ls <;> simp [hiL, hi]
theorem lo_app (W : Nat → Bool) (l m : List Span) : lo W (l ++ m) = lo W l + lo W m := List.countP_append
theorem hi_app (W : Nat → Bool) (l m : List Span) : hi W (l ++ m) = hi W l + hi W m := List.countP_append
theorem lo_rep (W : Nat → Bool) (n t : Nat) : lo W (List.replicate n ⟨t, t⟩) = if W t = true then n else 0 := by unfold lo; rw [List.countP_replicate]
theorem hi_rep (W : Nat → Bool) (n t : Nat) : hi W (List.replicate n ⟨t, t⟩) = if W t = true then n else 0 := by unfold hi; rw [List.countP_replicate]

theorem pairUp_take (l : List Span) : ∀ p, pairUp (l.take (2 * p)) = (pairUp l).take p := by
  induction l using pairUp.induct with
  | case1 a b r ih =>
    intro p
    cases p with
    | zero => simp [pairUp]
    | succ p =>
      rw [show 2 * (p + 1) = 2 * p + 1 + 1 by omega]
      simp only [List.take_succ_cons, pairUp, ih]
  | case2 l h =>
    intro p
    match l, h with
    | [], _ => simp [pairUp]
    | [x], _ =>
      cases p with
      | zero => simp [pairUp]
      | succ p => rw [show 2 * (p + 1) = 2 * p + 1 + 1 by omega]; simp [pairUp]
    | x :: y :: r, h => exact absurd rfl (h x y r)
/-- What leaves a level. -/
theorem pair_all (l add : List Span) (many tick most : Nat) (hm : 1 ≤ most) :
    outsV l most add many tick ++ List.replicate (leftV l most add many) ⟨tick, tick⟩ = pairUp ((lineV l add many tick).take (2 * pairsN (l.length + add.length + many) most)) := by
  rw [pairUp_take]
  have h2 : outsN (l.length + add.length) most many ≤ pairsN (l.length + add.length + many) most := by unfold outsN; omega
  have hlen : (pairUp (lineV l add many tick)).length = (l.length + add.length + many) / 2 := by rw [pairUp_length, lineV_length]
  have hp : pairsN (l.length + add.length + many) most ≤ (l.length + add.length + many) / 2 := by unfold pairsN; omega
  apply List.ext_getElem
  · rw [List.length_append, List.length_replicate, outs_len _ _ _ _ _ hm, List.length_take, hlen]
    unfold leftV; omega
  · intro i h3 h4
    rw [List.length_take, hlen] at h4
    have hol := outs_len l add many tick most hm
    have hi : i < (pairUp (lineV l add many tick)).length := by omega
    rw [List.getElem_take]
    by_cases hc : i < (outsV l most add many tick).length
    · rw [List.getElem_append_left hc]
      exact List.getElem_take
    · rw [List.getElem_append_right (by omega), List.getElem_replicate]
      rw [hol] at hc
      have hj : (l.length + add.length + 1) / 2 ≤ i := by unfold outsN at hc; omega
      rw [pairUp_get _ i hi (by rw [lineV_length]; omega) (by rw [lineV_length]; omega)]
      rw [lineV_ge (by omega), lineV_ge (by omega)]
theorem flow_c (k tick : Nat) (p : Nat → List (List Span) → List Span → List (List Span) → Prop) (h0 : ∀ i, p i [] [] [])
    (h1 : ∀ i ls c out, ¬ (ls = [] ∧ c = []) → p (i + 1) ls.tail (pairUp ((ls.headD [] ++ c).take (2 * pairsN (ls.headD [] ++ c).length (mostN k i)))) out →
      p i ls c ((ls.headD [] ++ c).drop (2 * pairsN (ls.headD [] ++ c).length (mostN k i)) :: out)) :
    ∀ ls i come many, p i ls (come ++ List.replicate many (⟨tick, tick⟩ : Span)) (flowV k tick i ls come many) := by
  refine flow_ind k tick (fun i ls come many => p i ls (come ++ List.replicate many (⟨tick, tick⟩ : Span)) (flowV k tick i ls come many)) ?_ ?_
  · intro i come many h
    rw [flowV_nil h]
    obtain rfl : come = [] := List.eq_nil_of_length_eq_zero (by omega)
    obtain rfl : many = 0 := by simpa using h
    exact h0 i
  · intro i ls come many h ih
    rw [flowV_cons h]
    rw [pair_all _ _ _ _ _ (mostN_pos k i)] at ih
    have e1 : lineV (ls.headD []) come many tick = ls.headD [] ++ (come ++ List.replicate many (⟨tick, tick⟩ : Span)) := by unfold lineV; rw [List.append_assoc]
    have e2 : (ls.headD []).length + come.length + many = (ls.headD [] ++ (come ++ List.replicate many (⟨tick, tick⟩ : Span))).length := by simp; omega
    rw [e2, e1] at ih
    have := h1 i ls (come ++ List.replicate many (⟨tick, tick⟩ : Span)) _ (by
      rintro ⟨rfl, hc⟩
      apply h
      have := congrArg List.length hc
      simp at this
      refine ⟨rfl, ?_⟩
      simp [this]) ih
    unfold stayV
    rw [e2, e1]
    exact this

theorem pairUp_none {l : List Span} (h : ∀ a b r, ¬ l = a :: b :: r) : pairUp l = [] := by
  match l, h with
  | [], _ => rfl
  | [x], _ => rfl
  | x :: y :: r, h => exact absurd rfl (h x y r)
theorem pairUp_mem (P : List Span) : ∀ z ∈ pairUp P, ∃ x ∈ P, ∃ y ∈ P, z = ⟨x.a, y.b⟩ := by
  induction P using pairUp.induct with
  | case1 a b r ih =>
    intro z hz
    rcases List.mem_cons.1 hz with rfl | hz
    · exact ⟨a, by simp, b, by simp, rfl⟩
    · obtain ⟨x, hx, y, hy, rfl⟩ := ih z hz
      exact ⟨x, by simp [hx], y, by simp [hy], rfl⟩
  | case2 l h =>
    intro z hz
    rw [pairUp_none h] at hz; cases hz
theorem pairUp_srt (P : List Span) : P.Pairwise Bef → (∀ s ∈ P, s.a ≤ s.b) → (pairUp P).Pairwise Bef ∧ ∀ s ∈ pairUp P, s.a ≤ s.b := by
  induction P using pairUp.induct with
  | case1 a b r ih =>
    intro h hv
    rw [List.pairwise_cons, List.pairwise_cons] at h
    obtain ⟨h1, h2, h3⟩ := h
    obtain ⟨i1, i2⟩ := ih h3 (fun s hs => hv s (by simp [hs]))
    have hab : a.b ≤ b.a := h1 b (by simp)
    have hva := hv a (by simp); have hvb := hv b (by simp)
    refine ⟨?_, ?_⟩
    · simp only [pairUp, List.pairwise_cons]
      refine ⟨fun z hz => ?_, i1⟩
      obtain ⟨x, hx, y, hy, rfl⟩ := pairUp_mem r z hz
      exact h2 x hx
    · intro s hs
      rcases List.mem_cons.1 hs with rfl | hs
      · show a.a ≤ b.b; omega
      · exact i2 s hs
  | case2 l h =>
    intro _ _
    have : pairUp l = [] := pairUp_none h
    rw [this]; exact ⟨List.Pairwise.nil, fun s hs => (by cases hs)⟩
theorem pairUp_lo (W : Nat → Bool) (hW : Mono W) (P : List Span) : P.Pairwise Bef → (∀ s ∈ P, s.a ≤ s.b) → 2 * lo W (pairUp P) ≤ lo W P := by
  induction P using pairUp.induct with
  | case1 a b r ih =>
    intro h hv
    rw [List.pairwise_cons, List.pairwise_cons] at h
    obtain ⟨h1, h2, h3⟩ := h
    have i1 := ih h3 (fun s hs => hv s (by simp [hs]))
    have hab : a.b ≤ b.a := h1 b (by simp)
    have hva := hv a (by simp)
    unfold lo at i1 ⊢
    simp only [pairUp, List.countP_cons]
    cases hc : W a.a with
    | false => simp; omega
    | true => rw [hW a.a b.a (by omega) hc]; simp; omega
  | case2 l h =>
    intro _ _
    have : pairUp l = [] := pairUp_none h
    rw [this]; simp [lo]
theorem pairUp_hi (W : Nat → Bool) (hW : Mono W) (P : List Span) : P.Pairwise Bef → (∀ s ∈ P, s.a ≤ s.b) → P.length % 2 = 0 → hi W P ≤ 2 * hi W (pairUp P) := by
  induction P using pairUp.induct with
  | case1 a b r ih =>
    intro h hv he
    rw [List.pairwise_cons, List.pairwise_cons] at h
    obtain ⟨h1, h2, h3⟩ := h
    have i1 := ih h3 (fun s hs => hv s (by simp [hs])) (by simp only [List.length_cons] at he; omega)
    have hab : a.b ≤ b.a := h1 b (by simp)
    have hvb := hv b (by simp)
    unfold hi at i1 ⊢
    simp only [pairUp, List.countP_cons]
    cases hc : W b.b with
    | true => cases W a.b <;> simp <;> omega
    | false =>
      have : W a.b = false := by
        cases hd : W a.b with
        | false => rfl
        | true => rw [hW a.b b.b (by omega) hd] at hc; exact hc
      rw [this]; simp; omega
  | case2 l h =>
    intro _ _ he
    match l, h with
    | [], _ => simp [hi]
    | [x], _ => simp at he
    | x :: y :: r, h => exact absurd rfl (h x y r)

theorem flow_tidy (k tick : Nat) : ∀ ls i come many, (flat ls ++ (come ++ List.replicate many (⟨tick, tick⟩ : Span))).Pairwise Bef → (∀ s ∈ flat ls ++ (come ++ List.replicate many (⟨tick, tick⟩ : Span)), s.a ≤ s.b) →
    (flat (flowV k tick i ls come many)).Pairwise Bef ∧ (∀ s ∈ flat (flowV k tick i ls come many), s.a ≤ s.b) ∧
    (∀ m, (∀ s ∈ flat ls ++ (come ++ List.replicate many (⟨tick, tick⟩ : Span)), s.b ≤ m) → ∀ s ∈ flat (flowV k tick i ls come many), s.b ≤ m) ∧
    ∀ W, Mono W → loL W i (flowV k tick i ls come many) ≤ loL W i ls + lo W (come ++ List.replicate many (⟨tick, tick⟩ : Span)) * 2 ^ i ∧
      hiL W i ls + hi W (come ++ List.replicate many (⟨tick, tick⟩ : Span)) * 2 ^ i ≤ hiL W i (flowV k tick i ls come many) := by
  refine flow_c k tick (fun i ls c out => (flat ls ++ c).Pairwise Bef → (∀ s ∈ flat ls ++ c, s.a ≤ s.b) → (flat out).Pairwise Bef ∧ (∀ s ∈ flat out, s.a ≤ s.b) ∧
    (∀ m, (∀ s ∈ flat ls ++ c, s.b ≤ m) → ∀ s ∈ flat out, s.b ≤ m) ∧ ∀ W, Mono W → loL W i out ≤ loL W i ls + lo W c * 2 ^ i ∧ hiL W i ls + hi W c * 2 ^ i ≤ hiL W i out) ?_ ?_
  · intro i _ _
    refine ⟨List.Pairwise.nil, fun s hs => (by cases hs), fun m _ s hs => (by cases hs), fun W _ => ?_⟩
    simp [loL, hiL, lo, hi]
  · intro i ls c out hne ih hs hv
    have hm := mostN_pos k i
    have hq : 2 * pairsN (ls.headD [] ++ c).length (mostN k i) ≤ (ls.headD [] ++ c).length := by unfold pairsN; omega
    rw [flat_tail ls, List.append_assoc] at hs hv
    have hfl : flat ls ++ c = flat ls.tail ++ (ls.headD [] ++ c) := by rw [flat_tail ls, List.append_assoc]
    rw [hfl]
    have hl1 : ∀ W, lo W (ls.headD [] ++ c) = lo W (ls.headD []) + lo W c := fun W => lo_app W _ _
    have hh1 : ∀ W, hi W (ls.headD [] ++ c) = hi W (ls.headD []) + hi W c := fun W => hi_app W _ _
    generalize hL : ls.headD [] ++ c = L at *
    generalize hQ : 2 * pairsN L.length (mostN k i) = q at *
    have hev : q % 2 = 0 := by omega
    have hsp : L.take q ++ L.drop q = L := List.take_append_drop q L
    have hs' := hs
    rw [← hsp, List.pairwise_append, List.pairwise_append] at hs'
    obtain ⟨s1, ⟨s2, s3, s4⟩, s5⟩ := hs'
    have hvL : ∀ s ∈ L, s.a ≤ s.b := fun s h => hv s (List.mem_append_right _ h)
    have hvT : ∀ s ∈ L.take q, s.a ≤ s.b := fun s h => hvL s (List.mem_of_mem_take h)
    obtain ⟨p1, p2⟩ := pairUp_srt (L.take q) s2 hvT
    have cross : ∀ x ∈ flat ls.tail, ∀ z ∈ pairUp (L.take q), Bef x z := by
      intro x hx z hz
      obtain ⟨u, hu, v, hv2, rfl⟩ := pairUp_mem _ z hz
      exact s5 x hx u (by rw [List.take_append_drop]; exact List.mem_of_mem_take hu)
    obtain ⟨i1, i2, i3, i4⟩ := ih (List.pairwise_append.2 ⟨s1, p1, cross⟩) (fun s h => by
      rcases List.mem_append.1 h with h | h
      · exact hv s (List.mem_append_left _ h)
      · exact p2 s h)
    refine ⟨?_, ?_, ?_, ?_⟩
    · show (flat out ++ L.drop q).Pairwise Bef
      refine List.pairwise_append.2 ⟨i1, s3, fun x hx y hy => ?_⟩
      refine i3 y.a (fun s h => ?_) x hx
      rcases List.mem_append.1 h with h | h
      · exact s5 s h y (by rw [List.take_append_drop]; exact List.mem_of_mem_drop hy)
      · obtain ⟨u, hu, v, hv2, rfl⟩ := pairUp_mem _ s h
        exact s4 v hv2 y hy
    · intro s h
      rcases List.mem_append.1 h with h | h
      · exact i2 s h
      · exact hvL s (List.mem_of_mem_drop h)
    · intro m hm2 s h
      rcases List.mem_append.1 h with h | h
      · refine i3 m (fun z hz => ?_) s h
        rcases List.mem_append.1 hz with hz | hz
        · exact hm2 z (List.mem_append_left _ hz)
        · obtain ⟨u, hu, v, hv2, rfl⟩ := pairUp_mem _ z hz
          exact hm2 v (List.mem_append_right _ (List.mem_of_mem_take hv2))
      · exact hm2 s (List.mem_append_right _ (List.mem_of_mem_drop h))
    · intro W hW
      obtain ⟨j1, j2⟩ := i4 W hW
      have k1 := pairUp_lo W hW (L.take q) s2 hvT
      have k2 := pairUp_hi W hW (L.take q) s2 hvT (by rw [List.length_take]; omega)
      have k3 : lo W L = lo W (L.take q) + lo W (L.drop q) := by rw [← lo_app, hsp]
      have k4 : hi W L = hi W (L.take q) + hi W (L.drop q) := by rw [← hi_app, hsp]
      have k5 := hl1 W; have k6 := hh1 W
      rw [loL_tail W i ls, hiL_tail W i ls]
      show lo W (L.drop q) * 2 ^ i + loL W (i + 1) out ≤ _ ∧ _ ≤ hi W (L.drop q) * 2 ^ i + hiL W (i + 1) out
      rw [Nat.pow_succ] at j1 j2
      have m1 : 2 * lo W (pairUp (L.take q)) * 2 ^ i ≤ lo W (L.take q) * 2 ^ i := Nat.mul_le_mul_right _ k1
      have m2 : hi W (L.take q) * 2 ^ i ≤ 2 * hi W (pairUp (L.take q)) * 2 ^ i := Nat.mul_le_mul_right _ k2
      have e1 : lo W (pairUp (L.take q)) * (2 ^ i * 2) = 2 * lo W (pairUp (L.take q)) * 2 ^ i := by rw [Nat.mul_comm (2 ^ i) 2, ← Nat.mul_assoc, Nat.mul_comm _ 2]
      have e2 : hi W (pairUp (L.take q)) * (2 ^ i * 2) = 2 * hi W (pairUp (L.take q)) * 2 ^ i := by rw [Nat.mul_comm (2 ^ i) 2, ← Nat.mul_assoc, Nat.mul_comm _ 2]
      have e3 : lo W (ls.headD []) * 2 ^ i + lo W c * 2 ^ i = lo W (L.take q) * 2 ^ i + lo W (L.drop q) * 2 ^ i := by rw [← Nat.add_mul, ← Nat.add_mul]; congr 1; omega
      have e4 : hi W (ls.headD []) * 2 ^ i + hi W c * 2 ^ i = hi W (L.take q) * 2 ^ i + hi W (L.drop q) * 2 ^ i := by rw [← Nat.add_mul, ← Nat.add_mul]; congr 1; omega
      omega

/-- Each level, but the last one, is full. -/
def Full (k : Nat) : Nat → List (List Span) → Prop
  | _, [] => True
  | i, l :: r => (r ≠ [] → mostN k i ≤ l.length + 1) ∧ Full k (i + 1) r
theorem flow_full (k tick : Nat) : ∀ ls i come many, Full k i ls → Full k i (flowV k tick i ls come many) := by
  intro ls i come many
  refine (flow_c k tick (fun i ls c out => (ls = [] → c = [] → out = []) ∧ (Full k i ls → Full k i out)) ?_ ?_ ls i come many).2
  · intro i; exact ⟨fun _ _ => rfl, id⟩
  · intro i ls c out hne ih
    refine ⟨fun h1 h2 => absurd ⟨h1, h2⟩ hne, fun hf => ?_⟩
    have hm := mostN_pos k i
    refine ⟨fun ho => ?_, ih.2 (by cases ls with | nil => trivial | cons l r => exact hf.2)⟩
    rw [List.length_drop]
    by_cases hp : pairsN (ls.headD [] ++ c).length (mostN k i) = 0
    · rw [hp] at ih ⊢
      have ht : ls.tail ≠ [] := fun ht => ho (ih.1 ht (by simp [pairUp]))
      cases ls with
      | nil => exact absurd rfl ht
      | cons l r => have := hf.1 ht; simp only [List.headD_cons, List.length_append]; omega
    · unfold pairsN at hp ⊢; omega

/-- As a histogram is that no merge made. -/
structure Tidy (k : Nat) (ls : List (List Span)) : Prop where
  srt : (flat ls).Pairwise Bef
  val : ∀ s ∈ flat ls, s.a ≤ s.b
  low : ∀ s ∈ ls.headD [], s.a = s.b
  full : Full k 0 ls
theorem last_le {k : Nat} {ls : List (List Span)} (h : Tidy k ls) (hne : ∀ l ∈ ls, l ≠ []) {t : Nat} (ht : ¬ ((lastV ls).2 = true ∧ t < (lastV ls).1)) : ∀ s ∈ flat ls, s.b ≤ t := by
  cases ls with
  | nil => intro s hs; cases hs
  | cons l r =>
    have hl := hne l (by simp)
    obtain ⟨d, x, rfl⟩ : ∃ d x, l = d ++ [x] := ⟨l.dropLast, l.getLast hl, (List.dropLast_concat_getLast hl).symm⟩
    have hx : lastV ((d ++ [x]) :: r) = (x.b, true) := by simp [lastV]
    rw [hx] at ht
    simp only [true_and] at ht
    have e : flat ((d ++ [x]) :: r) = (flat r ++ d) ++ [x] := by simp [flat]
    have hs := h.srt
    have hv := h.val
    rw [e] at hs hv ⊢
    obtain ⟨_, _, h3⟩ := List.pairwise_append.1 hs
    have hvx := hv x (by simp)
    intro s h
    rcases List.mem_append.1 h with h | h
    · have := h3 s h x (by simp)
      unfold Bef at this; omega
    · simp only [List.mem_singleton] at h; subst h; omega
theorem addV_tidy {h : Hist} (g : h.Good) (hT : Tidy h.k.toNat h.ls) (t w : Nat) (e : (addV h.k.toNat h.g h.ls t w).2 = 0) : Tidy h.k.toNat (addV h.k.toNat h.g h.ls t w).1.ls ∧
    ∀ W, Mono W → loL W 0 (addV h.k.toNat h.g h.ls t w).1.ls ≤ loL W 0 h.ls + (if W t = true then w else 0) ∧ hiL W 0 h.ls + (if W t = true then w else 0) ≤ hiL W 0 (addV h.k.toNat h.g h.ls t w).1.ls := by
  unfold addV at e ⊢
  split
  · rename_i c; rw [if_pos c] at e; simp at e
  rename_i c; rw [if_neg c] at e
  split
  · rename_i c; rw [if_pos c] at e; simp at e
  rename_i c2; rw [if_neg c2] at e
  split
  · rename_i c; rw [if_pos c] at e; simp at e
  have hle := last_le hT g.ne (t := t) (fun hc => c2 (Or.inr hc))
  have hs : (flat h.ls ++ ([] ++ List.replicate w (⟨t, t⟩ : Span))).Pairwise Bef := by
    refine List.pairwise_append.2 ⟨hT.srt, ?_, ?_⟩
    · rw [List.nil_append]; exact List.pairwise_replicate.2 (Or.inr (Nat.le_refl t))
    · intro x hx y hy
      rw [List.nil_append] at hy
      rw [List.eq_of_mem_replicate hy]; exact hle x hx
  have hv : ∀ s ∈ flat h.ls ++ ([] ++ List.replicate w (⟨t, t⟩ : Span)), s.a ≤ s.b := by
    intro s hs
    rcases List.mem_append.1 hs with hs | hs
    · exact hT.val s hs
    · rw [List.nil_append] at hs; rw [List.eq_of_mem_replicate hs]; exact Nat.le_refl _
  obtain ⟨r1, r2, _, r4⟩ := flow_tidy h.k.toNat t h.ls 0 [] w hs hv
  refine ⟨⟨r1, r2, ?_, flow_full _ _ _ _ _ _ hT.full⟩, fun W hW => ?_⟩
  · intro s hs
    dsimp only at hs
    rw [flowV_cons (by rintro ⟨_, h0⟩; simp at h0; exact c h0)] at hs
    simp only [List.headD_cons] at hs
    unfold stayV lineV at hs
    have := List.mem_of_mem_drop hs
    rw [List.append_nil] at this
    rcases List.mem_append.1 this with h1 | h1
    · exact hT.low s h1
    · rw [List.eq_of_mem_replicate h1]
  · have := r4 W hW
    rw [List.nil_append, lo_rep, hi_rep, Nat.pow_zero, Nat.mul_one] at this
    exact this
theorem empty_tidy (k : Nat) : Tidy k [] := ⟨List.Pairwise.nil, fun s hs => (by cases hs), fun s hs => (by cases hs), trivial⟩

/-- Of a level, one bucket at most is cut. -/
theorem cut_one (W : Nat → Bool) (hW : Mono W) : ∀ l : List Span, l.Pairwise Bef → (∀ s ∈ l, s.a ≤ s.b) → hi W l = lo W l ∨ hi W l = lo W l + 1 := by
  intro l
  induction l with
  | nil => intro _ _; exact Or.inl rfl
  | cons x t ih =>
    intro h hv
    rw [List.pairwise_cons] at h
    have hx := hv x (by simp)
    have i := ih h.2 (fun s hs => hv s (by simp [hs]))
    cases hc : W x.b with
    | true =>
      have h1 : lo W t = t.length := by
        unfold lo; rw [List.countP_eq_length]
        intro y hy; exact hW x.b y.a (h.1 y hy) hc
      have h2 : hi W t = t.length := by
        unfold hi; rw [List.countP_eq_length]
        intro y hy; exact hW x.b y.b (Nat.le_trans (h.1 y hy) (hv y (by simp [hy]))) hc
      unfold lo at h1 ⊢
      unfold hi at h2 ⊢
      simp only [List.countP_cons, hc]
      cases W x.a <;> simp <;> omega
    | false =>
      have : W x.a = false := by
        cases hd : W x.a with
        | false => rfl
        | true => rw [hW x.a x.b hx hd] at hc; exact hc
      unfold lo hi at i
      unfold lo hi
      simp only [List.countP_cons, hc, this]
      simpa using i
theorem hi_pos (W : Nat → Bool) : ∀ (ls : List (List Span)) (i : Nat), 0 < hiL W i ls → ∃ s ∈ flat ls, W s.b = true := by
  intro ls
  induction ls with
  | nil => intro i h; simp [hiL] at h
  | cons l r ih =>
    intro i h
    unfold hiL at h
    by_cases hc : hi W l = 0
    · rw [hc] at h
      obtain ⟨s, hs, hb⟩ := ih (i + 1) (by omega)
      exact ⟨s, List.mem_append_left _ hs, hb⟩
    · obtain ⟨s, hs, hb⟩ := List.countP_pos_iff.1 (Nat.pos_of_ne_zero hc)
      exact ⟨s, List.mem_append_right _ hs, hb⟩
theorem cut_all (k : Nat) (W : Nat → Bool) (hW : Mono W) : ∀ (ls : List (List Span)) (i : Nat), (flat ls).Pairwise Bef → (∀ s ∈ flat ls, s.a ≤ s.b) → (i = 0 → ∀ s ∈ ls.headD [], s.a = s.b) → Full k i ls →
    hiL W i ls = loL W i ls ∨ ∃ j, i ≤ j ∧ 1 ≤ j ∧ hiL W i ls = loL W i ls + 2 ^ j ∧ k * 2 ^ j ≤ 2 * loL W i ls + (if i = 0 then 0 else k * 2 ^ i) := by
  intro ls
  induction ls with
  | nil => intro i _ _ _ _; exact Or.inl rfl
  | cons l r ih =>
    intro i hs hv hlow hf
    obtain ⟨s1, s2, s3⟩ := List.pairwise_append.1 (show (flat r ++ l).Pairwise Bef from hs)
    have hvl : ∀ s ∈ l, s.a ≤ s.b := fun s h => hv s (List.mem_append_right _ h)
    have hvr : ∀ s ∈ flat r, s.a ≤ s.b := fun s h => hv s (List.mem_append_left _ h)
    have c1 := cut_one W hW l s2 hvl
    unfold hiL loL
    rcases ih (i + 1) s1 hvr (by omega) hf.2 with hr | ⟨j, hj, hj1, hr, hb⟩
    · rcases c1 with c1 | c1
      · left; rw [c1, hr]
      · right
        by_cases h0 : i = 0
        · exfalso
          have : hi W l = lo W l := by
            unfold hi lo
            apply List.countP_congr
            intro s hs; rw [hlow h0 s hs]
          omega
        · refine ⟨i, Nat.le_refl _, by omega, ?_, ?_⟩
          · rw [c1, hr, Nat.add_mul, Nat.one_mul]; omega
          · rw [if_neg h0]; omega
    · right
      have hpos : 0 < 2 ^ j := Nat.pow_pos (by decide)
      obtain ⟨s, hsm, hsb⟩ := hi_pos W r (i + 1) (by omega)
      have h1 : lo W l = l.length := by
        unfold lo; rw [List.countP_eq_length]
        intro y hy; exact hW s.b y.a (s3 s hsm y hy) hsb
      have h2 : hi W l = l.length := by
        unfold hi; rw [List.countP_eq_length]
        intro y hy; exact hW s.b y.b (Nat.le_trans (s3 s hsm y hy) (hvl y hy)) hsb
      have hrne : r ≠ [] := by rintro rfl; cases hsm
      have hfl := hf.1 hrne
      refine ⟨j, by omega, hj1, by rw [h1, h2, hr]; omega, ?_⟩
      rw [if_neg (by omega), Nat.pow_succ] at hb
      rw [h1]
      unfold mostN at hfl
      by_cases h0 : i = 0
      · subst h0
        rw [if_pos rfl] at hfl ⊢
        simp only [Nat.pow_zero, Nat.one_mul, Nat.mul_one, Nat.zero_add] at hb ⊢
        omega
      · rw [if_neg h0] at hfl ⊢
        have m1 : k * 2 ^ i ≤ 2 * l.length * 2 ^ i := Nat.mul_le_mul_right _ (by omega)
        have e1 : k * (2 ^ i * 2) = k * 2 ^ i + k * 2 ^ i := by rw [Nat.mul_comm (2 ^ i) 2, ← Nat.mul_assoc, Nat.mul_comm k 2, Nat.mul_assoc]; omega
        have e2 : 2 * l.length * 2 ^ i = 2 * (l.length * 2 ^ i) := Nat.mul_assoc _ _ _
        omega
/-- The bound. -/
theorem est_bound {k : Nat} {ls : List (List Span)} (hk : 2 ≤ k) (h : Tidy k ls) (W : Nat → Bool) (hW : Mono W) {R : Nat} (h1 : loL W 0 ls ≤ R) (h2 : R ≤ hiL W 0 ls) :
    (k - 1) * R ≤ k * (loL W 0 ls + (hiL W 0 ls - loL W 0 ls) / 2) ∧ k * (loL W 0 ls + (hiL W 0 ls - loL W 0 ls) / 2) ≤ (k + 1) * R := by
  obtain ⟨k, rfl⟩ : ∃ m, k = m + 1 := ⟨k - 1, by omega⟩
  rcases cut_all (k + 1) W hW ls 0 h.srt h.val (fun _ => h.low) h.full with e | ⟨j, _, hj, e, hb⟩
  · obtain rfl : R = loL W 0 ls := by omega
    rw [e, Nat.sub_self, Nat.zero_div, Nat.add_zero, Nat.add_sub_cancel]
    exact ⟨Nat.mul_le_mul_right _ (by omega), Nat.mul_le_mul_right _ (by omega)⟩
  · obtain ⟨i, rfl⟩ : ∃ i, j = i + 1 := ⟨j - 1, by omega⟩
    rw [if_pos rfl, Nat.pow_succ, Nat.add_zero] at hb
    rw [e, Nat.pow_succ] at h2
    rw [e, Nat.add_sub_cancel_left, Nat.pow_succ, Nat.mul_div_cancel _ (by decide), Nat.add_sub_cancel]
    generalize loL W 0 ls = L at *
    generalize 2 ^ i = c at *
    have e1 : (k + 1) * (c * 2) = 2 * (k * c) + 2 * c := by rw [Nat.add_mul, ← Nat.mul_assoc]; omega
    have m1 : k * R ≤ k * (L + c * 2) := Nat.mul_le_mul_left _ h2
    have e2 : k * (L + c * 2) = k * L + 2 * (k * c) := by rw [Nat.mul_add, ← Nat.mul_assoc]; omega
    have e3 : (k + 1) * (L + c) = k * L + k * c + L + c := by rw [Nat.add_mul, Nat.mul_add]; omega
    have m2 : (k + 1 + 1) * L ≤ (k + 1 + 1) * R := Nat.mul_le_mul_left _ h1
    have e4 : (k + 1 + 1) * L = k * L + 2 * L := by rw [Nat.add_mul, Nat.add_mul]; omega
    omega
end Go.Sk
end

-- A30
section
namespace Go.Sk

theorem pairUp_app (Q : List Span) : ∀ P : List Span, P.length % 2 = 0 → pairUp (P ++ Q) = pairUp P ++ pairUp Q := by
  intro P
  induction P using pairUp.induct with
  | case1 a b r ih =>
    intro h
    simp only [List.cons_append, pairUp]
    rw [ih (by simp only [List.length_cons] at h; omega)]
  | case2 l h =>
    intro he
    match l, h with
    | [], _ => rfl
    | [x], _ => simp at he
    | x :: y :: r, h => exact absurd rfl (h x y r)
/-- What stays on each level, of a stream. -/
def flowS (k : Nat) (i : Nat) (ls : List (List Span)) (c : List Span) : List (List Span) :=
  match ls with
  | l :: r => (l ++ c).drop (2 * pairsN (l ++ c).length (mostN k i)) :: flowS k (i + 1) r (pairUp ((l ++ c).take (2 * pairsN (l ++ c).length (mostN k i))))
  | [] => if _h : c.length = 0 then [] else c.drop (2 * pairsN c.length (mostN k i)) :: flowS k (i + 1) [] (pairUp (c.take (2 * pairsN c.length (mostN k i))))
termination_by (ls.length, c.length)
decreasing_by
  · exact Prod.Lex.left _ _ (by simp)
  · refine Prod.Lex.right _ ?_
    rw [pairUp_length, List.length_take]
    have := mostN_pos k i
    unfold pairsN; omega
theorem flowS_nil (k i : Nat) : flowS k i [] [] = [] := by rw [flowS, dif_pos List.length_nil]
theorem flowS_cons {k i : Nat} {ls : List (List Span)} {c : List Span} (h : ¬ (ls = [] ∧ c = [])) :
    flowS k i ls c = (ls.headD [] ++ c).drop (2 * pairsN (ls.headD [] ++ c).length (mostN k i)) :: flowS k (i + 1) ls.tail (pairUp ((ls.headD [] ++ c).take (2 * pairsN (ls.headD [] ++ c).length (mostN k i)))) := by
  cases ls with
  | cons l r => rw [flowS]; rfl
  | nil =>
    have hc : ¬ c.length = 0 := fun e => h ⟨rfl, List.eq_nil_of_length_eq_zero e⟩
    rw [flowS, dif_neg hc]; rfl
theorem flowS_eq (k tick : Nat) (ls : List (List Span)) (i : Nat) (come : List Span) (many : Nat) : flowV k tick i ls come many = flowS k i ls (come ++ List.replicate many (⟨tick, tick⟩ : Span)) := by
  refine flow_c k tick (fun i ls c out => out = flowS k i ls c) ?_ ?_ ls i come many
  · intro i; rw [flowS_nil]
  · intro i ls c out hne ih
    rw [flowS_cons hne, ih]
/-- One by one is as all at once. -/
theorem flowS_ind (k : Nat) (p : Nat → List (List Span) → List Span → Prop) (h0 : ∀ i, p i [] [])
    (h1 : ∀ i ls c, ¬ (ls = [] ∧ c = []) → p (i + 1) ls.tail (pairUp ((ls.headD [] ++ c).take (2 * pairsN (ls.headD [] ++ c).length (mostN k i)))) → p i ls c) : ∀ ls i c, p i ls c := by
  have hnil : ∀ b i (c : List Span), c.length ≤ b → p i [] c := by
    intro b
    induction b with
    | zero => intro i c h; obtain rfl := List.eq_nil_of_length_eq_zero (Nat.le_zero.1 h); exact h0 i
    | succ b ih =>
      intro i c h
      by_cases hz : c = []
      · subst hz; exact h0 i
      · refine h1 i [] c (fun e => hz e.2) (ih _ _ ?_)
        rw [pairUp_length, List.length_take]
        have := mostN_pos k i
        have : 0 < c.length := List.length_pos_iff.2 hz
        unfold pairsN; simp only [List.headD_nil, List.nil_append]; omega
  intro ls
  induction ls with
  | nil => intro i c; exact hnil _ i c (Nat.le_refl _)
  | cons l r ih => intro i c; exact h1 i (l :: r) c (by simp) (ih _ _)
theorem flowS_ne {k i : Nat} {ls : List (List Span)} {c : List Span} (h : ¬ (ls = [] ∧ c = [])) : flowS k i ls c ≠ [] := by rw [flowS_cons h]; simp
theorem flowS_two (k : Nat) : ∀ ls i (c d : List Span), flowS k i (flowS k i ls c) d = flowS k i ls (c ++ d) := by
  intro ls i c
  refine flowS_ind k (fun i ls c => ∀ d, flowS k i (flowS k i ls c) d = flowS k i ls (c ++ d)) ?_ ?_ ls i c
  · intro i d; rw [flowS_nil, List.nil_append]
  · intro i ls c hne ih d
    have hne2 : ¬ (ls = [] ∧ c ++ d = []) := fun e => hne ⟨e.1, (List.append_eq_nil_iff.1 e.2).1⟩
    rw [flowS_cons (ls := flowS k i ls c) (fun e => flowS_ne hne e.1), flowS_cons hne, flowS_cons hne2]
    simp only [List.headD_cons, List.tail_cons]
    have e1 : ls.headD [] ++ (c ++ d) = (ls.headD [] ++ c) ++ d := (List.append_assoc _ _ _).symm
    rw [e1]
    generalize ls.headD [] ++ c = L at *
    have hm := mostN_pos k i
    have hp1 : 2 * pairsN L.length (mostN k i) ≤ L.length := by unfold pairsN; omega
    have hn : (L.drop (2 * pairsN L.length (mostN k i)) ++ d).length = L.length - 2 * pairsN L.length (mostN k i) + d.length := by simp
    have hp : pairsN (L ++ d).length (mostN k i) = pairsN L.length (mostN k i) + pairsN (L.drop (2 * pairsN L.length (mostN k i)) ++ d).length (mostN k i) := by
      rw [hn, List.length_append]; unfold pairsN; omega
    rw [hp]
    generalize pairsN (L.drop (2 * pairsN L.length (mostN k i)) ++ d).length (mostN k i) = p2
    generalize pairsN L.length (mostN k i) = p1 at *
    have ed : (L ++ d).drop (2 * (p1 + p2)) = (L.drop (2 * p1) ++ d).drop (2 * p2) := by
      rw [Nat.mul_add, ← List.drop_drop, List.drop_append_of_le_length hp1]
    have et : (L ++ d).take (2 * (p1 + p2)) = L.take (2 * p1) ++ (L.drop (2 * p1) ++ d).take (2 * p2) := by
      rw [Nat.mul_add, List.take_add, List.take_append_of_le_length hp1, List.drop_append_of_le_length hp1]
    rw [ed, et, pairUp_app _ _ (by rw [List.length_take]; omega), ih]
/-- Each level has at most so many. -/
def Most (k : Nat) : Nat → List (List Span) → Prop
  | _, [] => True
  | i, l :: r => l.length ≤ mostN k i ∧ Most k (i + 1) r
theorem flowS_most (k : Nat) : ∀ ls i (c : List Span), Most k i (flowS k i ls c) := by
  refine flowS_ind k (fun i ls c => Most k i (flowS k i ls c)) ?_ ?_
  · intro i; rw [flowS_nil]; exact True.intro
  · intro i ls c hne ih
    rw [flowS_cons hne]
    refine ⟨?_, ih⟩
    rw [List.length_drop]; unfold pairsN; omega
theorem most_mem {k : Nat} : ∀ (ls : List (List Span)) (i : Nat), Most k i ls → ∀ l ∈ ls, ∃ j, i ≤ j ∧ l.length ≤ mostN k j := by
  intro ls
  induction ls with
  | nil => intro i _ l hl; cases hl
  | cons x r ih =>
    intro i h l hl
    rcases List.mem_cons.1 hl with rfl | hl
    · exact ⟨i, Nat.le_refl _, h.1⟩
    · obtain ⟨j, h1, h2⟩ := ih (i + 1) h.2 l hl
      exact ⟨j, by omega, h2⟩
/-- Units of lumps. -/
def unitsE (l : List (Nat × Nat)) : List Span := l.flatMap fun x => List.replicate x.2 ⟨x.1, x.1⟩
theorem unitsE_cons (x : Nat × Nat) (l : List (Nat × Nat)) : unitsE (x :: l) = List.replicate x.2 ⟨x.1, x.1⟩ ++ unitsE l := rfl
theorem unitsE_perm {l m : List (Nat × Nat)} (h : l.Perm m) : (unitsE l).Perm (unitsE m) := List.Perm.flatMap_right _ h
def Ord (l : List (Nat × Nat)) : Prop := l.Pairwise (fun x y => x.1 ≤ y.1)
theorem unitsE_srt {l : List (Nat × Nat)} (h : Ord l) : (unitsE l).Pairwise (fun x y => x.a ≤ y.a) := by
  induction l with
  | nil => exact List.Pairwise.nil
  | cons x r ih =>
    unfold Ord at h
    rw [List.pairwise_cons] at h
    rw [unitsE_cons]
    refine List.pairwise_append.2 ⟨List.pairwise_replicate.2 (Or.inr (Nat.le_refl _)), ih h.2, fun a ha b hb => ?_⟩
    rw [List.eq_of_mem_replicate ha]
    obtain ⟨y, hy, hb⟩ := List.mem_flatMap.1 hb
    rw [List.eq_of_mem_replicate hb]
    exact h.1 y hy
theorem unitsE_one {l : List (Nat × Nat)} : ∀ s ∈ unitsE l, s.a = s.b := by
  intro s hs
  obtain ⟨y, _, hb⟩ := List.mem_flatMap.1 hs
  rw [List.eq_of_mem_replicate hb]
/-- In whatever turn lumps of one tick stand. -/
theorem unitsE_same {l m : List (Nat × Nat)} (h : l.Perm m) (hl : Ord l) (hm : Ord m) : unitsE l = unitsE m := by
  refine List.Perm.eq_of_pairwise (le := fun x y : Span => x.a ≤ y.a) (fun a b ha hb h1 h2 => ?_) (unitsE_srt hl) (unitsE_srt hm) (unitsE_perm h)
  have e1 := unitsE_one a ha
  have e2 := unitsE_one b hb
  cases a; cases b
  simp only at *
  simp only [Span.mk.injEq]
  omega
end Go.Sk
end

-- WMx
section
namespace Go.Sk
open Go Go.Proofs

theorem mixed : Try.prog.follows .mixedOrders = true := by kernel_rfl
def nE (n : Nat) : List PV := [.int .u64 (n : Int)]
end Go.Sk
end

-- A12
section
namespace Go.Sk

structure Buf where (late : Nat) (room : Int) (mark : Nat) (front : Nat) (evs : List Event)
  deriving DecidableEq
def zeroB : Buf := ⟨0, 0, 0, 0, []⟩
/-- How many, at the head, are of ticks up to one. -/
def belowN (f : Nat) : List Event → Nat
  | [] => 0
  | e :: l => if e.t ≤ f then belowN f l + 1 else 0
theorem belowN_cons (f : Nat) (e : Event) (l : List Event) : belowN f (e :: l) = if e.t ≤ f then belowN f l + 1 else 0 := rfl
theorem belowN_le (f : Nat) (l : List Event) : belowN f l ≤ l.length := by
  induction l with
  | nil => exact Nat.le_refl _
  | cons e l ih => rw [belowN_cons]; split <;> simp <;> omega
theorem belowN_lt (f : Nat) : ∀ (l : List Event) (i : Nat) (h : i < l.length), i < belowN f l → (l[i]).t ≤ f := by
  intro l
  induction l with
  | nil => intro i h; simp at h
  | cons e l ih =>
    intro i h hi
    rw [belowN_cons] at hi
    split at hi
    · rename_i c
      cases i with
      | zero => exact c
      | succ i => exact ih i (by simpa using h) (by omega)
    · omega
theorem belowN_at (f : Nat) : ∀ (l : List Event) (h : belowN f l < l.length), f < (l[belowN f l]).t := by
  intro l
  induction l with
  | nil => intro h; simp at h
  | cons e l ih =>
    intro h
    by_cases c : e.t ≤ f
    · have e1 : belowN f (e :: l) = belowN f l + 1 := by rw [belowN_cons, if_pos c]
      have h2 : belowN f l < l.length := by rw [e1] at h; simpa using h
      simp only [e1, List.getElem_cons_succ]
      exact ih h2
    · have e1 : belowN f (e :: l) = 0 := by rw [belowN_cons, if_neg c]
      simp only [e1, List.getElem_cons_zero]; omega
/-- One by one: i of them are. -/
theorem belowN_step (f : Nat) (l : List Event) (i : Nat) (h : i < l.length) (hi : i ≤ belowN f l) : ((l[i]).t ≤ f → i + 1 ≤ belowN f l) ∧ (f < (l[i]).t → i = belowN f l) := by
  refine ⟨fun hb => ?_, fun hb => ?_⟩
  · apply Classical.byContradiction
    intro hc
    obtain rfl : i = belowN f l := by omega
    have := belowN_at f l h; omega
  · apply Classical.byContradiction
    intro hc
    have := belowN_lt f l i h (by omega); omega
theorem belowN_ge (f : Nat) : ∀ (l : List Event) (n : Nat), n ≤ l.length → (∀ i (h : i < l.length), i < n → (l[i]).t ≤ f) → n ≤ belowN f l := by
  intro l n hn h
  apply Classical.byContradiction
  intro hc
  have hlt : belowN f l < l.length := by omega
  have h1 := belowN_at f l hlt
  have h2 := h _ hlt (by omega)
  omega
theorem belowN_more (f : Nat) (l : List Event) (h : belowN f l < l.length) : belowN f l < belowN (l[belowN f l]).t l := by
  refine belowN_ge _ _ _ (by omega) fun i hi hlt => ?_
  by_cases c : i < belowN f l
  · have h1 := belowN_lt f l i hi c
    have h2 := belowN_at f l h
    omega
  · have : i = belowN f l := by omega
    subst this
    exact Nat.le_refl _
/-- The front, and how many go out. -/
def settleN (room : Nat) (l : List Event) (f : Nat) : Nat × Nat :=
  if h : room < l.length - belowN f l then settleN room l (l[belowN f l]'(by omega)).t else (f, belowN f l)
termination_by l.length - belowN f l
decreasing_by
  have := belowN_more f l (by omega)
  omega
theorem settleN_go {room : Nat} {l : List Event} {f : Nat} (h : room < l.length - belowN f l) : settleN room l f = settleN room l (l[belowN f l]'(by omega)).t := by
  rw [settleN, dif_pos h]
theorem settleN_end {room : Nat} {l : List Event} {f : Nat} (h : ¬ room < l.length - belowN f l) : settleN room l f = (f, belowN f l) := by
  rw [settleN, dif_neg h]
theorem settle_ind (room : Nat) (l : List Event) (p : Nat → Nat × Nat → Prop) (h0 : ∀ f, ¬ room < l.length - belowN f l → p f (f, belowN f l))
    (h1 : ∀ f r, (h : room < l.length - belowN f l) → p (l[belowN f l]'(by omega)).t r → p f r) : ∀ f, p f (settleN room l f) := by
  have key : ∀ n f, l.length - belowN f l ≤ n → p f (settleN room l f) := by
    intro n
    induction n with
    | zero => intro f hn; rw [settleN_end (by omega)]; exact h0 f (by omega)
    | succ n ih =>
      intro f hn
      by_cases c : room < l.length - belowN f l
      · rw [settleN_go c]
        have := belowN_more f l (by omega)
        exact h1 f _ c (ih _ (by omega))
      · rw [settleN_end c]; exact h0 f c
  exact fun f => key _ f (Nat.le_refl _)
theorem settle_facts (room : Nat) (l : List Event) : ∀ f, f ≤ (settleN room l f).1 ∧ (settleN room l f).2 = belowN (settleN room l f).1 l ∧ l.length - (settleN room l f).2 ≤ room ∧ (∀ m, f ≤ m → (∀ e ∈ l, e.t ≤ m) → (settleN room l f).1 ≤ m) := by
  refine settle_ind room l (fun f r => f ≤ r.1 ∧ r.2 = belowN r.1 l ∧ l.length - r.2 ≤ room ∧ (∀ m, f ≤ m → (∀ e ∈ l, e.t ≤ m) → r.1 ≤ m)) ?_ ?_
  · intro f h; exact ⟨Nat.le_refl _, rfl, by dsimp only; omega, fun m hm _ => hm⟩
  · intro f r h ⟨i1, i2, i3, i4⟩
    have := belowN_at f l (by omega)
    exact ⟨by omega, i2, i3, fun m hm hl => i4 m (hl _ (List.getElem_mem _)) hl⟩

/-- A buffer settled, and what goes out. -/
def settleB (b : Buf) : Buf × List Event :=
  (⟨b.late, b.room, b.mark, (settleN b.room.toNat b.evs (max b.front (b.mark - b.late))).1, b.evs.drop (settleN b.room.toNat b.evs (max b.front (b.mark - b.late))).2⟩, b.evs.take (settleN b.room.toNat b.evs (max b.front (b.mark - b.late))).2)
def insE (l : List Event) (e : Event) : List Event := l.take (belowN e.t l) ++ [e] ++ l.drop (belowN e.t l)
/-- An event comes. -/
def pushB (b : Buf) (e : Event) : (Buf × List Event) × Int :=
  if e.w = 0 then ((zeroB, []), 1) else if 9223372036854775807 < e.t then ((zeroB, []), 6) else if e.t < b.front then ((zeroB, []), 4)
  else (settleB ⟨b.late, b.room, max b.mark e.t, b.front, insE b.evs e⟩, 0)
/-- Time goes on. -/
def moveB (b : Buf) (t : Nat) : (Buf × List Event) × Int :=
  if 9223372036854775807 < t then ((zeroB, []), 6) else (settleB ⟨b.late, b.room, max b.mark t, b.front, b.evs⟩, 0)

/-! By the document. -/
def splO (f : Nat) (l : List Event) : List Event := l.filter (fun e => decide (e.t ≤ f))
def splS (f : Nat) (l : List Event) : List Event := l.filter (fun e => !decide (e.t ≤ f))
theorem splS_head (e : Event) (l : List Event) : (splS e.t (e :: l)).length < (e :: l).length := by
  unfold splS
  rw [List.filter_cons_of_neg (by simp)]
  have := List.length_filter_le (fun x => !decide (x.t ≤ e.t)) l
  simp only [List.length_cons]; omega
def docS (room f : Nat) (out stay : List Event) : Nat × List Event × List Event :=
  match stay with
  | [] => (f, out, [])
  | e :: l => if room < (e :: l).length then docS room e.t (out ++ splO e.t (e :: l)) (splS e.t (e :: l)) else (f, out, e :: l)
termination_by stay.length
decreasing_by exact splS_head e l
def Srt (l : List Event) : Prop := l.Pairwise (fun x y => x.t ≤ y.t)
theorem spl_eq (f : Nat) : ∀ l, Srt l → splO f l = l.take (belowN f l) ∧ splS f l = l.drop (belowN f l) := by
  intro l
  induction l with
  | nil => intro _; exact ⟨rfl, rfl⟩
  | cons e l ih =>
    intro h
    unfold Srt at h
    rw [List.pairwise_cons] at h
    obtain ⟨i1, i2⟩ := ih h.2
    unfold splO splS at *
    rw [belowN_cons]
    by_cases c : e.t ≤ f
    · rw [if_pos c, List.take_succ_cons, List.drop_succ_cons, List.filter_cons_of_pos (by simpa using c), List.filter_cons_of_neg (by simp; exact c), i1, i2]
      exact ⟨rfl, rfl⟩
    · rw [if_neg c, List.take_zero, List.drop_zero]
      have hall : ∀ x ∈ e :: l, ¬ x.t ≤ f := by
        intro x hx
        rcases List.mem_cons.1 hx with rfl | hx
        · exact c
        · have := h.1 x hx; omega
      refine ⟨List.filter_eq_nil_iff.2 fun x hx => by simpa using hall x hx, List.filter_eq_self.2 fun x hx => by simpa using hall x hx⟩
theorem Srt.drop {l : List Event} (h : Srt l) (n : Nat) : Srt (l.drop n) := List.Pairwise.sublist (List.drop_sublist n l) h
theorem Srt.take {l : List Event} (h : Srt l) (n : Nat) : Srt (l.take n) := List.Pairwise.sublist (List.take_sublist n l) h
theorem belowN_drop (f : Nat) : ∀ (l : List Event) (n : Nat), n ≤ belowN f l → belowN f (l.drop n) = belowN f l - n := by
  intro l
  induction l with
  | nil => intro n h; simp [belowN] at h ⊢
  | cons e l ih =>
    intro n h
    cases n with
    | zero => rfl
    | succ n =>
      rw [belowN_cons] at h ⊢
      split at h
      · rename_i c; rw [List.drop_succ_cons, ih n (by omega), if_pos c]; omega
      · omega
theorem docS_eq (room : Nat) (l : List Event) (hs : Srt l) : ∀ f, docS room f (l.take (belowN f l)) (l.drop (belowN f l)) = ((settleN room l f).1, l.take (settleN room l f).2, l.drop (settleN room l f).2) := by
  refine settle_ind room l (fun f r => docS room f (l.take (belowN f l)) (l.drop (belowN f l)) = (r.1, l.take r.2, l.drop r.2)) ?_ ?_
  · intro f h
    have hl : ¬ room < (l.drop (belowN f l)).length := by rw [List.length_drop]; exact h
    cases hd : l.drop (belowN f l) with
    | nil => rw [docS]
    | cons e r => rw [docS]; rw [hd] at hl; rw [if_neg hl]
  · intro f r h ih
    have hlt : belowN f l < l.length := by omega
    have hm := belowN_more f l hlt
    rw [List.drop_eq_getElem_cons hlt, docS]
    rw [if_pos (by simp only [List.length_cons, List.length_drop]; omega), ← List.drop_eq_getElem_cons hlt]
    obtain ⟨s1, s2⟩ := spl_eq (l[belowN f l]).t _ (hs.drop (belowN f l))
    rw [s1, s2, belowN_drop _ _ _ (by omega), List.drop_drop, ← List.take_add, show belowN f l + (belowN (l[belowN f l]).t l - belowN f l) = belowN (l[belowN f l]).t l by omega]
    exact ih
end Go.Sk
end
