/- Plain: histograms, level by level. -/
import Derived.Test.YtlbjacoigdpgfaaA5
set_option linter.unusedSimpArgs false
set_option linter.unusedVariables false
set_option linter.unusedSectionVars false
namespace Go.Sk

/-- The last bucket's last tick, of level 0. -/
def lastV (ls : List (List Span)) : Nat × Bool := match ls with
  | [] => (0, false)
  | l :: _ => match l.getLast? with | some s => (s.b, true) | none => (0, false)
/-- All buckets' weight, modulo 2^64. -/
noncomputable def totF (i n : Nat) : List (List Span) → Nat
  | [] => n
  | l :: r => totF (i + 1) (m64 (n + m64 (m64 l.length * 2 ^ min i 64))) r
noncomputable def totV (ls : List (List Span)) : Nat := totF 0 0 ls
theorem totF_snoc (l : List Span) : ∀ (r : List (List Span)) (i n : Nat), totF i n (r ++ [l]) = m64 (totF i n r + m64 (m64 l.length * 2 ^ min (i + r.length) 64)) := by
  intro r
  induction r with
  | nil => intro i n; simp [totF]
  | cons x r ih => intro i n; simp only [List.cons_append, totF, ih, List.length_cons]; rw [show i + 1 + r.length = i + (r.length + 1) from by omega]
theorem totF_take (ls : List (List Span)) (i : Nat) (h : i < ls.length) : totF 0 0 (ls.take (i + 1)) = m64 (totF 0 0 (ls.take i) + m64 (m64 (ls[i]).length * 2 ^ min i 64)) := by
  rw [List.take_succ_eq_append_getElem h, totF_snoc, List.length_take, Nat.min_eq_left (Nat.le_of_lt h), Nat.zero_add]
/-- The weight. -/
def totN : Nat → List (List Span) → Nat
  | _, [] => 0
  | i, l :: r => l.length * 2 ^ i + totN (i + 1) r
theorem totN_ge (ls : List (List Span)) : ∀ i, ∀ l ∈ ls, l ≠ [] → 2 ^ i ≤ totN i ls := by
  induction ls with
  | nil => intro i l h; cases h
  | cons x r ih =>
    intro i l h hne
    simp only [totN]
    rcases List.mem_cons.1 h with rfl | h
    · have : 1 ≤ l.length := by cases l with | nil => exact absurd rfl hne | cons a b => simp
      have := Nat.mul_le_mul_right (2 ^ i) this
      omega
    · have := ih (i + 1) l h hne
      rw [Nat.pow_succ] at this; omega
theorem totF_eq (ls : List (List Span)) : ∀ (i n : Nat), n + totN i ls < 18446744073709551616 → totF i n ls = n + totN i ls := by
  induction ls with
  | nil => intro i n _; simp [totF, totN]
  | cons l r ih =>
    intro i n h
    simp only [totF, totN] at h ⊢
    have hb : m64 (m64 l.length * 2 ^ min i 64) = l.length * 2 ^ i := by
      by_cases hl : l = []
      · subst hl; simp [m64_eq]
      · have h1 : 1 ≤ l.length := by cases l with | nil => exact absurd rfl hl | cons a b => simp
        have h3 : 2 ^ i ≤ l.length * 2 ^ i := by have := Nat.mul_le_mul_right (2 ^ i) h1; omega
        have hi : i < 64 := by
          apply Classical.byContradiction
          intro hc
          have : (2 : Nat) ^ 64 ≤ 2 ^ i := Nat.pow_le_pow_right (by decide) (by omega)
          have e : (2 : Nat) ^ 64 = 18446744073709551616 := by decide
          omega
        have h4 : l.length ≤ l.length * 2 ^ i := Nat.le_mul_of_pos_right _ (Nat.pow_pos (by decide))
        rw [Nat.min_eq_left (by omega), m64_id (show l.length < 18446744073709551616 by omega), m64_id (by omega)]
    rw [hb, m64_id (by omega), ih _ _ (by omega)]; omega
theorem totV_eq {ls : List (List Span)} (h : totN 0 ls < 18446744073709551616) : totV ls = totN 0 ls := by
  unfold totV; rw [totF_eq _ _ _ (by omega), Nat.zero_add]

theorem go_less (l : List Span) (most : Nat) (add : List Span) (many tick : Nat) (hm : 1 ≤ most) : (outsV l most add many tick).length + leftV l most add many = pairsN (l.length + add.length + many) most := by
  rw [outs_len _ _ _ _ _ hm]; unfold leftV outsN; omega
/-- What stays on each level, from level i on. -/
def flowV (k tick : Nat) (i : Nat) (ls : List (List Span)) (come : List Span) (many : Nat) : List (List Span) :=
  match ls with
  | l :: r => stayV l (mostN k i) come many tick :: flowV k tick (i + 1) r (outsV l (mostN k i) come many tick) (leftV l (mostN k i) come many)
  | [] => if _h : come.length + many = 0 then [] else
      stayV [] (mostN k i) come many tick :: flowV k tick (i + 1) [] (outsV [] (mostN k i) come many tick) (leftV [] (mostN k i) come many)
termination_by (ls.length, come.length + many)
decreasing_by
  · exact Prod.Lex.left _ _ (by simp)
  · refine Prod.Lex.right _ ?_
    rw [go_less _ _ _ _ _ (mostN_pos k i)]
    have := mostN_pos k i
    unfold pairsN; simp; omega
theorem flowV_nil {k tick i : Nat} {come : List Span} {many : Nat} (h : come.length + many = 0) : flowV k tick i [] come many = [] := by rw [flowV, dif_pos h]
theorem flowV_cons {k tick i : Nat} {ls : List (List Span)} {come : List Span} {many : Nat} (h : ¬ (ls = [] ∧ come.length + many = 0)) :
    flowV k tick i ls come many = stayV (ls.headD []) (mostN k i) come many tick :: flowV k tick (i + 1) ls.tail (outsV (ls.headD []) (mostN k i) come many tick) (leftV (ls.headD []) (mostN k i) come many) := by
  cases ls with
  | cons l r => rw [flowV]; rfl
  | nil => rw [flowV, dif_neg (by simpa using h)]; rfl
theorem flow_len (k tick : Nat) : ∀ (b i : Nat) (ls : List (List Span)) (come : List Span) (many : Nat), (∀ l ∈ ls, l.length < 2 ^ b) → come.length + many < 2 ^ b → (flowV k tick i ls come many).length ≤ ls.length + b := by
  have nil : ∀ (b i : Nat) (come : List Span) (many : Nat), come.length + many < 2 ^ b → (flowV k tick i [] come many).length ≤ b := by
    intro b
    induction b with
    | zero => intro i come many h; rw [flowV_nil (by simpa using h)]; simp
    | succ b ih =>
      intro i come many h
      by_cases h0 : come.length + many = 0
      · rw [flowV_nil h0]; simp
      · rw [flowV_cons (by simp only [true_and]; exact h0)]
        have hg := go_less [] (mostN k i) come many tick (mostN_pos k i)
        have hm := mostN_pos k i
        simp only [List.headD_nil, List.tail_nil, List.length_cons]
        have := ih (i + 1) (outsV [] (mostN k i) come many tick) (leftV [] (mostN k i) come many) (by rw [hg]; unfold pairsN; rw [Nat.pow_succ] at h; simp; omega)
        omega
  intro b i ls
  induction ls generalizing i with
  | nil => intro come many _ h; have := nil b i come many (by omega); simpa using this
  | cons l r ih =>
    intro come many hl h
    rw [flowV_cons (by simp)]
    have hg := go_less l (mostN k i) come many tick (mostN_pos k i)
    have hm := mostN_pos k i
    simp only [List.headD_cons, List.tail_cons, List.length_cons]
    have h1 := hl l List.mem_cons_self
    have := ih (i + 1) (outsV l (mostN k i) come many tick) (leftV l (mostN k i) come many) (fun x hx => hl x (List.mem_cons_of_mem _ hx)) (by rw [hg]; unfold pairsN; omega)
    omega
theorem outs_small {l add : List Span} {most many tick B : Nat} (hm : 1 ≤ most) (hl : l.length ≤ B) (ha : add.length ≤ B) : (outsV l most add many tick).length ≤ B := by
  rw [outs_len _ _ _ _ _ hm]; unfold outsN; omega
theorem left_small {l add : List Span} {most many B : Nat} (hl : l.length ≤ B) (ha : add.length ≤ B) (h : many ≤ 4611686018427387904 / 4) (hB : B ≤ 1099511627776) : leftV l most add many ≤ 4611686018427387904 / 4 := by
  unfold leftV outsN pairsN; omega

def zeroH : Hist := ⟨0, 0, []⟩
/-- Weight comes. -/
noncomputable def addV (k : Nat) (g : Int) (ls : List (List Span)) (tick w : Nat) : Hist × Int :=
  if w = 0 then (zeroH, 1)
  else if 9223372036854775807 < tick ∨ ((lastV ls).2 = true ∧ tick < (lastV ls).1) then (zeroH, 6)
  else if 4503599627370496 - totN 0 ls < w then (zeroH, 5)
  else (⟨k, g, flowV k tick 0 ls [] w⟩, 0)
end Go.Sk
