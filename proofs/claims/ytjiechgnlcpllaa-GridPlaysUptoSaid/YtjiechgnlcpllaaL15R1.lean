/- Texts A7 A18 W6h W15e W15f W15g W15h W15i W15j A7h A16 W13p W15k W15l W15u, joined. -/
import Derived.Test.YtjiechgnlcpllaaA6
import Derived.Test.YtjiechgnlcpllaaW6d
import Derived.Test.YtjiechgnlcpllaaW6b
import Derived.Test.YtjiechgnlcpllaaA15
import Derived.Test.YtjiechgnlcpllaaSkSq
import Derived.Test.YtjiechgnlcpllaaW8
import Derived.Test.YtjiechgnlcpllaaW6c
import Derived.Test.YtjiechgnlcpllaaW0
import Derived.Test.YtjiechgnlcpllaaSkCr
set_option linter.unusedSimpArgs false
set_option linter.unusedVariables false
set_option linter.unusedSectionVars false
-- A7
section
namespace Go.Sk

theorem stay_all (l add : List Span) (many tick most : Nat) (hm : 1 ≤ most) : (stayV l most add many tick).length + 2 * ((outsV l most add many tick).length + leftV l most add many) = l.length + add.length + many := by
  rw [go_less _ _ _ _ _ hm, stay_len]; unfold pairsN; omega
theorem stay_ne (l add : List Span) (many tick most : Nat) (hm : 2 ≤ most) (h : 0 < l.length + add.length + many) : stayV l most add many tick ≠ [] := by
  intro e
  have := congrArg List.length e
  rw [stay_len] at this; unfold pairsN at this; simp at this; omega
theorem mostN_two {k : Nat} (hk : 2 ≤ k) (i : Nat) : 2 ≤ mostN k i := by unfold mostN; split <;> omega

theorem flow_nil_ind (k tick : Nat) (p : Nat → List Span → Nat → Prop) (h0 : ∀ i come many, come.length + many = 0 → p i come many)
    (h1 : ∀ i come many, ¬ come.length + many = 0 → p (i + 1) (outsV [] (mostN k i) come many tick) (leftV [] (mostN k i) come many) → p i come many) : ∀ b i come many, come.length + many ≤ b → p i come many := by
  intro b
  induction b with
  | zero => intro i come many h; exact h0 _ _ _ (by omega)
  | succ b ih =>
    intro i come many h
    by_cases hz : come.length + many = 0
    · exact h0 _ _ _ hz
    · refine h1 i come many hz (ih _ _ _ ?_)
      rw [go_less _ _ _ _ _ (mostN_pos k i)]
      have := mostN_pos k i
      unfold pairsN; simp; omega
theorem flow_ind (k tick : Nat) (p : Nat → List (List Span) → List Span → Nat → Prop) (h0 : ∀ i come many, come.length + many = 0 → p i [] come many)
    (h1 : ∀ i ls come many, ¬ (ls = [] ∧ come.length + many = 0) → p (i + 1) ls.tail (outsV (ls.headD []) (mostN k i) come many tick) (leftV (ls.headD []) (mostN k i) come many) → p i ls come many) : ∀ ls i come many, p i ls come many := by
  have hnil : ∀ i come many, p i [] come many := fun i come many =>
    flow_nil_ind k tick (fun i come many => p i [] come many) h0 (fun i come many hz hp => h1 i [] come many (by simpa using hz) hp) _ i come many (Nat.le_refl _)
  intro ls
  induction ls with
  | nil => exact hnil
  | cons l r ih => intro i come many; exact h1 i (l :: r) come many (by simp) (ih _ _ _)

theorem flow_tot (k tick : Nat) : ∀ ls i come many, totN i (flowV k tick i ls come many) = totN i ls + (come.length + many) * 2 ^ i := by
  refine flow_ind k tick (fun i ls come many => totN i (flowV k tick i ls come many) = totN i ls + (come.length + many) * 2 ^ i) ?_ ?_
  · intro i come many h; rw [flowV_nil h, h]; simp
  · intro i ls come many h ih
    rw [flowV_cons h]
    simp only [totN]
    rw [ih]
    have hs := stay_all (ls.headD []) come many tick (mostN k i) (mostN_pos k i)
    have ht : totN i ls = (ls.headD []).length * 2 ^ i + totN (i + 1) ls.tail := by cases ls <;> simp [totN]
    rw [ht]
    generalize (stayV (ls.headD []) (mostN k i) come many tick).length = A at *
    generalize (outsV (ls.headD []) (mostN k i) come many tick).length + leftV (ls.headD []) (mostN k i) come many = B at *
    generalize (ls.headD []).length = C at *
    have e : C * 2 ^ i + (come.length + many) * 2 ^ i = A * 2 ^ i + (2 * B) * 2 ^ i := by
      rw [← Nat.add_mul, ← Nat.add_mul]; congr 1; omega
    have e2 : B * 2 ^ (i + 1) = (2 * B) * 2 ^ i := by rw [Nat.pow_succ, Nat.mul_comm 2 B, Nat.mul_assoc, Nat.mul_comm 2]
    omega
theorem flow_small (k tick : Nat) : ∀ ls i come many, ∀ l ∈ flowV k tick i ls come many, l.length ≤ k + 2 := by
  refine flow_ind k tick (fun i ls come many => ∀ l ∈ flowV k tick i ls come many, l.length ≤ k + 2) ?_ ?_
  · intro i come many h l hl; rw [flowV_nil h] at hl; cases hl
  · intro i ls come many h ih l hl
    rw [flowV_cons h] at hl
    rcases List.mem_cons.1 hl with rfl | hl
    · exact Nat.le_trans (stay_le _ _ _ _ _ (mostN_pos k i)) (mostN_le k i)
    · exact ih l hl
theorem flow_ne (k tick : Nat) (hk : 2 ≤ k) : ∀ ls i come many, (∀ l ∈ ls, l ≠ []) → ∀ l ∈ flowV k tick i ls come many, l ≠ [] := by
  refine flow_ind k tick (fun i ls come many => (∀ l ∈ ls, l ≠ []) → ∀ l ∈ flowV k tick i ls come many, l ≠ []) ?_ ?_
  · intro i come many h _ l hl; rw [flowV_nil h] at hl; cases hl
  · intro i ls come many h ih hne l hl
    rw [flowV_cons h] at hl
    rcases List.mem_cons.1 hl with rfl | hl
    · refine stay_ne _ _ _ _ _ (mostN_two hk i) ?_
      cases ls with
      | nil => simp only [true_and] at h; simp; omega
      | cons x r =>
        have := hne x List.mem_cons_self
        cases x with
        | nil => exact absurd rfl this
        | cons a b => simp; omega
    · exact ih (fun x hx => hne x (List.mem_of_mem_tail hx)) l hl
theorem tot_levels : ∀ (ls : List (List Span)) (i : Nat), (∀ l ∈ ls, l ≠ []) → 2 ^ (i + ls.length) ≤ totN i ls + 2 ^ i := by
  intro ls
  induction ls with
  | nil => intro i _; simp
  | cons l r ih =>
    intro i h
    have := ih (i + 1) (fun x hx => h x (List.mem_cons_of_mem _ hx))
    have hl : 1 ≤ l.length := by have := h l List.mem_cons_self; cases l with | nil => exact absurd rfl this | cons a b => simp
    have h2 := Nat.mul_le_mul_right (2 ^ i) hl
    simp only [totN, List.length_cons]
    rw [show i + (r.length + 1) = i + 1 + r.length by omega]
    rw [Nat.pow_succ 2 i] at this
    omega

/-- A histogram that came to be by adding alone. -/
structure Hist.Good (h : Hist) : Prop where
  k0 : 2 ≤ h.k
  k1 : h.k ≤ 1024
  ne : ∀ l ∈ h.ls, l ≠ []
  sm : ∀ l ∈ h.ls, l.length ≤ h.k.toNat + 2
  tot : totN 0 h.ls ≤ 4503599627370496
theorem Hist.Good.len {h : Hist} (g : h.Good) : h.ls.length ≤ 53 := by
  have := tot_levels h.ls 0 g.ne
  have h2 := g.tot
  apply Classical.byContradiction
  intro hc
  have : (2 : Nat) ^ 54 ≤ 2 ^ (0 + h.ls.length) := Nat.pow_le_pow_right (by decide) (by omega)
  have e : (2 : Nat) ^ 54 = 18014398509481984 := by decide
  omega
theorem addV_good {h : Hist} (g : h.Good) (t w : Nat) (e : (addV h.k.toNat h.g h.ls t w).2 = 0) : (addV h.k.toNat h.g h.ls t w).1.Good ∧ (addV h.k.toNat h.g h.ls t w).1.k = h.k ∧ (addV h.k.toNat h.g h.ls t w).1.g = h.g ∧ totN 0 (addV h.k.toNat h.g h.ls t w).1.ls = totN 0 h.ls + w := by
  obtain ⟨k, gg, ls⟩ := h
  obtain ⟨h1, h2, h3, h4, h5⟩ := g
  dsimp only at h1 h2 h3 h4 h5 e ⊢
  obtain ⟨k, rfl⟩ : ∃ k' : Nat, k = k' := ⟨k.toNat, by omega⟩
  rw [Int.toNat_natCast] at *
  unfold addV at e ⊢
  split
  · rename_i c; rw [if_pos c] at e; simp at e
  · rename_i c; rw [if_neg c] at e
    split
    · rename_i c; rw [if_pos c] at e; simp at e
    · rename_i c; rw [if_neg c] at e
      split
      · rename_i c; rw [if_pos c] at e; simp at e
      · rename_i c2
        have ht := flow_tot k t ls 0 [] w
        simp only [List.length_nil, Nat.zero_add, Nat.pow_zero, Nat.mul_one] at ht
        refine ⟨⟨h1, h2, flow_ne k t (by omega) ls 0 [] w h3, ?_, ?_⟩, rfl, rfl, ht⟩
        · intro l hl; rw [Int.toNat_natCast]; exact flow_small k t ls 0 [] w l hl
        · dsimp only; rw [ht]; omega
end Go.Sk
end

-- A18
section
namespace Go.Sk

/-- All buckets, the oldest ones first. -/
def flat : List (List Span) → List Span
  | [] => []
  | l :: r => flat r ++ l
theorem flat_tail (ls : List (List Span)) : flat ls = flat ls.tail ++ ls.headD [] := by cases ls <;> simp [flat]
def Bef (x y : Span) : Prop := x.b ≤ y.a
def Mono (W : Nat → Bool) : Prop := ∀ x y, x ≤ y → W x = true → W y = true
def lo (W : Nat → Bool) (l : List Span) : Nat := l.countP (fun s => W s.a)
def hi (W : Nat → Bool) (l : List Span) : Nat := l.countP (fun s => W s.b)
def loL (W : Nat → Bool) : Nat → List (List Span) → Nat
  | _, [] => 0
  | i, l :: r => lo W l * 2 ^ i + loL W (i + 1) r
def hiL (W : Nat → Bool) : Nat → List (List Span) → Nat
  | _, [] => 0
  | i, l :: r => hi W l * 2 ^ i + hiL W (i + 1) r
theorem loL_tail (W : Nat → Bool) (i : Nat) (ls : List (List Span)) : loL W i ls = lo W (ls.headD []) * 2 ^ i + loL W (i + 1) ls.tail := by cases ls <;> simp [loL, lo]
theorem hiL_tail (W : Nat → Bool) (i : Nat) (ls : List (List Span)) : hiL W i ls = hi W (ls.headD []) * 2 ^ i + hiL W (i + 1) ls.tail := by cases ls <;> simp [hiL, hi]
theorem lo_app (W : Nat → Bool) (l m : List Span) : lo W (l ++ m) = lo W l + lo W m := List.countP_append
theorem hi_app (W : Nat → Bool) (l m : List Span) : hi W (l ++ m) = hi W l + hi W m := List.countP_append
theorem lo_rep (W : Nat → Bool) (n t : Nat) : lo W (List.replicate n ⟨t, t⟩) = if W t = true then n else 0 := by unfold lo; rw [List.countP_replicate]
theorem hi_rep (W : Nat → Bool) (n t : Nat) : hi W (List.replicate n ⟨t, t⟩) = if W t = true then n else 0 := by unfold hi; rw [List.countP_replicate]

theorem pairUp_take (l : List Span) : ∀ p, pairUp (l.take (2 * p)) = (pairUp l).take p := by
  induction l using pairUp.induct with
  | case1 a b r ih =>
    intro p
    cases p with
    | zero => simp [pairUp]
    | succ p =>
      rw [show 2 * (p + 1) = 2 * p + 1 + 1 by omega]
      simp only [List.take_succ_cons, pairUp, ih]
  | case2 l h =>
    intro p
    match l, h with
    | [], _ => simp [pairUp]
    | [x], _ =>
      cases p with
      | zero => simp [pairUp]
      | succ p => rw [show 2 * (p + 1) = 2 * p + 1 + 1 by omega]; simp [pairUp]
    | x :: y :: r, h => exact absurd rfl (h x y r)
/-- What leaves a level. -/
theorem pair_all (l add : List Span) (many tick most : Nat) (hm : 1 ≤ most) :
    outsV l most add many tick ++ List.replicate (leftV l most add many) ⟨tick, tick⟩ = pairUp ((lineV l add many tick).take (2 * pairsN (l.length + add.length + many) most)) := by
  rw [pairUp_take]
  have h2 : outsN (l.length + add.length) most many ≤ pairsN (l.length + add.length + many) most := by unfold outsN; omega
  have hlen : (pairUp (lineV l add many tick)).length = (l.length + add.length + many) / 2 := by rw [pairUp_length, lineV_length]
  have hp : pairsN (l.length + add.length + many) most ≤ (l.length + add.length + many) / 2 := by unfold pairsN; omega
  apply List.ext_getElem
  · rw [List.length_append, List.length_replicate, outs_len _ _ _ _ _ hm, List.length_take, hlen]
    unfold leftV; omega
  · intro i h3 h4
    rw [List.length_take, hlen] at h4
    have hol := outs_len l add many tick most hm
    have hi : i < (pairUp (lineV l add many tick)).length := by omega
    rw [List.getElem_take]
    by_cases hc : i < (outsV l most add many tick).length
    · rw [List.getElem_append_left hc]
      exact List.getElem_take
    · rw [List.getElem_append_right (by omega), List.getElem_replicate]
      rw [hol] at hc
      have hj : (l.length + add.length + 1) / 2 ≤ i := by unfold outsN at hc; omega
      rw [pairUp_get _ i hi (by rw [lineV_length]; omega) (by rw [lineV_length]; omega)]
      rw [lineV_ge (by omega), lineV_ge (by omega)]
theorem flow_c (k tick : Nat) (p : Nat → List (List Span) → List Span → List (List Span) → Prop) (h0 : ∀ i, p i [] [] [])
    (h1 : ∀ i ls c out, ¬ (ls = [] ∧ c = []) → p (i + 1) ls.tail (pairUp ((ls.headD [] ++ c).take (2 * pairsN (ls.headD [] ++ c).length (mostN k i)))) out →
      p i ls c ((ls.headD [] ++ c).drop (2 * pairsN (ls.headD [] ++ c).length (mostN k i)) :: out)) :
    ∀ ls i come many, p i ls (come ++ List.replicate many (⟨tick, tick⟩ : Span)) (flowV k tick i ls come many) := by
  refine flow_ind k tick (fun i ls come many => p i ls (come ++ List.replicate many (⟨tick, tick⟩ : Span)) (flowV k tick i ls come many)) ?_ ?_
  · intro i come many h
    rw [flowV_nil h]
    obtain rfl : come = [] := List.eq_nil_of_length_eq_zero (by omega)
    obtain rfl : many = 0 := by simpa using h
    exact h0 i
  · intro i ls come many h ih
    rw [flowV_cons h]
    rw [pair_all _ _ _ _ _ (mostN_pos k i)] at ih
    have e1 : lineV (ls.headD []) come many tick = ls.headD [] ++ (come ++ List.replicate many (⟨tick, tick⟩ : Span)) := by unfold lineV; rw [List.append_assoc]
    have e2 : (ls.headD []).length + come.length + many = (ls.headD [] ++ (come ++ List.replicate many (⟨tick, tick⟩ : Span))).length := by simp; omega
    rw [e2, e1] at ih
    have := h1 i ls (come ++ List.replicate many (⟨tick, tick⟩ : Span)) _ (by
      rintro ⟨rfl, hc⟩
      apply h
      have := congrArg List.length hc
      simp at this
      refine ⟨rfl, ?_⟩
      simp [this]) ih
    unfold stayV
    rw [e2, e1]
    exact this

theorem pairUp_none {l : List Span} (h : ∀ a b r, ¬ l = a :: b :: r) : pairUp l = [] := by
  match l, h with
  | [], _ => rfl
  | [x], _ => rfl
  | x :: y :: r, h => exact absurd rfl (h x y r)
theorem pairUp_mem (P : List Span) : ∀ z ∈ pairUp P, ∃ x ∈ P, ∃ y ∈ P, z = ⟨x.a, y.b⟩ := by
  induction P using pairUp.induct with
  | case1 a b r ih =>
    intro z hz
    rcases List.mem_cons.1 hz with rfl | hz
    · exact ⟨a, by simp, b, by simp, rfl⟩
    · obtain ⟨x, hx, y, hy, rfl⟩ := ih z hz
      exact ⟨x, by simp [hx], y, by simp [hy], rfl⟩
  | case2 l h =>
    intro z hz
    rw [pairUp_none h] at hz; cases hz
theorem pairUp_srt (P : List Span) : P.Pairwise Bef → (∀ s ∈ P, s.a ≤ s.b) → (pairUp P).Pairwise Bef ∧ ∀ s ∈ pairUp P, s.a ≤ s.b := by
  induction P using pairUp.induct with
  | case1 a b r ih =>
    intro h hv
    rw [List.pairwise_cons, List.pairwise_cons] at h
    obtain ⟨h1, h2, h3⟩ := h
    obtain ⟨i1, i2⟩ := ih h3 (fun s hs => hv s (by simp [hs]))
    have hab : a.b ≤ b.a := h1 b (by simp)
    have hva := hv a (by simp); have hvb := hv b (by simp)
    refine ⟨?_, ?_⟩
    · simp only [pairUp, List.pairwise_cons]
      refine ⟨fun z hz => ?_, i1⟩
      obtain ⟨x, hx, y, hy, rfl⟩ := pairUp_mem r z hz
      exact h2 x hx
    · intro s hs
      rcases List.mem_cons.1 hs with rfl | hs
      · show a.a ≤ b.b; omega
      · exact i2 s hs
  | case2 l h =>
    intro _ _
    have : pairUp l = [] := pairUp_none h
    rw [this]; exact ⟨List.Pairwise.nil, fun s hs => (by cases hs)⟩
theorem pairUp_lo (W : Nat → Bool) (hW : Mono W) (P : List Span) : P.Pairwise Bef → (∀ s ∈ P, s.a ≤ s.b) → 2 * lo W (pairUp P) ≤ lo W P := by
  induction P using pairUp.induct with
  | case1 a b r ih =>
    intro h hv
    rw [List.pairwise_cons, List.pairwise_cons] at h
    obtain ⟨h1, h2, h3⟩ := h
    have i1 := ih h3 (fun s hs => hv s (by simp [hs]))
    have hab : a.b ≤ b.a := h1 b (by simp)
    have hva := hv a (by simp)
    unfold lo at i1 ⊢
    simp only [pairUp, List.countP_cons]
    cases hc : W a.a with
    | false => simp; omega
    | true => rw [hW a.a b.a (by omega) hc]; simp; omega
  | case2 l h =>
    intro _ _
    have : pairUp l = [] := pairUp_none h
    rw [this]; simp [lo]
theorem pairUp_hi (W : Nat → Bool) (hW : Mono W) (P : List Span) : P.Pairwise Bef → (∀ s ∈ P, s.a ≤ s.b) → P.length % 2 = 0 → hi W P ≤ 2 * hi W (pairUp P) := by
  induction P using pairUp.induct with
  | case1 a b r ih =>
    intro h hv he
    rw [List.pairwise_cons, List.pairwise_cons] at h
    obtain ⟨h1, h2, h3⟩ := h
    have i1 := ih h3 (fun s hs => hv s (by simp [hs])) (by simp only [List.length_cons] at he; omega)
    have hab : a.b ≤ b.a := h1 b (by simp)
    have hvb := hv b (by simp)
    unfold hi at i1 ⊢
    simp only [pairUp, List.countP_cons]
    cases hc : W b.b with
    | true => cases W a.b <;> simp <;> omega
    | false =>
      have : W a.b = false := by
        cases hd : W a.b with
        | false => rfl
        | true => rw [hW a.b b.b (by omega) hd] at hc; exact hc
      rw [this]; simp; omega
  | case2 l h =>
    intro _ _ he
    match l, h with
    | [], _ => simp [hi]
    | [x], _ => simp at he
    | x :: y :: r, h => exact absurd rfl (h x y r)

theorem flow_tidy (k tick : Nat) : ∀ ls i come many, (flat ls ++ (come ++ List.replicate many (⟨tick, tick⟩ : Span))).Pairwise Bef → (∀ s ∈ flat ls ++ (come ++ List.replicate many (⟨tick, tick⟩ : Span)), s.a ≤ s.b) →
    (flat (flowV k tick i ls come many)).Pairwise Bef ∧ (∀ s ∈ flat (flowV k tick i ls come many), s.a ≤ s.b) ∧
    (∀ m, (∀ s ∈ flat ls ++ (come ++ List.replicate many (⟨tick, tick⟩ : Span)), s.b ≤ m) → ∀ s ∈ flat (flowV k tick i ls come many), s.b ≤ m) ∧
    ∀ W, Mono W → loL W i (flowV k tick i ls come many) ≤ loL W i ls + lo W (come ++ List.replicate many (⟨tick, tick⟩ : Span)) * 2 ^ i ∧
      hiL W i ls + hi W (come ++ List.replicate many (⟨tick, tick⟩ : Span)) * 2 ^ i ≤ hiL W i (flowV k tick i ls come many) := by
  refine flow_c k tick (fun i ls c out => (flat ls ++ c).Pairwise Bef → (∀ s ∈ flat ls ++ c, s.a ≤ s.b) → (flat out).Pairwise Bef ∧ (∀ s ∈ flat out, s.a ≤ s.b) ∧
    (∀ m, (∀ s ∈ flat ls ++ c, s.b ≤ m) → ∀ s ∈ flat out, s.b ≤ m) ∧ ∀ W, Mono W → loL W i out ≤ loL W i ls + lo W c * 2 ^ i ∧ hiL W i ls + hi W c * 2 ^ i ≤ hiL W i out) ?_ ?_
  · intro i _ _
    refine ⟨List.Pairwise.nil, fun s hs => (by cases hs), fun m _ s hs => (by cases hs), fun W _ => ?_⟩
    simp [loL, hiL, lo, hi]
  · intro i ls c out hne ih hs hv
    have hm := mostN_pos k i
    have hq : 2 * pairsN (ls.headD [] ++ c).length (mostN k i) ≤ (ls.headD [] ++ c).length := by unfold pairsN; omega
    rw [flat_tail ls, List.append_assoc] at hs hv
    have hfl : flat ls ++ c = flat ls.tail ++ (ls.headD [] ++ c) := by rw [flat_tail ls, List.append_assoc]
    rw [hfl]
    have hl1 : ∀ W, lo W (ls.headD [] ++ c) = lo W (ls.headD []) + lo W c := fun W => lo_app W _ _
    have hh1 : ∀ W, hi W (ls.headD [] ++ c) = hi W (ls.headD []) + hi W c := fun W => hi_app W _ _
    generalize hL : ls.headD [] ++ c = L at *
    generalize hQ : 2 * pairsN L.length (mostN k i) = q at *
    have hev : q % 2 = 0 := by omega
    have hsp : L.take q ++ L.drop q = L := List.take_append_drop q L
    have hs' := hs
    rw [← hsp, List.pairwise_append, List.pairwise_append] at hs'
    obtain ⟨s1, ⟨s2, s3, s4⟩, s5⟩ := hs'
    have hvL : ∀ s ∈ L, s.a ≤ s.b := fun s h => hv s (List.mem_append_right _ h)
    have hvT : ∀ s ∈ L.take q, s.a ≤ s.b := fun s h => hvL s (List.mem_of_mem_take h)
    obtain ⟨p1, p2⟩ := pairUp_srt (L.take q) s2 hvT
    have cross : ∀ x ∈ flat ls.tail, ∀ z ∈ pairUp (L.take q), Bef x z := by
      intro x hx z hz
      obtain ⟨u, hu, v, hv2, rfl⟩ := pairUp_mem _ z hz
      exact s5 x hx u (by rw [List.take_append_drop]; exact List.mem_of_mem_take hu)
    obtain ⟨i1, i2, i3, i4⟩ := ih (List.pairwise_append.2 ⟨s1, p1, cross⟩) (fun s h => by
      rcases List.mem_append.1 h with h | h
      · exact hv s (List.mem_append_left _ h)
      · exact p2 s h)
    refine ⟨?_, ?_, ?_, ?_⟩
    · show (flat out ++ L.drop q).Pairwise Bef
      refine List.pairwise_append.2 ⟨i1, s3, fun x hx y hy => ?_⟩
      refine i3 y.a (fun s h => ?_) x hx
      rcases List.mem_append.1 h with h | h
      · exact s5 s h y (by rw [List.take_append_drop]; exact List.mem_of_mem_drop hy)
      · obtain ⟨u, hu, v, hv2, rfl⟩ := pairUp_mem _ s h
        exact s4 v hv2 y hy
    · intro s h
      rcases List.mem_append.1 h with h | h
      · exact i2 s h
      · exact hvL s (List.mem_of_mem_drop h)
    · intro m hm2 s h
      rcases List.mem_append.1 h with h | h
      · refine i3 m (fun z hz => ?_) s h
        rcases List.mem_append.1 hz with hz | hz
        · exact hm2 z (List.mem_append_left _ hz)
        · obtain ⟨u, hu, v, hv2, rfl⟩ := pairUp_mem _ z hz
          exact hm2 v (List.mem_append_right _ (List.mem_of_mem_take hv2))
      · exact hm2 s (List.mem_append_right _ (List.mem_of_mem_drop h))
    · intro W hW
      obtain ⟨j1, j2⟩ := i4 W hW
      have k1 := pairUp_lo W hW (L.take q) s2 hvT
      have k2 := pairUp_hi W hW (L.take q) s2 hvT (by rw [List.length_take]; omega)
      have k3 : lo W L = lo W (L.take q) + lo W (L.drop q) := by rw [← lo_app, hsp]
      have k4 : hi W L = hi W (L.take q) + hi W (L.drop q) := by rw [← hi_app, hsp]
      have k5 := hl1 W; have k6 := hh1 W
      rw [loL_tail W i ls, hiL_tail W i ls]
      show lo W (L.drop q) * 2 ^ i + loL W (i + 1) out ≤ _ ∧ _ ≤ hi W (L.drop q) * 2 ^ i + hiL W (i + 1) out
      rw [Nat.pow_succ] at j1 j2
      have m1 : 2 * lo W (pairUp (L.take q)) * 2 ^ i ≤ lo W (L.take q) * 2 ^ i := Nat.mul_le_mul_right _ k1
      have m2 : hi W (L.take q) * 2 ^ i ≤ 2 * hi W (pairUp (L.take q)) * 2 ^ i := Nat.mul_le_mul_right _ k2
      have e1 : lo W (pairUp (L.take q)) * (2 ^ i * 2) = 2 * lo W (pairUp (L.take q)) * 2 ^ i := by rw [Nat.mul_comm (2 ^ i) 2, ← Nat.mul_assoc, Nat.mul_comm _ 2]
      have e2 : hi W (pairUp (L.take q)) * (2 ^ i * 2) = 2 * hi W (pairUp (L.take q)) * 2 ^ i := by rw [Nat.mul_comm (2 ^ i) 2, ← Nat.mul_assoc, Nat.mul_comm _ 2]
      have e3 : lo W (ls.headD []) * 2 ^ i + lo W c * 2 ^ i = lo W (L.take q) * 2 ^ i + lo W (L.drop q) * 2 ^ i := by rw [← Nat.add_mul, ← Nat.add_mul]; congr 1; omega
      have e4 : hi W (ls.headD []) * 2 ^ i + hi W c * 2 ^ i = hi W (L.take q) * 2 ^ i + hi W (L.drop q) * 2 ^ i := by rw [← Nat.add_mul, ← Nat.add_mul]; congr 1; omega
      omega

/-- Each level, but the last one, is full. -/
def Full (k : Nat) : Nat → List (List Span) → Prop
  | _, [] => True
  | i, l :: r => (r ≠ [] → mostN k i ≤ l.length + 1) ∧ Full k (i + 1) r
theorem flow_full (k tick : Nat) : ∀ ls i come many, Full k i ls → Full k i (flowV k tick i ls come many) := by
  intro ls i come many
  refine (flow_c k tick (fun i ls c out => (ls = [] → c = [] → out = []) ∧ (Full k i ls → Full k i out)) ?_ ?_ ls i come many).2
  · intro i; exact ⟨fun _ _ => rfl, id⟩
  · intro i ls c out hne ih
    refine ⟨fun h1 h2 => absurd ⟨h1, h2⟩ hne, fun hf => ?_⟩
    have hm := mostN_pos k i
    refine ⟨fun ho => ?_, ih.2 (by cases ls with | nil => trivial | cons l r => exact hf.2)⟩
    rw [List.length_drop]
    by_cases hp : pairsN (ls.headD [] ++ c).length (mostN k i) = 0
    · rw [hp] at ih ⊢
      have ht : ls.tail ≠ [] := fun ht => ho (ih.1 ht (by simp [pairUp]))
      cases ls with
      | nil => exact absurd rfl ht
      | cons l r => have := hf.1 ht; simp only [List.headD_cons, List.length_append]; omega
    · unfold pairsN at hp ⊢; omega

/-- As a histogram is that no merge made. -/
structure Tidy (k : Nat) (ls : List (List Span)) : Prop where
  srt : (flat ls).Pairwise Bef
  val : ∀ s ∈ flat ls, s.a ≤ s.b
  low : ∀ s ∈ ls.headD [], s.a = s.b
  full : Full k 0 ls
theorem last_le {k : Nat} {ls : List (List Span)} (h : Tidy k ls) (hne : ∀ l ∈ ls, l ≠ []) {t : Nat} (ht : ¬ ((lastV ls).2 = true ∧ t < (lastV ls).1)) : ∀ s ∈ flat ls, s.b ≤ t := by
  cases ls with
  | nil => intro s hs; cases hs
  | cons l r =>
    have hl := hne l (by simp)
    obtain ⟨d, x, rfl⟩ : ∃ d x, l = d ++ [x] := ⟨l.dropLast, l.getLast hl, (List.dropLast_concat_getLast hl).symm⟩
    have hx : lastV ((d ++ [x]) :: r) = (x.b, true) := by simp [lastV]
    rw [hx] at ht
    simp only [true_and] at ht
    have e : flat ((d ++ [x]) :: r) = (flat r ++ d) ++ [x] := by simp [flat]
    have hs := h.srt
    have hv := h.val
    rw [e] at hs hv ⊢
    obtain ⟨_, _, h3⟩ := List.pairwise_append.1 hs
    have hvx := hv x (by simp)
    intro s h
    rcases List.mem_append.1 h with h | h
    · have := h3 s h x (by simp)
      unfold Bef at this; omega
    · simp only [List.mem_singleton] at h; subst h; omega
theorem addV_tidy {h : Hist} (g : h.Good) (hT : Tidy h.k.toNat h.ls) (t w : Nat) (e : (addV h.k.toNat h.g h.ls t w).2 = 0) : Tidy h.k.toNat (addV h.k.toNat h.g h.ls t w).1.ls ∧
    ∀ W, Mono W → loL W 0 (addV h.k.toNat h.g h.ls t w).1.ls ≤ loL W 0 h.ls + (if W t = true then w else 0) ∧ hiL W 0 h.ls + (if W t = true then w else 0) ≤ hiL W 0 (addV h.k.toNat h.g h.ls t w).1.ls := by
  unfold addV at e ⊢
  split
  · rename_i c; rw [if_pos c] at e; simp at e
  rename_i c; rw [if_neg c] at e
  split
  · rename_i c; rw [if_pos c] at e; simp at e
  rename_i c2; rw [if_neg c2] at e
  split
  · rename_i c; rw [if_pos c] at e; simp at e
  have hle := last_le hT g.ne (t := t) (fun hc => c2 (Or.inr hc))
  have hs : (flat h.ls ++ ([] ++ List.replicate w (⟨t, t⟩ : Span))).Pairwise Bef := by
    refine List.pairwise_append.2 ⟨hT.srt, ?_, ?_⟩
    · rw [List.nil_append]; exact List.pairwise_replicate.2 (Or.inr (Nat.le_refl t))
    · intro x hx y hy
      rw [List.nil_append] at hy
      rw [List.eq_of_mem_replicate hy]; exact hle x hx
  have hv : ∀ s ∈ flat h.ls ++ ([] ++ List.replicate w (⟨t, t⟩ : Span)), s.a ≤ s.b := by
    intro s hs
    rcases List.mem_append.1 hs with hs | hs
    · exact hT.val s hs
    · rw [List.nil_append] at hs; rw [List.eq_of_mem_replicate hs]; exact Nat.le_refl _
  obtain ⟨r1, r2, _, r4⟩ := flow_tidy h.k.toNat t h.ls 0 [] w hs hv
  refine ⟨⟨r1, r2, ?_, flow_full _ _ _ _ _ _ hT.full⟩, fun W hW => ?_⟩
  · intro s hs
    dsimp only at hs
    rw [flowV_cons (by rintro ⟨_, h0⟩; simp at h0; exact c h0)] at hs
    simp only [List.headD_cons] at hs
    unfold stayV lineV at hs
    have := List.mem_of_mem_drop hs
    rw [List.append_nil] at this
    rcases List.mem_append.1 this with h1 | h1
    · exact hT.low s h1
    · rw [List.eq_of_mem_replicate h1]
  · have := r4 W hW
    rw [List.nil_append, lo_rep, hi_rep, Nat.pow_zero, Nat.mul_one] at this
    exact this
theorem empty_tidy (k : Nat) : Tidy k [] := ⟨List.Pairwise.nil, fun s hs => (by cases hs), fun s hs => (by cases hs), trivial⟩

/-- Of a level, one bucket at most is cut. -/
theorem cut_one (W : Nat → Bool) (hW : Mono W) : ∀ l : List Span, l.Pairwise Bef → (∀ s ∈ l, s.a ≤ s.b) → hi W l = lo W l ∨ hi W l = lo W l + 1 := by
  intro l
  induction l with
  | nil => intro _ _; exact Or.inl rfl
  | cons x t ih =>
    intro h hv
    rw [List.pairwise_cons] at h
    have hx := hv x (by simp)
    have i := ih h.2 (fun s hs => hv s (by simp [hs]))
    cases hc : W x.b with
    | true =>
      have h1 : lo W t = t.length := by
        unfold lo; rw [List.countP_eq_length]
        intro y hy; exact hW x.b y.a (h.1 y hy) hc
      have h2 : hi W t = t.length := by
        unfold hi; rw [List.countP_eq_length]
        intro y hy; exact hW x.b y.b (Nat.le_trans (h.1 y hy) (hv y (by simp [hy]))) hc
      unfold lo at h1 ⊢
      unfold hi at h2 ⊢
      simp only [List.countP_cons, hc]
      cases W x.a <;> simp <;> omega
    | false =>
      have : W x.a = false := by
        cases hd : W x.a with
        | false => rfl
        | true => rw [hW x.a x.b hx hd] at hc; exact hc
      unfold lo hi at i
      unfold lo hi
      simp only [List.countP_cons, hc, this]
      simpa using i
theorem hi_pos (W : Nat → Bool) : ∀ (ls : List (List Span)) (i : Nat), 0 < hiL W i ls → ∃ s ∈ flat ls, W s.b = true := by
  intro ls
  induction ls with
  | nil => intro i h; simp [hiL] at h
  | cons l r ih =>
    intro i h
    unfold hiL at h
    by_cases hc : hi W l = 0
    · rw [hc] at h
      obtain ⟨s, hs, hb⟩ := ih (i + 1) (by omega)
      exact ⟨s, List.mem_append_left _ hs, hb⟩
    · obtain ⟨s, hs, hb⟩ := List.countP_pos_iff.1 (Nat.pos_of_ne_zero hc)
      exact ⟨s, List.mem_append_right _ hs, hb⟩
theorem cut_all (k : Nat) (W : Nat → Bool) (hW : Mono W) : ∀ (ls : List (List Span)) (i : Nat), (flat ls).Pairwise Bef → (∀ s ∈ flat ls, s.a ≤ s.b) → (i = 0 → ∀ s ∈ ls.headD [], s.a = s.b) → Full k i ls →
    hiL W i ls = loL W i ls ∨ ∃ j, i ≤ j ∧ 1 ≤ j ∧ hiL W i ls = loL W i ls + 2 ^ j ∧ k * 2 ^ j ≤ 2 * loL W i ls + (if i = 0 then 0 else k * 2 ^ i) := by
  intro ls
  induction ls with
  | nil => intro i _ _ _ _; exact Or.inl rfl
  | cons l r ih =>
    intro i hs hv hlow hf
    obtain ⟨s1, s2, s3⟩ := List.pairwise_append.1 (show (flat r ++ l).Pairwise Bef from hs)
    have hvl : ∀ s ∈ l, s.a ≤ s.b := fun s h => hv s (List.mem_append_right _ h)
    have hvr : ∀ s ∈ flat r, s.a ≤ s.b := fun s h => hv s (List.mem_append_left _ h)
    have c1 := cut_one W hW l s2 hvl
    unfold hiL loL
    rcases ih (i + 1) s1 hvr (by omega) hf.2 with hr | ⟨j, hj, hj1, hr, hb⟩
    · rcases c1 with c1 | c1
      · left; rw [c1, hr]
      · right
        by_cases h0 : i = 0
        · exfalso
          have : hi W l = lo W l := by
            unfold hi lo
            apply List.countP_congr
            intro s hs; rw [hlow h0 s hs]
          omega
        · refine ⟨i, Nat.le_refl _, by omega, ?_, ?_⟩
          · rw [c1, hr, Nat.add_mul, Nat.one_mul]; omega
          · rw [if_neg h0]; omega
    · right
      have hpos : 0 < 2 ^ j := Nat.pow_pos (by decide)
      obtain ⟨s, hsm, hsb⟩ := hi_pos W r (i + 1) (by omega)
      have h1 : lo W l = l.length := by
        unfold lo; rw [List.countP_eq_length]
        intro y hy; exact hW s.b y.a (s3 s hsm y hy) hsb
      have h2 : hi W l = l.length := by
        unfold hi; rw [List.countP_eq_length]
        intro y hy; exact hW s.b y.b (Nat.le_trans (s3 s hsm y hy) (hvl y hy)) hsb
      have hrne : r ≠ [] := by rintro rfl; cases hsm
      have hfl := hf.1 hrne
      refine ⟨j, by omega, hj1, by rw [h1, h2, hr]; omega, ?_⟩
      rw [if_neg (by omega), Nat.pow_succ] at hb
      rw [h1]
      unfold mostN at hfl
      by_cases h0 : i = 0
      · subst h0
        rw [if_pos rfl] at hfl ⊢
        simp only [Nat.pow_zero, Nat.one_mul, Nat.mul_one, Nat.zero_add] at hb ⊢
        omega
      · rw [if_neg h0] at hfl ⊢
        have m1 : k * 2 ^ i ≤ 2 * l.length * 2 ^ i := Nat.mul_le_mul_right _ (by omega)
        have e1 : k * (2 ^ i * 2) = k * 2 ^ i + k * 2 ^ i := by rw [Nat.mul_comm (2 ^ i) 2, ← Nat.mul_assoc, Nat.mul_comm k 2, Nat.mul_assoc]; omega
        have e2 : 2 * l.length * 2 ^ i = 2 * (l.length * 2 ^ i) := Nat.mul_assoc _ _ _
        omega
/-- The bound. -/
theorem est_bound {k : Nat} {ls : List (List Span)} (hk : 2 ≤ k) (h : Tidy k ls) (W : Nat → Bool) (hW : Mono W) {R : Nat} (h1 : loL W 0 ls ≤ R) (h2 : R ≤ hiL W 0 ls) :
    (k - 1) * R ≤ k * (loL W 0 ls + (hiL W 0 ls - loL W 0 ls) / 2) ∧ k * (loL W 0 ls + (hiL W 0 ls - loL W 0 ls) / 2) ≤ (k + 1) * R := by
  obtain ⟨k, rfl⟩ : ∃ m, k = m + 1 := ⟨k - 1, by omega⟩
  rcases cut_all (k + 1) W hW ls 0 h.srt h.val (fun _ => h.low) h.full with e | ⟨j, _, hj, e, hb⟩
  · obtain rfl : R = loL W 0 ls := by omega
    rw [e, Nat.sub_self, Nat.zero_div, Nat.add_zero, Nat.add_sub_cancel]
    exact ⟨Nat.mul_le_mul_right _ (by omega), Nat.mul_le_mul_right _ (by omega)⟩
  · obtain ⟨i, rfl⟩ : ∃ i, j = i + 1 := ⟨j - 1, by omega⟩
    rw [if_pos rfl, Nat.pow_succ, Nat.add_zero] at hb
    rw [e, Nat.pow_succ] at h2
    rw [e, Nat.add_sub_cancel_left, Nat.pow_succ, Nat.mul_div_cancel _ (by decide), Nat.add_sub_cancel]
    generalize loL W 0 ls = L at *
    generalize 2 ^ i = c at *
    have e1 : (k + 1) * (c * 2) = 2 * (k * c) + 2 * c := by rw [Nat.add_mul, ← Nat.mul_assoc]; omega
    have m1 : k * R ≤ k * (L + c * 2) := Nat.mul_le_mul_left _ h2
    have e2 : k * (L + c * 2) = k * L + 2 * (k * c) := by rw [Nat.mul_add, ← Nat.mul_assoc]; omega
    have e3 : (k + 1) * (L + c) = k * L + k * c + L + c := by rw [Nat.add_mul, Nat.mul_add]; omega
    have m2 : (k + 1 + 1) * L ≤ (k + 1 + 1) * R := Nat.mul_le_mul_left _ h1
    have e4 : (k + 1 + 1) * L = k * L + 2 * L := by rw [Nat.add_mul, Nat.add_mul]; omega
    omega
end Go.Sk
end

-- W6h
section
namespace Go.Sk
open Go Go.Proofs

noncomputable def addH (h : Hist) (t w : Nat) : Hist × Int := addV h.k.toNat h.g h.ls t w
structure Hist.Ok (h : Hist) : Prop where
  k0 : 0 ≤ h.k
  k1 : h.k < 1073741824
  ls : h.ls.length < 1073741824
  ll : ∀ l ∈ h.ls, l.length < 1073741824
  tot : totN 0 h.ls ≤ 4503599627370496
theorem hist_addH (h : Hist) (ok : h.Ok) (t w : Nat) (hw : w < 18446744073709551616) : Pure Try.prog 63 [h.av, u64 t, u64 w] (.tuple [(addH h t w).1.av, i64 (addH h t w).2]) := by
  obtain ⟨k, g, ls⟩ := h
  obtain ⟨h1, h2, h3, h4, h5⟩ := ok
  dsimp only at h1 h2 h3 h4 h5
  obtain ⟨k, rfl⟩ : ∃ k' : Nat, k = k' := ⟨k.toNat, by omega⟩
  have := hist_Add k g ls t w (by omega) hw h3 h4 h5
  unfold addH; simpa using this
theorem ref06_addH (h : Hist) (ok : h.Ok) (t w : Nat) (hw : w < 18446744073709551616) : Pure Try.prog 45 [h.av, u64 t, u64 w] (.tuple [(addH h t w).1.av, i64 (addH h t w).2]) := by
  obtain ⟨k, g, ls⟩ := h
  obtain ⟨h1, h2, h3, h4, h5⟩ := ok
  dsimp only at h1 h2 h3 h4 h5
  obtain ⟨k, rfl⟩ : ∃ k' : Nat, k = k' := ⟨k.toNat, by omega⟩
  have := ref06_Add k g ls t w (by omega) hw h3 h4 h5
  unfold addH; simpa using this

end Go.Sk
end

-- W15e
section
namespace Go.Sk
open Go Go.Proofs

def gridM (g : Grid) (bo n : Nat) : List AV := [i64 g.w, .p (.sl (g.sd.map Seed.pv)), .ms bo 1 0 n n, i64 g.all.k, i64 g.all.g, .p (.sl (g.all.ls.map lvE))]
set_option maxHeartbeats 1000000 in
theorem copied (g : Grid) (w : Nat) (hw : 1 ≤ w) (hw2 : w < 1048576) (hn : g.rows.length < 1048576) (hsd : g.sd.length < 1048576) (hr : ∀ r ∈ g.rows, r.length = w) (S : Store) :
    CallR Try.prog 41 [g.av] S (fun r S' => ∃ bo rb, r = .agg (gridM g bo g.rows.length) ∧ Rows S bo w rb g.rows 0 S') := by
  refine callR_of Try.func41 rfl rfl (xc_ok (bitB 30783) _ _ _ ?_)
  simp only [go_sem, decide_true, decide_false, Nat.lt_irrefl]
  refine alloc_intro fun c1 h1 => ?_
  simp only [go_sem, decide_true, decide_false, Nat.lt_irrefl]
  refine alloc_intro fun c2 h2 => ?_
  simp only [fresh_set] at h2
  simp only [go_sem, decide_true, decide_false, Nat.lt_irrefl, h2, List.length_map]
  refine ⟨by clear h2; omega, by clear h2; omega, make_intro fun bo hbo => ?_⟩
  simp only [fresh_set] at hbo
  simp only [go_sem, decide_true, decide_false, Nat.lt_irrefl, h2, hbo]
  have k1 : (((S.set (.r c1) (.cells [i64 g.w, .p (.sl (g.sd.map Seed.pv)), .p (.sl (g.rows.map rowE)), i64 g.all.k, i64 g.all.g, .p (.sl (g.all.ls.map lvE))])).set (.r c2) (.cells [i64 0, .nils, .nils, i64 0, i64 0, .nils])) (.r c1)) = some (.cells [i64 g.w, .p (.sl (g.sd.map Seed.pv)), .p (.sl (g.rows.map rowE)), i64 g.all.k, i64 g.all.g, .p (.sl (g.all.ls.map lvE))]) := by simp only [go_sem, decide_true, decide_false, Nat.lt_irrefl, h2]
  have k2 : (((S.set (.r c1) (.cells [i64 g.w, .p (.sl (g.sd.map Seed.pv)), .p (.sl (g.rows.map rowE)), i64 g.all.k, i64 g.all.g, .p (.sl (g.all.ls.map lvE))])).set (.r c2) (.cells [i64 0, .nils, .nils, i64 0, i64 0, .nils])) (.r c2)) = some (.cells [i64 0, .nils, .nils, i64 0, i64 0, .nils]) := by simp only [go_sem, decide_true, decide_false, Nat.lt_irrefl, h2]
  have hS1 : Sub S ((S.set (.r c1) (.cells [i64 g.w, .p (.sl (g.sd.map Seed.pv)), .p (.sl (g.rows.map rowE)), i64 g.all.k, i64 g.all.g, .p (.sl (g.all.ls.map lvE))])).set (.r c2) (.cells [i64 0, .nils, .nils, i64 0, i64 0, .nils])) := Sub.set (Sub.set (Sub.refl _) h1 _) h2.2 _
  have kbo : ((S.set (.r c1) (.cells [i64 g.w, .p (.sl (g.sd.map Seed.pv)), .p (.sl (g.rows.map rowE)), i64 g.all.k, i64 g.all.g, .p (.sl (g.all.ls.map lvE))])).set (.r c2) (.cells [i64 0, .nils, .nils, i64 0, i64 0, .nils])) (.r bo) = none := by
    have := hbo.2.2
    simp [Store.set, hbo.1, hbo.2.1]; exact this
  generalize (S.set (.r c1) (.cells [i64 g.w, .p (.sl (g.sd.map Seed.pv)), .p (.sl (g.rows.map rowE)), i64 g.all.k, i64 g.all.g, .p (.sl (g.all.ls.map lvE))])).set (.r c2) (.cells [i64 0, .nils, .nils, i64 0, i64 0, .nils]) = S1 at *
  refine AWP.roam (ι := Nat × List (Nat × Nat) × Store) (fun y => y.1 ≤ g.rows.length ∧ y.2.1.length = y.1 ∧ Rows S1 bo w y.2.1 (g.rows.take y.1) (g.rows.length - y.1) y.2.2)
    (fun y => ⟨Env.get [(1, .sp c1 0), (2, .sp c2 0), (3, .ms bo 1 0 g.rows.length g.rows.length), (11, .p (.sl (g.rows.map rowE))), (12, i64 g.rows.length), (13, i64 y.1)], y.2.2, 31, []⟩) (fun y => g.rows.length - y.1) (0, [], S1.set (.r bo) (.cells (zcs [.nils] g.rows.length))) ⟨Nat.zero_le _, rfl, by rw [List.take_zero]; exact Rows.start kbo⟩ ?_ ?_
  · exact le_of (by simp only [go_sem, decide_true, decide_false, Nat.lt_irrefl] <;> rfl) (Sub.refl _) rfl rfl (by simp)
  · rintro ⟨i, rb, U⟩ ⟨hi, hl, hR⟩ ih
    dsimp only at hi hl hR ⊢
    refine AWPH.step (xc_ok (bitB 30783) _ _ _ ?_)
    by_cases c : i < g.rows.length
    rotate_left
    · obtain rfl : i = g.rows.length := by clear h2 hbo; omega
      have u1 := hR.sub _ _ k1
      have u2 := hR.sub _ _ k2
      rw [Nat.sub_self, List.take_length] at hR
      simp only [go_sem, decide_true, decide_false, Nat.lt_irrefl, u1, u2]
      refine (clone_seeds g.sd (by clear h2 hbo; omega)).useA ?_
      simp only [go_sem, decide_true, decide_false, Nat.lt_irrefl, u1, u2, h2]
      have f1 : S (.r c1) = none := h1
      have f2 : S (.r c2) = none := h2.2
      have hne : Key.r c2 ≠ .r c1 := rkey_ne h2.1.1
      exact ⟨_, Sub.refl _, Or.inl ⟨bo, rb, rfl, Rows.base ((hR.known k1 _).known ((Store.set_other _ _ hne).trans k2) _) (Sub.set (Sub.set hS1 f1 _) f2 _)⟩⟩
    have hri : g.rows[i].length = w := hr _ (List.getElem_mem c)
    obtain ⟨q, hq⟩ : ∃ q, g.rows.length - i = q + 1 := ⟨g.rows.length - i - 1, by clear h2 hbo; omega⟩
    rw [hq] at hR
    have ub := hR.outer
    simp only [go_sem, decide_true, decide_false, Nat.lt_irrefl, c, ltN' c, getD_map' _ _ _ _ c, rowE_mk]
    refine (clone_row g.rows[i] (by intro e; rw [e] at hri; simp at hri; omega) (by clear h2 hbo; omega) U).useA ?_
    rintro _ _ ⟨b, cc, hb, hc, rfl, rfl⟩
    have nb : ¬ bo = b ∧ ¬ b = bo := by constructor <;> rintro rfl <;> (rw [show U (.r _) = none from hb] at ub; cases ub)
    simp only [go_sem, decide_true, decide_false, Nat.lt_irrefl, ltN' c, nb, ub]
    refine ⟨by rw [List.length_append, List.length_map, zcs_length, hl]; simp, ?_⟩
    rw [next_cells (by rw [List.length_map, hl])]
    have hR2 := hR.grow (b := b) (c := cc) hb hri (hri ▸ hc)
    unfold rowB at hR2
    rw [← List.take_succ_eq_append_getElem c, show q = g.rows.length - (i + 1) by clear h2 hbo nb; omega] at hR2
    rw [hri] at *
    refine (ih (i + 1, rb ++ [(b, cc)], _) ⟨c, by simp [hl], hR2⟩ (by dsimp only; clear h2 hbo nb; omega)).back ?_ (by simp) ?_
    · dsimp only
      rw [show g.rows.length - (i + 1) = q by clear h2 hbo nb; omega]
      exact Sub.refl _
    · simp only [go_sem, decide_true, decide_false, Nat.lt_irrefl, wi_succ (show i < 4611686018427387904 by clear h2 hbo nb; omega)]
end Go.Sk
end

-- W15f
section
namespace Go.Sk
open Go Go.Proofs

theorem change_to (cc b o : Nat) (t k w : Nat) (err : Int) (cs : List AV) (h : Hist) (S : Store) (hcc : S (.r cc) = some (.cells [u64 t, u64 k, u64 w, i64 err])) (hb : S (.r b) = some (.cells cs)) (hne : ¬ b = cc ∧ ¬ cc = b)
    (hcut : (cs.drop o).take 3 = h.cs.map .p) (hlen : o + 3 ≤ cs.length) (hok : h.Ok) (hw : w < 18446744073709551616) :
    CallR Try.prog 42 [.sp cc 0, .sp b o] S
      (fun _ S' => (err = 0 → S' = (S.set (.r b) (.cells (splice cs o ((addH h t w).1.cs.map .p)))).set (.r cc) (.cells [u64 t, u64 k, u64 w, i64 (addH h t w).2])) ∧ (¬ err = 0 → S' = S)) := by
  refine callR_of Try.func42 rfl rfl (xc_ok (bitB 259) _ _ _ ?_)
  simp only [go_sem, decide_true, decide_false, Nat.lt_irrefl, hcc]
  by_cases c : err = 0
  rotate_left
  · have e : (err == 0) = false := by simpa using c
    simp only [go_sem, decide_true, decide_false, Nat.lt_irrefl, e]
    exact ⟨_, Sub.refl _, Or.inl ⟨fun h => absurd h c, fun _ => rfl⟩⟩
  subst c
  simp only [go_sem, decide_true, decide_false, Nat.lt_irrefl, beq_self_eq_true]
  refine AWP.draw2 (bitB 259) mixed (by kernel_rfl) (fun j => .tuple [(addH h t w).1.av, i64 (addH h t w).2]) ?_
  simp only [go_sem, decide_true, decide_false, Nat.lt_irrefl, hcc, hb, hne, hcut]
  exact ⟨hlen, (hist_addH h hok t w hw).draw, hlen, _, Sub.refl _, Or.inl rfl⟩

/-! What an event does to a grid. -/
def colN (g : Grid) (x i : Nat) : Nat := (colV (g.sd.getD i default) x g.w).toNat
noncomputable def stepG (g : Grid) (e : Event) (i : Nat) (y : List (List Hist) × Int) : List (List Hist) × Int :=
  if y.2 = 0 then (y.1.set i ((y.1.getD i []).set (colN g e.k i) (addH ((y.1.getD i []).getD (colN g e.k i) zeroH) e.t e.w).1), (addH ((y.1.getD i []).getD (colN g e.k i) zeroH) e.t e.w).2) else y
noncomputable def rowsV (g : Grid) (e : Event) : Nat → List (List Hist) × Int
  | 0 => (g.rows, (addH g.all e.t e.w).2)
  | i + 1 => stepG g e i (rowsV g e i)
noncomputable def addG (g : Grid) (e : Event) : Grid × Int :=
  if e.k < 2305843009213693951 then
    if (rowsV g e g.rows.length).2 = 0 then (⟨g.w, g.sd, (rowsV g e g.rows.length).1, (addH g.all e.t e.w).1⟩, 0) else (zeroG, (rowsV g e g.rows.length).2)
  else (zeroG, 7)
structure Grid.Ok (g : Grid) : Prop where
  w1 : 1 ≤ g.w
  w2 : g.w < 1048576
  n : g.rows.length < 1048576
  sd : g.sd.length = g.rows.length
  wid : ∀ r ∈ g.rows, r.length = g.w.toNat
  all : g.all.Ok
  hs : ∀ r ∈ g.rows, ∀ h ∈ r, h.Ok
  so : ∀ s ∈ g.sd, s.Ok
theorem colN_lt (g : Grid) (h : 1 ≤ g.w) (x i : Nat) : colN g x i < g.w.toNat := by
  unfold colN colV
  split
  · simp; omega
  · rw [Int.toNat_natCast]; exact Nat.mod_lt _ (by omega)
theorem colV_nn (s : Seed) (x : Nat) (w : Int) : 0 ≤ colV s x w := by
  unfold colV; split
  · exact Int.le_refl _
  · exact Int.natCast_nonneg _
theorem rowsV_len (g : Grid) (e : Event) : ∀ i, (rowsV g e i).1.length = g.rows.length := by
  intro i
  induction i with
  | zero => rfl
  | succ i ih => unfold rowsV stepG; split <;> simp [ih]
theorem rowsV_later (g : Grid) (e : Event) : ∀ i j, i ≤ j → (rowsV g e i).1.getD j [] = g.rows.getD j [] := by
  intro i
  induction i with
  | zero => intro j _; rfl
  | succ i ih =>
    intro j hj
    unfold rowsV stepG
    split
    · rw [← ih j (by omega)]
      simp [List.getD_eq_getElem?_getD, List.getElem?_set, show ¬ i = j by omega]
    · exact ih j (by omega)
theorem rowsV_stop (g : Grid) (e : Event) (i : Nat) (h : ¬ (rowsV g e i).2 = 0) : ∀ j, rowsV g e (i + j) = rowsV g e i := by
  intro j
  induction j with
  | zero => rfl
  | succ j ih => show stepG g e (i + j) (rowsV g e (i + j)) = _; rw [ih]; unfold stepG; rw [if_neg h]
end Go.Sk
end

-- W15g
section
namespace Go.Sk
open Go Go.Proofs

set_option maxHeartbeats 1000000 in
theorem grid_Add0 (g : Grid) (e : Event) (hg : g.Ok) (hk : e.k < 18446744073709551616) (hw : e.w < 18446744073709551616) (S : Store) : CallR Try.prog 15 [g.av, e.av] S
    (fun r S' => (r = .tuple [zeroG.av, i64 (addG g e).2] ∧ ¬ (addG g e).2 = 0 ∧ addG g e = (zeroG, (addG g e).2) ∧ Sub S S') ∨ ∃ bo rb, (addG g e).2 = 0 ∧ r = .tuple [.agg (gridM (addG g e).1 bo rb.length), i64 0] ∧ Rows S bo g.w.toNat rb (addG g e).1.rows 0 S') := by
  refine callR_of Try.func15 rfl rfl (xc_ok (bitB 562953979957759) _ _ _ ?_)
  simp only [go_sem, decide_true, decide_false, Nat.lt_irrefl]
  refine alloc_intro fun c2 h2 => ?_
  simp only [go_sem, decide_true, decide_false, Nat.lt_irrefl]
  refine alloc_intro fun c3 h3 => ?_
  simp only [fresh_set] at h3
  simp only [go_sem, decide_true, decide_false, Nat.lt_irrefl, h3]
  refine alloc_intro fun c4 h4 => ?_
  simp only [fresh_set] at h4
  simp only [go_sem, decide_true, decide_false, Nat.lt_irrefl, h3, h4]
  refine (hash_Key e.k).useA ?_
  by_cases ck : e.k < 2305843009213693951
  rotate_left
  · simp only [go_sem, decide_true, decide_false, Nat.lt_irrefl, ck, Bool.not_false, h4]
    have ha : addG g e = (zeroG, 7) := by unfold addG; rw [if_neg ck]
    refine ⟨S, by (repeat (first | exact Sub.refl _ | refine Sub.setF ?_ (by first | assumption | exact And.right (by assumption) | exact And.right (And.right (by assumption)) | exact And.right (And.right (And.right (by assumption))) | exact And.right (And.right (And.right (And.right (by assumption)))) | exact And.right (And.right (And.right (And.right (And.right (by assumption))))) | exact And.right (And.right (And.right (And.right (And.right (And.right (by assumption)))))) | exact And.right (And.right (And.right (And.right (And.right (And.right (And.right (by assumption))))))) | exact And.right (And.right (And.right (And.right (And.right (And.right (And.right (And.right (by assumption)))))))) | exact And.right (And.right (And.right (And.right (And.right (And.right (And.right (And.right (And.right (by assumption)))))))))) | refine Sub.setV ?_ (by first | assumption | exact And.right (by assumption) | exact And.right (And.right (by assumption)) | exact And.right (And.right (And.right (by assumption))) | exact And.right (And.right (And.right (And.right (by assumption)))) | exact And.right (And.right (And.right (And.right (And.right (by assumption))))) | exact And.right (And.right (And.right (And.right (And.right (And.right (by assumption)))))) | exact And.right (And.right (And.right (And.right (And.right (And.right (And.right (by assumption))))))) | exact And.right (And.right (And.right (And.right (And.right (And.right (And.right (And.right (by assumption)))))))) | exact And.right (And.right (And.right (And.right (And.right (And.right (And.right (And.right (And.right (by assumption)))))))))))), Or.inl (Or.inl ⟨?_, ?_, ?_, Sub.refl _⟩)⟩ <;> rw [ha]
    · simp [zeroG, zeroH]
    · decide
  simp only [go_sem, decide_true, decide_false, Nat.lt_irrefl, ck, Bool.not_true, h3, h4]
  have hwt : ((g.w.toNat : Nat) : Int) = g.w := by have := hg.w1; clear h3 h4; omega
  have hwt1 : 1 ≤ g.w.toNat := by have := hg.w1; clear h3 h4; omega
  have hwt2 : g.w.toNat < 1048576 := by have := hg.w2; clear h3 h4; omega
  have hnn := hg.n
  have hsdn := hg.sd
  refine (copied g g.w.toNat hwt1 hwt2 hnn (by clear h3 h4; omega) hg.wid _).useA ?_
  rintro _ U ⟨bo, rb, rfl, hR⟩
  have k2 := hR.sub (.r c2) (.cells [i64 g.w, .p (.sl (g.sd.map Seed.pv)), .p (.sl (g.rows.map rowE)), i64 g.all.k, i64 g.all.g, .p (.sl (g.all.ls.map lvE))]) (by simp only [go_sem, decide_true, decide_false, Nat.lt_irrefl, h3, h4])
  have k3 := hR.sub (.r c3) (.cells [u64 e.t, u64 e.k, u64 e.w]) (by simp only [go_sem, decide_true, decide_false, Nat.lt_irrefl, h3, h4])
  have k4 := hR.sub (.r c4) (.cells [i64 0, .nils, .nils, i64 0, i64 0, .nils]) (by simp only [go_sem, decide_true, decide_false, Nat.lt_irrefl, h3, h4])
  have n32 : ¬ c3 = c2 ∧ ¬ c2 = c3 := h3.1
  have n43 : ¬ c4 = c3 ∧ ¬ c3 = c4 := h4.1
  have n42 : ¬ c4 = c2 ∧ ¬ c2 = c4 := h4.2.1
  have gs : ∀ i, i < rb.length → ∃ h : i < g.rows.length, True := fun i h => ⟨by rw [← hR.len]; exact h, trivial⟩
  simp only [go_sem, decide_true, decide_false, Nat.lt_irrefl, k2, k3, k4, n32, n43, n42, gridM]
  refine alloc_intro fun c18 h18 => ?_
  simp only [fresh_set] at h18
  have n2 : ¬ c18 = c2 ∧ ¬ c2 = c18 := h18.1
  have u18 : U (.r c18) = none := h18.2
  have n3 : ¬ c18 = c3 ∧ ¬ c3 = c18 := by constructor <;> rintro rfl <;> (rw [u18] at k3; cases k3)
  have n4 : ¬ c18 = c4 ∧ ¬ c4 = c18 := by constructor <;> rintro rfl <;> (rw [u18] at k4; cases k4)
  simp only [go_sem, decide_true, decide_false, Nat.lt_irrefl, k2, k3, k4, n32, n43, n42, n2, n3, n4]
  refine (change_to c18 c2 3 e.t e.k e.w 0 [i64 g.w, .p (.sl (g.sd.map Seed.pv)), .ms bo 1 0 g.rows.length g.rows.length, i64 g.all.k, i64 g.all.g, .p (.sl (g.all.ls.map lvE))] g.all _ (by simp only [go_sem, decide_true, decide_false, Nat.lt_irrefl, n2]) (by simp only [go_sem, decide_true, decide_false, Nat.lt_irrefl, n2]) ⟨n2.2, n2.1⟩ rfl (by simp) hg.all hw).useA ?_
  rintro _ V ⟨hV0, _⟩
  have hV := hV0 rfl
  clear ‹¬ (0 : Int) = 0 → _›
  have y2 : S (.r c2) = none := h2
  have y3 : S (.r c3) = none := h3.2
  have y4 : S (.r c4) = none := h4.2.2
  have z18 : S (.r c18) = none := none_of_sub ((Sub.set (Sub.set (Sub.set (Sub.refl _) y2 _) y3 _) y4 _).trans hR.sub) u18
  have T0 : ∃ T, T (.r c2) = some (.cells [i64 g.w, .p (.sl (g.sd.map Seed.pv)), .ms bo 1 0 g.rows.length g.rows.length, i64 (addH g.all e.t e.w).1.k, i64 (addH g.all e.t e.w).1.g, .p (.sl ((addH g.all e.t e.w).1.ls.map lvE))]) ∧
      T (.r c3) = some (.cells [u64 e.t, u64 e.k, u64 e.w]) ∧ T (.r c4) = some (.cells [i64 0, .nils, .nils, i64 0, i64 0, .nils]) ∧
      T (.r c18) = some (.cells [u64 e.t, u64 e.k, u64 e.w, i64 (addH g.all e.t e.w).2]) ∧ Sub S T ∧ Rows T bo g.w.toNat rb g.rows 0 V := by
    have hRT := (((hR.known (q := .r c2) (y := .cells [i64 g.w, .p (.sl (g.sd.map Seed.pv)), .p (.sl (g.rows.map rowE)), i64 g.all.k, i64 g.all.g, .p (.sl (g.all.ls.map lvE))]) (by simp only [go_sem, decide_true, decide_false, Nat.lt_irrefl, n42, n32]) (.cells [i64 g.w, .p (.sl (g.sd.map Seed.pv)), .ms bo 1 0 g.rows.length g.rows.length, i64 g.all.k, i64 g.all.g, .p (.sl (g.all.ls.map lvE))])).fresh (q := .r c18) (by simp only [go_sem, decide_true, decide_false, Nat.lt_irrefl, n2]; exact u18) (.cells [u64 e.t, u64 e.k, u64 e.w, i64 0])).known (q := .r c2)
      (y := .cells [i64 g.w, .p (.sl (g.sd.map Seed.pv)), .ms bo 1 0 g.rows.length g.rows.length, i64 g.all.k, i64 g.all.g, .p (.sl (g.all.ls.map lvE))]) (by simp only [go_sem, decide_true, decide_false, Nat.lt_irrefl, n2]) (.cells (splice [i64 g.w, .p (.sl (g.sd.map Seed.pv)), .ms bo 1 0 g.rows.length g.rows.length, i64 g.all.k, i64 g.all.g, .p (.sl (g.all.ls.map lvE))] 3 ((addH g.all e.t e.w).1.cs.map .p)))).known (q := .r c18)
      (y := .cells [u64 e.t, u64 e.k, u64 e.w, i64 0]) (by simp only [go_sem, decide_true, decide_false, Nat.lt_irrefl, n2]) (.cells [u64 e.t, u64 e.k, u64 e.w, i64 (addH g.all e.t e.w).2])
    rw [← hV] at hRT
    refine ⟨_, ?_, ?_, ?_, ?_, ?_, hRT⟩
    · simp only [go_sem, decide_true, decide_false, Nat.lt_irrefl, n2] <;> rfl
    · simp only [go_sem, decide_true, decide_false, Nat.lt_irrefl, n2, n3, n32, n43]
    · simp only [go_sem, decide_true, decide_false, Nat.lt_irrefl, n2, n3, n4, n32, n43, n42]
    · simp only [go_sem, decide_true, decide_false, Nat.lt_irrefl]
    · have z2 : S (.r c2) = none := h2
      have z3 : S (.r c3) = none := h3.2
      have z4 : S (.r c4) = none := h4.2.2
      exact Sub.set (Sub.set (Sub.set (Sub.set (Sub.set (Sub.set (Sub.set (Sub.refl _) z2 _) z3 _) z4 _) z2 _) z18 _) z2 _) z18 _
  obtain ⟨T, t2, t3, t4, t18, tS, hR2⟩ := T0
  clear hV hV0 hR k2 k3 k4
  have v2 := hR2.sub _ _ t2
  have v3 := hR2.sub _ _ t3
  have v4 := hR2.sub _ _ t4
  have v18 := hR2.sub _ _ t18
  simp only [go_sem, decide_true, decide_false, Nat.lt_irrefl, v2, v3]
  refine (hash_Columns g.sd e.k g.w (by clear h3 h4 h18 n2 n3 n4 n32 n43 n42; omega) hg.so hk (by have := hg.w2; clear h3 h4 h18 n2 n3 n4 n32 n43 n42; omega)).useA ?_
  have hcl : (colsL g.sd e.k g.w).length = g.rows.length := by rw [← hsdn]; simp [colsL]
  simp only [go_sem, decide_true, decide_false, Nat.lt_irrefl, List.length_map, hcl]
  refine AWP.roam (ι := Nat × Store) (fun y => y.1 ≤ g.rows.length ∧ ∃ T, T (.r c2) = some (.cells [i64 g.w, .p (.sl (g.sd.map Seed.pv)), .ms bo 1 0 g.rows.length g.rows.length, i64 (addH g.all e.t e.w).1.k, i64 (addH g.all e.t e.w).1.g, .p (.sl ((addH g.all e.t e.w).1.ls.map lvE))]) ∧
      T (.r c4) = some (.cells [i64 0, .nils, .nils, i64 0, i64 0, .nils]) ∧
      T (.r c18) = some (.cells [u64 e.t, u64 e.k, u64 e.w, i64 (rowsV g e y.1).2]) ∧ Sub S T ∧ Rows T bo g.w.toNat rb (rowsV g e y.1).1 0 y.2)
    (fun y => ⟨Env.get [(2, .sp c2 0), (4, .sp c4 0), (6, .sp c18 0), (28, .p (.sl ((colsL g.sd e.k g.w).map colE))), (29, i64 g.rows.length), (30, i64 y.1)], y.2, 56, []⟩) (fun y => g.rows.length - y.1) (0, V) ⟨Nat.zero_le _, T, t2, t4, t18, tS, hR2⟩ ?_ ?_
  · exact le_of (by simp only [go_sem, decide_true, decide_false, Nat.lt_irrefl] <;> rfl) (Sub.refl _) rfl rfl (by simp)
  clear hR2 v2 v3 v4 v18 t2 t3 t4 t18 tS T V
  rintro ⟨i, V⟩ ⟨hi, T, t2, t4, t18, tS, hR⟩ ih
  dsimp only at hi t2 t4 t18 tS hR ⊢
  have v2 := hR.sub _ _ t2
  have v4 := hR.sub _ _ t4
  have v18 := hR.sub _ _ t18
  have hrl : rb.length = g.rows.length := by rw [hR.len, rowsV_len]
  refine AWPH.step (xc_ok (bitB 562953979957759) _ _ _ ?_)
  by_cases c : i < g.rows.length
  rotate_left
  · obtain rfl : i = g.rows.length := by clear h3 h4 h18 n2 n3 n4 n32 n43 n42; omega
    simp only [go_sem, decide_true, decide_false, Nat.lt_irrefl, v2, v18]
    by_cases er : (rowsV g e g.rows.length).2 = 0
    · have eb : ((rowsV g e g.rows.length).2 != 0) = false := by simpa using er
      have ha : addG g e = (⟨g.w, g.sd, (rowsV g e g.rows.length).1, (addH g.all e.t e.w).1⟩, 0) := by unfold addG; rw [if_pos ck, if_pos er]
      simp only [go_sem, decide_true, decide_false, Nat.lt_irrefl, eb, v2, v4]
      have z4 : S (.r c4) = none := h4.2.2
      refine ⟨_, Sub.refl _, Or.inl (Or.inr ⟨bo, rb, by rw [ha], by rw [ha, hrl], ?_⟩)⟩
      rw [ha]; exact (hR.known t4 _).base (Sub.set tS z4 _)
    · have eb : ((rowsV g e g.rows.length).2 != 0) = true := by simpa using er
      have ha : addG g e = (zeroG, (rowsV g e g.rows.length).2) := by unfold addG; rw [if_pos ck, if_neg er]
      simp only [go_sem, decide_true, decide_false, Nat.lt_irrefl, eb]
      refine AWP.orders (bitB 562953979957759) mixed [[0,1,2,3,4,5,6],[0,1,2,3,5,4,6],[0,1,2,5,3,4,6],[0,1,5,2,3,4,6],[0,5,1,2,3,4,6],[1,0,2,3,4,5,6],[1,0,2,3,5,4,6],[1,0,2,5,3,4,6],[1,0,5,2,3,4,6],[1,2,0,3,4,5,6],[1,2,0,3,5,4,6],[1,2,0,5,3,4,6],[1,2,3,0,4,5,6],[1,2,3,0,5,4,6],[1,2,3,4,0,5,6]] (by kernel_rfl) ?_
      have z4 : S (.r c4) = none := h4.2.2
      simp only [List.forall_mem_cons, List.not_mem_nil, false_implies, implies_true, and_true, opsAt, List.getElem?_cons_zero, List.getElem?_cons_succ]
      refine ⟨?_, ?_, ?_, ?_, ?_, ?_, ?_, ?_, ?_, ?_, ?_, ?_, ?_, ?_, ?_⟩
      all_goals
        simp only [go_sem, decide_true, decide_false, Nat.lt_irrefl, v2, v4, v18, n4]
        refine ⟨_, Sub.refl _, Or.inl (Or.inl ⟨?_, ?_, ?_, Sub.set (tS.trans hR.sub) z4 _⟩)⟩ <;> rw [ha]
        · simp [zeroG, zeroH]
        · exact er
  have hci : (colsL g.sd e.k g.w)[i]'(by rw [hcl]; exact c) = ((colN g e.k i : Nat) : Int) := by
    have hcs : i < g.sd.length := by rw [hsdn]; exact c
    unfold colN
    simp only [colsL, List.getElem_map]
    rw [show g.sd.getD i default = g.sd[i] by simp [List.getD_eq_getElem?_getD, hcs], Int.toNat_of_nonneg (colV_nn _ _ _)]
  have hcb : colN g e.k i < g.w.toNat := colN_lt g hg.w1 e.k i
  have hir : i < rb.length := by rw [hrl]; exact c
  have vo := hR.outer
  obtain ⟨vr, _, vne, vcap⟩ := hR.row i hir
  have hget : (List.map (rowM g.w.toNat) rb ++ zcs [AV.nils] 0).getD (i * 1) .top = .ms (rb[i]).1 3 0 g.w.toNat (rb[i]).2 := by
    rw [Nat.mul_one]; simp [List.getD_eq_getElem?_getD, List.getElem?_append_left, hir, rowM]
  simp only [go_sem, decide_true, decide_false, Nat.lt_irrefl, c, ltN' c, getD_map' _ _ _ _ (show i < (colsL g.sd e.k g.w).length by rw [hcl]; exact c), colE, hci, v2, vo, hget]
  have hri : (rowsV g e i).1.getD i [] = g.rows[i] := by rw [rowsV_later g e i i (Nat.le_refl _)]; simp [List.getD_eq_getElem?_getD, c]
  have hrw : g.rows[i].length = g.w.toNat := hg.wid _ (List.getElem_mem c)
  have hcr : colN g e.k i < g.rows[i].length := by rw [hrw]; exact hcb
  have hok : (g.rows[i][colN g e.k i]).Ok := hg.hs _ (List.getElem_mem c) _ (List.getElem_mem hcr)
  have hzd : (g.rows[i]).getD (colN g e.k i) zeroH = g.rows[i][colN g e.k i] := by simp [List.getD_eq_getElem?_getD, hcr]
  have trb : T (.r (rb[i]).1) = none := (hR.row i hir).2.1
  have nrb : ¬ (rb[i]).1 = c18 ∧ ¬ c18 = (rb[i]).1 := by constructor <;> (intro e; first | (rw [e] at trb; rw [trb] at t18; cases t18) | (rw [← e] at trb; rw [trb] at t18; cases t18))
  rw [hri] at vr
  have hse : rowsV g e (i + 1) = stepG g e i (rowsV g e i) := rfl
  unfold stepG at hse
  rw [hri, hzd] at hse
  refine ⟨by rw [hcl]; exact c, by rw [List.length_append, List.length_map]; clear h3 h4 h18 n2 n3 n4 n32 n43 n42 nrb vne; omega, hcb, ?_⟩
  refine (change_to c18 (rb[i]).1 (colN g e.k i * 3) e.t e.k e.w (rowsV g e i).2 _ g.rows[i][colN g e.k i] V v18 vr nrb (flat_cut _ _ _ hcr) (by rw [List.length_append, hflat_len]; clear h3 h4 h18 n2 n3 n4 n32 n43 n42 nrb vne; omega) hok hw).useA ?_
  rintro _ V' ⟨hV1, hV2⟩
  have hq : wi ((i : Int) + 1) = ((i + 1 : Nat) : Int) := wi_succ (show i < 4611686018427387904 by clear h3 h4 h18 n2 n3 n4 n32 n43 n42 nrb vne; omega)
  have hT : ∃ T, T (.r c2) = some (.cells [i64 g.w, .p (.sl (g.sd.map Seed.pv)), .ms bo 1 0 g.rows.length g.rows.length, i64 (addH g.all e.t e.w).1.k, i64 (addH g.all e.t e.w).1.g, .p (.sl ((addH g.all e.t e.w).1.ls.map lvE))]) ∧
      T (.r c4) = some (.cells [i64 0, .nils, .nils, i64 0, i64 0, .nils]) ∧
      T (.r c18) = some (.cells [u64 e.t, u64 e.k, u64 e.w, i64 (rowsV g e (i + 1)).2]) ∧ Sub S T ∧ Rows T bo g.w.toNat rb (rowsV g e (i + 1)).1 0 V' := by
    by_cases er : (rowsV g e i).2 = 0
    · rw [if_pos er] at hse
      rw [hV1 er, hse, flat_put _ _ _ _ hcr]
      refine ⟨_, ?_, ?_, ?_, ?_, (hR.setRow hir (by rw [List.length_set]; exact hrw)).known t18 _⟩
      · rw [Store.set_other _ _ (rkey_ne n2.2)]; exact t2
      · rw [Store.set_other _ _ (rkey_ne n4.2)]; exact t4
      · rw [Store.set_same]
      · exact Sub.set tS z18 _
    · rw [if_neg er] at hse
      rw [hV2 er, hse]
      exact ⟨T, t2, t4, t18, tS, hR⟩
  simp only [go_sem, decide_true, decide_false, Nat.lt_irrefl]
  refine (ih (i + 1, V') ⟨c, hT⟩ (by dsimp only; clear h3 h4 h18 n2 n3 n4 n32 n43 n42 nrb vne; omega)).back ?_ (by simp) ?_
  · exact Sub.refl _
  · simp only [go_sem, decide_true, decide_false, Nat.lt_irrefl, hq]
end Go.Sk
end

-- W15h
section
namespace Go.Sk
open Go Go.Proofs

theorem grid_Add (g : Grid) (e : Event) (hg : g.Ok) (hk : e.k < 18446744073709551616) (hw : e.w < 18446744073709551616) : Pure Try.prog 15 [g.av, e.av] (.tuple [(addG g e).1.av, i64 (addG g e).2]) := fun S => by
  refine (grid_Add0 g e hg hk hw S).frz ?_
  rintro x S' (⟨rfl, h1, h2, h3⟩ | ⟨bo, rb, h1, rfl, hR⟩)
  · refine ⟨_, S, Frz.forget h3, ?_, rfl⟩
    have : (addG g e).1 = zeroG := by rw [h2]
    rw [this]
  · refine ⟨_, S, (frz_rows hR (Sub.refl _) (i64 (addG g e).1.w) (.p (.sl ((addG g e).1.sd.map Seed.pv))) (i64 (addG g e).1.all.k) (i64 (addG g e).1.all.g) (.p (.sl ((addG g e).1.all.ls.map lvE))) (i64 0)).1, ?_, rfl⟩
    rw [h1]; rfl

set_option maxHeartbeats 1000000 in
theorem ref15_Add (g : Grid) (e : Event) (hg : g.Ok) (hk : e.k < 18446744073709551616) (hw : e.w < 18446744073709551616) : Pure Try.prog 17 [g.av, e.av] (.tuple [(addG g e).1.av, i64 (addG g e).2]) := fun S => by
  have hwt : ((g.w.toNat : Nat) : Int) = g.w := by have := hg.w1; omega
  have hwt1 : 1 ≤ g.w.toNat := by have := hg.w1; omega
  have hwt2 : g.w.toNat < 1048576 := by have := hg.w2; omega
  have hnn := hg.n
  have hsdn := hg.sd
  refine callR_of Try.func17 rfl rfl (xc_ok (bitB 75557863734711490330623) _ _ _ ?_)
  simp only [go_sem, decide_true, decide_false, Nat.lt_irrefl]
  refine alloc_intro fun c2 h2 => ?_
  simp only [go_sem, decide_true, decide_false, Nat.lt_irrefl]
  refine alloc_intro fun c3 h3 => ?_
  simp only [fresh_set] at h3
  simp only [go_sem, decide_true, decide_false, Nat.lt_irrefl, h3]
  refine alloc_intro fun c4 h4 => ?_
  simp only [fresh_set] at h4
  simp only [go_sem, decide_true, decide_false, Nat.lt_irrefl, h3, h4]
  refine (ref04_Key e.k).useA ?_
  by_cases ck : e.k < 2305843009213693951
  rotate_left
  · simp only [go_sem, decide_true, decide_false, Nat.lt_irrefl, ck, Bool.not_false, h4]
    have ha : addG g e = (zeroG, 7) := by unfold addG; rw [if_neg ck]
    (refine ⟨S, by (repeat (first | exact Sub.refl _ | refine Sub.setF ?_ (by first | assumption | exact And.right (by assumption) | exact And.right (And.right (by assumption)) | exact And.right (And.right (And.right (by assumption))) | exact And.right (And.right (And.right (And.right (by assumption)))) | exact And.right (And.right (And.right (And.right (And.right (by assumption))))) | exact And.right (And.right (And.right (And.right (And.right (And.right (by assumption)))))) | exact And.right (And.right (And.right (And.right (And.right (And.right (And.right (by assumption))))))) | exact And.right (And.right (And.right (And.right (And.right (And.right (And.right (And.right (by assumption)))))))) | exact And.right (And.right (And.right (And.right (And.right (And.right (And.right (And.right (And.right (by assumption)))))))))) | refine Sub.setV ?_ (by first | assumption | exact And.right (by assumption) | exact And.right (And.right (by assumption)) | exact And.right (And.right (And.right (by assumption))) | exact And.right (And.right (And.right (And.right (by assumption)))) | exact And.right (And.right (And.right (And.right (And.right (by assumption))))) | exact And.right (And.right (And.right (And.right (And.right (And.right (by assumption)))))) | exact And.right (And.right (And.right (And.right (And.right (And.right (And.right (by assumption))))))) | exact And.right (And.right (And.right (And.right (And.right (And.right (And.right (And.right (by assumption)))))))) | exact And.right (And.right (And.right (And.right (And.right (And.right (And.right (And.right (And.right (by assumption)))))))))))), ?_⟩); rw [ha]; simp [zeroG, zeroH]
  simp only [go_sem, decide_true, decide_false, Nat.lt_irrefl, ck, Bool.not_true, h3, h4]
  refine (ref06_addH g.all hg.all e.t e.w hw).useA ?_
  simp only [go_sem, decide_true, decide_false, Nat.lt_irrefl, h3, h4]
  refine alloc_intro fun c6 h6 => ?_
  simp only [fresh_set] at h6
  by_cases er : (addH g.all e.t e.w).2 = 0
  rotate_left
  · have eb : ((addH g.all e.t e.w).2 != 0) = true := by simpa using er
    have ha : addG g e = (zeroG, (addH g.all e.t e.w).2) := by
      have h0 : ¬ (rowsV g e 0).2 = 0 := er
      have h1 := rowsV_stop g e 0 h0 g.rows.length
      rw [Nat.zero_add] at h1
      unfold addG; rw [if_pos ck, h1, if_neg h0]; rfl
    simp only [go_sem, decide_true, decide_false, Nat.lt_irrefl, eb, h4, h6]
    (refine ⟨S, by (repeat (first | exact Sub.refl _ | refine Sub.setF ?_ (by first | assumption | exact And.right (by assumption) | exact And.right (And.right (by assumption)) | exact And.right (And.right (And.right (by assumption))) | exact And.right (And.right (And.right (And.right (by assumption)))) | exact And.right (And.right (And.right (And.right (And.right (by assumption))))) | exact And.right (And.right (And.right (And.right (And.right (And.right (by assumption)))))) | exact And.right (And.right (And.right (And.right (And.right (And.right (And.right (by assumption))))))) | exact And.right (And.right (And.right (And.right (And.right (And.right (And.right (And.right (by assumption)))))))) | exact And.right (And.right (And.right (And.right (And.right (And.right (And.right (And.right (And.right (by assumption)))))))))) | refine Sub.setV ?_ (by first | assumption | exact And.right (by assumption) | exact And.right (And.right (by assumption)) | exact And.right (And.right (And.right (by assumption))) | exact And.right (And.right (And.right (And.right (by assumption)))) | exact And.right (And.right (And.right (And.right (And.right (by assumption))))) | exact And.right (And.right (And.right (And.right (And.right (And.right (by assumption)))))) | exact And.right (And.right (And.right (And.right (And.right (And.right (And.right (by assumption))))))) | exact And.right (And.right (And.right (And.right (And.right (And.right (And.right (And.right (by assumption)))))))) | exact And.right (And.right (And.right (And.right (And.right (And.right (And.right (And.right (And.right (by assumption)))))))))))), ?_⟩); rw [ha]; simp [zeroG, zeroH]
  have eb : ((addH g.all e.t e.w).2 != 0) = false := by simpa using er
  simp only [go_sem, decide_true, decide_false, Nat.lt_irrefl, eb, h3, h4, h6]
  refine alloc_intro fun c8 h8 => ?_
  simp only [fresh_set] at h8
  simp only [go_sem, decide_true, decide_false, Nat.lt_irrefl, h3, h4, h6, h8]
  refine AWP.tipB c8 2 1 (cs := [i64 g.w, .p (.sl (g.sd.map Seed.pv)), .nils, i64 (addH g.all e.t e.w).1.k, i64 (addH g.all e.t e.w).1.g, .p (.sl ((addH g.all e.t e.w).1.ls.map lvE))]) (by simp only [go_sem, decide_true, decide_false, Nat.lt_irrefl, h8]) rfl fun kk hkk => ?_
  simp only [freshv_setr] at hkk
  simp only [List.set]
  have y2 : S (.r c2) = none := h2
  have y3 : S (.r c3) = none := h3.2
  have y4 : S (.r c4) = none := h4.2.2
  have y6 : S (.r c6) = none := h6.2.2.2
  have y8 : S (.r c8) = none := h8.2.2.2.2
  refine AWP.roam (ι := Nat × Option Nat) (fun y => y.1 ≤ g.rows.length ∧ (rowsV g e y.1).2 = 0)
    (fun y => ⟨Env.get [(2, .sp c2 0), (3, .sp c3 0), (4, .sp c4 0), (8, .sp c8 0), (9, i64 y.1)],
      (((((S.set (.r c2) (.cells [i64 g.w, .p (.sl (g.sd.map Seed.pv)), .p (.sl (g.rows.map rowE)), i64 g.all.k, i64 g.all.g, .p (.sl (g.all.ls.map lvE))])).set (.r c3) (.cells [u64 e.t, u64 e.k, u64 e.w])).set (.r c4) (.cells [i64 0, .nils, .nils, i64 0, i64 0, .nils]))).set (.v kk) (.tip 1 y.1 y.2)).set (.r c8) (.cells [i64 g.w, .p (.sl (g.sd.map Seed.pv)), .ts kk 1 y.2 (((rowsV g e y.1).1.take y.1).map rowE), i64 (addH g.all e.t e.w).1.k, i64 (addH g.all e.t e.w).1.g, .p (.sl ((addH g.all e.t e.w).1.ls.map lvE))]), 90, []⟩)
    (fun y => g.rows.length - y.1) (0, none) ⟨Nat.zero_le _, er⟩ ?_ ?_
  · refine le_of (by simp only [go_sem, decide_true, decide_false, Nat.lt_irrefl] <;> rfl) ?_ rfl rfl (by simp)
    ((try dsimp only); (repeat refine sub_set ?_ ?_) <;> first | ((repeat (first | exact Sub.refl _ | refine Sub.setF ?_ (by first | assumption | exact And.right (by assumption) | exact And.right (And.right (by assumption)) | exact And.right (And.right (And.right (by assumption))) | exact And.right (And.right (And.right (And.right (by assumption)))) | exact And.right (And.right (And.right (And.right (And.right (by assumption))))) | exact And.right (And.right (And.right (And.right (And.right (And.right (by assumption)))))) | exact And.right (And.right (And.right (And.right (And.right (And.right (And.right (by assumption))))))) | exact And.right (And.right (And.right (And.right (And.right (And.right (And.right (And.right (by assumption)))))))) | exact And.right (And.right (And.right (And.right (And.right (And.right (And.right (And.right (And.right (by assumption)))))))))) | refine Sub.setV ?_ (by first | assumption | exact And.right (by assumption) | exact And.right (And.right (by assumption)) | exact And.right (And.right (And.right (by assumption))) | exact And.right (And.right (And.right (And.right (by assumption)))) | exact And.right (And.right (And.right (And.right (And.right (by assumption))))) | exact And.right (And.right (And.right (And.right (And.right (And.right (by assumption)))))) | exact And.right (And.right (And.right (And.right (And.right (And.right (And.right (by assumption))))))) | exact And.right (And.right (And.right (And.right (And.right (And.right (And.right (And.right (by assumption)))))))) | exact And.right (And.right (And.right (And.right (And.right (And.right (And.right (And.right (And.right (by assumption)))))))))))); done) | (simp only [go_sem, decide_true, decide_false, Nat.lt_irrefl, h3, h4, h6, h8, hkk, List.take_zero, List.map_nil]; done) | (simp only [go_sem, decide_true, decide_false, Nat.lt_irrefl, h3, h4, h6, h8, hkk, List.take_zero, List.map_nil]; rfl) | rfl)
  rintro ⟨i, loc⟩ ⟨hi, he0⟩ ih
  dsimp only at hi he0 ⊢
  refine AWPH.step (AWP.seqA (xc_ok (bitB 75557863734711490330623) _ _ _ ?_))
  have hlen1 := rowsV_len g e i
  by_cases c : i < g.rows.length
  rotate_left
  · obtain rfl : i = g.rows.length := by clear h3 h4 h6 h8; omega
    simp only [go_sem, decide_true, decide_false, Nat.lt_irrefl, h3, h4, h6, h8, hsdn]
    have ha : addG g e = (⟨g.w, g.sd, (rowsV g e g.rows.length).1, (addH g.all e.t e.w).1⟩, 0) := by unfold addG; rw [if_pos ck, if_pos he0]
    refine ⟨S, Sub.set (Sub.set (Sub.set (Sub.set (Sub.set (Sub.set (Sub.refl _) y2 _) y3 _) y4 _) hkk _) y8 _) y4 _, Or.inl ⟨?_, rfl⟩⟩
    rw [ha, List.take_of_length_le (by rw [hlen1]; exact Nat.le_refl _)]
  simp only [go_sem, decide_true, decide_false, Nat.lt_irrefl, h3, h4, h6, h8, hsdn, c]
  have hcs : i < g.sd.length := by rw [hsdn]; exact c
  have hri : (rowsV g e i).1.getD i [] = g.rows[i] := by rw [rowsV_later g e i i (Nat.le_refl _)]; simp [List.getD_eq_getElem?_getD, c]
  have hrw : g.rows[i].length = g.w.toNat := hg.wid _ (List.getElem_mem c)
  have hrne : g.rows[i] ≠ [] := by intro e0; rw [e0] at hrw; simp at hrw; clear h3 h4 h6 h8; omega
  refine AWP.seqA (AWP.blockA (AWP.seqA (xc_ok (bitB 75557863734711490330623) _ _ _ ?_)))
  simp only [go_sem, decide_true, decide_false, Nat.lt_irrefl, h3, h4, h6, h8, ltN' c, getD_map' _ _ _ _ c, rowE_mk, rowP]
  have hrl1 : g.rows[i].length < 1048576 := by rw [hrw]; exact hwt2
  refine ⟨hist_len, by clear h3 h4 h6 h8; omega, by clear h3 h4 h6 h8; omega, own_intro (by simpa using hrne) fun b cap hb hcap => ?_⟩
  simp only [fresh_set, fresh_setv] at hb
  simp only [List.nil_append, List.length_map] at hcap ⊢
  simp only [go_sem, decide_true, decide_false, Nat.lt_irrefl, h3, h4, h6, h8, hb]
  refine AWP.seqA (AWP.draw2 (bitB 75557863734711490330623) mixed (by kernel_rfl) (fun j => i64 (colV g.sd[i] e.k g.w)) ?_)
  simp only [go_sem, decide_true, decide_false, Nat.lt_irrefl, h3, h4, h6, h8, hb, hcs, ltN' hcs, getD_map' _ _ _ _ hcs]
  refine ⟨(ref04_Column g.sd[i] e.k g.w (hg.so _ (List.getElem_mem hcs)) hk (by have := hg.w2; clear h3 h4 h6 h8 hb; omega)).draw, ?_⟩
  have hci : colV g.sd[i] e.k g.w = ((colN g e.k i : Nat) : Int) := by
    unfold colN
    rw [show g.sd.getD i default = g.sd[i] by simp [List.getD_eq_getElem?_getD, hcs], Int.toNat_of_nonneg (colV_nn _ _ _)]
  have hcb : colN g e.k i < g.w.toNat := colN_lt g hg.w1 e.k i
  simp only [go_sem, decide_true, decide_false, Nat.lt_irrefl, hci]
  have hcr : colN g e.k i < g.rows[i].length := by rw [hrw]; exact hcb
  have hok : (g.rows[i][colN g e.k i]).Ok := hg.hs _ (List.getElem_mem c) _ (List.getElem_mem hcr)
  have hzd : (g.rows[i]).getD (colN g e.k i) zeroH = g.rows[i][colN g e.k i] := by simp [List.getD_eq_getElem?_getD, hcr]
  have hse : rowsV g e (i + 1) = stepG g e i (rowsV g e i) := rfl
  unfold stepG at hse
  rw [if_pos he0, hri, hzd] at hse
  have hcut := flat_cut g.rows[i] (List.replicate ((cap - g.rows[i].length) * 3) .top) (colN g e.k i) hcr
  have hput := fun y => flat_put g.rows[i] (List.replicate ((cap - g.rows[i].length) * 3) .top) y (colN g e.k i) hcr
  have hlen3 : colN g e.k i * 3 + 3 ≤ (flatA (List.map Hist.cs g.rows[i]) ++ List.replicate ((cap - g.rows[i].length) * 3) AV.top).length := by rw [List.length_append, hflat_len]; clear h3 h4 h6 h8 hb; omega
  generalize g.rows[i][colN g e.k i] = hh at *
  generalize hX : addH hh e.t e.w = X at *
  refine AWP.seqA (AWP.draw2 (bitB 75557863734711490330623) mixed (by kernel_rfl) (fun j => .tuple [X.1.av, i64 X.2]) ?_)
  simp only [go_sem, decide_true, decide_false, Nat.lt_irrefl, h3, h4, h6, h8, hb, hcut]
  refine ⟨hcr, hlen3, (hX ▸ (ref06_addH hh hok e.t e.w hw)).draw, alloc_intro fun c12 h12 => ?_⟩
  simp only [fresh_set, fresh_setv] at h12
  simp only [go_sem, decide_true, decide_false, Nat.lt_irrefl, h3, h4, h6, h8, hb, h12]
  have hchk : i + 1 ≤ g.rows.length := c
  by_cases ex : X.2 = 0
  rotate_left
  · have exb : (X.2 != 0) = true := by simpa using ex
    have ha : addG g e = (zeroG, X.2) := by
      have h0 : ¬ (rowsV g e (i + 1)).2 = 0 := by rw [hse]; exact ex
      have h1 := rowsV_stop g e (i + 1) h0 (g.rows.length - (i + 1))
      rw [show i + 1 + (g.rows.length - (i + 1)) = g.rows.length by clear h3 h4 h6 h8 hb h12; omega] at h1
      unfold addG; rw [if_pos ck, h1, if_neg h0, hse]
    refine AWP.seqA (xc_ok (bitB 75557863734711490330623) _ _ _ ?_)
    simp only [go_sem, decide_true, decide_false, Nat.lt_irrefl, exb, h3, h4, h6, h8, hb, h12]
    have yb : S (.r b) = none := hb.2.2.2.2
    have y12 : S (.r c12) = none := h12.2.2.2.2.2
    refine ⟨S, ?_, ?_⟩
    · exact Sub.set (Sub.set (Sub.set (Sub.set (Sub.set (Sub.set (Sub.set (Sub.set (Sub.refl _) y2 _) y3 _) y4 _) hkk _) y8 _) yb _) y12 _) y4 _
    · rw [ha]; simp [zeroG, zeroH]
  have exb : (X.2 != 0) = false := by simpa using ex
  refine AWP.seqA (xc_ok (bitB 75557863734711490330623) _ _ _ ?_)
  simp only [go_sem, decide_true, decide_false, Nat.lt_irrefl, exb, h3, h4, h6, h8, hb, h12]
  refine AWP.seqA (xc_ok (bitB 75557863734711490330623) _ _ _ ?_)
  simp only [go_sem, decide_true, decide_false, Nat.lt_irrefl, h3, h4, h6, h8, hb, h12]
  refine ⟨hcr, hlen3, ?_⟩
  obtain ⟨T, hT⟩ : ∃ T, (((((S.set (.r c2) (.cells [i64 g.w, .p (.sl (g.sd.map Seed.pv)), .p (.sl (g.rows.map rowE)), i64 g.all.k, i64 g.all.g, .p (.sl (g.all.ls.map lvE))])).set (.r c3) (.cells [u64 e.t, u64 e.k, u64 e.w])).set (.r c4) (.cells [i64 0, .nils, .nils, i64 0, i64 0, .nils]))).set (.v kk) (.tip 1 i loc)).set (.r c8) (.cells [i64 g.w, .p (.sl (g.sd.map Seed.pv)), .ts kk 1 loc (((rowsV g e i).1.take i).map rowE), i64 (addH g.all e.t e.w).1.k, i64 (addH g.all e.t e.w).1.g, .p (.sl ((addH g.all e.t e.w).1.ls.map lvE))]) = T := ⟨_, rfl⟩
  have Tb : T (.r b) = none := by rw [← hT]; simp only [go_sem, decide_true, decide_false, Nat.lt_irrefl, hb]; exact hb.2.2.2.2
  have T12 : T (.r c12) = none := by rw [← hT]; simp only [go_sem, decide_true, decide_false, Nat.lt_irrefl, h12]; exact h12.2.2.2.2.2
  simp only [hT]
  obtain ⟨R, hR⟩ : ∃ R, g.rows[i].set (colN g e.k i) X.1 = R := ⟨_, rfl⟩
  have hRl : R.length = g.w.toNat := by rw [← hR, List.length_set]; exact hrw
  have hput' := hput X.1
  rw [hR] at hput'
  refine AWP.fz (s' := ⟨Env.get [(2, .sp c2 0), (3, .sp c3 0), (4, .sp c4 0), (8, .sp c8 0), (9, i64 i), (10, .p (rowP R))], T, 90, []⟩) ?_ (StFz.env (b := b) (m := g.w.toNat * 3) (cs := flatA (R.map Hist.cs) ++ List.replicate ((cap - g.rows[i].length) * 3) .top) ?_ ?_ ?_ ?_ (by simp))
  rotate_left
  · simp only [go_sem, decide_true, decide_false, Nat.lt_irrefl, h12]
    exact congrArg (fun z => some (Blk.cells z)) hput'
  · rw [List.length_append, hflat_len, hRl]; exact Nat.le_add_right _ _
  · intro q y hq
    have n1 : q ≠ .r b := by rintro rfl; rw [Tb] at hq; cases hq
    have n2 : q ≠ .r c12 := by rintro rfl; rw [T12] at hq; cases hq
    refine ⟨n1, Or.inl ?_⟩
    first
      | (rw [Store.set_other _ _ n2, Store.set_other _ _ n1]; exact hq)
      | (rw [Store.set_other _ _ n1, Store.set_other _ _ n2]; exact hq)
      | (rw [Store.set_other _ _ n1, Store.set_other _ _ n2, Store.set_other _ _ n1]; exact hq)
  · refine ⟨Or.inl (Or.inl (Or.inl (by simp only [go_sem, decide_true, decide_false, Nat.lt_irrefl]))), Or.inl (Or.inl (Or.inl (by simp only [go_sem, decide_true, decide_false, Nat.lt_irrefl]))), Or.inl (Or.inl (Or.inl (by simp only [go_sem, decide_true, decide_false, Nat.lt_irrefl]))), Or.inl (Or.inl (Or.inl (by simp only [go_sem, decide_true, decide_false, Nat.lt_irrefl]))), Or.inl (Or.inl (Or.inl (by simp only [go_sem, decide_true, decide_false, Nat.lt_irrefl]))), Or.inl (Or.inl (Or.inr (Or.inr ⟨3, 0, g.w.toNat, cap, R.map Hist.cs, ?_, by omega, rfl, by rw [List.length_map]; exact hRl, hist_len, ?_⟩))), trivial⟩
    · simp only [go_sem, decide_true, decide_false, Nat.lt_irrefl, hrw]
    · rw [List.drop_zero, List.take_append_of_le_length (by rw [hflat_len, hRl]; exact Nat.le_refl _), List.take_of_length_le (by rw [hflat_len, hRl]; exact Nat.le_refl _)]
  subst hT
  refine xc_ok (bitB 75557863734711490330623) _ _ _ ?_
  simp only [go_sem, decide_true, decide_false, Nat.lt_irrefl, h3, h4, h6, h8, hkk]
  have htk : (List.take i (rowsV g e i).1).length = i := by rw [List.length_take, hlen1]; exact Nat.min_eq_left hi
  have e5 : List.map rowE (List.take i (rowsV g e i).1) ++ [[rowP R]] = List.map rowE (List.take (i + 1) (rowsV g e (i + 1)).1) := by
    have hl2 : i < ((rowsV g e i).1.set i R).length := by rw [List.length_set, hlen1]; exact c
    rw [hse, hR]
    dsimp only
    rw [List.take_succ_eq_append_getElem hl2, List.map_append]
    congr 1
    · rw [List.take_set_of_le (Nat.le_refl _)]
    · simp [rowE]
  have hq : wi ((i : Int) + 1) = ((i + 1 : Nat) : Int) := wi_succ (show i < 4611686018427387904 by clear h3 h4 h6 h8 hb h12; omega)
  rw [htk]
  refine ⟨by rintro el rfl; rfl, rfl, row_len, by clear h3 h4 h6 h8 hb h12; omega, by clear h3 h4 h6 h8 hb h12; omega, grow_intro fun loc' => ?_⟩
  simp only [go_sem, decide_true, decide_false, Nat.lt_irrefl, h3, h4, h6, h8, hkk, e5]
  refine xc_ok (bitB 75557863734711490330623) _ _ _ ?_
  simp only [go_sem, decide_true, decide_false, Nat.lt_irrefl, hq]
  have hl3 : (List.take (i + 1) (rowsV g e (i + 1)).1).length = i + 1 := by
    rw [List.length_take, rowsV_len]; exact Nat.min_eq_left hchk
  rw [hl3]
  refine (ih (i + 1, loc') ⟨hchk, by rw [hse]; exact ex⟩ (by dsimp only; clear h3 h4 h6 h8 hb h12; omega)).back ?_ (by simp) ?_
  · ((try dsimp only); (repeat refine sub_set ?_ ?_) <;> first | ((repeat (first | exact Sub.refl _ | refine Sub.setF ?_ (by first | assumption | exact And.right (by assumption) | exact And.right (And.right (by assumption)) | exact And.right (And.right (And.right (by assumption))) | exact And.right (And.right (And.right (And.right (by assumption)))) | exact And.right (And.right (And.right (And.right (And.right (by assumption))))) | exact And.right (And.right (And.right (And.right (And.right (And.right (by assumption)))))) | exact And.right (And.right (And.right (And.right (And.right (And.right (And.right (by assumption))))))) | exact And.right (And.right (And.right (And.right (And.right (And.right (And.right (And.right (by assumption)))))))) | exact And.right (And.right (And.right (And.right (And.right (And.right (And.right (And.right (And.right (by assumption)))))))))) | refine Sub.setV ?_ (by first | assumption | exact And.right (by assumption) | exact And.right (And.right (by assumption)) | exact And.right (And.right (And.right (by assumption))) | exact And.right (And.right (And.right (And.right (by assumption)))) | exact And.right (And.right (And.right (And.right (And.right (by assumption))))) | exact And.right (And.right (And.right (And.right (And.right (And.right (by assumption)))))) | exact And.right (And.right (And.right (And.right (And.right (And.right (And.right (by assumption))))))) | exact And.right (And.right (And.right (And.right (And.right (And.right (And.right (And.right (by assumption)))))))) | exact And.right (And.right (And.right (And.right (And.right (And.right (And.right (And.right (And.right (by assumption)))))))))))); done) | (simp only [go_sem, decide_true, decide_false, Nat.lt_irrefl, h3, h4, h6, h8, hkk]; done) | (simp only [go_sem, decide_true, decide_false, Nat.lt_irrefl, h3, h4, h6, h8, hkk]; rfl) | rfl)
  · simp only [go_sem, decide_true, decide_false, Nat.lt_irrefl, hq]
end Go.Sk
end

-- W15i
section
namespace Go.Sk
open Go Go.Proofs

theorem hist_rep (l : List Hist) (j : Nat) (h : j < l.length) : List.map Hist.cs (l.take j) ++ [[.int .i64 (l[j]).k, .int .i64 (l[j]).g, .sl ((l[j]).ls.map lvE)]] = List.map Hist.cs (l.take (j + 1)) := by
  rw [List.take_succ_eq_append_getElem h, List.map_append]; rfl
theorem row_more (l : List (List Hist)) (j : Nat) (h : j < l.length) : List.map rowE (l.take j) ++ [[.sl ((l[j]).map Hist.cs)]] = List.map rowE (l.take (j + 1)) := by
  rw [List.take_succ_eq_append_getElem h, List.map_append]; rfl
theorem take_len {α : Type} {l : List α} {j : Nat} (h : j ≤ l.length) : (l.take j).length = j := by rw [List.length_take]; exact Nat.min_eq_left h

theorem hists (l : List Hist) (hn : l.length < 1048576) : Pure Try.prog 44 [.p (.sl (l.map Hist.cs))] (.p (.sl (l.map Hist.cs))) := fun S => by
  refine callR_of Try.func44 rfl rfl (xc_ok (bitB 285) _ _ _ ?_)
  simp only [go_sem, decide_true, decide_false, Nat.lt_irrefl]
  refine AWP.tip0 3 3 (by simp only [go_sem, decide_true, decide_false, Nat.lt_irrefl]) fun k hk => ?_
  simp only [go_sem, decide_true, decide_false, Nat.lt_irrefl]
  refine AWP.iterE (ι := Option Nat) (fun loc j => ⟨Env.get [(0, .p (.sl (l.map Hist.cs))), (3, .ts k 3 loc ((l.take j).map Hist.cs)), (4, i64 j)], S.set (.v k) (.tip 3 j loc), 31, []⟩) l.length none ?_ ?_ ?_
  · refine le_of (by simp only [go_sem, decide_true, decide_false, Nat.lt_irrefl, List.take_zero, List.map_nil] <;> rfl) ?_ rfl rfl (by simp)
    ((try dsimp only); (repeat refine sub_set ?_ ?_) <;> first | ((repeat (first | exact Sub.refl _ | refine Sub.setF ?_ (by first | assumption | exact And.right (by assumption) | exact And.right (And.right (by assumption)) | exact And.right (And.right (And.right (by assumption))) | exact And.right (And.right (And.right (And.right (by assumption)))) | exact And.right (And.right (And.right (And.right (And.right (by assumption))))) | exact And.right (And.right (And.right (And.right (And.right (And.right (by assumption)))))) | exact And.right (And.right (And.right (And.right (And.right (And.right (And.right (by assumption))))))) | exact And.right (And.right (And.right (And.right (And.right (And.right (And.right (And.right (by assumption)))))))) | exact And.right (And.right (And.right (And.right (And.right (And.right (And.right (And.right (And.right (by assumption)))))))))) | refine Sub.setV ?_ (by first | assumption | exact And.right (by assumption) | exact And.right (And.right (by assumption)) | exact And.right (And.right (And.right (by assumption))) | exact And.right (And.right (And.right (And.right (by assumption)))) | exact And.right (And.right (And.right (And.right (And.right (by assumption))))) | exact And.right (And.right (And.right (And.right (And.right (And.right (by assumption)))))) | exact And.right (And.right (And.right (And.right (And.right (And.right (And.right (by assumption))))))) | exact And.right (And.right (And.right (And.right (And.right (And.right (And.right (And.right (by assumption)))))))) | exact And.right (And.right (And.right (And.right (And.right (And.right (And.right (And.right (And.right (by assumption)))))))))))); done) | (simp only [go_sem, decide_true, decide_false, Nat.lt_irrefl, hk]; done) | (simp only [go_sem, decide_true, decide_false, Nat.lt_irrefl, hk]; rfl) | rfl)
  · intro j loc hj jh
    have hqj : wi ((j : Int) + 1) = ((j + 1 : Nat) : Int) := wi_succ (show j < 4611686018427387904 by omega)
    have htl : (l.take j).length = j := take_len (by omega)
    have htl1 : (l.take (j + 1)).length = j + 1 := take_len (by omega)
    refine AWPH.step (xc_ok (bitB 285) _ _ _ ?_)
    simp only [go_sem, decide_true, decide_false, Nat.lt_irrefl, hj, ltN' hj, getD_map' _ _ _ _ hj]
    refine AWP.draw2 (bitB 285) mixed (by kernel_rfl) (fun j => bl false) ?_
    simp only [go_sem, decide_true, decide_false, Nat.lt_irrefl, hj, ltN' hj, getD_map' _ _ _ _ hj, hk, List.length_map, htl]
    refine ⟨by rintro el rfl; rfl, hist_len, by omega, by omega, grow_intro fun loc' => ?_⟩
    simp only [go_sem, decide_true, decide_false, Nat.lt_irrefl, hk, hqj, hist_rep l j hj]
    refine (jh loc').back ?_ (by simp) ?_
    · ((try dsimp only); (repeat refine sub_set ?_ ?_) <;> first | ((repeat (first | exact Sub.refl _ | refine Sub.setF ?_ (by first | assumption | exact And.right (by assumption) | exact And.right (And.right (by assumption)) | exact And.right (And.right (And.right (by assumption))) | exact And.right (And.right (And.right (And.right (by assumption)))) | exact And.right (And.right (And.right (And.right (And.right (by assumption))))) | exact And.right (And.right (And.right (And.right (And.right (And.right (by assumption)))))) | exact And.right (And.right (And.right (And.right (And.right (And.right (And.right (by assumption))))))) | exact And.right (And.right (And.right (And.right (And.right (And.right (And.right (And.right (by assumption)))))))) | exact And.right (And.right (And.right (And.right (And.right (And.right (And.right (And.right (And.right (by assumption)))))))))) | refine Sub.setV ?_ (by first | assumption | exact And.right (by assumption) | exact And.right (And.right (by assumption)) | exact And.right (And.right (And.right (by assumption))) | exact And.right (And.right (And.right (And.right (by assumption)))) | exact And.right (And.right (And.right (And.right (And.right (by assumption))))) | exact And.right (And.right (And.right (And.right (And.right (And.right (by assumption)))))) | exact And.right (And.right (And.right (And.right (And.right (And.right (And.right (by assumption))))))) | exact And.right (And.right (And.right (And.right (And.right (And.right (And.right (And.right (by assumption)))))))) | exact And.right (And.right (And.right (And.right (And.right (And.right (And.right (And.right (And.right (by assumption)))))))))))); done) | (simp only [go_sem, decide_true, decide_false, Nat.lt_irrefl, hk, List.length_map, htl1, hist_rep l j hj]; done) | (simp only [go_sem, decide_true, decide_false, Nat.lt_irrefl, hk, List.length_map, htl1, hist_rep l j hj]; rfl) | rfl)
    · simp only [go_sem, decide_true, decide_false, Nat.lt_irrefl, hqj]
  · intro loc
    refine AWPH.step (xc_ok (bitB 285) _ _ _ ?_)
    simp only [go_sem, decide_true, decide_false, Nat.lt_irrefl, hk, List.take_length]
    refine ⟨S, Sub.set (Sub.refl _) hk _, ?_⟩
    simp
theorem theirs (l : List Hist) (hn : l.length < 1048576) : Pure Try.prog 39 [.p (.sl (l.map Hist.cs))] (.p (.sl (l.map Hist.cs))) := fun S => by
  refine callR_of Try.func39 rfl rfl (xc_ok (bitB 285) _ _ _ ?_)
  simp only [go_sem, decide_true, decide_false, Nat.lt_irrefl]
  refine AWP.tip0 3 3 (by simp only [go_sem, decide_true, decide_false, Nat.lt_irrefl]) fun k hk => ?_
  simp only [go_sem, decide_true, decide_false, Nat.lt_irrefl]
  refine AWP.iterE (ι := Option Nat) (fun loc j => ⟨Env.get [(0, .p (.sl (l.map Hist.cs))), (3, .ts k 3 loc ((l.take j).map Hist.cs)), (4, i64 j)], S.set (.v k) (.tip 3 j loc), 31, []⟩) l.length none ?_ ?_ ?_
  · refine le_of (by simp only [go_sem, decide_true, decide_false, Nat.lt_irrefl, List.take_zero, List.map_nil] <;> rfl) ?_ rfl rfl (by simp)
    ((try dsimp only); (repeat refine sub_set ?_ ?_) <;> first | ((repeat (first | exact Sub.refl _ | refine Sub.setF ?_ (by first | assumption | exact And.right (by assumption) | exact And.right (And.right (by assumption)) | exact And.right (And.right (And.right (by assumption))) | exact And.right (And.right (And.right (And.right (by assumption)))) | exact And.right (And.right (And.right (And.right (And.right (by assumption))))) | exact And.right (And.right (And.right (And.right (And.right (And.right (by assumption)))))) | exact And.right (And.right (And.right (And.right (And.right (And.right (And.right (by assumption))))))) | exact And.right (And.right (And.right (And.right (And.right (And.right (And.right (And.right (by assumption)))))))) | exact And.right (And.right (And.right (And.right (And.right (And.right (And.right (And.right (And.right (by assumption)))))))))) | refine Sub.setV ?_ (by first | assumption | exact And.right (by assumption) | exact And.right (And.right (by assumption)) | exact And.right (And.right (And.right (by assumption))) | exact And.right (And.right (And.right (And.right (by assumption)))) | exact And.right (And.right (And.right (And.right (And.right (by assumption))))) | exact And.right (And.right (And.right (And.right (And.right (And.right (by assumption)))))) | exact And.right (And.right (And.right (And.right (And.right (And.right (And.right (by assumption))))))) | exact And.right (And.right (And.right (And.right (And.right (And.right (And.right (And.right (by assumption)))))))) | exact And.right (And.right (And.right (And.right (And.right (And.right (And.right (And.right (And.right (by assumption)))))))))))); done) | (simp only [go_sem, decide_true, decide_false, Nat.lt_irrefl, hk]; done) | (simp only [go_sem, decide_true, decide_false, Nat.lt_irrefl, hk]; rfl) | rfl)
  · intro j loc hj jh
    have hqj : wi ((j : Int) + 1) = ((j + 1 : Nat) : Int) := wi_succ (show j < 4611686018427387904 by omega)
    have htl : (l.take j).length = j := take_len (by omega)
    have htl1 : (l.take (j + 1)).length = j + 1 := take_len (by omega)
    refine AWPH.step (xc_ok (bitB 285) _ _ _ ?_)
    simp only [go_sem, decide_true, decide_false, Nat.lt_irrefl, hj, ltN' hj, getD_map' _ _ _ _ hj]
    refine AWP.draw2 (bitB 285) mixed (by kernel_rfl) (fun j => bl false) ?_
    simp only [go_sem, decide_true, decide_false, Nat.lt_irrefl, hj, ltN' hj, getD_map' _ _ _ _ hj, hk, List.length_map, htl]
    refine ⟨by rintro el rfl; rfl, hist_len, by omega, by omega, grow_intro fun loc' => ?_⟩
    simp only [go_sem, decide_true, decide_false, Nat.lt_irrefl, hk, hqj, hist_rep l j hj]
    refine (jh loc').back ?_ (by simp) ?_
    · ((try dsimp only); (repeat refine sub_set ?_ ?_) <;> first | ((repeat (first | exact Sub.refl _ | refine Sub.setF ?_ (by first | assumption | exact And.right (by assumption) | exact And.right (And.right (by assumption)) | exact And.right (And.right (And.right (by assumption))) | exact And.right (And.right (And.right (And.right (by assumption)))) | exact And.right (And.right (And.right (And.right (And.right (by assumption))))) | exact And.right (And.right (And.right (And.right (And.right (And.right (by assumption)))))) | exact And.right (And.right (And.right (And.right (And.right (And.right (And.right (by assumption))))))) | exact And.right (And.right (And.right (And.right (And.right (And.right (And.right (And.right (by assumption)))))))) | exact And.right (And.right (And.right (And.right (And.right (And.right (And.right (And.right (And.right (by assumption)))))))))) | refine Sub.setV ?_ (by first | assumption | exact And.right (by assumption) | exact And.right (And.right (by assumption)) | exact And.right (And.right (And.right (by assumption))) | exact And.right (And.right (And.right (And.right (by assumption)))) | exact And.right (And.right (And.right (And.right (And.right (by assumption))))) | exact And.right (And.right (And.right (And.right (And.right (And.right (by assumption)))))) | exact And.right (And.right (And.right (And.right (And.right (And.right (And.right (by assumption))))))) | exact And.right (And.right (And.right (And.right (And.right (And.right (And.right (And.right (by assumption)))))))) | exact And.right (And.right (And.right (And.right (And.right (And.right (And.right (And.right (And.right (by assumption)))))))))))); done) | (simp only [go_sem, decide_true, decide_false, Nat.lt_irrefl, hk, List.length_map, htl1, hist_rep l j hj]; done) | (simp only [go_sem, decide_true, decide_false, Nat.lt_irrefl, hk, List.length_map, htl1, hist_rep l j hj]; rfl) | rfl)
    · simp only [go_sem, decide_true, decide_false, Nat.lt_irrefl, hqj]
  · intro loc
    refine AWPH.step (xc_ok (bitB 285) _ _ _ ?_)
    simp only [go_sem, decide_true, decide_false, Nat.lt_irrefl, hk, List.take_length]
    refine ⟨S, Sub.set (Sub.refl _) hk _, ?_⟩
    simp

structure Grid.Sz (g : Grid) : Prop where
  n : g.rows.length < 1048576
  w : ∀ r ∈ g.rows, r.length < 1048576
set_option maxHeartbeats 1000000 in
theorem laid (g : Grid) (hg : g.Sz) : Pure Try.prog 16 [g.av] g.av := fun S => by
  have hnn := hg.n
  refine callR_of Try.func16 rfl rfl (xc_ok (bitB 16777247) _ _ _ ?_)
  simp only [go_sem, decide_true, decide_false, Nat.lt_irrefl]
  refine alloc_intro fun c1 h1 => ?_
  simp only [go_sem, decide_true, decide_false, Nat.lt_irrefl]
  refine alloc_intro fun c2 h2 => ?_
  simp only [fresh_set] at h2
  simp only [go_sem, decide_true, decide_false, Nat.lt_irrefl, h2]
  refine alloc_intro fun c3 h3 => ?_
  simp only [fresh_set] at h3
  simp only [go_sem, decide_true, decide_false, Nat.lt_irrefl, h2, h3]
  have y1 : S (.r c1) = none := h1
  have y2 : S (.r c2) = none := h2.2
  have y3 : S (.r c3) = none := h3.2.2
  refine AWP.tipB c3 2 1 (cs := [i64 g.w, .p (.sl (g.sd.map Seed.pv)), .nils, i64 g.all.k, i64 g.all.g, .p (.sl (g.all.ls.map lvE))]) (by simp only [go_sem, decide_true, decide_false, Nat.lt_irrefl, h3]) rfl fun kk hkk => ?_
  simp only [freshv_setr] at hkk
  simp only [List.set]
  refine AWP.iterE (ι := Option Nat) (fun loc i => ⟨Env.get [(1, .sp c1 0), (2, .sp c2 0), (3, .sp c3 0), (4, i64 i)],
    ((((S.set (.r c1) (.cells [i64 g.w, .p (.sl (g.sd.map Seed.pv)), .p (.sl (g.rows.map rowE)), i64 g.all.k, i64 g.all.g, .p (.sl (g.all.ls.map lvE))])).set (.r c2) (.cells [i64 0, .nils, .nils, i64 0, i64 0, .nils])).set (.v kk) (.tip 1 i loc)).set (.r c3) (.cells [i64 g.w, .p (.sl (g.sd.map Seed.pv)), .ts kk 1 loc ((g.rows.take i).map rowE), i64 g.all.k, i64 g.all.g, .p (.sl (g.all.ls.map lvE))])), 39, []⟩) g.rows.length none ?_ ?_ ?_
  · refine le_of (by simp only [go_sem, decide_true, decide_false, Nat.lt_irrefl] <;> rfl) ?_ rfl rfl (by simp)
    ((try dsimp only); (repeat refine sub_set ?_ ?_) <;> first | ((repeat (first | exact Sub.refl _ | refine Sub.setF ?_ (by first | assumption | exact And.right (by assumption) | exact And.right (And.right (by assumption)) | exact And.right (And.right (And.right (by assumption))) | exact And.right (And.right (And.right (And.right (by assumption)))) | exact And.right (And.right (And.right (And.right (And.right (by assumption))))) | exact And.right (And.right (And.right (And.right (And.right (And.right (by assumption)))))) | exact And.right (And.right (And.right (And.right (And.right (And.right (And.right (by assumption))))))) | exact And.right (And.right (And.right (And.right (And.right (And.right (And.right (And.right (by assumption)))))))) | exact And.right (And.right (And.right (And.right (And.right (And.right (And.right (And.right (And.right (by assumption)))))))))) | refine Sub.setV ?_ (by first | assumption | exact And.right (by assumption) | exact And.right (And.right (by assumption)) | exact And.right (And.right (And.right (by assumption))) | exact And.right (And.right (And.right (And.right (by assumption)))) | exact And.right (And.right (And.right (And.right (And.right (by assumption))))) | exact And.right (And.right (And.right (And.right (And.right (And.right (by assumption)))))) | exact And.right (And.right (And.right (And.right (And.right (And.right (And.right (by assumption))))))) | exact And.right (And.right (And.right (And.right (And.right (And.right (And.right (And.right (by assumption)))))))) | exact And.right (And.right (And.right (And.right (And.right (And.right (And.right (And.right (And.right (by assumption)))))))))))); done) | (simp only [go_sem, decide_true, decide_false, Nat.lt_irrefl, h2, h3, hkk, List.take_zero, List.map_nil]; done) | (simp only [go_sem, decide_true, decide_false, Nat.lt_irrefl, h2, h3, hkk, List.take_zero, List.map_nil]; rfl) | rfl)
  · intro i loc hi ih
    have hq : wi ((i : Int) + 1) = ((i + 1 : Nat) : Int) := wi_succ (show i < 4611686018427387904 by clear h2 h3; omega)
    have htl : (g.rows.take i).length = i := take_len (by clear h2 h3; omega)
    have htl1 : (g.rows.take (i + 1)).length = i + 1 := take_len (by clear h2 h3; omega)
    refine AWPH.step (xc_ok (bitB 16777247) _ _ _ ?_)
    simp only [go_sem, decide_true, decide_false, Nat.lt_irrefl, h2, h3, hi, ltN' hi, getD_map' _ _ _ _ hi]
    refine AWP.draw2 (bitB 16777247) mixed (by kernel_rfl) (fun j => .p (.sl ((g.rows[i]).map Hist.cs))) ?_
    simp only [go_sem, decide_true, decide_false, Nat.lt_irrefl, h2, h3, hkk, hi, ltN' hi, getD_map' _ _ _ _ hi, rowE_mk, rowP, List.length_map, htl]
    refine ⟨(hists g.rows[i] (hg.w _ (List.getElem_mem hi))).draw, by rintro el rfl; rfl, row_len, by clear h2 h3; omega, by clear h2 h3; omega, grow_intro fun loc' => ?_⟩
    simp only [go_sem, decide_true, decide_false, Nat.lt_irrefl, h2, h3, hkk, hq, row_more g.rows i hi]
    refine (ih loc').back ?_ (by simp) ?_
    · ((try dsimp only); (repeat refine sub_set ?_ ?_) <;> first | ((repeat (first | exact Sub.refl _ | refine Sub.setF ?_ (by first | assumption | exact And.right (by assumption) | exact And.right (And.right (by assumption)) | exact And.right (And.right (And.right (by assumption))) | exact And.right (And.right (And.right (And.right (by assumption)))) | exact And.right (And.right (And.right (And.right (And.right (by assumption))))) | exact And.right (And.right (And.right (And.right (And.right (And.right (by assumption)))))) | exact And.right (And.right (And.right (And.right (And.right (And.right (And.right (by assumption))))))) | exact And.right (And.right (And.right (And.right (And.right (And.right (And.right (And.right (by assumption)))))))) | exact And.right (And.right (And.right (And.right (And.right (And.right (And.right (And.right (And.right (by assumption)))))))))) | refine Sub.setV ?_ (by first | assumption | exact And.right (by assumption) | exact And.right (And.right (by assumption)) | exact And.right (And.right (And.right (by assumption))) | exact And.right (And.right (And.right (And.right (by assumption)))) | exact And.right (And.right (And.right (And.right (And.right (by assumption))))) | exact And.right (And.right (And.right (And.right (And.right (And.right (by assumption)))))) | exact And.right (And.right (And.right (And.right (And.right (And.right (And.right (by assumption))))))) | exact And.right (And.right (And.right (And.right (And.right (And.right (And.right (And.right (by assumption)))))))) | exact And.right (And.right (And.right (And.right (And.right (And.right (And.right (And.right (And.right (by assumption)))))))))))); done) | (simp only [go_sem, decide_true, decide_false, Nat.lt_irrefl, h2, h3, hkk, List.length_map, htl1, row_more g.rows i hi]; done) | (simp only [go_sem, decide_true, decide_false, Nat.lt_irrefl, h2, h3, hkk, List.length_map, htl1, row_more g.rows i hi]; rfl) | rfl)
    · simp only [go_sem, decide_true, decide_false, Nat.lt_irrefl, hq]
  · intro loc
    refine AWPH.step (xc_ok (bitB 16777247) _ _ _ ?_)
    simp only [go_sem, decide_true, decide_false, Nat.lt_irrefl, h2, h3, hkk, List.take_length]
    refine ⟨S, ?_, ?_⟩
    · exact Sub.set (Sub.set (Sub.set (Sub.set (Sub.set (Sub.refl _) y1 _) y2 _) hkk _) y3 _) y2 _
    · simp
set_option maxHeartbeats 1000000 in
theorem back (g : Grid) (hg : g.Sz) : Pure Try.prog 12 [g.av] g.av := fun S => by
  have hnn := hg.n
  refine callR_of Try.func12 rfl rfl (xc_ok (bitB 16777247) _ _ _ ?_)
  simp only [go_sem, decide_true, decide_false, Nat.lt_irrefl]
  refine alloc_intro fun c1 h1 => ?_
  simp only [go_sem, decide_true, decide_false, Nat.lt_irrefl]
  refine alloc_intro fun c2 h2 => ?_
  simp only [fresh_set] at h2
  simp only [go_sem, decide_true, decide_false, Nat.lt_irrefl, h2]
  refine alloc_intro fun c3 h3 => ?_
  simp only [fresh_set] at h3
  simp only [go_sem, decide_true, decide_false, Nat.lt_irrefl, h2, h3]
  have y1 : S (.r c1) = none := h1
  have y2 : S (.r c2) = none := h2.2
  have y3 : S (.r c3) = none := h3.2.2
  refine AWP.tipB c3 2 1 (cs := [i64 g.w, .p (.sl (g.sd.map Seed.pv)), .nils, i64 g.all.k, i64 g.all.g, .p (.sl (g.all.ls.map lvE))]) (by simp only [go_sem, decide_true, decide_false, Nat.lt_irrefl, h3]) rfl fun kk hkk => ?_
  simp only [freshv_setr] at hkk
  simp only [List.set]
  refine AWP.iterE (ι := Option Nat) (fun loc i => ⟨Env.get [(1, .sp c1 0), (2, .sp c2 0), (3, .sp c3 0), (4, i64 i)],
    ((((S.set (.r c1) (.cells [i64 g.w, .p (.sl (g.sd.map Seed.pv)), .p (.sl (g.rows.map rowE)), i64 g.all.k, i64 g.all.g, .p (.sl (g.all.ls.map lvE))])).set (.r c2) (.cells [i64 0, .nils, .nils, i64 0, i64 0, .nils])).set (.v kk) (.tip 1 i loc)).set (.r c3) (.cells [i64 g.w, .p (.sl (g.sd.map Seed.pv)), .ts kk 1 loc ((g.rows.take i).map rowE), i64 g.all.k, i64 g.all.g, .p (.sl (g.all.ls.map lvE))])), 39, []⟩) g.rows.length none ?_ ?_ ?_
  · refine le_of (by simp only [go_sem, decide_true, decide_false, Nat.lt_irrefl] <;> rfl) ?_ rfl rfl (by simp)
    ((try dsimp only); (repeat refine sub_set ?_ ?_) <;> first | ((repeat (first | exact Sub.refl _ | refine Sub.setF ?_ (by first | assumption | exact And.right (by assumption) | exact And.right (And.right (by assumption)) | exact And.right (And.right (And.right (by assumption))) | exact And.right (And.right (And.right (And.right (by assumption)))) | exact And.right (And.right (And.right (And.right (And.right (by assumption))))) | exact And.right (And.right (And.right (And.right (And.right (And.right (by assumption)))))) | exact And.right (And.right (And.right (And.right (And.right (And.right (And.right (by assumption))))))) | exact And.right (And.right (And.right (And.right (And.right (And.right (And.right (And.right (by assumption)))))))) | exact And.right (And.right (And.right (And.right (And.right (And.right (And.right (And.right (And.right (by assumption)))))))))) | refine Sub.setV ?_ (by first | assumption | exact And.right (by assumption) | exact And.right (And.right (by assumption)) | exact And.right (And.right (And.right (by assumption))) | exact And.right (And.right (And.right (And.right (by assumption)))) | exact And.right (And.right (And.right (And.right (And.right (by assumption))))) | exact And.right (And.right (And.right (And.right (And.right (And.right (by assumption)))))) | exact And.right (And.right (And.right (And.right (And.right (And.right (And.right (by assumption))))))) | exact And.right (And.right (And.right (And.right (And.right (And.right (And.right (And.right (by assumption)))))))) | exact And.right (And.right (And.right (And.right (And.right (And.right (And.right (And.right (And.right (by assumption)))))))))))); done) | (simp only [go_sem, decide_true, decide_false, Nat.lt_irrefl, h2, h3, hkk, List.take_zero, List.map_nil]; done) | (simp only [go_sem, decide_true, decide_false, Nat.lt_irrefl, h2, h3, hkk, List.take_zero, List.map_nil]; rfl) | rfl)
  · intro i loc hi ih
    have hq : wi ((i : Int) + 1) = ((i + 1 : Nat) : Int) := wi_succ (show i < 4611686018427387904 by clear h2 h3; omega)
    have htl : (g.rows.take i).length = i := take_len (by clear h2 h3; omega)
    have htl1 : (g.rows.take (i + 1)).length = i + 1 := take_len (by clear h2 h3; omega)
    refine AWPH.step (xc_ok (bitB 16777247) _ _ _ ?_)
    simp only [go_sem, decide_true, decide_false, Nat.lt_irrefl, h2, h3, hi, ltN' hi, getD_map' _ _ _ _ hi]
    refine AWP.draw2 (bitB 16777247) mixed (by kernel_rfl) (fun j => .p (.sl ((g.rows[i]).map Hist.cs))) ?_
    simp only [go_sem, decide_true, decide_false, Nat.lt_irrefl, h2, h3, hkk, hi, ltN' hi, getD_map' _ _ _ _ hi, rowE_mk, rowP, List.length_map, htl]
    refine ⟨(theirs g.rows[i] (hg.w _ (List.getElem_mem hi))).draw, by rintro el rfl; rfl, row_len, by clear h2 h3; omega, by clear h2 h3; omega, grow_intro fun loc' => ?_⟩
    simp only [go_sem, decide_true, decide_false, Nat.lt_irrefl, h2, h3, hkk, hq, row_more g.rows i hi]
    refine (ih loc').back ?_ (by simp) ?_
    · ((try dsimp only); (repeat refine sub_set ?_ ?_) <;> first | ((repeat (first | exact Sub.refl _ | refine Sub.setF ?_ (by first | assumption | exact And.right (by assumption) | exact And.right (And.right (by assumption)) | exact And.right (And.right (And.right (by assumption))) | exact And.right (And.right (And.right (And.right (by assumption)))) | exact And.right (And.right (And.right (And.right (And.right (by assumption))))) | exact And.right (And.right (And.right (And.right (And.right (And.right (by assumption)))))) | exact And.right (And.right (And.right (And.right (And.right (And.right (And.right (by assumption))))))) | exact And.right (And.right (And.right (And.right (And.right (And.right (And.right (And.right (by assumption)))))))) | exact And.right (And.right (And.right (And.right (And.right (And.right (And.right (And.right (And.right (by assumption)))))))))) | refine Sub.setV ?_ (by first | assumption | exact And.right (by assumption) | exact And.right (And.right (by assumption)) | exact And.right (And.right (And.right (by assumption))) | exact And.right (And.right (And.right (And.right (by assumption)))) | exact And.right (And.right (And.right (And.right (And.right (by assumption))))) | exact And.right (And.right (And.right (And.right (And.right (And.right (by assumption)))))) | exact And.right (And.right (And.right (And.right (And.right (And.right (And.right (by assumption))))))) | exact And.right (And.right (And.right (And.right (And.right (And.right (And.right (And.right (by assumption)))))))) | exact And.right (And.right (And.right (And.right (And.right (And.right (And.right (And.right (And.right (by assumption)))))))))))); done) | (simp only [go_sem, decide_true, decide_false, Nat.lt_irrefl, h2, h3, hkk, List.length_map, htl1, row_more g.rows i hi]; done) | (simp only [go_sem, decide_true, decide_false, Nat.lt_irrefl, h2, h3, hkk, List.length_map, htl1, row_more g.rows i hi]; rfl) | rfl)
    · simp only [go_sem, decide_true, decide_false, Nat.lt_irrefl, hq]
  · intro loc
    refine AWPH.step (xc_ok (bitB 16777247) _ _ _ ?_)
    simp only [go_sem, decide_true, decide_false, Nat.lt_irrefl, h2, h3, hkk, List.take_length]
    refine ⟨S, ?_, ?_⟩
    · exact Sub.set (Sub.set (Sub.set (Sub.set (Sub.set (Sub.refl _) y1 _) y2 _) hkk _) y3 _) y2 _
    · simp

noncomputable def rowV (g : Grid) (row : Int) (x t n : Nat) : Nat :=
  if 0 ≤ row ∧ row < g.rows.length ∧ x < 2305843009213693951 then estV ((g.rows.getD row.toNat []).getD (colN g x row.toNat) zeroH).ls t n else 0
theorem Hist.Ok.sm {h : Hist} (ok : h.Ok) : h.ls.length < 1099511627776 ∧ ∀ l ∈ h.ls, l.length < 1099511627776 := ⟨by have := ok.ls; omega, fun l hl => by have := ok.ll l hl; omega⟩
set_option maxHeartbeats 1000000 in
theorem grid_Row (g : Grid) (hg : g.Ok) (row : Int) (x t n : Nat) (hx : x < 18446744073709551616) : Pure Try.prog 18 [g.av, i64 row, u64 x, u64 t, u64 n] (u64 (rowV g row x t n)) := fun S => by
  refine callR_of Try.func18 rfl rfl (xc_ok (bitB 16778303) _ _ _ ?_)
  simp only [go_sem, decide_true, decide_false, Nat.lt_irrefl]
  refine alloc_intro fun c5 h5 => ?_
  by_cases a1 : row < 0
  · simp only [go_sem, decide_true, decide_false, Nat.lt_irrefl, a1]
    (refine ⟨S, by (repeat (first | exact Sub.refl _ | refine Sub.setF ?_ (by first | assumption | exact And.right (by assumption) | exact And.right (And.right (by assumption)) | exact And.right (And.right (And.right (by assumption))) | exact And.right (And.right (And.right (And.right (by assumption)))) | exact And.right (And.right (And.right (And.right (And.right (by assumption))))) | exact And.right (And.right (And.right (And.right (And.right (And.right (by assumption)))))) | exact And.right (And.right (And.right (And.right (And.right (And.right (And.right (by assumption))))))) | exact And.right (And.right (And.right (And.right (And.right (And.right (And.right (And.right (by assumption)))))))) | exact And.right (And.right (And.right (And.right (And.right (And.right (And.right (And.right (And.right (by assumption)))))))))) | refine Sub.setV ?_ (by first | assumption | exact And.right (by assumption) | exact And.right (And.right (by assumption)) | exact And.right (And.right (And.right (by assumption))) | exact And.right (And.right (And.right (And.right (by assumption)))) | exact And.right (And.right (And.right (And.right (And.right (by assumption))))) | exact And.right (And.right (And.right (And.right (And.right (And.right (by assumption)))))) | exact And.right (And.right (And.right (And.right (And.right (And.right (And.right (by assumption))))))) | exact And.right (And.right (And.right (And.right (And.right (And.right (And.right (And.right (by assumption)))))))) | exact And.right (And.right (And.right (And.right (And.right (And.right (And.right (And.right (And.right (by assumption)))))))))))), ?_⟩); simp [rowV, show ¬ 0 ≤ row by omega]
  by_cases a2 : row ≥ g.rows.length
  · simp only [go_sem, decide_true, decide_false, Nat.lt_irrefl, a1, a2, List.length_map]
    (refine ⟨S, by (repeat (first | exact Sub.refl _ | refine Sub.setF ?_ (by first | assumption | exact And.right (by assumption) | exact And.right (And.right (by assumption)) | exact And.right (And.right (And.right (by assumption))) | exact And.right (And.right (And.right (And.right (by assumption)))) | exact And.right (And.right (And.right (And.right (And.right (by assumption))))) | exact And.right (And.right (And.right (And.right (And.right (And.right (by assumption)))))) | exact And.right (And.right (And.right (And.right (And.right (And.right (And.right (by assumption))))))) | exact And.right (And.right (And.right (And.right (And.right (And.right (And.right (And.right (by assumption)))))))) | exact And.right (And.right (And.right (And.right (And.right (And.right (And.right (And.right (And.right (by assumption)))))))))) | refine Sub.setV ?_ (by first | assumption | exact And.right (by assumption) | exact And.right (And.right (by assumption)) | exact And.right (And.right (And.right (by assumption))) | exact And.right (And.right (And.right (And.right (by assumption)))) | exact And.right (And.right (And.right (And.right (And.right (by assumption))))) | exact And.right (And.right (And.right (And.right (And.right (And.right (by assumption)))))) | exact And.right (And.right (And.right (And.right (And.right (And.right (And.right (by assumption))))))) | exact And.right (And.right (And.right (And.right (And.right (And.right (And.right (And.right (by assumption)))))))) | exact And.right (And.right (And.right (And.right (And.right (And.right (And.right (And.right (And.right (by assumption)))))))))))), ?_⟩); simp [rowV, show ¬ row < g.rows.length by omega]
  simp only [go_sem, decide_true, decide_false, Nat.lt_irrefl, a1, a2, List.length_map]
  refine (hash_Key x).useA ?_
  by_cases a3 : x < 2305843009213693951
  rotate_left
  · simp only [go_sem, decide_true, decide_false, Nat.lt_irrefl, a3, Bool.not_false]
    (refine ⟨S, by (repeat (first | exact Sub.refl _ | refine Sub.setF ?_ (by first | assumption | exact And.right (by assumption) | exact And.right (And.right (by assumption)) | exact And.right (And.right (And.right (by assumption))) | exact And.right (And.right (And.right (And.right (by assumption)))) | exact And.right (And.right (And.right (And.right (And.right (by assumption))))) | exact And.right (And.right (And.right (And.right (And.right (And.right (by assumption)))))) | exact And.right (And.right (And.right (And.right (And.right (And.right (And.right (by assumption))))))) | exact And.right (And.right (And.right (And.right (And.right (And.right (And.right (And.right (by assumption)))))))) | exact And.right (And.right (And.right (And.right (And.right (And.right (And.right (And.right (And.right (by assumption)))))))))) | refine Sub.setV ?_ (by first | assumption | exact And.right (by assumption) | exact And.right (And.right (by assumption)) | exact And.right (And.right (And.right (by assumption))) | exact And.right (And.right (And.right (And.right (by assumption)))) | exact And.right (And.right (And.right (And.right (And.right (by assumption))))) | exact And.right (And.right (And.right (And.right (And.right (And.right (by assumption)))))) | exact And.right (And.right (And.right (And.right (And.right (And.right (And.right (by assumption))))))) | exact And.right (And.right (And.right (And.right (And.right (And.right (And.right (And.right (by assumption)))))))) | exact And.right (And.right (And.right (And.right (And.right (And.right (And.right (And.right (And.right (by assumption)))))))))))), ?_⟩); simp [rowV, a3]
  simp only [go_sem, decide_true, decide_false, Nat.lt_irrefl, a3, Bool.not_true]
  obtain ⟨i, rfl⟩ : ∃ i : Nat, row = i := ⟨row.toNat, by omega⟩
  have hi : i < g.rows.length := by omega
  have hcs : i < g.sd.length := by rw [hg.sd]; exact hi
  have hci : colV g.sd[i] x g.w = ((colN g x i : Nat) : Int) := by
    unfold colN
    rw [show g.sd.getD i default = g.sd[i] by simp [List.getD_eq_getElem?_getD, hcs], Int.toNat_of_nonneg (colV_nn _ _ _)]
  have hcr : colN g x i < g.rows[i].length := by rw [hg.wid _ (List.getElem_mem hi)]; exact colN_lt g hg.w1 x i
  have hok := (hg.hs _ (List.getElem_mem hi) _ (List.getElem_mem hcr)).sm
  have hrv : rowV g i x t n = estV (g.rows[i][colN g x i]).ls t n := by
    unfold rowV
    rw [if_pos ⟨by omega, by omega, a3⟩, Int.toNat_natCast, show g.rows.getD i [] = g.rows[i] by simp [List.getD_eq_getElem?_getD, hi], show (g.rows[i]).getD (colN g x i) zeroH = g.rows[i][colN g x i] by simp [List.getD_eq_getElem?_getD, hcr]]
  have hw2 := hg.w2
  refine AWP.draw2 (bitB 16778303) mixed (by kernel_rfl) (fun j => if j = 13 then i64 (colN g x i) else u64 (rowV g i x t n)) ?_
  simp only [go_sem, decide_true, decide_false, Nat.lt_irrefl, hi, ltN' hi, hcs, ltN' hcs, getD_map' _ _ _ _ hi, getD_map' _ _ _ _ hcs, rowE_mk, rowP]
  refine ⟨hci ▸ (hash_Column g.sd[i] x g.w (hg.so _ (List.getElem_mem hcs)) hx (by omega)).draw, ?_⟩
  simp only [go_sem, decide_true, decide_false, Nat.lt_irrefl, ltN' hcr, hcr, getD_map' _ _ _ _ hcr]
  refine ⟨hrv ▸ (est_Of (g.rows[i][colN g x i]).k (g.rows[i][colN g x i]).g (g.rows[i][colN g x i]).ls t n hok.1 hok.2).draw, ?_⟩
  (refine ⟨S, by (repeat (first | exact Sub.refl _ | refine Sub.setF ?_ (by first | assumption | exact And.right (by assumption) | exact And.right (And.right (by assumption)) | exact And.right (And.right (And.right (by assumption))) | exact And.right (And.right (And.right (And.right (by assumption)))) | exact And.right (And.right (And.right (And.right (And.right (by assumption))))) | exact And.right (And.right (And.right (And.right (And.right (And.right (by assumption)))))) | exact And.right (And.right (And.right (And.right (And.right (And.right (And.right (by assumption))))))) | exact And.right (And.right (And.right (And.right (And.right (And.right (And.right (And.right (by assumption)))))))) | exact And.right (And.right (And.right (And.right (And.right (And.right (And.right (And.right (And.right (by assumption)))))))))) | refine Sub.setV ?_ (by first | assumption | exact And.right (by assumption) | exact And.right (And.right (by assumption)) | exact And.right (And.right (And.right (by assumption))) | exact And.right (And.right (And.right (And.right (by assumption)))) | exact And.right (And.right (And.right (And.right (And.right (by assumption))))) | exact And.right (And.right (And.right (And.right (And.right (And.right (by assumption)))))) | exact And.right (And.right (And.right (And.right (And.right (And.right (And.right (by assumption))))))) | exact And.right (And.right (And.right (And.right (And.right (And.right (And.right (And.right (by assumption)))))))) | exact And.right (And.right (And.right (And.right (And.right (And.right (And.right (And.right (And.right (by assumption)))))))))))), ?_⟩); simp
theorem ref15_Row (g : Grid) (hg : g.Ok) (row : Int) (x t n : Nat) (hx : x < 18446744073709551616) : Pure Try.prog 19 [g.av, i64 row, u64 x, u64 t, u64 n] (u64 (rowV g row x t n)) := fun S => by
  refine callR_of Try.func19 rfl rfl (xc_ok (bitB 33557567) _ _ _ ?_)
  simp only [go_sem, decide_true, decide_false, Nat.lt_irrefl]
  refine alloc_intro fun c5 h5 => ?_
  by_cases a1 : row < 0
  · simp only [go_sem, decide_true, decide_false, Nat.lt_irrefl, a1]
    (refine ⟨S, by (repeat (first | exact Sub.refl _ | refine Sub.setF ?_ (by first | assumption | exact And.right (by assumption) | exact And.right (And.right (by assumption)) | exact And.right (And.right (And.right (by assumption))) | exact And.right (And.right (And.right (And.right (by assumption)))) | exact And.right (And.right (And.right (And.right (And.right (by assumption))))) | exact And.right (And.right (And.right (And.right (And.right (And.right (by assumption)))))) | exact And.right (And.right (And.right (And.right (And.right (And.right (And.right (by assumption))))))) | exact And.right (And.right (And.right (And.right (And.right (And.right (And.right (And.right (by assumption)))))))) | exact And.right (And.right (And.right (And.right (And.right (And.right (And.right (And.right (And.right (by assumption)))))))))) | refine Sub.setV ?_ (by first | assumption | exact And.right (by assumption) | exact And.right (And.right (by assumption)) | exact And.right (And.right (And.right (by assumption))) | exact And.right (And.right (And.right (And.right (by assumption)))) | exact And.right (And.right (And.right (And.right (And.right (by assumption))))) | exact And.right (And.right (And.right (And.right (And.right (And.right (by assumption)))))) | exact And.right (And.right (And.right (And.right (And.right (And.right (And.right (by assumption))))))) | exact And.right (And.right (And.right (And.right (And.right (And.right (And.right (And.right (by assumption)))))))) | exact And.right (And.right (And.right (And.right (And.right (And.right (And.right (And.right (And.right (by assumption)))))))))))), ?_⟩); simp [rowV, show ¬ 0 ≤ row by omega]
  by_cases a2 : row ≥ g.rows.length
  · simp only [go_sem, decide_true, decide_false, Nat.lt_irrefl, a1, a2, List.length_map]
    (refine ⟨S, by (repeat (first | exact Sub.refl _ | refine Sub.setF ?_ (by first | assumption | exact And.right (by assumption) | exact And.right (And.right (by assumption)) | exact And.right (And.right (And.right (by assumption))) | exact And.right (And.right (And.right (And.right (by assumption)))) | exact And.right (And.right (And.right (And.right (And.right (by assumption))))) | exact And.right (And.right (And.right (And.right (And.right (And.right (by assumption)))))) | exact And.right (And.right (And.right (And.right (And.right (And.right (And.right (by assumption))))))) | exact And.right (And.right (And.right (And.right (And.right (And.right (And.right (And.right (by assumption)))))))) | exact And.right (And.right (And.right (And.right (And.right (And.right (And.right (And.right (And.right (by assumption)))))))))) | refine Sub.setV ?_ (by first | assumption | exact And.right (by assumption) | exact And.right (And.right (by assumption)) | exact And.right (And.right (And.right (by assumption))) | exact And.right (And.right (And.right (And.right (by assumption)))) | exact And.right (And.right (And.right (And.right (And.right (by assumption))))) | exact And.right (And.right (And.right (And.right (And.right (And.right (by assumption)))))) | exact And.right (And.right (And.right (And.right (And.right (And.right (And.right (by assumption))))))) | exact And.right (And.right (And.right (And.right (And.right (And.right (And.right (And.right (by assumption)))))))) | exact And.right (And.right (And.right (And.right (And.right (And.right (And.right (And.right (And.right (by assumption)))))))))))), ?_⟩); simp [rowV, show ¬ row < g.rows.length by omega]
  simp only [go_sem, decide_true, decide_false, Nat.lt_irrefl, a1, a2, List.length_map]
  refine (ref04_Key x).useA ?_
  by_cases a3 : x < 2305843009213693951
  rotate_left
  · simp only [go_sem, decide_true, decide_false, Nat.lt_irrefl, a3, Bool.not_false]
    (refine ⟨S, by (repeat (first | exact Sub.refl _ | refine Sub.setF ?_ (by first | assumption | exact And.right (by assumption) | exact And.right (And.right (by assumption)) | exact And.right (And.right (And.right (by assumption))) | exact And.right (And.right (And.right (And.right (by assumption)))) | exact And.right (And.right (And.right (And.right (And.right (by assumption))))) | exact And.right (And.right (And.right (And.right (And.right (And.right (by assumption)))))) | exact And.right (And.right (And.right (And.right (And.right (And.right (And.right (by assumption))))))) | exact And.right (And.right (And.right (And.right (And.right (And.right (And.right (And.right (by assumption)))))))) | exact And.right (And.right (And.right (And.right (And.right (And.right (And.right (And.right (And.right (by assumption)))))))))) | refine Sub.setV ?_ (by first | assumption | exact And.right (by assumption) | exact And.right (And.right (by assumption)) | exact And.right (And.right (And.right (by assumption))) | exact And.right (And.right (And.right (And.right (by assumption)))) | exact And.right (And.right (And.right (And.right (And.right (by assumption))))) | exact And.right (And.right (And.right (And.right (And.right (And.right (by assumption)))))) | exact And.right (And.right (And.right (And.right (And.right (And.right (And.right (by assumption))))))) | exact And.right (And.right (And.right (And.right (And.right (And.right (And.right (And.right (by assumption)))))))) | exact And.right (And.right (And.right (And.right (And.right (And.right (And.right (And.right (And.right (by assumption)))))))))))), ?_⟩); simp [rowV, a3]
  simp only [go_sem, decide_true, decide_false, Nat.lt_irrefl, a3, Bool.not_true]
  obtain ⟨i, rfl⟩ : ∃ i : Nat, row = i := ⟨row.toNat, by omega⟩
  have hi : i < g.rows.length := by omega
  have hcs : i < g.sd.length := by rw [hg.sd]; exact hi
  have hci : colV g.sd[i] x g.w = ((colN g x i : Nat) : Int) := by
    unfold colN
    rw [show g.sd.getD i default = g.sd[i] by simp [List.getD_eq_getElem?_getD, hcs], Int.toNat_of_nonneg (colV_nn _ _ _)]
  have hcr : colN g x i < g.rows[i].length := by rw [hg.wid _ (List.getElem_mem hi)]; exact colN_lt g hg.w1 x i
  have hok := (hg.hs _ (List.getElem_mem hi) _ (List.getElem_mem hcr)).sm
  have hrv : rowV g i x t n = estV (g.rows[i][colN g x i]).ls t n := by
    unfold rowV
    rw [if_pos ⟨by omega, by omega, a3⟩, Int.toNat_natCast, show g.rows.getD i [] = g.rows[i] by simp [List.getD_eq_getElem?_getD, hi], show (g.rows[i]).getD (colN g x i) zeroH = g.rows[i][colN g x i] by simp [List.getD_eq_getElem?_getD, hcr]]
  have hw2 := hg.w2
  refine AWP.draw2 (bitB 33557567) mixed (by kernel_rfl) (fun j => i64 (colN g x i)) ?_
  simp only [go_sem, decide_true, decide_false, Nat.lt_irrefl, hcs, ltN' hcs, getD_map' _ _ _ _ hcs]
  refine ⟨hci ▸ (ref04_Column g.sd[i] x g.w (hg.so _ (List.getElem_mem hcs)) hx (by omega)).draw, ?_⟩
  simp only [go_sem, decide_true, decide_false, Nat.lt_irrefl, hi, ltN' hi, getD_map' _ _ _ _ hi, rowE_mk, rowP, ltN' hcr, hcr, getD_map' _ _ _ _ hcr]
  refine (hrv ▸ (ref08_Of (g.rows[i][colN g x i]).k (g.rows[i][colN g x i]).g (g.rows[i][colN g x i]).ls t n hok.1 hok.2)).useA ?_
  simp only [go_sem, decide_true, decide_false, Nat.lt_irrefl]
  (refine ⟨S, by (repeat (first | exact Sub.refl _ | refine Sub.setF ?_ (by first | assumption | exact And.right (by assumption) | exact And.right (And.right (by assumption)) | exact And.right (And.right (And.right (by assumption))) | exact And.right (And.right (And.right (And.right (by assumption)))) | exact And.right (And.right (And.right (And.right (And.right (by assumption))))) | exact And.right (And.right (And.right (And.right (And.right (And.right (by assumption)))))) | exact And.right (And.right (And.right (And.right (And.right (And.right (And.right (by assumption))))))) | exact And.right (And.right (And.right (And.right (And.right (And.right (And.right (And.right (by assumption)))))))) | exact And.right (And.right (And.right (And.right (And.right (And.right (And.right (And.right (And.right (by assumption)))))))))) | refine Sub.setV ?_ (by first | assumption | exact And.right (by assumption) | exact And.right (And.right (by assumption)) | exact And.right (And.right (And.right (by assumption))) | exact And.right (And.right (And.right (And.right (by assumption)))) | exact And.right (And.right (And.right (And.right (And.right (by assumption))))) | exact And.right (And.right (And.right (And.right (And.right (And.right (by assumption)))))) | exact And.right (And.right (And.right (And.right (And.right (And.right (And.right (by assumption))))))) | exact And.right (And.right (And.right (And.right (And.right (And.right (And.right (And.right (by assumption)))))))) | exact And.right (And.right (And.right (And.right (And.right (And.right (And.right (And.right (And.right (by assumption)))))))))))), ?_⟩); simp
end Go.Sk
end

-- W15j
section
namespace Go.Sk
open Go Go.Proofs

structure Conf2 where (k w : Int) (sd : List Seed)
  deriving Inhabited
def Conf2.cs (c : Conf2) : List PV := [.int .i64 c.k, .int .i64 c.w, .sl (c.sd.map Seed.pv)]
def Conf2.av (c : Conf2) : AV := .agg (c.cs.map .p)
attribute [go_sem] Conf2.cs Conf2.av
def tameE (s : Seed) : Seed := ⟨1 + s.a % 2305843009213693950, s.b % 2305843009213693951⟩
def tameS (c : Conf2) : List Seed := if (c.sd.take 4).map tameE = [] then [⟨3, 1⟩] else (c.sd.take 4).map tameE
def tameK (c : Conf2) : Int := 2 + max c.k 0 % 10
def tameW (c : Conf2) : Int := 1 + max c.w 0 % 7
def tameV (c : Conf2) : Grid := newV (tameK c) (tameW c) (tameS c)
theorem seed_more (l : List Seed) (j : Nat) (h : j < l.length) : List.map Seed.pv ((l.take j).map tameE) ++ [[.int .u64 (1 + (l[j]).a % 2305843009213693950 : Nat), .int .u64 ((l[j]).b % 2305843009213693951 : Nat)]] = List.map Seed.pv ((l.take (j + 1)).map tameE) := by
  rw [List.take_succ_eq_append_getElem h, List.map_append, List.map_append]; rfl

set_option maxHeartbeats 1000000 in
theorem ref15_Tame (c : Conf2) (hn : c.sd.length < 1099511627776) (hk : c.k < 9223372036854775808) (hw : c.w < 9223372036854775808) : Pure Try.prog 26 [c.av] (tameV c).av := fun S => by
  refine callR_of Try.func26 rfl rfl (xc_ok (bitB 137438961695) _ _ _ ?_)
  simp only [go_sem, decide_true, decide_false, Nat.lt_irrefl]
  refine alloc_intro fun c1 h1 => ?_
  simp only [go_sem, decide_true, decide_false, Nat.lt_irrefl]
  refine alloc_intro fun c2 h2 => ?_
  simp only [fresh_set] at h2
  simp only [go_sem, decide_true, decide_false, Nat.lt_irrefl, h2]
  have y1 : S (.r c1) = none := h1
  have y2 : S (.r c2) = none := h2.2
  refine AWP.tip0 3 2 (by simp only [go_sem, decide_true, decide_false, Nat.lt_irrefl]) fun k hk => ?_
  simp only [freshv_setr] at hk
  simp only [go_sem, decide_true, decide_false, Nat.lt_irrefl]
  refine AWP.iterE (ι := Option Nat) (fun loc j => ⟨Env.get [(1, .sp c1 0), (2, .sp c2 0), (3, .ts k 2 loc (((c.sd.take j).map tameE).map Seed.pv)), (4, i64 j)],
    ((S.set (.r c1) (.cells [i64 c.k, i64 c.w, .p (.sl (c.sd.map Seed.pv))])).set (.r c2) (.cells [i64 0, .nils, .nils, i64 0, i64 0, .nils])).set (.v k) (.tip 2 j loc), 54, []⟩) (min c.sd.length 4) none ?_ ?_ ?_
  · refine le_of (by simp only [go_sem, decide_true, decide_false, Nat.lt_irrefl, List.take_zero, List.map_nil] <;> rfl) ?_ rfl rfl (by simp)
    ((try dsimp only); (repeat refine sub_set ?_ ?_) <;> first | ((repeat (first | exact Sub.refl _ | refine Sub.setF ?_ (by first | assumption | exact And.right (by assumption) | exact And.right (And.right (by assumption)) | exact And.right (And.right (And.right (by assumption))) | exact And.right (And.right (And.right (And.right (by assumption)))) | exact And.right (And.right (And.right (And.right (And.right (by assumption))))) | exact And.right (And.right (And.right (And.right (And.right (And.right (by assumption)))))) | exact And.right (And.right (And.right (And.right (And.right (And.right (And.right (by assumption))))))) | exact And.right (And.right (And.right (And.right (And.right (And.right (And.right (And.right (by assumption)))))))) | exact And.right (And.right (And.right (And.right (And.right (And.right (And.right (And.right (And.right (by assumption)))))))))) | refine Sub.setV ?_ (by first | assumption | exact And.right (by assumption) | exact And.right (And.right (by assumption)) | exact And.right (And.right (And.right (by assumption))) | exact And.right (And.right (And.right (And.right (by assumption)))) | exact And.right (And.right (And.right (And.right (And.right (by assumption))))) | exact And.right (And.right (And.right (And.right (And.right (And.right (by assumption)))))) | exact And.right (And.right (And.right (And.right (And.right (And.right (And.right (by assumption))))))) | exact And.right (And.right (And.right (And.right (And.right (And.right (And.right (And.right (by assumption)))))))) | exact And.right (And.right (And.right (And.right (And.right (And.right (And.right (And.right (And.right (by assumption)))))))))))); done) | (simp only [go_sem, decide_true, decide_false, Nat.lt_irrefl, h2, hk]; done) | (simp only [go_sem, decide_true, decide_false, Nat.lt_irrefl, h2, hk]; rfl) | rfl)
  · intro j loc hj jh
    have hj1 : j < c.sd.length := by clear h2; omega
    have hj2 : (j : Int) < 4 := by clear h2; omega
    have hqj : wi ((j : Int) + 1) = ((j + 1 : Nat) : Int) := wi_succ (show j < 4611686018427387904 by clear h2; omega)
    have htl : ((c.sd.take j).map tameE).length = j := by rw [List.length_map]; exact take_len (by clear h2; omega)
    have htl1 : ((c.sd.take (j + 1)).map tameE).length = j + 1 := by rw [List.length_map]; exact take_len (by clear h2; omega)
    refine AWPH.step (xc_ok (bitB 137438961695) _ _ _ ?_)
    simp only [go_sem, decide_true, decide_false, Nat.lt_irrefl, h2, hj1, hj2, ltN' hj1, getD_map' _ _ _ _ hj1]
    refine AWP.draw2 (bitB 137438961695) mixed (by kernel_rfl) (fun j => bl false) ?_
    have em : m64 (1 + (c.sd[j]).a % 2305843009213693950) = 1 + (c.sd[j]).a % 2305843009213693950 := m64_id (by clear h2; omega)
    have htl0 : (c.sd.take j).length = j := take_len (by clear h2; omega)
    have htl2 : (c.sd.take (j + 1)).length = j + 1 := take_len (by clear h2; omega)
    simp only [go_sem, decide_true, decide_false, Nat.lt_irrefl, h2, hj1, hj2, ltN' hj1, getD_map' _ _ _ _ hj1, em, htl0, hk]
    refine ⟨by rintro el rfl; rfl, seed_len, by clear h2; omega, by clear h2; omega, grow_intro fun loc' => ?_⟩
    simp only [go_sem, decide_true, decide_false, Nat.lt_irrefl, h2, hk, hqj, seed_more c.sd j hj1]
    refine (jh loc').back ?_ (by simp) ?_
    · ((try dsimp only); (repeat refine sub_set ?_ ?_) <;> first | ((repeat (first | exact Sub.refl _ | refine Sub.setF ?_ (by first | assumption | exact And.right (by assumption) | exact And.right (And.right (by assumption)) | exact And.right (And.right (And.right (by assumption))) | exact And.right (And.right (And.right (And.right (by assumption)))) | exact And.right (And.right (And.right (And.right (And.right (by assumption))))) | exact And.right (And.right (And.right (And.right (And.right (And.right (by assumption)))))) | exact And.right (And.right (And.right (And.right (And.right (And.right (And.right (by assumption))))))) | exact And.right (And.right (And.right (And.right (And.right (And.right (And.right (And.right (by assumption)))))))) | exact And.right (And.right (And.right (And.right (And.right (And.right (And.right (And.right (And.right (by assumption)))))))))) | refine Sub.setV ?_ (by first | assumption | exact And.right (by assumption) | exact And.right (And.right (by assumption)) | exact And.right (And.right (And.right (by assumption))) | exact And.right (And.right (And.right (And.right (by assumption)))) | exact And.right (And.right (And.right (And.right (And.right (by assumption))))) | exact And.right (And.right (And.right (And.right (And.right (And.right (by assumption)))))) | exact And.right (And.right (And.right (And.right (And.right (And.right (And.right (by assumption))))))) | exact And.right (And.right (And.right (And.right (And.right (And.right (And.right (And.right (by assumption)))))))) | exact And.right (And.right (And.right (And.right (And.right (And.right (And.right (And.right (And.right (by assumption)))))))))))); done) | (simp only [go_sem, decide_true, decide_false, Nat.lt_irrefl, h2, hk, List.length_map, htl2, seed_more c.sd j hj1]; done) | (simp only [go_sem, decide_true, decide_false, Nat.lt_irrefl, h2, hk, List.length_map, htl2, seed_more c.sd j hj1]; rfl) | rfl)
    · simp only [go_sem, decide_true, decide_false, Nat.lt_irrefl, hqj]
  · intro loc
    have hmin : c.sd.take (min c.sd.length 4) = c.sd.take 4 := by
      by_cases hl : c.sd.length ≤ 4
      · rw [Nat.min_eq_left hl, List.take_length, List.take_of_length_le hl]
      · rw [Nat.min_eq_right (by clear h2; omega)]
    have hlen : (c.sd.take 4).length = min 4 c.sd.length := List.length_take
    have hlm : ((c.sd.take 4).map tameE).length = min c.sd.length 4 := by rw [List.length_map, hlen, Nat.min_comm]
    simp only [hmin]
    generalize hL : (c.sd.take 4).map tameE = L at *
    have r1 : wi (2 + (if 0 > c.k then 0 else c.k).tmod 10) = tameK c := by
      have : (if 0 > c.k then 0 else c.k) = max c.k 0 := by split <;> (clear h2; omega)
      unfold tameK
      rw [this, Int.tmod_eq_emod_of_nonneg (by clear h2; omega)]
      exact wi_id (by clear h2; omega) (by clear h2; omega)
    obtain ⟨wn, hwn⟩ : ∃ n : Nat, tameW c = n := ⟨(tameW c).toNat, by unfold tameW; clear h2; omega⟩
    have hwn2 : wn < 1048576 := by unfold tameW at hwn; clear h2; omega
    have r2 : wi (1 + (if 0 > c.w then 0 else c.w).tmod 7) = (wn : Int) := by
      have : (if 0 > c.w then 0 else c.w) = max c.w 0 := by split <;> (clear h2; omega)
      rw [this, Int.tmod_eq_emod_of_nonneg (by clear h2; omega), ← hwn]
      unfold tameW
      exact wi_id (by clear h2; omega) (by clear h2; omega)
    have hsub : Sub S (((S.set (.r c1) (.cells [i64 c.k, i64 c.w, .p (.sl (c.sd.map Seed.pv))])).set (.r c2) (.cells [i64 0, .nils, .nils, i64 0, i64 0, .nils])).set (.v k) (.tip 2 (min c.sd.length 4) loc)) := Sub.set (Sub.set (Sub.set (Sub.refl _) y1 _) y2 _) hk _
    refine AWPH.step (xc_ok (bitB 137438961695) _ _ _ ?_)
    by_cases a3 : L = []
    · have a1 : ¬ min c.sd.length 4 < c.sd.length := by rw [a3, List.length_nil] at hlm; clear h2; omega
      have hS : tameS c = [⟨3, 1⟩] := by unfold tameS; rw [hL, if_pos a3]
      have hm0 : min c.sd.length 4 = 0 := by rw [a3, List.length_nil] at hlm; exact hlm.symm
      rw [hm0] at hsub
      subst a3
      have hz : ((([] : List Seed).length : Int) == 0) = true := by simp
      simp only [hm0] at a1 ⊢
      simp only [go_sem, decide_true, decide_false, Nat.lt_irrefl, h2, a1, hk, List.length_map, hz, r1, r2, List.map_nil]
      refine ⟨by rintro el rfl; rfl, grow_intro fun loc' => ?_⟩
      simp only [go_sem, decide_true, decide_false, Nat.lt_irrefl, h2, hk, r1, r2]
      refine ⟨by decide, by decide, (ref15_New (tameK c) wn [⟨3, 1⟩] hwn2 (by decide)).useA ?_⟩
      simp only [go_sem, decide_true, decide_false, Nat.lt_irrefl, h2]
      have hfin : newV (tameK c) wn [⟨3, 1⟩] = tameV c := by unfold tameV; rw [hS, hwn]
      refine ⟨S, Sub.set (Sub.set (Sub.set (Sub.set (Sub.refl _) y1 _) y2 _) hk _) y2 _, ?_⟩
      simp [← hfin]
    have hS : tameS c = L := by unfold tameS; rw [hL, if_neg a3]
    have hz : (L.length == 0) = false := by simpa using a3
    have hz2 : ((L.length : Int) == 0) = false := by simpa using a3
    have hfin : newV (tameK c) wn L = tameV c := by unfold tameV; rw [hS, hwn]
    by_cases a1 : min c.sd.length 4 < c.sd.length
    · have a2 : ¬ ((min c.sd.length 4 : Nat) : Int) < 4 := by clear h2; omega
      simp only [go_sem, decide_true, decide_false, Nat.lt_irrefl, h2, a1, a2, hk, List.length_map, hz, hz2, r1, r2]
      refine ⟨by decide, by decide, (ref15_New (tameK c) wn L hwn2 (by clear h2; omega)).useA ?_⟩
      simp only [go_sem, decide_true, decide_false, Nat.lt_irrefl, h2]
      refine ⟨S, Sub.set hsub y2 _, ?_⟩
      simp [← hfin]
    · simp only [go_sem, decide_true, decide_false, Nat.lt_irrefl, h2, a1, hk, List.length_map, hz, hz2, r1, r2]
      refine ⟨by decide, by decide, (ref15_New (tameK c) wn L hwn2 (by clear h2; omega)).useA ?_⟩
      simp only [go_sem, decide_true, decide_false, Nat.lt_irrefl, h2]
      refine ⟨S, Sub.set hsub y2 _, ?_⟩
      simp [← hfin]
end Go.Sk
end

-- A7h
section
namespace Go.Sk

theorem Hist.Good.ok {h : Hist} (g : h.Good) : h.Ok :=
  ⟨by have := g.k0; omega, by have := g.k1; omega, by have := g.len; omega, fun l hl => by have := g.sm l hl; have := g.k1; omega, g.tot⟩
theorem Hist.Good.small {h : Hist} (g : h.Good) : h.Small := ⟨by have := g.len; omega, fun l hl => by have := g.sm l hl; have := g.k1; omega⟩
theorem addH_good {h : Hist} (g : h.Good) (t w : Nat) (e : (addH h t w).2 = 0) : (addH h t w).1.Good ∧ (addH h t w).1.k = h.k ∧ (addH h t w).1.g = h.g ∧ totN 0 (addH h t w).1.ls = totN 0 h.ls + w := addV_good g t w e
theorem addH_tidy {h : Hist} (g : h.Good) (hT : Tidy h.k.toNat h.ls) (t w : Nat) (e : (addH h t w).2 = 0) : Tidy h.k.toNat (addH h t w).1.ls ∧
    ∀ W, Mono W → loL W 0 (addH h t w).1.ls ≤ loL W 0 h.ls + (if W t = true then w else 0) ∧ hiL W 0 h.ls + (if W t = true then w else 0) ≤ hiL W 0 (addH h t w).1.ls := addV_tidy g hT t w e
end Go.Sk
end

-- A16
section
namespace Go.Sk

structure Grid.Good (g : Grid) : Prop where
  w1 : 1 ≤ g.w
  w2 : g.w ≤ 256
  n : g.rows.length ≤ 8
  sd : g.sd.length = g.rows.length
  wid : ∀ r ∈ g.rows, r.length = g.w.toNat
  all : g.all.Good
  hs : ∀ r ∈ g.rows, ∀ h ∈ r, h.Good
  so : ∀ s ∈ g.sd, s.may = true
theorem Seed.ok_of_may {s : Seed} (h : s.may = true) : s.Ok := by
  unfold Seed.may at h
  simp only [Bool.and_eq_true, decide_eq_true_eq] at h
  constructor <;> omega
theorem Grid.Good.ok {g : Grid} (h : g.Good) : g.Ok :=
  ⟨h.w1, by have := h.w2; omega, by have := h.n; omega, h.sd, h.wid, h.all.ok, fun r hr x hx => (h.hs r hr x hx).ok, fun s hs => Seed.ok_of_may (h.so s hs)⟩
theorem Grid.Good.small {g : Grid} (h : g.Good) : g.Small :=
  ⟨by have := h.n; have := h.sd; omega, ⟨by have := h.n; omega, fun r hr => ⟨by have := h.wid r hr; have := h.w2; omega, fun x hx => (h.hs r hr x hx).small⟩⟩, h.all.small⟩
theorem Grid.Good.sz {g : Grid} (h : g.Good) : g.Sz := ⟨by have := h.n; omega, fun r hr => by have := h.wid r hr; have := h.w2; omega⟩

theorem emptyH_good {k : Int} (h1 : 2 ≤ k) (h2 : k ≤ 1024) : (emptyH k).Good := ⟨h1, h2, fun l hl => (by cases hl), fun l hl => (by cases hl), by simp [emptyH, totN]⟩
theorem newV_good {k w : Int} {sd : List Seed} (h1 : 2 ≤ k) (h2 : k ≤ 1024) (w1 : 1 ≤ w) (w2 : w ≤ 256) (n : sd.length ≤ 8) (so : ∀ s ∈ sd, s.may = true) : (newV k w sd).Good := by
  refine ⟨w1, w2, by simp [newV]; exact n, by simp [newV], ?_, emptyH_good h1 h2, ?_, so⟩
  · intro r hr
    rw [List.eq_of_mem_replicate hr]; simp [newV]
  · intro r hr h hh
    rw [List.eq_of_mem_replicate hr] at hh
    rw [List.eq_of_mem_replicate hh]; exact emptyH_good h1 h2
theorem tameS_may (c : Conf2) : ∀ s ∈ tameS c, s.may = true := by
  intro s hs
  unfold tameS at hs
  split at hs
  · simp only [List.mem_singleton] at hs; subst hs; decide
  · obtain ⟨x, _, rfl⟩ := List.mem_map.1 hs
    unfold tameE Seed.may
    simp only [Bool.and_eq_true, decide_eq_true_eq]
    omega
theorem tameS_len (c : Conf2) : 1 ≤ (tameS c).length ∧ (tameS c).length ≤ 4 := by
  unfold tameS
  split
  · simp
  · rename_i h
    refine ⟨?_, by rw [List.length_map, List.length_take]; exact Nat.min_le_left _ _⟩
    cases e : List.map tameE (List.take 4 c.sd) with
    | nil => exact absurd e h
    | cons a b => simp
theorem tameV_good (c : Conf2) : (tameV c).Good := by
  refine newV_good (by unfold tameK; omega) (by unfold tameK; omega) (by unfold tameW; omega) (by unfold tameW; omega) ?_ (tameS_may c)
  have := (tameS_len c).2; omega

theorem rowsV_good {g : Grid} (hg : g.Good) (e : Event) : ∀ i, i ≤ g.rows.length → (rowsV g e i).2 = 0 → (∀ r ∈ (rowsV g e i).1, r.length = g.w.toNat) ∧ ∀ r ∈ (rowsV g e i).1, ∀ h ∈ r, h.Good := by
  intro i
  induction i with
  | zero => intro _ _; exact ⟨hg.wid, hg.hs⟩
  | succ i ih =>
    intro hi h0
    have hse : rowsV g e (i + 1) = stepG g e i (rowsV g e i) := rfl
    unfold stepG at hse
    by_cases he : (rowsV g e i).2 = 0
    rotate_left
    · rw [if_neg he] at hse; rw [hse] at h0; exact absurd h0 he
    rw [if_pos he] at hse
    obtain ⟨h1, h2⟩ := ih (by omega) he
    have hlt : i < (rowsV g e i).1.length := by rw [rowsV_len]; omega
    have hm : (rowsV g e i).1.getD i [] ∈ (rowsV g e i).1 := by
      rw [List.getD_eq_getElem?_getD, List.getElem?_eq_getElem hlt]; exact List.getElem_mem hlt
    have hc : colN g e.k i < ((rowsV g e i).1.getD i []).length := by rw [h1 _ hm]; exact colN_lt g hg.w1 _ _
    rw [hse] at h0 ⊢
    have hh : (((rowsV g e i).1.getD i []).getD (colN g e.k i) zeroH).Good := by
      rw [List.getD_eq_getElem?_getD, List.getElem?_eq_getElem hc]; exact h2 _ hm _ (List.getElem_mem hc)
    have hn := (addH_good hh e.t e.w h0).1
    refine ⟨fun r hr => ?_, fun r hr h hx => ?_⟩
    · rcases List.mem_or_eq_of_mem_set hr with hr | rfl
      · exact h1 r hr
      · rw [List.length_set]; exact h1 _ hm
    · rcases List.mem_or_eq_of_mem_set hr with hr | rfl
      · exact h2 r hr h hx
      · rcases List.mem_or_eq_of_mem_set hx with hx | rfl
        · exact h2 _ hm _ hx
        · exact hn
theorem rowsV_first (g : Grid) (e : Event) : ∀ i, (rowsV g e i).2 = 0 → (addH g.all e.t e.w).2 = 0 := by
  intro i
  induction i with
  | zero => intro h; exact h
  | succ i ih =>
    intro h
    apply ih
    apply Classical.byContradiction
    intro hc
    rw [rowsV_stop g e i hc 1] at h
    exact hc h
theorem addG_ok {g : Grid} {e : Event} (h : (addG g e).2 = 0) : e.k < 2305843009213693951 ∧ (rowsV g e g.rows.length).2 = 0 ∧ addG g e = (⟨g.w, g.sd, (rowsV g e g.rows.length).1, (addH g.all e.t e.w).1⟩, 0) := by
  unfold addG at h ⊢
  split
  · rename_i c
    rw [if_pos c] at h
    split
    · rename_i c2; exact ⟨c, c2, rfl⟩
    · rename_i c2; rw [if_neg c2] at h; exact absurd h c2
  · rename_i c; rw [if_neg c] at h; simp at h
theorem addG_good {g : Grid} (hg : g.Good) (e : Event) (h : (addG g e).2 = 0) : (addG g e).1.Good := by
  obtain ⟨h1, h2, h3⟩ := addG_ok h
  rw [h3]
  obtain ⟨r1, r2⟩ := rowsV_good hg e _ (Nat.le_refl _) h2
  refine ⟨hg.w1, hg.w2, ?_, ?_, r1, (addH_good hg.all _ _ (rowsV_first g e _ h2)).1, r2, hg.so⟩
  · dsimp only; rw [rowsV_len]; exact hg.n
  · dsimp only; rw [rowsV_len]; exact hg.sd

/-- The document's grid of events, and what came. -/
noncomputable def madeGo : List Event → Nat → Grid → List Event → Grid × List Event
  | [], _, g, all => (g, all)
  | x :: r, tick, g, all => if (addG g ⟨tick + x.t % 100, x.k, x.w⟩).2 = 0 then madeGo r (tick + x.t % 100) (addG g ⟨tick + x.t % 100, x.k, x.w⟩).1 (all ++ [⟨tick + x.t % 100, x.k, x.w⟩]) else madeGo r (tick + x.t % 100) g all
noncomputable def madeV (c : Conf2) (l : List Event) : Grid × List Event := madeGo (l.take 20) 0 (tameV c) []
theorem madeGo_good : ∀ l t g all, Grid.Good g → (madeGo l t g all).1.Good := by
  intro l
  induction l with
  | nil => intro t g all h; exact h
  | cons x r ih =>
    intro t g all h
    unfold madeGo
    split
    · rename_i c; exact ih _ _ _ (addG_good h _ c)
    · exact ih _ _ _ h
theorem madeV_good (c : Conf2) (l : List Event) : (madeV c l).1.Good := madeGo_good _ _ _ _ (tameV_good c)
end Go.Sk
end

-- W13p
section
namespace Go.Sk

structure Event.Ok (e : Event) : Prop where
  t : e.t < 18446744073709551616
  k : e.k < 18446744073709551616
  w : e.w < 18446744073709551616
noncomputable def withinV (tick span : Nat) (e : Event) : Bool := decide (e.t ≤ tick) && (decide (span > tick) || decide (e.t > sub64 tick span))

noncomputable def sumV (p : Event → Bool) (q : Event → Nat) (n : Nat) (l : List Event) : Nat := l.foldl (fun n e => if p e = true then m64 (n + q e) else n) n
theorem sumV_snoc (p : Event → Bool) (q : Event → Nat) (n : Nat) (l : List Event) (i : Nat) (hi : i < l.length) : sumV p q n (l.take (i + 1)) = if p l[i] = true then m64 (sumV p q n (l.take i) + q l[i]) else sumV p q n (l.take i) := by
  unfold sumV; rw [List.take_succ_eq_append_getElem hi, List.foldl_append]; rfl

noncomputable def spanV (l : List Event) (tick span : Nat) : Nat := sumV (withinV tick span) Event.w 0 l

end Go.Sk
end

-- W15k
section
namespace Go.Sk
open Go Go.Proofs

theorem ev_len {l : List Event} : ∀ el ∈ l.map Event.pv, el.length = 3 := by
  intro el h; obtain ⟨x, _, rfl⟩ := List.mem_map.1 h; rfl

set_option maxHeartbeats 1000000 in
theorem ref15_Made (c : Conf2) (l : List Event) (hn : c.sd.length < 1099511627776) (hk : c.k < 9223372036854775808) (hw : c.w < 9223372036854775808) (hl : l.length < 1099511627776) (ho : ∀ e ∈ l, e.Ok) :
    Pure Try.prog 14 [c.av, .p (evsP l)] (.tuple [(madeV c l).1.av, .p (evsP (madeV c l).2)]) := fun S => by
  refine callR_of Try.func14 rfl rfl (xc_ok (bitB 4503599631572983) _ _ _ ?_)
  simp only [go_sem, decide_true, decide_false, Nat.lt_irrefl, evsP]
  refine alloc_intro fun c2 h2 => ?_
  simp only [go_sem, decide_true, decide_false, Nat.lt_irrefl]
  refine alloc_intro fun c4 h4 => ?_
  simp only [fresh_set] at h4
  simp only [go_sem, decide_true, decide_false, Nat.lt_irrefl, h4]
  refine (ref15_Tame c hn hk hw).useA ?_
  simp only [go_sem, decide_true, decide_false, Nat.lt_irrefl]
  refine alloc_intro fun c6 h6 => ?_
  simp only [fresh_set] at h6
  simp only [go_sem, decide_true, decide_false, Nat.lt_irrefl, h4, h6]
  have y2 : S (.r c2) = none := h2
  have y4 : S (.r c4) = none := h4.2
  have y6 : S (.r c6) = none := h6.2.2
  refine AWP.tip0 8 3 (by simp only [go_sem, decide_true, decide_false, Nat.lt_irrefl]) fun k hkk => ?_
  simp only [freshv_setr] at hkk
  simp only [go_sem, decide_true, decide_false, Nat.lt_irrefl]
  refine AWP.roam (ι := Nat × Nat × Grid × List Event × Option Nat) (fun y => y.1 ≤ l.length ∧ y.1 ≤ 20 ∧ y.2.1 ≤ y.1 * 100 ∧ y.2.2.1.Good ∧ y.2.2.2.1.length ≤ y.1 ∧ madeGo ((l.take 20).drop y.1) y.2.1 y.2.2.1 y.2.2.2.1 = madeV c l)
    (fun y => ⟨Env.get [(1, .p (evsP l)), (4, .sp c4 0), (6, .sp c6 0), (7, u64 y.2.1), (8, .ts k 3 y.2.2.2.2 (y.2.2.2.1.map Event.pv)), (9, i64 y.1)],
      (((S.set (.r c2) (.cells [i64 c.k, i64 c.w, .p (.sl (c.sd.map Seed.pv))])).set (.r c4) (.cells [i64 0, .nils, .nils, i64 0, i64 0, .nils])).set (.r c6) (.cells [i64 y.2.2.1.w, .p (.sl (y.2.2.1.sd.map Seed.pv)), .p (.sl (y.2.2.1.rows.map rowE)), i64 y.2.2.1.all.k, i64 y.2.2.1.all.g, .p (.sl (y.2.2.1.all.ls.map lvE))])).set (.v k) (.tip 3 y.2.2.2.1.length y.2.2.2.2), 60, []⟩)
    (fun y => l.length - y.1) (0, 0, tameV c, [], none) ⟨Nat.zero_le _, Nat.zero_le _, Nat.zero_le _, tameV_good c, Nat.le_refl _, by rw [List.drop_zero]; rfl⟩ ?_ ?_
  · refine le_of (by simp only [go_sem, decide_true, decide_false, Nat.lt_irrefl, evsP] <;> rfl) ?_ rfl rfl (by simp)
    ((try dsimp only); (repeat refine sub_set ?_ ?_) <;> first | ((repeat (first | exact Sub.refl _ | refine Sub.setF ?_ (by first | assumption | exact And.right (by assumption) | exact And.right (And.right (by assumption)) | exact And.right (And.right (And.right (by assumption))) | exact And.right (And.right (And.right (And.right (by assumption)))) | exact And.right (And.right (And.right (And.right (And.right (by assumption))))) | exact And.right (And.right (And.right (And.right (And.right (And.right (by assumption)))))) | exact And.right (And.right (And.right (And.right (And.right (And.right (And.right (by assumption))))))) | exact And.right (And.right (And.right (And.right (And.right (And.right (And.right (And.right (by assumption)))))))) | exact And.right (And.right (And.right (And.right (And.right (And.right (And.right (And.right (And.right (by assumption)))))))))) | refine Sub.setV ?_ (by first | assumption | exact And.right (by assumption) | exact And.right (And.right (by assumption)) | exact And.right (And.right (And.right (by assumption))) | exact And.right (And.right (And.right (And.right (by assumption)))) | exact And.right (And.right (And.right (And.right (And.right (by assumption))))) | exact And.right (And.right (And.right (And.right (And.right (And.right (by assumption)))))) | exact And.right (And.right (And.right (And.right (And.right (And.right (And.right (by assumption))))))) | exact And.right (And.right (And.right (And.right (And.right (And.right (And.right (And.right (by assumption)))))))) | exact And.right (And.right (And.right (And.right (And.right (And.right (And.right (And.right (And.right (by assumption)))))))))))); done) | (simp only [go_sem, decide_true, decide_false, Nat.lt_irrefl, h4, h6, hkk, List.map_nil, List.length_nil]; done) | (simp only [go_sem, decide_true, decide_false, Nat.lt_irrefl, h4, h6, hkk, List.map_nil, List.length_nil]; rfl) | rfl)
  rintro ⟨i, tick, g, all, loc⟩ ⟨hi, hi2, ht, hg, hall, hm⟩ ih
  dsimp only at hi hi2 ht hg hall hm ⊢
  refine AWPH.step (xc_ok (bitB 4503599631572983) _ _ _ ?_)
  have hlen2 : (l.take 20).length = min 20 l.length := List.length_take
  have stop : ¬ (i < l.length ∧ i < 20) → (g, all) = madeV c l := by
    intro hc
    rw [List.drop_of_length_le (by rw [hlen2]; clear h4 h6; omega)] at hm
    exact hm
  by_cases c1 : i < l.length
  rotate_left
  · simp only [go_sem, decide_true, decide_false, Nat.lt_irrefl, c1, h4, h6, evsP, List.length_map]
    have := stop (fun h => c1 h.1)
    refine ⟨S, ?_, ?_⟩
    · exact Sub.set (Sub.set (Sub.set (Sub.set (Sub.set (Sub.refl _) y2 _) y4 _) y6 _) hkk _) y4 _
    · rw [← this]; simp
  by_cases c2' : (i : Int) < 20
  rotate_left
  · simp only [go_sem, decide_true, decide_false, Nat.lt_irrefl, c1, c2', h4, h6, evsP, List.length_map]
    have := stop (fun h => c2' (by clear h4 h6; omega))
    refine ⟨S, ?_, ?_⟩
    · exact Sub.set (Sub.set (Sub.set (Sub.set (Sub.set (Sub.refl _) y2 _) y4 _) y6 _) hkk _) y4 _
    · rw [← this]; simp
  have hok : (l[i]).Ok := ho _ (List.getElem_mem c1)
  have htk : m64 (tick + (l[i]).t % 100) = tick + (l[i]).t % 100 := m64_id (by clear h4 h6; omega)
  have hq : wi ((i : Int) + 1) = ((i + 1 : Nat) : Int) := wi_succ (show i < 4611686018427387904 by clear h4 h6; omega)
  simp only [go_sem, decide_true, decide_false, Nat.lt_irrefl, c1, c2', evsP, ltN' c1, getD_map' _ _ _ _ c1, List.length_map, htk]
  refine AWP.draw2 (bitB 4503599631572983) mixed (by kernel_rfl) (fun j => bl false) ?_
  simp only [go_sem, decide_true, decide_false, Nat.lt_irrefl, c1, evsP, ltN' c1, getD_map' _ _ _ _ c1, htk]
  refine alloc_intro fun c10 h10 => ?_
  simp only [fresh_set, fresh_setv] at h10
  simp only [go_sem, decide_true, decide_false, Nat.lt_irrefl, h4, h6, h10]
  refine (ref15_Add g ⟨tick + (l[i]).t % 100, (l[i]).k, (l[i]).w⟩ hg.ok hok.k hok.w).useA ?_
  have hdrop : (l.take 20).drop i = l[i] :: (l.take 20).drop (i + 1) := by
    rw [List.drop_eq_getElem_cons (by rw [hlen2]; clear h4 h6 h10; omega)]
    congr 1
    rw [List.getElem_take]
  rw [hdrop] at hm
  unfold madeGo at hm
  have hgd := addG_good hg ⟨tick + (l[i]).t % 100, (l[i]).k, (l[i]).w⟩
  generalize addG g ⟨tick + (l[i]).t % 100, (l[i]).k, (l[i]).w⟩ = X at *
  simp only [go_sem, decide_true, decide_false, Nat.lt_irrefl, h4, h6, h10]
  refine alloc_intro fun c11 h11 => ?_
  simp only [fresh_set, fresh_setv] at h11
  by_cases ex : X.2 = 0
  · have exb : (X.2 == 0) = true := by simpa using ex
    rw [if_pos ex] at hm
    simp only [go_sem, decide_true, decide_false, Nat.lt_irrefl, exb, h4, h6, h10, h11, hkk]
    have e5 : List.map Event.pv all ++ [[.int .u64 (tick + (l[i]).t % 100 : Nat), .int .u64 (l[i]).k, .int .u64 (l[i]).w]] = List.map Event.pv (all ++ [⟨tick + (l[i]).t % 100, (l[i]).k, (l[i]).w⟩]) := by rw [List.map_append]; rfl
    refine ⟨by rintro el rfl; rfl, ev_len, by clear h4 h6 h10 h11; omega, by clear h4 h6 h10 h11; omega, grow_intro fun loc' => ?_⟩
    simp only [go_sem, decide_true, decide_false, Nat.lt_irrefl, h4, h6, h10, h11, hkk, e5, hq]
    refine (ih (i + 1, tick + (l[i]).t % 100, X.1, all ++ [⟨tick + (l[i]).t % 100, (l[i]).k, (l[i]).w⟩], loc') ⟨c1, by dsimp only; clear h4 h6 h10 h11; omega, by dsimp only; clear h4 h6 h10 h11; omega, hgd ex, by simp; clear h4 h6 h10 h11; omega, hm⟩ (by dsimp only; clear h4 h6 h10 h11; omega)).back ?_ (by simp) ?_
    · ((try dsimp only); (repeat refine sub_set ?_ ?_) <;> first | ((repeat (first | exact Sub.refl _ | refine Sub.setF ?_ (by first | assumption | exact And.right (by assumption) | exact And.right (And.right (by assumption)) | exact And.right (And.right (And.right (by assumption))) | exact And.right (And.right (And.right (And.right (by assumption)))) | exact And.right (And.right (And.right (And.right (And.right (by assumption))))) | exact And.right (And.right (And.right (And.right (And.right (And.right (by assumption)))))) | exact And.right (And.right (And.right (And.right (And.right (And.right (And.right (by assumption))))))) | exact And.right (And.right (And.right (And.right (And.right (And.right (And.right (And.right (by assumption)))))))) | exact And.right (And.right (And.right (And.right (And.right (And.right (And.right (And.right (And.right (by assumption)))))))))) | refine Sub.setV ?_ (by first | assumption | exact And.right (by assumption) | exact And.right (And.right (by assumption)) | exact And.right (And.right (And.right (by assumption))) | exact And.right (And.right (And.right (And.right (by assumption)))) | exact And.right (And.right (And.right (And.right (And.right (by assumption))))) | exact And.right (And.right (And.right (And.right (And.right (And.right (by assumption)))))) | exact And.right (And.right (And.right (And.right (And.right (And.right (And.right (by assumption))))))) | exact And.right (And.right (And.right (And.right (And.right (And.right (And.right (And.right (by assumption)))))))) | exact And.right (And.right (And.right (And.right (And.right (And.right (And.right (And.right (And.right (by assumption)))))))))))); done) | (simp only [go_sem, decide_true, decide_false, Nat.lt_irrefl, h4, h6, h10, h11, hkk, List.length_map, e5]; done) | (simp only [go_sem, decide_true, decide_false, Nat.lt_irrefl, h4, h6, h10, h11, hkk, List.length_map, e5]; rfl) | rfl)
    · simp only [go_sem, decide_true, decide_false, Nat.lt_irrefl, hq, evsP, e5]
  · have exb : (X.2 == 0) = false := by simpa using ex
    rw [if_neg ex] at hm
    simp only [go_sem, decide_true, decide_false, Nat.lt_irrefl, exb, h4, h6, h10, h11, hkk]
    refine (ih (i + 1, tick + (l[i]).t % 100, g, all, loc) ⟨c1, by dsimp only; clear h4 h6 h10 h11; omega, by dsimp only; clear h4 h6 h10 h11; omega, hg, by dsimp only; clear h4 h6 h10 h11; omega, hm⟩ (by dsimp only; clear h4 h6 h10 h11; omega)).back ?_ (by simp) ?_
    · ((try dsimp only); (repeat refine sub_set ?_ ?_) <;> first | ((repeat (first | exact Sub.refl _ | refine Sub.setF ?_ (by first | assumption | exact And.right (by assumption) | exact And.right (And.right (by assumption)) | exact And.right (And.right (And.right (by assumption))) | exact And.right (And.right (And.right (And.right (by assumption)))) | exact And.right (And.right (And.right (And.right (And.right (by assumption))))) | exact And.right (And.right (And.right (And.right (And.right (And.right (by assumption)))))) | exact And.right (And.right (And.right (And.right (And.right (And.right (And.right (by assumption))))))) | exact And.right (And.right (And.right (And.right (And.right (And.right (And.right (And.right (by assumption)))))))) | exact And.right (And.right (And.right (And.right (And.right (And.right (And.right (And.right (And.right (by assumption)))))))))) | refine Sub.setV ?_ (by first | assumption | exact And.right (by assumption) | exact And.right (And.right (by assumption)) | exact And.right (And.right (And.right (by assumption))) | exact And.right (And.right (And.right (And.right (by assumption)))) | exact And.right (And.right (And.right (And.right (And.right (by assumption))))) | exact And.right (And.right (And.right (And.right (And.right (And.right (by assumption)))))) | exact And.right (And.right (And.right (And.right (And.right (And.right (And.right (by assumption))))))) | exact And.right (And.right (And.right (And.right (And.right (And.right (And.right (And.right (by assumption)))))))) | exact And.right (And.right (And.right (And.right (And.right (And.right (And.right (And.right (And.right (by assumption)))))))))))); done) | (simp only [go_sem, decide_true, decide_false, Nat.lt_irrefl, h4, h6, h10, h11, hkk]; done) | (simp only [go_sem, decide_true, decide_false, Nat.lt_irrefl, h4, h6, h10, h11, hkk]; rfl) | rfl)
    · simp only [go_sem, decide_true, decide_false, Nat.lt_irrefl, hq, evsP]
end Go.Sk
end

-- W15l
section
namespace Go.Sk
open Go Go.Proofs

def g0 : Grid := newV 2 1 [⟨5, 1⟩]
def hA : Hist := ⟨2, 0, [[⟨3, 3⟩, ⟨3, 3⟩], [⟨3, 3⟩]]⟩
def gA : Grid := ⟨1, [⟨5, 1⟩], [[hA]], hA⟩
theorem flow0 : flowV 2 3 0 [] [] 4 = [[⟨3, 3⟩, ⟨3, 3⟩], [⟨3, 3⟩]] := by
  have a1 : outsV [] (mostN 2 0) [] 4 3 = [] := by decide
  have a2 : leftV [] (mostN 2 0) [] 4 = 1 := by decide
  have a3 : stayV [] (mostN 2 0) [] 4 3 = [⟨3, 3⟩, ⟨3, 3⟩] := by decide
  have b1 : outsV [] (mostN 2 1) [] 1 3 = [] := by decide
  have b2 : leftV [] (mostN 2 1) [] 1 = 0 := by decide
  have b3 : stayV [] (mostN 2 1) [] 1 3 = [⟨3, 3⟩] := by decide
  rw [flowV_cons (by simp), List.headD_nil, List.tail_nil, a1, a2, a3, flowV_cons (by simp), List.headD_nil, List.tail_nil, b1, b2, b3, flowV_nil (by rfl)]
theorem addH0 : addH (emptyH 2) 3 4 = (hA, 0) := by
  have hl : lastV (emptyH 2).ls = (0, false) := rfl
  have ht : totN 0 (emptyH 2).ls = 0 := rfl
  unfold addH addV
  rw [if_neg (by decide), hl, if_neg (by decide), ht, if_neg (by decide)]
  have : flowV (emptyH 2).k.toNat 3 0 (emptyH 2).ls [] 4 = [[⟨3, 3⟩, ⟨3, 3⟩], [⟨3, 3⟩]] := flow0
  rw [this]; rfl
theorem col0 (g : Grid) (h : g.w = 1) (x i : Nat) : colN g x i = 0 := by
  have := colN_lt g (by rw [h]; decide) x i
  rw [h] at this
  have e : (1 : Int).toNat = 1 := rfl
  omega
theorem add0 : addG g0 ⟨3, 9, 4⟩ = (gA, 0) := by
  have hr : rowsV g0 ⟨3, 9, 4⟩ 1 = ([[hA]], 0) := by
    show stepG g0 ⟨3, 9, 4⟩ 0 (rowsV g0 ⟨3, 9, 4⟩ 0) = _
    have h0 : rowsV g0 ⟨3, 9, 4⟩ 0 = ([[emptyH 2]], 0) := by
      show (g0.rows, (addH (emptyH 2) 3 4).2) = _
      rw [addH0]; rfl
    rw [h0]
    unfold stepG
    rw [if_pos rfl, col0 g0 rfl]
    have e1 : (([[emptyH 2]] : List (List Hist)).getD 0 []).getD 0 zeroH = emptyH 2 := rfl
    dsimp only
    rw [e1, addH0]; rfl
  unfold addG
  rw [if_pos (by decide)]
  have hn : g0.rows.length = 1 := rfl
  rw [hn, hr, if_pos rfl]
  have : (addH g0.all 3 4).1 = hA := by
    show (addH (emptyH 2) 3 4).1 = _
    rw [addH0]
  dsimp only
  rw [this]; rfl
theorem add1 : addG g0 ⟨3, 2305843009213693951, 4⟩ = (zeroG, 7) := by unfold addG; rw [if_neg (by decide)]
theorem est0 : estV hA.ls 3 1 = 4 := by
  have u0 : units 0 = 1 := by unfold units; rw [m64_id (by decide)]; rfl
  have u1 : units 1 = 2 := by unfold units; rw [m64_id (by decide)]; rfl
  have w1 : inW 3 1 3 = true := by unfold inW; rw [sub64_eq]; decide
  have m1 : m64 1 = 1 := m64_id (by decide)
  have m2 : m64 2 = 2 := m64_id (by decide)
  have m4 : m64 4 = 4 := m64_id (by decide)
  unfold estV partsV
  simp [hA, bucksF, partsF, partStep, w1, u0, u1, m1, m2, m4]
theorem row0 : rowV gA 0 77 3 1 = 4 := by
  unfold rowV
  rw [if_pos ⟨by decide, by decide, by decide⟩, col0 gA rfl]
  exact est0
theorem row1 : rowV gA 1 77 3 1 = 0 := by
  unfold rowV
  rw [if_neg (by decide)]
theorem g0_good : g0.Good := newV_good (by decide) (by decide) (by decide) (by decide) (by decide) (by intro s hs; simp only [List.mem_singleton] at hs; subst hs; decide)
theorem gA_good : gA.Good := by
  have := addG_good g0_good ⟨3, 9, 4⟩ (by rw [add0])
  rwa [add0] at this

set_option maxHeartbeats 1000000 in
set_option maxRecDepth 8000 in
theorem awake : Pure Try.prog 8 [] (bl true) := fun S => by
  refine callR_of Try.func8 rfl rfl (xc_ok (bitB 95) _ _ _ ?_)
  simp only [go_sem, decide_true, decide_false, Nat.lt_irrefl]
  have hc : confV 2 1 [⟨5, 1⟩] = 0 := by decide
  have hN := grid_New 2 1 [⟨5, 1⟩] (by decide)
  rw [hc, if_pos rfl] at hN
  refine hN.useA ?_
  simp only [go_sem, decide_true, decide_false, Nat.lt_irrefl]
  refine alloc_intro fun c1 h1 => ?_
  simp only [go_sem, decide_true, decide_false, Nat.lt_irrefl]
  have hA1 := grid_Add g0 ⟨3, 9, 4⟩ g0_good.ok (by decide) (by decide)
  rw [add0] at hA1
  refine hA1.useA ?_
  simp only [go_sem, decide_true, decide_false, Nat.lt_irrefl, h1]
  refine alloc_intro fun c3 h3 => ?_
  simp only [fresh_set] at h3
  simp only [go_sem, decide_true, decide_false, Nat.lt_irrefl, h3]
  have hA2 := grid_Add g0 ⟨3, 2305843009213693951, 4⟩ g0_good.ok (by decide) (by decide)
  rw [add1] at hA2
  refine hA2.useA ?_
  simp only [go_sem, decide_true, decide_false, Nat.lt_irrefl, h3]
  refine alloc_intro fun c5 h5 => ?_
  simp only [fresh_set] at h5
  simp only [go_sem, decide_true, decide_false, Nat.lt_irrefl, h3, h5]
  refine AWP.draw2 (bitB 95) mixed (by kernel_rfl) (fun j => if j = 25 then bl true else if j = 29 then u64 4 else if j = 34 then u64 0 else bl true) ?_
  have e1 : ((gA.rows.length : Int) == 1) = true := by decide
  have e2 : ((0 : Nat) < gA.rows.length) = True := by simp [gA]
  have e3 : ((gA.rows.map rowE).getD 0 []) = [.sl [hA.cs]] := rfl
  have s1 := hist_Same hA gA.all gA_good.all.small
  rw [show decide (hA = gA.all) = true by decide] at s1
  have s2 := grid_Row gA gA_good.ok 0 77 3 1 (by decide)
  rw [row0] at s2
  have s3 := grid_Row gA gA_good.ok 1 77 3 1 (by decide)
  rw [row1] at s3
  have s4 := grid_Same gA gA gA_good.small
  rw [decide_eq_true (rfl : gA = gA)] at s4
  simp only [go_sem, decide_true, decide_false, Nat.lt_irrefl, h3, h5, e1, e2, e3]
  refine ⟨s1.draw, s2.draw, s3.draw, s4.draw, ?_⟩
  (refine ⟨S, by (repeat (first | exact Sub.refl _ | refine Sub.setF ?_ (by first | assumption | exact And.right (by assumption) | exact And.right (And.right (by assumption)) | exact And.right (And.right (And.right (by assumption))) | exact And.right (And.right (And.right (And.right (by assumption)))) | exact And.right (And.right (And.right (And.right (And.right (by assumption))))) | exact And.right (And.right (And.right (And.right (And.right (And.right (by assumption)))))) | exact And.right (And.right (And.right (And.right (And.right (And.right (And.right (by assumption))))))) | exact And.right (And.right (And.right (And.right (And.right (And.right (And.right (And.right (by assumption)))))))) | exact And.right (And.right (And.right (And.right (And.right (And.right (And.right (And.right (And.right (by assumption)))))))))) | refine Sub.setV ?_ (by first | assumption | exact And.right (by assumption) | exact And.right (And.right (by assumption)) | exact And.right (And.right (And.right (by assumption))) | exact And.right (And.right (And.right (And.right (by assumption)))) | exact And.right (And.right (And.right (And.right (And.right (by assumption))))) | exact And.right (And.right (And.right (And.right (And.right (And.right (by assumption)))))) | exact And.right (And.right (And.right (And.right (And.right (And.right (And.right (by assumption))))))) | exact And.right (And.right (And.right (And.right (And.right (And.right (And.right (And.right (by assumption)))))))) | exact And.right (And.right (And.right (And.right (And.right (And.right (And.right (And.right (And.right (by assumption)))))))))))), ?_⟩); simp

end Go.Sk
end

-- W15u
section
namespace Go.Sk
open Go Go.Proofs

theorem zeroG_small : zeroG.Small := ⟨by decide, ⟨by decide, fun r hr => by cases hr⟩, ⟨by decide, fun l hl => by cases hl⟩⟩
theorem zeroG_sz : zeroG.Sz := ⟨by decide, fun r hr => by cases hr⟩
theorem addG_small {g : Grid} (hg : g.Good) (e : Event) : (addG g e).1.Small ∧ (addG g e).1.Sz := by
  by_cases h : (addG g e).2 = 0
  · exact ⟨(addG_good hg e h).small, (addG_good hg e h).sz⟩
  · have : (addG g e).1 = zeroG := by
      unfold addG at h ⊢
      split
      · rename_i c; rw [if_pos c] at h
        split
        · rename_i c2; rw [if_pos c2] at h; exact absurd rfl h
        · rfl
      · rfl
    rw [this]; exact ⟨zeroG_small, zeroG_sz⟩
theorem conf_good {k w : Int} {sd : List Seed} (h : confV k w sd = 0) : (newV k w sd).Good := by
  unfold confV at h
  split at h
  · simp at h
  · rename_i c
    split at h
    · rename_i c2
      exact newV_good (by omega) (by omega) (by omega) (by omega) (by omega) (fun s hs => List.all_eq_true.1 c2 s hs)
    · simp at h

end Go.Sk
end
