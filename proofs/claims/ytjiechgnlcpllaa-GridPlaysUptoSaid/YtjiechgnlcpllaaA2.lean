/- Plain: products and rests of numbers of 64 bits. -/
import Derived.Test.YtjiechgnlcpllaaW0
set_option linter.unusedSimpArgs false
set_option linter.unusedVariables false
set_option linter.unusedSectionVars false
namespace Go.Sk

theorem and64_low {a k : Nat} (ha : a < 18446744073709551616) (hk : k ≤ 64) : and64 a (2 ^ k - 1) = a % 2 ^ k := by
  have h64 : (18446744073709551616 : Nat) = 2 ^ 64 := by decide
  have : 2 ^ k - 1 < 18446744073709551616 := by
    have := Nat.pow_le_pow_right (n := 2) (by decide) hk
    have : 0 < 2 ^ k := Nat.pow_pos (by decide)
    omega
  rw [and64_eq, Nat.mod_eq_of_lt ha, Nat.mod_eq_of_lt this, Nat.and_two_pow_sub_one_eq_mod]
theorem and64_32 {a : Nat} (ha : a < 18446744073709551616) : and64 a 4294967295 = a % 4294967296 := and64_low (k := 32) ha (by decide)
theorem and64_p {a : Nat} (ha : a < 18446744073709551616) : and64 a 2305843009213693951 = a % 2305843009213693952 := and64_low (k := 61) ha (by decide)
theorem or64_add {a b k : Nat} (ha : a * 2 ^ k < 18446744073709551616) (hb : b < 2 ^ k) (hk : k ≤ 64) : or64 (a * 2 ^ k) b = a * 2 ^ k + b := by
  have h2 : b < 18446744073709551616 := by
    have := Nat.pow_le_pow_right (n := 2) (by decide) hk
    omega
  rw [or64_eq, Nat.mod_eq_of_lt ha, Nat.mod_eq_of_lt h2, Nat.mul_comm a, Nat.two_pow_add_eq_or_of_lt hb]

noncomputable def mulPart (a b x y : Nat) : Nat := m64 (and64 (a / 2 ^ min (m64 (32 * x)) 64) 4294967295 * and64 (b / 2 ^ min (m64 (32 * y)) 64) 4294967295)
noncomputable def mulRaw (a b : Nat) : Nat × Nat :=
  let first := mulPart a b 0 0
  let one := m64 (mulPart a b 1 0 + first / 4294967296)
  let two := m64 (mulPart a b 0 1 + and64 one 4294967295)
  (m64 (m64 (mulPart a b 1 1 + one / 4294967296) + two / 4294967296), or64 (m64 (two * 4294967296)) (and64 first 4294967295))
noncomputable def mulRef (a b : Nat) : Nat × Nat :=
  let a1 := m64 (a / 4294967296); let a0 := a % 4294967296; let b1 := m64 (b / 4294967296); let b0 := b % 4294967296
  let low := m64 (a0 * b0)
  let mid := m64 (m64 (a1 * b0) + m64 (low / 4294967296))
  let mid2 := m64 (m64 (a0 * b1) + mid % 4294967296)
  (m64 (m64 (m64 (a1 * b1) + m64 (mid / 4294967296)) + m64 (mid2 / 4294967296)), m64 (m64 (mid2 % 4294967296 * 4294967296) + low % 4294967296))

/-- The product by halves. -/
theorem halves (a1 a0 b1 b0 : Nat) (h1 : a1 < 4294967296) (h2 : a0 < 4294967296) (h3 : b1 < 4294967296) (h4 : b0 < 4294967296) :
    let low := a0 * b0; let mid := a1 * b0 + low / 4294967296; let mid2 := a0 * b1 + mid % 4294967296
    let hi := a1 * b1 + mid / 4294967296 + mid2 / 4294967296; let lo := mid2 % 4294967296 * 4294967296 + low % 4294967296
    low < 18446744073709551616 ∧ mid < 18446744073709551616 ∧ mid2 < 18446744073709551616 ∧ hi < 18446744073709551616 ∧ lo < 18446744073709551616 ∧
    (a1 * 4294967296 + a0) * (b1 * 4294967296 + b0) = hi * 18446744073709551616 + lo := by
  intro low mid mid2 hi lo
  have p1 : a0 * b0 ≤ 4294967295 * 4294967295 := Nat.mul_le_mul (by omega) (by omega)
  have p2 : a1 * b0 ≤ 4294967295 * 4294967295 := Nat.mul_le_mul (by omega) (by omega)
  have p3 : a0 * b1 ≤ 4294967295 * 4294967295 := Nat.mul_le_mul (by omega) (by omega)
  have p4 : a1 * b1 ≤ 4294967295 * 4294967295 := Nat.mul_le_mul (by omega) (by omega)
  have e : (a1 * 4294967296 + a0) * (b1 * 4294967296 + b0) = a1 * b1 * 18446744073709551616 + (a1 * b0 + a0 * b1) * 4294967296 + a0 * b0 := by
    rw [Nat.add_mul, Nat.mul_add, Nat.mul_add, Nat.add_mul (a1 * b0)]
    have e1 : a1 * 4294967296 * (b1 * 4294967296) = a1 * b1 * 18446744073709551616 := by
      rw [Nat.mul_mul_mul_comm]
    have e2 : a1 * 4294967296 * b0 = a1 * b0 * 4294967296 := by rw [Nat.mul_right_comm]
    have e3 : a0 * (b1 * 4294967296) = a0 * b1 * 4294967296 := by rw [Nat.mul_assoc]
    omega
  rw [e]
  simp only [low, mid, mid2, hi, lo]
  generalize a0 * b0 = q at *
  generalize a1 * b0 = r at *
  generalize a0 * b1 = s at *
  generalize a1 * b1 = t at *
  omega

theorem mul_eq {a b : Nat} (ha : a < 18446744073709551616) (hb : b < 18446744073709551616) : (mulRef a b).1 = a * b / 18446744073709551616 ∧ (mulRef a b).2 = a * b % 18446744073709551616 := by
  have h := halves (a / 4294967296) (a % 4294967296) (b / 4294967296) (b % 4294967296) (by omega) (by omega) (by omega) (by omega)
  have ea : a / 4294967296 * 4294967296 + a % 4294967296 = a := Nat.div_add_mod' a _
  have eb : b / 4294967296 * 4294967296 + b % 4294967296 = b := Nat.div_add_mod' b _
  rw [ea, eb] at h
  obtain ⟨h1, h2, h3, h4, h5, h6⟩ := h
  have p2 : a / 4294967296 * (b % 4294967296) ≤ 4294967295 * 4294967295 := Nat.mul_le_mul (by omega) (by omega)
  have p3 : a % 4294967296 * (b / 4294967296) ≤ 4294967295 * 4294967295 := Nat.mul_le_mul (by omega) (by omega)
  have p4 : a / 4294967296 * (b / 4294967296) ≤ 4294967295 * 4294967295 := Nat.mul_le_mul (by omega) (by omega)
  have key : ∀ q r s t : Nat, q < 18446744073709551616 → r ≤ 4294967295 * 4294967295 → s ≤ 4294967295 * 4294967295 → t ≤ 4294967295 * 4294967295 → ∀ mid mid2 hi lo, mid = r + q / 4294967296 → mid2 = s + mid % 4294967296 → hi = t + mid / 4294967296 + mid2 / 4294967296 → lo = mid2 % 4294967296 * 4294967296 + q % 4294967296 → hi < 18446744073709551616 → lo < 18446744073709551616 →
      let low := m64 q; let mid' := m64 (m64 r + m64 (low / 4294967296)); let mid2' := m64 (m64 s + mid' % 4294967296)
      m64 (m64 (m64 t + m64 (mid' / 4294967296)) + m64 (mid2' / 4294967296)) = hi ∧ m64 (m64 (mid2' % 4294967296 * 4294967296) + low % 4294967296) = lo := by
    intro q r s t hq hr hs ht mid mid2 hi lo e1 e2 e3 e4 b1 b2 low mid' mid2'
    have f0 : low = q := m64_id hq
    have f1 : mid' = mid := by simp only [mid', f0, m64_eq]; omega
    have f2 : mid2' = mid2 := by simp only [mid2', f1, m64_eq]; omega
    rw [f0, f1, f2]
    simp only [m64_eq]
    constructor <;> omega
  have k := key _ _ _ _ h1 p2 p3 p4 _ _ _ _ rfl rfl rfl rfl h4 h5
  have g1 : m64 (a / 4294967296) = a / 4294967296 := m64_id (by omega)
  have g2 : m64 (b / 4294967296) = b / 4294967296 := m64_id (by omega)
  simp only [mulRef, g1, g2]
  rw [k.1, k.2]
  have fin : ∀ x hi lo : Nat, lo < 18446744073709551616 → x = hi * 18446744073709551616 + lo → hi = x / 18446744073709551616 ∧ lo = x % 18446744073709551616 := by intro x hi lo h1 h2; constructor <;> omega
  exact fin _ _ _ h5 h6

theorem mulPart_eq {a b : Nat} (ha : a < 18446744073709551616) (hb : b < 18446744073709551616) : mulPart a b 0 0 = a % 4294967296 * (b % 4294967296) ∧ mulPart a b 1 0 = a / 4294967296 * (b % 4294967296) ∧
    mulPart a b 0 1 = a % 4294967296 * (b / 4294967296) ∧ mulPart a b 1 1 = a / 4294967296 * (b / 4294967296) := by
  have m0 : min (m64 (32 * 0)) 64 = 0 := by rw [m64_eq]; rfl
  have m1 : min (m64 (32 * 1)) 64 = 32 := by rw [m64_eq]; rfl
  have e0 : ∀ x, x < 18446744073709551616 → and64 (x / 2 ^ 0) 4294967295 = x % 4294967296 := fun x hx => by
    rw [Nat.pow_zero, Nat.div_one]; exact and64_32 hx
  have e1 : ∀ x, x < 18446744073709551616 → and64 (x / 2 ^ 32) 4294967295 = x / 4294967296 := fun x hx => by
    rw [show (2 : Nat) ^ 32 = 4294967296 from by decide, and64_32 (by omega)]; omega
  have p1 : a % 4294967296 * (b % 4294967296) ≤ 4294967295 * 4294967295 := Nat.mul_le_mul (by omega) (by omega)
  have p2 : a / 4294967296 * (b % 4294967296) ≤ 4294967295 * 4294967295 := Nat.mul_le_mul (by omega) (by omega)
  have p3 : a % 4294967296 * (b / 4294967296) ≤ 4294967295 * 4294967295 := Nat.mul_le_mul (by omega) (by omega)
  have p4 : a / 4294967296 * (b / 4294967296) ≤ 4294967295 * 4294967295 := Nat.mul_le_mul (by omega) (by omega)
  unfold mulPart
  rw [m0, m1, e0 a ha, e0 b hb, e1 a ha, e1 b hb]
  exact ⟨m64_id (by omega), m64_id (by omega), m64_id (by omega), m64_id (by omega)⟩

theorem mulRaw_eq {a b : Nat} (ha : a < 18446744073709551616) (hb : b < 18446744073709551616) : mulRaw a b = mulRef a b := by
  obtain ⟨q1, q2, q3, q4⟩ := mulPart_eq ha hb
  have p1 : a % 4294967296 * (b % 4294967296) ≤ 4294967295 * 4294967295 := Nat.mul_le_mul (by omega) (by omega)
  have p2 : a / 4294967296 * (b % 4294967296) ≤ 4294967295 * 4294967295 := Nat.mul_le_mul (by omega) (by omega)
  have p3 : a % 4294967296 * (b / 4294967296) ≤ 4294967295 * 4294967295 := Nat.mul_le_mul (by omega) (by omega)
  have p4 : a / 4294967296 * (b / 4294967296) ≤ 4294967295 * 4294967295 := Nat.mul_le_mul (by omega) (by omega)
  simp only [mulRaw, mulRef]
  rw [q1, q2, q3, q4]
  rw [m64_id (show a / 4294967296 < 18446744073709551616 by omega), m64_id (show b / 4294967296 < 18446744073709551616 by omega)]
  rw [m64_id (show a % 4294967296 * (b % 4294967296) < 18446744073709551616 by omega), m64_id (show a / 4294967296 * (b % 4294967296) < 18446744073709551616 by omega), m64_id (show a % 4294967296 * (b / 4294967296) < 18446744073709551616 by omega),
    m64_id (show a / 4294967296 * (b / 4294967296) < 18446744073709551616 by omega), m64_id (show a % 4294967296 * (b % 4294967296) / 4294967296 < 18446744073709551616 by omega)]
  generalize hmid : a / 4294967296 * (b % 4294967296) + a % 4294967296 * (b % 4294967296) / 4294967296 = mid at *
  rw [and64_32 (m64_lt mid)]
  generalize a % 4294967296 * (b % 4294967296) = lo at *
  rw [and64_32 (show lo < 18446744073709551616 by omega)]
  have hm : mid < 18446744073709551616 := by omega
  rw [m64_id hm]
  generalize hmid2 : a % 4294967296 * (b / 4294967296) + mid % 4294967296 = mid2 at *
  have hm2 : mid2 < 18446744073709551616 := by omega
  rw [m64_id hm2, m64_id (show mid / 4294967296 < 18446744073709551616 by omega), m64_id (show mid2 / 4294967296 < 18446744073709551616 by omega)]
  have e : m64 (mid2 * 4294967296) = mid2 % 4294967296 * 2 ^ 32 := by rw [m64_eq]; omega
  rw [e, or64_add (by omega) (by omega) (by omega)]
  rw [m64_id (show mid2 % 4294967296 * 4294967296 < 18446744073709551616 by omega), m64_id (show mid2 % 4294967296 * 4294967296 + lo % 4294967296 < 18446744073709551616 by omega)]

/-! Rests. -/
noncomputable def foldV (n : Nat) : Nat := let m := m64 (n / 2305843009213693952 + and64 n 2305843009213693951); if m ≥ 2305843009213693951 then sub64 m 2305843009213693951 else m
theorem fold_eq {n : Nat} (h : n < 18446744073709551616) : foldV n = n % 2305843009213693951 ∧ foldV n < 2305843009213693951 := by
  unfold foldV
  rw [and64_p h, m64_id (by omega)]
  dsimp only
  split
  · rw [sub64_le (by omega) (by omega)]; constructor <;> omega
  · constructor <;> omega
noncomputable def wsum (n : Nat) (l : List Nat) : Nat := l.foldl (fun n x => foldV (m64 (n + x))) n
noncomputable def modRaw (high lower : Nat) : Nat := wsum 0 [foldV (high / 288230376151711744), foldV (or64 (and64 (m64 (high * 8)) 2305843009213693951) (lower / 2305843009213693952)), and64 lower 2305843009213693951]
theorem mod_eq {high lower : Nat} (h1 : high < 18446744073709551616) (h2 : lower < 18446744073709551616) : modRaw high lower = (high * 18446744073709551616 + lower) % 2305843009213693951 := by
  unfold modRaw wsum
  simp only [List.foldl_cons, List.foldl_nil]
  have e1 : and64 (m64 (high * 8)) 2305843009213693951 = high % 288230376151711744 * 2 ^ 3 := by rw [and64_p (m64_lt _)]; rw [m64_eq]; omega
  rw [e1, or64_add (by omega) (by omega) (by omega), and64_p h2]
  generalize ha : high / 288230376151711744 = a
  generalize hb : high % 288230376151711744 * 2 ^ 3 + lower / 2305843009213693952 = b
  generalize hc : lower % 2305843009213693952 = c
  have ha' : a < 64 := by omega
  have hb' : b < 2305843009213693952 := by omega
  have hc' : c < 2305843009213693952 := by omega
  have hval : high * 18446744073709551616 + lower = a * (2305843009213693952 * 2305843009213693952) + b * 2305843009213693952 + c := by omega
  rw [hval]
  obtain ⟨f1, f2⟩ := fold_eq (show a < 18446744073709551616 by omega)
  obtain ⟨g1, g2⟩ := fold_eq (show b < 18446744073709551616 by omega)
  generalize foldV a = fa at *
  generalize foldV b = fb at *
  rw [m64_id (show 0 + fa < 18446744073709551616 by omega)]
  obtain ⟨s1, s2⟩ := fold_eq (show 0 + fa < 18446744073709551616 by omega)
  generalize foldV (0 + fa) = s at *
  rw [m64_id (show s + fb < 18446744073709551616 by omega)]
  obtain ⟨t1, t2⟩ := fold_eq (show s + fb < 18446744073709551616 by omega)
  generalize foldV (s + fb) = t at *
  rw [m64_id (show t + c < 18446744073709551616 by omega)]
  obtain ⟨u1, u2⟩ := fold_eq (show t + c < 18446744073709551616 by omega)
  rw [u1]
  omega

/-- Bit by bit. -/
noncomputable def doubleV (n bit : Nat) : Nat := m64 (m64 (2 * n) + bit) % 2305843009213693951
noncomputable def bitsV (x : Nat) : Nat → Nat → Nat
  | 0, n => n
  | k + 1, n => bitsV x k (doubleV n (x / 2 ^ k % 2))
theorem bits_eq {x : Nat} : ∀ (k n : Nat), n < 2305843009213693951 → bitsV x k n = (n * 2 ^ k + x % 2 ^ k) % 2305843009213693951 ∧ bitsV x k n < 2305843009213693951 := by
  intro k
  induction k with
  | zero => intro n hn; simp only [bitsV, Nat.pow_zero, Nat.mul_one, Nat.mod_one, Nat.add_zero]; exact ⟨(Nat.mod_eq_of_lt hn).symm, hn⟩
  | succ k ih =>
    intro n hn
    simp only [bitsV]
    have hb : x / 2 ^ k % 2 < 2 := Nat.mod_lt _ (by decide)
    have hd : doubleV n (x / 2 ^ k % 2) = (2 * n + x / 2 ^ k % 2) % 2305843009213693951 := by
      unfold doubleV; rw [m64_id (show 2 * n < 18446744073709551616 by omega), m64_id (by omega)]
    have hlt : doubleV n (x / 2 ^ k % 2) < 2305843009213693951 := by rw [hd]; exact Nat.mod_lt _ (by decide)
    obtain ⟨h1, h2⟩ := ih _ hlt
    refine ⟨?_, h2⟩
    rw [h1, hd]
    have e1 : x % 2 ^ (k + 1) = x / 2 ^ k % 2 * 2 ^ k + x % 2 ^ k := by
      rw [Nat.pow_succ, Nat.mod_mul]; rw [Nat.mul_comm (2 ^ k)]; omega
    rw [e1, Nat.add_mod, Nat.mod_mul_mod, ← Nat.add_mod]
    congr 1
    rw [Nat.add_mul, Nat.pow_succ, Nat.mul_comm 2 n, Nat.mul_assoc, Nat.mul_comm 2 (2 ^ k)]; omega
theorem modRef_eq {high lower : Nat} (h1 : high < 18446744073709551616) (h2 : lower < 18446744073709551616) : bitsV lower 64 (bitsV high 64 0) = (high * 18446744073709551616 + lower) % 2305843009213693951 := by
  have h64 : (2 : Nat) ^ 64 = 18446744073709551616 := by decide
  obtain ⟨e1, e2⟩ := bits_eq (x := high) 64 0 (by decide)
  obtain ⟨e3, _⟩ := bits_eq (x := lower) 64 _ e2
  rw [e3, e1, h64, Nat.mod_eq_of_lt h1, Nat.mod_eq_of_lt h2, Nat.zero_mul, Nat.zero_add, Nat.add_mod, Nat.mod_mul_mod, ← Nat.add_mod]
def addModV (a b : Nat) : Nat := (a % 2305843009213693951 + b % 2305843009213693951) % 2305843009213693951
theorem addMod_raw {a b : Nat} (ha : a < 18446744073709551616) (hb : b < 18446744073709551616) : wsum 0 [foldV a, foldV b] = addModV a b := by
  unfold wsum
  simp only [List.foldl_cons, List.foldl_nil]
  obtain ⟨f1, f2⟩ := fold_eq ha
  obtain ⟨g1, g2⟩ := fold_eq hb
  generalize foldV a = fa at *
  generalize foldV b = fb at *
  rw [m64_id (show 0 + fa < 18446744073709551616 by omega)]
  obtain ⟨s1, s2⟩ := fold_eq (show 0 + fa < 18446744073709551616 by omega)
  generalize foldV (0 + fa) = s at *
  rw [m64_id (show s + fb < 18446744073709551616 by omega)]
  obtain ⟨t1, t2⟩ := fold_eq (show s + fb < 18446744073709551616 by omega)
  rw [t1]; unfold addModV; omega
def mulModV (a b : Nat) : Nat := a * b % 2305843009213693951
theorem mulModV_lt (a b : Nat) : mulModV a b < 18446744073709551616 := Nat.lt_trans (Nat.mod_lt _ (by decide)) (by decide)
theorem addModV_lt (a b : Nat) : addModV a b < 2305843009213693951 := Nat.mod_lt _ (by decide)
theorem mulMod_of {a b : Nat} (ha : a < 18446744073709551616) (hb : b < 18446744073709551616) : ((mulRef a b).1 * 18446744073709551616 + (mulRef a b).2) % 2305843009213693951 = mulModV a b := by
  obtain ⟨h1, h2⟩ := mul_eq ha hb
  rw [h1, h2, Nat.div_add_mod']; rfl
theorem mulRef_lt (a b : Nat) : (mulRef a b).1 < 18446744073709551616 ∧ (mulRef a b).2 < 18446744073709551616 := ⟨m64_lt _, m64_lt _⟩
end Go.Sk
