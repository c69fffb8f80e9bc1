/- Texts A2 W2 W4c W15a W15b W5r W6d W6a W6b W6h A7h, joined. -/
import Derived.Test.YtjiechgnlcpllaaGreatRGA
import Derived.Test.YtjiechgnlcpllaaGreatSkRg
set_option linter.unusedSimpArgs false
set_option linter.unusedVariables false
set_option linter.unusedSectionVars false
-- A2
section
namespace Go.Sk

theorem and64_low {a k : Nat} (ha : a < 18446744073709551616) (hk : k ≤ 64) : and64 a (2 ^ k - 1) = a % 2 ^ k := by
  have h64 : (18446744073709551616 : Nat) = 2 ^ 64 := by decide
  have : 2 ^ k - 1 < 18446744073709551616 := by
    have := Nat.pow_le_pow_right (n := 2) (by decide) hk
    have : 0 < 2 ^ k := Nat.pow_pos (by decide)
    omega
  rw [and64_eq, Nat.mod_eq_of_lt ha, Nat.mod_eq_of_lt this, Nat.and_two_pow_sub_one_eq_mod]
theorem and64_32 {a : Nat} (ha : a < 18446744073709551616) : and64 a 4294967295 = a % 4294967296 := and64_low (k := 32) ha (by decide)
theorem and64_p {a : Nat} (ha : a < 18446744073709551616) : and64 a 2305843009213693951 = a % 2305843009213693952 := and64_low (k := 61) ha (by decide)
theorem or64_add {a b k : Nat} (ha : a * 2 ^ k < 18446744073709551616) (hb : b < 2 ^ k) (hk : k ≤ 64) : or64 (a * 2 ^ k) b = a * 2 ^ k + b := by
  have h2 : b < 18446744073709551616 := by
    have := Nat.pow_le_pow_right (n := 2) (by decide) hk
    omega
  rw [or64_eq, Nat.mod_eq_of_lt ha, Nat.mod_eq_of_lt h2, Nat.mul_comm a, Nat.two_pow_add_eq_or_of_lt hb]

noncomputable def mulPart (a b x y : Nat) : Nat := m64 (and64 (a / 2 ^ min (m64 (32 * x)) 64) 4294967295 * and64 (b / 2 ^ min (m64 (32 * y)) 64) 4294967295)
noncomputable def mulRaw (a b : Nat) : Nat × Nat :=
  let first := mulPart a b 0 0
  let one := m64 (mulPart a b 1 0 + first / 4294967296)
  let two := m64 (mulPart a b 0 1 + and64 one 4294967295)
  (m64 (m64 (mulPart a b 1 1 + one / 4294967296) + two / 4294967296), or64 (m64 (two * 4294967296)) (and64 first 4294967295))
noncomputable def mulRef (a b : Nat) : Nat × Nat :=
  let a1 := m64 (a / 4294967296); let a0 := a % 4294967296; let b1 := m64 (b / 4294967296); let b0 := b % 4294967296
  let low := m64 (a0 * b0)
  let mid := m64 (m64 (a1 * b0) + m64 (low / 4294967296))
  let mid2 := m64 (m64 (a0 * b1) + mid % 4294967296)
  (m64 (m64 (m64 (a1 * b1) + m64 (mid / 4294967296)) + m64 (mid2 / 4294967296)), m64 (m64 (mid2 % 4294967296 * 4294967296) + low % 4294967296))

/-- The product by halves. -/
theorem halves (a1 a0 b1 b0 : Nat) (h1 : a1 < 4294967296) (h2 : a0 < 4294967296) (h3 : b1 < 4294967296) (h4 : b0 < 4294967296) :
    let low := a0 * b0; let mid := a1 * b0 + low / 4294967296; let mid2 := a0 * b1 + mid % 4294967296
    let hi := a1 * b1 + mid / 4294967296 + mid2 / 4294967296; let lo := mid2 % 4294967296 * 4294967296 + low % 4294967296
    low < 18446744073709551616 ∧ mid < 18446744073709551616 ∧ mid2 < 18446744073709551616 ∧ hi < 18446744073709551616 ∧ lo < 18446744073709551616 ∧
    (a1 * 4294967296 + a0) * (b1 * 4294967296 + b0) = hi * 18446744073709551616 + lo := by
  intro low mid mid2 hi lo
  have p1 : a0 * b0 ≤ 4294967295 * 4294967295 := Nat.mul_le_mul (by omega) (by omega)
  have p2 : a1 * b0 ≤ 4294967295 * 4294967295 := Nat.mul_le_mul (by omega) (by omega)
  have p3 : a0 * b1 ≤ 4294967295 * 4294967295 := Nat.mul_le_mul (by omega) (by omega)
  have p4 : a1 * b1 ≤ 4294967295 * 4294967295 := Nat.mul_le_mul (by omega) (by omega)
  have e : (a1 * 4294967296 + a0) * (b1 * 4294967296 + b0) = a1 * b1 * 18446744073709551616 + (a1 * b0 + a0 * b1) * 4294967296 + a0 * b0 := by
    rw [Nat.add_mul, Nat.mul_add, Nat.mul_add, Nat.add_mul (a1 * b0)]
    have e1 : a1 * 4294967296 * (b1 * 4294967296) = a1 * b1 * 18446744073709551616 := by
      rw [Nat.mul_mul_mul_comm]
    have e2 : a1 * 4294967296 * b0 = a1 * b0 * 4294967296 := by rw [Nat.mul_right_comm]
    have e3 : a0 * (b1 * 4294967296) = a0 * b1 * 4294967296 := by rw [Nat.mul_assoc]
    omega
  rw [e]
  simp only [low, mid, mid2, hi, lo]
  generalize a0 * b0 = q at *
  generalize a1 * b0 = r at *
  generalize a0 * b1 = s at *
  generalize a1 * b1 = t at *
  omega

theorem mul_eq {a b : Nat} (ha : a < 18446744073709551616) (hb : b < 18446744073709551616) : (mulRef a b).1 = a * b / 18446744073709551616 ∧ (mulRef a b).2 = a * b % 18446744073709551616 := by
  have h := halves (a / 4294967296) (a % 4294967296) (b / 4294967296) (b % 4294967296) (by omega) (by omega) (by omega) (by omega)
  have ea : a / 4294967296 * 4294967296 + a % 4294967296 = a := Nat.div_add_mod' a _
  have eb : b / 4294967296 * 4294967296 + b % 4294967296 = b := Nat.div_add_mod' b _
  rw [ea, eb] at h
  obtain ⟨h1, h2, h3, h4, h5, h6⟩ := h
  have p2 : a / 4294967296 * (b % 4294967296) ≤ 4294967295 * 4294967295 := Nat.mul_le_mul (by omega) (by omega)
  have p3 : a % 4294967296 * (b / 4294967296) ≤ 4294967295 * 4294967295 := Nat.mul_le_mul (by omega) (by omega)
  have p4 : a / 4294967296 * (b / 4294967296) ≤ 4294967295 * 4294967295 := Nat.mul_le_mul (by omega) (by omega)
  have key : ∀ q r s t : Nat, q < 18446744073709551616 → r ≤ 4294967295 * 4294967295 → s ≤ 4294967295 * 4294967295 → t ≤ 4294967295 * 4294967295 → ∀ mid mid2 hi lo, mid = r + q / 4294967296 → mid2 = s + mid % 4294967296 → hi = t + mid / 4294967296 + mid2 / 4294967296 → lo = mid2 % 4294967296 * 4294967296 + q % 4294967296 → hi < 18446744073709551616 → lo < 18446744073709551616 →
      let low := m64 q; let mid' := m64 (m64 r + m64 (low / 4294967296)); let mid2' := m64 (m64 s + mid' % 4294967296)
      m64 (m64 (m64 t + m64 (mid' / 4294967296)) + m64 (mid2' / 4294967296)) = hi ∧ m64 (m64 (mid2' % 4294967296 * 4294967296) + low % 4294967296) = lo := by
    intro q r s t hq hr hs ht mid mid2 hi lo e1 e2 e3 e4 b1 b2 low mid' mid2'
    have f0 : low = q := m64_id hq
    have f1 : mid' = mid := by simp only [mid', f0, m64_eq]; omega
    have f2 : mid2' = mid2 := by simp only [mid2', f1, m64_eq]; omega
    rw [f0, f1, f2]
    simp only [m64_eq]
    constructor <;> omega
  have k := key _ _ _ _ h1 p2 p3 p4 _ _ _ _ rfl rfl rfl rfl h4 h5
  have g1 : m64 (a / 4294967296) = a / 4294967296 := m64_id (by omega)
  have g2 : m64 (b / 4294967296) = b / 4294967296 := m64_id (by omega)
  simp only [mulRef, g1, g2]
  rw [k.1, k.2]
  have fin : ∀ x hi lo : Nat, lo < 18446744073709551616 → x = hi * 18446744073709551616 + lo → hi = x / 18446744073709551616 ∧ lo = x % 18446744073709551616 := by intro x hi lo h1 h2; constructor <;> omega
  exact fin _ _ _ h5 h6

theorem mulPart_eq {a b : Nat} (ha : a < 18446744073709551616) (hb : b < 18446744073709551616) : mulPart a b 0 0 = a % 4294967296 * (b % 4294967296) ∧ mulPart a b 1 0 = a / 4294967296 * (b % 4294967296) ∧
    mulPart a b 0 1 = a % 4294967296 * (b / 4294967296) ∧ mulPart a b 1 1 = a / 4294967296 * (b / 4294967296) := by
  have m0 : min (m64 (32 * 0)) 64 = 0 := by rw [m64_eq]; rfl
  have m1 : min (m64 (32 * 1)) 64 = 32 := by rw [m64_eq]; rfl
  have e0 : ∀ x, x < 18446744073709551616 → and64 (x / 2 ^ 0) 4294967295 = x % 4294967296 := fun x hx => by
    rw [Nat.pow_zero, Nat.div_one]; exact and64_32 hx
  have e1 : ∀ x, x < 18446744073709551616 → and64 (x / 2 ^ 32) 4294967295 = x / 4294967296 := fun x hx => by
    rw [show (2 : Nat) ^ 32 = 4294967296 from by decide, and64_32 (by omega)]; omega
  have p1 : a % 4294967296 * (b % 4294967296) ≤ 4294967295 * 4294967295 := Nat.mul_le_mul (by omega) (by omega)
  have p2 : a / 4294967296 * (b % 4294967296) ≤ 4294967295 * 4294967295 := Nat.mul_le_mul (by omega) (by omega)
  have p3 : a % 4294967296 * (b / 4294967296) ≤ 4294967295 * 4294967295 := Nat.mul_le_mul (by omega) (by omega)
  have p4 : a / 4294967296 * (b / 4294967296) ≤ 4294967295 * 4294967295 := Nat.mul_le_mul (by omega) (by omega)
  unfold mulPart
  rw [m0, m1, e0 a ha, e0 b hb, e1 a ha, e1 b hb]
  exact ⟨m64_id (by omega), m64_id (by omega), m64_id (by omega), m64_id (by omega)⟩

theorem mulRaw_eq {a b : Nat} (ha : a < 18446744073709551616) (hb : b < 18446744073709551616) : mulRaw a b = mulRef a b := by
  obtain ⟨q1, q2, q3, q4⟩ := mulPart_eq ha hb
  have p1 : a % 4294967296 * (b % 4294967296) ≤ 4294967295 * 4294967295 := Nat.mul_le_mul (by omega) (by omega)
  have p2 : a / 4294967296 * (b % 4294967296) ≤ 4294967295 * 4294967295 := Nat.mul_le_mul (by omega) (by omega)
  have p3 : a % 4294967296 * (b / 4294967296) ≤ 4294967295 * 4294967295 := Nat.mul_le_mul (by omega) (by omega)
  have p4 : a / 4294967296 * (b / 4294967296) ≤ 4294967295 * 4294967295 := Nat.mul_le_mul (by omega) (by omega)
  simp only [mulRaw, mulRef]
  rw [q1, q2, q3, q4]
  rw [m64_id (show a / 4294967296 < 18446744073709551616 by omega), m64_id (show b / 4294967296 < 18446744073709551616 by omega)]
  rw [m64_id (show a % 4294967296 * (b % 4294967296) < 18446744073709551616 by omega), m64_id (show a / 4294967296 * (b % 4294967296) < 18446744073709551616 by omega), m64_id (show a % 4294967296 * (b / 4294967296) < 18446744073709551616 by omega),
    m64_id (show a / 4294967296 * (b / 4294967296) < 18446744073709551616 by omega), m64_id (show a % 4294967296 * (b % 4294967296) / 4294967296 < 18446744073709551616 by omega)]
  generalize hmid : a / 4294967296 * (b % 4294967296) + a % 4294967296 * (b % 4294967296) / 4294967296 = mid at *
  rw [and64_32 (m64_lt mid)]
  generalize a % 4294967296 * (b % 4294967296) = lo at *
  rw [and64_32 (show lo < 18446744073709551616 by omega)]
  have hm : mid < 18446744073709551616 := by omega
  rw [m64_id hm]
  generalize hmid2 : a % 4294967296 * (b / 4294967296) + mid % 4294967296 = mid2 at *
  have hm2 : mid2 < 18446744073709551616 := by omega
  rw [m64_id hm2, m64_id (show mid / 4294967296 < 18446744073709551616 by omega), m64_id (show mid2 / 4294967296 < 18446744073709551616 by omega)]
  have e : m64 (mid2 * 4294967296) = mid2 % 4294967296 * 2 ^ 32 := by rw [m64_eq]; omega
  rw [e, or64_add (by omega) (by omega) (by omega)]
  rw [m64_id (show mid2 % 4294967296 * 4294967296 < 18446744073709551616 by omega), m64_id (show mid2 % 4294967296 * 4294967296 + lo % 4294967296 < 18446744073709551616 by omega)]

/-! Rests. -/
noncomputable def foldV (n : Nat) : Nat := let m := m64 (n / 2305843009213693952 + and64 n 2305843009213693951); if m ≥ 2305843009213693951 then sub64 m 2305843009213693951 else m
theorem fold_eq {n : Nat} (h : n < 18446744073709551616) : foldV n = n % 2305843009213693951 ∧ foldV n < 2305843009213693951 := by
  unfold foldV
  rw [and64_p h, m64_id (by omega)]
  dsimp only
  split
  · rw [sub64_le (by omega) (by omega)]; constructor <;> omega
  · constructor <;> omega
noncomputable def wsum (n : Nat) (l : List Nat) : Nat := l.foldl (fun n x => foldV (m64 (n + x))) n
noncomputable def modRaw (high lower : Nat) : Nat := wsum 0 [foldV (high / 288230376151711744), foldV (or64 (and64 (m64 (high * 8)) 2305843009213693951) (lower / 2305843009213693952)), and64 lower 2305843009213693951]
theorem mod_eq {high lower : Nat} (h1 : high < 18446744073709551616) (h2 : lower < 18446744073709551616) : modRaw high lower = (high * 18446744073709551616 + lower) % 2305843009213693951 := by
  unfold modRaw wsum
  simp only [List.foldl_cons, List.foldl_nil]
  have e1 : and64 (m64 (high * 8)) 2305843009213693951 = high % 288230376151711744 * 2 ^ 3 := by rw [and64_p (m64_lt _)]; rw [m64_eq]; omega
  rw [e1, or64_add (by omega) (by omega) (by omega), and64_p h2]
  generalize ha : high / 288230376151711744 = a
  generalize hb : high % 288230376151711744 * 2 ^ 3 + lower / 2305843009213693952 = b
  generalize hc : lower % 2305843009213693952 = c
  have ha' : a < 64 := by omega
  have hb' : b < 2305843009213693952 := by omega
  have hc' : c < 2305843009213693952 := by omega
  have hval : high * 18446744073709551616 + lower = a * (2305843009213693952 * 2305843009213693952) + b * 2305843009213693952 + c := by omega
  rw [hval]
  obtain ⟨f1, f2⟩ := fold_eq (show a < 18446744073709551616 by omega)
  obtain ⟨g1, g2⟩ := fold_eq (show b < 18446744073709551616 by omega)
  generalize foldV a = fa at *
  generalize foldV b = fb at *
  rw [m64_id (show 0 + fa < 18446744073709551616 by omega)]
  obtain ⟨s1, s2⟩ := fold_eq (show 0 + fa < 18446744073709551616 by omega)
  generalize foldV (0 + fa) = s at *
  rw [m64_id (show s + fb < 18446744073709551616 by omega)]
  obtain ⟨t1, t2⟩ := fold_eq (show s + fb < 18446744073709551616 by omega)
  generalize foldV (s + fb) = t at *
  rw [m64_id (show t + c < 18446744073709551616 by omega)]
  obtain ⟨u1, u2⟩ := fold_eq (show t + c < 18446744073709551616 by omega)
  rw [u1]
  omega

/-- Bit by bit. -/
noncomputable def doubleV (n bit : Nat) : Nat := m64 (m64 (2 * n) + bit) % 2305843009213693951
noncomputable def bitsV (x : Nat) : Nat → Nat → Nat
  | 0, n => n
  | k + 1, n => bitsV x k (doubleV n (x / 2 ^ k % 2))
theorem bits_eq {x : Nat} : ∀ (k n : Nat), n < 2305843009213693951 → bitsV x k n = (n * 2 ^ k + x % 2 ^ k) % 2305843009213693951 ∧ bitsV x k n < 2305843009213693951 := by
  intro k
  induction k with
  | zero => intro n hn; simp only [bitsV, Nat.pow_zero, Nat.mul_one, Nat.mod_one, Nat.add_zero]; exact ⟨(Nat.mod_eq_of_lt hn).symm, hn⟩
  | succ k ih =>
    intro n hn
    simp only [bitsV]
    have hb : x / 2 ^ k % 2 < 2 := Nat.mod_lt _ (by decide)
    have hd : doubleV n (x / 2 ^ k % 2) = (2 * n + x / 2 ^ k % 2) % 2305843009213693951 := by
      unfold doubleV; rw [m64_id (show 2 * n < 18446744073709551616 by omega), m64_id (by omega)]
    have hlt : doubleV n (x / 2 ^ k % 2) < 2305843009213693951 := by rw [hd]; exact Nat.mod_lt _ (by decide)
    obtain ⟨h1, h2⟩ := ih _ hlt
    refine ⟨?_, h2⟩
    rw [h1, hd]
    have e1 : x % 2 ^ (k + 1) = x / 2 ^ k % 2 * 2 ^ k + x % 2 ^ k := by
      rw [Nat.pow_succ, Nat.mod_mul]; rw [Nat.mul_comm (2 ^ k)]; omega
    rw [e1, Nat.add_mod, Nat.mod_mul_mod, ← Nat.add_mod]
    congr 1
    rw [Nat.add_mul, Nat.pow_succ, Nat.mul_comm 2 n, Nat.mul_assoc, Nat.mul_comm 2 (2 ^ k)]; omega
theorem modRef_eq {high lower : Nat} (h1 : high < 18446744073709551616) (h2 : lower < 18446744073709551616) : bitsV lower 64 (bitsV high 64 0) = (high * 18446744073709551616 + lower) % 2305843009213693951 := by
  have h64 : (2 : Nat) ^ 64 = 18446744073709551616 := by decide
  obtain ⟨e1, e2⟩ := bits_eq (x := high) 64 0 (by decide)
  obtain ⟨e3, _⟩ := bits_eq (x := lower) 64 _ e2
  rw [e3, e1, h64, Nat.mod_eq_of_lt h1, Nat.mod_eq_of_lt h2, Nat.zero_mul, Nat.zero_add, Nat.add_mod, Nat.mod_mul_mod, ← Nat.add_mod]
def addModV (a b : Nat) : Nat := (a % 2305843009213693951 + b % 2305843009213693951) % 2305843009213693951
theorem addMod_raw {a b : Nat} (ha : a < 18446744073709551616) (hb : b < 18446744073709551616) : wsum 0 [foldV a, foldV b] = addModV a b := by
  unfold wsum
  simp only [List.foldl_cons, List.foldl_nil]
  obtain ⟨f1, f2⟩ := fold_eq ha
  obtain ⟨g1, g2⟩ := fold_eq hb
  generalize foldV a = fa at *
  generalize foldV b = fb at *
  rw [m64_id (show 0 + fa < 18446744073709551616 by omega)]
  obtain ⟨s1, s2⟩ := fold_eq (show 0 + fa < 18446744073709551616 by omega)
  generalize foldV (0 + fa) = s at *
  rw [m64_id (show s + fb < 18446744073709551616 by omega)]
  obtain ⟨t1, t2⟩ := fold_eq (show s + fb < 18446744073709551616 by omega)
  rw [t1]; unfold addModV; omega
def mulModV (a b : Nat) : Nat := a * b % 2305843009213693951
theorem mulModV_lt (a b : Nat) : mulModV a b < 18446744073709551616 := Nat.lt_trans (Nat.mod_lt _ (by decide)) (by decide)
theorem addModV_lt (a b : Nat) : addModV a b < 2305843009213693951 := Nat.mod_lt _ (by decide)
theorem mulMod_of {a b : Nat} (ha : a < 18446744073709551616) (hb : b < 18446744073709551616) : ((mulRef a b).1 * 18446744073709551616 + (mulRef a b).2) % 2305843009213693951 = mulModV a b := by
  obtain ⟨h1, h2⟩ := mul_eq ha hb
  rw [h1, h2, Nat.div_add_mod']; rfl
theorem mulRef_lt (a b : Nat) : (mulRef a b).1 < 18446744073709551616 ∧ (mulRef a b).2 < 18446744073709551616 := ⟨m64_lt _, m64_lt _⟩
end Go.Sk
end

-- W2
section
namespace Go.Sk
open Go Go.Proofs

theorem wide_fold (n : Nat) : Pure Tryz.prog 97 [u64 n] (u64 (foldV n)) := fun S => by
  refine callR_of Tryz.func97 rfl rfl (xc_ok (bitB 517) _ _ _ ?_)
  simp only [go_sem]
  (first | refine dec_split (fun hc => ?_) (fun hc => ?_) | refine gdd_split (fun hc => ?_) (fun hc => ?_) | refine bool_split (fun hc => ?_) (fun hc => ?_) | refine gd_split (fun hc => ?_) (fun hc => ?_)) <;> simp only [go_sem]
  · (refine ⟨S, by (repeat (first | exact Sub.refl _ | refine Sub.setF ?_ (by first | assumption | simp only [*]) | refine Sub.setV ?_ (by first | assumption | simp only [*]))), ?_⟩); simp [foldV, hc]
  · (refine ⟨S, by (repeat (first | exact Sub.refl _ | refine Sub.setF ?_ (by first | assumption | simp only [*]) | refine Sub.setV ?_ (by first | assumption | simp only [*]))), ?_⟩); simp [foldV, hc]

theorem wide_sum (l : List Nat) (hl : l.length < 4611686018427387904) : Pure Tryz.prog 96 [.p (.sl (l.map nE))] (u64 (wsum 0 l)) := fun S => by
  refine callR_of Tryz.func96 rfl rfl (xc_ok (bitB 1005) _ _ _ ?_)
  simp only [go_sem]
  refine AWP.iter (fun i => ⟨Env.get [(3, u64 (wsum 0 (l.take i))), (6, .p (.sl (l.map nE))), (7, i64 l.length), (8, i64 i)], S, 18, []⟩) l.length ?_ ?_ ?_
  · exact le_of (by simp only [go_sem]; simp [wsum]) (Sub.refl _) rfl rfl (by simp)
  · intro i hi ih
    refine AWPH.step (xc_ok (bitB 1005) _ _ _ ?_)
    simp only [go_sem, hi, ltN' hi, getD_map' _ _ _ _ hi, nE]
    refine (wide_fold _).useA ?_
    simp only [go_sem]
    refine ih.back (by (repeat (first | exact Sub.refl _ | refine Sub.setF ?_ (by first | assumption | simp only [*]) | refine Sub.setV ?_ (by first | assumption | simp only [*])))) (by simp) ?_
    simp only [go_sem, wi_succ (show i < 4611686018427387904 by omega), wsum, List.take_succ_eq_append_getElem hi, List.foldl_append, List.foldl_cons, List.foldl_nil]
  · refine AWPH.step (xc_ok (bitB 1005) _ _ _ ?_)
    simp only [go_sem, List.take_length]
    (refine ⟨S, by (repeat (first | exact Sub.refl _ | refine Sub.setF ?_ (by first | assumption | simp only [*]) | refine Sub.setV ?_ (by first | assumption | simp only [*]))), ?_⟩); simp

theorem wide_AddMod (a b : Nat) (ha : a < 18446744073709551616) (hb : b < 18446744073709551616) : Pure Tryz.prog 75 [u64 a, u64 b] (u64 (addModV a b)) := fun S => by
  refine callR_of Tryz.func75 rfl rfl (xc_ok (bitB 19) _ _ _ ?_)
  simp only [go_sem]
  refine (wide_fold _).useA ?_
  simp only [go_sem]
  refine (wide_fold _).useA ?_
  simp only [go_sem]
  refine (wide_sum [foldV a, foldV b] (by simp)).useA ?_
  simp only [go_sem]
  (refine ⟨S, by (repeat (first | exact Sub.refl _ | refine Sub.setF ?_ (by first | assumption | simp only [*]) | refine Sub.setV ?_ (by first | assumption | simp only [*]))), ?_⟩); simp [addMod_raw ha hb]

theorem wide_Mod (a b : Nat) (ha : a < 18446744073709551616) (hb : b < 18446744073709551616) : Pure Tryz.prog 98 [u64 a, u64 b] (u64 ((a * 18446744073709551616 + b) % 2305843009213693951)) := fun S => by
  refine callR_of Tryz.func98 rfl rfl (xc_ok (bitB 115) _ _ _ ?_)
  simp only [go_sem]
  refine (wide_fold _).useA ?_
  simp only [go_sem]
  refine (wide_fold _).useA ?_
  simp only [go_sem]
  refine (wide_sum [foldV (a / 288230376151711744), foldV (or64 (and64 (m64 (a * 8)) 2305843009213693951) (b / 2305843009213693952)), and64 b 2305843009213693951] (by simp)).useA ?_
  simp only [go_sem]
  have e := mod_eq ha hb
  unfold modRaw at e
  (refine ⟨S, by (repeat (first | exact Sub.refl _ | refine Sub.setF ?_ (by first | assumption | simp only [*]) | refine Sub.setV ?_ (by first | assumption | simp only [*]))), ?_⟩); simp [e]

theorem wide_part {S : Store} {b1 b2 : Nat} (a b x y : Nat) (h1 : S (.r b1) = some (.cells [u64 a])) (h2 : S (.r b2) = some (.cells [u64 b])) :
    CallR Tryz.prog 116 [u64 x, u64 y, .sp b1 0, .sp b2 0] S (fun r S' => r = u64 (mulPart a b x y) ∧ S' = S) := by
  refine callR_of Tryz.func116 rfl rfl (xc_ok (bitB 79) _ _ _ ?_)
  simp only [go_sem, h1, h2]
  (refine ⟨S, by (repeat (first | exact Sub.refl _ | refine Sub.setF ?_ (by first | assumption | simp only [*]) | refine Sub.setV ?_ (by first | assumption | simp only [*]))), ?_⟩); simp [mulPart]

theorem wide_Mul (a b : Nat) (ha : a < 18446744073709551616) (hb : b < 18446744073709551616) : Pure Tryz.prog 99 [u64 a, u64 b] (.tuple [u64 (mulRef a b).1, u64 (mulRef a b).2]) := fun S => by
  refine callR_of Tryz.func99 rfl rfl (xc_ok (bitB 1023) _ _ _ ?_)
  simp only [go_sem]
  refine alloc_intro fun b1 hb1 => ?_
  simp only [go_sem]
  refine alloc_intro fun b2 hb2 => ?_
  simp only [fresh_set] at hb2
  have e1 : ((S.set (.r b1) (.cells [u64 a])).set (.r b2) (.cells [u64 b])) (.r b1) = some (.cells [u64 a]) := by simp only [go_sem, hb2]
  have e2 : ((S.set (.r b1) (.cells [u64 a])).set (.r b2) (.cells [u64 b])) (.r b2) = some (.cells [u64 b]) := by simp only [go_sem, hb2]
  simp only [go_sem, hb2]
  have part := fun x y => wide_part (S := (S.set (.r b1) (.cells [u64 a])).set (.r b2) (.cells [u64 b])) a b x y e1 e2
  refine (part 0 0).useA ?_
  rintro _ _ ⟨rfl, rfl⟩
  simp only [go_sem]
  refine (part 1 0).useA ?_
  rintro _ _ ⟨rfl, rfl⟩
  simp only [go_sem]
  refine (part 0 1).useA ?_
  rintro _ _ ⟨rfl, rfl⟩
  simp only [go_sem]
  refine (part 1 1).useA ?_
  rintro _ _ ⟨rfl, rfl⟩
  simp only [go_sem]
  have e := mulRaw_eq ha hb
  rw [← e]
  refine ⟨S, ((Sub.refl S).setF hb1).setF hb2.2, ?_⟩
  simp [mulRaw]

theorem wide_MulMod (a b : Nat) (ha : a < 18446744073709551616) (hb : b < 18446744073709551616) : Pure Tryz.prog 76 [u64 a, u64 b] (u64 (mulModV a b)) := fun S => by
  refine callR_of Tryz.func76 rfl rfl (xc_ok (bitB 19) _ _ _ ?_)
  simp only [go_sem]
  refine (wide_Mul _ _ ha hb).useA ?_
  simp only [go_sem]
  refine (wide_Mod _ _ (mulRef_lt a b).1 (mulRef_lt a b).2).useA ?_
  simp only [go_sem]
  (refine ⟨S, by (repeat (first | exact Sub.refl _ | refine Sub.setF ?_ (by first | assumption | simp only [*]) | refine Sub.setV ?_ (by first | assumption | simp only [*]))), ?_⟩); simp [mulMod_of ha hb]

set_option maxRecDepth 4000 in
theorem ref03_Mul (a b : Nat) : Pure Tryz.prog 117 [u64 a, u64 b] (.tuple [u64 (mulRef a b).1, u64 (mulRef a b).2]) := fun S => by
  refine callR_of Tryz.func117 rfl rfl (xc_ok (bitB 16371) _ _ _ ?_)
  simp only [go_sem]
  repeat refine ⟨by decide, ?_⟩
  (refine ⟨S, by (repeat (first | exact Sub.refl _ | refine Sub.setF ?_ (by first | assumption | simp only [*]) | refine Sub.setV ?_ (by first | assumption | simp only [*]))), ?_⟩); simp [mulRef]

theorem ref03_double (a b : Nat) : Pure Tryz.prog 130 [u64 a, u64 b] (u64 (doubleV a b)) := fun S => by
  refine callR_of Tryz.func130 rfl rfl (xc_ok (bitB 19) _ _ _ ?_)
  simp only [go_sem]
  (refine ⟨S, by (repeat (first | exact Sub.refl _ | refine Sub.setF ?_ (by first | assumption | simp only [*]) | refine Sub.setV ?_ (by first | assumption | simp only [*]))), ?_⟩); simp [doubleV]

theorem ref03_AddMod (a b : Nat) : Pure Tryz.prog 100 [u64 a, u64 b] (u64 (addModV a b)) := fun S => by
  refine callR_of Tryz.func100 rfl rfl (xc_ok (bitB 19) _ _ _ ?_)
  simp only [go_sem]
  have e : m64 (a % 2305843009213693951 + b % 2305843009213693951) = a % 2305843009213693951 + b % 2305843009213693951 := m64_id (by omega)
  (refine ⟨S, by (repeat (first | exact Sub.refl _ | refine Sub.setF ?_ (by first | assumption | simp only [*]) | refine Sub.setV ?_ (by first | assumption | simp only [*]))), ?_⟩); simp [addModV, e]

theorem bitsV_step (x k n : Nat) : bitsV x (k + 1) n = bitsV x k (doubleV n (x / 2 ^ k % 2)) := rfl
theorem bitsV_zero (x n : Nat) : bitsV x 0 n = n := rfl

/-- What is left when the first bits are through. -/
noncomputable def bitsD (x n : Nat) : Nat → Nat
  | 0 => n
  | i + 1 => doubleV (bitsD x n i) (x / 2 ^ (63 - i) % 2)
theorem bitsD_eq (x n : Nat) : bitsD x n 64 = bitsV x 64 n := by
  simp only [bitsD, bitsV, Nat.reduceSub]

theorem ref03_Mod (a b : Nat) (ha : a < 18446744073709551616) (hb : b < 18446744073709551616) : Pure Tryz.prog 118 [u64 a, u64 b] (u64 ((a * 18446744073709551616 + b) % 2305843009213693951)) := fun S => by
  refine callR_of Tryz.func118 rfl rfl (xc_ok (bitB 525043) _ _ _ ?_)
  simp only [go_sem]
  refine AWP.iter (fun i => ⟨Env.get [(0, u64 a), (1, u64 b), (5, u64 (bitsD a 0 i)), (6, i64 (63 - i))], S, 29, []⟩) 64 ?_ ?_ ?_
  · exact le_of (by simp only [go_sem]; simp [bitsD]) (Sub.refl _) rfl rfl (by simp)
  · intro i hi ih
    refine AWPH.step (xc_ok (bitB 525043) _ _ _ ?_)
    have e0 : decide ((63 : Int) - i ≥ 0) = true := by simp; omega
    have e1 : min ((63 : Int) - i).toNat 64 = 63 - i := by omega
    simp only [go_sem, e0, e1]
    refine ⟨by omega, (ref03_double _ _).useA ?_⟩
    simp only [go_sem]
    refine ih.back (by (repeat (first | exact Sub.refl _ | refine Sub.setF ?_ (by first | assumption | simp only [*]) | refine Sub.setV ?_ (by first | assumption | simp only [*])))) (by simp) ?_
    simp only [go_sem, bitsD]
    rw [wi_id (by omega) (by omega)]; congr 2; omega
  · refine AWPH.step (xc_ok (bitB 525043) _ _ _ ?_)
    have e0 : decide ((63 : Int) - (64 : Nat) ≥ 0) = false := by decide
    simp only [go_sem, e0]
    refine AWP.iter (fun i => ⟨Env.get [(0, u64 a), (1, u64 b), (5, u64 (bitsD b (bitsD a 0 64) i)), (7, i64 (63 - i))], S, 29, []⟩) 64 ?_ ?_ ?_
    · exact le_of (by simp only [go_sem]; simp [bitsD]) (Sub.refl _) rfl rfl (by simp)
    · intro i hi ih
      refine AWPH.step (xc_ok (bitB 525043) _ _ _ ?_)
      have e0 : decide ((63 : Int) - i ≥ 0) = true := by simp; omega
      have e1 : min ((63 : Int) - i).toNat 64 = 63 - i := by omega
      simp only [go_sem, e0, e1]
      refine ⟨by omega, (ref03_double _ _).useA ?_⟩
      simp only [go_sem]
      refine ih.back (by (repeat (first | exact Sub.refl _ | refine Sub.setF ?_ (by first | assumption | simp only [*]) | refine Sub.setV ?_ (by first | assumption | simp only [*])))) (by simp) ?_
      simp only [go_sem, bitsD]
      rw [wi_id (by omega) (by omega)]; congr 2; omega
    · refine AWPH.step (xc_ok (bitB 525043) _ _ _ ?_)
      simp only [go_sem, e0]
      (refine ⟨S, by (repeat (first | exact Sub.refl _ | refine Sub.setF ?_ (by first | assumption | simp only [*]) | refine Sub.setV ?_ (by first | assumption | simp only [*]))), ?_⟩)
      rw [bitsD_eq, bitsD_eq, modRef_eq ha hb]; simp

theorem ref03_MulMod (a b : Nat) (ha : a < 18446744073709551616) (hb : b < 18446744073709551616) : Pure Tryz.prog 101 [u64 a, u64 b] (u64 (mulModV a b)) := fun S => by
  refine callR_of Tryz.func101 rfl rfl (xc_ok (bitB 115) _ _ _ ?_)
  simp only [go_sem]
  refine (ref03_Mul _ _).useA ?_
  simp only [go_sem]
  refine (ref03_Mod _ _ (mulRef_lt a b).1 (mulRef_lt a b).2).useA ?_
  simp only [go_sem]
  (refine ⟨S, by (repeat (first | exact Sub.refl _ | refine Sub.setF ?_ (by first | assumption | simp only [*]) | refine Sub.setV ?_ (by first | assumption | simp only [*]))), ?_⟩); simp [mulMod_of ha hb]

/-! Keys, seeds, columns. -/
theorem hash_Key (x : Nat) : Pure Tryz.prog 22 [u64 x] (bl (decide (x < 2305843009213693951))) := fun S => by
  refine callR_of Tryz.func22 rfl rfl (xc_ok (bitB 5) _ _ _ ?_)
  simp only [go_sem]
  (refine ⟨S, by (repeat (first | exact Sub.refl _ | refine Sub.setF ?_ (by first | assumption | simp only [*]) | refine Sub.setV ?_ (by first | assumption | simp only [*]))), ?_⟩); simp
theorem ref04_Key (x : Nat) : Pure Tryz.prog 47 [u64 x] (bl (decide (x < 2305843009213693951))) := fun S => by
  refine callR_of Tryz.func47 rfl rfl (xc_ok (bitB 5) _ _ _ ?_)
  simp only [go_sem]
  (refine ⟨S, by (repeat (first | exact Sub.refl _ | refine Sub.setF ?_ (by first | assumption | simp only [*]) | refine Sub.setV ?_ (by first | assumption | simp only [*]))), ?_⟩); simp

def Seed.may (s : Seed) : Bool := decide (0 < s.a) && decide (s.a < 2305843009213693951) && decide (s.b < 2305843009213693951)
theorem hash_May (s : Seed) : Pure Tryz.prog 35 [s.av] (bl s.may) := fun S => by
  refine callR_of Tryz.func35 rfl rfl (xc_ok (bitB 15) _ _ _ ?_)
  simp only [go_sem]
  refine alloc_intro fun b hb => ?_
  simp only [go_sem]
  repeat refine ⟨by decide, ?_⟩
  refine alloc_intro fun b' hb' => ?_
  simp only [fresh_set] at hb'
  simp only [go_sem, hb']
  (first | refine dec_split (fun h => ?_) (fun h => ?_) | refine gdd_split (fun h => ?_) (fun h => ?_) | refine bool_split (fun h => ?_) (fun h => ?_) | refine gd_split (fun h => ?_) (fun h => ?_)) <;> simp only [go_sem, hb']
  · have h1 : s.a < 2305843009213693951 ∧ s.b < 2305843009213693951 := by simp at h; omega
    (refine ⟨S, by (repeat (first | exact Sub.refl _ | refine Sub.setF ?_ (by first | assumption | simp only [*]) | refine Sub.setV ?_ (by first | assumption | simp only [*]))), ?_⟩); simp [Seed.may, h1]
  · have h1 : s.may = false := by
      unfold Seed.may
      rw [Bool.eq_false_iff]
      intro hm
      simp only [Bool.and_eq_true, decide_eq_true_eq] at hm
      rw [Bool.eq_false_iff] at h
      apply h
      simp; omega
    (refine ⟨S, by (repeat (first | exact Sub.refl _ | refine Sub.setF ?_ (by first | assumption | simp only [*]) | refine Sub.setV ?_ (by first | assumption | simp only [*]))), ?_⟩); simp [h1]
theorem ref04_May (s : Seed) : Pure Tryz.prog 82 [s.av] (bl s.may) := fun S => by
  refine callR_of Tryz.func82 rfl rfl (xc_ok (bitB 7) _ _ _ ?_)
  simp only [go_sem]
  refine alloc_intro fun b hb => ?_
  simp only [go_sem]
  (first | refine dec_split (fun h1 => ?_) (fun h1 => ?_) | refine gdd_split (fun h1 => ?_) (fun h1 => ?_) | refine bool_split (fun h1 => ?_) (fun h1 => ?_) | refine gd_split (fun h1 => ?_) (fun h1 => ?_)) <;> simp only [go_sem]
  · (first | refine dec_split (fun h2 => ?_) (fun h2 => ?_) | refine gdd_split (fun h2 => ?_) (fun h2 => ?_) | refine bool_split (fun h2 => ?_) (fun h2 => ?_) | refine gd_split (fun h2 => ?_) (fun h2 => ?_)) <;> simp only [go_sem]
    · (refine ⟨S, by (repeat (first | exact Sub.refl _ | refine Sub.setF ?_ (by first | assumption | simp only [*]) | refine Sub.setV ?_ (by first | assumption | simp only [*]))), ?_⟩); simp [Seed.may, h2, show 0 < s.a by omega]
    · (refine ⟨S, by (repeat (first | exact Sub.refl _ | refine Sub.setF ?_ (by first | assumption | simp only [*]) | refine Sub.setV ?_ (by first | assumption | simp only [*]))), ?_⟩); simp [Seed.may, h2]
  · (refine ⟨S, by (repeat (first | exact Sub.refl _ | refine Sub.setF ?_ (by first | assumption | simp only [*]) | refine Sub.setV ?_ (by first | assumption | simp only [*]))), ?_⟩); simp [Seed.may, show ¬ 0 < s.a by omega]

structure Seed.Ok (s : Seed) : Prop where
  a : s.a < 18446744073709551616
  b : s.b < 18446744073709551616
def restV (s : Seed) (x : Nat) : Nat := addModV (mulModV s.a x) s.b
def colV (s : Seed) (x : Nat) (w : Int) : Int := if w < 1 ∨ s.may = false ∨ ¬ x < 2305843009213693951 then 0 else ((restV s x % w.toNat : Nat) : Int)

theorem ref04_Rest (s : Seed) (x : Nat) (hs : s.Ok) (hx : x < 18446744073709551616) : Pure Tryz.prog 83 [s.av, u64 x] (u64 (restV s x)) := fun S => by
  refine callR_of Tryz.func83 rfl rfl (xc_ok (bitB 23) _ _ _ ?_)
  simp only [go_sem]
  refine alloc_intro fun b hb => ?_
  simp only [go_sem]
  refine AWP.draw2 (bitB 23) mixed (by kernel_rfl) (fun i => if i = 3 then u64 (mulModV s.a x) else u64 (restV s x)) ?_
  simp only [go_sem]
  refine ⟨(ref03_MulMod _ _ hs.a hx).draw, (ref03_AddMod _ _).draw, ?_⟩
  (refine ⟨S, by (repeat (first | exact Sub.refl _ | refine Sub.setF ?_ (by first | assumption | simp only [*]) | refine Sub.setV ?_ (by first | assumption | simp only [*]))), ?_⟩); simp

theorem restV_lt (s : Seed) (x : Nat) : restV s x < 2305843009213693951 := addModV_lt _ _

theorem ref04_Column (s : Seed) (x : Nat) (w : Int) (hs : s.Ok) (hx : x < 18446744073709551616) (hw : w < 9223372036854775808) : Pure Tryz.prog 49 [s.av, u64 x, i64 w] (i64 (colV s x w)) := fun S => by
  refine callR_of Tryz.func49 rfl rfl (xc_ok (bitB 262223) _ _ _ ?_)
  simp only [go_sem]
  refine alloc_intro fun b hb => ?_
  by_cases h1 : w < 1
  · simp only [go_sem, h1]
    (refine ⟨S, by (repeat (first | exact Sub.refl _ | refine Sub.setF ?_ (by first | assumption | simp only [*]) | refine Sub.setV ?_ (by first | assumption | simp only [*]))), ?_⟩); simp [colV, h1]
  · obtain ⟨n, rfl⟩ : ∃ n : Nat, w = n := ⟨w.toNat, by omega⟩
    simp only [go_sem, h1]
    refine (ref04_May s).useA ?_
    cases h2 : s.may
    · simp only [go_sem]
      (refine ⟨S, by (repeat (first | exact Sub.refl _ | refine Sub.setF ?_ (by first | assumption | simp only [*]) | refine Sub.setV ?_ (by first | assumption | simp only [*]))), ?_⟩); simp [colV, h1, h2]
    · simp only [go_sem]
      refine (ref04_Key x).useA ?_
      by_cases h3 : x < 2305843009213693951
      · simp only [go_sem, h3]
        refine (ref04_Rest s x hs hx).useA ?_
        simp only [go_sem]
        have e1 : m64 n = n := m64_id (by omega)
        have e2 : restV s x % n < 9223372036854775808 := Nat.lt_trans (Nat.lt_of_le_of_lt (Nat.mod_le _ _) (restV_lt s x)) (by decide)
        rw [e1, wi_id (by omega) (by omega)]
        refine ⟨by omega, ?_⟩
        (refine ⟨S, by (repeat (first | exact Sub.refl _ | refine Sub.setF ?_ (by first | assumption | simp only [*]) | refine Sub.setV ?_ (by first | assumption | simp only [*]))), ?_⟩); simp [colV, h1, h2, h3]
      · simp only [go_sem, h3]
        (refine ⟨S, by (repeat (first | exact Sub.refl _ | refine Sub.setF ?_ (by first | assumption | simp only [*]) | refine Sub.setV ?_ (by first | assumption | simp only [*]))), ?_⟩); simp [colV, h3]

theorem hash_Column (s : Seed) (x : Nat) (w : Int) (hs : s.Ok) (hx : x < 18446744073709551616) (hw : w < 9223372036854775808) : Pure Tryz.prog 42 [s.av, u64 x, i64 w] (i64 (colV s x w)) := fun S => by
  refine callR_of Tryz.func42 rfl rfl (xc_ok (bitB 262223) _ _ _ ?_)
  simp only [go_sem]
  refine alloc_intro fun b hb => ?_
  by_cases h1 : w < 1
  · simp only [go_sem, h1]
    (refine ⟨S, by (repeat (first | exact Sub.refl _ | refine Sub.setF ?_ (by first | assumption | simp only [*]) | refine Sub.setV ?_ (by first | assumption | simp only [*]))), ?_⟩); simp [colV, h1]
  · obtain ⟨n, rfl⟩ : ∃ n : Nat, w = n := ⟨w.toNat, by omega⟩
    simp only [go_sem, h1]
    refine (hash_May s).useA ?_
    cases h2 : s.may
    · simp only [go_sem]
      (refine ⟨S, by (repeat (first | exact Sub.refl _ | refine Sub.setF ?_ (by first | assumption | simp only [*]) | refine Sub.setV ?_ (by first | assumption | simp only [*]))), ?_⟩); simp [colV, h1, h2]
    · simp only [go_sem]
      refine (hash_Key x).useA ?_
      by_cases h3 : x < 2305843009213693951
      · simp only [go_sem, h3]
        refine AWP.draw2 (bitB 262223) mixed (by kernel_rfl) (fun i => if i = 3 then u64 (mulModV s.a x) else u64 (restV s x)) ?_
        simp only [go_sem]
        have e1 : m64 n = n := m64_id (by omega)
        have e2 : restV s x % n < 9223372036854775808 := Nat.lt_trans (Nat.lt_of_le_of_lt (Nat.mod_le _ _) (restV_lt s x)) (by decide)
        rw [e1, wi_id (by omega) (by omega)]
        refine ⟨(wide_MulMod _ _ hs.a hx).draw, (wide_AddMod _ _ (mulModV_lt _ _) hs.b).draw, by omega, ?_⟩
        (refine ⟨S, by (repeat (first | exact Sub.refl _ | refine Sub.setF ?_ (by first | assumption | simp only [*]) | refine Sub.setV ?_ (by first | assumption | simp only [*]))), ?_⟩); simp [colV, h1, h2, h3]
      · simp only [go_sem, h3]
        (refine ⟨S, by (repeat (first | exact Sub.refl _ | refine Sub.setF ?_ (by first | assumption | simp only [*]) | refine Sub.setV ?_ (by first | assumption | simp only [*]))), ?_⟩); simp [colV, h3]
end Go.Sk
end

-- W4c
section
namespace Go.Sk
open Go Go.Proofs

def colE (c : Int) : List PV := [.int .i64 c]
def colsL (sd : List Seed) (x : Nat) (w : Int) : List Int := sd.map fun s => colV s x w
def itemsI (l : List Int) : Nat → List AV := fun k => [i64 (l.getD k 0)]
theorem seed_len {l : List Seed} : ∀ el ∈ l.map Seed.pv, el.length = 2 := by
  intro el h; obtain ⟨x, _, rfl⟩ := List.mem_map.1 h; rfl
theorem col_len {l : List Int} : ∀ el ∈ l.map colE, el.length = 1 := by
  intro el h; obtain ⟨x, _, rfl⟩ := List.mem_map.1 h; rfl

set_option maxRecDepth 4000 in
theorem hash_columns1 (sd : List Seed) (x : Nat) (w : Int) (hn : sd.length < 1099511627776) (hs : ∀ s ∈ sd, s.Ok) (hx : x < 18446744073709551616) (hw : w < 9223372036854775808) {T0 : Store} {b1 b2 b3 : Nat}
    (h1 : T0 (.r b1) = some (.cells [.p (.sl (sd.map Seed.pv))])) (h2 : T0 (.r b2) = some (.cells [u64 x])) (h3 : T0 (.r b3) = some (.cells [i64 w])) :
    SeqR Tryz.prog 93 [] [.sp b1 0, .sp b2 0, .sp b3 0] T0 (colsL sd x w).length (itemsI (colsL sd x w)) := by
  intro l J Jx hy E hd h0
  simp only [List.nil_append, List.singleton_append]
  have hlen : (colsL sd x w).length = sd.length := by simp [colsL]
  rw [hlen] at hy ⊢
  refine callR_of Tryz.func93 rfl rfl (xc_ok (bitB 526287) _ _ _ ?_)
  simp only [go_sem, h1]
  refine AWP.roam (ι := Nat × Store) (fun y => y.1 ≤ sd.length ∧ Disj T0 y.2 ∧ J y.1 y.2)
    (fun y => ⟨Env.get [(0, .fn (.yield l) [] []), (1, .sp b1 0), (2, .sp b2 0), (3, .sp b3 0), (7, .p (.sl (sd.map Seed.pv))), (8, i64 sd.length), (9, i64 y.1)], Store.join y.2 T0, 21, []⟩) (fun y => sd.length - y.1) (0, E) ⟨by simp, hd, h0⟩ ?_ ?_
  · exact le_of (by simp only [go_sem] <;> rfl) (Sub.refl _) rfl rfl (by simp)
  · rintro ⟨i, E⟩ ⟨hi, hd, hJ⟩ ih
    dsimp only at hi hd hJ ⊢
    refine AWPH.step (xc_ok (bitB 526287) _ _ _ ?_)
    by_cases c : i < sd.length
    rotate_left
    · obtain rfl : i = sd.length := by omega
      simp only [go_sem]
      exact ⟨_, Sub.refl _, Or.inl ⟨E, rfl, hd, Or.inl hJ⟩⟩
    have hq : wi ((i : Int) + 1) = ((i + 1 : Nat) : Int) := wi_succ (show i < 4611686018427387904 by omega)
    simp only [go_sem, c, ltN' c, getD_map' _ _ _ _ c]
    refine alloc_intro fun d hfd => ?_
    have hfd' := join_none hfd
    have n1 : ¬ b1 = d ∧ ¬ d = b1 := by constructor <;> rintro rfl <;> (have := hfd'.2; rw [h1] at this; cases this)
    have n2 : ¬ b2 = d ∧ ¬ d = b2 := by constructor <;> rintro rfl <;> (have := hfd'.2; rw [h2] at this; cases this)
    have n3 : ¬ b3 = d ∧ ¬ d = b3 := by constructor <;> rintro rfl <;> (have := hfd'.2; rw [h3] at this; cases this)
    simp only [go_sem, h1, h2, h3, n1, n2, n3]
    refine (hash_Column sd[i] x w (hs _ (List.getElem_mem c)) hx hw).useA ?_
    simp only [go_sem]
    have hyi := hy i c E (T0.set (.r d) (.cells [u64 (sd[i]).a, u64 (sd[i]).b])) ((Sub.refl T0).set hfd'.2 _) (hd.setT hfd'.1 _) hJ
    have hgi : (colsL sd x w).getD i 0 = colV sd[i] x w := by simp [colsL, List.getD_eq_getElem?_getD, c]
    simp only [itemsI, hgi] at hyi
    rw [← join_set] at hyi
    refine hyi.useA rfl ?_
    rintro r S' ⟨E', rfl, hd2, ⟨rfl, hJ2⟩ | ⟨rfl, hJ2⟩⟩
    · obtain ⟨hd3, hed⟩ := hd2.unsetT hfd'.2
      simp only [go_sem]
      refine (ih (i + 1, E') ⟨c, hd3, hJ2⟩ (by dsimp only; clear n1 n2 n3; omega)).back (sub_join_set hfd'.2 hed) (by simp) ?_
      simp only [go_sem, hq]
    · obtain ⟨hd3, hed⟩ := hd2.unsetT hfd'.2
      simp only [go_sem]
      exact ⟨_, sub_join_set hfd'.2 hed, Or.inl ⟨E', rfl, hd3, Or.inr hJ2⟩⟩

theorem hash_columns (sd : List Seed) (x : Nat) (w : Int) (S : Store) : CallR Tryz.prog 71 [.p (.sl (sd.map Seed.pv)), u64 x, i64 w] S
    (fun r S' => ∃ b1 b2 b3, Fresh S b1 ∧ Fresh S b2 ∧ Fresh S b3 ∧ ((¬ b2 = b1 ∧ ¬ b1 = b2) ∧ (¬ b3 = b2 ∧ ¬ b2 = b3) ∧ (¬ b3 = b1 ∧ ¬ b1 = b3)) ∧ r = .fn (.func 93) [] [.sp b1 0, .sp b2 0, .sp b3 0] ∧
      S' = ((S.set (.r b1) (.cells [.p (.sl (sd.map Seed.pv))])).set (.r b2) (.cells [u64 x])).set (.r b3) (.cells [i64 w])) := by
  refine callR_of Tryz.func71 rfl rfl (xc_ok (bitB 127) _ _ _ ?_)
  simp only [go_sem]
  refine alloc_intro fun b1 h1 => ?_
  simp only [go_sem]
  refine alloc_intro fun b2 h2 => ?_
  simp only [fresh_set] at h2
  simp only [go_sem, h2]
  refine alloc_intro fun b3 h3 => ?_
  simp only [fresh_set] at h3
  simp only [go_sem, h2, h3]
  exact ⟨_, Sub.refl _, Or.inl ⟨b1, b2, b3, h1, h2.2, h3.2.2, ⟨h2.1, h3.1, h3.2.1⟩, rfl, rfl⟩⟩

set_option maxHeartbeats 1000000 in
set_option maxRecDepth 4000 in
theorem hash_Columns (sd : List Seed) (x : Nat) (w : Int) (hn : sd.length < 1099511627776) (hs : ∀ s ∈ sd, s.Ok) (hx : x < 18446744073709551616) (hw : w < 9223372036854775808) :
    Pure Tryz.prog 39 [.p (.sl (sd.map Seed.pv)), u64 x, i64 w] (.p (.sl ((colsL sd x w).map colE))) := fun S => by
  refine callR_of Tryz.func39 rfl rfl (xc_ok (bitB 12743) _ _ _ ?_)
  simp only [go_sem]
  refine alloc_intro fun c7 h7 => ?_
  simp only [go_sem]
  refine (hash_columns sd x w _).useA ?_
  rintro _ _ ⟨b1, b2, b3, f1, f2, f3, hne, rfl, rfl⟩
  simp only [fresh_set] at f1 f2 f3
  simp only [go_sem, f1, f2, f3, hne]
  refine AWP.tipB c7 0 1 (cs := [.nils]) (by simp only [go_sem, f1, f2, f3, hne]) rfl fun kk hkk => ?_
  simp only [freshv_setr] at hkk
  simp only [List.set]
  have hseq := hash_columns1 sd x w hn hs hx hw (T0 := ((eS.set (.r b1) (.cells [.p (.sl (sd.map Seed.pv))])).set (.r b2) (.cells [u64 x])).set (.r b3) (.cells [i64 w])) (b1 := b1) (b2 := b2) (b3 := b3) (by simp only [go_sem, hne]) (by simp only [go_sem, hne]) (by simp only [go_sem, hne])
  have hcl : (colsL sd x w).length = sd.length := by simp [colsL]
  obtain ⟨L, hL⟩ : ∃ L, colsL sd x w = L := ⟨_, rfl⟩
  rw [hL] at hseq hcl ⊢
  have g1 : S (.r b1) = none := f1.2
  have g2 : S (.r b2) = none := f2.2
  have g3 : S (.r b3) = none := f3.2
  have g7 : S (.r c7) = none := h7
  refine AWP.rangeE (ι := Option Nat) (f := 93) (first := []) (caps := [.sp b1 0, .sp b2 0, .sp b3 0]) (by simp only [go_sem]) _
    (fun j loc => (S.set (.r c7) (.cells [.ts kk 1 loc ((L.take j).map colE)])).set (.v kk) (.tip 1 (L.take j).length loc)) none
    ?_ ?_ hseq (enterable_of Tryz.func93 rfl rfl) (fun _ _ => False) (fun _ _ => rfl) (by simp) ?_ ?_ ?_
  · refine sub_joinT (sub_joinT (sub_joinT (sub_join0 ?_) ?_ ?_) ?_ ?_) ?_ ?_
    · ((try dsimp only); (repeat refine sub_set ?_ ?_) <;> first | ((repeat (first | exact Sub.refl _ | refine Sub.setF ?_ (by first | assumption | simp only [*]) | refine Sub.setV ?_ (by first | assumption | simp only [*]))); done) | (simp only [go_sem, f1, f2, f3, hne, hkk, List.take_zero, List.map_nil, List.length_nil]; done) | (simp only [go_sem, f1, f2, f3, hne, hkk, List.take_zero, List.map_nil, List.length_nil]; rfl) | rfl)
    all_goals simp only [go_sem, f1, f2, f3, hne, hkk, g1, g2, g3]
  · refine (((Disj.nil _).setT ?_ _).setT ?_ _).setT ?_ _
    all_goals simp only [go_sem, f1, f2, f3, hne, hkk, g1, g2, g3]
  · intro j loc l hj T hT hdT
    refine xc_ok (bitB 12743) _ _ _ ?_
    simp only [go_sem, itemsI]
    refine ⟨_, Sub.refl _, hdT, fun T' hT' hdT' => ?_⟩
    refine xc_ok (bitB 12743) _ _ _ ?_
    simp only [go_sem, hkk]
    have hle : (List.take j L).length ≤ j := by rw [List.length_take]; exact Nat.min_le_left _ _
    refine ⟨by rintro el rfl; rfl, col_len, (by clear hne f1 f2 f3 hdT hdT'; omega), (by clear hne f1 f2 f3 hdT hdT'; omega), grow_intro fun loc' => ?_⟩
    simp only [go_sem, hkk]
    have e5 : List.map colE (List.take j L) ++ [([.int .i64 (L.getD j 0)] : List PV)] = List.map colE (L.take (j + 1)) := by
      rw [List.take_succ_eq_append_getElem hj, List.map_append]
      simp [List.getD_eq_getElem?_getD, hj, colE]
    have hdq := (hdT'.setE (k := .v kk) (y := .tip 1 (L.take j).length loc) (by simp only [go_sem]) (.tip 1 (List.map colE (List.take j L) ++ [([.int .i64 (L.getD j 0)] : List PV)]).length loc')).setE (k := .r c7) (y := .cells [.ts kk 1 loc ((L.take j).map colE)]) (by simp only [go_sem])
      (.cells [.ts kk 1 loc' (List.map colE (List.take j L) ++ [([.int .i64 (L.getD j 0)] : List PV)])])
    refine ⟨loc', ?_, ?_⟩
    · rw [join_set, join_set]
      refine Sub.joinD ?_ hdq
      ((try dsimp only); (repeat refine sub_set ?_ ?_) <;> first | ((repeat (first | exact Sub.refl _ | refine Sub.setF ?_ (by first | assumption | simp only [*]) | refine Sub.setV ?_ (by first | assumption | simp only [*]))); done) | (simp only [go_sem, hkk, e5, List.length_map, g7]; done) | (simp only [go_sem, hkk, e5, List.length_map, g7]; rfl) | rfl)
    · (intro q; refine (hdT' q).elim (fun e => Or.inl ?_) (fun e => Or.inr e); simp only [set_none_iff] at e ⊢; simp only [e, not_false_eq_true, and_self])
  · intro loc d hd
    have hjd := join_none hd
    have n7 : ¬ c7 = d ∧ ¬ d = c7 := by constructor <;> rintro rfl <;> simp [Store.set] at hjd
    have gd : S (.r d) = none := by have := hjd.2; simpa [Store.set, n7] using this
    simp only [go_sem, List.take_length, hkk, n7]
    refine ⟨S, Sub.set (Sub.joinL (Sub.set (Sub.set (Sub.refl _) g7 _) hkk _)) gd _, fun r hr => hr ▸ gd, by simp⟩
  · intro e E' d _ h; exact h.elim

/-! Seeds. -/
theorem clone_seeds (sd : List Seed) (hn : sd.length < 1099511627776) : Pure Tryz.prog 36 [.p (.sl (sd.map Seed.pv))] (.p (.sl (sd.map Seed.pv))) := fun S => by
  refine callR_of Tryz.func36 rfl rfl (xc_ok (bitB 21) _ _ _ ?_)
  simp only [go_sem]
  refine ⟨fun h => ⟨S, Sub.refl _, by rw [h], rfl⟩, seed_len, by omega, by omega, tip_intro fun k loc hk => ?_⟩
  simp only [go_sem]
  (refine ⟨S, by (repeat (first | exact Sub.refl _ | refine Sub.setF ?_ (by first | assumption | simp only [*]) | refine Sub.setV ?_ (by first | assumption | simp only [*]))), ?_⟩); simp
theorem new1 (s : Seed) : Pure Tryz.prog 34 [s.av] (bl (!s.may)) := fun S => by
  refine callR_of Tryz.func34 rfl rfl (xc_ok (bitB 7) _ _ _ ?_)
  simp only [go_sem]
  refine alloc_intro fun b hb => ?_
  simp only [go_sem]
  refine (hash_May s).useA ?_
  simp only [go_sem]
  (refine ⟨S, by (repeat (first | exact Sub.refl _ | refine Sub.setF ?_ (by first | assumption | simp only [*]) | refine Sub.setV ?_ (by first | assumption | simp only [*]))), ?_⟩); simp

/-- The place of the first odd seed; -1: none. -/
def oddAt (sd : List Seed) : Int := if sd.all Seed.may then -1 else (sd.takeWhile Seed.may).length
theorem tw_step (sd : List Seed) (i : Nat) (hi : i < sd.length) (hall : ∀ j (h : j < i) (h2 : j < sd.length), (sd[j]).may = true) (ho : (sd[i]).may = false) : oddAt sd = (i : Int) := by
  have h1 : sd.all Seed.may = false := by
    rw [Bool.eq_false_iff]; intro h
    have := List.all_eq_true.1 h _ (List.getElem_mem hi)
    rw [ho] at this; cases this
  have h2 : (sd.takeWhile Seed.may).length = i := by
    have e : sd = sd.take i ++ sd[i] :: sd.drop (i + 1) := by rw [← List.drop_eq_getElem_cons hi, List.take_append_drop]
    have h3 : ∀ s ∈ sd.take i, s.may = true := by
      intro s hs
      obtain ⟨j, hj, rfl⟩ := List.getElem_of_mem hs
      rw [List.length_take] at hj
      rw [List.getElem_take]
      exact hall j (by omega) (by omega)
    have : sd.takeWhile Seed.may = sd.take i := by
      conv => lhs; rw [e]
      rw [List.takeWhile_append_of_pos h3, List.takeWhile_cons, ho]; simp
    rw [this, List.length_take]; omega
  unfold oddAt
  rw [h1, h2]; simp
theorem index_odd (sd : List Seed) (hn : sd.length < 1099511627776) : Pure Tryz.prog 69 [.p (.sl (sd.map Seed.pv)), .fn (.func 34) [] []] (i64 (oddAt sd)) := fun S => by
  refine callR_of Tryz.func69 rfl rfl (xc_ok (bitB 66483) _ _ _ ?_)
  simp only [go_sem]
  refine AWP.roam (ι := Nat) (fun i => i ≤ sd.length ∧ ∀ j (h : j < i) (h2 : j < sd.length), (sd[j]).may = true)
    (fun i => ⟨Env.get [(0, .p (.sl (sd.map Seed.pv))), (1, .fn (.func 34) [] []), (7, i64 sd.length), (8, i64 i)], S, 19, []⟩) (fun i => sd.length - i) 0 ⟨by simp, fun j h => by omega⟩ ?_ ?_
  · exact le_of (by simp only [go_sem] <;> rfl) (Sub.refl _) rfl rfl (by simp)
  · rintro i ⟨hi, hall⟩ ih
    refine AWPH.step (xc_ok (bitB 66483) _ _ _ ?_)
    by_cases c : i < sd.length
    · simp only [go_sem, c, ltN' c, getD_map' _ _ _ _ c]
      refine Pure.useF (first := []) (caps := []) (args := [(sd[i]).av]) (a2 := [(sd[i]).av]) (new1 sd[i]) rfl ?_
      cases ho : (sd[i]).may
      · simp only [go_sem, Bool.not_false]
        (refine ⟨S, by (repeat (first | exact Sub.refl _ | refine Sub.setF ?_ (by first | assumption | simp only [*]) | refine Sub.setV ?_ (by first | assumption | simp only [*]))), ?_⟩); simp [tw_step sd i c hall ho]
      · simp only [go_sem, Bool.not_true]
        refine (ih (i + 1) ⟨c, fun j h h2 => ?_⟩ (by omega)).back (by (repeat (first | exact Sub.refl _ | refine Sub.setF ?_ (by first | assumption | simp only [*]) | refine Sub.setV ?_ (by first | assumption | simp only [*])))) (by simp) ?_
        · rcases Nat.lt_or_ge j i with hj | hj
          · exact hall j hj h2
          · obtain rfl : j = i := by omega
            exact ho
        · simp only [go_sem, wi_succ (show i < 4611686018427387904 by omega)]
    · obtain rfl : i = sd.length := by omega
      simp only [go_sem]
      have : sd.all Seed.may = true := List.all_eq_true.2 fun s hs => by
        obtain ⟨j, hj, rfl⟩ := List.getElem_of_mem hs
        exact hall j hj hj
      (refine ⟨S, by (repeat (first | exact Sub.refl _ | refine Sub.setF ?_ (by first | assumption | simp only [*]) | refine Sub.setV ?_ (by first | assumption | simp only [*]))), ?_⟩); simp [oddAt, this]
theorem contains_odd (sd : List Seed) (hn : sd.length < 1099511627776) : Pure Tryz.prog 33 [.p (.sl (sd.map Seed.pv)), .fn (.func 34) [] []] (bl (!sd.all Seed.may)) := fun S => by
  refine callR_of Tryz.func33 rfl rfl (xc_ok (bitB 19) _ _ _ ?_)
  simp only [go_sem]
  refine (index_odd sd hn).useA ?_
  simp only [go_sem]
  have e : decide (oddAt sd ≥ 0) = !sd.all Seed.may := by
    unfold oddAt
    cases sd.all Seed.may <;> simp
  simp only [go_sem, e]
  (refine ⟨S, by (repeat (first | exact Sub.refl _ | refine Sub.setF ?_ (by first | assumption | simp only [*]) | refine Sub.setV ?_ (by first | assumption | simp only [*]))), ?_⟩); simp
end Go.Sk
end

-- W15a
section
namespace Go.Sk
open Go Go.Proofs

def rowP (r : List Hist) : PV := .sl (r.map Hist.cs)
def rowE (r : List Hist) : List PV := [rowP r]
structure Grid where (w : Int) (sd : List Seed) (rows : List (List Hist)) (all : Hist)
  deriving DecidableEq
def Grid.pv (g : Grid) : List PV := [.int .i64 g.w, .sl (g.sd.map Seed.pv), .sl (g.rows.map rowE), .int .i64 g.all.k, .int .i64 g.all.g, .sl (g.all.ls.map lvE)]
def Grid.av (g : Grid) : AV := .agg (g.pv.map .p)
attribute [go_sem] Grid.pv Grid.av
theorem hist_len {l : List Hist} : ∀ el ∈ l.map Hist.cs, el.length = 3 := by
  intro el h; obtain ⟨x, _, rfl⟩ := List.mem_map.1 h; rfl
theorem row_len {l : List (List Hist)} : ∀ el ∈ l.map rowE, el.length = 1 := by
  intro el h; obtain ⟨x, _, rfl⟩ := List.mem_map.1 h; rfl

set_option maxRecDepth 8000 in
theorem bits_Mul64 (x y : Nat) (hx : x < 4294967296) (hy : y < 4294967296) : Pure Tryz.prog 92 [u64 x, u64 y] (.tuple [u64 0, u64 (x * y)]) := fun S => by
  have a1 : and64 x 4294967295 = x := by rw [and64_32 (by omega)]; omega
  have a2 : and64 y 4294967295 = y := by rw [and64_32 (by omega)]; omega
  have b1 : x / 4294967296 = 0 := by omega
  have b2 : y / 4294967296 = 0 := by omega
  have hxy : x * y ≤ 4294967295 * 4294967295 := Nat.mul_le_mul (by omega) (by omega)
  have c1 : m64 (x * y) = x * y := m64_id (by omega)
  have c5 : m64 (x * y / 4294967296) = x * y / 4294967296 := m64_id (by omega)
  have c2 : m64 (m64 (0 * y) + x * y / 4294967296) = x * y / 4294967296 := by rw [Nat.zero_mul, m64_id (show 0 < 18446744073709551616 by decide), Nat.zero_add]; exact m64_id (by omega)
  have c3 : and64 (x * y / 4294967296) 4294967295 = x * y / 4294967296 := by rw [and64_32 (by omega)]; omega
  have d2 : x * y / 4294967296 / 4294967296 = 0 := by omega
  have z0 : m64 0 = 0 := m64_id (by decide)
  have c4 : m64 (x * y / 4294967296 + 0) = x * y / 4294967296 := by rw [Nat.add_zero]; exact m64_id (by omega)
  refine callR_of Tryz.func92 rfl rfl (xc_ok (bitB 16371) _ _ _ ?_)
  simp only [go_sem, a1, a2, b1, b2, c1, c5, c2, c3, d2, Nat.mul_zero, Nat.zero_mul, z0, c4, Nat.add_zero, Nat.zero_add]
  (refine ⟨S, by (repeat (first | exact Sub.refl _ | refine Sub.setF ?_ (by first | assumption | simp only [*]) | refine Sub.setV ?_ (by first | assumption | simp only [*]))), ?_⟩); simp
theorem bits_Mul (x y : Nat) (hx : x < 4294967296) (hy : y < 4294967296) : Pure Tryz.prog 70 [u64 x, u64 y] (.tuple [u64 0, u64 (x * y)]) := fun S => by
  refine callR_of Tryz.func70 rfl rfl (xc_ok (bitB 1011) _ _ _ ?_)
  simp only [go_sem]
  refine (bits_Mul64 x y hx hy).useA ?_
  simp only [go_sem]
  (refine ⟨S, by (repeat (first | exact Sub.refl _ | refine Sub.setF ?_ (by first | assumption | simp only [*]) | refine Sub.setV ?_ (by first | assumption | simp only [*]))), ?_⟩); simp

def zero3 : List AV := [.p (.int .i64 0), .p (.int .i64 0), .nils]
theorem rep_flat {c : List PV} (hc : c.length = 3) (n : Nat) : (flatA (List.replicate n c)).length = n * 3 := by
  rw [flatA_length (sz := 3) (by intro el he; rw [List.eq_of_mem_replicate he]; exact hc)]; simp
theorem zcs3_len (n : Nat) : (zcs zero3 n).length = n * 3 := by rw [zcs_length]; rfl
theorem zcs_add (z : List AV) (a b : Nat) : zcs z (a + b) = zcs z a ++ zcs z b := by unfold zcs; rw [← List.replicate_append_replicate, List.flatten_append]
theorem rep_add (c : List PV) (a b : Nat) : flatA (List.replicate (a + b) c) = flatA (List.replicate a c) ++ flatA (List.replicate b c) := by unfold flatA; rw [← List.replicate_append_replicate, List.flatMap_append]
/-- Copied over, once more. -/
theorem rep_more {c : List PV} (hc : c.length = 3) (w n m : Nat) (hn : n + m ≤ w) (hm : m ≤ n) :
    splice (flatA (List.replicate n c) ++ zcs zero3 (w - n)) (n * 3) ((((flatA (List.replicate n c) ++ zcs zero3 (w - n)).drop 0).take (n * 3)).take (m * 3)) = flatA (List.replicate (n + m) c) ++ zcs zero3 (w - (n + m)) := by
  rw [List.drop_zero, List.take_append_of_le_length (by rw [rep_flat hc]; exact Nat.le_refl _), List.take_of_length_le (i := n * 3) (by rw [rep_flat hc]; exact Nat.le_refl _)]
  have e1 : (flatA (List.replicate n c)).take (m * 3) = flatA (List.replicate m c) := by
    rw [show n = m + (n - m) from by omega, rep_add, List.take_append_of_le_length (by rw [rep_flat hc]; exact Nat.le_refl _), List.take_of_length_le (by rw [rep_flat hc]; exact Nat.le_refl _)]
  rw [e1]
  have e2 : w - n = m + (w - (n + m)) := by omega
  rw [e2, zcs_add]
  unfold splice
  rw [List.take_append_of_le_length (by rw [rep_flat hc]; exact Nat.le_refl _), List.take_of_length_le (by rw [rep_flat hc]; exact Nat.le_refl _), rep_flat hc, List.drop_append, rep_flat hc,
    List.drop_of_length_le (by rw [rep_flat hc]; omega), List.nil_append, show n * 3 + m * 3 - n * 3 = m * 3 from by omega, List.drop_append_of_le_length (by rw [zcs3_len]; exact Nat.le_refl _),
    List.drop_of_length_le (by rw [zcs3_len]; exact Nat.le_refl _), List.nil_append, rep_add]

set_option maxHeartbeats 1000000 in
set_option maxRecDepth 4000 in
theorem repeat_hist (c : List PV) (hc : c.length = 3) (w : Nat) (hw1 : 1 ≤ w) (hw2 : w < 1048576) (S : Store) : CallR Tryz.prog 37 [.p (.sl [c]), i64 w] S (fun r S' => r = .p (.sl (List.replicate w c)) ∧ S' = S) := by
  refine CallR.frz (R := fun r S' => ∃ b, Fresh S b ∧ r = .ms b 3 0 w w ∧ S' = S.set (.r b) (.cells (flatA (List.replicate w c)))) ?_ ?_
  rotate_left
  · rintro r S' ⟨b, hb, rfl, rfl⟩
    refine ⟨.p (.sl (List.replicate w c)), S, Frz.freeze (b := b) (m := w * 3) (Store.set_same _ _ _) (by rw [rep_flat hc]; exact Nat.le_refl _) (fun k y hk => ?_) (Or.inl (Or.inl (Or.inr (Or.inr ⟨3, 0, w, w, List.replicate w c, rfl, ?_⟩)))), rfl, rfl⟩
    · have hne : k ≠ .r b := by rintro rfl; rw [hb] at hk; cases hk
      exact ⟨hne, Or.inl (by rw [Store.set_other _ _ hne]; exact hk)⟩
    · refine ⟨by omega, rfl, by simp, fun el he => by rw [List.eq_of_mem_replicate he]; exact hc, ?_⟩
      rw [List.drop_zero, List.take_of_length_le (by rw [rep_flat hc]; exact Nat.le_refl _)]
  refine callR_of Tryz.func37 rfl rfl (xc_ok (bitB 137506063859) _ _ _ ?_)
  have h0 : ¬ (w : Int) < 0 := by omega
  have e1 : m64 1 = 1 := m64_id (by decide)
  have e2 : m64 w = w := m64_id (by omega)
  simp only [go_sem, h0, e1, e2]
  refine (bits_Mul 1 w (by omega) (by omega)).useA ?_
  have h1 : ¬ 9223372036854775807 < w := by omega
  simp only [go_sem, Nat.one_mul, h1]
  have ewi : wi (w : Int) = (w : Int) := wi_id (by omega) (by omega)
  rw [ewi, Int.toNat_natCast]
  refine ⟨by omega, by omega, by omega, make_intro fun b hb => ?_⟩
  have hz : zcs [AV.p (PV.int IntKind.i64 0), AV.p (PV.int IntKind.i64 0), AV.nils] w = zcs zero3 w := rfl
  rw [hz]
  have hmin : min 1 w = 1 := by omega
  have hcs1 : flatA [c] = flatA (List.replicate 1 c) := rfl
  have hsp1 : splice (zcs zero3 w) (0 + 0 * 3) ((flatA [c]).take (min 1 w * 3)) = flatA (List.replicate 1 c) ++ zcs zero3 (w - 1) := by
    rw [hmin, hcs1, List.take_of_length_le (by rw [rep_flat hc]; exact Nat.le_refl _)]
    have : w = 1 + (w - 1) := by omega
    conv => lhs; rw [this, zcs_add]
    unfold splice
    rw [rep_flat hc, Nat.zero_mul, Nat.zero_add, List.take_zero, List.nil_append, Nat.zero_add, List.drop_append_of_le_length (by rw [zcs3_len]; exact Nat.le_refl _), List.drop_of_length_le (by rw [zcs3_len]; exact Nat.le_refl _), List.nil_append]
  have hsc : ((flatA [c]).take (min 1 w * 3)).all scalar = true := by
    rw [hmin, List.take_of_length_le (by have := rep_flat hc 1; rw [← hcs1] at this; omega)]
    unfold flatA; simp [scalar]
  simp only [go_sem]
  refine ⟨by rintro el rfl; exact hc, by rw [zcs3_len]; omega, hsc, ?_⟩
  have hst : (flatA [c]).take (min 1 w * 3) ++ (zcs zero3 w).drop ((flatA [c]).take (min 1 w * 3)).length = flatA (List.replicate 1 c) ++ zcs zero3 (w - 1) := by
    rw [← hsp1]; unfold splice; simp
  simp only [hst]
  simp only [hmin]
  refine AWP.roam (ι := Nat) (fun n => 1 ≤ n ∧ n ≤ w) (fun n => ⟨Env.get [(7, .ms b 3 0 w w), (8, i64 n)], S.set (.r b) (.cells (flatA (List.replicate n c) ++ zcs zero3 (w - n))), 48, []⟩) (fun n => w - n) 1 ⟨by omega, by omega⟩ ?_ ?_
  · exact le_of (by simp only [go_sem] <;> rfl) (Sub.refl _) rfl rfl (by simp)
  · rintro n ⟨hn1, hn2⟩ ih
    refine AWPH.step (xc_ok (bitB 137506063859) _ _ _ ?_)
    by_cases hnw : n < w
    · simp only [go_sem, ltN' hnw]
      refine AWP.draw2 (bitB 137506063859) mixed (by kernel_rfl) (fun i => bl false) ?_
      simp only [go_sem, ltN' hnw]
      have hmore := rep_more hc w n (min n (w - n)) (by omega) (by omega)
      rw [List.drop_zero] at hmore
      unfold splice at hmore
      have hall : ∀ k k', (List.take k (List.take k' (flatA (List.replicate n c) ++ zcs zero3 (w - n)))).all scalar = true := by
        intro k k'
        rw [List.all_eq_true]
        intro x hx
        rcases List.mem_append.1 (List.mem_of_mem_take (List.mem_of_mem_take hx)) with h | h
        · unfold flatA at h
          simp only [List.mem_flatMap, List.mem_map] at h
          obtain ⟨_, _, _, _, rfl⟩ := h
          rfl
        · unfold zcs at h
          simp only [List.mem_flatten, List.mem_replicate] at h
          obtain ⟨l, ⟨_, rfl⟩, hx⟩ := h
          simp only [zero3, List.mem_cons, List.not_mem_nil, or_false] at hx
          rcases hx with rfl | rfl | rfl <;> rfl
      have hlen : (flatA (List.replicate n c) ++ zcs zero3 (w - n)).length = w * 3 := by
        rw [List.length_append, rep_flat hc, zcs3_len]; omega
      have hq : wi ((n : Int) + ((min n (w - n) : Nat) : Int)) = ((n + min n (w - n) : Nat) : Int) := by rw [wi_id (by omega) (by omega)]; omega
      simp only [Nat.sub_zero, hlen, hmore]
      refine ⟨by omega, by omega, by omega, by omega, hall _ _, ?_⟩
      refine (ih (n + min n (w - n)) ⟨by omega, by omega⟩ (by omega)).back (Sub.refl _) (by simp) ?_
      simp only [go_sem, hq]
    · obtain rfl : n = w := by omega
      simp only [go_sem]
      have hz0 : zcs zero3 (n - n) = [] := by rw [Nat.sub_self]; rfl
      rw [hz0, List.append_nil]
      exact ⟨_, Sub.refl _, Or.inl ⟨b, hb, rfl, rfl⟩⟩
end Go.Sk
end

-- W15b
section
namespace Go.Sk
open Go Go.Proofs

theorem seed_eq (x y : Seed) : (x.a == y.a && x.b == y.b) = decide (x = y) := by
  cases x; cases y
  rw [Bool.eq_iff_iff]; simp
theorem eq_seeds (a b : List Seed) (ha : a.length < 1099511627776) : Pure Tryz.prog 50 [.p (.sl (a.map Seed.pv)), .p (.sl (b.map Seed.pv))] (bl (decide (a = b))) := fun S => by
  refine callR_of Tryz.func50 rfl rfl (xc_ok (bitB 16806963) _ _ _ ?_)
  simp only [go_sem]
  by_cases hlen : a.length = b.length
  rotate_left
  · have hn : (a.length != b.length) = true := by simpa using hlen
    have hne : ¬ a = b := fun e => hlen (by rw [e])
    simp only [go_sem, hn]
    (refine ⟨S, by (repeat (first | exact Sub.refl _ | refine Sub.setF ?_ (by first | assumption | simp only [*]) | refine Sub.setV ?_ (by first | assumption | simp only [*]))), ?_⟩); simp [hne]
  · have hn : (a.length != b.length) = false := by simpa using hlen
    simp only [go_sem, hn]
    refine AWP.roam (fun i : Nat => i ≤ a.length ∧ ∀ j, j < i → ∀ (h1 : j < a.length) (h2 : j < b.length), a[j] = b[j]) (fun i => ⟨Env.get [(0, .p (.sl (a.map Seed.pv))), (1, .p (.sl (b.map Seed.pv))), (12, i64 a.length), (13, i64 i)], S, 26, []⟩) (fun i => a.length - i) 0 ⟨by omega, fun j h => by omega⟩ ?_ ?_
    · exact le_of (by simp only [go_sem]; simp) (Sub.refl _) rfl rfl (by simp)
    · rintro i ⟨hi, hall⟩ ih
      refine AWPH.step (xc_ok (bitB 16806963) _ _ _ ?_)
      by_cases h : i < a.length
      · have hb : i < b.length := by omega
        simp only [go_sem, h, hb, ltN' h, ltN' hb, getD_map' _ _ _ _ h, getD_map' _ _ _ _ hb]
        refine AWP.draw2 (bitB 16806963) mixed (by kernel_rfl) (fun j => bl false) ?_
        simp only [go_sem, h, hb, ltN' h, ltN' hb, getD_map' _ _ _ _ h, getD_map' _ _ _ _ hb, seed_eq]
        by_cases hq : a[i] = b[i]
        · simp only [go_sem, hq, Bool.not_true]
          refine (ih (i + 1) ⟨h, all_step hall fun _ _ => hq⟩ (by omega)).back (by (repeat (first | exact Sub.refl _ | refine Sub.setF ?_ (by first | assumption | simp only [*]) | refine Sub.setV ?_ (by first | assumption | simp only [*])))) (by simp) ?_
          simp only [go_sem, wi_succ (show i < 4611686018427387904 by omega)]
        · simp only [go_sem, hq, Bool.not_false]
          (refine ⟨S, by (repeat (first | exact Sub.refl _ | refine Sub.setF ?_ (by first | assumption | simp only [*]) | refine Sub.setV ?_ (by first | assumption | simp only [*]))), ?_⟩)
          have hne : ¬ a = b := by rintro rfl; exact hq rfl
          simp [hne]
      · obtain rfl : i = a.length := by omega
        simp only [go_sem]
        (refine ⟨S, by (repeat (first | exact Sub.refl _ | refine Sub.setF ?_ (by first | assumption | simp only [*]) | refine Sub.setV ?_ (by first | assumption | simp only [*]))), ?_⟩)
        have : a = b := eq_of_all hlen fun j h1 h2 => hall j h1 h1 h2
        simp [this]
theorem ref15_alike (a b : List Seed) (ha : a.length < 1099511627776) : Pure Tryz.prog 29 [.p (.sl (a.map Seed.pv)), .p (.sl (b.map Seed.pv))] (bl (decide (a = b))) := fun S => by
  refine callR_of Tryz.func29 rfl rfl (xc_ok (bitB 33571891) _ _ _ ?_)
  simp only [go_sem]
  by_cases hlen : a.length = b.length
  rotate_left
  · have hn : (a.length != b.length) = true := by simpa using hlen
    have hne : ¬ a = b := fun e => hlen (by rw [e])
    simp only [go_sem, hn]
    (refine ⟨S, by (repeat (first | exact Sub.refl _ | refine Sub.setF ?_ (by first | assumption | simp only [*]) | refine Sub.setV ?_ (by first | assumption | simp only [*]))), ?_⟩); simp [hne]
  · have hn : (a.length != b.length) = false := by simpa using hlen
    simp only [go_sem, hn]
    refine AWP.roam (fun i : Nat => i ≤ a.length ∧ ∀ j, j < i → ∀ (h1 : j < a.length) (h2 : j < b.length), a[j] = b[j]) (fun i => ⟨Env.get [(0, .p (.sl (a.map Seed.pv))), (1, .p (.sl (b.map Seed.pv))), (5, i64 i)], S, 26, []⟩) (fun i => a.length - i) 0 ⟨by omega, fun j h => by omega⟩ ?_ ?_
    · exact le_of (by simp only [go_sem]; simp) (Sub.refl _) rfl rfl (by simp)
    · rintro i ⟨hi, hall⟩ ih
      refine AWPH.step (xc_ok (bitB 33571891) _ _ _ ?_)
      by_cases h : i < a.length
      · have hb : i < b.length := by omega
        simp only [go_sem, h, hb, ltN' h, ltN' hb, getD_map' _ _ _ _ h, getD_map' _ _ _ _ hb]
        refine AWP.draw2 (bitB 33571891) mixed (by kernel_rfl) (fun j => bl false) ?_
        simp only [go_sem, h, hb, ltN' h, ltN' hb, getD_map' _ _ _ _ h, getD_map' _ _ _ _ hb, seed_eq]
        by_cases hq : a[i] = b[i]
        · simp only [go_sem, hq, Bool.not_true]
          refine (ih (i + 1) ⟨h, all_step hall fun _ _ => hq⟩ (by omega)).back (by (repeat (first | exact Sub.refl _ | refine Sub.setF ?_ (by first | assumption | simp only [*]) | refine Sub.setV ?_ (by first | assumption | simp only [*])))) (by simp) ?_
          simp only [go_sem, wi_succ (show i < 4611686018427387904 by omega)]
        · simp only [go_sem, hq, Bool.not_false]
          (refine ⟨S, by (repeat (first | exact Sub.refl _ | refine Sub.setF ?_ (by first | assumption | simp only [*]) | refine Sub.setV ?_ (by first | assumption | simp only [*]))), ?_⟩)
          have hne : ¬ a = b := by rintro rfl; exact hq rfl
          simp [hne]
      · obtain rfl : i = a.length := by omega
        simp only [go_sem]
        (refine ⟨S, by (repeat (first | exact Sub.refl _ | refine Sub.setF ?_ (by first | assumption | simp only [*]) | refine Sub.setV ?_ (by first | assumption | simp only [*]))), ?_⟩)
        have : a = b := eq_of_all hlen fun j h1 h2 => hall j h1 h1 h2
        simp [this]

def alikeV (a b : Grid) : Bool := decide (a.w = b.w) && decide (a.all.k = b.all.k) && decide (a.sd = b.sd)
theorem grid_alike (a b : Grid) (ha : a.sd.length < 1099511627776) : Pure Tryz.prog 19 [a.av, b.av] (bl (alikeV a b)) := fun S => by
  refine callR_of Tryz.func19 rfl rfl (xc_ok (bitB 31) _ _ _ ?_)
  simp only [go_sem]
  refine alloc_intro fun c hc => ?_
  simp only [go_sem]
  refine alloc_intro fun d hd => ?_
  simp only [fresh_set] at hd
  simp only [go_sem, hd]
  by_cases h1 : a.w = b.w
  rotate_left
  · have e1 : (a.w == b.w) = false := by simpa using h1
    simp only [go_sem, e1]
    (refine ⟨S, by (repeat (first | exact Sub.refl _ | refine Sub.setF ?_ (by first | assumption | simp only [*]) | refine Sub.setV ?_ (by first | assumption | simp only [*]))), ?_⟩); simp [alikeV, h1]
  have e1 : (a.w == b.w) = true := by simpa using h1
  simp only [go_sem, hd, e1]
  by_cases h2 : a.all.k = b.all.k
  rotate_left
  · have e2 : (a.all.k == b.all.k) = false := by simpa using h2
    simp only [go_sem, e2]
    (refine ⟨S, by (repeat (first | exact Sub.refl _ | refine Sub.setF ?_ (by first | assumption | simp only [*]) | refine Sub.setV ?_ (by first | assumption | simp only [*]))), ?_⟩); simp [alikeV, h2]
  have e2 : (a.all.k == b.all.k) = true := by simpa using h2
  simp only [go_sem, hd, e2]
  refine (eq_seeds a.sd b.sd ha).useA ?_
  simp only [go_sem]
  (refine ⟨S, by (repeat (first | exact Sub.refl _ | refine Sub.setF ?_ (by first | assumption | simp only [*]) | refine Sub.setV ?_ (by first | assumption | simp only [*]))), ?_⟩); simp [alikeV, h1, h2]

/-- What forbids a grid. -/
def confV (k w : Int) (sd : List Seed) : Int := if k < 2 ∨ k > 1024 ∨ w < 1 ∨ w > 256 ∨ sd.length < 1 ∨ sd.length > 8 then 9 else if sd.all Seed.may then 0 else 1
def emptyH (k : Int) : Hist := ⟨k, 0, []⟩
def newV (k w : Int) (sd : List Seed) : Grid := ⟨w, sd, List.replicate sd.length (List.replicate w.toNat (emptyH k)), emptyH k⟩
def zeroG : Grid := ⟨0, [], [], zeroH⟩

theorem row_rep (k : Int) (j : Nat) : List.map Hist.cs (List.replicate j (emptyH k)) ++ [[.int .i64 k, .int .i64 0, .sl []]] = List.map Hist.cs (List.replicate (j + 1) (emptyH k)) := by
  rw [List.replicate_succ', List.map_append]; rfl
theorem rows_rep (r : List Hist) (j : Nat) : List.map rowE (List.replicate j r) ++ [[.sl (r.map Hist.cs)]] = List.map rowE (List.replicate (j + 1) r) := by
  rw [List.replicate_succ', List.map_append]; rfl

set_option maxHeartbeats 1000000 in
theorem ref15_New (k : Int) (w : Nat) (sd : List Seed) (hw : w < 1048576) (hn : sd.length < 1048576) : Pure Tryz.prog 46 [i64 k, i64 w, .p (.sl (sd.map Seed.pv))] (newV k w sd).av := fun S => by
  refine callR_of Tryz.func46 rfl rfl (xc_ok (bitB 17303495) _ _ _ ?_)
  simp only [go_sem]
  refine alloc_intro fun c6 h6 => ?_
  simp only [go_sem]
  refine alloc_intro fun c7 h7 => ?_
  simp only [fresh_set] at h7
  have g6 : S (.r c6) = none := h6
  have g7 : S (.r c7) = none := h7.2
  simp only [go_sem, h7]
  refine AWP.tipB c7 2 1 (cs := [i64 w, .p (.sl (sd.map Seed.pv)), .nils, i64 k, i64 0, .nils]) (by simp only [go_sem, h7]) rfl fun kk hkk => ?_
  simp only [freshv_setr] at hkk
  simp only [List.set]
  refine AWP.iterE (ι := Option Nat) (fun loc i => ⟨Env.get [(0, i64 k), (1, i64 w), (2, .p (.sl (sd.map Seed.pv))), (6, .sp c6 0), (7, .sp c7 0), (8, i64 i)],
    ((S.set (.r c6) (.cells [i64 0, .nils, .nils, i64 0, i64 0, .nils])).set (.v kk) (.tip 1 i loc)).set (.r c7) (.cells [i64 w, .p (.sl (sd.map Seed.pv)), .ts kk 1 loc ((List.replicate i (List.replicate w (emptyH k))).map rowE), i64 k, i64 0, .nils]), 39, []⟩) sd.length none ?_ ?_ ?_
  · refine le_of (by simp only [go_sem] <;> rfl) ?_ rfl rfl (by simp)
    ((try dsimp only); (repeat refine sub_set ?_ ?_) <;> first | ((repeat (first | exact Sub.refl _ | refine Sub.setF ?_ (by first | assumption | simp only [*]) | refine Sub.setV ?_ (by first | assumption | simp only [*]))); done) | (simp only [go_sem, h7, hkk, List.replicate_zero, List.map_nil, List.length_nil]; done) | (simp only [go_sem, h7, hkk, List.replicate_zero, List.map_nil, List.length_nil]; rfl) | rfl)
  · intro i loc hi ih
    refine AWPH.step (xc_ok (bitB 17303495) _ _ _ ?_)
    have hq : wi ((i : Int) + 1) = ((i + 1 : Nat) : Int) := wi_succ (show i < 4611686018427387904 by clear h7; omega)
    simp only [go_sem, hi, ltN' hi]
    refine AWP.tip0 9 3 (by simp only [go_sem]) fun k9 hk9 => ?_
    simp only [freshv_setr, freshv_set] at hk9
    simp only [go_sem]
    refine AWP.iterE (ι := Option Nat) (fun loc9 j => ⟨Env.get [(0, i64 k), (1, i64 w), (2, .p (.sl (sd.map Seed.pv))), (6, .sp c6 0), (7, .sp c7 0), (8, i64 i), (9, .ts k9 3 loc9 ((List.replicate j (emptyH k)).map Hist.cs)), (10, i64 j)],
      (((S.set (.r c6) (.cells [i64 0, .nils, .nils, i64 0, i64 0, .nils])).set (.v kk) (.tip 1 i loc)).set (.r c7) (.cells [i64 w, .p (.sl (sd.map Seed.pv)), .ts kk 1 loc ((List.replicate i (List.replicate w (emptyH k))).map rowE), i64 k, i64 0, .nils])).set (.v k9) (.tip 3 j loc9), 39, []⟩) w none ?_ ?_ ?_
    · refine le_of (by simp only [go_sem, List.replicate_zero, List.map_nil] <;> rfl) ?_ rfl rfl (by simp)
      ((try dsimp only); (repeat refine sub_set ?_ ?_) <;> first | ((repeat (first | exact Sub.refl _ | refine Sub.setF ?_ (by first | assumption | simp only [*]) | refine Sub.setV ?_ (by first | assumption | simp only [*]))); done) | (simp only [go_sem, h7, hkk, hk9, List.replicate_zero, List.map_nil, List.length_nil]; done) | (simp only [go_sem, h7, hkk, hk9, List.replicate_zero, List.map_nil, List.length_nil]; rfl) | rfl)
    · intro j loc9 hj jh
      have hqj : wi ((j : Int) + 1) = ((j + 1 : Nat) : Int) := wi_succ (show j < 4611686018427387904 by clear h7 hk9; omega)
      have q2 : (j + 1) * 40 ≤ 140737488355328 := by clear h7 hk9; omega
      have q3 : j + 1 < 4611686018427387904 := by clear h7 hk9; omega
      refine AWPH.step (xc_ok (bitB 17303495) _ _ _ ?_)
      simp only [go_sem, ltN' hj, hk9, List.length_map, List.length_replicate]
      refine ⟨by rintro el rfl; rfl, hist_len, q2, q3, grow_intro fun loc' => ?_⟩
      simp only [go_sem, hk9, hqj, row_rep]
      refine (jh loc').back ?_ (by simp) ?_
      · ((try dsimp only); (repeat refine sub_set ?_ ?_) <;> first | ((repeat (first | exact Sub.refl _ | refine Sub.setF ?_ (by first | assumption | simp only [*]) | refine Sub.setV ?_ (by first | assumption | simp only [*]))); done) | (simp only [go_sem, h7, hkk, hk9, List.length_map, List.length_replicate, row_rep]; done) | (simp only [go_sem, h7, hkk, hk9, List.length_map, List.length_replicate, row_rep]; rfl) | rfl)
      · simp only [go_sem, hqj, row_rep]
    · intro loc9
      have q2 : (i + 1) * 24 ≤ 140737488355328 := by clear h7 hk9; omega
      have q3 : i + 1 < 4611686018427387904 := by clear h7 hk9; omega
      refine AWPH.step (xc_ok (bitB 17303495) _ _ _ ?_)
      simp only [go_sem, h7, hkk, hk9, List.length_map, List.length_replicate]
      refine ⟨by rintro el rfl; rfl, row_len, q2, q3, grow_intro fun loc' => ?_⟩
      simp only [go_sem, h7, hkk, hk9, hq, rows_rep]
      refine (ih loc').back ?_ (by simp) ?_
      · ((try dsimp only); (repeat refine sub_set ?_ ?_) <;> first | ((repeat (first | exact Sub.refl _ | refine Sub.setF ?_ (by first | assumption | simp only [*]) | refine Sub.setV ?_ (by first | assumption | simp only [*]))); done) | (simp only [go_sem, h7, hkk, hk9, List.length_map, List.length_replicate, rows_rep]; done) | (simp only [go_sem, h7, hkk, hk9, List.length_map, List.length_replicate, rows_rep]; rfl) | rfl)
      · simp only [go_sem, hq]
  · intro loc
    refine AWPH.step (xc_ok (bitB 17303495) _ _ _ ?_)
    simp only [go_sem, h7, hkk]
    refine ⟨S, ?_, ?_⟩
    · refine Sub.set (Sub.set (Sub.set (Sub.set (Sub.refl _) g6 _) hkk _) g7 _) g6 _
    · simp [newV, emptyH]
end Go.Sk
end

-- W5r
section
namespace Go.Sk
open Go Go.Proofs

set_option maxHeartbeats 1000000 in
set_option maxRecDepth 8000 in
theorem ref05_Push (l : List Span) (most : Nat) (add : List Span) (many tick : Nat) (hm1 : 1 ≤ most) (hm2 : most < 1099511627776) (hl : l.length < 1099511627776) (ha : add.length < 1099511627776) (hmany : many < 4611686018427387904) :
    Pure Tryz.prog 79 [.p (lvP l), i64 most, .p (lvP add), u64 many, u64 tick]
      (.tuple [.p (lvP (stayV l most add many tick)), .p (lvP (outsV l most add many tick)), u64 (leftV l most add many)]) := fun S => by
  refine callR_of Tryz.func79 rfl rfl (xc_ok (bitB 5106502809662176120174279711) _ _ _ ?_)
  have hb1 : ¬ (1 : Int) > most := by omega
  simp only [go_sem, lvP, hb1, if_false]
  refine ⟨span_len, by omega, by omega, tip_intro fun k0 loc0 hk0 => ?_⟩
  simp only [go_sem]
  refine ⟨span_len, span_len, by omega, by omega, grow_intro fun loc1 => ?_⟩
  simp only [go_sem]
  obtain ⟨all, hall⟩ : ∃ all, l ++ add = all := ⟨_, rfl⟩
  have hmapall : List.map Span.pv l ++ List.map Span.pv add = List.map Span.pv all := by rw [← hall, List.map_append]
  obtain ⟨n, hnn⟩ : ∃ n, l.length + add.length = n := ⟨_, rfl⟩
  have hlen : all.length = n := by rw [← hall, List.length_append, hnn]
  have e1 : m64 n = n := m64_id (by omega)
  have e2 : m64 (n + many) = n + many := m64_id (by omega)
  have e3 : m64 most = most := m64_id (by omega)
  simp only [hmapall, hnn, hlen]
  obtain ⟨p, hp⟩ : ∃ p, pairsN (n + many) most = p := ⟨_, rfl⟩
  have hp0 := hp
  unfold pairsN at hp0
  obtain ⟨q, hq⟩ : ∃ q, outsN n most many = q := ⟨_, rfl⟩
  have hq0 : min p ((n + 1) / 2) = q := by rw [← hq]; unfold outsN; rw [hp]
  have hst : stayV l most add many tick = (lineV l add many tick).drop (2 * p) := by unfold stayV; rw [hnn, hp]
  have hout : outsV l most add many tick = (pairUp (lineV l add many tick)).take q := by unfold outsV; rw [hnn, hq]
  have hleft : leftV l most add many = p - q := by unfold leftV; rw [hnn, hp, hq]
  rw [hst, hout, hleft]
  simp only [go_sem, hlen, e1, e2, e3]
  by_cases hc : most < n + many
  rotate_left
  have hp1 : p = 0 := by omega
  simp only [go_sem, hc]
  rotate_left
  have hp1 : True := trivial
  have e4 : sub64 (n + many) most = n + many - most := by rw [sub64_eq]; omega
  have e5 : m64 (n + many - most + 1) = n + many - most + 1 := m64_id (by omega)
  have e6 : m64 ((n + many - most + 1) / 2) = p := by rw [hp0]; exact m64_id (by omega)
  simp only [go_sem, hc, e3, e4, e5, e6]
  all_goals
    refine AWP.data 13 ?_
    refine AWP.tip0 17 2 (by simp only [go_sem]) fun k hk => ?_
    simp only [freshv_set, freshv_setr] at hk
    simp only [go_sem]
    refine AWP.iterE (ι := Option Nat) (fun loc j => ⟨Env.get [(4, u64 tick), (13, .p (.sl (all.map Span.pv))), (14, u64 n), (15, u64 p), (16, u64 (n + many)), (17, .ts k 2 loc (((pairUp (lineV l add many tick)).take j).map Span.pv)), (18, u64 j)],
      S.set (.v k) (.tip 2 ((pairUp (lineV l add many tick)).take j).length loc), 111, []⟩) q none ?_ ?_ ?_
    · refine le_of (by simp only [go_sem, List.take_zero, List.map_nil] <;> first | rfl | rw [hp1]) ?_ rfl rfl (by simp)
      ((try dsimp only); (repeat refine sub_set ?_ ?_) <;> first | ((repeat (first | exact Sub.refl _ | refine Sub.setF ?_ (by first | assumption | simp only [*]) | refine Sub.setV ?_ (by first | assumption | simp only [*]))); done) | (simp only [go_sem, hk, List.take_zero, List.map_nil, List.length_nil]; done) | (simp only [go_sem, hk, List.take_zero, List.map_nil, List.length_nil]; rfl) | rfl)
    · intro j loc hj ih
      obtain ⟨h1, h2, h3, h4, h5⟩ := two_next hlen hm1 (by rw [hq]; exact hj)
      have e7 : m64 (2 * j) = 2 * j := m64_id (by omega)
      have e8 : m64 (2 * j + 1) = 2 * j + 1 := m64_id (by omega)
      have e9 : m64 (j + 1) = j + 1 := m64_id (by omega)
      have hjp : j < p := by omega
      have hjl : 2 * j < all.length := by omega
      have hle : (List.take j (pairUp (lineV l add many tick))).length ≤ j := by rw [List.length_take]; exact Nat.min_le_left _ _
      have hsn := outs_snoc l add many tick most j hm1 (by rw [hnn, hq]; exact hj)
      simp only [hall, hnn] at hsn
      refine AWPH.step (xc_ok (bitB 5106502809662176120174279711) _ _ _ ?_)
      simp only [go_sem, hk, e7, hjp, h1, hjl, ltN' hjl, getD_map' _ _ _ _ hjl, e8]
      by_cases hd : 2 * j + 1 < n
      · have hjl2 : 2 * j + 1 < all.length := by omega
        rw [dif_pos hd] at hsn
        simp only [go_sem, hk, e7, e8, e9, hd, hjl2, ltN' hjl2, getD_map' _ _ _ _ hjl2]
        have e5' : List.map Span.pv ((pairUp (lineV l add many tick)).take j) ++ [[.int .u64 (all[2 * j]).a, .int .u64 (all[2 * j + 1]).b]] = List.map Span.pv ((pairUp (lineV l add many tick)).take (j + 1)) := by
          rw [hsn, List.map_append]; rfl
        refine ⟨by rintro el rfl; rfl, span_len, by omega, by omega, grow_intro fun loc' => ?_⟩
        simp only [go_sem, hk, e9]
        refine (ih loc').back ?_ (by simp) ?_
        · ((try dsimp only); (repeat refine sub_set ?_ ?_) <;> first | ((repeat (first | exact Sub.refl _ | refine Sub.setF ?_ (by first | assumption | simp only [*]) | refine Sub.setV ?_ (by first | assumption | simp only [*]))); done) | (simp only [go_sem, hk, e5', List.length_map]; done) | (simp only [go_sem, hk, e5', List.length_map]; rfl) | rfl)
        · simp only [go_sem, e5', e9]
      · rw [dif_neg hd] at hsn
        simp only [go_sem, hk, e7, e8, e9, hd]
        have e5' : List.map Span.pv ((pairUp (lineV l add many tick)).take j) ++ [[.int .u64 (all[2 * j]).a, .int .u64 tick]] = List.map Span.pv ((pairUp (lineV l add many tick)).take (j + 1)) := by
          rw [hsn, List.map_append]; rfl
        refine ⟨by rintro el rfl; rfl, span_len, by omega, by omega, grow_intro fun loc' => ?_⟩
        simp only [go_sem, hk, e9]
        refine (ih loc').back ?_ (by simp) ?_
        · ((try dsimp only); (repeat refine sub_set ?_ ?_) <;> first | ((repeat (first | exact Sub.refl _ | refine Sub.setF ?_ (by first | assumption | simp only [*]) | refine Sub.setV ?_ (by first | assumption | simp only [*]))); done) | (simp only [go_sem, hk, e5', List.length_map]; done) | (simp only [go_sem, hk, e5', List.length_map]; rfl) | rfl)
        · simp only [go_sem, e5', e9]
    · intro loc
      refine AWPH.step (xc_ok (bitB 5106502809662176120174279711) _ _ _ ?_)
      have e7 : m64 (2 * q) = 2 * q := m64_id (by omega)
      have e8 : m64 (2 * p) = 2 * p := m64_id (by omega)
      have hex : ¬ q < p ∨ ¬ 2 * q < n := by omega
      obtain ⟨lin, hlin⟩ : ∃ lin, lineV l add many tick = lin := ⟨_, rfl⟩
      have hll : lin.length = n + many := by rw [← hlin, lineV_length, hnn]
      obtain ⟨outs, houts⟩ : ∃ outs, (pairUp lin).take q = outs := ⟨_, rfl⟩
      simp only [hlin, houts]
      by_cases hqp : q < p
      rotate_left
      simp only [go_sem, hk, hqp, e7, e8]
      rotate_left
      have hqn : ¬ 2 * q < n := by omega
      simp only [go_sem, hk, hqp, hqn, e7, e8]
      all_goals
        refine AWP.tip0 21 2 (by simp only [go_sem]) fun k3 hk3 => ?_
        simp only [freshv_set, freshv_setr] at hk3
        simp only [go_sem]
        refine AWP.iterE (ι := Option Nat) (fun loc3 i => ⟨Env.get [(4, u64 tick), (13, .p (.sl (all.map Span.pv))), (14, u64 n), (15, u64 p), (16, u64 (n + many)), (17, .ts k 2 loc (outs.map Span.pv)), (18, u64 q), (21, .ts k3 2 loc3 (((lin.drop (2 * p)).take i).map Span.pv)), (22, u64 (2 * p + i))],
          (S.set (.v k) (.tip 2 outs.length loc)).set (.v k3) (.tip 2 ((lin.drop (2 * p)).take i).length loc3), 111, []⟩) (n + many - 2 * p) none ?_ ?_ ?_
        · refine le_of (by simp only [go_sem, List.take_zero, List.map_nil, Nat.add_zero]) ?_ rfl rfl (by simp)
          ((try dsimp only); (repeat refine sub_set ?_ ?_) <;> first | ((repeat (first | exact Sub.refl _ | refine Sub.setF ?_ (by first | assumption | simp only [*]) | refine Sub.setV ?_ (by first | assumption | simp only [*]))); done) | (simp only [go_sem, hk, hk3, List.take_zero, List.map_nil, List.length_nil]; done) | (simp only [go_sem, hk, hk3, List.take_zero, List.map_nil, List.length_nil]; rfl) | rfl)
        · intro i loc3 hi ih
          have hi2 : i < (lin.drop (2 * p)).length := by rw [List.length_drop]; omega
          have f1 : 2 * p + i < n + many := by omega
          have f2 : m64 (2 * p + i + 1) = 2 * p + (i + 1) := by rw [m64_id (by omega)]; omega
          have hle : (List.take i (lin.drop (2 * p))).length ≤ i := by rw [List.length_take]; exact Nat.min_le_left _ _
          have hsize : i ≤ most + 1 := by omega
          have e5' : ∀ s : Span, (lin.drop (2 * p))[i] = s → List.map Span.pv ((lin.drop (2 * p)).take i) ++ [[.int .u64 s.a, .int .u64 s.b]] = List.map Span.pv ((lin.drop (2 * p)).take (i + 1)) := by
            intro s hs
            rw [List.take_succ_eq_append_getElem hi2, List.map_append, hs]; rfl
          refine AWPH.step (xc_ok (bitB 5106502809662176120174279711) _ _ _ ?_)
          simp only [go_sem, hk, hk3, f1]
          by_cases hd : 2 * p + i < n
          · have hjl2 : 2 * p + i < all.length := by omega
            have g := e5' (all[2 * p + i]) (by rw [List.getElem_drop]; simp only [← hlin]; rw [lineV_lt (by omega)]; simp only [hall])
            simp only [go_sem, hk, hk3, hd, hjl2, ltN' hjl2, getD_map' _ _ _ _ hjl2]
            refine ⟨by rintro el rfl; rfl, span_len, by omega, by omega, grow_intro fun loc' => ?_⟩
            simp only [go_sem, hk, hk3, f2]
            refine (ih loc').back ?_ (by simp) ?_
            · ((try dsimp only); (repeat refine sub_set ?_ ?_) <;> first | ((repeat (first | exact Sub.refl _ | refine Sub.setF ?_ (by first | assumption | simp only [*]) | refine Sub.setV ?_ (by first | assumption | simp only [*]))); done) | (simp only [go_sem, hk, hk3, g, List.length_map]; done) | (simp only [go_sem, hk, hk3, g, List.length_map]; rfl) | rfl)
            · simp only [go_sem, g, f2]
          · have g := e5' ⟨tick, tick⟩ (by rw [List.getElem_drop]; simp only [← hlin]; rw [lineV_ge (by omega)])
            simp only [go_sem, hk, hk3, hd]
            refine ⟨by rintro el rfl; rfl, span_len, by omega, by omega, grow_intro fun loc' => ?_⟩
            simp only [go_sem, hk, hk3, f2]
            refine (ih loc').back ?_ (by simp) ?_
            · ((try dsimp only); (repeat refine sub_set ?_ ?_) <;> first | ((repeat (first | exact Sub.refl _ | refine Sub.setF ?_ (by first | assumption | simp only [*]) | refine Sub.setV ?_ (by first | assumption | simp only [*]))); done) | (simp only [go_sem, hk, hk3, g, List.length_map]; done) | (simp only [go_sem, hk, hk3, g, List.length_map]; rfl) | rfl)
            · simp only [go_sem, g, f2]
        · intro loc3
          have f1 : ¬ 2 * p + (n + many - 2 * p) < n + many := by omega
          have f3 : sub64 p q = p - q := by rw [sub64_eq]; omega
          refine AWPH.step (xc_ok (bitB 5106502809662176120174279711) _ _ _ ?_)
          simp only [go_sem, hk, hk3, f1, f3, List.take_of_length_le (show (lin.drop (2 * p)).length ≤ n + many - 2 * p by rw [List.length_drop]; omega)]
          (refine ⟨S, by (repeat (first | exact Sub.refl _ | refine Sub.setF ?_ (by first | assumption | simp only [*]) | refine Sub.setV ?_ (by first | assumption | simp only [*]))), ?_⟩); simp
end Go.Sk
end

-- W6d
section
namespace Go.Sk
open Go Go.Proofs

set_option maxHeartbeats 1000000 in
set_option maxRecDepth 8000 in
theorem ref06_Add (k : Nat) (g : Int) (ls : List (List Span)) (tick w : Nat) (hk : k < 1073741824) (hw : w < 18446744073709551616) (hls : ls.length < 1073741824) (hl : ∀ l ∈ ls, l.length < 1073741824) (ht : totN 0 ls ≤ 4503599627370496) :
    Pure Tryz.prog 48 [(Hist.mk k g ls).av, u64 tick, u64 w] (.tuple [(addV k g ls tick w).1.av, i64 (addV k g ls tick w).2]) := fun S => by
  have htot : totV ls = totN 0 ls := totV_eq (by omega)
  refine callR_of Tryz.func48 rfl rfl (xc_ok (bitB 36893505756785409999) _ _ _ ?_)
  simp only [go_sem]
  refine alloc_intro fun c3 h3 => ?_
  simp only [go_sem]
  refine alloc_intro fun c6 h6 => ?_
  simp only [fresh_set] at h6
  simp only [go_sem, h6]
  by_cases hw0 : w = 0
  · subst hw0
    simp only [go_sem, h6]
    (refine ⟨S, by (repeat (first | exact Sub.refl _ | refine Sub.setF ?_ (by first | assumption | simp only [*]) | refine Sub.setV ?_ (by first | assumption | simp only [*]))), ?_⟩); simp [addV, zeroH]
  have hw0' : (w == 0) = false := by simpa using hw0
  simp only [go_sem, hw0', h6]
  refine (ref06_Last k g ls (fun l hx => by have := hl l hx; omega)).useA ?_
  simp only [go_sem]
  obtain ⟨lt, lb, hlast⟩ : ∃ lt lb, lastV ls = (lt, lb) := ⟨_, _, rfl⟩
  simp only [hlast]
  by_cases t1 : 9223372036854775807 < tick
  · simp only [go_sem, t1, h6]
    (refine ⟨S, by (repeat (first | exact Sub.refl _ | refine Sub.setF ?_ (by first | assumption | simp only [*]) | refine Sub.setV ?_ (by first | assumption | simp only [*]))), ?_⟩); simp [addV, zeroH, hw0, t1]
  simp only [go_sem, t1]
  by_cases t2 : lb = true ∧ tick < lt
  · obtain ⟨rfl, t2⟩ := t2
    simp only [go_sem, t2, h6]
    (refine ⟨S, by (repeat (first | exact Sub.refl _ | refine Sub.setF ?_ (by first | assumption | simp only [*]) | refine Sub.setV ?_ (by first | assumption | simp only [*]))), ?_⟩); simp [addV, zeroH, hw0, t1, t2, hlast]
  have hbad : ¬ (9223372036854775807 < tick ∨ ((lastV ls).2 = true ∧ tick < (lastV ls).1)) := by rw [hlast]; rintro (h | h); exact t1 h; exact t2 h
  cases lb
  rotate_left
  have t3 : ¬ tick < lt := fun h => t2 ⟨rfl, h⟩
  simp only [go_sem, t3, h6]
  rotate_left
  simp only [go_sem, h6]
  all_goals
    by_cases t4 : 4503599627370496 - totN 0 ls < w
    · by_cases t5 : 4503599627370496 < w
      · simp only [go_sem, t5, h6]
        (refine ⟨S, by (repeat (first | exact Sub.refl _ | refine Sub.setF ?_ (by first | assumption | simp only [*]) | refine Sub.setV ?_ (by first | assumption | simp only [*]))), ?_⟩); simp [addV, zeroH, hw0, hbad, t4]
      · simp only [go_sem, t5, h6]
        refine (ref06_Total k g ls (by omega)).useA ?_
        have e1 : m64 (w + totV ls) = w + totN 0 ls := by rw [htot]; exact m64_id (by omega)
        have e2 : 4503599627370496 < w + totN 0 ls := by omega
        simp only [go_sem, e1, e2, h6]
        (refine ⟨S, by (repeat (first | exact Sub.refl _ | refine Sub.setF ?_ (by first | assumption | simp only [*]) | refine Sub.setV ?_ (by first | assumption | simp only [*]))), ?_⟩); simp [addV, zeroH, hw0, hbad, t4]
    have t5 : ¬ 4503599627370496 < w := by omega
    simp only [go_sem, t5, h6]
    refine (ref06_Total k g ls (by omega)).useA ?_
    have e1 : m64 (w + totV ls) = w + totN 0 ls := by rw [htot]; exact m64_id (by omega)
    have e2 : ¬ 4503599627370496 < w + totN 0 ls := by omega
    simp only [go_sem, e1, e2, h6]
    obtain ⟨FL, hFL⟩ : ∃ FL, flowV k tick 0 ls [] w = FL := ⟨_, rfl⟩
    have hww : w ≤ 4611686018427387904 / 4 := by omega
    have hFLn : FL.length ≤ 1073741824 + 62 := by
      have := flow_len k tick 62 0 ls [] w (fun x hx => by have := hl x hx; omega) (by simp; omega)
      rw [hFL] at this; omega
    have hres : addV k g ls tick w = (⟨k, g, FL⟩, 0) := by simp [addV, hw0, hbad, t4, hFL]
    rw [hres]
    refine alloc_intro fun c10 h10 => ?_
    simp only [fresh_set] at h10
    have g3 : S (.r c3) = none := h3
    have g6 : S (.r c6) = none := h6.2
    have g10 : S (.r c10) = none := h10.2.2
    simp only [go_sem, h6, h10]
    refine AWP.data 11 ?_
    refine AWP.tipB c10 2 1 (cs := [i64 k, i64 g, .nils]) (by simp only [go_sem, h6, h10]) rfl fun kk hkk => ?_
    simp only [freshv_setr] at hkk
    simp only [List.set]
    simp only [go_sem]
    refine AWP.roam (ι := Nat × List (List Span) × List Span × Nat × Option Nat) (fun x => x.2.1 = ls.drop x.1 ∧ FL.drop x.1 = flowV k tick x.1 x.2.1 x.2.2.1 x.2.2.2.1 ∧ x.1 ≤ FL.length ∧ x.2.2.1.length ≤ 1073741824 ∧ x.2.2.2.1 ≤ 4611686018427387904 / 4)
      (fun x => ⟨Env.get [(1, u64 tick), (3, .sp c3 0), (6, .sp c6 0), (10, .sp c10 0), (11, .p (lvP x.2.2.1)), (12, u64 x.2.2.2.1), (13, i64 x.1)],
        (((S.set (.r c3) (.cells [i64 k, i64 g, .p (.sl (ls.map lvE))])).set (.r c6) (.cells [i64 0, i64 0, .nils])).set (.v kk) (.tip 1 (FL.take x.1).length x.2.2.2.2)).set (.r c10) (.cells [i64 k, i64 g, .ts kk 1 x.2.2.2.2 ((FL.take x.1).map lvE)]), 92, []⟩) (fun x => FL.length - x.1) (0, ls, [], w, none) ?_ ?_ ?_
    · exact ⟨by simp, by simp [hFL], by simp, by simp, hww⟩
    · refine le_of (by simp only [go_sem, lvP, List.map_nil] <;> rfl) ?_ rfl rfl (by simp)
      ((try dsimp only); (repeat refine sub_set ?_ ?_) <;> first | ((repeat (first | exact Sub.refl _ | refine Sub.setF ?_ (by first | assumption | simp only [*]) | refine Sub.setV ?_ (by first | assumption | simp only [*]))); done) | (simp only [go_sem, h6, h10, hkk, List.take_zero, List.map_nil, List.length_nil]; done) | (simp only [go_sem, h6, h10, hkk, List.take_zero, List.map_nil, List.length_nil]; rfl) | rfl)
    · rintro ⟨i, rest, come, many, loc⟩ ⟨r1, r2, r3, r4, r5⟩ ih
      dsimp only at r1 r2 r3 r4 r5 ⊢
      refine AWPH.step (xc_ok (bitB 36893505756785409999) _ _ _ ?_)
      by_cases hend : rest = [] ∧ come.length + many = 0
      · have hn : FL.length = i := by
          have : FL.drop i = [] := by rw [r2, hend.1, flowV_nil hend.2]
          have := List.drop_eq_nil_iff.1 this
          clear h6 h10; omega
        have hc1 : come = [] := List.eq_nil_of_length_eq_zero (by clear h6 h10; omega)
        have hc2 : many = 0 := by clear h6 h10; omega
        have hc3 : ¬ (i : Int) < (ls.length : Int) := by
          have : ls.drop i = [] := by rw [← r1]; exact hend.1
          have := List.drop_eq_nil_iff.1 this
          clear h6 h10; omega
        subst hc1; subst hc2; subst hn
        simp only [go_sem, h6, h10, hkk, lvP, hc3, List.take_length]
        refine ⟨S, ?_, ?_⟩
        · refine Sub.set (Sub.set (Sub.set (Sub.set (Sub.set (Sub.refl _) g3 _) g6 _) hkk _) g10 _) g6 _
        · simp
      · have hcons := flowV_cons (k := k) (tick := tick) (i := i) hend
        obtain ⟨L, hL⟩ : ∃ L, rest.headD [] = L := ⟨_, rfl⟩
        rw [hL] at hcons
        have hm1 := mostN_pos k i
        have hm2 := mostN_le k i
        have hLi : L = ls.getD i [] := by
          rw [← hL, r1]
          simp [List.headD_eq_head?_getD, List.getD_eq_getElem?_getD]
        have hLl : L.length ≤ 1073741824 := by
          rw [hLi]
          by_cases c : i < ls.length
          · have := hl _ (List.getElem_mem c)
            simp [List.getD_eq_getElem?_getD, c]; clear h6 h10; omega
          · simp [List.getD_eq_getElem?_getD, c]
        have hd' : FL.drop i = stayV L (mostN k i) come many tick :: flowV k tick (i + 1) rest.tail (outsV L (mostN k i) come many tick) (leftV L (mostN k i) come many) := by rw [r2, hcons]
        have hiF : i < FL.length := by
          apply Classical.byContradiction
          intro hc
          rw [List.drop_of_length_le (by clear h6 h10; omega)] at hd'
          cases hd'
        have hget : FL[i] = stayV L (mostN k i) come many tick := by
          have := List.drop_eq_getElem_cons hiF
          rw [hd'] at this
          simp only [List.cons.injEq] at this
          exact this.1.symm
        have hnext : FL.drop (i + 1) = flowV k tick (i + 1) rest.tail (outsV L (mostN k i) come many tick) (leftV L (mostN k i) come many) := by
          have := List.drop_eq_getElem_cons hiF
          rw [hd'] at this
          simp only [List.cons.injEq] at this
          exact this.2.symm
        have hinv := fun loc' => ih (i + 1, rest.tail, outsV L (mostN k i) come many tick, leftV L (mostN k i) come many, loc')
          ⟨by dsimp only; rw [r1, List.tail_drop], hnext, hiF, outs_small hm1 hLl r4, left_small hLl r4 r5 (by decide)⟩ (by dsimp only; clear h6 h10; omega)
        dsimp only at hinv
        have hmost := ref05_Most k i (by clear h6 h10; omega)
        have hpush := ref05_Push L (mostN k i) come many tick hm1 (by clear h6 h10; omega) (by clear h6 h10; omega) (by clear h6 h10; omega) (by clear h6 h10; omega)
        have hat := ref06_at k g ls i
        rw [← hLi] at hat
        have e5 : List.map lvE (List.take i FL) ++ [[lvP (stayV L (mostN k i) come many tick)]] = List.map lvE (FL.take (i + 1)) := by
          rw [List.take_succ_eq_append_getElem hiF, List.map_append, hget]; rfl
        have hle : (List.take i FL).length ≤ i := by rw [List.length_take]; exact Nat.min_le_left _ _
        have q2 : ((List.take i FL).length + 1) * 24 ≤ 140737488355328 := by clear h6 h10; omega
        have q3 : (List.take i FL).length + 1 < 4611686018427387904 := by clear h6 h10; omega
        have q4 : wi ((i : Int) + 1) = ((i + 1 : Nat) : Int) := wi_succ (show i < 4611686018427387904 by clear h6 h10; omega)
        have hab : (come.length : Int) > 0 ∨ many > 0 ∨ (i : Int) < (ls.length : Int) := by
          clear h6 h10
          by_cases a : (come.length : Int) > 0
          · exact Or.inl a
          · by_cases b : many > 0
            · exact Or.inr (Or.inl b)
            · refine Or.inr (Or.inr ?_)
              apply Classical.byContradiction
              intro hc
              exact hend ⟨by rw [r1]; exact List.drop_of_length_le (by omega), by omega⟩
        by_cases a : (come.length : Int) > 0 <;> by_cases b : many > 0 <;> by_cases c : (i : Int) < (ls.length : Int)
        rotate_right
        exact absurd hab (by clear h6 h10; omega)
        all_goals
          simp only [go_sem, h6, h10, hkk, lvP, a, b, c]
          refine AWP.draw2 (bitB 36893505756785409999) mixed (by kernel_rfl) (fun j => if j = 2 then .p (lvP L) else if j = 6 then i64 (mostN k i : Nat) else .tuple [.p (lvP (stayV L (mostN k i) come many tick)), .p (lvP (outsV L (mostN k i) come many tick)), u64 (leftV L (mostN k i) come many)]) ?_
          simp only [go_sem, h6, h10, hkk]
          refine ⟨hat.draw, hmost.draw, hpush.draw, ?_⟩
          refine ⟨by rintro el rfl; rfl, lvE_len, q2, q3, grow_intro fun loc' => ?_⟩
          simp only [go_sem, h6, h10, hkk]
          refine (hinv loc').back ?_ (by simp) ?_
          · ((try dsimp only); (repeat refine sub_set ?_ ?_) <;> first | ((repeat (first | exact Sub.refl _ | refine Sub.setF ?_ (by first | assumption | simp only [*]) | refine Sub.setV ?_ (by first | assumption | simp only [*]))); done) | (simp only [go_sem, h6, h10, hkk, e5, List.length_map]; done) | (simp only [go_sem, h6, h10, hkk, e5, List.length_map]; rfl) | rfl)
          · simp only [go_sem, q4]
end Go.Sk
end

-- W6a
section
namespace Go.Sk
open Go Go.Proofs

def itemsF (fl : List (List Span)) : Nat → List AV := fun k => [.p (lvP (fl.getD k []))]

set_option maxHeartbeats 1000000 in
set_option maxRecDepth 8000 in
theorem hist_flow1 (k : Nat) (g : Int) (ls : List (List Span)) (tick w : Nat) (hk : k < 1073741824) (hw : w ≤ 4611686018427387904 / 4) (hls : ls.length < 1073741824) (hl : ∀ l ∈ ls, l.length < 1073741824)
    {T0 : Store} {b1 b2 b3 : Nat} (h1 : T0 (.r b1) = some (.cells [u64 w])) (h2 : T0 (.r b2) = some (.cells [i64 k, i64 g, .p (.sl (ls.map lvE))])) (h3 : T0 (.r b3) = some (.cells [u64 tick])) :
    SeqR Tryz.prog 112 [] [.sp b1 0, .sp b2 0, .sp b3 0] T0 (flowV k tick 0 ls [] w).length (itemsF (flowV k tick 0 ls [] w)) := by
  intro l J Jx hy E hd h0
  simp only [List.nil_append, List.singleton_append]
  refine callR_of Tryz.func112 rfl rfl (xc_ok (bitB 36028805676011503) _ _ _ ?_)
  simp only [go_sem, h1, h2, h3]
  obtain ⟨FL, hFL⟩ : ∃ FL, flowV k tick 0 ls [] w = FL := ⟨_, rfl⟩
  rw [hFL] at hy ⊢
  have hFLn : FL.length ≤ 1073741824 + 62 := by
    have := flow_len k tick 62 0 ls [] w (fun x hx => by have := hl x hx; omega) (by simp; omega)
    rw [hFL] at this; omega
  refine AWP.data 5 ?_
  simp only [go_sem]
  refine AWP.roam (ι := Nat × List (List Span) × List Span × Nat × Store) (fun x => x.2.1 = ls.drop x.1 ∧ FL.drop x.1 = flowV k tick x.1 x.2.1 x.2.2.1 x.2.2.2.1 ∧ x.1 ≤ FL.length ∧ x.2.2.1.length ≤ 1073741824 ∧ x.2.2.2.1 ≤ 4611686018427387904 / 4 ∧ Disj T0 x.2.2.2.2 ∧ J x.1 x.2.2.2.2)
    (fun x => ⟨Env.get [(0, .fn (.yield l) [] []), (1, .sp b1 0), (2, .sp b2 0), (3, .sp b3 0), (5, .p (lvP x.2.2.1)), (6, u64 x.2.2.2.1), (7, i64 x.1)], Store.join x.2.2.2.2 T0, 58, []⟩) (fun x => FL.length - x.1) (0, ls, [], w, E) ?_ ?_ ?_
  · exact ⟨by simp, by simp [hFL], by simp, by simp, hw, hd, h0⟩
  · exact le_of (by simp only [go_sem, lvP, List.map_nil] <;> rfl) (Sub.refl _) rfl rfl (by simp)
  · rintro ⟨i, rest, come, many, E⟩ ⟨r1, r2, r3, r4, r5, hd, hJ⟩ ih
    dsimp only at r1 r2 r3 r4 r5 hd hJ ⊢
    refine AWPH.step (xc_ok (bitB 36028805676011503) _ _ _ ?_)
    by_cases hend : rest = [] ∧ come.length + many = 0
    · have hn : FL.length = i := by
        have : FL.drop i = [] := by rw [r2, hend.1, flowV_nil hend.2]
        have := List.drop_eq_nil_iff.1 this
        omega
      have hc1 : come = [] := List.eq_nil_of_length_eq_zero (by omega)
      have hc2 : many = 0 := by omega
      have hc3 : ¬ (i : Int) < (ls.length : Int) := by
        have : ls.drop i = [] := by rw [← r1]; exact hend.1
        have := List.drop_eq_nil_iff.1 this
        omega
      subst hc1; subst hc2
      simp only [go_sem, h1, h2, h3, lvP, hc3]
      exact ⟨_, Sub.refl _, Or.inl ⟨E, rfl, hd, Or.inl (by rw [hn]; exact hJ)⟩⟩
    · have hcons := flowV_cons (k := k) (tick := tick) (i := i) hend
      obtain ⟨L, hL⟩ : ∃ L, rest.headD [] = L := ⟨_, rfl⟩
      rw [hL] at hcons
      have hm1 := mostN_pos k i
      have hm2 := mostN_le k i
      have hLi : L = ls.getD i [] := by
        rw [← hL, r1]
        simp [List.headD_eq_head?_getD, List.getD_eq_getElem?_getD]
      have hLl : L.length ≤ 1073741824 := by
        rw [hLi]
        by_cases c : i < ls.length
        · have := hl _ (List.getElem_mem c)
          simp [List.getD_eq_getElem?_getD, c]; omega
        · simp [List.getD_eq_getElem?_getD, c]
      have hd' : FL.drop i = stayV L (mostN k i) come many tick :: flowV k tick (i + 1) rest.tail (outsV L (mostN k i) come many tick) (leftV L (mostN k i) come many) := by rw [r2, hcons]
      have hiF : i < FL.length := by
        apply Classical.byContradiction
        intro hc
        rw [List.drop_of_length_le (by omega)] at hd'
        cases hd'
      have hget : FL.getD i [] = stayV L (mostN k i) come many tick := by
        have := List.drop_eq_getElem_cons hiF
        rw [hd'] at this
        simp only [List.cons.injEq] at this
        simp [List.getD_eq_getElem?_getD, hiF, this.1]
      have hnext : FL.drop (i + 1) = flowV k tick (i + 1) rest.tail (outsV L (mostN k i) come many tick) (leftV L (mostN k i) come many) := by
        have := List.drop_eq_getElem_cons hiF
        rw [hd'] at this
        simp only [List.cons.injEq] at this
        exact this.2.symm
      have hinv : ∀ E', Disj T0 E' → J (i + 1) E' → AWPH Tryz.prog none _ _ _ := fun E' hE hJ' => ih (i + 1, rest.tail, outsV L (mostN k i) come many tick, leftV L (mostN k i) come many, E')
        ⟨by dsimp only; rw [r1, List.tail_drop], hnext, hiF, outs_small hm1 hLl r4, left_small hLl r4 r5 (by decide), hE, hJ'⟩ (by dsimp only; omega)
      dsimp only at hinv
      have hmost := level_Most k i (by omega)
      have hpush := level_Push L (mostN k i) come many tick hm1 (by omega) (by omega) (by omega) (by omega)
      have hyi := hy i hiF E T0 (Sub.refl _) hd hJ
      simp only [itemsF, hget] at hyi
      by_cases c : i < ls.length
      · have c' : (i : Int) < (ls.length : Int) := by omega
        have hLc : ls[i] = L := by rw [hLi]; simp [List.getD_eq_getElem?_getD, c]
        by_cases a : (come.length : Int) > 0 <;> by_cases b : many > 0
        all_goals
          simp only [go_sem, h1, h2, h3, lvP, a, b, c, c', getD_map' _ _ _ _ c, lvE_mk, hLc]
          refine AWP.data 8 ?_
          simp only [go_sem]
          refine AWP.draw2 (bitB 36028805676011503) mixed (by kernel_rfl) (fun j => if j = 4 then i64 (mostN k i : Nat) else .tuple [.p (lvP (stayV L (mostN k i) come many tick)), .p (lvP (outsV L (mostN k i) come many tick)), u64 (leftV L (mostN k i) come many)]) ?_
          simp only [go_sem, h1, h2, h3]
          refine ⟨hmost.draw, hpush.draw, ?_⟩
          refine hyi.useA rfl ?_
          rintro r S' ⟨E', rfl, hd2, ⟨rfl, hJ2⟩ | ⟨rfl, hJ2⟩⟩
          · simp only [go_sem]
            refine (hinv E' hd2 hJ2).back (Sub.refl _) (by simp) ?_
            simp only [go_sem, wi_succ (show i < 4611686018427387904 by omega)]
          · simp only [go_sem]
            exact ⟨_, Sub.refl _, Or.inl ⟨E', rfl, hd2, Or.inr hJ2⟩⟩
      · have c' : ¬ (i : Int) < (ls.length : Int) := by omega
        have hLc : L = [] := by rw [hLi]; simp [List.getD_eq_getElem?_getD, c]
        subst hLc
        have hab : come.length > 0 ∨ many > 0 := by
          apply Classical.byContradiction
          intro hx
          exact hend ⟨by rw [r1]; exact List.drop_of_length_le (by omega), by omega⟩
        by_cases a : (come.length : Int) > 0 <;> by_cases b : many > 0
        rotate_right
        exact absurd hab (by omega)
        all_goals
          simp only [go_sem, h1, h2, h3, lvP, a, b, c']
          refine AWP.data 8 ?_
          simp only [go_sem]
          refine AWP.draw2 (bitB 36028805676011503) mixed (by kernel_rfl) (fun j => if j = 4 then i64 (mostN k i : Nat) else .tuple [.p (lvP (stayV [] (mostN k i) come many tick)), .p (lvP (outsV [] (mostN k i) come many tick)), u64 (leftV [] (mostN k i) come many)]) ?_
          simp only [go_sem, h1, h2, h3]
          refine ⟨hmost.draw, hpush.draw, ?_⟩
          refine hyi.useA rfl ?_
          rintro r S' ⟨E', rfl, hd2, ⟨rfl, hJ2⟩ | ⟨rfl, hJ2⟩⟩
          · simp only [go_sem]
            refine (hinv E' hd2 hJ2).back (Sub.refl _) (by simp) ?_
            simp only [go_sem, wi_succ (show i < 4611686018427387904 by omega)]
          · simp only [go_sem]
            exact ⟨_, Sub.refl _, Or.inl ⟨E', rfl, hd2, Or.inr hJ2⟩⟩
end Go.Sk
end

-- W6b
section
namespace Go.Sk
open Go Go.Proofs

theorem hist_flow (k : Nat) (g : Int) (ls : List (List Span)) (tick w : Nat) (S : Store) : CallR Tryz.prog 89 [(Hist.mk k g ls).av, u64 tick, u64 w] S
    (fun r S' => ∃ b1 b2 b3, Fresh S b1 ∧ Fresh S b2 ∧ Fresh S b3 ∧ ((¬ b1 = b2 ∧ ¬ b2 = b1) ∧ (¬ b1 = b3 ∧ ¬ b3 = b1) ∧ (¬ b3 = b2 ∧ ¬ b2 = b3)) ∧ r = .fn (.func 112) [] [.sp b1 0, .sp b2 0, .sp b3 0] ∧
      S' = ((S.set (.r b2) (.cells [i64 k, i64 g, .p (.sl (ls.map lvE))])).set (.r b3) (.cells [u64 tick])).set (.r b1) (.cells [u64 w])) := by
  refine callR_of Tryz.func89 rfl rfl (xc_ok (bitB 127) _ _ _ ?_)
  simp only [go_sem]
  refine alloc_intro fun b2 h2 => ?_
  simp only [go_sem]
  refine alloc_intro fun b3 h3 => ?_
  simp only [fresh_set] at h3
  simp only [go_sem, h3]
  refine alloc_intro fun b1 h1 => ?_
  simp only [fresh_set] at h1
  simp only [go_sem, h3, h1]
  refine ⟨_, Sub.refl _, Or.inl ⟨b1, b2, b3, h1.2.2, h2, h3.2, ⟨⟨h1.2.1.1, h1.2.1.2⟩, ⟨h1.1.1, h1.1.2⟩, ⟨h3.1.1, h3.1.2⟩⟩, rfl, rfl⟩⟩

set_option maxHeartbeats 1000000 in
set_option maxRecDepth 8000 in
theorem hist_Add (k : Nat) (g : Int) (ls : List (List Span)) (tick w : Nat) (hk : k < 1073741824) (hw : w < 18446744073709551616) (hls : ls.length < 1073741824) (hl : ∀ l ∈ ls, l.length < 1073741824) (ht : totN 0 ls ≤ 4503599627370496) :
    Pure Tryz.prog 60 [(Hist.mk k g ls).av, u64 tick, u64 w] (.tuple [(addV k g ls tick w).1.av, i64 (addV k g ls tick w).2]) := fun S => by
  have htot : totV ls = totN 0 ls := totV_eq (by omega)
  refine callR_of Tryz.func60 rfl rfl (xc_ok (bitB 844433522298831) _ _ _ ?_)
  simp only [go_sem]
  refine alloc_intro fun c3 h3 => ?_
  simp only [go_sem]
  refine alloc_intro fun c6 h6 => ?_
  simp only [fresh_set] at h6
  simp only [go_sem, h6]
  refine (hist_Last k g ls (fun l hx => by have := hl l hx; omega)).useA ?_
  simp only [go_sem]
  by_cases hw0 : w = 0
  · subst hw0
    simp only [go_sem, h6]
    (refine ⟨S, by (repeat (first | exact Sub.refl _ | refine Sub.setF ?_ (by first | assumption | simp only [*]) | refine Sub.setV ?_ (by first | assumption | simp only [*]))), ?_⟩); simp [addV, zeroH]
  have hw0' : (w == 0) = false := by simpa using hw0
  simp only [go_sem, hw0']
  obtain ⟨lt, lb, hlast⟩ : ∃ lt lb, lastV ls = (lt, lb) := ⟨_, _, rfl⟩
  simp only [hlast]
  by_cases t1 : 9223372036854775807 < tick
  · simp only [go_sem, t1, h6]
    (refine ⟨S, by (repeat (first | exact Sub.refl _ | refine Sub.setF ?_ (by first | assumption | simp only [*]) | refine Sub.setV ?_ (by first | assumption | simp only [*]))), ?_⟩); simp [addV, zeroH, hw0, t1]
  simp only [go_sem, t1]
  by_cases t2 : lb = true ∧ tick < lt
  · obtain ⟨rfl, t2⟩ := t2
    simp only [go_sem, t2, h6]
    (refine ⟨S, by (repeat (first | exact Sub.refl _ | refine Sub.setF ?_ (by first | assumption | simp only [*]) | refine Sub.setV ?_ (by first | assumption | simp only [*]))), ?_⟩); simp [addV, zeroH, hw0, t1, t2, hlast]
  have hbad : ¬ (9223372036854775807 < tick ∨ ((lastV ls).2 = true ∧ tick < (lastV ls).1)) := by rw [hlast]; rintro (h | h); exact t1 h; exact t2 h
  cases lb
  rotate_left
  have t3 : ¬ tick < lt := fun h => t2 ⟨rfl, h⟩
  simp only [go_sem, t3, h6]
  rotate_left
  simp only [go_sem, h6]
  all_goals
    refine (hist_Total k g ls (by omega)).useA ?_
    have e1 : sub64 4503599627370496 (totV ls) = 4503599627370496 - totN 0 ls := by rw [htot, sub64_eq]; omega
    simp only [go_sem, e1]
    by_cases t4 : 4503599627370496 - totN 0 ls < w
    · simp only [go_sem, t4, h6]
      (refine ⟨S, by (repeat (first | exact Sub.refl _ | refine Sub.setF ?_ (by first | assumption | simp only [*]) | refine Sub.setV ?_ (by first | assumption | simp only [*]))), ?_⟩); simp [addV, zeroH, hw0, hbad, t4]
    simp only [go_sem, t4, h6]
    obtain ⟨FL, hFL⟩ : ∃ FL, flowV k tick 0 ls [] w = FL := ⟨_, rfl⟩
    have hww : w ≤ 4611686018427387904 / 4 := by omega
    have hFLn : FL.length ≤ 1073741824 + 62 := by
      have := flow_len k tick 62 0 ls [] w (fun x hx => by have := hl x hx; omega) (by simp; omega)
      rw [hFL] at this; omega
    refine alloc_intro fun c10 h10 => ?_
    simp only [fresh_set] at h10
    simp only [go_sem, h6, h10]
    refine (hist_flow k g ls tick w _).useA ?_
    rintro _ _ ⟨b1, b2, b3, f1, f2, f3, hne, rfl, rfl⟩
    simp only [fresh_set] at f1 f2 f3
    simp only [go_sem, h6, h10, f1, f2, f3, hne]
    refine AWP.tipB c10 2 1 (cs := [i64 k, i64 g, .nils]) (by simp only [go_sem, h6, h10, f1, f2, f3, hne]) rfl fun kk hkk => ?_
    simp only [freshv_setr] at hkk
    simp only [List.set]
    have hseq := hist_flow1 k g ls tick w hk hww hls hl (T0 := ((eS.set (.r b2) (.cells [i64 k, i64 g, .p (.sl (ls.map lvE))])).set (.r b3) (.cells [u64 tick])).set (.r b1) (.cells [u64 w])) (b1 := b1) (b2 := b2) (b3 := b3) (by simp only [go_sem, hne]) (by simp only [go_sem, hne]) (by simp only [go_sem, hne])
    rw [hFL] at hseq
    have g6 : S (.r c6) = none := h6.2
    have g10 : S (.r c10) = none := h10.2.2
    have g1 : S (.r b1) = none := f1.2.2.2
    have g2 : S (.r b2) = none := f2.2.2.2
    have g3 : S (.r b3) = none := f3.2.2.2
    refine AWP.rangeE (ι := Option Nat) (f := 112) (first := []) (caps := [.sp b1 0, .sp b2 0, .sp b3 0]) (by simp only [go_sem]) _
      (fun j loc => ((S.set (.r c6) (.cells [i64 0, i64 0, .nils])).set (.r c10) (.cells [i64 k, i64 g, .ts kk 1 loc ((FL.take j).map lvE)])).set (.v kk) (.tip 1 (FL.take j).length loc)) none
      ?_ ?_ hseq (enterable_of Tryz.func112 rfl rfl) (fun _ _ => False) (fun _ _ => rfl) (by simp) ?_ ?_ ?_
    · refine sub_joinT (sub_joinT (sub_joinT (sub_join0 ?_) ?_ ?_) ?_ ?_) ?_ ?_
      · ((try dsimp only); (repeat refine sub_set ?_ ?_) <;> first | ((repeat (first | exact Sub.refl _ | refine Sub.setF ?_ (by first | assumption | simp only [*]) | refine Sub.setV ?_ (by first | assumption | simp only [*]))); done) | (simp only [go_sem, h6, h10, f1, f2, f3, hne, hkk, List.take_zero, List.map_nil, List.length_nil]; done) | (simp only [go_sem, h6, h10, f1, f2, f3, hne, hkk, List.take_zero, List.map_nil, List.length_nil]; rfl) | rfl)
      all_goals simp only [go_sem, h6, h10, f1, f2, f3, hne, hkk, g1, g2, g3]
    · refine (((Disj.nil _).setT ?_ _).setT ?_ _).setT ?_ _
      all_goals simp only [go_sem, h6, h10, f1, f2, f3, hne, hkk, g1, g2, g3]
    · intro j loc l hj T hT hdT
      refine xc_ok (bitB 844433522298831) _ _ _ ?_
      simp only [go_sem, itemsF]
      refine ⟨_, Sub.refl _, hdT, fun T' hT' hdT' => ?_⟩
      refine xc_ok (bitB 844433522298831) _ _ _ ?_
      simp only [go_sem, h6, h10, hkk]
      have hle : (List.take j FL).length ≤ j := by rw [List.length_take]; exact Nat.min_le_left _ _
      refine ⟨by rintro el rfl; rfl, lvE_len, (by clear h6 h10 hne f1 f2 f3 h3 hdT hdT'; omega), (by clear h6 h10 hne f1 f2 f3 h3 hdT hdT'; omega), grow_intro fun loc' => ?_⟩
      simp only [go_sem, h6, h10, hkk]
      have e5 : List.map lvE (List.take j FL) ++ [[lvP (FL.getD j [])]] = List.map lvE (FL.take (j + 1)) := by
        rw [List.take_succ_eq_append_getElem hj, List.map_append]
        simp [List.getD_eq_getElem?_getD, hj, lvE]
      have hdq := (hdT'.setE (k := .v kk) (y := .tip 1 (FL.take j).length loc) (by simp only [go_sem]) (.tip 1 (List.map lvE (List.take j FL) ++ [[lvP (FL.getD j [])]]).length loc')).setE (k := .r c10) (y := .cells [i64 k, i64 g, .ts kk 1 loc ((FL.take j).map lvE)]) (by simp only [go_sem])
        (.cells [i64 k, i64 g, .ts kk 1 loc' (List.map lvE (List.take j FL) ++ [[lvP (FL.getD j [])]])])
      refine ⟨loc', ?_, ?_⟩
      · rw [join_set, join_set]
        refine Sub.joinD ?_ hdq
        ((try dsimp only); (repeat refine sub_set ?_ ?_) <;> first | ((repeat (first | exact Sub.refl _ | refine Sub.setF ?_ (by first | assumption | simp only [*]) | refine Sub.setV ?_ (by first | assumption | simp only [*]))); done) | (simp only [go_sem, h6, h10, hkk, e5, List.length_map, g6, g10]; done) | (simp only [go_sem, h6, h10, hkk, e5, List.length_map, g6, g10]; rfl) | rfl)
      · intro q
        rcases hdT' q with e | e
        · left
          simp only [Store.set] at e ⊢
          repeat' split at e
          all_goals simp_all
        · exact Or.inr e
    · intro loc d hd
      have n10 : ¬ c10 = d ∧ ¬ d = c10 := by constructor <;> rintro rfl <;> simp [Store.join, Store.set] at hd
      have n6 : ¬ c6 = d ∧ ¬ d = c6 := by constructor <;> rintro rfl <;> simp [Store.join, Store.set, h10] at hd
      have gd : S (.r d) = none := by
        have := (join_none hd).2
        simpa [Store.set, n10, n6] using this
      simp only [go_sem, List.take_length, h6, h10, hkk, n10, n6]
      refine ⟨S, ?_, ?_⟩
      · refine Sub.set (Sub.set (Sub.joinL ?_) gd _) g6 _
        refine Sub.set (Sub.set (Sub.set (Sub.refl _) g6 _) g10 _) hkk _
      · simp [addV, hw0, hbad, t4, hFL, gd]
    · intro e E' d _ h; exact h.elim
end Go.Sk
end

-- W6h
section
namespace Go.Sk
open Go Go.Proofs

noncomputable def addH (h : Hist) (t w : Nat) : Hist × Int := addV h.k.toNat h.g h.ls t w
structure Hist.Ok (h : Hist) : Prop where
  k0 : 0 ≤ h.k
  k1 : h.k < 1073741824
  ls : h.ls.length < 1073741824
  ll : ∀ l ∈ h.ls, l.length < 1073741824
  tot : totN 0 h.ls ≤ 4503599627370496
theorem hist_addH (h : Hist) (ok : h.Ok) (t w : Nat) (hw : w < 18446744073709551616) : Pure Tryz.prog 60 [h.av, u64 t, u64 w] (.tuple [(addH h t w).1.av, i64 (addH h t w).2]) := by
  obtain ⟨k, g, ls⟩ := h
  obtain ⟨h1, h2, h3, h4, h5⟩ := ok
  dsimp only at h1 h2 h3 h4 h5
  obtain ⟨k, rfl⟩ : ∃ k' : Nat, k = k' := ⟨k.toNat, by omega⟩
  have := hist_Add k g ls t w (by omega) hw h3 h4 h5
  unfold addH; simpa using this
theorem ref06_addH (h : Hist) (ok : h.Ok) (t w : Nat) (hw : w < 18446744073709551616) : Pure Tryz.prog 48 [h.av, u64 t, u64 w] (.tuple [(addH h t w).1.av, i64 (addH h t w).2]) := by
  obtain ⟨k, g, ls⟩ := h
  obtain ⟨h1, h2, h3, h4, h5⟩ := ok
  dsimp only at h1 h2 h3 h4 h5
  obtain ⟨k, rfl⟩ : ∃ k' : Nat, k = k' := ⟨k.toNat, by omega⟩
  have := ref06_Add k g ls t w (by omega) hw h3 h4 h5
  unfold addH; simpa using this

end Go.Sk
end

-- A7h
section
namespace Go.Sk

theorem Hist.Good.ok {h : Hist} (g : h.Good) : h.Ok :=
  ⟨by have := g.k0; omega, by have := g.k1; omega, by have := g.len; omega, fun l hl => by have := g.sm l hl; have := g.k1; omega, g.tot⟩
theorem Hist.Good.small {h : Hist} (g : h.Good) : h.Small := ⟨by have := g.len; omega, fun l hl => by have := g.sm l hl; have := g.k1; omega⟩
theorem addH_good {h : Hist} (g : h.Good) (t w : Nat) (e : (addH h t w).2 = 0) : (addH h t w).1.Good ∧ (addH h t w).1.k = h.k ∧ (addH h t w).1.g = h.g ∧ totN 0 (addH h t w).1.ls = totN 0 h.ls + w := addV_good g t w e
theorem addH_tidy {h : Hist} (g : h.Good) (hT : Tidy h.k.toNat h.ls) (t w : Nat) (e : (addH h t w).2 = 0) : Tidy h.k.toNat (addH h t w).1.ls ∧
    ∀ W, Mono W → loL W 0 (addH h t w).1.ls ≤ loL W 0 h.ls + (if W t = true then w else 0) ∧ hiL W 0 h.ls + (if W t = true then w else 0) ≤ hiL W 0 (addH h t w).1.ls := addV_tidy g hT t w e
end Go.Sk
end
