/- Texts A2 WMx A5 A6 A12, joined. -/
import Derived.Test.YtlbjacoigdpgfaaGreatW0
set_option linter.unusedSimpArgs false
set_option linter.unusedVariables false
set_option linter.unusedSectionVars false
-- A2
section
namespace Go.Sk

theorem and64_low {a k : Nat} (ha : a < 18446744073709551616) (hk : k ≤ 64) : and64 a (2 ^ k - 1) = a % 2 ^ k := by
  have h64 : (18446744073709551616 : Nat) = 2 ^ 64 := by decide
  have : 2 ^ k - 1 < 18446744073709551616 := by
    have := Nat.pow_le_pow_right (n := 2) (by decide) hk
    have : 0 < 2 ^ k := Nat.pow_pos (by decide)
    omega
  rw [and64_eq, Nat.mod_eq_of_lt ha, Nat.mod_eq_of_lt this, Nat.and_two_pow_sub_one_eq_mod]
theorem and64_32 {a : Nat} (ha : a < 18446744073709551616) : and64 a 4294967295 = a % 4294967296 := and64_low (k := 32) ha (by decide)
theorem and64_p {a : Nat} (ha : a < 18446744073709551616) : and64 a 2305843009213693951 = a % 2305843009213693952 := and64_low (k := 61) ha (by decide)
theorem or64_add {a b k : Nat} (ha : a * 2 ^ k < 18446744073709551616) (hb : b < 2 ^ k) (hk : k ≤ 64) : or64 (a * 2 ^ k) b = a * 2 ^ k + b := by
  have h2 : b < 18446744073709551616 := by
    have := Nat.pow_le_pow_right (n := 2) (by decide) hk
    omega
  rw [or64_eq, Nat.mod_eq_of_lt ha, Nat.mod_eq_of_lt h2, Nat.mul_comm a, Nat.two_pow_add_eq_or_of_lt hb]

noncomputable def mulPart (a b x y : Nat) : Nat := m64 (and64 (a / 2 ^ min (m64 (32 * x)) 64) 4294967295 * and64 (b / 2 ^ min (m64 (32 * y)) 64) 4294967295)
noncomputable def mulRaw (a b : Nat) : Nat × Nat :=
  let first := mulPart a b 0 0
  let one := m64 (mulPart a b 1 0 + first / 4294967296)
  let two := m64 (mulPart a b 0 1 + and64 one 4294967295)
  (m64 (m64 (mulPart a b 1 1 + one / 4294967296) + two / 4294967296), or64 (m64 (two * 4294967296)) (and64 first 4294967295))
noncomputable def mulRef (a b : Nat) : Nat × Nat :=
  let a1 := m64 (a / 4294967296); let a0 := a % 4294967296; let b1 := m64 (b / 4294967296); let b0 := b % 4294967296
  let low := m64 (a0 * b0)
  let mid := m64 (m64 (a1 * b0) + m64 (low / 4294967296))
  let mid2 := m64 (m64 (a0 * b1) + mid % 4294967296)
  (m64 (m64 (m64 (a1 * b1) + m64 (mid / 4294967296)) + m64 (mid2 / 4294967296)), m64 (m64 (mid2 % 4294967296 * 4294967296) + low % 4294967296))

/-- The product by halves. -/
theorem halves (a1 a0 b1 b0 : Nat) (h1 : a1 < 4294967296) (h2 : a0 < 4294967296) (h3 : b1 < 4294967296) (h4 : b0 < 4294967296) :
    let low := a0 * b0; let mid := a1 * b0 + low / 4294967296; let mid2 := a0 * b1 + mid % 4294967296
    let hi := a1 * b1 + mid / 4294967296 + mid2 / 4294967296; let lo := mid2 % 4294967296 * 4294967296 + low % 4294967296
    low < 18446744073709551616 ∧ mid < 18446744073709551616 ∧ mid2 < 18446744073709551616 ∧ hi < 18446744073709551616 ∧ lo < 18446744073709551616 ∧
    (a1 * 4294967296 + a0) * (b1 * 4294967296 + b0) = hi * 18446744073709551616 + lo := by
  intro low mid mid2 hi lo
  have p1 : a0 * b0 ≤ 4294967295 * 4294967295 := Nat.mul_le_mul (by omega) (by omega)
  have p2 : a1 * b0 ≤ 4294967295 * 4294967295 := Nat.mul_le_mul (by omega) (by omega)
  have p3 : a0 * b1 ≤ 4294967295 * 4294967295 := Nat.mul_le_mul (by omega) (by omega)
  have p4 : a1 * b1 ≤ 4294967295 * 4294967295 := Nat.mul_le_mul (by omega) (by omega)
  have e : (a1 * 4294967296 + a0) * (b1 * 4294967296 + b0) = a1 * b1 * 18446744073709551616 + (a1 * b0 + a0 * b1) * 4294967296 + a0 * b0 := by
    rw [Nat.add_mul, Nat.mul_add, Nat.mul_add, Nat.add_mul (a1 * b0)]
    have e1 : a1 * 4294967296 * (b1 * 4294967296) = a1 * b1 * 18446744073709551616 := by
      rw [Nat.mul_mul_mul_comm]
    have e2 : a1 * 4294967296 * b0 = a1 * b0 * 4294967296 := by rw [Nat.mul_right_comm]
    have e3 : a0 * (b1 * 4294967296) = a0 * b1 * 4294967296 := by rw [Nat.mul_assoc]
    omega
  rw [e]
  simp only [low, mid, mid2, hi, lo]
  generalize a0 * b0 = q at *
  generalize a1 * b0 = r at *
  generalize a0 * b1 = s at *
  generalize a1 * b1 = t at *
  omega

theorem mul_eq {a b : Nat} (ha : a < 18446744073709551616) (hb : b < 18446744073709551616) : (mulRef a b).1 = a * b / 18446744073709551616 ∧ (mulRef a b).2 = a * b % 18446744073709551616 := by
  have h := halves (a / 4294967296) (a % 4294967296) (b / 4294967296) (b % 4294967296) (by omega) (by omega) (by omega) (by omega)
  have ea : a / 4294967296 * 4294967296 + a % 4294967296 = a := Nat.div_add_mod' a _
  have eb : b / 4294967296 * 4294967296 + b % 4294967296 = b := Nat.div_add_mod' b _
  rw [ea, eb] at h
  obtain ⟨h1, h2, h3, h4, h5, h6⟩ := h
  have p2 : a / 4294967296 * (b % 4294967296) ≤ 4294967295 * 4294967295 := Nat.mul_le_mul (by omega) (by omega)
  have p3 : a % 4294967296 * (b / 4294967296) ≤ 4294967295 * 4294967295 := Nat.mul_le_mul (by omega) (by omega)
  have p4 : a / 4294967296 * (b / 4294967296) ≤ 4294967295 * 4294967295 := Nat.mul_le_mul (by omega) (by omega)
  have key : ∀ q r s t : Nat, q < 18446744073709551616 → r ≤ 4294967295 * 4294967295 → s ≤ 4294967295 * 4294967295 → t ≤ 4294967295 * 4294967295 → ∀ mid mid2 hi lo, mid = r + q / 4294967296 → mid2 = s + mid % 4294967296 → hi = t + mid / 4294967296 + mid2 / 4294967296 → lo = mid2 % 4294967296 * 4294967296 + q % 4294967296 → hi < 18446744073709551616 → lo < 18446744073709551616 →
      let low := m64 q; let mid' := m64 (m64 r + m64 (low / 4294967296)); let mid2' := m64 (m64 s + mid' % 4294967296)
      m64 (m64 (m64 t + m64 (mid' / 4294967296)) + m64 (mid2' / 4294967296)) = hi ∧ m64 (m64 (mid2' % 4294967296 * 4294967296) + low % 4294967296) = lo := by
    intro q r s t hq hr hs ht mid mid2 hi lo e1 e2 e3 e4 b1 b2 low mid' mid2'
    have f0 : low = q := m64_id hq
    have f1 : mid' = mid := by simp only [mid', f0, m64_eq]; omega
    have f2 : mid2' = mid2 := by simp only [mid2', f1, m64_eq]; omega
    rw [f0, f1, f2]
    simp only [m64_eq]
    constructor <;> omega
  have k := key _ _ _ _ h1 p2 p3 p4 _ _ _ _ rfl rfl rfl rfl h4 h5
  have g1 : m64 (a / 4294967296) = a / 4294967296 := m64_id (by omega)
  have g2 : m64 (b / 4294967296) = b / 4294967296 := m64_id (by omega)
  simp only [mulRef, g1, g2]
  rw [k.1, k.2]
  have fin : ∀ x hi lo : Nat, lo < 18446744073709551616 → x = hi * 18446744073709551616 + lo → hi = x / 18446744073709551616 ∧ lo = x % 18446744073709551616 := by intro x hi lo h1 h2; constructor <;> omega
  exact fin _ _ _ h5 h6

theorem mulPart_eq {a b : Nat} (ha : a < 18446744073709551616) (hb : b < 18446744073709551616) : mulPart a b 0 0 = a % 4294967296 * (b % 4294967296) ∧ mulPart a b 1 0 = a / 4294967296 * (b % 4294967296) ∧
    mulPart a b 0 1 = a % 4294967296 * (b / 4294967296) ∧ mulPart a b 1 1 = a / 4294967296 * (b / 4294967296) := by
  have m0 : min (m64 (32 * 0)) 64 = 0 := by rw [m64_eq]; rfl
  have m1 : min (m64 (32 * 1)) 64 = 32 := by rw [m64_eq]; rfl
  have e0 : ∀ x, x < 18446744073709551616 → and64 (x / 2 ^ 0) 4294967295 = x % 4294967296 := fun x hx => by
    rw [Nat.pow_zero, Nat.div_one]; exact and64_32 hx
  have e1 : ∀ x, x < 18446744073709551616 → and64 (x / 2 ^ 32) 4294967295 = x / 4294967296 := fun x hx => by
    rw [show (2 : Nat) ^ 32 = 4294967296 from by decide, and64_32 (by omega)]; omega
  have p1 : a % 4294967296 * (b % 4294967296) ≤ 4294967295 * 4294967295 := Nat.mul_le_mul (by omega) (by omega)
  have p2 : a / 4294967296 * (b % 4294967296) ≤ 4294967295 * 4294967295 := Nat.mul_le_mul (by omega) (by omega)
  have p3 : a % 4294967296 * (b / 4294967296) ≤ 4294967295 * 4294967295 := Nat.mul_le_mul (by omega) (by omega)
  have p4 : a / 4294967296 * (b / 4294967296) ≤ 4294967295 * 4294967295 := Nat.mul_le_mul (by omega) (by omega)
  unfold mulPart
  rw [m0, m1, e0 a ha, e0 b hb, e1 a ha, e1 b hb]
  exact ⟨m64_id (by omega), m64_id (by omega), m64_id (by omega), m64_id (by omega)⟩

theorem mulRaw_eq {a b : Nat} (ha : a < 18446744073709551616) (hb : b < 18446744073709551616) : mulRaw a b = mulRef a b := by
  obtain ⟨q1, q2, q3, q4⟩ := mulPart_eq ha hb
  have p1 : a % 4294967296 * (b % 4294967296) ≤ 4294967295 * 4294967295 := Nat.mul_le_mul (by omega) (by omega)
  have p2 : a / 4294967296 * (b % 4294967296) ≤ 4294967295 * 4294967295 := Nat.mul_le_mul (by omega) (by omega)
  have p3 : a % 4294967296 * (b / 4294967296) ≤ 4294967295 * 4294967295 := Nat.mul_le_mul (by omega) (by omega)
  have p4 : a / 4294967296 * (b / 4294967296) ≤ 4294967295 * 4294967295 := Nat.mul_le_mul (by omega) (by omega)
  simp only [mulRaw, mulRef]
  rw [q1, q2, q3, q4]
  rw [m64_id (show a / 4294967296 < 18446744073709551616 by omega), m64_id (show b / 4294967296 < 18446744073709551616 by omega)]
  rw [m64_id (show a % 4294967296 * (b % 4294967296) < 18446744073709551616 by omega), m64_id (show a / 4294967296 * (b % 4294967296) < 18446744073709551616 by omega), m64_id (show a % 4294967296 * (b / 4294967296) < 18446744073709551616 by omega),
    m64_id (show a / 4294967296 * (b / 4294967296) < 18446744073709551616 by omega), m64_id (show a % 4294967296 * (b % 4294967296) / 4294967296 < 18446744073709551616 by omega)]
  generalize hmid : a / 4294967296 * (b % 4294967296) + a % 4294967296 * (b % 4294967296) / 4294967296 = mid at *
  rw [and64_32 (m64_lt mid)]
  generalize a % 4294967296 * (b % 4294967296) = lo at *
  rw [and64_32 (show lo < 18446744073709551616 by omega)]
  have hm : mid < 18446744073709551616 := by omega
  rw [m64_id hm]
  generalize hmid2 : a % 4294967296 * (b / 4294967296) + mid % 4294967296 = mid2 at *
  have hm2 : mid2 < 18446744073709551616 := by omega
  rw [m64_id hm2, m64_id (show mid / 4294967296 < 18446744073709551616 by omega), m64_id (show mid2 / 4294967296 < 18446744073709551616 by omega)]
  have e : m64 (mid2 * 4294967296) = mid2 % 4294967296 * 2 ^ 32 := by rw [m64_eq]; omega
  rw [e, or64_add (by omega) (by omega) (by omega)]
  rw [m64_id (show mid2 % 4294967296 * 4294967296 < 18446744073709551616 by omega), m64_id (show mid2 % 4294967296 * 4294967296 + lo % 4294967296 < 18446744073709551616 by omega)]

/-! Rests. -/
noncomputable def foldV (n : Nat) : Nat := let m := m64 (n / 2305843009213693952 + and64 n 2305843009213693951); if m ≥ 2305843009213693951 then sub64 m 2305843009213693951 else m
theorem fold_eq {n : Nat} (h : n < 18446744073709551616) : foldV n = n % 2305843009213693951 ∧ foldV n < 2305843009213693951 := by
  unfold foldV
  rw [and64_p h, m64_id (by omega)]
  dsimp only
  split
  · rw [sub64_le (by omega) (by omega)]; constructor <;> omega
  · constructor <;> omega
noncomputable def wsum (n : Nat) (l : List Nat) : Nat := l.foldl (fun n x => foldV (m64 (n + x))) n
noncomputable def modRaw (high lower : Nat) : Nat := wsum 0 [foldV (high / 288230376151711744), foldV (or64 (and64 (m64 (high * 8)) 2305843009213693951) (lower / 2305843009213693952)), and64 lower 2305843009213693951]
theorem mod_eq {high lower : Nat} (h1 : high < 18446744073709551616) (h2 : lower < 18446744073709551616) : modRaw high lower = (high * 18446744073709551616 + lower) % 2305843009213693951 := by
  unfold modRaw wsum
  simp only [List.foldl_cons, List.foldl_nil]
  have e1 : and64 (m64 (high * 8)) 2305843009213693951 = high % 288230376151711744 * 2 ^ 3 := by rw [and64_p (m64_lt _)]; rw [m64_eq]; omega
  rw [e1, or64_add (by omega) (by omega) (by omega), and64_p h2]
  generalize ha : high / 288230376151711744 = a
  generalize hb : high % 288230376151711744 * 2 ^ 3 + lower / 2305843009213693952 = b
  generalize hc : lower % 2305843009213693952 = c
  have ha' : a < 64 := by omega
  have hb' : b < 2305843009213693952 := by omega
  have hc' : c < 2305843009213693952 := by omega
  have hval : high * 18446744073709551616 + lower = a * (2305843009213693952 * 2305843009213693952) + b * 2305843009213693952 + c := by omega
  rw [hval]
  obtain ⟨f1, f2⟩ := fold_eq (show a < 18446744073709551616 by omega)
  obtain ⟨g1, g2⟩ := fold_eq (show b < 18446744073709551616 by omega)
  generalize foldV a = fa at *
  generalize foldV b = fb at *
  rw [m64_id (show 0 + fa < 18446744073709551616 by omega)]
  obtain ⟨s1, s2⟩ := fold_eq (show 0 + fa < 18446744073709551616 by omega)
  generalize foldV (0 + fa) = s at *
  rw [m64_id (show s + fb < 18446744073709551616 by omega)]
  obtain ⟨t1, t2⟩ := fold_eq (show s + fb < 18446744073709551616 by omega)
  generalize foldV (s + fb) = t at *
  rw [m64_id (show t + c < 18446744073709551616 by omega)]
  obtain ⟨u1, u2⟩ := fold_eq (show t + c < 18446744073709551616 by omega)
  rw [u1]
  omega

/-- Bit by bit. -/
noncomputable def doubleV (n bit : Nat) : Nat := m64 (m64 (2 * n) + bit) % 2305843009213693951
noncomputable def bitsV (x : Nat) : Nat → Nat → Nat
  | 0, n => n
  | k + 1, n => bitsV x k (doubleV n (x / 2 ^ k % 2))
theorem bits_eq {x : Nat} : ∀ (k n : Nat), n < 2305843009213693951 → bitsV x k n = (n * 2 ^ k + x % 2 ^ k) % 2305843009213693951 ∧ bitsV x k n < 2305843009213693951 := by
  intro k
  induction k with
  | zero => intro n hn; simp only [bitsV, Nat.pow_zero, Nat.mul_one, Nat.mod_one, Nat.add_zero]; exact ⟨(Nat.mod_eq_of_lt hn).symm, hn⟩
  | succ k ih =>
    intro n hn
    simp only [bitsV]
    have hb : x / 2 ^ k % 2 < 2 := Nat.mod_lt _ (by decide)
    have hd : doubleV n (x / 2 ^ k % 2) = (2 * n + x / 2 ^ k % 2) % 2305843009213693951 := by
      unfold doubleV; rw [m64_id (show 2 * n < 18446744073709551616 by omega), m64_id (by omega)]
    have hlt : doubleV n (x / 2 ^ k % 2) < 2305843009213693951 := by rw [hd]; exact Nat.mod_lt _ (by decide)
    obtain ⟨h1, h2⟩ := ih _ hlt
    refine ⟨?_, h2⟩
    rw [h1, hd]
    have e1 : x % 2 ^ (k + 1) = x / 2 ^ k % 2 * 2 ^ k + x % 2 ^ k := by
      rw [Nat.pow_succ, Nat.mod_mul]; rw [Nat.mul_comm (2 ^ k)]; omega
    rw [e1, Nat.add_mod, Nat.mod_mul_mod, ← Nat.add_mod]
    congr 1
    rw [Nat.add_mul, Nat.pow_succ, Nat.mul_comm 2 n, Nat.mul_assoc, Nat.mul_comm 2 (2 ^ k)]; omega
theorem modRef_eq {high lower : Nat} (h1 : high < 18446744073709551616) (h2 : lower < 18446744073709551616) : bitsV lower 64 (bitsV high 64 0) = (high * 18446744073709551616 + lower) % 2305843009213693951 := by
  have h64 : (2 : Nat) ^ 64 = 18446744073709551616 := by decide
  obtain ⟨e1, e2⟩ := bits_eq (x := high) 64 0 (by decide)
  obtain ⟨e3, _⟩ := bits_eq (x := lower) 64 _ e2
  rw [e3, e1, h64, Nat.mod_eq_of_lt h1, Nat.mod_eq_of_lt h2, Nat.zero_mul, Nat.zero_add, Nat.add_mod, Nat.mod_mul_mod, ← Nat.add_mod]
def addModV (a b : Nat) : Nat := (a % 2305843009213693951 + b % 2305843009213693951) % 2305843009213693951
theorem addMod_raw {a b : Nat} (ha : a < 18446744073709551616) (hb : b < 18446744073709551616) : wsum 0 [foldV a, foldV b] = addModV a b := by
  unfold wsum
  simp only [List.foldl_cons, List.foldl_nil]
  obtain ⟨f1, f2⟩ := fold_eq ha
  obtain ⟨g1, g2⟩ := fold_eq hb
  generalize foldV a = fa at *
  generalize foldV b = fb at *
  rw [m64_id (show 0 + fa < 18446744073709551616 by omega)]
  obtain ⟨s1, s2⟩ := fold_eq (show 0 + fa < 18446744073709551616 by omega)
  generalize foldV (0 + fa) = s at *
  rw [m64_id (show s + fb < 18446744073709551616 by omega)]
  obtain ⟨t1, t2⟩ := fold_eq (show s + fb < 18446744073709551616 by omega)
  rw [t1]; unfold addModV; omega
def mulModV (a b : Nat) : Nat := a * b % 2305843009213693951
theorem mulModV_lt (a b : Nat) : mulModV a b < 18446744073709551616 := Nat.lt_trans (Nat.mod_lt _ (by decide)) (by decide)
theorem addModV_lt (a b : Nat) : addModV a b < 2305843009213693951 := Nat.mod_lt _ (by decide)
theorem mulMod_of {a b : Nat} (ha : a < 18446744073709551616) (hb : b < 18446744073709551616) : ((mulRef a b).1 * 18446744073709551616 + (mulRef a b).2) % 2305843009213693951 = mulModV a b := by
  obtain ⟨h1, h2⟩ := mul_eq ha hb
  rw [h1, h2, Nat.div_add_mod']; rfl
theorem mulRef_lt (a b : Nat) : (mulRef a b).1 < 18446744073709551616 ∧ (mulRef a b).2 < 18446744073709551616 := ⟨m64_lt _, m64_lt _⟩
end Go.Sk
end

-- WMx
section
namespace Go.Sk
open Go Go.Proofs

theorem mixed : Tryz.prog.follows .mixedOrders = true := by kernel_rfl
def nE (n : Nat) : List PV := [.int .u64 (n : Int)]
end Go.Sk
end

-- A5
section
namespace Go.Sk

def mostN (k i : Nat) : Nat := if i = 0 then k + 1 else (k + 1) / 2 + 1
theorem mostN_pos (k i : Nat) : 1 ≤ mostN k i := by unfold mostN; split <;> omega
theorem mostN_le (k i : Nat) : mostN k i ≤ k + 2 := by unfold mostN; split <;> omega

/-- Two by two. -/
def pairUp : List Span → List Span
  | a :: b :: r => ⟨a.a, b.b⟩ :: pairUp r
  | _ => []
/-- All that comes to a level, in turn. -/
def lineV (l add : List Span) (many tick : Nat) : List Span := l ++ add ++ List.replicate many ⟨tick, tick⟩
def pairsN (n most : Nat) : Nat := (n - most + 1) / 2
/-- What stays; what goes, one by one; and how many more of the tick go. -/
def stayV (l : List Span) (most : Nat) (add : List Span) (many tick : Nat) : List Span := (lineV l add many tick).drop (2 * pairsN (l.length + add.length + many) most)
def outsN (n most many : Nat) : Nat := min (pairsN (n + many) most) ((n + 1) / 2)
def outsV (l : List Span) (most : Nat) (add : List Span) (many tick : Nat) : List Span := (pairUp (lineV l add many tick)).take (outsN (l.length + add.length) most many)
def leftV (l : List Span) (most : Nat) (add : List Span) (many : Nat) : Nat := pairsN (l.length + add.length + many) most - outsN (l.length + add.length) most many

theorem pairUp_length (l : List Span) : (pairUp l).length = l.length / 2 := by
  induction l using pairUp.induct with
  | case1 a b r ih => simp only [pairUp, List.length_cons, ih]; omega
  | case2 l h =>
    match l, h with
    | [], _ => rfl
    | [x], _ => simp [pairUp]
    | x :: y :: r, h => exact absurd rfl (h x y r)
theorem pairUp_get (l : List Span) : ∀ (i : Nat) (h : i < (pairUp l).length) (h1 : 2 * i < l.length) (h2 : 2 * i + 1 < l.length), (pairUp l)[i] = ⟨l[2 * i].a, l[2 * i + 1].b⟩ := by
  induction l using pairUp.induct with
  | case1 a b r ih =>
    intro i h h1 h2
    cases i with
    | zero => rfl
    | succ i =>
      simp only [pairUp, List.length_cons, Nat.add_lt_add_iff_right] at h h1 h2
      simp only [pairUp, List.getElem_cons_succ]
      rw [ih i h (by omega) (by omega)]
      have e1 : 2 * (i + 1) = 2 * i + 1 + 1 := by omega
      simp only [e1, List.getElem_cons_succ]
  | case2 l h =>
    intro i hi
    match l, h with
    | [], _ => simp [pairUp] at hi
    | [x], _ => simp [pairUp] at hi
    | x :: y :: r, h => exact absurd rfl (h x y r)
theorem lineV_length (l add : List Span) (many tick : Nat) : (lineV l add many tick).length = l.length + add.length + many := by simp [lineV]; omega
theorem lineV_lt {l add : List Span} {many tick i : Nat} (h : i < l.length + add.length) : (lineV l add many tick)[i]'(by rw [lineV_length]; omega) = (l ++ add)[i]'(by simp; omega) := by
  unfold lineV
  rw [List.getElem_append_left]
theorem lineV_ge {l add : List Span} {many tick i : Nat} (h : l.length + add.length ≤ i) (h2 : i < (lineV l add many tick).length) : (lineV l add many tick)[i] = ⟨tick, tick⟩ := by
  have h3 : i < (l ++ add ++ List.replicate many (⟨tick, tick⟩ : Span)).length := h2
  show (l ++ add ++ List.replicate many (⟨tick, tick⟩ : Span))[i]'h3 = _
  rw [List.getElem_append_right (by simpa using h)]
  simp
/-- The i-th that goes. -/
theorem out_get {l add : List Span} {many tick i : Nat} (h : 2 * i < l.length + add.length) (h2 : 2 * i + 1 < l.length + add.length + many) (h3 : i < (pairUp (lineV l add many tick)).length) :
    (pairUp (lineV l add many tick))[i] = ⟨((l ++ add)[2 * i]'(by simp; omega)).a, if h : 2 * i + 1 < l.length + add.length then ((l ++ add)[2 * i + 1]'(by simp; omega)).b else tick⟩ := by
  rw [pairUp_get _ _ h3 (by rw [lineV_length]; omega) (by rw [lineV_length]; omega)]
  rw [lineV_lt h]
  split
  · rename_i h4; rw [lineV_lt h4]
  · rename_i h4; rw [lineV_ge (by omega)]

theorem drop_head {l : List Span} {m i : Nat} {s : Span} (h : i < l.length) : (l.drop i ++ List.replicate m s).getD 0 default = l[i] := by
  rw [List.drop_eq_getElem_cons h]; rfl
theorem drop_head2 {l : List Span} {m i : Nat} {s : Span} (h : l.length ≤ i) (hm : 0 < m) : (l.drop i ++ List.replicate m s).getD 0 default = s := by
  rw [List.drop_of_length_le h]
  obtain ⟨k, rfl⟩ : ∃ k, m = k + 1 := ⟨m - 1, by omega⟩
  rfl
/-- What the first loop leaves. -/
theorem left_eq {n most many q : Nat} (hm : 1 ≤ most) (hq : outsN n most many = q) :
    ((n - 2 * q) + (many - (2 * q - n)) - most + 1) / 2 = pairsN (n + many) most - q ∧ 2 * (pairsN (n + many) most - q) ≤ many - (2 * q - n) ∧ (0 < (n - 2 * q) + (many - (2 * q - n)) - most → n - 2 * q = 0) := by
  unfold outsN pairsN at *; omega
theorem app_getD {l : List Span} {m i : Nat} {s : Span} (h : i < l.length + m) : (l.drop i ++ List.replicate (m - (i - l.length)) s).getD 0 default = (l ++ List.replicate m s)[i]'(by simpa using h) := by
  by_cases hl : i < l.length
  · rw [drop_head hl, List.getElem_append_left hl]
  · rw [drop_head2 (by omega) (by omega), List.getElem_append_right (by omega)]
    simp
/-- What the j-th round finds. -/
theorem two_next {l : List Span} {many j n most : Nat} (hn : l.length = n) (hm : 1 ≤ most) (hj : j < outsN n most many) :
    2 * j < n ∧ most < n + many - 2 * j ∧ 2 * j + 1 < n + many ∧ 2 * j - n = 0 ∧ (2 * (j + 1) - n = 1 - (n - (2 * j + 1)) ) := by
  unfold outsN pairsN at hj
  omega
theorem stay_eq (l add : List Span) (many tick most : Nat) (hm : 1 ≤ most) :
    stayV l most add many tick = (l ++ add).drop (2 * outsN (l.length + add.length) most many) ++ List.replicate (many - (2 * outsN (l.length + add.length) most many - (l.length + add.length)) - 2 * leftV l most add many) ⟨tick, tick⟩ := by
  unfold stayV lineV leftV
  rw [List.drop_append, List.drop_replicate]
  simp only [List.length_append]
  have h1 : pairsN (l.length + add.length + many) most ≤ outsN (l.length + add.length) most many ∨ outsN (l.length + add.length) most many = (l.length + add.length + 1) / 2 := by unfold outsN; omega
  have h2 : outsN (l.length + add.length) most many ≤ pairsN (l.length + add.length + many) most := by unfold outsN; omega
  rcases h1 with h1 | h1
  · have e : pairsN (l.length + add.length + many) most = outsN (l.length + add.length) most many := by omega
    rw [e]; congr 2; omega
  · rw [List.drop_of_length_le (i := 2 * pairsN (l.length + add.length + many) most) (by simp; omega), List.drop_of_length_le (i := 2 * outsN (l.length + add.length) most many) (by simp; omega)]
    congr 2; omega
theorem stay_len (l add : List Span) (many tick most : Nat) : (stayV l most add many tick).length = l.length + add.length + many - 2 * pairsN (l.length + add.length + many) most := by
  unfold stayV; rw [List.length_drop, lineV_length]
theorem stay_le (l add : List Span) (many tick most : Nat) (hm : 1 ≤ most) : (stayV l most add many tick).length ≤ most := by
  rw [stay_len]; unfold pairsN; omega
theorem outs_len (l add : List Span) (many tick most : Nat) (hm : 1 ≤ most) : (outsV l most add many tick).length = outsN (l.length + add.length) most many := by
  unfold outsV; rw [List.length_take, pairUp_length, lineV_length]; unfold outsN pairsN; omega
theorem outs_snoc (l add : List Span) (many tick most j : Nat) (hm : 1 ≤ most) (hj : j < outsN (l.length + add.length) most many) :
    (pairUp (lineV l add many tick)).take (j + 1) = (pairUp (lineV l add many tick)).take j ++ [⟨((l ++ add)[2 * j]'(by simp; have := two_next (l := l ++ add) (by simp) hm hj; omega)).a,
      if h : 2 * j + 1 < l.length + add.length then ((l ++ add)[2 * j + 1]'(by simp; omega)).b else tick⟩] := by
  obtain ⟨h1, h2, h3, _, _⟩ := two_next (l := l ++ add) (by simp) hm hj
  have hlt : j < (pairUp (lineV l add many tick)).length := by rw [pairUp_length, lineV_length]; omega
  rw [List.take_succ_eq_append_getElem hlt, out_get h1 h3 hlt]
end Go.Sk
end

-- A6
section
namespace Go.Sk

/-- The last bucket's last tick, of level 0. -/
def lastV (ls : List (List Span)) : Nat × Bool := match ls with
  | [] => (0, false)
  | l :: _ => match l.getLast? with | some s => (s.b, true) | none => (0, false)
/-- All buckets' weight, modulo 2^64. -/
noncomputable def totF (i n : Nat) : List (List Span) → Nat
  | [] => n
  | l :: r => totF (i + 1) (m64 (n + m64 (m64 l.length * 2 ^ min i 64))) r
noncomputable def totV (ls : List (List Span)) : Nat := totF 0 0 ls
theorem totF_snoc (l : List Span) : ∀ (r : List (List Span)) (i n : Nat), totF i n (r ++ [l]) = m64 (totF i n r + m64 (m64 l.length * 2 ^ min (i + r.length) 64)) := by
  intro r
  induction r with
  | nil => intro i n; simp [totF]
  | cons x r ih => intro i n; simp only [List.cons_append, totF, ih, List.length_cons]; rw [show i + 1 + r.length = i + (r.length + 1) from by omega]
theorem totF_take (ls : List (List Span)) (i : Nat) (h : i < ls.length) : totF 0 0 (ls.take (i + 1)) = m64 (totF 0 0 (ls.take i) + m64 (m64 (ls[i]).length * 2 ^ min i 64)) := by
  rw [List.take_succ_eq_append_getElem h, totF_snoc, List.length_take, Nat.min_eq_left (Nat.le_of_lt h), Nat.zero_add]
/-- The weight. -/
def totN : Nat → List (List Span) → Nat
  | _, [] => 0
  | i, l :: r => l.length * 2 ^ i + totN (i + 1) r
theorem totN_ge (ls : List (List Span)) : ∀ i, ∀ l ∈ ls, l ≠ [] → 2 ^ i ≤ totN i ls := by
  induction ls with
  | nil => intro i l h; cases h
  | cons x r ih =>
    intro i l h hne
    simp only [totN]
    rcases List.mem_cons.1 h with rfl | h
    · have : 1 ≤ l.length := by cases l with | nil => exact absurd rfl hne | cons a b => simp
      have := Nat.mul_le_mul_right (2 ^ i) this
      omega
    · have := ih (i + 1) l h hne
      rw [Nat.pow_succ] at this; omega
theorem totF_eq (ls : List (List Span)) : ∀ (i n : Nat), n + totN i ls < 18446744073709551616 → totF i n ls = n + totN i ls := by
  induction ls with
  | nil => intro i n _; simp [totF, totN]
  | cons l r ih =>
    intro i n h
    simp only [totF, totN] at h ⊢
    have hb : m64 (m64 l.length * 2 ^ min i 64) = l.length * 2 ^ i := by
      by_cases hl : l = []
      · subst hl; simp [m64_eq]
      · have h1 : 1 ≤ l.length := by cases l with | nil => exact absurd rfl hl | cons a b => simp
        have h3 : 2 ^ i ≤ l.length * 2 ^ i := by have := Nat.mul_le_mul_right (2 ^ i) h1; omega
        have hi : i < 64 := by
          apply Classical.byContradiction
          intro hc
          have : (2 : Nat) ^ 64 ≤ 2 ^ i := Nat.pow_le_pow_right (by decide) (by omega)
          have e : (2 : Nat) ^ 64 = 18446744073709551616 := by decide
          omega
        have h4 : l.length ≤ l.length * 2 ^ i := Nat.le_mul_of_pos_right _ (Nat.pow_pos (by decide))
        rw [Nat.min_eq_left (by omega), m64_id (show l.length < 18446744073709551616 by omega), m64_id (by omega)]
    rw [hb, m64_id (by omega), ih _ _ (by omega)]; omega
theorem totV_eq {ls : List (List Span)} (h : totN 0 ls < 18446744073709551616) : totV ls = totN 0 ls := by
  unfold totV; rw [totF_eq _ _ _ (by omega), Nat.zero_add]

theorem go_less (l : List Span) (most : Nat) (add : List Span) (many tick : Nat) (hm : 1 ≤ most) : (outsV l most add many tick).length + leftV l most add many = pairsN (l.length + add.length + many) most := by
  rw [outs_len _ _ _ _ _ hm]; unfold leftV outsN; omega
/-- What stays on each level, from level i on. -/
def flowV (k tick : Nat) (i : Nat) (ls : List (List Span)) (come : List Span) (many : Nat) : List (List Span) :=
  match ls with
  | l :: r => stayV l (mostN k i) come many tick :: flowV k tick (i + 1) r (outsV l (mostN k i) come many tick) (leftV l (mostN k i) come many)
  | [] => if _h : come.length + many = 0 then [] else
      stayV [] (mostN k i) come many tick :: flowV k tick (i + 1) [] (outsV [] (mostN k i) come many tick) (leftV [] (mostN k i) come many)
termination_by (ls.length, come.length + many)
decreasing_by
  · exact Prod.Lex.left _ _ (by simp)
  · refine Prod.Lex.right _ ?_
    rw [go_less _ _ _ _ _ (mostN_pos k i)]
    have := mostN_pos k i
    unfold pairsN; simp; omega
theorem flowV_nil {k tick i : Nat} {come : List Span} {many : Nat} (h : come.length + many = 0) : flowV k tick i [] come many = [] := by rw [flowV, dif_pos h]
theorem flowV_cons {k tick i : Nat} {ls : List (List Span)} {come : List Span} {many : Nat} (h : ¬ (ls = [] ∧ come.length + many = 0)) :
    flowV k tick i ls come many = stayV (ls.headD []) (mostN k i) come many tick :: flowV k tick (i + 1) ls.tail (outsV (ls.headD []) (mostN k i) come many tick) (leftV (ls.headD []) (mostN k i) come many) := by
  cases ls with
  | cons l r => rw [flowV]; rfl
  | nil => rw [flowV, dif_neg (by simpa using h)]; rfl
theorem flow_len (k tick : Nat) : ∀ (b i : Nat) (ls : List (List Span)) (come : List Span) (many : Nat), (∀ l ∈ ls, l.length < 2 ^ b) → come.length + many < 2 ^ b → (flowV k tick i ls come many).length ≤ ls.length + b := by
  have nil : ∀ (b i : Nat) (come : List Span) (many : Nat), come.length + many < 2 ^ b → (flowV k tick i [] come many).length ≤ b := by
    intro b
    induction b with
    | zero => intro i come many h; rw [flowV_nil (by simpa using h)]; simp
    | succ b ih =>
      intro i come many h
      by_cases h0 : come.length + many = 0
      · rw [flowV_nil h0]; simp
      · rw [flowV_cons (by simp only [true_and]; exact h0)]
        have hg := go_less [] (mostN k i) come many tick (mostN_pos k i)
        have hm := mostN_pos k i
        simp only [List.headD_nil, List.tail_nil, List.length_cons]
        have := ih (i + 1) (outsV [] (mostN k i) come many tick) (leftV [] (mostN k i) come many) (by rw [hg]; unfold pairsN; rw [Nat.pow_succ] at h; simp; omega)
        omega
  intro b i ls
  induction ls generalizing i with
  | nil => intro come many _ h; have := nil b i come many (by omega); simpa using this
  | cons l r ih =>
    intro come many hl h
    rw [flowV_cons (by simp)]
    have hg := go_less l (mostN k i) come many tick (mostN_pos k i)
    have hm := mostN_pos k i
    simp only [List.headD_cons, List.tail_cons, List.length_cons]
    have h1 := hl l List.mem_cons_self
    have := ih (i + 1) (outsV l (mostN k i) come many tick) (leftV l (mostN k i) come many) (fun x hx => hl x (List.mem_cons_of_mem _ hx)) (by rw [hg]; unfold pairsN; omega)
    omega
theorem outs_small {l add : List Span} {most many tick B : Nat} (hm : 1 ≤ most) (hl : l.length ≤ B) (ha : add.length ≤ B) : (outsV l most add many tick).length ≤ B := by
  rw [outs_len _ _ _ _ _ hm]; unfold outsN; omega
theorem left_small {l add : List Span} {most many B : Nat} (hl : l.length ≤ B) (ha : add.length ≤ B) (h : many ≤ 4611686018427387904 / 4) (hB : B ≤ 1099511627776) : leftV l most add many ≤ 4611686018427387904 / 4 := by
  unfold leftV outsN pairsN; omega

def zeroH : Hist := ⟨0, 0, []⟩
/-- Weight comes. -/
noncomputable def addV (k : Nat) (g : Int) (ls : List (List Span)) (tick w : Nat) : Hist × Int :=
  if w = 0 then (zeroH, 1)
  else if 9223372036854775807 < tick ∨ ((lastV ls).2 = true ∧ tick < (lastV ls).1) then (zeroH, 6)
  else if 4503599627370496 - totN 0 ls < w then (zeroH, 5)
  else (⟨k, g, flowV k tick 0 ls [] w⟩, 0)
end Go.Sk
end

-- A12
section
namespace Go.Sk

structure Buf where (late : Nat) (room : Int) (mark : Nat) (front : Nat) (evs : List Event)
  deriving DecidableEq
def zeroB : Buf := ⟨0, 0, 0, 0, []⟩
/-- How many, at the head, are of ticks up to one. -/
def belowN (f : Nat) : List Event → Nat
  | [] => 0
  | e :: l => if e.t ≤ f then belowN f l + 1 else 0
theorem belowN_cons (f : Nat) (e : Event) (l : List Event) : belowN f (e :: l) = if e.t ≤ f then belowN f l + 1 else 0 := rfl
theorem belowN_le (f : Nat) (l : List Event) : belowN f l ≤ l.length := by
  induction l with
  | nil => exact Nat.le_refl _
  | cons e l ih => rw [belowN_cons]; split <;> simp <;> omega
theorem belowN_lt (f : Nat) : ∀ (l : List Event) (i : Nat) (h : i < l.length), i < belowN f l → (l[i]).t ≤ f := by
  intro l
  induction l with
  | nil => intro i h; simp at h
  | cons e l ih =>
    intro i h hi
    rw [belowN_cons] at hi
    split at hi
    · rename_i c
      cases i with
      | zero => exact c
      | succ i => exact ih i (by simpa using h) (by omega)
    · omega
theorem belowN_at (f : Nat) : ∀ (l : List Event) (h : belowN f l < l.length), f < (l[belowN f l]).t := by
  intro l
  induction l with
  | nil => intro h; simp at h
  | cons e l ih =>
    intro h
    by_cases c : e.t ≤ f
    · have e1 : belowN f (e :: l) = belowN f l + 1 := by rw [belowN_cons, if_pos c]
      have h2 : belowN f l < l.length := by rw [e1] at h; simpa using h
      simp only [e1, List.getElem_cons_succ]
      exact ih h2
    · have e1 : belowN f (e :: l) = 0 := by rw [belowN_cons, if_neg c]
      simp only [e1, List.getElem_cons_zero]; omega
/-- One by one: i of them are. -/
theorem belowN_step (f : Nat) (l : List Event) (i : Nat) (h : i < l.length) (hi : i ≤ belowN f l) : ((l[i]).t ≤ f → i + 1 ≤ belowN f l) ∧ (f < (l[i]).t → i = belowN f l) := by
  refine ⟨fun hb => ?_, fun hb => ?_⟩
  · apply Classical.byContradiction
    intro hc
    obtain rfl : i = belowN f l := by omega
    have := belowN_at f l h; omega
  · apply Classical.byContradiction
    intro hc
    have := belowN_lt f l i h (by omega); omega
theorem belowN_ge (f : Nat) : ∀ (l : List Event) (n : Nat), n ≤ l.length → (∀ i (h : i < l.length), i < n → (l[i]).t ≤ f) → n ≤ belowN f l := by
  intro l n hn h
  apply Classical.byContradiction
  intro hc
  have hlt : belowN f l < l.length := by omega
  have h1 := belowN_at f l hlt
  have h2 := h _ hlt (by omega)
  omega
theorem belowN_more (f : Nat) (l : List Event) (h : belowN f l < l.length) : belowN f l < belowN (l[belowN f l]).t l := by
  refine belowN_ge _ _ _ (by omega) fun i hi hlt => ?_
  by_cases c : i < belowN f l
  · have h1 := belowN_lt f l i hi c
    have h2 := belowN_at f l h
    omega
  · have : i = belowN f l := by omega
    subst this
    exact Nat.le_refl _
/-- The front, and how many go out. -/
def settleN (room : Nat) (l : List Event) (f : Nat) : Nat × Nat :=
  if h : room < l.length - belowN f l then settleN room l (l[belowN f l]'(by omega)).t else (f, belowN f l)
termination_by l.length - belowN f l
decreasing_by
  have := belowN_more f l (by omega)
  omega
theorem settleN_go {room : Nat} {l : List Event} {f : Nat} (h : room < l.length - belowN f l) : settleN room l f = settleN room l (l[belowN f l]'(by omega)).t := by
  rw [settleN, dif_pos h]
theorem settleN_end {room : Nat} {l : List Event} {f : Nat} (h : ¬ room < l.length - belowN f l) : settleN room l f = (f, belowN f l) := by
  rw [settleN, dif_neg h]
theorem settle_ind (room : Nat) (l : List Event) (p : Nat → Nat × Nat → Prop) (h0 : ∀ f, ¬ room < l.length - belowN f l → p f (f, belowN f l))
    (h1 : ∀ f r, (h : room < l.length - belowN f l) → p (l[belowN f l]'(by omega)).t r → p f r) : ∀ f, p f (settleN room l f) := by
  have key : ∀ n f, l.length - belowN f l ≤ n → p f (settleN room l f) := by
    intro n
    induction n with
    | zero => intro f hn; rw [settleN_end (by omega)]; exact h0 f (by omega)
    | succ n ih =>
      intro f hn
      by_cases c : room < l.length - belowN f l
      · rw [settleN_go c]
        have := belowN_more f l (by omega)
        exact h1 f _ c (ih _ (by omega))
      · rw [settleN_end c]; exact h0 f c
  exact fun f => key _ f (Nat.le_refl _)
theorem settle_facts (room : Nat) (l : List Event) : ∀ f, f ≤ (settleN room l f).1 ∧ (settleN room l f).2 = belowN (settleN room l f).1 l ∧ l.length - (settleN room l f).2 ≤ room ∧ (∀ m, f ≤ m → (∀ e ∈ l, e.t ≤ m) → (settleN room l f).1 ≤ m) := by
  refine settle_ind room l (fun f r => f ≤ r.1 ∧ r.2 = belowN r.1 l ∧ l.length - r.2 ≤ room ∧ (∀ m, f ≤ m → (∀ e ∈ l, e.t ≤ m) → r.1 ≤ m)) ?_ ?_
  · intro f h; exact ⟨Nat.le_refl _, rfl, by dsimp only; omega, fun m hm _ => hm⟩
  · intro f r h ⟨i1, i2, i3, i4⟩
    have := belowN_at f l (by omega)
    exact ⟨by omega, i2, i3, fun m hm hl => i4 m (hl _ (List.getElem_mem _)) hl⟩

/-- A buffer settled, and what goes out. -/
def settleB (b : Buf) : Buf × List Event :=
  (⟨b.late, b.room, b.mark, (settleN b.room.toNat b.evs (max b.front (b.mark - b.late))).1, b.evs.drop (settleN b.room.toNat b.evs (max b.front (b.mark - b.late))).2⟩, b.evs.take (settleN b.room.toNat b.evs (max b.front (b.mark - b.late))).2)
def insE (l : List Event) (e : Event) : List Event := l.take (belowN e.t l) ++ [e] ++ l.drop (belowN e.t l)
/-- An event comes. -/
def pushB (b : Buf) (e : Event) : (Buf × List Event) × Int :=
  if e.w = 0 then ((zeroB, []), 1) else if 9223372036854775807 < e.t then ((zeroB, []), 6) else if e.t < b.front then ((zeroB, []), 4)
  else (settleB ⟨b.late, b.room, max b.mark e.t, b.front, insE b.evs e⟩, 0)
/-- Time goes on. -/
def moveB (b : Buf) (t : Nat) : (Buf × List Event) × Int :=
  if 9223372036854775807 < t then ((zeroB, []), 6) else (settleB ⟨b.late, b.room, max b.mark t, b.front, b.evs⟩, 0)

/-! By the document. -/
def splO (f : Nat) (l : List Event) : List Event := l.filter (fun e => decide (e.t ≤ f))
def splS (f : Nat) (l : List Event) : List Event := l.filter (fun e => !decide (e.t ≤ f))
theorem splS_head (e : Event) (l : List Event) : (splS e.t (e :: l)).length < (e :: l).length := by
  unfold splS
  rw [List.filter_cons_of_neg (by simp)]
  have := List.length_filter_le (fun x => !decide (x.t ≤ e.t)) l
  simp only [List.length_cons]; omega
def docS (room f : Nat) (out stay : List Event) : Nat × List Event × List Event :=
  match stay with
  | [] => (f, out, [])
  | e :: l => if room < (e :: l).length then docS room e.t (out ++ splO e.t (e :: l)) (splS e.t (e :: l)) else (f, out, e :: l)
termination_by stay.length
decreasing_by exact splS_head e l
def Srt (l : List Event) : Prop := l.Pairwise (fun x y => x.t ≤ y.t)
theorem spl_eq (f : Nat) : ∀ l, Srt l → splO f l = l.take (belowN f l) ∧ splS f l = l.drop (belowN f l) := by
  intro l
  induction l with
  | nil => intro _; exact ⟨rfl, rfl⟩
  | cons e l ih =>
    intro h
    unfold Srt at h
    rw [List.pairwise_cons] at h
    obtain ⟨i1, i2⟩ := ih h.2
    unfold splO splS at *
    rw [belowN_cons]
    by_cases c : e.t ≤ f
    · rw [if_pos c, List.take_succ_cons, List.drop_succ_cons, List.filter_cons_of_pos (by simpa using c), List.filter_cons_of_neg (by simp; exact c), i1, i2]
      exact ⟨rfl, rfl⟩
    · rw [if_neg c, List.take_zero, List.drop_zero]
      have hall : ∀ x ∈ e :: l, ¬ x.t ≤ f := by
        intro x hx
        rcases List.mem_cons.1 hx with rfl | hx
        · exact c
        · have := h.1 x hx; omega
      refine ⟨List.filter_eq_nil_iff.2 fun x hx => by simpa using hall x hx, List.filter_eq_self.2 fun x hx => by simpa using hall x hx⟩
theorem Srt.drop {l : List Event} (h : Srt l) (n : Nat) : Srt (l.drop n) := List.Pairwise.sublist (List.drop_sublist n l) h
theorem Srt.take {l : List Event} (h : Srt l) (n : Nat) : Srt (l.take n) := List.Pairwise.sublist (List.take_sublist n l) h
theorem belowN_drop (f : Nat) : ∀ (l : List Event) (n : Nat), n ≤ belowN f l → belowN f (l.drop n) = belowN f l - n := by
  intro l
  induction l with
  | nil => intro n h; simp [belowN] at h ⊢
  | cons e l ih =>
    intro n h
    cases n with
    | zero => rfl
    | succ n =>
      rw [belowN_cons] at h ⊢
      split at h
      · rename_i c; rw [List.drop_succ_cons, ih n (by omega), if_pos c]; omega
      · omega
theorem docS_eq (room : Nat) (l : List Event) (hs : Srt l) : ∀ f, docS room f (l.take (belowN f l)) (l.drop (belowN f l)) = ((settleN room l f).1, l.take (settleN room l f).2, l.drop (settleN room l f).2) := by
  refine settle_ind room l (fun f r => docS room f (l.take (belowN f l)) (l.drop (belowN f l)) = (r.1, l.take r.2, l.drop r.2)) ?_ ?_
  · intro f h
    have hl : ¬ room < (l.drop (belowN f l)).length := by rw [List.length_drop]; exact h
    cases hd : l.drop (belowN f l) with
    | nil => rw [docS]
    | cons e r => rw [docS]; rw [hd] at hl; rw [if_neg hl]
  · intro f r h ih
    have hlt : belowN f l < l.length := by omega
    have hm := belowN_more f l hlt
    rw [List.drop_eq_getElem_cons hlt, docS]
    rw [if_pos (by simp only [List.length_cons, List.length_drop]; omega), ← List.drop_eq_getElem_cons hlt]
    obtain ⟨s1, s2⟩ := spl_eq (l[belowN f l]).t _ (hs.drop (belowN f l))
    rw [s1, s2, belowN_drop _ _ _ (by omega), List.drop_drop, ← List.take_add, show belowN f l + (belowN (l[belowN f l]).t l - belowN f l) = belowN (l[belowN f l]).t l by omega]
    exact ih
end Go.Sk
end
