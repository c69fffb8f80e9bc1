/- Walks: products, rests, columns of keys; both sides. -/
import Derived.Test.YtlbjacoigdpgfaaGreatR16A
set_option linter.unusedSimpArgs false
set_option linter.unusedVariables false
set_option linter.unusedSectionVars false
namespace Go.Sk
open Go Go.Proofs

theorem wide_fold (n : Nat) : Pure Tryz.prog 133 [u64 n] (u64 (foldV n)) := fun S => by
  refine callR_of Tryz.func133 rfl rfl (xc_ok (bitB 517) _ _ _ ?_)
  simp only [go_sem]
  (first | refine dec_split (fun hc => ?_) (fun hc => ?_) | refine gdd_split (fun hc => ?_) (fun hc => ?_) | refine bool_split (fun hc => ?_) (fun hc => ?_) | refine gd_split (fun hc => ?_) (fun hc => ?_)) <;> simp only [go_sem]
  · (refine ⟨S, by (repeat (first | exact Sub.refl _ | refine Sub.setF ?_ (by first | assumption | simp only [*]) | refine Sub.setV ?_ (by first | assumption | simp only [*]))), ?_⟩); simp [foldV, hc]
  · (refine ⟨S, by (repeat (first | exact Sub.refl _ | refine Sub.setF ?_ (by first | assumption | simp only [*]) | refine Sub.setV ?_ (by first | assumption | simp only [*]))), ?_⟩); simp [foldV, hc]

theorem wide_sum (l : List Nat) (hl : l.length < 4611686018427387904) : Pure Tryz.prog 132 [.p (.sl (l.map nE))] (u64 (wsum 0 l)) := fun S => by
  refine callR_of Tryz.func132 rfl rfl (xc_ok (bitB 1005) _ _ _ ?_)
  simp only [go_sem]
  refine AWP.iter (fun i => ⟨Env.get [(3, u64 (wsum 0 (l.take i))), (6, .p (.sl (l.map nE))), (7, i64 l.length), (8, i64 i)], S, 18, []⟩) l.length ?_ ?_ ?_
  · exact le_of (by simp only [go_sem]; simp [wsum]) (Sub.refl _) rfl rfl (by simp)
  · intro i hi ih
    refine AWPH.step (xc_ok (bitB 1005) _ _ _ ?_)
    simp only [go_sem, hi, ltN' hi, getD_map' _ _ _ _ hi, nE]
    refine (wide_fold _).useA ?_
    simp only [go_sem]
    refine ih.back (by (repeat (first | exact Sub.refl _ | refine Sub.setF ?_ (by first | assumption | simp only [*]) | refine Sub.setV ?_ (by first | assumption | simp only [*])))) (by simp) ?_
    simp only [go_sem, wi_succ (show i < 4611686018427387904 by omega), wsum, List.take_succ_eq_append_getElem hi, List.foldl_append, List.foldl_cons, List.foldl_nil]
  · refine AWPH.step (xc_ok (bitB 1005) _ _ _ ?_)
    simp only [go_sem, List.take_length]
    (refine ⟨S, by (repeat (first | exact Sub.refl _ | refine Sub.setF ?_ (by first | assumption | simp only [*]) | refine Sub.setV ?_ (by first | assumption | simp only [*]))), ?_⟩); simp

theorem wide_AddMod (a b : Nat) (ha : a < 18446744073709551616) (hb : b < 18446744073709551616) : Pure Tryz.prog 107 [u64 a, u64 b] (u64 (addModV a b)) := fun S => by
  refine callR_of Tryz.func107 rfl rfl (xc_ok (bitB 19) _ _ _ ?_)
  simp only [go_sem]
  refine (wide_fold _).useA ?_
  simp only [go_sem]
  refine (wide_fold _).useA ?_
  simp only [go_sem]
  refine (wide_sum [foldV a, foldV b] (by simp)).useA ?_
  simp only [go_sem]
  (refine ⟨S, by (repeat (first | exact Sub.refl _ | refine Sub.setF ?_ (by first | assumption | simp only [*]) | refine Sub.setV ?_ (by first | assumption | simp only [*]))), ?_⟩); simp [addMod_raw ha hb]

theorem wide_Mod (a b : Nat) (ha : a < 18446744073709551616) (hb : b < 18446744073709551616) : Pure Tryz.prog 134 [u64 a, u64 b] (u64 ((a * 18446744073709551616 + b) % 2305843009213693951)) := fun S => by
  refine callR_of Tryz.func134 rfl rfl (xc_ok (bitB 115) _ _ _ ?_)
  simp only [go_sem]
  refine (wide_fold _).useA ?_
  simp only [go_sem]
  refine (wide_fold _).useA ?_
  simp only [go_sem]
  refine (wide_sum [foldV (a / 288230376151711744), foldV (or64 (and64 (m64 (a * 8)) 2305843009213693951) (b / 2305843009213693952)), and64 b 2305843009213693951] (by simp)).useA ?_
  simp only [go_sem]
  have e := mod_eq ha hb
  unfold modRaw at e
  (refine ⟨S, by (repeat (first | exact Sub.refl _ | refine Sub.setF ?_ (by first | assumption | simp only [*]) | refine Sub.setV ?_ (by first | assumption | simp only [*]))), ?_⟩); simp [e]

theorem wide_part {S : Store} {b1 b2 : Nat} (a b x y : Nat) (h1 : S (.r b1) = some (.cells [u64 a])) (h2 : S (.r b2) = some (.cells [u64 b])) :
    CallR Tryz.prog 150 [u64 x, u64 y, .sp b1 0, .sp b2 0] S (fun r S' => r = u64 (mulPart a b x y) ∧ S' = S) := by
  refine callR_of Tryz.func150 rfl rfl (xc_ok (bitB 79) _ _ _ ?_)
  simp only [go_sem, h1, h2]
  (refine ⟨S, by (repeat (first | exact Sub.refl _ | refine Sub.setF ?_ (by first | assumption | simp only [*]) | refine Sub.setV ?_ (by first | assumption | simp only [*]))), ?_⟩); simp [mulPart]

theorem wide_Mul (a b : Nat) (ha : a < 18446744073709551616) (hb : b < 18446744073709551616) : Pure Tryz.prog 135 [u64 a, u64 b] (.tuple [u64 (mulRef a b).1, u64 (mulRef a b).2]) := fun S => by
  refine callR_of Tryz.func135 rfl rfl (xc_ok (bitB 1023) _ _ _ ?_)
  simp only [go_sem]
  refine alloc_intro fun b1 hb1 => ?_
  simp only [go_sem]
  refine alloc_intro fun b2 hb2 => ?_
  simp only [fresh_set] at hb2
  have e1 : ((S.set (.r b1) (.cells [u64 a])).set (.r b2) (.cells [u64 b])) (.r b1) = some (.cells [u64 a]) := by simp only [go_sem, hb2]
  have e2 : ((S.set (.r b1) (.cells [u64 a])).set (.r b2) (.cells [u64 b])) (.r b2) = some (.cells [u64 b]) := by simp only [go_sem, hb2]
  simp only [go_sem, hb2]
  have part := fun x y => wide_part (S := (S.set (.r b1) (.cells [u64 a])).set (.r b2) (.cells [u64 b])) a b x y e1 e2
  refine (part 0 0).useA ?_
  rintro _ _ ⟨rfl, rfl⟩
  simp only [go_sem]
  refine (part 1 0).useA ?_
  rintro _ _ ⟨rfl, rfl⟩
  simp only [go_sem]
  refine (part 0 1).useA ?_
  rintro _ _ ⟨rfl, rfl⟩
  simp only [go_sem]
  refine (part 1 1).useA ?_
  rintro _ _ ⟨rfl, rfl⟩
  simp only [go_sem]
  have e := mulRaw_eq ha hb
  rw [← e]
  refine ⟨S, ((Sub.refl S).setF hb1).setF hb2.2, ?_⟩
  simp [mulRaw]

theorem wide_MulMod (a b : Nat) (ha : a < 18446744073709551616) (hb : b < 18446744073709551616) : Pure Tryz.prog 108 [u64 a, u64 b] (u64 (mulModV a b)) := fun S => by
  refine callR_of Tryz.func108 rfl rfl (xc_ok (bitB 19) _ _ _ ?_)
  simp only [go_sem]
  refine (wide_Mul _ _ ha hb).useA ?_
  simp only [go_sem]
  refine (wide_Mod _ _ (mulRef_lt a b).1 (mulRef_lt a b).2).useA ?_
  simp only [go_sem]
  (refine ⟨S, by (repeat (first | exact Sub.refl _ | refine Sub.setF ?_ (by first | assumption | simp only [*]) | refine Sub.setV ?_ (by first | assumption | simp only [*]))), ?_⟩); simp [mulMod_of ha hb]

set_option maxRecDepth 4000 in
theorem ref03_Mul (a b : Nat) : Pure Tryz.prog 136 [u64 a, u64 b] (.tuple [u64 (mulRef a b).1, u64 (mulRef a b).2]) := fun S => by
  refine callR_of Tryz.func136 rfl rfl (xc_ok (bitB 16371) _ _ _ ?_)
  simp only [go_sem]
  repeat refine ⟨by decide, ?_⟩
  (refine ⟨S, by (repeat (first | exact Sub.refl _ | refine Sub.setF ?_ (by first | assumption | simp only [*]) | refine Sub.setV ?_ (by first | assumption | simp only [*]))), ?_⟩); simp [mulRef]

theorem ref03_double (a b : Nat) : Pure Tryz.prog 151 [u64 a, u64 b] (u64 (doubleV a b)) := fun S => by
  refine callR_of Tryz.func151 rfl rfl (xc_ok (bitB 19) _ _ _ ?_)
  simp only [go_sem]
  (refine ⟨S, by (repeat (first | exact Sub.refl _ | refine Sub.setF ?_ (by first | assumption | simp only [*]) | refine Sub.setV ?_ (by first | assumption | simp only [*]))), ?_⟩); simp [doubleV]

theorem ref03_AddMod (a b : Nat) : Pure Tryz.prog 109 [u64 a, u64 b] (u64 (addModV a b)) := fun S => by
  refine callR_of Tryz.func109 rfl rfl (xc_ok (bitB 19) _ _ _ ?_)
  simp only [go_sem]
  have e : m64 (a % 2305843009213693951 + b % 2305843009213693951) = a % 2305843009213693951 + b % 2305843009213693951 := m64_id (by omega)
  (refine ⟨S, by (repeat (first | exact Sub.refl _ | refine Sub.setF ?_ (by first | assumption | simp only [*]) | refine Sub.setV ?_ (by first | assumption | simp only [*]))), ?_⟩); simp [addModV, e]

theorem bitsV_step (x k n : Nat) : bitsV x (k + 1) n = bitsV x k (doubleV n (x / 2 ^ k % 2)) := rfl
theorem bitsV_zero (x n : Nat) : bitsV x 0 n = n := rfl

/-- What is left when the first bits are through. -/
noncomputable def bitsD (x n : Nat) : Nat → Nat
  | 0 => n
  | i + 1 => doubleV (bitsD x n i) (x / 2 ^ (63 - i) % 2)
theorem bitsD_eq (x n : Nat) : bitsD x n 64 = bitsV x 64 n := by
  simp only [bitsD, bitsV, Nat.reduceSub]

theorem ref03_Mod (a b : Nat) (ha : a < 18446744073709551616) (hb : b < 18446744073709551616) : Pure Tryz.prog 137 [u64 a, u64 b] (u64 ((a * 18446744073709551616 + b) % 2305843009213693951)) := fun S => by
  refine callR_of Tryz.func137 rfl rfl (xc_ok (bitB 525043) _ _ _ ?_)
  simp only [go_sem]
  refine AWP.iter (fun i => ⟨Env.get [(0, u64 a), (1, u64 b), (5, u64 (bitsD a 0 i)), (6, i64 (63 - i))], S, 29, []⟩) 64 ?_ ?_ ?_
  · exact le_of (by simp only [go_sem]; simp [bitsD]) (Sub.refl _) rfl rfl (by simp)
  · intro i hi ih
    refine AWPH.step (xc_ok (bitB 525043) _ _ _ ?_)
    have e0 : decide ((63 : Int) - i ≥ 0) = true := by simp; omega
    have e1 : min ((63 : Int) - i).toNat 64 = 63 - i := by omega
    simp only [go_sem, e0, e1]
    refine ⟨by omega, (ref03_double _ _).useA ?_⟩
    simp only [go_sem]
    refine ih.back (by (repeat (first | exact Sub.refl _ | refine Sub.setF ?_ (by first | assumption | simp only [*]) | refine Sub.setV ?_ (by first | assumption | simp only [*])))) (by simp) ?_
    simp only [go_sem, bitsD]
    rw [wi_id (by omega) (by omega)]; congr 2; omega
  · refine AWPH.step (xc_ok (bitB 525043) _ _ _ ?_)
    have e0 : decide ((63 : Int) - (64 : Nat) ≥ 0) = false := by decide
    simp only [go_sem, e0]
    refine AWP.iter (fun i => ⟨Env.get [(0, u64 a), (1, u64 b), (5, u64 (bitsD b (bitsD a 0 64) i)), (7, i64 (63 - i))], S, 29, []⟩) 64 ?_ ?_ ?_
    · exact le_of (by simp only [go_sem]; simp [bitsD]) (Sub.refl _) rfl rfl (by simp)
    · intro i hi ih
      refine AWPH.step (xc_ok (bitB 525043) _ _ _ ?_)
      have e0 : decide ((63 : Int) - i ≥ 0) = true := by simp; omega
      have e1 : min ((63 : Int) - i).toNat 64 = 63 - i := by omega
      simp only [go_sem, e0, e1]
      refine ⟨by omega, (ref03_double _ _).useA ?_⟩
      simp only [go_sem]
      refine ih.back (by (repeat (first | exact Sub.refl _ | refine Sub.setF ?_ (by first | assumption | simp only [*]) | refine Sub.setV ?_ (by first | assumption | simp only [*])))) (by simp) ?_
      simp only [go_sem, bitsD]
      rw [wi_id (by omega) (by omega)]; congr 2; omega
    · refine AWPH.step (xc_ok (bitB 525043) _ _ _ ?_)
      simp only [go_sem, e0]
      (refine ⟨S, by (repeat (first | exact Sub.refl _ | refine Sub.setF ?_ (by first | assumption | simp only [*]) | refine Sub.setV ?_ (by first | assumption | simp only [*]))), ?_⟩)
      rw [bitsD_eq, bitsD_eq, modRef_eq ha hb]; simp

theorem ref03_MulMod (a b : Nat) (ha : a < 18446744073709551616) (hb : b < 18446744073709551616) : Pure Tryz.prog 110 [u64 a, u64 b] (u64 (mulModV a b)) := fun S => by
  refine callR_of Tryz.func110 rfl rfl (xc_ok (bitB 115) _ _ _ ?_)
  simp only [go_sem]
  refine (ref03_Mul _ _).useA ?_
  simp only [go_sem]
  refine (ref03_Mod _ _ (mulRef_lt a b).1 (mulRef_lt a b).2).useA ?_
  simp only [go_sem]
  (refine ⟨S, by (repeat (first | exact Sub.refl _ | refine Sub.setF ?_ (by first | assumption | simp only [*]) | refine Sub.setV ?_ (by first | assumption | simp only [*]))), ?_⟩); simp [mulMod_of ha hb]

/-! Keys, seeds, columns. -/
theorem hash_Key (x : Nat) : Pure Tryz.prog 30 [u64 x] (bl (decide (x < 2305843009213693951))) := fun S => by
  refine callR_of Tryz.func30 rfl rfl (xc_ok (bitB 5) _ _ _ ?_)
  simp only [go_sem]
  (refine ⟨S, by (repeat (first | exact Sub.refl _ | refine Sub.setF ?_ (by first | assumption | simp only [*]) | refine Sub.setV ?_ (by first | assumption | simp only [*]))), ?_⟩); simp
theorem ref04_Key (x : Nat) : Pure Tryz.prog 37 [u64 x] (bl (decide (x < 2305843009213693951))) := fun S => by
  refine callR_of Tryz.func37 rfl rfl (xc_ok (bitB 5) _ _ _ ?_)
  simp only [go_sem]
  (refine ⟨S, by (repeat (first | exact Sub.refl _ | refine Sub.setF ?_ (by first | assumption | simp only [*]) | refine Sub.setV ?_ (by first | assumption | simp only [*]))), ?_⟩); simp

def Seed.may (s : Seed) : Bool := decide (0 < s.a) && decide (s.a < 2305843009213693951) && decide (s.b < 2305843009213693951)
theorem hash_May (s : Seed) : Pure Tryz.prog 59 [s.av] (bl s.may) := fun S => by
  refine callR_of Tryz.func59 rfl rfl (xc_ok (bitB 15) _ _ _ ?_)
  simp only [go_sem]
  refine alloc_intro fun b hb => ?_
  simp only [go_sem]
  repeat refine ⟨by decide, ?_⟩
  refine alloc_intro fun b' hb' => ?_
  simp only [fresh_set] at hb'
  simp only [go_sem, hb']
  (first | refine dec_split (fun h => ?_) (fun h => ?_) | refine gdd_split (fun h => ?_) (fun h => ?_) | refine bool_split (fun h => ?_) (fun h => ?_) | refine gd_split (fun h => ?_) (fun h => ?_)) <;> simp only [go_sem, hb']
  · have h1 : s.a < 2305843009213693951 ∧ s.b < 2305843009213693951 := by simp at h; omega
    (refine ⟨S, by (repeat (first | exact Sub.refl _ | refine Sub.setF ?_ (by first | assumption | simp only [*]) | refine Sub.setV ?_ (by first | assumption | simp only [*]))), ?_⟩); simp [Seed.may, h1]
  · have h1 : s.may = false := by
      unfold Seed.may
      rw [Bool.eq_false_iff]
      intro hm
      simp only [Bool.and_eq_true, decide_eq_true_eq] at hm
      rw [Bool.eq_false_iff] at h
      apply h
      simp; omega
    (refine ⟨S, by (repeat (first | exact Sub.refl _ | refine Sub.setF ?_ (by first | assumption | simp only [*]) | refine Sub.setV ?_ (by first | assumption | simp only [*]))), ?_⟩); simp [h1]
theorem ref04_May (s : Seed) : Pure Tryz.prog 63 [s.av] (bl s.may) := fun S => by
  refine callR_of Tryz.func63 rfl rfl (xc_ok (bitB 7) _ _ _ ?_)
  simp only [go_sem]
  refine alloc_intro fun b hb => ?_
  simp only [go_sem]
  (first | refine dec_split (fun h1 => ?_) (fun h1 => ?_) | refine gdd_split (fun h1 => ?_) (fun h1 => ?_) | refine bool_split (fun h1 => ?_) (fun h1 => ?_) | refine gd_split (fun h1 => ?_) (fun h1 => ?_)) <;> simp only [go_sem]
  · (first | refine dec_split (fun h2 => ?_) (fun h2 => ?_) | refine gdd_split (fun h2 => ?_) (fun h2 => ?_) | refine bool_split (fun h2 => ?_) (fun h2 => ?_) | refine gd_split (fun h2 => ?_) (fun h2 => ?_)) <;> simp only [go_sem]
    · (refine ⟨S, by (repeat (first | exact Sub.refl _ | refine Sub.setF ?_ (by first | assumption | simp only [*]) | refine Sub.setV ?_ (by first | assumption | simp only [*]))), ?_⟩); simp [Seed.may, h2, show 0 < s.a by omega]
    · (refine ⟨S, by (repeat (first | exact Sub.refl _ | refine Sub.setF ?_ (by first | assumption | simp only [*]) | refine Sub.setV ?_ (by first | assumption | simp only [*]))), ?_⟩); simp [Seed.may, h2]
  · (refine ⟨S, by (repeat (first | exact Sub.refl _ | refine Sub.setF ?_ (by first | assumption | simp only [*]) | refine Sub.setV ?_ (by first | assumption | simp only [*]))), ?_⟩); simp [Seed.may, show ¬ 0 < s.a by omega]

structure Seed.Ok (s : Seed) : Prop where
  a : s.a < 18446744073709551616
  b : s.b < 18446744073709551616
def restV (s : Seed) (x : Nat) : Nat := addModV (mulModV s.a x) s.b
def colV (s : Seed) (x : Nat) (w : Int) : Int := if w < 1 ∨ s.may = false ∨ ¬ x < 2305843009213693951 then 0 else ((restV s x % w.toNat : Nat) : Int)

theorem ref04_Rest (s : Seed) (x : Nat) (hs : s.Ok) (hx : x < 18446744073709551616) : Pure Tryz.prog 76 [s.av, u64 x] (u64 (restV s x)) := fun S => by
  refine callR_of Tryz.func76 rfl rfl (xc_ok (bitB 23) _ _ _ ?_)
  simp only [go_sem]
  refine alloc_intro fun b hb => ?_
  simp only [go_sem]
  refine AWP.draw2 (bitB 23) mixed (by kernel_rfl) (fun i => if i = 3 then u64 (mulModV s.a x) else u64 (restV s x)) ?_
  simp only [go_sem]
  refine ⟨(ref03_MulMod _ _ hs.a hx).draw, (ref03_AddMod _ _).draw, ?_⟩
  (refine ⟨S, by (repeat (first | exact Sub.refl _ | refine Sub.setF ?_ (by first | assumption | simp only [*]) | refine Sub.setV ?_ (by first | assumption | simp only [*]))), ?_⟩); simp

theorem restV_lt (s : Seed) (x : Nat) : restV s x < 2305843009213693951 := addModV_lt _ _

theorem ref04_Column (s : Seed) (x : Nat) (w : Int) (hs : s.Ok) (hx : x < 18446744073709551616) (hw : w < 9223372036854775808) : Pure Tryz.prog 39 [s.av, u64 x, i64 w] (i64 (colV s x w)) := fun S => by
  refine callR_of Tryz.func39 rfl rfl (xc_ok (bitB 262223) _ _ _ ?_)
  simp only [go_sem]
  refine alloc_intro fun b hb => ?_
  by_cases h1 : w < 1
  · simp only [go_sem, h1]
    (refine ⟨S, by (repeat (first | exact Sub.refl _ | refine Sub.setF ?_ (by first | assumption | simp only [*]) | refine Sub.setV ?_ (by first | assumption | simp only [*]))), ?_⟩); simp [colV, h1]
  · obtain ⟨n, rfl⟩ : ∃ n : Nat, w = n := ⟨w.toNat, by omega⟩
    simp only [go_sem, h1]
    refine (ref04_May s).useA ?_
    cases h2 : s.may
    · simp only [go_sem]
      (refine ⟨S, by (repeat (first | exact Sub.refl _ | refine Sub.setF ?_ (by first | assumption | simp only [*]) | refine Sub.setV ?_ (by first | assumption | simp only [*]))), ?_⟩); simp [colV, h1, h2]
    · simp only [go_sem]
      refine (ref04_Key x).useA ?_
      by_cases h3 : x < 2305843009213693951
      · simp only [go_sem, h3]
        refine (ref04_Rest s x hs hx).useA ?_
        simp only [go_sem]
        have e1 : m64 n = n := m64_id (by omega)
        have e2 : restV s x % n < 9223372036854775808 := Nat.lt_trans (Nat.lt_of_le_of_lt (Nat.mod_le _ _) (restV_lt s x)) (by decide)
        rw [e1, wi_id (by omega) (by omega)]
        refine ⟨by omega, ?_⟩
        (refine ⟨S, by (repeat (first | exact Sub.refl _ | refine Sub.setF ?_ (by first | assumption | simp only [*]) | refine Sub.setV ?_ (by first | assumption | simp only [*]))), ?_⟩); simp [colV, h1, h2, h3]
      · simp only [go_sem, h3]
        (refine ⟨S, by (repeat (first | exact Sub.refl _ | refine Sub.setF ?_ (by first | assumption | simp only [*]) | refine Sub.setV ?_ (by first | assumption | simp only [*]))), ?_⟩); simp [colV, h3]

theorem hash_Column (s : Seed) (x : Nat) (w : Int) (hs : s.Ok) (hx : x < 18446744073709551616) (hw : w < 9223372036854775808) : Pure Tryz.prog 72 [s.av, u64 x, i64 w] (i64 (colV s x w)) := fun S => by
  refine callR_of Tryz.func72 rfl rfl (xc_ok (bitB 262223) _ _ _ ?_)
  simp only [go_sem]
  refine alloc_intro fun b hb => ?_
  by_cases h1 : w < 1
  · simp only [go_sem, h1]
    (refine ⟨S, by (repeat (first | exact Sub.refl _ | refine Sub.setF ?_ (by first | assumption | simp only [*]) | refine Sub.setV ?_ (by first | assumption | simp only [*]))), ?_⟩); simp [colV, h1]
  · obtain ⟨n, rfl⟩ : ∃ n : Nat, w = n := ⟨w.toNat, by omega⟩
    simp only [go_sem, h1]
    refine (hash_May s).useA ?_
    cases h2 : s.may
    · simp only [go_sem]
      (refine ⟨S, by (repeat (first | exact Sub.refl _ | refine Sub.setF ?_ (by first | assumption | simp only [*]) | refine Sub.setV ?_ (by first | assumption | simp only [*]))), ?_⟩); simp [colV, h1, h2]
    · simp only [go_sem]
      refine (hash_Key x).useA ?_
      by_cases h3 : x < 2305843009213693951
      · simp only [go_sem, h3]
        refine AWP.draw2 (bitB 262223) mixed (by kernel_rfl) (fun i => if i = 3 then u64 (mulModV s.a x) else u64 (restV s x)) ?_
        simp only [go_sem]
        have e1 : m64 n = n := m64_id (by omega)
        have e2 : restV s x % n < 9223372036854775808 := Nat.lt_trans (Nat.lt_of_le_of_lt (Nat.mod_le _ _) (restV_lt s x)) (by decide)
        rw [e1, wi_id (by omega) (by omega)]
        refine ⟨(wide_MulMod _ _ hs.a hx).draw, (wide_AddMod _ _ (mulModV_lt _ _) hs.b).draw, by omega, ?_⟩
        (refine ⟨S, by (repeat (first | exact Sub.refl _ | refine Sub.setF ?_ (by first | assumption | simp only [*]) | refine Sub.setV ?_ (by first | assumption | simp only [*]))), ?_⟩); simp [colV, h1, h2, h3]
      · simp only [go_sem, h3]
        (refine ⟨S, by (repeat (first | exact Sub.refl _ | refine Sub.setF ?_ (by first | assumption | simp only [*]) | refine Sub.setV ?_ (by first | assumption | simp only [*]))), ?_⟩); simp [colV, h3]
end Go.Sk
