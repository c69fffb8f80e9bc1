/- Texts W15j A7 A18 A7h A16 A20 A17 A14 A14b A19a, joined. -/
import Derived.Test.YtlbjacoigdpgfaaGreatW15i
import Derived.Test.YtlbjacoigdpgfaaGreatR16A
import Derived.Test.YtlbjacoigdpgfaaGreatR16C
import Derived.Test.YtlbjacoigdpgfaaGreatW0
import Derived.Test.YtlbjacoigdpgfaaGreatW8
set_option linter.unusedSimpArgs false
set_option linter.unusedVariables false
set_option linter.unusedSectionVars false
-- W15j
section
namespace Go.Sk
open Go Go.Proofs

structure Conf2 where (k w : Int) (sd : List Seed)
  deriving Inhabited
def Conf2.cs (c : Conf2) : List PV := [.int .i64 c.k, .int .i64 c.w, .sl (c.sd.map Seed.pv)]
def Conf2.av (c : Conf2) : AV := .agg (c.cs.map .p)
attribute [go_sem] Conf2.cs Conf2.av
def tameE (s : Seed) : Seed := ⟨1 + s.a % 2305843009213693950, s.b % 2305843009213693951⟩
def tameS (c : Conf2) : List Seed := if (c.sd.take 4).map tameE = [] then [⟨3, 1⟩] else (c.sd.take 4).map tameE
def tameK (c : Conf2) : Int := 2 + max c.k 0 % 10
def tameW (c : Conf2) : Int := 1 + max c.w 0 % 7
def tameV (c : Conf2) : Grid := newV (tameK c) (tameW c) (tameS c)
theorem seed_more (l : List Seed) (j : Nat) (h : j < l.length) : List.map Seed.pv ((l.take j).map tameE) ++ [[.int .u64 (1 + (l[j]).a % 2305843009213693950 : Nat), .int .u64 ((l[j]).b % 2305843009213693951 : Nat)]] = List.map Seed.pv ((l.take (j + 1)).map tameE) := by
  rw [List.take_succ_eq_append_getElem h, List.map_append, List.map_append]; rfl

set_option maxHeartbeats 1000000 in
theorem ref15_Tame (c : Conf2) (hn : c.sd.length < 1099511627776) (hk : c.k < 9223372036854775808) (hw : c.w < 9223372036854775808) : Pure Tryz.prog 46 [c.av] (tameV c).av := fun S => by
  refine callR_of Tryz.func46 rfl rfl (xc_ok (bitB 137438961695) _ _ _ ?_)
  simp only [go_sem]
  refine alloc_intro fun c1 h1 => ?_
  simp only [go_sem]
  refine alloc_intro fun c2 h2 => ?_
  simp only [fresh_set] at h2
  simp only [go_sem, h2]
  have y1 : S (.r c1) = none := h1
  have y2 : S (.r c2) = none := h2.2
  refine AWP.tip0 3 2 (by simp only [go_sem]) fun k hk => ?_
  simp only [freshv_setr] at hk
  simp only [go_sem]
  refine AWP.iterE (ι := Option Nat) (fun loc j => ⟨Env.get [(1, .sp c1 0), (2, .sp c2 0), (3, .ts k 2 loc (((c.sd.take j).map tameE).map Seed.pv)), (4, i64 j)],
    ((S.set (.r c1) (.cells [i64 c.k, i64 c.w, .p (.sl (c.sd.map Seed.pv))])).set (.r c2) (.cells [i64 0, .nils, .nils, i64 0, i64 0, .nils])).set (.v k) (.tip 2 j loc), 54, []⟩) (min c.sd.length 4) none ?_ ?_ ?_
  · refine le_of (by simp only [go_sem, List.take_zero, List.map_nil] <;> rfl) ?_ rfl rfl (by simp)
    ((try dsimp only); (repeat refine sub_set ?_ ?_) <;> first | ((repeat (first | exact Sub.refl _ | refine Sub.setF ?_ (by first | assumption | simp only [*]) | refine Sub.setV ?_ (by first | assumption | simp only [*]))); done) | (simp only [go_sem, h2, hk]; done) | (simp only [go_sem, h2, hk]; rfl) | rfl)
  · intro j loc hj jh
    have hj1 : j < c.sd.length := by clear h2; omega
    have hj2 : (j : Int) < 4 := by clear h2; omega
    have hqj : wi ((j : Int) + 1) = ((j + 1 : Nat) : Int) := wi_succ (show j < 4611686018427387904 by clear h2; omega)
    have htl : ((c.sd.take j).map tameE).length = j := by rw [List.length_map]; exact take_len (by clear h2; omega)
    have htl1 : ((c.sd.take (j + 1)).map tameE).length = j + 1 := by rw [List.length_map]; exact take_len (by clear h2; omega)
    refine AWPH.step (xc_ok (bitB 137438961695) _ _ _ ?_)
    simp only [go_sem, h2, hj1, hj2, ltN' hj1, getD_map' _ _ _ _ hj1]
    refine AWP.draw2 (bitB 137438961695) mixed (by kernel_rfl) (fun j => bl false) ?_
    have em : m64 (1 + (c.sd[j]).a % 2305843009213693950) = 1 + (c.sd[j]).a % 2305843009213693950 := m64_id (by clear h2; omega)
    have htl0 : (c.sd.take j).length = j := take_len (by clear h2; omega)
    have htl2 : (c.sd.take (j + 1)).length = j + 1 := take_len (by clear h2; omega)
    simp only [go_sem, h2, hj1, hj2, ltN' hj1, getD_map' _ _ _ _ hj1, em, htl0, hk]
    refine ⟨by rintro el rfl; rfl, seed_len, by clear h2; omega, by clear h2; omega, grow_intro fun loc' => ?_⟩
    simp only [go_sem, h2, hk, hqj, seed_more c.sd j hj1]
    refine (jh loc').back ?_ (by simp) ?_
    · ((try dsimp only); (repeat refine sub_set ?_ ?_) <;> first | ((repeat (first | exact Sub.refl _ | refine Sub.setF ?_ (by first | assumption | simp only [*]) | refine Sub.setV ?_ (by first | assumption | simp only [*]))); done) | (simp only [go_sem, h2, hk, List.length_map, htl2, seed_more c.sd j hj1]; done) | (simp only [go_sem, h2, hk, List.length_map, htl2, seed_more c.sd j hj1]; rfl) | rfl)
    · simp only [go_sem, hqj]
  · intro loc
    have hmin : c.sd.take (min c.sd.length 4) = c.sd.take 4 := by
      by_cases hl : c.sd.length ≤ 4
      · rw [Nat.min_eq_left hl, List.take_length, List.take_of_length_le hl]
      · rw [Nat.min_eq_right (by clear h2; omega)]
    have hlen : (c.sd.take 4).length = min 4 c.sd.length := List.length_take
    have hlm : ((c.sd.take 4).map tameE).length = min c.sd.length 4 := by rw [List.length_map, hlen, Nat.min_comm]
    simp only [hmin]
    generalize hL : (c.sd.take 4).map tameE = L at *
    have r1 : wi (2 + (if 0 > c.k then 0 else c.k).tmod 10) = tameK c := by
      have : (if 0 > c.k then 0 else c.k) = max c.k 0 := by split <;> (clear h2; omega)
      unfold tameK
      rw [this, Int.tmod_eq_emod_of_nonneg (by clear h2; omega)]
      exact wi_id (by clear h2; omega) (by clear h2; omega)
    obtain ⟨wn, hwn⟩ : ∃ n : Nat, tameW c = n := ⟨(tameW c).toNat, by unfold tameW; clear h2; omega⟩
    have hwn2 : wn < 1048576 := by unfold tameW at hwn; clear h2; omega
    have r2 : wi (1 + (if 0 > c.w then 0 else c.w).tmod 7) = (wn : Int) := by
      have : (if 0 > c.w then 0 else c.w) = max c.w 0 := by split <;> (clear h2; omega)
      rw [this, Int.tmod_eq_emod_of_nonneg (by clear h2; omega), ← hwn]
      unfold tameW
      exact wi_id (by clear h2; omega) (by clear h2; omega)
    have hsub : Sub S (((S.set (.r c1) (.cells [i64 c.k, i64 c.w, .p (.sl (c.sd.map Seed.pv))])).set (.r c2) (.cells [i64 0, .nils, .nils, i64 0, i64 0, .nils])).set (.v k) (.tip 2 (min c.sd.length 4) loc)) := Sub.set (Sub.set (Sub.set (Sub.refl _) y1 _) y2 _) hk _
    refine AWPH.step (xc_ok (bitB 137438961695) _ _ _ ?_)
    by_cases a3 : L = []
    · have a1 : ¬ min c.sd.length 4 < c.sd.length := by rw [a3, List.length_nil] at hlm; clear h2; omega
      have hS : tameS c = [⟨3, 1⟩] := by unfold tameS; rw [hL, if_pos a3]
      have hm0 : min c.sd.length 4 = 0 := by rw [a3, List.length_nil] at hlm; exact hlm.symm
      rw [hm0] at hsub
      subst a3
      have hz : ((([] : List Seed).length : Int) == 0) = true := by simp
      simp only [hm0] at a1 ⊢
      simp only [go_sem, h2, a1, hk, List.length_map, hz, r1, r2, List.map_nil]
      refine ⟨by rintro el rfl; rfl, grow_intro fun loc' => ?_⟩
      simp only [go_sem, h2, hk, r1, r2]
      refine ⟨by decide, by decide, (ref15_New (tameK c) wn [⟨3, 1⟩] hwn2 (by decide)).useA ?_⟩
      simp only [go_sem, h2]
      have hfin : newV (tameK c) wn [⟨3, 1⟩] = tameV c := by unfold tameV; rw [hS, hwn]
      refine ⟨S, Sub.set (Sub.set (Sub.set (Sub.set (Sub.refl _) y1 _) y2 _) hk _) y2 _, ?_⟩
      simp [← hfin]
    have hS : tameS c = L := by unfold tameS; rw [hL, if_neg a3]
    have hz : (L.length == 0) = false := by simpa using a3
    have hz2 : ((L.length : Int) == 0) = false := by simpa using a3
    have hfin : newV (tameK c) wn L = tameV c := by unfold tameV; rw [hS, hwn]
    by_cases a1 : min c.sd.length 4 < c.sd.length
    · have a2 : ¬ ((min c.sd.length 4 : Nat) : Int) < 4 := by clear h2; omega
      simp only [go_sem, h2, a1, a2, hk, List.length_map, hz, hz2, r1, r2]
      refine ⟨by decide, by decide, (ref15_New (tameK c) wn L hwn2 (by clear h2; omega)).useA ?_⟩
      simp only [go_sem, h2]
      refine ⟨S, Sub.set hsub y2 _, ?_⟩
      simp [← hfin]
    · simp only [go_sem, h2, a1, hk, List.length_map, hz, hz2, r1, r2]
      refine ⟨by decide, by decide, (ref15_New (tameK c) wn L hwn2 (by clear h2; omega)).useA ?_⟩
      simp only [go_sem, h2]
      refine ⟨S, Sub.set hsub y2 _, ?_⟩
      simp [← hfin]
end Go.Sk
end

-- A7
section
namespace Go.Sk

theorem stay_all (l add : List Span) (many tick most : Nat) (hm : 1 ≤ most) : (stayV l most add many tick).length + 2 * ((outsV l most add many tick).length + leftV l most add many) = l.length + add.length + many := by
  rw [go_less _ _ _ _ _ hm, stay_len]; unfold pairsN; omega
theorem stay_ne (l add : List Span) (many tick most : Nat) (hm : 2 ≤ most) (h : 0 < l.length + add.length + many) : stayV l most add many tick ≠ [] := by
  intro e
  have := congrArg List.length e
  rw [stay_len] at this; unfold pairsN at this; simp at this; omega
theorem mostN_two {k : Nat} (hk : 2 ≤ k) (i : Nat) : 2 ≤ mostN k i := by unfold mostN; split <;> omega

theorem flow_nil_ind (k tick : Nat) (p : Nat → List Span → Nat → Prop) (h0 : ∀ i come many, come.length + many = 0 → p i come many)
    (h1 : ∀ i come many, ¬ come.length + many = 0 → p (i + 1) (outsV [] (mostN k i) come many tick) (leftV [] (mostN k i) come many) → p i come many) : ∀ b i come many, come.length + many ≤ b → p i come many := by
  intro b
  induction b with
  | zero => intro i come many h; exact h0 _ _ _ (by omega)
  | succ b ih =>
    intro i come many h
    by_cases hz : come.length + many = 0
    · exact h0 _ _ _ hz
    · refine h1 i come many hz (ih _ _ _ ?_)
      rw [go_less _ _ _ _ _ (mostN_pos k i)]
      have := mostN_pos k i
      unfold pairsN; simp; omega
theorem flow_ind (k tick : Nat) (p : Nat → List (List Span) → List Span → Nat → Prop) (h0 : ∀ i come many, come.length + many = 0 → p i [] come many)
    (h1 : ∀ i ls come many, ¬ (ls = [] ∧ come.length + many = 0) → p (i + 1) ls.tail (outsV (ls.headD []) (mostN k i) come many tick) (leftV (ls.headD []) (mostN k i) come many) → p i ls come many) : ∀ ls i come many, p i ls come many := by
  have hnil : ∀ i come many, p i [] come many := fun i come many =>
    flow_nil_ind k tick (fun i come many => p i [] come many) h0 (fun i come many hz hp => h1 i [] come many (by simpa using hz) hp) _ i come many (Nat.le_refl _)
  intro ls
  induction ls with
  | nil => exact hnil
  | cons l r ih => intro i come many; exact h1 i (l :: r) come many (by simp) (ih _ _ _)

theorem flow_tot (k tick : Nat) : ∀ ls i come many, totN i (flowV k tick i ls come many) = totN i ls + (come.length + many) * 2 ^ i := by
  refine flow_ind k tick (fun i ls come many => totN i (flowV k tick i ls come many) = totN i ls + (come.length + many) * 2 ^ i) ?_ ?_
  · intro i come many h; rw [flowV_nil h, h]; simp
  · intro i ls come many h ih
    rw [flowV_cons h]
    simp only [totN]
    rw [ih]
    have hs := stay_all (ls.headD []) come many tick (mostN k i) (mostN_pos k i)
    have ht : totN i ls = (ls.headD []).length * 2 ^ i + totN (i + 1) ls.tail := by cases ls <;> simp [totN]
    rw [ht]
    generalize (stayV (ls.headD []) (mostN k i) come many tick).length = A at *
    generalize (outsV (ls.headD []) (mostN k i) come many tick).length + leftV (ls.headD []) (mostN k i) come many = B at *
    generalize (ls.headD []).length = C at *
    have e : C * 2 ^ i + (come.length + many) * 2 ^ i = A * 2 ^ i + (2 * B) * 2 ^ i := by
      rw [← Nat.add_mul, ← Nat.add_mul]; congr 1; omega
    have e2 : B * 2 ^ (i + 1) = (2 * B) * 2 ^ i := by rw [Nat.pow_succ, Nat.mul_comm 2 B, Nat.mul_assoc, Nat.mul_comm 2]
    omega
theorem flow_small (k tick : Nat) : ∀ ls i come many, ∀ l ∈ flowV k tick i ls come many, l.length ≤ k + 2 := by
  refine flow_ind k tick (fun i ls come many => ∀ l ∈ flowV k tick i ls come many, l.length ≤ k + 2) ?_ ?_
  · intro i come many h l hl; rw [flowV_nil h] at hl; cases hl
  · intro i ls come many h ih l hl
    rw [flowV_cons h] at hl
    rcases List.mem_cons.1 hl with rfl | hl
    · exact Nat.le_trans (stay_le _ _ _ _ _ (mostN_pos k i)) (mostN_le k i)
    · exact ih l hl
theorem flow_ne (k tick : Nat) (hk : 2 ≤ k) : ∀ ls i come many, (∀ l ∈ ls, l ≠ []) → ∀ l ∈ flowV k tick i ls come many, l ≠ [] := by
  refine flow_ind k tick (fun i ls come many => (∀ l ∈ ls, l ≠ []) → ∀ l ∈ flowV k tick i ls come many, l ≠ []) ?_ ?_
  · intro i come many h _ l hl; rw [flowV_nil h] at hl; cases hl
  · intro i ls come many h ih hne l hl
    rw [flowV_cons h] at hl
    rcases List.mem_cons.1 hl with rfl | hl
    · refine stay_ne _ _ _ _ _ (mostN_two hk i) ?_
      cases ls with
      | nil => simp only [true_and] at h; simp; omega
      | cons x r =>
        have := hne x List.mem_cons_self
        cases x with
        | nil => exact absurd rfl this
        | cons a b => simp; omega
    · exact ih (fun x hx => hne x (List.mem_of_mem_tail hx)) l hl
theorem tot_levels : ∀ (ls : List (List Span)) (i : Nat), (∀ l ∈ ls, l ≠ []) → 2 ^ (i + ls.length) ≤ totN i ls + 2 ^ i := by
  intro ls
  induction ls with
  | nil => intro i _; simp
  | cons l r ih =>
    intro i h
    have := ih (i + 1) (fun x hx => h x (List.mem_cons_of_mem _ hx))
    have hl : 1 ≤ l.length := by have := h l List.mem_cons_self; cases l with | nil => exact absurd rfl this | cons a b => simp
    have h2 := Nat.mul_le_mul_right (2 ^ i) hl
    simp only [totN, List.length_cons]
    rw [show i + (r.length + 1) = i + 1 + r.length by omega]
    rw [Nat.pow_succ 2 i] at this
    omega

/-- A histogram that came to be by adding alone. -/
structure Hist.Good (h : Hist) : Prop where
  k0 : 2 ≤ h.k
  k1 : h.k ≤ 1024
  ne : ∀ l ∈ h.ls, l ≠ []
  sm : ∀ l ∈ h.ls, l.length ≤ h.k.toNat + 2
  tot : totN 0 h.ls ≤ 4503599627370496
theorem Hist.Good.len {h : Hist} (g : h.Good) : h.ls.length ≤ 53 := by
  have := tot_levels h.ls 0 g.ne
  have h2 := g.tot
  apply Classical.byContradiction
  intro hc
  have : (2 : Nat) ^ 54 ≤ 2 ^ (0 + h.ls.length) := Nat.pow_le_pow_right (by decide) (by omega)
  have e : (2 : Nat) ^ 54 = 18014398509481984 := by decide
  omega
theorem addV_good {h : Hist} (g : h.Good) (t w : Nat) (e : (addV h.k.toNat h.g h.ls t w).2 = 0) : (addV h.k.toNat h.g h.ls t w).1.Good ∧ (addV h.k.toNat h.g h.ls t w).1.k = h.k ∧ (addV h.k.toNat h.g h.ls t w).1.g = h.g ∧ totN 0 (addV h.k.toNat h.g h.ls t w).1.ls = totN 0 h.ls + w := by
  obtain ⟨k, gg, ls⟩ := h
  obtain ⟨h1, h2, h3, h4, h5⟩ := g
  dsimp only at h1 h2 h3 h4 h5 e ⊢
  obtain ⟨k, rfl⟩ : ∃ k' : Nat, k = k' := ⟨k.toNat, by omega⟩
  rw [Int.toNat_natCast] at *
  unfold addV at e ⊢
  split
  · rename_i c; rw [if_pos c] at e; simp at e
  · rename_i c; rw [if_neg c] at e
    split
    · rename_i c; rw [if_pos c] at e; simp at e
    · rename_i c; rw [if_neg c] at e
      split
      · rename_i c; rw [if_pos c] at e; simp at e
      · rename_i c2
        have ht := flow_tot k t ls 0 [] w
        simp only [List.length_nil, Nat.zero_add, Nat.pow_zero, Nat.mul_one] at ht
        refine ⟨⟨h1, h2, flow_ne k t (by omega) ls 0 [] w h3, ?_, ?_⟩, rfl, rfl, ht⟩
        · intro l hl; rw [Int.toNat_natCast]; exact flow_small k t ls 0 [] w l hl
        · dsimp only; rw [ht]; omega
end Go.Sk
end

-- A18
section
namespace Go.Sk

/-- All buckets, the oldest ones first. -/
def flat : List (List Span) → List Span
  | [] => []
  | l :: r => flat r ++ l
theorem flat_tail (ls : List (List Span)) : flat ls = flat ls.tail ++ ls.headD [] := by cases ls <;> simp [flat]
def Bef (x y : Span) : Prop := x.b ≤ y.a
def Mono (W : Nat → Bool) : Prop := ∀ x y, x ≤ y → W x = true → W y = true
def lo (W : Nat → Bool) (l : List Span) : Nat := l.countP (fun s => W s.a)
def hi (W : Nat → Bool) (l : List Span) : Nat := l.countP (fun s => W s.b)
def loL (W : Nat → Bool) : Nat → List (List Span) → Nat
  | _, [] => 0
  | i, l :: r => lo W l * 2 ^ i + loL W (i + 1) r
def hiL (W : Nat → Bool) : Nat → List (List Span) → Nat
  | _, [] => 0
  | i, l :: r => hi W l * 2 ^ i + hiL W (i + 1) r
theorem loL_tail (W : Nat → Bool) (i : Nat) (ls : List (List Span)) : loL W i ls = lo W (ls.headD []) * 2 ^ i + loL W (i + 1) ls.tail := by cases ls <;> simp [loL, lo]
theorem hiL_tail (W : Nat → Bool) (i : Nat) (ls : List (List Span)) : hiL W i ls = hi W (ls.headD []) * 2 ^ i + hiL W (i + 1) ls.tail := by cases ls <;> simp [hiL, hi]
theorem lo_app (W : Nat → Bool) (l m : List Span) : lo W (l ++ m) = lo W l + lo W m := List.countP_append
theorem hi_app (W : Nat → Bool) (l m : List Span) : hi W (l ++ m) = hi W l + hi W m := List.countP_append
theorem lo_rep (W : Nat → Bool) (n t : Nat) : lo W (List.replicate n ⟨t, t⟩) = if W t = true then n else 0 := by unfold lo; rw [List.countP_replicate]
theorem hi_rep (W : Nat → Bool) (n t : Nat) : hi W (List.replicate n ⟨t, t⟩) = if W t = true then n else 0 := by unfold hi; rw [List.countP_replicate]

theorem pairUp_take (l : List Span) : ∀ p, pairUp (l.take (2 * p)) = (pairUp l).take p := by
  induction l using pairUp.induct with
  | case1 a b r ih =>
    intro p
    cases p with
    | zero => simp [pairUp]
    | succ p =>
      rw [show 2 * (p + 1) = 2 * p + 1 + 1 by omega]
      simp only [List.take_succ_cons, pairUp, ih]
  | case2 l h =>
    intro p
    match l, h with
    | [], _ => simp [pairUp]
    | [x], _ =>
      cases p with
      | zero => simp [pairUp]
      | succ p => rw [show 2 * (p + 1) = 2 * p + 1 + 1 by omega]; simp [pairUp]
    | x :: y :: r, h => exact absurd rfl (h x y r)
/-- What leaves a level. -/
theorem pair_all (l add : List Span) (many tick most : Nat) (hm : 1 ≤ most) :
    outsV l most add many tick ++ List.replicate (leftV l most add many) ⟨tick, tick⟩ = pairUp ((lineV l add many tick).take (2 * pairsN (l.length + add.length + many) most)) := by
  rw [pairUp_take]
  have h2 : outsN (l.length + add.length) most many ≤ pairsN (l.length + add.length + many) most := by unfold outsN; omega
  have hlen : (pairUp (lineV l add many tick)).length = (l.length + add.length + many) / 2 := by rw [pairUp_length, lineV_length]
  have hp : pairsN (l.length + add.length + many) most ≤ (l.length + add.length + many) / 2 := by unfold pairsN; omega
  apply List.ext_getElem
  · rw [List.length_append, List.length_replicate, outs_len _ _ _ _ _ hm, List.length_take, hlen]
    unfold leftV; omega
  · intro i h3 h4
    rw [List.length_take, hlen] at h4
    have hol := outs_len l add many tick most hm
    have hi : i < (pairUp (lineV l add many tick)).length := by omega
    rw [List.getElem_take]
    by_cases hc : i < (outsV l most add many tick).length
    · rw [List.getElem_append_left hc]
      exact List.getElem_take
    · rw [List.getElem_append_right (by omega), List.getElem_replicate]
      rw [hol] at hc
      have hj : (l.length + add.length + 1) / 2 ≤ i := by unfold outsN at hc; omega
      rw [pairUp_get _ i hi (by rw [lineV_length]; omega) (by rw [lineV_length]; omega)]
      rw [lineV_ge (by omega), lineV_ge (by omega)]
theorem flow_c (k tick : Nat) (p : Nat → List (List Span) → List Span → List (List Span) → Prop) (h0 : ∀ i, p i [] [] [])
    (h1 : ∀ i ls c out, ¬ (ls = [] ∧ c = []) → p (i + 1) ls.tail (pairUp ((ls.headD [] ++ c).take (2 * pairsN (ls.headD [] ++ c).length (mostN k i)))) out →
      p i ls c ((ls.headD [] ++ c).drop (2 * pairsN (ls.headD [] ++ c).length (mostN k i)) :: out)) :
    ∀ ls i come many, p i ls (come ++ List.replicate many (⟨tick, tick⟩ : Span)) (flowV k tick i ls come many) := by
  refine flow_ind k tick (fun i ls come many => p i ls (come ++ List.replicate many (⟨tick, tick⟩ : Span)) (flowV k tick i ls come many)) ?_ ?_
  · intro i come many h
    rw [flowV_nil h]
    obtain rfl : come = [] := List.eq_nil_of_length_eq_zero (by omega)
    obtain rfl : many = 0 := by simpa using h
    exact h0 i
  · intro i ls come many h ih
    rw [flowV_cons h]
    rw [pair_all _ _ _ _ _ (mostN_pos k i)] at ih
    have e1 : lineV (ls.headD []) come many tick = ls.headD [] ++ (come ++ List.replicate many (⟨tick, tick⟩ : Span)) := by unfold lineV; rw [List.append_assoc]
    have e2 : (ls.headD []).length + come.length + many = (ls.headD [] ++ (come ++ List.replicate many (⟨tick, tick⟩ : Span))).length := by simp; omega
    rw [e2, e1] at ih
    have := h1 i ls (come ++ List.replicate many (⟨tick, tick⟩ : Span)) _ (by
      rintro ⟨rfl, hc⟩
      apply h
      have := congrArg List.length hc
      simp at this
      refine ⟨rfl, ?_⟩
      simp [this]) ih
    unfold stayV
    rw [e2, e1]
    exact this

theorem pairUp_none {l : List Span} (h : ∀ a b r, ¬ l = a :: b :: r) : pairUp l = [] := by
  match l, h with
  | [], _ => rfl
  | [x], _ => rfl
  | x :: y :: r, h => exact absurd rfl (h x y r)
theorem pairUp_mem (P : List Span) : ∀ z ∈ pairUp P, ∃ x ∈ P, ∃ y ∈ P, z = ⟨x.a, y.b⟩ := by
  induction P using pairUp.induct with
  | case1 a b r ih =>
    intro z hz
    rcases List.mem_cons.1 hz with rfl | hz
    · exact ⟨a, by simp, b, by simp, rfl⟩
    · obtain ⟨x, hx, y, hy, rfl⟩ := ih z hz
      exact ⟨x, by simp [hx], y, by simp [hy], rfl⟩
  | case2 l h =>
    intro z hz
    rw [pairUp_none h] at hz; cases hz
theorem pairUp_srt (P : List Span) : P.Pairwise Bef → (∀ s ∈ P, s.a ≤ s.b) → (pairUp P).Pairwise Bef ∧ ∀ s ∈ pairUp P, s.a ≤ s.b := by
  induction P using pairUp.induct with
  | case1 a b r ih =>
    intro h hv
    rw [List.pairwise_cons, List.pairwise_cons] at h
    obtain ⟨h1, h2, h3⟩ := h
    obtain ⟨i1, i2⟩ := ih h3 (fun s hs => hv s (by simp [hs]))
    have hab : a.b ≤ b.a := h1 b (by simp)
    have hva := hv a (by simp); have hvb := hv b (by simp)
    refine ⟨?_, ?_⟩
    · simp only [pairUp, List.pairwise_cons]
      refine ⟨fun z hz => ?_, i1⟩
      obtain ⟨x, hx, y, hy, rfl⟩ := pairUp_mem r z hz
      exact h2 x hx
    · intro s hs
      rcases List.mem_cons.1 hs with rfl | hs
      · show a.a ≤ b.b; omega
      · exact i2 s hs
  | case2 l h =>
    intro _ _
    have : pairUp l = [] := pairUp_none h
    rw [this]; exact ⟨List.Pairwise.nil, fun s hs => (by cases hs)⟩
theorem pairUp_lo (W : Nat → Bool) (hW : Mono W) (P : List Span) : P.Pairwise Bef → (∀ s ∈ P, s.a ≤ s.b) → 2 * lo W (pairUp P) ≤ lo W P := by
  induction P using pairUp.induct with
  | case1 a b r ih =>
    intro h hv
    rw [List.pairwise_cons, List.pairwise_cons] at h
    obtain ⟨h1, h2, h3⟩ := h
    have i1 := ih h3 (fun s hs => hv s (by simp [hs]))
    have hab : a.b ≤ b.a := h1 b (by simp)
    have hva := hv a (by simp)
    unfold lo at i1 ⊢
    simp only [pairUp, List.countP_cons]
    cases hc : W a.a with
    | false => simp; omega
    | true => rw [hW a.a b.a (by omega) hc]; simp; omega
  | case2 l h =>
    intro _ _
    have : pairUp l = [] := pairUp_none h
    rw [this]; simp [lo]
theorem pairUp_hi (W : Nat → Bool) (hW : Mono W) (P : List Span) : P.Pairwise Bef → (∀ s ∈ P, s.a ≤ s.b) → P.length % 2 = 0 → hi W P ≤ 2 * hi W (pairUp P) := by
  induction P using pairUp.induct with
  | case1 a b r ih =>
    intro h hv he
    rw [List.pairwise_cons, List.pairwise_cons] at h
    obtain ⟨h1, h2, h3⟩ := h
    have i1 := ih h3 (fun s hs => hv s (by simp [hs])) (by simp only [List.length_cons] at he; omega)
    have hab : a.b ≤ b.a := h1 b (by simp)
    have hvb := hv b (by simp)
    unfold hi at i1 ⊢
    simp only [pairUp, List.countP_cons]
    cases hc : W b.b with
    | true => cases W a.b <;> simp <;> omega
    | false =>
      have : W a.b = false := by
        cases hd : W a.b with
        | false => rfl
        | true => rw [hW a.b b.b (by omega) hd] at hc; exact hc
      rw [this]; simp; omega
  | case2 l h =>
    intro _ _ he
    match l, h with
    | [], _ => simp [hi]
    | [x], _ => simp at he
    | x :: y :: r, h => exact absurd rfl (h x y r)

theorem flow_tidy (k tick : Nat) : ∀ ls i come many, (flat ls ++ (come ++ List.replicate many (⟨tick, tick⟩ : Span))).Pairwise Bef → (∀ s ∈ flat ls ++ (come ++ List.replicate many (⟨tick, tick⟩ : Span)), s.a ≤ s.b) →
    (flat (flowV k tick i ls come many)).Pairwise Bef ∧ (∀ s ∈ flat (flowV k tick i ls come many), s.a ≤ s.b) ∧
    (∀ m, (∀ s ∈ flat ls ++ (come ++ List.replicate many (⟨tick, tick⟩ : Span)), s.b ≤ m) → ∀ s ∈ flat (flowV k tick i ls come many), s.b ≤ m) ∧
    ∀ W, Mono W → loL W i (flowV k tick i ls come many) ≤ loL W i ls + lo W (come ++ List.replicate many (⟨tick, tick⟩ : Span)) * 2 ^ i ∧
      hiL W i ls + hi W (come ++ List.replicate many (⟨tick, tick⟩ : Span)) * 2 ^ i ≤ hiL W i (flowV k tick i ls come many) := by
  refine flow_c k tick (fun i ls c out => (flat ls ++ c).Pairwise Bef → (∀ s ∈ flat ls ++ c, s.a ≤ s.b) → (flat out).Pairwise Bef ∧ (∀ s ∈ flat out, s.a ≤ s.b) ∧
    (∀ m, (∀ s ∈ flat ls ++ c, s.b ≤ m) → ∀ s ∈ flat out, s.b ≤ m) ∧ ∀ W, Mono W → loL W i out ≤ loL W i ls + lo W c * 2 ^ i ∧ hiL W i ls + hi W c * 2 ^ i ≤ hiL W i out) ?_ ?_
  · intro i _ _
    refine ⟨List.Pairwise.nil, fun s hs => (by cases hs), fun m _ s hs => (by cases hs), fun W _ => ?_⟩
    simp [loL, hiL, lo, hi]
  · intro i ls c out hne ih hs hv
    have hm := mostN_pos k i
    have hq : 2 * pairsN (ls.headD [] ++ c).length (mostN k i) ≤ (ls.headD [] ++ c).length := by unfold pairsN; omega
    rw [flat_tail ls, List.append_assoc] at hs hv
    have hfl : flat ls ++ c = flat ls.tail ++ (ls.headD [] ++ c) := by rw [flat_tail ls, List.append_assoc]
    rw [hfl]
    have hl1 : ∀ W, lo W (ls.headD [] ++ c) = lo W (ls.headD []) + lo W c := fun W => lo_app W _ _
    have hh1 : ∀ W, hi W (ls.headD [] ++ c) = hi W (ls.headD []) + hi W c := fun W => hi_app W _ _
    generalize hL : ls.headD [] ++ c = L at *
    generalize hQ : 2 * pairsN L.length (mostN k i) = q at *
    have hev : q % 2 = 0 := by omega
    have hsp : L.take q ++ L.drop q = L := List.take_append_drop q L
    have hs' := hs
    rw [← hsp, List.pairwise_append, List.pairwise_append] at hs'
    obtain ⟨s1, ⟨s2, s3, s4⟩, s5⟩ := hs'
    have hvL : ∀ s ∈ L, s.a ≤ s.b := fun s h => hv s (List.mem_append_right _ h)
    have hvT : ∀ s ∈ L.take q, s.a ≤ s.b := fun s h => hvL s (List.mem_of_mem_take h)
    obtain ⟨p1, p2⟩ := pairUp_srt (L.take q) s2 hvT
    have cross : ∀ x ∈ flat ls.tail, ∀ z ∈ pairUp (L.take q), Bef x z := by
      intro x hx z hz
      obtain ⟨u, hu, v, hv2, rfl⟩ := pairUp_mem _ z hz
      exact s5 x hx u (by rw [List.take_append_drop]; exact List.mem_of_mem_take hu)
    obtain ⟨i1, i2, i3, i4⟩ := ih (List.pairwise_append.2 ⟨s1, p1, cross⟩) (fun s h => by
      rcases List.mem_append.1 h with h | h
      · exact hv s (List.mem_append_left _ h)
      · exact p2 s h)
    refine ⟨?_, ?_, ?_, ?_⟩
    · show (flat out ++ L.drop q).Pairwise Bef
      refine List.pairwise_append.2 ⟨i1, s3, fun x hx y hy => ?_⟩
      refine i3 y.a (fun s h => ?_) x hx
      rcases List.mem_append.1 h with h | h
      · exact s5 s h y (by rw [List.take_append_drop]; exact List.mem_of_mem_drop hy)
      · obtain ⟨u, hu, v, hv2, rfl⟩ := pairUp_mem _ s h
        exact s4 v hv2 y hy
    · intro s h
      rcases List.mem_append.1 h with h | h
      · exact i2 s h
      · exact hvL s (List.mem_of_mem_drop h)
    · intro m hm2 s h
      rcases List.mem_append.1 h with h | h
      · refine i3 m (fun z hz => ?_) s h
        rcases List.mem_append.1 hz with hz | hz
        · exact hm2 z (List.mem_append_left _ hz)
        · obtain ⟨u, hu, v, hv2, rfl⟩ := pairUp_mem _ z hz
          exact hm2 v (List.mem_append_right _ (List.mem_of_mem_take hv2))
      · exact hm2 s (List.mem_append_right _ (List.mem_of_mem_drop h))
    · intro W hW
      obtain ⟨j1, j2⟩ := i4 W hW
      have k1 := pairUp_lo W hW (L.take q) s2 hvT
      have k2 := pairUp_hi W hW (L.take q) s2 hvT (by rw [List.length_take]; omega)
      have k3 : lo W L = lo W (L.take q) + lo W (L.drop q) := by rw [← lo_app, hsp]
      have k4 : hi W L = hi W (L.take q) + hi W (L.drop q) := by rw [← hi_app, hsp]
      have k5 := hl1 W; have k6 := hh1 W
      rw [loL_tail W i ls, hiL_tail W i ls]
      show lo W (L.drop q) * 2 ^ i + loL W (i + 1) out ≤ _ ∧ _ ≤ hi W (L.drop q) * 2 ^ i + hiL W (i + 1) out
      rw [Nat.pow_succ] at j1 j2
      have m1 : 2 * lo W (pairUp (L.take q)) * 2 ^ i ≤ lo W (L.take q) * 2 ^ i := Nat.mul_le_mul_right _ k1
      have m2 : hi W (L.take q) * 2 ^ i ≤ 2 * hi W (pairUp (L.take q)) * 2 ^ i := Nat.mul_le_mul_right _ k2
      have e1 : lo W (pairUp (L.take q)) * (2 ^ i * 2) = 2 * lo W (pairUp (L.take q)) * 2 ^ i := by rw [Nat.mul_comm (2 ^ i) 2, ← Nat.mul_assoc, Nat.mul_comm _ 2]
      have e2 : hi W (pairUp (L.take q)) * (2 ^ i * 2) = 2 * hi W (pairUp (L.take q)) * 2 ^ i := by rw [Nat.mul_comm (2 ^ i) 2, ← Nat.mul_assoc, Nat.mul_comm _ 2]
      have e3 : lo W (ls.headD []) * 2 ^ i + lo W c * 2 ^ i = lo W (L.take q) * 2 ^ i + lo W (L.drop q) * 2 ^ i := by rw [← Nat.add_mul, ← Nat.add_mul]; congr 1; omega
      have e4 : hi W (ls.headD []) * 2 ^ i + hi W c * 2 ^ i = hi W (L.take q) * 2 ^ i + hi W (L.drop q) * 2 ^ i := by rw [← Nat.add_mul, ← Nat.add_mul]; congr 1; omega
      omega

/-- Each level, but the last one, is full. -/
def Full (k : Nat) : Nat → List (List Span) → Prop
  | _, [] => True
  | i, l :: r => (r ≠ [] → mostN k i ≤ l.length + 1) ∧ Full k (i + 1) r
theorem flow_full (k tick : Nat) : ∀ ls i come many, Full k i ls → Full k i (flowV k tick i ls come many) := by
  intro ls i come many
  refine (flow_c k tick (fun i ls c out => (ls = [] → c = [] → out = []) ∧ (Full k i ls → Full k i out)) ?_ ?_ ls i come many).2
  · intro i; exact ⟨fun _ _ => rfl, id⟩
  · intro i ls c out hne ih
    refine ⟨fun h1 h2 => absurd ⟨h1, h2⟩ hne, fun hf => ?_⟩
    have hm := mostN_pos k i
    refine ⟨fun ho => ?_, ih.2 (by cases ls with | nil => trivial | cons l r => exact hf.2)⟩
    rw [List.length_drop]
    by_cases hp : pairsN (ls.headD [] ++ c).length (mostN k i) = 0
    · rw [hp] at ih ⊢
      have ht : ls.tail ≠ [] := fun ht => ho (ih.1 ht (by simp [pairUp]))
      cases ls with
      | nil => exact absurd rfl ht
      | cons l r => have := hf.1 ht; simp only [List.headD_cons, List.length_append]; omega
    · unfold pairsN at hp ⊢; omega

/-- As a histogram is that no merge made. -/
structure Tidy (k : Nat) (ls : List (List Span)) : Prop where
  srt : (flat ls).Pairwise Bef
  val : ∀ s ∈ flat ls, s.a ≤ s.b
  low : ∀ s ∈ ls.headD [], s.a = s.b
  full : Full k 0 ls
theorem last_le {k : Nat} {ls : List (List Span)} (h : Tidy k ls) (hne : ∀ l ∈ ls, l ≠ []) {t : Nat} (ht : ¬ ((lastV ls).2 = true ∧ t < (lastV ls).1)) : ∀ s ∈ flat ls, s.b ≤ t := by
  cases ls with
  | nil => intro s hs; cases hs
  | cons l r =>
    have hl := hne l (by simp)
    obtain ⟨d, x, rfl⟩ : ∃ d x, l = d ++ [x] := ⟨l.dropLast, l.getLast hl, (List.dropLast_concat_getLast hl).symm⟩
    have hx : lastV ((d ++ [x]) :: r) = (x.b, true) := by simp [lastV]
    rw [hx] at ht
    simp only [true_and] at ht
    have e : flat ((d ++ [x]) :: r) = (flat r ++ d) ++ [x] := by simp [flat]
    have hs := h.srt
    have hv := h.val
    rw [e] at hs hv ⊢
    obtain ⟨_, _, h3⟩ := List.pairwise_append.1 hs
    have hvx := hv x (by simp)
    intro s h
    rcases List.mem_append.1 h with h | h
    · have := h3 s h x (by simp)
      unfold Bef at this; omega
    · simp only [List.mem_singleton] at h; subst h; omega
theorem addV_tidy {h : Hist} (g : h.Good) (hT : Tidy h.k.toNat h.ls) (t w : Nat) (e : (addV h.k.toNat h.g h.ls t w).2 = 0) : Tidy h.k.toNat (addV h.k.toNat h.g h.ls t w).1.ls ∧
    ∀ W, Mono W → loL W 0 (addV h.k.toNat h.g h.ls t w).1.ls ≤ loL W 0 h.ls + (if W t = true then w else 0) ∧ hiL W 0 h.ls + (if W t = true then w else 0) ≤ hiL W 0 (addV h.k.toNat h.g h.ls t w).1.ls := by
  unfold addV at e ⊢
  split
  · rename_i c; rw [if_pos c] at e; simp at e
  rename_i c; rw [if_neg c] at e
  split
  · rename_i c; rw [if_pos c] at e; simp at e
  rename_i c2; rw [if_neg c2] at e
  split
  · rename_i c; rw [if_pos c] at e; simp at e
  have hle := last_le hT g.ne (t := t) (fun hc => c2 (Or.inr hc))
  have hs : (flat h.ls ++ ([] ++ List.replicate w (⟨t, t⟩ : Span))).Pairwise Bef := by
    refine List.pairwise_append.2 ⟨hT.srt, ?_, ?_⟩
    · rw [List.nil_append]; exact List.pairwise_replicate.2 (Or.inr (Nat.le_refl t))
    · intro x hx y hy
      rw [List.nil_append] at hy
      rw [List.eq_of_mem_replicate hy]; exact hle x hx
  have hv : ∀ s ∈ flat h.ls ++ ([] ++ List.replicate w (⟨t, t⟩ : Span)), s.a ≤ s.b := by
    intro s hs
    rcases List.mem_append.1 hs with hs | hs
    · exact hT.val s hs
    · rw [List.nil_append] at hs; rw [List.eq_of_mem_replicate hs]; exact Nat.le_refl _
  obtain ⟨r1, r2, _, r4⟩ := flow_tidy h.k.toNat t h.ls 0 [] w hs hv
  refine ⟨⟨r1, r2, ?_, flow_full _ _ _ _ _ _ hT.full⟩, fun W hW => ?_⟩
  · intro s hs
    dsimp only at hs
    rw [flowV_cons (by rintro ⟨_, h0⟩; simp at h0; exact c h0)] at hs
    simp only [List.headD_cons] at hs
    unfold stayV lineV at hs
    have := List.mem_of_mem_drop hs
    rw [List.append_nil] at this
    rcases List.mem_append.1 this with h1 | h1
    · exact hT.low s h1
    · rw [List.eq_of_mem_replicate h1]
  · have := r4 W hW
    rw [List.nil_append, lo_rep, hi_rep, Nat.pow_zero, Nat.mul_one] at this
    exact this
theorem empty_tidy (k : Nat) : Tidy k [] := ⟨List.Pairwise.nil, fun s hs => (by cases hs), fun s hs => (by cases hs), trivial⟩

/-- Of a level, one bucket at most is cut. -/
theorem cut_one (W : Nat → Bool) (hW : Mono W) : ∀ l : List Span, l.Pairwise Bef → (∀ s ∈ l, s.a ≤ s.b) → hi W l = lo W l ∨ hi W l = lo W l + 1 := by
  intro l
  induction l with
  | nil => intro _ _; exact Or.inl rfl
  | cons x t ih =>
    intro h hv
    rw [List.pairwise_cons] at h
    have hx := hv x (by simp)
    have i := ih h.2 (fun s hs => hv s (by simp [hs]))
    cases hc : W x.b with
    | true =>
      have h1 : lo W t = t.length := by
        unfold lo; rw [List.countP_eq_length]
        intro y hy; exact hW x.b y.a (h.1 y hy) hc
      have h2 : hi W t = t.length := by
        unfold hi; rw [List.countP_eq_length]
        intro y hy; exact hW x.b y.b (Nat.le_trans (h.1 y hy) (hv y (by simp [hy]))) hc
      unfold lo at h1 ⊢
      unfold hi at h2 ⊢
      simp only [List.countP_cons, hc]
      cases W x.a <;> simp <;> omega
    | false =>
      have : W x.a = false := by
        cases hd : W x.a with
        | false => rfl
        | true => rw [hW x.a x.b hx hd] at hc; exact hc
      unfold lo hi at i
      unfold lo hi
      simp only [List.countP_cons, hc, this]
      simpa using i
theorem hi_pos (W : Nat → Bool) : ∀ (ls : List (List Span)) (i : Nat), 0 < hiL W i ls → ∃ s ∈ flat ls, W s.b = true := by
  intro ls
  induction ls with
  | nil => intro i h; simp [hiL] at h
  | cons l r ih =>
    intro i h
    unfold hiL at h
    by_cases hc : hi W l = 0
    · rw [hc] at h
      obtain ⟨s, hs, hb⟩ := ih (i + 1) (by omega)
      exact ⟨s, List.mem_append_left _ hs, hb⟩
    · obtain ⟨s, hs, hb⟩ := List.countP_pos_iff.1 (Nat.pos_of_ne_zero hc)
      exact ⟨s, List.mem_append_right _ hs, hb⟩
theorem cut_all (k : Nat) (W : Nat → Bool) (hW : Mono W) : ∀ (ls : List (List Span)) (i : Nat), (flat ls).Pairwise Bef → (∀ s ∈ flat ls, s.a ≤ s.b) → (i = 0 → ∀ s ∈ ls.headD [], s.a = s.b) → Full k i ls →
    hiL W i ls = loL W i ls ∨ ∃ j, i ≤ j ∧ 1 ≤ j ∧ hiL W i ls = loL W i ls + 2 ^ j ∧ k * 2 ^ j ≤ 2 * loL W i ls + (if i = 0 then 0 else k * 2 ^ i) := by
  intro ls
  induction ls with
  | nil => intro i _ _ _ _; exact Or.inl rfl
  | cons l r ih =>
    intro i hs hv hlow hf
    obtain ⟨s1, s2, s3⟩ := List.pairwise_append.1 (show (flat r ++ l).Pairwise Bef from hs)
    have hvl : ∀ s ∈ l, s.a ≤ s.b := fun s h => hv s (List.mem_append_right _ h)
    have hvr : ∀ s ∈ flat r, s.a ≤ s.b := fun s h => hv s (List.mem_append_left _ h)
    have c1 := cut_one W hW l s2 hvl
    unfold hiL loL
    rcases ih (i + 1) s1 hvr (by omega) hf.2 with hr | ⟨j, hj, hj1, hr, hb⟩
    · rcases c1 with c1 | c1
      · left; rw [c1, hr]
      · right
        by_cases h0 : i = 0
        · exfalso
          have : hi W l = lo W l := by
            unfold hi lo
            apply List.countP_congr
            intro s hs; rw [hlow h0 s hs]
          omega
        · refine ⟨i, Nat.le_refl _, by omega, ?_, ?_⟩
          · rw [c1, hr, Nat.add_mul, Nat.one_mul]; omega
          · rw [if_neg h0]; omega
    · right
      have hpos : 0 < 2 ^ j := Nat.pow_pos (by decide)
      obtain ⟨s, hsm, hsb⟩ := hi_pos W r (i + 1) (by omega)
      have h1 : lo W l = l.length := by
        unfold lo; rw [List.countP_eq_length]
        intro y hy; exact hW s.b y.a (s3 s hsm y hy) hsb
      have h2 : hi W l = l.length := by
        unfold hi; rw [List.countP_eq_length]
        intro y hy; exact hW s.b y.b (Nat.le_trans (s3 s hsm y hy) (hvl y hy)) hsb
      have hrne : r ≠ [] := by rintro rfl; cases hsm
      have hfl := hf.1 hrne
      refine ⟨j, by omega, hj1, by rw [h1, h2, hr]; omega, ?_⟩
      rw [if_neg (by omega), Nat.pow_succ] at hb
      rw [h1]
      unfold mostN at hfl
      by_cases h0 : i = 0
      · subst h0
        rw [if_pos rfl] at hfl ⊢
        simp only [Nat.pow_zero, Nat.one_mul, Nat.mul_one, Nat.zero_add] at hb ⊢
        omega
      · rw [if_neg h0] at hfl ⊢
        have m1 : k * 2 ^ i ≤ 2 * l.length * 2 ^ i := Nat.mul_le_mul_right _ (by omega)
        have e1 : k * (2 ^ i * 2) = k * 2 ^ i + k * 2 ^ i := by rw [Nat.mul_comm (2 ^ i) 2, ← Nat.mul_assoc, Nat.mul_comm k 2, Nat.mul_assoc]; omega
        have e2 : 2 * l.length * 2 ^ i = 2 * (l.length * 2 ^ i) := Nat.mul_assoc _ _ _
        omega
/-- The bound. -/
theorem est_bound {k : Nat} {ls : List (List Span)} (hk : 2 ≤ k) (h : Tidy k ls) (W : Nat → Bool) (hW : Mono W) {R : Nat} (h1 : loL W 0 ls ≤ R) (h2 : R ≤ hiL W 0 ls) :
    (k - 1) * R ≤ k * (loL W 0 ls + (hiL W 0 ls - loL W 0 ls) / 2) ∧ k * (loL W 0 ls + (hiL W 0 ls - loL W 0 ls) / 2) ≤ (k + 1) * R := by
  obtain ⟨k, rfl⟩ : ∃ m, k = m + 1 := ⟨k - 1, by omega⟩
  rcases cut_all (k + 1) W hW ls 0 h.srt h.val (fun _ => h.low) h.full with e | ⟨j, _, hj, e, hb⟩
  · obtain rfl : R = loL W 0 ls := by omega
    rw [e, Nat.sub_self, Nat.zero_div, Nat.add_zero, Nat.add_sub_cancel]
    exact ⟨Nat.mul_le_mul_right _ (by omega), Nat.mul_le_mul_right _ (by omega)⟩
  · obtain ⟨i, rfl⟩ : ∃ i, j = i + 1 := ⟨j - 1, by omega⟩
    rw [if_pos rfl, Nat.pow_succ, Nat.add_zero] at hb
    rw [e, Nat.pow_succ] at h2
    rw [e, Nat.add_sub_cancel_left, Nat.pow_succ, Nat.mul_div_cancel _ (by decide), Nat.add_sub_cancel]
    generalize loL W 0 ls = L at *
    generalize 2 ^ i = c at *
    have e1 : (k + 1) * (c * 2) = 2 * (k * c) + 2 * c := by rw [Nat.add_mul, ← Nat.mul_assoc]; omega
    have m1 : k * R ≤ k * (L + c * 2) := Nat.mul_le_mul_left _ h2
    have e2 : k * (L + c * 2) = k * L + 2 * (k * c) := by rw [Nat.mul_add, ← Nat.mul_assoc]; omega
    have e3 : (k + 1) * (L + c) = k * L + k * c + L + c := by rw [Nat.add_mul, Nat.mul_add]; omega
    have m2 : (k + 1 + 1) * L ≤ (k + 1 + 1) * R := Nat.mul_le_mul_left _ h1
    have e4 : (k + 1 + 1) * L = k * L + 2 * L := by rw [Nat.add_mul, Nat.add_mul]; omega
    omega
end Go.Sk
end

-- A7h
section
namespace Go.Sk

theorem Hist.Good.ok {h : Hist} (g : h.Good) : h.Ok :=
  ⟨by have := g.k0; omega, by have := g.k1; omega, by have := g.len; omega, fun l hl => by have := g.sm l hl; have := g.k1; omega, g.tot⟩
theorem Hist.Good.small {h : Hist} (g : h.Good) : h.Small := ⟨by have := g.len; omega, fun l hl => by have := g.sm l hl; have := g.k1; omega⟩
theorem addH_good {h : Hist} (g : h.Good) (t w : Nat) (e : (addH h t w).2 = 0) : (addH h t w).1.Good ∧ (addH h t w).1.k = h.k ∧ (addH h t w).1.g = h.g ∧ totN 0 (addH h t w).1.ls = totN 0 h.ls + w := addV_good g t w e
theorem addH_tidy {h : Hist} (g : h.Good) (hT : Tidy h.k.toNat h.ls) (t w : Nat) (e : (addH h t w).2 = 0) : Tidy h.k.toNat (addH h t w).1.ls ∧
    ∀ W, Mono W → loL W 0 (addH h t w).1.ls ≤ loL W 0 h.ls + (if W t = true then w else 0) ∧ hiL W 0 h.ls + (if W t = true then w else 0) ≤ hiL W 0 (addH h t w).1.ls := addV_tidy g hT t w e
end Go.Sk
end

-- A16
section
namespace Go.Sk

structure Grid.Good (g : Grid) : Prop where
  w1 : 1 ≤ g.w
  w2 : g.w ≤ 256
  n : g.rows.length ≤ 8
  sd : g.sd.length = g.rows.length
  wid : ∀ r ∈ g.rows, r.length = g.w.toNat
  all : g.all.Good
  hs : ∀ r ∈ g.rows, ∀ h ∈ r, h.Good
  so : ∀ s ∈ g.sd, s.may = true
theorem Seed.ok_of_may {s : Seed} (h : s.may = true) : s.Ok := by
  unfold Seed.may at h
  simp only [Bool.and_eq_true, decide_eq_true_eq] at h
  constructor <;> omega
theorem Grid.Good.ok {g : Grid} (h : g.Good) : g.Ok :=
  ⟨h.w1, by have := h.w2; omega, by have := h.n; omega, h.sd, h.wid, h.all.ok, fun r hr x hx => (h.hs r hr x hx).ok, fun s hs => Seed.ok_of_may (h.so s hs)⟩
theorem Grid.Good.small {g : Grid} (h : g.Good) : g.Small :=
  ⟨by have := h.n; have := h.sd; omega, ⟨by have := h.n; omega, fun r hr => ⟨by have := h.wid r hr; have := h.w2; omega, fun x hx => (h.hs r hr x hx).small⟩⟩, h.all.small⟩
theorem Grid.Good.sz {g : Grid} (h : g.Good) : g.Sz := ⟨by have := h.n; omega, fun r hr => by have := h.wid r hr; have := h.w2; omega⟩

theorem emptyH_good {k : Int} (h1 : 2 ≤ k) (h2 : k ≤ 1024) : (emptyH k).Good := ⟨h1, h2, fun l hl => (by cases hl), fun l hl => (by cases hl), by simp [emptyH, totN]⟩
theorem newV_good {k w : Int} {sd : List Seed} (h1 : 2 ≤ k) (h2 : k ≤ 1024) (w1 : 1 ≤ w) (w2 : w ≤ 256) (n : sd.length ≤ 8) (so : ∀ s ∈ sd, s.may = true) : (newV k w sd).Good := by
  refine ⟨w1, w2, by simp [newV]; exact n, by simp [newV], ?_, emptyH_good h1 h2, ?_, so⟩
  · intro r hr
    rw [List.eq_of_mem_replicate hr]; simp [newV]
  · intro r hr h hh
    rw [List.eq_of_mem_replicate hr] at hh
    rw [List.eq_of_mem_replicate hh]; exact emptyH_good h1 h2
theorem tameS_may (c : Conf2) : ∀ s ∈ tameS c, s.may = true := by
  intro s hs
  unfold tameS at hs
  split at hs
  · simp only [List.mem_singleton] at hs; subst hs; decide
  · obtain ⟨x, _, rfl⟩ := List.mem_map.1 hs
    unfold tameE Seed.may
    simp only [Bool.and_eq_true, decide_eq_true_eq]
    omega
theorem tameS_len (c : Conf2) : 1 ≤ (tameS c).length ∧ (tameS c).length ≤ 4 := by
  unfold tameS
  split
  · simp
  · rename_i h
    refine ⟨?_, by rw [List.length_map, List.length_take]; exact Nat.min_le_left _ _⟩
    cases e : List.map tameE (List.take 4 c.sd) with
    | nil => exact absurd e h
    | cons a b => simp
theorem tameV_good (c : Conf2) : (tameV c).Good := by
  refine newV_good (by unfold tameK; omega) (by unfold tameK; omega) (by unfold tameW; omega) (by unfold tameW; omega) ?_ (tameS_may c)
  have := (tameS_len c).2; omega

theorem rowsV_good {g : Grid} (hg : g.Good) (e : Event) : ∀ i, i ≤ g.rows.length → (rowsV g e i).2 = 0 → (∀ r ∈ (rowsV g e i).1, r.length = g.w.toNat) ∧ ∀ r ∈ (rowsV g e i).1, ∀ h ∈ r, h.Good := by
  intro i
  induction i with
  | zero => intro _ _; exact ⟨hg.wid, hg.hs⟩
  | succ i ih =>
    intro hi h0
    have hse : rowsV g e (i + 1) = stepG g e i (rowsV g e i) := rfl
    unfold stepG at hse
    by_cases he : (rowsV g e i).2 = 0
    rotate_left
    · rw [if_neg he] at hse; rw [hse] at h0; exact absurd h0 he
    rw [if_pos he] at hse
    obtain ⟨h1, h2⟩ := ih (by omega) he
    have hlt : i < (rowsV g e i).1.length := by rw [rowsV_len]; omega
    have hm : (rowsV g e i).1.getD i [] ∈ (rowsV g e i).1 := by
      rw [List.getD_eq_getElem?_getD, List.getElem?_eq_getElem hlt]; exact List.getElem_mem hlt
    have hc : colN g e.k i < ((rowsV g e i).1.getD i []).length := by rw [h1 _ hm]; exact colN_lt g hg.w1 _ _
    rw [hse] at h0 ⊢
    have hh : (((rowsV g e i).1.getD i []).getD (colN g e.k i) zeroH).Good := by
      rw [List.getD_eq_getElem?_getD, List.getElem?_eq_getElem hc]; exact h2 _ hm _ (List.getElem_mem hc)
    have hn := (addH_good hh e.t e.w h0).1
    refine ⟨fun r hr => ?_, fun r hr h hx => ?_⟩
    · rcases List.mem_or_eq_of_mem_set hr with hr | rfl
      · exact h1 r hr
      · rw [List.length_set]; exact h1 _ hm
    · rcases List.mem_or_eq_of_mem_set hr with hr | rfl
      · exact h2 r hr h hx
      · rcases List.mem_or_eq_of_mem_set hx with hx | rfl
        · exact h2 _ hm _ hx
        · exact hn
theorem rowsV_first (g : Grid) (e : Event) : ∀ i, (rowsV g e i).2 = 0 → (addH g.all e.t e.w).2 = 0 := by
  intro i
  induction i with
  | zero => intro h; exact h
  | succ i ih =>
    intro h
    apply ih
    apply Classical.byContradiction
    intro hc
    rw [rowsV_stop g e i hc 1] at h
    exact hc h
theorem addG_ok {g : Grid} {e : Event} (h : (addG g e).2 = 0) : e.k < 2305843009213693951 ∧ (rowsV g e g.rows.length).2 = 0 ∧ addG g e = (⟨g.w, g.sd, (rowsV g e g.rows.length).1, (addH g.all e.t e.w).1⟩, 0) := by
  unfold addG at h ⊢
  split
  · rename_i c
    rw [if_pos c] at h
    split
    · rename_i c2; exact ⟨c, c2, rfl⟩
    · rename_i c2; rw [if_neg c2] at h; exact absurd h c2
  · rename_i c; rw [if_neg c] at h; simp at h
theorem addG_good {g : Grid} (hg : g.Good) (e : Event) (h : (addG g e).2 = 0) : (addG g e).1.Good := by
  obtain ⟨h1, h2, h3⟩ := addG_ok h
  rw [h3]
  obtain ⟨r1, r2⟩ := rowsV_good hg e _ (Nat.le_refl _) h2
  refine ⟨hg.w1, hg.w2, ?_, ?_, r1, (addH_good hg.all _ _ (rowsV_first g e _ h2)).1, r2, hg.so⟩
  · dsimp only; rw [rowsV_len]; exact hg.n
  · dsimp only; rw [rowsV_len]; exact hg.sd

/-- The document's grid of events, and what came. -/
noncomputable def madeGo : List Event → Nat → Grid → List Event → Grid × List Event
  | [], _, g, all => (g, all)
  | x :: r, tick, g, all => if (addG g ⟨tick + x.t % 100, x.k, x.w⟩).2 = 0 then madeGo r (tick + x.t % 100) (addG g ⟨tick + x.t % 100, x.k, x.w⟩).1 (all ++ [⟨tick + x.t % 100, x.k, x.w⟩]) else madeGo r (tick + x.t % 100) g all
noncomputable def madeV (c : Conf2) (l : List Event) : Grid × List Event := madeGo (l.take 20) 0 (tameV c) []
theorem madeGo_good : ∀ l t g all, Grid.Good g → (madeGo l t g all).1.Good := by
  intro l
  induction l with
  | nil => intro t g all h; exact h
  | cons x r ih =>
    intro t g all h
    unfold madeGo
    split
    · rename_i c; exact ih _ _ _ (addG_good h _ c)
    · exact ih _ _ _ h
theorem madeV_good (c : Conf2) (l : List Event) : (madeV c l).1.Good := madeGo_good _ _ _ _ (tameV_good c)
end Go.Sk
end

-- A20
section
namespace Go.Sk

/-- Is a tick too old? -/
noncomputable def oldV (f w t : Nat) : Bool := decide (w ≤ f) && decide (t ≤ sub64 f w)
def Anti (o : Nat → Bool) : Prop := ∀ x y, x ≤ y → o y = true → o x = true
theorem oldV_anti (f w : Nat) : Anti (oldV f w) := by
  intro x y h hy
  unfold oldV at *
  simp only [Bool.and_eq_true, decide_eq_true_eq] at *
  exact ⟨hy.1, by omega⟩
/-- How many at the head of a level are too old. -/
def oldN (o : Nat → Bool) : List Span → Nat
  | [] => 0
  | s :: l => if o s.b = true then oldN o l + 1 else 0
/-- What is left: level by level, as long as there is something. -/
def dropG (o : Nat → Bool) : List (List Span) → List (List Span)
  | [] => []
  | l :: r => if oldN o l < l.length then l.drop (oldN o l) :: dropG o r else []
theorem oldN_cons (o : Nat → Bool) (s : Span) (l : List Span) : oldN o (s :: l) = if o s.b = true then oldN o l + 1 else 0 := rfl
theorem oldN_le (o : Nat → Bool) (l : List Span) : oldN o l ≤ l.length := by
  induction l with
  | nil => exact Nat.le_refl _
  | cons s l ih => unfold oldN; split <;> simp <;> omega
theorem oldN_lt (o : Nat → Bool) : ∀ (l : List Span) (i : Nat) (h : i < l.length), i < oldN o l → o (l[i]).b = true := by
  intro l
  induction l with
  | nil => intro i h; simp at h
  | cons s l ih =>
    intro i h hi
    unfold oldN at hi
    split at hi
    · rename_i c
      cases i with
      | zero => exact c
      | succ i => exact ih i (by simpa using h) (by omega)
    · omega
theorem oldN_at (o : Nat → Bool) : ∀ (l : List Span) (h : oldN o l < l.length), o (l[oldN o l]).b = false := by
  intro l
  induction l with
  | nil => intro h; simp at h
  | cons s l ih =>
    intro h
    by_cases c : o s.b = true
    · have e : oldN o (s :: l) = oldN o l + 1 := by rw [oldN_cons, if_pos c]
      have h2 : oldN o l < l.length := by rw [e] at h; simpa using h
      simp only [e, List.getElem_cons_succ]
      exact ih h2
    · have e : oldN o (s :: l) = 0 := by rw [oldN_cons, if_neg c]
      simp only [e, List.getElem_cons_zero]
      simpa using c
/-- One by one: i of a level are too old. -/
theorem oldN_step (o : Nat → Bool) (l : List Span) (i : Nat) (h : i < l.length) (hi : i ≤ oldN o l) : (o (l[i]).b = true → i + 1 ≤ oldN o l) ∧ (o (l[i]).b = false → i = oldN o l) := by
  refine ⟨fun hb => ?_, fun hb => ?_⟩
  · apply Classical.byContradiction
    intro hc
    obtain rfl : i = oldN o l := by omega
    rw [oldN_at o l h] at hb; cases hb
  · apply Classical.byContradiction
    intro hc
    rw [oldN_lt o l i h (by omega)] at hb; cases hb

def stayF (o : Nat → Bool) (l : List Span) : List Span := l.filter (fun s => !o s.b)
def manyF : Nat → Nat → List (List Span) → Nat
  | _, n, [] => n
  | i, n, l :: r => manyF (i + 1) (if l = [] then n else i + 1) r
def dropH (D : List (List Span) → List (List Span)) (h : Hist) : Hist := ⟨h.k, h.g, D h.ls⟩
/-- By the document. -/
def docD (o : Nat → Bool) (ls : List (List Span)) : List (List Span) := (ls.map (stayF o)).take (manyF 0 0 (ls.map (stayF o)))
theorem manyF_snoc (l : List Span) : ∀ (r : List (List Span)) (i n : Nat), manyF i n (r ++ [l]) = if l = [] then manyF i n r else i + r.length + 1 := by
  intro r
  induction r with
  | nil => intro i n; simp [manyF]
  | cons x r ih => intro i n; simp only [List.cons_append, manyF, ih, List.length_cons]; split <;> omega
theorem manyF_all : ∀ (r : List (List Span)) (i n : Nat), (∀ l ∈ r, l = []) → manyF i n r = n := by
  intro r
  induction r with
  | nil => intro i n _; rfl
  | cons x r ih => intro i n h; unfold manyF; rw [if_pos (h x (by simp)), ih _ _ (fun l hl => h l (by simp [hl]))]
theorem manyF_ge : ∀ (r : List (List Span)) (i n : Nat), n ≤ i → manyF i n r = n ∨ i < manyF i n r := by
  intro r
  induction r with
  | nil => intro i n _; exact Or.inl rfl
  | cons x r ih =>
    intro i n h
    unfold manyF
    split
    · rcases ih (i + 1) n (by omega) with e | e
      · exact Or.inl e
      · exact Or.inr (by omega)
    · rcases ih (i + 1) (i + 1) (by omega) with e | e
      · exact Or.inr (by omega)
      · exact Or.inr (by omega)
theorem manyF_le : ∀ (r : List (List Span)) (i n : Nat), n ≤ i → manyF i n r ≤ i + r.length := by
  intro r
  induction r with
  | nil => intro i n h; simpa [manyF] using h
  | cons x r ih =>
    intro i n h
    unfold manyF
    rw [List.length_cons]
    split
    · have := ih (i + 1) n (by omega); omega
    · have := ih (i + 1) (i + 1) (by omega); omega
/-- Of a sorted level, what stays is its end. -/
theorem stay_drop {o : Nat → Bool} (ho : Anti o) : ∀ l : List Span, l.Pairwise Bef → (∀ s ∈ l, s.a ≤ s.b) → stayF o l = l.drop (oldN o l) := by
  intro l
  induction l with
  | nil => intro _ _; rfl
  | cons s l ih =>
    intro h hv
    rw [List.pairwise_cons] at h
    have hvs := fun x hx => hv x (List.mem_cons_of_mem _ hx)
    unfold stayF at *
    rw [oldN_cons]
    by_cases c : o s.b = true
    · rw [if_pos c, List.drop_succ_cons, List.filter_cons_of_neg (by simp [c])]
      exact ih h.2 hvs
    · rw [if_neg c, List.drop_zero, List.filter_eq_self]
      intro x hx
      rcases List.mem_cons.1 hx with rfl | hx
      · simpa using c
      · have h1 : s.b ≤ x.b := Nat.le_trans (h.1 x hx) (hvs x hx)
        cases hb : o x.b with
        | false => rfl
        | true => exact absurd (ho _ _ h1 hb) c
theorem doc_go_aux {o : Nat → Bool} (ho : Anti o) : ∀ (ls : List (List Span)) (i : Nat), (flat ls).Pairwise Bef → (∀ s ∈ flat ls, s.a ≤ s.b) → (∀ l ∈ ls, l ≠ []) →
    (ls.map (stayF o)).take (manyF i i (ls.map (stayF o)) - i) = dropG o ls := by
  intro ls
  induction ls with
  | nil => intro i _ _ _; simp [dropG]
  | cons l r ih =>
    intro i hs hv hne
    obtain ⟨s1, s2, s3⟩ := List.pairwise_append.1 (show (flat r ++ l).Pairwise Bef from hs)
    have hvl : ∀ s ∈ l, s.a ≤ s.b := fun s h => hv s (List.mem_append_right _ h)
    have hvr : ∀ s ∈ flat r, s.a ≤ s.b := fun s h => hv s (List.mem_append_left _ h)
    have hst := stay_drop ho l s2 hvl
    have hle := oldN_le o l
    unfold dropG
    by_cases c : oldN o l < l.length
    · rw [if_pos c]
      have hn : stayF o l ≠ [] := by rw [hst]; intro e; have := congrArg List.length e; simp at this; omega
      have ihr := ih (i + 1) s1 hvr (fun x hx => hne x (by simp [hx]))
      simp only [List.map_cons, manyF]
      rw [if_neg hn]
      have hge : i + 1 ≤ manyF (i + 1) (i + 1) (r.map (stayF o)) := by
        rcases manyF_ge (r.map (stayF o)) (i + 1) (i + 1) (Nat.le_refl _) with e | e <;> omega
      rw [show manyF (i + 1) (i + 1) (r.map (stayF o)) - i = (manyF (i + 1) (i + 1) (r.map (stayF o)) - (i + 1)) + 1 by omega, List.take_succ_cons, ihr, hst]
    · rw [if_neg c]
      have hz : stayF o l = [] := by rw [hst]; exact List.drop_of_length_le (by omega)
      have hl0 : 0 < l.length := List.length_pos_iff.2 (hne l (by simp))
      have hold : o (l[0]).b = true := oldN_lt o l 0 hl0 (by omega)
      have hall : ∀ x ∈ flat r, o x.b = true := fun x hx => by
        have h1 := s3 x hx l[0] (List.getElem_mem hl0)
        exact ho _ _ (Nat.le_trans h1 (hvl _ (List.getElem_mem hl0))) hold
      have hmem : ∀ (r : List (List Span)), ∀ m ∈ r, ∀ x ∈ m, x ∈ flat r := by
        intro r
        induction r with
        | nil => intro m hm; cases hm
        | cons y r ih2 =>
          intro m hm x hx
          rcases List.mem_cons.1 hm with rfl | hm
          · exact List.mem_append_right _ hx
          · exact List.mem_append_left _ (ih2 m hm x hx)
      have he : ∀ m ∈ r.map (stayF o), m = [] := by
        intro m hm
        obtain ⟨y, hy, rfl⟩ := List.mem_map.1 hm
        unfold stayF
        rw [List.filter_eq_nil_iff]
        intro x hx
        rw [hall x (hmem r y hy x hx)]; simp
      simp only [List.map_cons, manyF]
      rw [if_pos hz, manyF_all _ _ _ he, Nat.sub_self, List.take_zero]
/-- Both leave the same. -/
theorem docD_eq {o : Nat → Bool} (ho : Anti o) {k : Nat} {ls : List (List Span)} (h : Tidy k ls) (hne : ∀ l ∈ ls, l ≠ []) : docD o ls = dropG o ls := by
  have := doc_go_aux ho ls 0 h.srt h.val hne
  rw [Nat.sub_zero] at this
  exact this
end Go.Sk
end

-- A17
section
namespace Go.Sk

/-- The cell that an event meets in row i, before and behind it. -/
noncomputable def cellG (g : Grid) (e : Event) (i : Nat) : Hist × Int := addH ((g.rows.getD i []).getD (colN g e.k i) zeroH) e.t e.w
theorem rowsV_at (g : Grid) (e : Event) : ∀ m, m ≤ g.rows.length → (rowsV g e m).2 = 0 → ∀ i, i < m → (cellG g e i).2 = 0 ∧ (rowsV g e m).1.getD i [] = (g.rows.getD i []).set (colN g e.k i) (cellG g e i).1 := by
  intro m
  induction m with
  | zero => intro _ _ i hi; omega
  | succ m ih =>
    intro hm h0 i hi
    have hse : rowsV g e (m + 1) = stepG g e m (rowsV g e m) := rfl
    unfold stepG at hse
    by_cases he : (rowsV g e m).2 = 0
    rotate_left
    · rw [if_neg he] at hse; rw [hse] at h0; exact absurd h0 he
    rw [if_pos he, rowsV_later g e m m (Nat.le_refl _)] at hse
    have hlt : m < (rowsV g e m).1.length := by rw [rowsV_len]; omega
    rw [hse] at h0 ⊢
    by_cases hc : i = m
    · subst hc
      refine ⟨h0, ?_⟩
      simp [List.getD_eq_getElem?_getD, hlt, cellG]
    · obtain ⟨h1, h2⟩ := ih (by omega) he i (by omega)
      refine ⟨h1, ?_⟩
      rw [← h2]
      simp [List.getD_eq_getElem?_getD, List.getElem?_set, Ne.symm hc]
/-- What was added to a good histogram makes another one of it. -/
theorem addH_other {h : Hist} (g : h.Good) {t w : Nat} (e : (addH h t w).2 = 0) : (addH h t w).1 ≠ h ∧ totV (addH h t w).1.ls = m64 (totV h.ls + w) := by
  obtain ⟨h1, _, _, h4⟩ := addH_good g t w e
  have hw : w ≠ 0 := by
    rintro rfl
    unfold addH addV at e
    rw [if_pos rfl] at e; simp at e
  have b1 := g.tot
  have b2 := h1.tot
  refine ⟨fun he => ?_, ?_⟩
  · rw [he] at h4; omega
  · rw [totV_eq (by omega), totV_eq (by omega), h4, m64_id (by omega)]
/-- A cell. -/
def cellOf (g : Grid) (i c : Nat) : Hist := (g.rows.getD i []).getD c zeroH
end Go.Sk
end

-- A14
section
namespace Go.Sk

/-! Adding that is let in. -/
theorem last_mem {ls : List (List Span)} (h : (lastV ls).2 = true) : ∃ x ∈ flat ls, (lastV ls).1 = x.b := by
  unfold lastV at *
  cases ls with
  | nil => simp at h
  | cons l r =>
    dsimp only at h ⊢
    cases hl : l.getLast? with
    | none => rw [hl] at h; simp at h
    | some s => exact ⟨s, List.mem_append_right _ (List.mem_of_getLast? hl), rfl⟩
theorem addH_let {h : Hist} (hT : Tidy h.k.toNat h.ls) {t w : Nat} (ht : t ≤ 9223372036854775807) (hw : 1 ≤ w) (hb : ∀ x ∈ flat h.ls, x.b ≤ t) (htot : totN 0 h.ls + w ≤ 4503599627370496) :
    (addH h t w).2 = 0 ∧ ∀ x ∈ flat (addH h t w).1.ls, x.b ≤ t := by
  have hc : ¬ (9223372036854775807 < t ∨ ((lastV h.ls).2 = true ∧ t < (lastV h.ls).1)) := by
    rintro (c | ⟨c1, c2⟩)
    · omega
    · obtain ⟨x, hx, e⟩ := last_mem c1
      have := hb x hx; omega
  have he : addH h t w = (⟨h.k.toNat, h.g, flowV h.k.toNat t 0 h.ls [] w⟩, 0) := by
    unfold addH addV
    rw [if_neg (by omega), if_neg hc, if_neg (by omega)]
  rw [he]
  refine ⟨rfl, ?_⟩
  have hs : (flat h.ls ++ ([] ++ List.replicate w (⟨t, t⟩ : Span))).Pairwise Bef := by
    refine List.pairwise_append.2 ⟨hT.srt, ?_, ?_⟩
    · rw [List.nil_append]; exact List.pairwise_replicate.2 (Or.inr (Nat.le_refl t))
    · intro x hx y hy
      rw [List.nil_append] at hy
      rw [List.eq_of_mem_replicate hy]; exact hb x hx
  have hv : ∀ s ∈ flat h.ls ++ ([] ++ List.replicate w (⟨t, t⟩ : Span)), s.a ≤ s.b := by
    intro s hs
    rcases List.mem_append.1 hs with hs | hs
    · exact hT.val s hs
    · rw [List.nil_append] at hs; rw [List.eq_of_mem_replicate hs]; exact Nat.le_refl _
  exact (flow_tidy h.k.toNat t h.ls 0 [] w hs hv).2.2.1 t (fun s hs => by
    rcases List.mem_append.1 hs with hs | hs
    · exact hb s hs
    · rw [List.nil_append] at hs; rw [List.eq_of_mem_replicate hs]; exact Nat.le_refl _)

/-! Sums over events. -/
def sumE (f : Event → Nat) (l : List Event) : Nat := (l.map f).sum
theorem sumE_app (f : Event → Nat) (l m : List Event) : sumE f (l ++ m) = sumE f l + sumE f m := by unfold sumE; rw [List.map_append, List.sum_append]
theorem sumE_cons (f : Event → Nat) (e : Event) (l : List Event) : sumE f (e :: l) = f e + sumE f l := by unfold sumE; simp
theorem sumE_nil (f : Event → Nat) : sumE f [] = 0 := rfl
theorem sumE_le {f g : Event → Nat} (h : ∀ e, f e ≤ g e) (l : List Event) : sumE f l ≤ sumE g l := by
  induction l with
  | nil => exact Nat.le_refl _
  | cons e l ih => rw [sumE_cons, sumE_cons]; have := h e; omega
theorem sumE_ins (f : Event → Nat) (l : List Event) (e : Event) : sumE f (insE l e) = sumE f l + f e := by
  unfold insE
  rw [sumE_app, sumE_app, sumE_cons, sumE_nil]
  have := sumE_app f (l.take (belowN e.t l)) (l.drop (belowN e.t l))
  rw [List.take_append_drop] at this; omega
theorem sumE_split (f : Event → Nat) (l : List Event) (n : Nat) : sumE f l = sumE f (l.take n) + sumE f (l.drop n) := by
  rw [← sumE_app, List.take_append_drop]
def wt (W : Nat → Bool) (e : Event) : Nat := if W e.t = true then e.w else 0

/-- Events passed on. -/
noncomputable def passV (h : Hist) (out : List Event) : Hist := out.foldl (fun h e => (addH h e.t e.w).1) h
theorem pass_ok : ∀ (out : List Event) (h : Hist) (f : Nat), h.Good → Tidy h.k.toNat h.ls → (∀ x ∈ flat h.ls, x.b ≤ f) → Srt out → (∀ e ∈ out, f ≤ e.t ∧ e.t ≤ 9223372036854775807 ∧ 1 ≤ e.w) → totN 0 h.ls + sumE Event.w out ≤ 4503599627370496 →
    (passV h out).Good ∧ Tidy (passV h out).k.toNat (passV h out).ls ∧ (passV h out).k = h.k ∧ (passV h out).g = h.g ∧ totN 0 (passV h out).ls = totN 0 h.ls + sumE Event.w out ∧
    (∀ m, f ≤ m → (∀ e ∈ out, e.t ≤ m) → ∀ x ∈ flat (passV h out).ls, x.b ≤ m) ∧
    ∀ W, Mono W → loL W 0 (passV h out).ls ≤ loL W 0 h.ls + sumE (wt W) out ∧ hiL W 0 h.ls + sumE (wt W) out ≤ hiL W 0 (passV h out).ls := by
  intro out
  induction out with
  | nil =>
    intro h f hg hT hb _ _ _
    refine ⟨hg, hT, rfl, rfl, rfl, fun m hm _ x hx => Nat.le_trans (hb x hx) hm, fun W _ => ⟨Nat.le_refl _, Nat.le_refl _⟩⟩
  | cons e l ih =>
    intro h f hg hT hb hs he ht
    unfold Srt at hs
    rw [List.pairwise_cons] at hs
    obtain ⟨e1, e2, e3⟩ := he e (by simp)
    rw [sumE_cons] at ht
    obtain ⟨a1, a2⟩ := addH_let hT e2 e3 (fun x hx => Nat.le_trans (hb x hx) e1) (by omega)
    obtain ⟨b1, b2, b3, b4⟩ := addH_good hg e.t e.w a1
    obtain ⟨c1, c2⟩ := addH_tidy hg hT e.t e.w a1
    have hk : (addH h e.t e.w).1.k.toNat = h.k.toNat := by rw [b2]
    obtain ⟨i1, i2, i3, i4, i5, i6, i7⟩ := ih (addH h e.t e.w).1 e.t b1 (by rw [hk]; exact c1) a2 hs.2 (fun x hx => ⟨hs.1 x hx, (he x (by simp [hx])).2⟩) (by omega)
    show (passV (addH h e.t e.w).1 l).Good ∧ _
    refine ⟨i1, i2, i3.trans b2, i4.trans b3, ?_, ?_, ?_⟩
    · show totN 0 (passV (addH h e.t e.w).1 l).ls = _
      rw [i5, sumE_cons]; omega
    · intro m hm hx
      exact i6 m (hx e (by simp)) (fun x hx2 => hx x (by simp [hx2]))
    · intro W hW
      obtain ⟨j1, j2⟩ := i7 W hW
      obtain ⟨k1, k2⟩ := c2 W hW
      rw [sumE_cons]
      have hwt : wt W e = if W e.t = true then e.w else 0 := rfl
      rw [← hwt] at k1 k2
      refine ⟨?_, ?_⟩
      · show loL W 0 (passV (addH h e.t e.w).1 l).ls ≤ _
        omega
      · show _ ≤ hiL W 0 (passV (addH h e.t e.w).1 l).ls
        omega

/-! What is too old. -/
theorem dropG_sub (o : Nat → Bool) : ∀ ls : List (List Span), (flat (dropG o ls)).Sublist (flat ls) := by
  intro ls
  induction ls with
  | nil => exact List.Sublist.refl _
  | cons l r ih =>
    unfold dropG
    split
    · exact List.Sublist.append ih (List.drop_sublist _ _)
    · exact List.nil_sublist _
theorem dropG_old {o : Nat → Bool} (ho : Anti o) {l : List Span} {r : List (List Span)} (hs : (flat (l :: r)).Pairwise Bef) (hv : ∀ s ∈ flat (l :: r), s.a ≤ s.b) (h : 0 < oldN o l) : (∀ x ∈ flat r, o x.b = true) := by
  obtain ⟨s1, s2, s3⟩ := List.pairwise_append.1 (show (flat r ++ l).Pairwise Bef from hs)
  have hl := oldN_le o l
  intro x hx
  have h0 : 0 < l.length := by omega
  have h1 := s3 x hx l[0] (List.getElem_mem h0)
  exact ho _ _ (Nat.le_trans h1 (hv _ (List.mem_append_right _ (List.getElem_mem h0)))) (oldN_lt o l 0 h0 h)
theorem dropG_nil {o : Nat → Bool} : ∀ {r : List (List Span)}, (∀ x ∈ flat r, o x.b = true) → dropG o r = [] := by
  intro r
  cases r with
  | nil => intro _; rfl
  | cons l r =>
    intro h
    unfold dropG
    rw [if_neg]
    intro hc
    have := oldN_at o l hc
    rw [h _ (List.mem_append_right _ (List.getElem_mem hc))] at this; cases this
theorem dropG_full {o : Nat → Bool} (ho : Anti o) (k : Nat) : ∀ (ls : List (List Span)) (i : Nat), (flat ls).Pairwise Bef → (∀ s ∈ flat ls, s.a ≤ s.b) → Full k i ls → Full k i (dropG o ls) := by
  intro ls
  induction ls with
  | nil => intro i _ _ _; trivial
  | cons l r ih =>
    intro i hs hv hf
    obtain ⟨s1, s2, s3⟩ := List.pairwise_append.1 (show (flat r ++ l).Pairwise Bef from hs)
    unfold dropG
    split
    · refine ⟨fun hne => ?_, ih (i + 1) s1 (fun s h => hv s (List.mem_append_left _ h)) hf.2⟩
      by_cases h0 : 0 < oldN o l
      · exact absurd (dropG_nil (dropG_old ho hs hv h0)) hne
      · have hr : r ≠ [] := by rintro rfl; exact hne rfl
        have := hf.1 hr
        rw [List.length_drop]; omega
    · trivial
theorem dropG_tidy {o : Nat → Bool} (ho : Anti o) {k : Nat} {ls : List (List Span)} (h : Tidy k ls) : Tidy k (dropG o ls) := by
  refine ⟨h.srt.sublist (dropG_sub o ls), fun s hs => h.val s ((dropG_sub o ls).subset hs), fun s hs => ?_, dropG_full ho k ls 0 h.srt h.val h.full⟩
  cases ls with
  | nil => cases hs
  | cons l r =>
    unfold dropG at hs
    split at hs
    · exact h.low s (List.mem_of_mem_drop hs)
    · cases hs
theorem dropG_lvl (o : Nat → Bool) : ∀ (ls : List (List Span)), ∀ l ∈ dropG o ls, l ≠ [] ∧ ∃ m ∈ ls, l.length ≤ m.length := by
  intro ls
  induction ls with
  | nil => intro l hl; cases hl
  | cons l r ih =>
    intro x hx
    unfold dropG at hx
    split at hx
    · rename_i c
      rcases List.mem_cons.1 hx with rfl | hx
      · refine ⟨fun e => ?_, l, by simp, by simp⟩
        have := congrArg List.length e
        simp at this; omega
      · obtain ⟨h1, m, hm, hle⟩ := ih x hx
        exact ⟨h1, m, by simp [hm], hle⟩
    · cases hx
theorem dropG_tot (o : Nat → Bool) : ∀ (ls : List (List Span)) (i : Nat), totN i (dropG o ls) ≤ totN i ls := by
  intro ls
  induction ls with
  | nil => intro i; exact Nat.le_refl _
  | cons l r ih =>
    intro i
    unfold dropG
    split
    · unfold totN
      have h1 : (l.drop (oldN o l)).length * 2 ^ i ≤ l.length * 2 ^ i := Nat.mul_le_mul_right _ (by rw [List.length_drop]; omega)
      have := ih (i + 1)
      show (l.drop (oldN o l)).length * 2 ^ i + totN (i + 1) (dropG o r) ≤ l.length * 2 ^ i + totN (i + 1) r
      omega
    · exact Nat.zero_le _
theorem dropH_good {o : Nat → Bool} {h : Hist} (g : h.Good) : (dropH (dropG o) h).Good :=
  ⟨g.k0, g.k1, fun l hl => (dropG_lvl o h.ls l hl).1, fun l hl => by obtain ⟨_, m, hm, hle⟩ := dropG_lvl o h.ls l hl; have := g.sm m hm; unfold dropH; dsimp only; omega, Nat.le_trans (dropG_tot o h.ls 0) g.tot⟩
/-- Where nothing that is too old is within, dropping it changes nothing. -/
theorem dropG_lo {o : Nat → Bool} (ho : Anti o) {W : Nat → Bool} (hW : Mono W) (hk : ∀ x, o x = true → W x = false) : ∀ (ls : List (List Span)) (i : Nat), (∀ l ∈ ls, l ≠ []) → (flat ls).Pairwise Bef → (∀ s ∈ flat ls, s.a ≤ s.b) →
    loL W i (dropG o ls) = loL W i ls ∧ hiL W i (dropG o ls) = hiL W i ls := by
  have zero : ∀ (ls : List (List Span)) (i : Nat), (∀ s ∈ flat ls, s.a ≤ s.b) → (∀ s ∈ flat ls, o s.b = true) → loL W i ls = 0 ∧ hiL W i ls = 0 := by
    intro ls
    induction ls with
    | nil => intro i _ _; exact ⟨rfl, rfl⟩
    | cons l r ih =>
      intro i hv h
      obtain ⟨i1, i2⟩ := ih (i + 1) (fun s hs => hv s (List.mem_append_left _ hs)) (fun s hs => h s (List.mem_append_left _ hs))
      have hb : ∀ s ∈ l, W s.b = false := fun s hs => hk _ (h s (List.mem_append_right _ hs))
      have ha : ∀ s ∈ l, W s.a = false := fun s hs => by
        cases hc : W s.a with
        | false => rfl
        | true => have := hW _ _ (hv s (List.mem_append_right _ hs)) hc; rw [hb s hs] at this; cases this
      have h1 : lo W l = 0 := by unfold lo; rw [List.countP_eq_zero]; intro s hs; rw [ha s hs]; simp
      have h2 : hi W l = 0 := by unfold hi; rw [List.countP_eq_zero]; intro s hs; rw [hb s hs]; simp
      unfold loL hiL
      rw [h1, h2, i1, i2]; simp
  intro ls
  induction ls with
  | nil => intro i _ _ _; exact ⟨rfl, rfl⟩
  | cons l r ih =>
    intro i hne hs hv
    obtain ⟨s1, s2, s3⟩ := List.pairwise_append.1 (show (flat r ++ l).Pairwise Bef from hs)
    have hvr : ∀ s ∈ flat r, s.a ≤ s.b := fun s h => hv s (List.mem_append_left _ h)
    obtain ⟨i1, i2⟩ := ih (i + 1) (fun l hl => hne l (by simp [hl])) s1 hvr
    have hbt : ∀ s ∈ l.take (oldN o l), W s.b = false := fun s hs => by
      obtain ⟨j, hj, rfl⟩ := List.mem_iff_getElem.1 hs
      rw [List.length_take] at hj
      rw [List.getElem_take]
      exact hk _ (oldN_lt o l j (by omega) (by omega))
    have hat : ∀ s ∈ l.take (oldN o l), W s.a = false := fun s hs => by
      cases hc : W s.a with
      | false => rfl
      | true => have := hW _ _ (hv s (List.mem_append_right _ (List.mem_of_mem_take hs))) hc; rw [hbt s hs] at this; cases this
    have e1 : lo W l = lo W (l.drop (oldN o l)) := by
      have := lo_app W (l.take (oldN o l)) (l.drop (oldN o l))
      rw [List.take_append_drop] at this
      have h0 : lo W (l.take (oldN o l)) = 0 := by unfold lo; rw [List.countP_eq_zero]; intro s hs; rw [hat s hs]; simp
      omega
    have e2 : hi W l = hi W (l.drop (oldN o l)) := by
      have := hi_app W (l.take (oldN o l)) (l.drop (oldN o l))
      rw [List.take_append_drop] at this
      have h0 : hi W (l.take (oldN o l)) = 0 := by unfold hi; rw [List.countP_eq_zero]; intro s hs; rw [hbt s hs]; simp
      omega
    unfold dropG
    split
    · constructor
      · show lo W (l.drop (oldN o l)) * 2 ^ i + loL W (i + 1) (dropG o r) = lo W l * 2 ^ i + loL W (i + 1) r
        rw [i1, e1]
      · show hi W (l.drop (oldN o l)) * 2 ^ i + hiL W (i + 1) (dropG o r) = hi W l * 2 ^ i + hiL W (i + 1) r
        rw [i2, e2]
    · rename_i c
      have hln := oldN_le o l
      have hd : l.drop (oldN o l) = [] := List.drop_of_length_le (by omega)
      rw [hd] at e1 e2
      by_cases h0 : 0 < oldN o l
      · obtain ⟨z1, z2⟩ := zero r (i + 1) hvr (dropG_old ho hs hv h0)
        constructor
        · show 0 = lo W l * 2 ^ i + loL W (i + 1) r
          rw [e1, z1]; simp [lo]
        · show 0 = hi W l * 2 ^ i + hiL W (i + 1) r
          rw [e2, z2]; simp [hi]
      · exact absurd (List.eq_nil_of_length_eq_zero (by omega)) (hne l (by simp))
end Go.Sk
end

-- A14b
section
namespace Go.Sk

theorem insE_mem {l : List Event} {e x : Event} : x ∈ insE l e ↔ x = e ∨ x ∈ l := by
  unfold insE
  simp only [List.mem_append, List.mem_singleton]
  constructor
  · rintro ((h | h) | h)
    · exact Or.inr (List.mem_of_mem_take h)
    · exact Or.inl h
    · exact Or.inr (List.mem_of_mem_drop h)
  · rintro (h | h)
    · exact Or.inl (Or.inr h)
    · rw [← List.take_append_drop (belowN e.t l) l] at h
      rcases List.mem_append.1 h with h | h
      · exact Or.inl (Or.inl h)
      · exact Or.inr h
theorem take_below {f : Nat} {l : List Event} : ∀ e ∈ l.take (belowN f l), e.t ≤ f := by
  intro e he
  obtain ⟨j, hj, rfl⟩ := List.mem_iff_getElem.1 he
  rw [List.length_take] at hj
  rw [List.getElem_take]
  exact belowN_lt f l j (by omega) (by omega)
theorem drop_below {f : Nat} {l : List Event} (hs : Srt l) : ∀ e ∈ l.drop (belowN f l), f < e.t := by
  intro e he
  obtain ⟨j, hj, rfl⟩ := List.mem_iff_getElem.1 he
  rw [List.length_drop] at hj
  rw [List.getElem_drop]
  have h0 := belowN_at f l (by omega)
  by_cases c : j = 0
  · subst c; simpa using h0
  · have := List.pairwise_iff_getElem.1 hs (belowN f l) (belowN f l + j) (by omega) (by omega) (by omega)
    omega
theorem insE_srt {l : List Event} (hs : Srt l) (e : Event) : Srt (insE l e) := by
  unfold insE Srt
  refine List.pairwise_append.2 ⟨List.pairwise_append.2 ⟨hs.take _, List.pairwise_singleton _ _, fun x hx y hy => ?_⟩, hs.drop _, fun x hx y hy => ?_⟩
  · simp only [List.mem_singleton] at hy; subst hy; exact take_below x hx
  · have h2 := drop_below hs y hy
    rcases List.mem_append.1 hx with hx | hx
    · have := take_below x hx; omega
    · simp only [List.mem_singleton] at hx; subst hx; omega
theorem insE_len (l : List Event) (e : Event) : (insE l e).length = l.length + 1 := by
  unfold insE
  have := belowN_le e.t l
  simp only [List.length_append, List.length_take, List.length_drop, List.length_singleton]; omega

/-- What settling does. -/
theorem settleB_ok {b : Buf} (hs : Srt b.evs) (hf : b.front ≤ b.mark) (hm : ∀ e ∈ b.evs, e.t ≤ b.mark) :
    (settleB b).1.late = b.late ∧ (settleB b).1.room = b.room ∧ (settleB b).1.mark = b.mark ∧ b.front ≤ (settleB b).1.front ∧ (settleB b).1.front ≤ b.mark ∧ b.evs = (settleB b).2 ++ (settleB b).1.evs ∧
    (∀ e ∈ (settleB b).2, e.t ≤ (settleB b).1.front) ∧ (∀ e ∈ (settleB b).1.evs, (settleB b).1.front < e.t) ∧ Srt (settleB b).2 ∧ Srt (settleB b).1.evs ∧ (settleB b).1.evs.length ≤ b.room.toNat := by
  obtain ⟨h1, h2, h3, h4⟩ := settle_facts b.room.toNat b.evs (max b.front (b.mark - b.late))
  have h5 := h4 b.mark (by omega) hm
  unfold settleB
  dsimp only
  refine ⟨rfl, rfl, rfl, by omega, h5, (List.take_append_drop _ _).symm, ?_, ?_, hs.take _, hs.drop _, by rw [List.length_drop]; exact h3⟩
  · rw [h2]; exact take_below
  · rw [h2]; exact drop_below hs

structure Skt where (win : Nat) (b : Buf) (past : Hist)
  deriving DecidableEq
def zeroK : Skt := ⟨0, zeroB, zeroH⟩
noncomputable def passK (s : Skt) (b : Buf) (out : List Event) : Skt := ⟨s.win, b, dropH (dropG (oldV b.front s.win)) (passV s.past out)⟩
noncomputable def addK (s : Skt) (e : Event) : Skt × Int :=
  if (pushB s.b e).2 = 0 then (if 4503599627370496 < totN 0 s.past.ls + sumE Event.w s.b.evs + e.w then (zeroK, 5) else (passK s (pushB s.b e).1.1 (pushB s.b e).1.2, 0)) else (zeroK, (pushB s.b e).2)
noncomputable def moveK (s : Skt) (t : Nat) : Skt × Int := if (moveB s.b t).2 = 0 then (passK s (moveB s.b t).1.1 (moveB s.b t).1.2, 0) else (zeroK, (moveB s.b t).2)
/-- A deed. -/
noncomputable def oneK (s : Skt) (e : Event) : Skt × Int := if e.w = 0 then moveK s e.t else addK s e

structure Skt.Good (s : Skt) : Prop where
  w1 : 1 ≤ s.win
  w2 : s.win ≤ 4611686018427387904
  lt : s.b.late ≤ 4611686018427387904
  r1 : 1 ≤ s.b.room
  r2 : s.b.room ≤ 1024
  mkk : s.b.mark ≤ 9223372036854775807
  fm : s.b.front ≤ s.b.mark
  ev : ∀ e ∈ s.b.evs, s.b.front < e.t ∧ e.t ≤ s.b.mark ∧ 1 ≤ e.w
  sr : Srt s.b.evs
  len : s.b.evs.length ≤ s.b.room.toNat
  pg : s.past.Good
  pt : Tidy s.past.k.toNat s.past.ls
  pf : ∀ x ∈ flat s.past.ls, x.b ≤ s.b.front
  tot : totN 0 s.past.ls + sumE Event.w s.b.evs ≤ 4503599627370496
/-- A sketch, and all that came to it. -/
def Skt.Led (s : Skt) (all : List Event) : Prop := ∃ P : List Event, (∀ f, sumE f all = sumE f P + sumE f s.b.evs) ∧
  (∀ W, Mono W → (∀ x, oldV s.b.front s.win x = true → W x = false) → loL W 0 s.past.ls ≤ sumE (wt W) P ∧ sumE (wt W) P ≤ hiL W 0 s.past.ls) ∧ ∀ e ∈ P, e.t ≤ s.b.front
theorem sub64_eq' {f w : Nat} (h : w ≤ f) (hf : f < 18446744073709551616) : sub64 f w = f - w := sub64_le hf h
theorem oldV_more {f f' w x : Nat} (hf : f ≤ f') (hb : f' < 18446744073709551616) (h : oldV f w x = true) : oldV f' w x = true := by
  unfold oldV at *
  simp only [Bool.and_eq_true, decide_eq_true_eq] at *
  rw [sub64_eq' h.1 (by omega)] at h
  rw [sub64_eq' (by omega) hb]
  omega
/-- Passed on, out of what there was. -/
theorem passK_gen {s : Skt} (hg : s.Good) {b' : Buf} {out evs : List Event} (q1 : b'.late = s.b.late) (q2 : b'.room = s.b.room) (q3 : s.b.mark ≤ b'.mark) (q3' : b'.mark ≤ 9223372036854775807) (q4 : s.b.front ≤ b'.front) (q5 : b'.front ≤ b'.mark)
    (q6 : evs = out ++ b'.evs) (q7 : ∀ e ∈ out, e.t ≤ b'.front) (q8 : ∀ e ∈ b'.evs, b'.front < e.t) (q9 : Srt out) (q10 : Srt b'.evs) (q11 : b'.evs.length ≤ b'.room.toNat)
    (hev : ∀ e ∈ evs, s.b.front ≤ e.t ∧ e.t ≤ b'.mark ∧ 1 ≤ e.w) (htot : totN 0 s.past.ls + sumE Event.w evs ≤ 4503599627370496) :
    (passK s b' out).Good ∧ (passK s b' out).past.k = s.past.k ∧ (passK s b' out).past.g = s.past.g ∧ (passV s.past out).Good ∧
    (∀ all new, s.Led all → (∀ f, sumE f evs = sumE f s.b.evs + sumE f new) → (passK s b' out).Led (all ++ new)) := by
  have hfm := hg.fm
  have hout : ∀ e ∈ out, s.b.front ≤ e.t ∧ e.t ≤ 9223372036854775807 ∧ 1 ≤ e.w := fun e he => by
    have h1 := hev e (by rw [q6]; exact List.mem_append_left _ he)
    exact ⟨h1.1, by omega, h1.2.2⟩
  have hsum : ∀ f, sumE f evs = sumE f out + sumE f b'.evs := fun f => by rw [q6, sumE_app]
  have hst := hsum Event.w
  obtain ⟨p1, p2, p3, p4, p5, p6, p7⟩ := pass_ok out s.past s.b.front hg.pg hg.pt hg.pf q9 hout (by omega)
  have ho := oldV_anti b'.front s.win
  have ht := dropG_tidy ho p2
  have hpf : ∀ x ∈ flat (passV s.past out).ls, x.b ≤ b'.front := p6 b'.front (by omega) q7
  have hdt := dropG_tot (oldV b'.front s.win) (passV s.past out).ls 0
  refine ⟨⟨hg.w1, hg.w2, by show b'.late ≤ _; rw [q1]; exact hg.lt, by show 1 ≤ b'.room; rw [q2]; exact hg.r1, by show b'.room ≤ _; rw [q2]; exact hg.r2, by show b'.mark ≤ _; omega, by show b'.front ≤ b'.mark; omega, ?_, q10, ?_, dropH_good p1, ht, ?_, ?_⟩, p3, p4, p1, ?_⟩
  · intro e he
    have h1 := hev e (by rw [q6]; exact List.mem_append_right _ he)
    exact ⟨q8 e he, by show e.t ≤ b'.mark; omega, h1.2.2⟩
  · exact q11
  · intro x hx; exact hpf x ((dropG_sub _ _).subset hx)
  · show totN 0 (dropG _ (passV s.past out).ls) + sumE Event.w b'.evs ≤ _; omega
  · rintro all new ⟨P, l1, l2, l3⟩ hnew
    refine ⟨P ++ out, fun f => ?_, fun W hW hk => ?_, fun e he => ?_⟩
    · have h1 := l1 f; have h2 := hnew f; have h3 := hsum f
      show sumE f (all ++ new) = sumE f (P ++ out) + sumE f b'.evs
      rw [sumE_app, sumE_app]; omega
    · have hk0 : ∀ x, oldV s.b.front s.win x = true → W x = false := fun x hx => hk x (oldV_more (by show s.b.front ≤ b'.front; omega) (by show b'.front < _; omega) hx)
      obtain ⟨c1, c2⟩ := l2 W hW hk0
      obtain ⟨d1, d2⟩ := p7 W hW
      obtain ⟨e1, e2⟩ := dropG_lo ho hW hk (passV s.past out).ls 0 p1.ne p2.srt p2.val
      rw [sumE_app]
      constructor
      · show loL W 0 (dropG (oldV b'.front s.win) (passV s.past out).ls) ≤ _
        rw [e1]; omega
      · show _ ≤ hiL W 0 (dropG (oldV b'.front s.win) (passV s.past out).ls)
        rw [e2]; omega
    · rcases List.mem_append.1 he with he | he
      · have := l3 e he; show e.t ≤ b'.front; omega
      · exact q7 e he
/-- From a buffer, that was good and has what else came, on. -/
theorem passK_ok {s : Skt} (hg : s.Good) {b : Buf} (hb1 : b.late = s.b.late) (hb2 : b.room = s.b.room) (hb3 : b.front = s.b.front) (hb4 : s.b.mark ≤ b.mark) (hb5 : b.mark ≤ 9223372036854775807) (hs : Srt b.evs)
    (hev : ∀ e ∈ b.evs, s.b.front ≤ e.t ∧ e.t ≤ b.mark ∧ 1 ≤ e.w) (htot : totN 0 s.past.ls + sumE Event.w b.evs ≤ 4503599627370496) :
    (passK s (settleB b).1 (settleB b).2).Good ∧ (passK s (settleB b).1 (settleB b).2).past.k = s.past.k ∧ (passK s (settleB b).1 (settleB b).2).past.g = s.past.g ∧ (passV s.past (settleB b).2).Good ∧
    (∀ all new, s.Led all → (∀ f, sumE f b.evs = sumE f s.b.evs + sumE f new) → (passK s (settleB b).1 (settleB b).2).Led (all ++ new)) := by
  have hfm := hg.fm
  obtain ⟨q1, q2, q3, q4, q5, q6, q7, q8, q9, q10, q11⟩ := settleB_ok hs (by omega) (fun e he => (hev e he).2.1)
  exact passK_gen hg (q1.trans hb1) (q2.trans hb2) (by omega) (by omega) (by omega) (by omega) q6 q7 q8 q9 q10 (by rw [q2]; exact q11) (fun e he => by have := hev e he; omega) htot
/-- A deed that is done. -/
theorem oneK_ok {s : Skt} (hg : s.Good) (e : Event) (h0 : (oneK s e).2 = 0) : (oneK s e).1.Good ∧ (oneK s e).1.past.k = s.past.k ∧ (oneK s e).1.win = s.win ∧ e.w ≤ 4503599627370496 ∧
    ∀ all, s.Led all → (oneK s e).1.Led (if 0 < e.w then all ++ [e] else all) := by
  unfold oneK at h0 ⊢
  by_cases hw : e.w = 0
  · rw [if_pos hw] at h0 ⊢
    unfold moveK at h0 ⊢
    by_cases hm : (moveB s.b e.t).2 = 0
    rotate_left
    · rw [if_neg hm] at h0; exact absurd h0 hm
    rw [if_pos hm] at h0 ⊢
    unfold moveB at hm ⊢
    by_cases ht : 9223372036854775807 < e.t
    · rw [if_pos ht] at hm; simp at hm
    rw [if_neg ht]
    have hmk := hg.mkk
    obtain ⟨r1, r2, _, _, r3⟩ := passK_ok hg (b := ⟨s.b.late, s.b.room, max s.b.mark e.t, s.b.front, s.b.evs⟩) rfl rfl rfl (by dsimp only; omega) (by dsimp only; omega) hg.sr
      (fun x hx => by have := hg.ev x hx; dsimp only; omega) hg.tot
    refine ⟨r1, r2, rfl, by omega, fun all hl => ?_⟩
    rw [if_neg (by omega)]
    have := r3 all [] hl (fun f => by rw [sumE_nil]; rfl)
    rwa [List.append_nil] at this
  · rw [if_neg hw] at h0 ⊢
    unfold addK at h0 ⊢
    by_cases hm : (pushB s.b e).2 = 0
    rotate_left
    · rw [if_neg hm] at h0; exact absurd h0 hm
    rw [if_pos hm] at h0 ⊢
    by_cases hh : 4503599627370496 < totN 0 s.past.ls + sumE Event.w s.b.evs + e.w
    · rw [if_pos hh] at h0; simp at h0
    rw [if_neg hh]
    unfold pushB at hm ⊢
    rw [if_neg hw] at hm ⊢
    by_cases ht : 9223372036854775807 < e.t
    · rw [if_pos ht] at hm; simp at hm
    rw [if_neg ht] at hm ⊢
    by_cases hf : e.t < s.b.front
    · rw [if_pos hf] at hm; simp at hm
    rw [if_neg hf]
    have hmk := hg.mkk
    have hse := sumE_ins Event.w s.b.evs e
    obtain ⟨r1, r2, _, _, r3⟩ := passK_ok hg (b := ⟨s.b.late, s.b.room, max s.b.mark e.t, s.b.front, insE s.b.evs e⟩) rfl rfl rfl (by dsimp only; omega) (by dsimp only; omega) (insE_srt hg.sr e)
      (fun x hx => by
        dsimp only at hx ⊢
        rcases insE_mem.1 hx with rfl | hx
        · omega
        · have := hg.ev x hx; omega) (by dsimp only; omega)
    refine ⟨r1, r2, rfl, by omega, fun all hl => ?_⟩
    rw [if_pos (by omega)]
    exact r3 all [e] hl (fun f => by rw [sumE_ins, sumE_cons, sumE_nil, Nat.add_zero])
end Go.Sk
end

-- A19a
section
namespace Go.Sk

theorem inW_mono (tick span : Nat) : Mono (inW tick span) := by
  intro x y h hx
  unfold inW at *
  simp only [Bool.or_eq_true, decide_eq_true_eq] at *
  omega
theorem lo_le_hi {W : Nat → Bool} (hW : Mono W) {l : List Span} (hv : ∀ s ∈ l, s.a ≤ s.b) : lo W l ≤ hi W l :=
  List.countP_mono_left (fun s hs h => hW _ _ (hv s hs) h)
theorem loL_le_hiL {W : Nat → Bool} (hW : Mono W) : ∀ (ls : List (List Span)) (i : Nat), (∀ s ∈ flat ls, s.a ≤ s.b) → loL W i ls ≤ hiL W i ls := by
  intro ls
  induction ls with
  | nil => intro i _; exact Nat.le_refl _
  | cons l r ih =>
    intro i hv
    have h1 := Nat.mul_le_mul_right (2 ^ i) (lo_le_hi hW (l := l) (fun s hs => hv s (List.mem_append_right _ hs)))
    have h2 := ih (i + 1) (fun s hs => hv s (List.mem_append_left _ hs))
    unfold loL hiL; omega
theorem hiL_le_tot (W : Nat → Bool) : ∀ (ls : List (List Span)) (i : Nat), hiL W i ls ≤ totN i ls := by
  intro ls
  induction ls with
  | nil => intro i; exact Nat.le_refl _
  | cons l r ih =>
    intro i
    have h1 : hi W l * 2 ^ i ≤ l.length * 2 ^ i := Nat.mul_le_mul_right _ List.countP_le_length
    have h2 := ih (i + 1)
    unfold hiL totN; omega
theorem part_level (tick span i : Nat) (hi64 : i < 64) : ∀ (l : List Span), (∀ s ∈ l, s.a ≤ s.b) → ∀ p : Nat × Nat, p.1 + p.2 + l.length * 2 ^ i < 18446744073709551616 →
    partsF tick span p (l.map (fun s => (s, i))) = (p.1 + lo (inW tick span) l * 2 ^ i, p.2 + (hi (inW tick span) l - lo (inW tick span) l) * 2 ^ i) := by
  have hpow : (2 : Nat) ^ i < 18446744073709551616 := by
    have h1 : (2 : Nat) ^ i < 2 ^ 64 := Nat.pow_lt_pow_right (by decide) hi64
    have e : (2 : Nat) ^ 64 = 18446744073709551616 := by decide
    omega
  have hu : units i = 2 ^ i := by unfold units; rw [Nat.min_eq_left (by omega), Nat.one_mul, m64_id hpow]
  intro l
  induction l with
  | nil => intro _ p _; simp [partsF, lo, hi]
  | cons s t ih =>
    intro hv p hp
    have hvs := hv s (by simp)
    have hvt : ∀ s ∈ t, s.a ≤ s.b := fun s hs => hv s (by simp [hs])
    have hlh := lo_le_hi (inW_mono tick span) hvt
    rw [List.length_cons, Nat.add_mul, Nat.one_mul] at hp
    show partsF tick span (partStep tick span p (s, i)) (t.map (fun s => (s, i))) = _
    unfold partStep
    dsimp only
    rw [hu]
    unfold lo hi at ih hlh ⊢
    simp only [List.countP_cons]
    cases ha : inW tick span s.a with
    | true =>
      have hb := inW_mono tick span s.a s.b hvs ha
      rw [if_pos rfl, m64_id (by omega), ih hvt _ (by dsimp only; omega)]
      rw [hb]
      simp only [if_true, Nat.add_sub_add_right, Nat.add_mul, Nat.one_mul]
      congr 1; omega
    | false =>
      cases hb : inW tick span s.b with
      | true =>
        simp only [Bool.false_eq_true, if_false, if_true]
        rw [m64_id (by omega), ih hvt _ (by dsimp only; omega)]
        rw [Nat.add_zero, show ∀ a b : Nat, b ≤ a → a + 1 - b = (a - b) + 1 from fun a b h => by omega]
        · rw [Nat.add_mul, Nat.one_mul]; congr 1; omega
        · exact hlh
      | false =>
        simp only [Bool.false_eq_true, if_false, Nat.add_zero]
        exact ih hvt _ (by omega)
theorem parts_eq (tick span : Nat) : ∀ (ls : List (List Span)) (i : Nat), i + ls.length ≤ 64 → (∀ s ∈ flat ls, s.a ≤ s.b) → ∀ p : Nat × Nat, p.1 + p.2 + totN i ls < 18446744073709551616 →
    partsF tick span p (bucksF i ls) = (p.1 + loL (inW tick span) i ls, p.2 + (hiL (inW tick span) i ls - loL (inW tick span) i ls)) := by
  intro ls
  induction ls with
  | nil => intro i _ _ p _; simp [partsF, bucksF, loL, hiL]
  | cons l r ih =>
    intro i hi64 hv p hp
    have hvl : ∀ s ∈ l, s.a ≤ s.b := fun s hs => hv s (List.mem_append_right _ hs)
    have hvr : ∀ s ∈ flat r, s.a ≤ s.b := fun s hs => hv s (List.mem_append_left _ hs)
    rw [List.length_cons] at hi64
    unfold totN at hp
    have e : partsF tick span p (bucksF i (l :: r)) = partsF tick span (partsF tick span p (l.map (fun s => (s, i)))) (bucksF (i + 1) r) := by
      unfold partsF; rw [← List.foldl_append]; rfl
    have hlo := lo_le_hi (inW_mono tick span) hvl
    have hloL := loL_le_hiL (inW_mono tick span) r (i + 1) hvr
    have m1 : lo (inW tick span) l * 2 ^ i ≤ hi (inW tick span) l * 2 ^ i := Nat.mul_le_mul_right _ hlo
    have m2 : hi (inW tick span) l * 2 ^ i ≤ l.length * 2 ^ i := Nat.mul_le_mul_right _ List.countP_le_length
    rw [e, part_level tick span i (by omega) l hvl p (by omega), Nat.sub_mul, ih (i + 1) (by omega) hvr _ (by dsimp only; omega)]
    dsimp only
    rw [show loL (inW tick span) i (l :: r) = lo (inW tick span) l * 2 ^ i + loL (inW tick span) (i + 1) r from rfl, show hiL (inW tick span) i (l :: r) = hi (inW tick span) l * 2 ^ i + hiL (inW tick span) (i + 1) r from rfl]
    congr 1 <;> omega
/-- The estimate, in plain numbers. -/
theorem est_eq {ls : List (List Span)} (hv : ∀ s ∈ flat ls, s.a ≤ s.b) (hl : ls.length ≤ 64) (ht : totN 0 ls ≤ 4503599627370496) (tick span : Nat) :
    estV ls tick span = loL (inW tick span) 0 ls + (hiL (inW tick span) 0 ls - loL (inW tick span) 0 ls) / 2 ∧ hiL (inW tick span) 0 ls ≤ 4503599627370496 ∧ loL (inW tick span) 0 ls ≤ hiL (inW tick span) 0 ls := by
  have h1 := hiL_le_tot (inW tick span) ls 0
  have h2 := loL_le_hiL (inW_mono tick span) ls 0 hv
  refine ⟨?_, by omega, h2⟩
  unfold estV partsV
  rw [parts_eq tick span ls 0 (by omega) hv (0, 0) (by dsimp only; omega)]
  dsimp only
  rw [Nat.zero_add, Nat.zero_add, m64_id (by omega)]

end Go.Sk
end
