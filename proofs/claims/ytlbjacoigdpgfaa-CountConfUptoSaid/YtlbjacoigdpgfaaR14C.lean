/- Texts W14i W14j LE LD L3 L14c, joined. -/
import Derived.Test.YtlbjacoigdpgfaaR14B
import Derived.Test.YtlbjacoigdpgfaaSkBr
import Derived.Test.YtlbjacoigdpgfaaLB
import Derived.Test.YtlbjacoigdpgfaaR14A
set_option linter.unusedSimpArgs false
set_option linter.unusedVariables false
set_option linter.unusedSectionVars false
-- W14i
section
namespace Go.Sk
open Go Go.Proofs

theorem madeK_ok (k : Int) (n0 n1 : Nat) (l : List Event) : (madeK k n0 n1 l).1.Good ∧ (madeK k n0 n1 l).1.Led (madeK k n0 n1 l).2 ∧ (madeK k n0 n1 l).1.past.k = 2 + max k 0 % 30 ∧ (madeK k n0 n1 l).2.length ≤ 30 ∧ ∀ e ∈ (madeK k n0 n1 l).2, e.w ≤ 4503599627370496 := by
  obtain ⟨h1, h2⟩ := newK_good (k := 2 + max k 0 % 30) (win := 1 + n0 % 1000) (late := n1 % 100) (room := 1 + (n1 % 7 : Nat)) (by omega) (by omega) (by omega) (by omega) (by omega) (by omega) (by omega)
  obtain ⟨a, b, c, d, e, f⟩ := madeKo_ok (l.take 30) _ [] h1 h2
  refine ⟨a, b, c, ?_, f (fun e h => by cases h)⟩
  refine Nat.le_trans e ?_
  simp; omega

theorem sumE_all {f : Event → Nat} {B : Nat} : ∀ {l : List Event}, (∀ e ∈ l, f e ≤ B) → sumE f l ≤ l.length * B
  | [], _ => by simp [sumE]
  | e :: r, h => by
    have h1 := h e (by simp)
    have h2 := sumE_all (l := r) (f := f) fun x hx => h x (by simp [hx])
    simp only [sumE_cons, List.length_cons, Nat.add_mul, Nat.one_mul]
    omega

set_option maxHeartbeats 2000000 in
set_option maxRecDepth 8000 in
theorem law_CountBound (k : Int) (n0 n1 n2 : Nat) (l : List Event) (hk0 : -9223372036854775808 ≤ k) (hk : k < 9223372036854775808) (b0 : n0 < 18446744073709551616) (b1 : n1 < 18446744073709551616)
    (hl : ∀ e ∈ l, e.Ok) (ll : l.length ≤ 1048576) :
    CallsR Try.prog 4 [i64 k, .agg [u64 n0, u64 n1, u64 n2], .p (evsP l)] noS (fun x _ => x = bl true) := by
  generalize noS = S
  refine callsR_of Try.func4 rfl (xc_ok (bitB 4398046576599) _ _ _ ?_)
  simp only [go_sem, decide_true, decide_false, Nat.lt_irrefl]
  refine alloc_intro fun c4 h4 => ?_
  simp only [go_sem, decide_true, decide_false, Nat.lt_irrefl]
  refine awake14.useA ?_
  simp only [go_sem, decide_true, decide_false, Nat.lt_irrefl]
  have hM := ref14_Made k n0 n1 l hk0 hk b0 b1 (by omega) hl
  obtain ⟨hg, hled, hpk, hlen, hw⟩ := madeK_ok k n0 n1 l
  refine ⟨by decide, by decide, hM.useA ?_⟩
  generalize madeK k n0 n1 l = X at *
  obtain ⟨s, all⟩ := X
  dsimp only at hM hg hled hpk hlen hw ⊢
  simp only [go_sem, decide_true, decide_false, Nat.lt_irrefl, h4]
  refine alloc_intro fun c8 h8 => ?_
  simp only [fresh_set] at h8
  have hfr : s.b.front ≤ 9223372036854775807 := Nat.le_trans hg.fm hg.mkk
  have hw1 := hg.w1
  have hw2 := hg.w2
  have q1 : m64 (s.b.front + n2 % 200) = s.b.front + n2 % 200 := m64_id (by clear h4 h8; omega)
  have q2 : m64 (1 + n0 / 7 % s.win) = 1 + n0 / 7 % s.win := m64_id (by have := Nat.mod_lt (n0 / 7) (show 0 < s.win by omega); clear h4 h8; omega)
  have q3 : m64 (n0 / 7) = n0 / 7 := m64_id (by clear h4 h8; omega)
  simp only [go_sem, decide_true, decide_false, Nat.lt_irrefl, h4, h8, q1, q2, q3]
  refine ⟨by decide, by decide, by clear h4 h8; omega, ?_⟩
  have y4 : S (.r c4) = none := h4
  have y8 : S (.r c8) = none := h8.2
  by_cases htk : 9223372036854775807 < s.b.front + n2 % 200
  · simp only [go_sem, decide_true, decide_false, Nat.lt_irrefl, htk, h4, h8]
    exact ⟨S, by repeat' first | exact Sub.refl _ | refine Sub.set ?_ (by assumption) _⟩
  simp only [go_sem, decide_true, decide_false, Nat.lt_irrefl, htk, h4, h8]
  have hsp : 1 + n0 / 7 % s.win ≤ s.win := by have := Nat.mod_lt (n0 / 7) (show 0 < s.win by clear h4 h8; omega); clear h4 h8; omega
  have hs1 : ¬ (1 + n0 / 7 % s.win = 0) := by clear h4 h8; omega
  have ht1 : s.b.front ≤ s.b.front + n2 % 200 := by clear h4 h8; omega
  have ht2 : s.b.front + n2 % 200 ≤ 9223372036854775807 := by clear h4 h8; omega
  clear q1 q2 q3
  generalize 1 + n0 / 7 % s.win = span at *
  generalize s.b.front + n2 % 200 = tick at *
  have hQ := count_Query s hg tick span
  obtain ⟨E, hE, hE2, hlo, hhi⟩ := count_bound hg hled ht1 ht2 hsp
  have hqk : queryK s tick span = (E, 0) := by
    unfold queryK
    rw [if_neg (by clear h4 h8; omega), if_neg (by clear h4 h8; omega), hE, m64_id (by clear h4 h8; omega)]
  rw [hqk] at hQ
  dsimp only at hQ
  have hsum : sumE (wtT tick span) all ≤ 30 * 4503599627370496 := by
    refine Nat.le_trans (sumE_all (B := 4503599627370496) fun e he => Nat.le_trans (wtT_le tick span e) (hw e he)) ?_
    exact Nat.mul_le_mul_right _ hlen
  have hR := ref13_Sum all tick span (by clear h4 h8; omega)
  rw [show spanV all tick span = sumE (wtT tick span) all by
    have := spanV_eq tick span all 0 (by clear h4 h8; omega)
    unfold spanV; rw [this, Nat.zero_add]] at hR
  generalize sumE (wtT tick span) all = R at *
  obtain ⟨K, hK⟩ : ∃ K : Nat, s.past.k = (K : Int) := ⟨s.past.k.toNat, by clear h4 h8; omega⟩
  have hK2 : 2 ≤ K := by clear h4 h8; omega
  have hK3 : K ≤ 31 := by clear h4 h8; omega
  have hKK : s.past.k.toNat = K := by rw [hK]; rfl
  rw [hKK] at hlo hhi
  refine (made14 s).useA ?_
  simp only [go_sem, decide_true, decide_false, Nat.lt_irrefl, h4, h8]
  refine hQ.useA ?_
  simp only [go_sem, decide_true, decide_false, Nat.lt_irrefl, h4, h8]
  refine hR.useA ?_
  have m0 : m64 K = K := m64_id (by clear h4 h8; omega)
  have m1 : sub64 K 1 = K - 1 := sub64_le (by clear h4 h8; omega) (by clear h4 h8; omega)
  have bR1 : (K - 1) * R ≤ 31 * (30 * 4503599627370496) := Nat.mul_le_mul (by clear h4 h8; omega) hsum
  have bR2 : (K + 1) * R ≤ 32 * (30 * 4503599627370496) := Nat.mul_le_mul (by clear h4 h8; omega) hsum
  have bE : K * E ≤ 31 * 4503599627370496 := Nat.mul_le_mul hK3 hE2
  have m2 : m64 ((K - 1) * R) = (K - 1) * R := m64_id (by clear h4 h8 hlo hhi bR2 bE; omega)
  have m3 : m64 ((K + 1) * R) = (K + 1) * R := m64_id (by clear h4 h8 hlo hhi bR1 bE; omega)
  have m4 : m64 (K * E) = K * E := m64_id (by clear h4 h8 hlo hhi bR1 bR2; omega)
  have m5 : m64 (K + 1) = K + 1 := m64_id (by clear h4 h8; omega)
  simp only [go_sem, decide_true, decide_false, Nat.lt_irrefl, h4, h8, hK, m0, m1, m2, m3, m4, m5, decide_eq_true hlo, decide_eq_true hhi]
  exact ⟨S, by repeat' first | exact Sub.refl _ | refine Sub.set ?_ (by assumption) _⟩
end Go.Sk
end

-- W14j
section
namespace Go.Sk
open Go Go.Proofs

theorem newK_small (k : Int) (win late : Nat) (room : Int) : (newK k win late room).Small := ⟨by simp [newK], ⟨by simp [newK], fun l hl => by simp [newK] at hl⟩⟩

set_option maxHeartbeats 2000000 in
set_option maxRecDepth 8000 in
theorem law_CountConf (k : Int) (n0 n1 n2 : Nat) (l : List Event) (hk0 : -9223372036854775808 ≤ k) (hk : k < 9223372036854775808) (b0 : n0 < 18446744073709551616) (b1 : n1 < 18446744073709551616)
    (hl : ∀ e ∈ l, e.Ok) (ll : l.length ≤ 1048576) :
    CallsR Try.prog 3 [i64 k, .agg [u64 n0, u64 n1, u64 n2], .p (evsP l)] noS (fun x _ => x = bl true) := by
  generalize noS = S
  refine callsR_of Try.func3 rfl (xc_ok (bitB 8372183) _ _ _ ?_)
  simp only [go_sem, decide_true, decide_false, Nat.lt_irrefl]
  refine alloc_intro fun c4 h4 => ?_
  have y4 : S (.r c4) = none := h4
  simp only [go_sem, decide_true, decide_false, Nat.lt_irrefl]
  refine awake14.useA ?_
  have q1 : wi ((n2 % 2000 : Nat) : Int) = ((n2 % 2000 : Nat) : Int) := wi_id (by omega) (by omega)
  simp only [go_sem, decide_true, decide_false, Nat.lt_irrefl, q1]
  have hC := count_New k n0 n1 ((n2 % 2000 : Nat) : Int)
  have hF := ref14_Conf k n0 n1 ((n2 % 2000 : Nat) : Int)
  have hN := ref14_New k n0 n1 ((n2 % 2000 : Nat) : Int)
  have hS := same14 (newK k n0 n1 ((n2 % 2000 : Nat) : Int)) (newK k n0 n1 ((n2 % 2000 : Nat) : Int)) (newK_small _ _ _ _)
  rw [decide_eq_true rfl] at hS
  have hM := ref14_Made k n0 n1 l hk0 hk b0 b1 (by omega) hl
  obtain ⟨hg, hled, hpk, hlen, hw⟩ := madeK_ok k n0 n1 l
  generalize madeK k n0 n1 l = X at *
  obtain ⟨s, all⟩ := X
  dsimp only at hM hg
  clear hled hpk hlen hw
  have hfr : s.b.front ≤ 9223372036854775807 := Nat.le_trans hg.fm hg.mkk
  have hw1 := hg.w1
  have hw2 := hg.w2
  have q2 : m64 (s.b.front + n2 % 50) = s.b.front + n2 % 50 := m64_id (by omega)
  have q3 : m64 (1 + n0 % s.win) = 1 + n0 % s.win := m64_id (by have := Nat.mod_lt n0 (show 0 < s.win by omega); omega)
  have hQ1 := count_Query s hg n2 n0
  have hR1 := ref14_Query s hg n2 n0
  have hQ2 := count_Query s hg (s.b.front + n2 % 50) (1 + n0 % s.win)
  have hR2 := ref14_Query s hg (s.b.front + n2 % 50) (1 + n0 % s.win)
  generalize newK k n0 n1 ((n2 % 2000 : Nat) : Int) = s0 at *
  generalize queryK s n2 n0 = A1 at *
  generalize queryK s (s.b.front + n2 % 50) (1 + n0 % s.win) = A2 at *
  cases hc : confK k n0 n1 ((n2 % 2000 : Nat) : Int)
  · rw [hc] at hC hF
    simp only [Bool.false_eq_true, if_false] at hC
    refine ⟨by decide, by decide, by decide, by decide, hC.useA ?_⟩
    simp only [go_sem, decide_true, decide_false, Nat.lt_irrefl, q1]
    refine alloc_intro fun c9 h9 => ?_
    simp only [fresh_set] at h9
    have y9 : S (.r c9) = none := h9.2
    simp only [go_sem, decide_true, decide_false, Nat.lt_irrefl, q1, h9]
    refine ⟨by decide, by decide, hF.useA ?_⟩
    simp only [go_sem, decide_true, decide_false, Nat.lt_irrefl, q1, h9]
    refine AWP.draw2 (bitB 8372183) mixed (by kernel_rfl) (fun j => if j = 20 then s0.av else bl true) ?_
    simp only [go_sem, decide_true, decide_false, Nat.lt_irrefl, h9]
    refine ⟨by decide, by decide, ?_⟩
    refine hM.useA ?_
    simp only [go_sem, decide_true, decide_false, Nat.lt_irrefl, h9]
    refine alloc_intro fun c13 h13 => ?_
    simp only [fresh_set] at h13
    have y13 : S (.r c13) = none := h13.2.2
    simp only [go_sem, decide_true, decide_false, Nat.lt_irrefl, h9, h13]
    refine AWP.draw2 (bitB 8372183) mixed (by kernel_rfl) (fun j => if j = 1 then s.av else .tuple [u64 A1.1, i64 A1.2]) ?_
    simp only [go_sem, decide_true, decide_false, Nat.lt_irrefl, h9, h13]
    repeat first | refine ⟨by decide, ?_⟩ | refine ⟨hN.draw, ?_⟩ | refine ⟨hS.draw, ?_⟩ | refine ⟨(made14 s).draw, ?_⟩ | refine ⟨hQ1.draw, ?_⟩ | refine ⟨hR1.draw, ?_⟩ | refine ⟨hQ2.draw, ?_⟩ | refine ⟨hR2.draw, ?_⟩ | refine ⟨by omega, ?_⟩
    refine hR1.useA ?_
    simp only [go_sem, decide_true, decide_false, Nat.lt_irrefl, h9, h13, q2, q3]
    refine AWP.draw2 (bitB 8372183) mixed (by kernel_rfl) (fun j => if j = 1 then s.av else .tuple [u64 A2.1, i64 A2.2]) ?_
    simp only [go_sem, decide_true, decide_false, Nat.lt_irrefl, h9, h13, q2, q3]
    repeat first | refine ⟨by decide, ?_⟩ | refine ⟨hN.draw, ?_⟩ | refine ⟨hS.draw, ?_⟩ | refine ⟨(made14 s).draw, ?_⟩ | refine ⟨hQ1.draw, ?_⟩ | refine ⟨hR1.draw, ?_⟩ | refine ⟨hQ2.draw, ?_⟩ | refine ⟨hR2.draw, ?_⟩ | refine ⟨by omega, ?_⟩
    refine AWP.draw2 (bitB 8372183) mixed (by kernel_rfl) (fun j => .tuple [u64 A2.1, i64 A2.2]) ?_
    simp only [go_sem, decide_true, decide_false, Nat.lt_irrefl, h9, h13, q2, q3]
    repeat first | refine ⟨by decide, ?_⟩ | refine ⟨hN.draw, ?_⟩ | refine ⟨hS.draw, ?_⟩ | refine ⟨(made14 s).draw, ?_⟩ | refine ⟨hQ1.draw, ?_⟩ | refine ⟨hR1.draw, ?_⟩ | refine ⟨hQ2.draw, ?_⟩ | refine ⟨hR2.draw, ?_⟩ | refine ⟨by omega, ?_⟩
    repeat' first | exact Sub.refl _ | refine Sub.set ?_ (by assumption) _
  · rw [hc] at hC hF
    simp only [if_true] at hC
    refine ⟨by decide, by decide, by decide, by decide, hC.useA ?_⟩
    simp only [go_sem, decide_true, decide_false, Nat.lt_irrefl, q1]
    refine alloc_intro fun c9 h9 => ?_
    simp only [fresh_set] at h9
    have y9 : S (.r c9) = none := h9.2
    simp only [go_sem, decide_true, decide_false, Nat.lt_irrefl, q1, h9]
    refine ⟨by decide, by decide, hF.useA ?_⟩
    simp only [go_sem, decide_true, decide_false, Nat.lt_irrefl, q1, h9]
    refine AWP.draw2 (bitB 8372183) mixed (by kernel_rfl) (fun j => if j = 20 then s0.av else bl true) ?_
    simp only [go_sem, decide_true, decide_false, Nat.lt_irrefl, h9]
    repeat first | refine ⟨by decide, ?_⟩ | refine ⟨hN.draw, ?_⟩ | refine ⟨hS.draw, ?_⟩ | refine ⟨(made14 s).draw, ?_⟩ | refine ⟨hQ1.draw, ?_⟩ | refine ⟨hR1.draw, ?_⟩ | refine ⟨hQ2.draw, ?_⟩ | refine ⟨hR2.draw, ?_⟩ | refine ⟨by omega, ?_⟩
    refine hM.useA ?_
    simp only [go_sem, decide_true, decide_false, Nat.lt_irrefl, h9]
    refine alloc_intro fun c13 h13 => ?_
    simp only [fresh_set] at h13
    have y13 : S (.r c13) = none := h13.2.2
    simp only [go_sem, decide_true, decide_false, Nat.lt_irrefl, h9, h13]
    refine AWP.draw2 (bitB 8372183) mixed (by kernel_rfl) (fun j => if j = 1 then s.av else .tuple [u64 A1.1, i64 A1.2]) ?_
    simp only [go_sem, decide_true, decide_false, Nat.lt_irrefl, h9, h13]
    repeat first | refine ⟨by decide, ?_⟩ | refine ⟨hN.draw, ?_⟩ | refine ⟨hS.draw, ?_⟩ | refine ⟨(made14 s).draw, ?_⟩ | refine ⟨hQ1.draw, ?_⟩ | refine ⟨hR1.draw, ?_⟩ | refine ⟨hQ2.draw, ?_⟩ | refine ⟨hR2.draw, ?_⟩ | refine ⟨by omega, ?_⟩
    refine hR1.useA ?_
    simp only [go_sem, decide_true, decide_false, Nat.lt_irrefl, h9, h13, q2, q3]
    refine AWP.draw2 (bitB 8372183) mixed (by kernel_rfl) (fun j => if j = 1 then s.av else .tuple [u64 A2.1, i64 A2.2]) ?_
    simp only [go_sem, decide_true, decide_false, Nat.lt_irrefl, h9, h13, q2, q3]
    repeat first | refine ⟨by decide, ?_⟩ | refine ⟨hN.draw, ?_⟩ | refine ⟨hS.draw, ?_⟩ | refine ⟨(made14 s).draw, ?_⟩ | refine ⟨hQ1.draw, ?_⟩ | refine ⟨hR1.draw, ?_⟩ | refine ⟨hQ2.draw, ?_⟩ | refine ⟨hR2.draw, ?_⟩ | refine ⟨by omega, ?_⟩
    refine AWP.draw2 (bitB 8372183) mixed (by kernel_rfl) (fun j => .tuple [u64 A2.1, i64 A2.2]) ?_
    simp only [go_sem, decide_true, decide_false, Nat.lt_irrefl, h9, h13, q2, q3]
    repeat first | refine ⟨by decide, ?_⟩ | refine ⟨hN.draw, ?_⟩ | refine ⟨hS.draw, ?_⟩ | refine ⟨(made14 s).draw, ?_⟩ | refine ⟨hQ1.draw, ?_⟩ | refine ⟨hR1.draw, ?_⟩ | refine ⟨hQ2.draw, ?_⟩ | refine ⟨hR2.draw, ?_⟩ | refine ⟨by omega, ?_⟩
    repeat' first | exact Sub.refl _ | refine Sub.set ?_ (by assumption) _
end Go.Sk
end

-- LE
section
namespace Go.Sk
open Go Go.Proofs Go.ChangeShapes Go.WideShapes Go.ChangeAt Go.RowKit

theorem fit_events {N : Nat} {pv : PV} (h : Fit N (.sl [.int .u64, .int .u64, .int .u64]) pv) : ∃ l : List Event, pv = evsP l ∧ (∀ e ∈ l, e.Ok) ∧ l.length ≤ N := by
  refine fit_list (pvf := Event.pv) (ok := Event.Ok) h (fun l hl hf => ?_)
  obtain ⟨a, b, c, rfl, ha, hb, hc⟩ := fit_three hl hf
  obtain ⟨x, hx, rfl⟩ := fit_u64 ha
  obtain ⟨y, hy, rfl⟩ := fit_u64 hb
  obtain ⟨z, hz, rfl⟩ := fit_u64 hc
  exact ⟨⟨x, y, z⟩, rfl, hx, hy, hz⟩
theorem shEvents : shOf Try.prog 8 26 = some [.sl [.int .u64, .int .u64, .int .u64]] := by kernel_rfl
section
variable {H : Type} {enc : TypeId × Value → H}
set_option maxRecDepth 100000 in
theorem arg_events {W : World} {base N : Nat} {v : Value} {d : DataW H} {p : List MemPlace} (hok : Value.okWide Try.prog W .any base 26 v) (h : DataW.Trod enc Try.prog W 0 (fun _ => true) true 26 v d p) (hN : Ytlbjacoigdpgfaa.Rows.uptoBulk d ≤ N) :
    ∃ l : List Event, (∀ e ∈ l, e.Ok) ∧ l.length ≤ N ∧ RepA (allD W) W v (.p (evsP l)) := by
  obtain ⟨a, n, c, rfl⟩ := okWide_slice Try.underlying26 hok
  obtain ⟨pv, hf, hr⟩ := arg_one (N := N) (f := 8) (bulkOk H) shEvents (fun c h => by cases h) h hN
  obtain ⟨l, rfl, h1, h2⟩ := fit_events hf
  exact ⟨l, h1, h2, hr⟩
end
end Go.Sk
end

-- LD
section
namespace Go.Sk
open Go Go.Proofs Go.ChangeShapes Go.WideShapes Go.ChangeAt Go.RowKit

theorem shDeeds : shOf Try.prog 8 24 = some [.sl [.int .u64, .int .u64, .int .u64]] := by kernel_rfl
section
variable {H : Type} {enc : TypeId × Value → H}
set_option maxRecDepth 100000 in
theorem arg_deeds {W : World} {base N : Nat} {v : Value} {d : DataW H} {p : List MemPlace} (hok : Value.okWide Try.prog W .any base 24 v) (h : DataW.Trod enc Try.prog W 0 (fun _ => true) true 24 v d p) (hN : Ytlbjacoigdpgfaa.Rows.uptoBulk d ≤ N) :
    ∃ l : List Event, (∀ e ∈ l, e.Ok) ∧ l.length ≤ N ∧ RepA (allD W) W v (.p (evsP l)) := by
  obtain ⟨a, n, c, rfl⟩ := okWide_slice Try.underlying24 hok
  obtain ⟨pv, hf, hr⟩ := arg_one (N := N) (f := 8) (bulkOk H) shDeeds (fun c h => by cases h) h hN
  obtain ⟨l, rfl, h1, h2⟩ := fit_events hf
  exact ⟨l, h1, h2, hr⟩
end
end Go.Sk
end

-- L3
section
namespace Go.Sk
open Go Go.Proofs Go.ChangeShapes Go.WideShapes Go.ChangeAt Go.RowKit

theorem shThree : shOf Try.prog 8 23 = some [.int .u64, .int .u64, .int .u64] := by kernel_rfl
section
variable {H : Type} {enc : TypeId × Value → H}
set_option maxRecDepth 100000 in
theorem arg_three {W : World} {base N : Nat} {v : Value} {d : DataW H} {p : List MemPlace} (hok : Value.okWide Try.prog W .any base 23 v) (h : DataW.Trod enc Try.prog W 0 (fun _ => true) true 23 v d p) (hN : Ytlbjacoigdpgfaa.Rows.uptoBulk d ≤ N) :
    ∃ n0 n1 n2 : Nat, (n0 < 18446744073709551616 ∧ n1 < 18446744073709551616 ∧ n2 < 18446744073709551616) ∧ RepA (allD W) W v (.agg [u64 n0, u64 n1, u64 n2]) := by
  obtain ⟨pvs, hl, hf, hr⟩ := arg_agg (N := N) (f := 8) (bulkOk H) shThree (by rw [Try.underlying23]) hok h hN
  match pvs, hl with
  | [a, b, c], _ =>
    obtain ⟨x0, h0, e0⟩ := fit_u64 (hf 0 (by simp))
    obtain ⟨x1, h1, e1⟩ := fit_u64 (hf 1 (by simp))
    obtain ⟨x2, h2, e2⟩ := fit_u64 (hf 2 (by simp))
    simp at e0 e1 e2
    subst e0; subst e1; subst e2
    exact ⟨x0, x1, x2, ⟨h0, h1, h2⟩, hr⟩
end
end Go.Sk
end

-- L14c
section
namespace Go.Sk
open Go Go.Proofs Go.ChangeShapes Go.WideShapes Go.ChangeAt Go.RowKit

namespace countConf
set_option maxRecDepth 100000 in
theorem contract (H : Type) (enc : TypeId × Value → H) (W : World) (base : Nat) (args : Array Value) (ds gs : List (DataW H)) (before : List MemPlace)
    (hval : ∀ (j : Nat) t v, Try.f3.params[j]? = some t → args[j]? = some v → Value.okWide Try.prog W .any base t v)
    (hW : DataW.Whole enc Try.prog Try.f3.params.toList Ytlbjacoigdpgfaa.Rows.countConfSpec.vars false W args.toList ds gs before) (hk : Ytlbjacoigdpgfaa.Rows.uptoSmall H (ds ++ gs) = true) :
    Calls Try.prog 3 args W fun e W' => ∃ v, e = .returned v ∧ Ytlbjacoigdpgfaa.Rows.countConfSpec.post enc Try.prog Try.f3 false true false false W args v W' := by
  have hW' := hW
  obtain ⟨p, q, hA0, hV, rfl, hfz, hnd⟩ := hW
  have hA : DataW.TrodAll enc Try.prog W 0 (fun _ => true) true Try.f3.params.toList args.toList ds p := hA0
  rw [Try.params3] at hA hval
  obtain ⟨v0, vs0, d0, ds0, p0, q0, hargs, rfl, rfl, h0, r0⟩ := trodAll_cons hA
  obtain ⟨v1, vs1, d1, ds1, p1, q1, rfl, rfl, rfl, h1, r1⟩ := trodAll_cons r0
  obtain ⟨v2, vs2, d2, ds2, p2, q2, rfl, rfl, rfl, h2, r2⟩ := trodAll_cons r1
  obtain ⟨rfl, rfl, rfl⟩ := trodAll_nil r2
  obtain ⟨rfl, rfl⟩ := trodVars_none hV
  obtain rfl : args = #[v0, v1, v2] := by cases args; simp_all
  have hb : Ytlbjacoigdpgfaa.Rows.uptoBulkAll ([d0, d1, d2] ++ []) ≤ 1048576 := of_decide_eq_true hk
  obtain ⟨b0, hb⟩ := small_cons hb
  obtain ⟨b1, hb⟩ := small_cons hb
  obtain ⟨b2, hb⟩ := small_cons hb
  obtain ⟨k, hk, rep0⟩ := arg_i64 (hval 0 3 v0 rfl rfl) h0 b0
  obtain ⟨n0, n1, n2, hn, rep1⟩ := arg_three (hval 1 23 v1 rfl rfl) h1 b1
  obtain ⟨l, hl, ll, rep2⟩ := arg_deeds (hval 2 24 v2 rfl rfl) h2 b2
  refine ((law_CountConf k n0 n1 n2 l hk.1 hk.2 hn.1 hn.2.1 hl ll) (allD W) W #[v0, v1, v2] (rel_all W) ⟨rfl, fun i hi => ?_⟩).mono ?_
  · match i, hi with
    | 0, _ => exact rep0
    | 1, _ => exact rep1
    | 2, _ => exact rep2
  · rintro e W' ⟨v, rfl, x, S', D', rfl, _, hrep, hE⟩
    cases hrep with
    | p hrep =>
    cases hrep
    exact ⟨_, rfl, bridge kids full hW' rfl (by rw [Try.params3]; decide) rfl Try.underlying4 rfl rfl rfl hE.still⟩

set_option maxRecDepth 100000 in
theorem lifted (os : Os) (started : os.Started) (H : Type) (enc : TypeId × Value → H) (F : Stop.Interp) :
    ReturnsInHanded {} Try.checked os 3 .any ((Ytlbjacoigdpgfaa.Rows.OpenSpec.upto Ytlbjacoigdpgfaa.Rows.countConfSpec).pre6 enc Try.prog Try.f3 Ytlbjacoigdpgfaa.Rows.countConfUptoRow.domain false) (((Ytlbjacoigdpgfaa.Rows.OpenSpec.upto Ytlbjacoigdpgfaa.Rows.countConfSpec).at F).post enc Try.prog Try.f3 false true false false) := by
  refine returnsInHanded_of_cond (C := Try.checked) (s := Ytlbjacoigdpgfaa.Rows.OpenSpec.upto Ytlbjacoigdpgfaa.Rows.countConfSpec) (k := Ytlbjacoigdpgfaa.Rows.uptoSmall) rfl own started (by kernel_rfl) Try.func3
    (OpenSpec.witness (enc := enc) (C := Try.checked) (s := Ytlbjacoigdpgfaa.Rows.OpenSpec.upto Ytlbjacoigdpgfaa.Rows.countConfSpec) (k := Ytlbjacoigdpgfaa.Rows.uptoSmall) rfl false ⟨#[], #[.int .i64 0, .agg #[.int .u64 0, .int .u64 0, .int .u64 0], .slice none 0 0], []⟩ 12 (by kernel_rfl) (by kernel_rfl) (by kernel_rfl)
      (x := ([.lit (.int .i64 0), .agg [.lit (.int .u64 0), .lit (.int .u64 0), .lit (.int .u64 0)], .nil], [], [])) (by kernel_rfl) rfl (by kernel_rfl)) ?_
  intro W base args ds gs before hval hW _ hk _
  exact contract H enc W base args ds gs before hval hW hk

theorem j1 : (Ytlbjacoigdpgfaa.Rows.countConfUptoRow.inPlace == Try.prog.inPlace 3) = true := by kernel_rfl
theorem j2 : (Ytlbjacoigdpgfaa.Rows.countConfUptoRow.unfollowed == Try.prog.unfollowed 3) = true := by kernel_rfl
theorem j3 : (Ytlbjacoigdpgfaa.Rows.countConfUptoRow.recurses == Try.prog.recurses 3) = true := by kernel_rfl
theorem j4 : (Ytlbjacoigdpgfaa.Rows.countConfUptoRow.named == Try.prog.varsNamed 3) = true := by kernel_rfl
theorem j5 : (Ytlbjacoigdpgfaa.Rows.countConfUptoRow.plainKeys == Try.prog.plainKeys) = true := by kernel_rfl
theorem j6 : (Ytlbjacoigdpgfaa.Rows.countConfUptoRow.lifted == Try.prog.liftsFinal) = true := by kernel_rfl
theorem j7 : (Try.prog.make == some Ytlbjacoigdpgfaa.Rows.countConfUptoRow.make) = true := by kernel_rfl
set_option maxRecDepth 100000 in
theorem jf : joinedFacts Try.prog 3 Try.f3 (Ytlbjacoigdpgfaa.Rows.OpenSpec.upto Ytlbjacoigdpgfaa.Rows.countConfSpec).bare Ytlbjacoigdpgfaa.Rows.countConfUptoRow = true := by
  unfold joinedFacts
  exact and_ok (and_ok (and_ok (and_ok (and_ok (and_ok (and_ok (and_ok (and_ok (and_ok (and_ok (and_ok (and_ok (and_ok (and_ok (and_ok (and_ok (and_ok (and_ok (and_ok (and_ok (and_ok (and_ok (and_ok (and_ok (and_ok (and_ok (and_ok (and_ok (and_ok (and_ok (by kernel_rfl) j_laid) j_maps) (by kernel_rfl)) (by kernel_rfl)) (by kernel_rfl)) (by kernel_rfl)) (by kernel_rfl)) (by kernel_rfl)) j1) j2) j3) j4) (by kernel_rfl)) (by kernel_rfl)) (by kernel_rfl)) (by kernel_rfl)) (by kernel_rfl)) (by kernel_rfl)) (by kernel_rfl)) (by kernel_rfl)) (by kernel_rfl)) j5) (by kernel_rfl)) j_heard) j_enter) j6) j7) (by kernel_rfl)) (by kernel_rfl)) (by kernel_rfl)) (by kernel_rfl)
end countConf
theorem _root_.Go.Proofs.Ytlbjacoigdpgfaa.countConf_proved : Ytlbjacoigdpgfaa.Rows.CountConfUptoSaid :=
  OpenClaim.holds_of_cond 3 Try.f3 rfl rfl rfl rfl rfl rfl rfl ⟨rfl, rfl, rfl, rfl, rfl⟩ rfl rfl rfl rfl rfl (by kernel_rfl) Try.func3 countConf.jf
    (of_decide_eq_true (by kernel_rfl)) (by unfold Func.isWrapper; first | (rw [if_pos (by decide +kernel)]; kernel_rfl) | (rw [if_neg (by decide +kernel)]; exact ⟨rfl, rfl⟩))
    (fun os started H enc _ F => countConf.lifted os started H enc F)
#print axioms Go.Proofs.Ytlbjacoigdpgfaa.countConf_proved
end Go.Sk
end
