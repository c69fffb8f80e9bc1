/- Texts W10r W10s W10t, joined. -/
import Derived.Test.YtmpockfgppcnbaaR10I
import Derived.Test.YtmpockfgppcnbaaR10E
set_option linter.unusedSimpArgs false
set_option linter.unusedVariables false
set_option linter.unusedSectionVars false
-- W10r
section
namespace Go.Sk
open Go Go.Proofs

set_option maxHeartbeats 2000000 in
set_option maxRecDepth 8000 in
theorem law10_real (t : Tree) (ho : t.Ok) (hl : t.Light) (tick span : Nat) : Pure Try.prog 14 [t.av, u64 tick, u64 span] (u64 (realW t (inW tick span))) := fun S => by
  have hd := ho.d
  have x0 := ref08_Exact t.k t.l0 tick span ho.k1 (by have := ho.o0.2; omega) ho.o0.1
  have x1 := ref08_Exact t.k t.l1 tick span ho.k1 (by have := ho.o1.2; omega) ho.o1.1
  have x2 := ref08_Exact t.k t.l2 tick span ho.k1 (by have := ho.o2.2; omega) ho.o2.1
  have x3 := ref08_Exact t.k t.l3 tick span ho.k1 (by have := ho.o3.2; omega) ho.o3.1
  obtain ⟨z0, z1, z2, z3⟩ := hl.sz
  have b0 := came_le t.k t.l0 (inW tick span)
  have b1 := came_le t.k t.l1 (inW tick span)
  have b2 := came_le t.k t.l2 (inW tick span)
  have b3 := came_le t.k t.l3 (inW tick span)
  unfold realW
  obtain ⟨C0, hC0⟩ : ∃ c, cameD t.k t.l0 (inW tick span) = c := ⟨_, rfl⟩
  obtain ⟨C1, hC1⟩ : ∃ c, cameD t.k t.l1 (inW tick span) = c := ⟨_, rfl⟩
  obtain ⟨C2, hC2⟩ : ∃ c, cameD t.k t.l2 (inW tick span) = c := ⟨_, rfl⟩
  obtain ⟨C3, hC3⟩ : ∃ c, cameD t.k t.l3 (inW tick span) = c := ⟨_, rfl⟩
  rw [hC0] at x0 b0
  rw [hC1] at x1 b1
  rw [hC2] at x2 b2
  rw [hC3] at x3 b3
  rw [hC0, hC1, hC2, hC3]
  have hT := ref10_Times t ho
  unfold timesA at hT
  have ht : (timesV (t.deep % 5)).1 ≤ 3 ∧ (timesV (t.deep % 5)).2.1 ≤ 3 ∧ (timesV (t.deep % 5)).2.2.1 ≤ 3 ∧ (timesV (t.deep % 5)).2.2.2 ≤ 3 := by
    unfold timesV
    split
    · simp
    · split
      · simp
      · dsimp only; omega
  obtain ⟨⟨T0, T1, T2, T3⟩, hTT⟩ : ∃ x, timesV (t.deep % 5) = x := ⟨_, rfl⟩
  rw [hTT] at hT ht ⊢
  dsimp only at hT ht ⊢
  obtain ⟨ht0, ht1, ht2, ht3⟩ := ht
  have p0 : T0 * C0 ≤ 3 * 32985348833280 := Nat.mul_le_mul ht0 (by omega)
  have p1 : T1 * C1 ≤ 3 * 32985348833280 := Nat.mul_le_mul ht1 (by omega)
  have p2 : T2 * C2 ≤ 3 * 32985348833280 := Nat.mul_le_mul ht2 (by omega)
  have p3 : T3 * C3 ≤ 3 * 32985348833280 := Nat.mul_le_mul ht3 (by omega)
  have m0 : m64 (T0 * C0) = T0 * C0 := m64_id (by omega)
  have m1 : m64 (T1 * C1) = T1 * C1 := m64_id (by omega)
  have m2 : m64 (T2 * C2) = T2 * C2 := m64_id (by omega)
  have m3 : m64 (T3 * C3) = T3 * C3 := m64_id (by omega)
  have a0 : m64 (0 + T0 * C0) = T0 * C0 := by rw [m64_id (by omega)]; omega
  have a1 : m64 (T0 * C0 + T1 * C1) = T0 * C0 + T1 * C1 := m64_id (by omega)
  have a2 : m64 (T0 * C0 + T1 * C1 + T2 * C2) = T0 * C0 + T1 * C1 + T2 * C2 := m64_id (by omega)
  have a3 : m64 (T0 * C0 + T1 * C1 + T2 * C2 + T3 * C3) = T0 * C0 + T1 * C1 + T2 * C2 + T3 * C3 := m64_id (by omega)
  have d0 : decide ((0 : Int) < 4) = true := by decide
  have d1 : decide ((1 : Int) < 4) = true := by decide
  have d2 : decide ((2 : Int) < 4) = true := by decide
  have d3 : decide ((3 : Int) < 4) = true := by decide
  have d4 : decide ((4 : Int) < 4) = false := by decide
  have w0 : wi ((0 : Int) + 1) = 1 := wi_id (by decide) (by decide)
  have w1 : wi ((1 : Int) + 1) = 2 := wi_id (by decide) (by decide)
  have w2 : wi ((2 : Int) + 1) = 3 := wi_id (by decide) (by decide)
  have w3 : wi ((3 : Int) + 1) = 4 := wi_id (by decide) (by decide)
  refine callR_of Try.func14 rfl rfl (xc_ok (bitB 9167) _ _ _ ?_)
  simp only [go_sem, Tree.av, Tree.pv]
  refine alloc_intro fun c3 h3 => ?_
  have y3 : S (.r c3) = none := h3
  simp only [go_sem]
  refine hT.useA ?_
  simp only [go_sem]
  refine alloc_intro fun c7 h7 => ?_
  simp only [fresh_set] at h7
  have y7 : S (.r c7) = none := h7.2
  simp only [go_sem, h7]
  refine AWP.head (AWPH.step (xc_ok (bitB 9167) _ _ _ ?_))
  simp only [go_sem, h7, d0]
  refine AWP.draw2 (bitB 9167) mixed (by kernel_rfl) (fun j => u64 C0) ?_
  simp only [go_sem, h7, w0, m0, a0]
  repeat first | refine ⟨by decide, ?_⟩ | refine ⟨x0.draw, ?_⟩
  refine AWPH.step (xc_ok (bitB 9167) _ _ _ ?_)
  simp only [go_sem, h7, d1]
  refine AWP.draw2 (bitB 9167) mixed (by kernel_rfl) (fun j => u64 C1) ?_
  simp only [go_sem, h7, w1, m1, a1]
  repeat first | refine ⟨by decide, ?_⟩ | refine ⟨x1.draw, ?_⟩
  refine AWPH.step (xc_ok (bitB 9167) _ _ _ ?_)
  simp only [go_sem, h7, d2]
  refine AWP.draw2 (bitB 9167) mixed (by kernel_rfl) (fun j => u64 C2) ?_
  simp only [go_sem, h7, w2, m2, a2]
  repeat first | refine ⟨by decide, ?_⟩ | refine ⟨x2.draw, ?_⟩
  refine AWPH.step (xc_ok (bitB 9167) _ _ _ ?_)
  simp only [go_sem, h7, d3]
  refine AWP.draw2 (bitB 9167) mixed (by kernel_rfl) (fun j => u64 C3) ?_
  simp only [go_sem, h7, w3, m3, a3]
  repeat first | refine ⟨by decide, ?_⟩ | refine ⟨x3.draw, ?_⟩
  refine AWPH.step (xc_ok (bitB 9167) _ _ _ ?_)
  simp only [go_sem, h7, d4]
  exact ⟨S, Sub.set (Sub.set (Sub.refl _) y3 _) y7 _, Or.inl rfl⟩

/-! Numbers by 2^32. -/
def digA (l : List Nat) : AV := .agg (l.map u64)
def dig2 (n : Nat) : List Nat := [n % 4294967296, n / 4294967296, 0, 0, 0, 0, 0, 0]
theorem law10_digits (n : Nat) (hn : n < 18446744073709551616) : Pure Try.prog 38 [u64 n] (digA (dig2 n)) := fun S => by
  refine callR_of Try.func38 rfl rfl (xc_ok (bitB 5) _ _ _ ?_)
  simp only [go_sem]
  refine alloc_intro fun c2 h2 => ?_
  have y2 : S (.r c2) = none := h2
  simp only [go_sem]
  exact ⟨S, Sub.set (Sub.refl _) y2 _, Or.inl ⟨rfl, rfl⟩⟩
end Go.Sk
end

-- W10s
section
namespace Go.Sk
open Go Go.Proofs

def outC (l : List Nat) (x i : Nat) : List AV := ((tmF l x i).1 ++ List.replicate (8 - i) 0).map u64
set_option maxHeartbeats 1000000 in
set_option maxRecDepth 4000 in
theorem law10_times (l : List Nat) (x : Nat) (hl : l.length = 8) (hd : ∀ d ∈ l, d < 4294967296) (hx : x ≤ 4096) : Pure Try.prog 39 [digA l, u64 x] (digA (timesL l x)) := fun S => by
  refine callR_of Try.func39 rfl rfl (xc_ok (bitB 1527) _ _ _ ?_)
  simp only [go_sem, digA]
  have hsc : ∀ m : List Nat, (m.map u64).all scalar = true := fun m => by
    rw [List.all_eq_true]; intro v hv
    obtain ⟨n, _, rfl⟩ := List.mem_map.1 hv; rfl
  refine ⟨hsc l, alloc_intro fun c2 h2 => ?_⟩
  have y2 : S (.r c2) = none := h2
  simp only [go_sem]
  refine alloc_intro fun c4 h4 => ?_
  simp only [fresh_set] at h4
  have y4 : S (.r c4) = none := h4.2
  simp only [go_sem, h4]
  refine alloc_intro fun c5 h5 => ?_
  simp only [fresh_set] at h5
  have y5 : S (.r c5) = none := h5.2.2
  simp only [go_sem, h4, h5]
  have hout : ∀ i, i ≤ 8 → (outC l x i).length = 8 := fun i hi => by
    have := (tmF_ok (x := x) hd i (by omega)).len
    unfold outC; simp [this]; omega
  refine AWP.iter (fun i => ⟨Env.get [(1, u64 x), (2, .sp c2 0), (4, .sp c4 0), (5, .sp c5 0), (6, u64 (tmF l x i).2), (7, i64 i)],
    ((S.set (.r c2) (.cells (l.map u64))).set (.r c4) (.cells [u64 0, u64 0, u64 0, u64 0, u64 0, u64 0, u64 0, u64 0])).set (.r c5) (.cells (outC l x i)), 27, []⟩) 8 ?_ ?_ ?_
  · refine le_of (by simp only [go_sem] <;> exact ⟨rfl, rfl⟩) ?_ rfl rfl (by simp)
    exact Sub.refl _
  · intro i hi ih
    have hqi : wi ((i : Int) + 1) = ((i + 1 : Nat) : Int) := wi_succ (show i < 4611686018427387904 by clear h4 h5; omega)
    have hi8 : (i : Int) < 8 := by clear h4 h5; omega
    obtain ⟨t1, t2, t3, t4⟩ := tmF_ok (x := x) hd i (by clear h4 h5; omega)
    have hil : i < l.length := by clear h4 h5; omega
    have hg : (l.map u64).getD (i * 1) .top = u64 (l.getD i 0) := by
      rw [Nat.mul_one, List.getD_eq_getElem?_getD, List.getElem?_map, List.getElem?_eq_getElem hil]
      simp [List.getD_eq_getElem?_getD, hil]
    have hg0 : (l.map u64).getD i .top = u64 (l.getD i 0) := by rw [← hg, Nat.mul_one]
    have hdi : l.getD i 0 < 4294967296 := by
      have : l.getD i 0 = l[i] := by simp [List.getD_eq_getElem?_getD, hil]
      rw [this]; exact hd _ (List.getElem_mem hil)
    have hp : l.getD i 0 * x ≤ 4294967296 * 4096 := Nat.mul_le_mul (by clear h4 h5; omega) hx
    have e1 : m64 (l.getD i 0 * x) = l.getD i 0 * x := m64_id (by clear h4 h5; omega)
    have e2 : m64 (l.getD i 0 * x + (tmF l x i).2) = l.getD i 0 * x + (tmF l x i).2 := m64_id (by clear h4 h5; omega)
    refine AWPH.step (xc_ok (bitB 1527) _ _ _ ?_)
    simp only [go_sem, h4, h5, hi8, hi, ltN' hi, hg, hg0, e1, e2, List.length_map, hl, hout i (Nat.le_of_lt hi)]
    have hstep : List.take (i * 1) (outC l x i) ++ [u64 ((l.getD i 0 * x + (tmF l x i).2) % 4294967296)] ++ List.drop (i * 1 + 1) (outC l x i) = outC l x (i + 1) := by
      unfold outC
      have e3 : (tmF l x (i + 1)).1 = (tmF l x i).1 ++ [(l.getD i 0 * x + (tmF l x i).2) % 4294967296] := rfl
      rw [e3, Nat.mul_one, List.map_append, List.map_append, List.map_append]
      have hlm : ((tmF l x i).1.map u64).length = i := by rw [List.length_map, t1]
      rw [List.take_append_of_le_length (by omega), List.take_of_length_le (by omega), List.drop_append, List.drop_of_length_le (by omega), List.nil_append, hlm, List.map_replicate, List.map_replicate, List.drop_replicate]
      rw [show 8 - i - (i + 1 - i) = 8 - (i + 1) by omega]
      rfl
    refine ⟨by clear h4 h5; omega, by clear h4 h5; omega, ?_⟩
    refine ih.back ?_ (by simp) ?_
    · rw [← hstep]
      ((try dsimp only); (repeat refine sub_set ?_ ?_) <;> first | ((repeat (first | exact Sub.refl _ | refine Sub.setF ?_ (by first | assumption | simp only [*]) | refine Sub.setV ?_ (by first | assumption | simp only [*]))); done) | (simp only [go_sem, h4, h5]; done) | (simp only [go_sem, h4, h5]; rfl) | rfl)
    · simp only [go_sem, hqi]
      rfl
  · refine AWPH.step (xc_ok (bitB 1527) _ _ _ ?_)
    have d8 : decide (((8 : Nat) : Int) < 8) = false := by decide
    have hfin : outC l x 8 = (timesL l x).map u64 := by unfold outC timesL; rw [Nat.sub_self, List.replicate_zero, List.append_nil]
    have ht8 : (timesL l x).length = 8 := (tmF_ok (x := x) hd 8 (by rw [hl]; exact Nat.le_refl _)).len
    have htk : List.take 8 (List.map u64 (timesL l x)) = List.map u64 (timesL l x) := List.take_of_length_le (by rw [List.length_map, ht8]; exact Nat.le_refl _)
    have hsc2 := hsc (timesL l x)
    simp only [go_sem, h4, h5, d8, hfin, htk, ht8, List.length_map, hsc2, List.append_nil, List.drop_nil]
    exact ⟨S, Sub.set (Sub.set (Sub.set (Sub.set (Sub.refl _) y2 _) y4 _) y5 _) y4 _, Or.inr rfl⟩
end Go.Sk
end

-- W10t
section
namespace Go.Sk
open Go Go.Proofs

theorem sc_map (m : List Nat) : (m.map u64).all scalar = true := by
  rw [List.all_eq_true]; intro v hv
  obtain ⟨n, _, rfl⟩ := List.mem_map.1 hv; rfl
theorem ri_map (m : List Nat) : List.map reif1 (List.map u64 m) = List.map u64 m := by rw [List.map_map]; rfl
noncomputable def upF (l : List Nat) (x : Nat) : Nat → List Nat
  | 0 => l
  | i + 1 => timesL (upF l x i) x
theorem upF_ok {l : List Nat} {v x : Nat} (h : Dig l v) (hx : x ≤ 64) (hv : v ≤ 4503599627370496 * 64) : ∀ i, i ≤ 4 → Dig (upF l x i) (v * x ^ i) := by
  intro i
  induction i with
  | zero => intro _; rw [Nat.pow_zero, Nat.mul_one]; exact h
  | succ i ih =>
    intro hi
    have h1 := ih (by omega)
    have h2 := pow_small hx (show i ≤ 4 by omega)
    have h3 : v * x ^ i ≤ 4503599627370496 * 64 * 16777216 := Nat.mul_le_mul hv h2
    have h4 : v * x ^ i * x ≤ 4503599627370496 * 64 * 16777216 * 64 := Nat.mul_le_mul h3 hx
    have e : (4294967296 : Nat) ^ 8 = 115792089237316195423570985008687907853269984665640564039457584007913129639936 := by decide
    have := times_ok h1 (x := x) (by omega)
    rw [Nat.pow_succ, ← Nat.mul_assoc]; exact this
set_option maxHeartbeats 2000000 in
set_option maxRecDepth 8000 in
theorem law10_below (x g E R : Nat) (hx : 1 ≤ x ∧ x ≤ 62) (hg : g ≤ 4) (hE : E ≤ 4503599627370496) (hR : R ≤ 4503599627370496) (hb : E * x * x ^ g ≤ R * (x + 1) * (x + 2) ^ g) :
    Pure Try.prog 22 [u64 x, i64 g, u64 E, u64 R] (bl true) := fun S => by
  have m1 : m64 (x + 1) = x + 1 := m64_id (by omega)
  have m2 : m64 (x + 2) = x + 2 := m64_id (by omega)
  have hE1 : E * x ≤ 4503599627370496 * 62 := Nat.mul_le_mul hE hx.2
  have hR1 : R * (x + 1) ≤ 4503599627370496 * 63 := Nat.mul_le_mul hR (by omega)
  have e8 : (4294967296 : Nat) ^ 8 = 115792089237316195423570985008687907853269984665640564039457584007913129639936 := by decide
  have DE : Dig (dig2 E) E := dig2_ok (by omega)
  have DR : Dig (dig2 R) R := dig2_ok (by omega)
  have DE1 := times_ok DE (x := x) (by omega)
  have DR1 := times_ok DR (x := x + 1) (by omega)
  have cE := law10_digits E (by omega)
  have cR := law10_digits R (by omega)
  have cE1 := law10_times (dig2 E) x DE.len DE.dig (by omega)
  have cR1 := law10_times (dig2 R) (x + 1) DR.len DR.dig (by omega)
  have DA := fun i (hi : i ≤ 4) => upF_ok DE1 (x := x) (by omega) (by omega) i hi
  have DB := fun i (hi : i ≤ 4) => upF_ok DR1 (x := x + 2) (by omega) (by omega) i hi
  have cA := fun i (hi : i ≤ 4) => law10_times (upF (timesL (dig2 E) x) x i) x (DA i hi).len (DA i hi).dig (by omega)
  have cB := fun i (hi : i ≤ 4) => law10_times (upF (timesL (dig2 R) (x + 1)) (x + 2) i) (x + 2) (DB i hi).len (DB i hi).dig (by omega)
  obtain ⟨a0, ha0⟩ : ∃ a, dig2 E = a := ⟨_, rfl⟩
  obtain ⟨b0, hb0⟩ : ∃ b, dig2 R = b := ⟨_, rfl⟩
  rw [ha0] at cE cE1 DE DE1 DA cA
  rw [hb0] at cR cR1 DR DR1 DB cB
  obtain ⟨a1, ha1⟩ : ∃ a, timesL a0 x = a := ⟨_, rfl⟩
  obtain ⟨b1, hb1⟩ : ∃ b, timesL b0 (x + 1) = b := ⟨_, rfl⟩
  rw [ha1] at cE1 DE1 DA cA
  rw [hb1] at cR1 DR1 DB cB
  unfold digA at cE cR cE1 cR1 cA cB
  have tk : ∀ m : List Nat, m.length = 8 → List.take 8 (m.map u64) = m.map u64 := fun m h => List.take_of_length_le (by rw [List.length_map, h]; exact Nat.le_refl _)
  have dk : ∀ m : List Nat, m.length = 8 → List.drop 8 (m.map u64) = [] := fun m h => List.drop_of_length_le (by rw [List.length_map, h]; exact Nat.le_refl _)
  refine callR_of Try.func22 rfl rfl (xc_ok (bitB 70506250247951) _ _ _ ?_)
  simp only [go_sem]
  refine cE.useA ?_
  simp only [go_sem]
  refine alloc_intro fun c9 h9 => ?_
  have y9 : S (.r c9) = none := h9
  have la0 := DE.len
  have lb0 := DR.len
  have la1 := DE1.len
  have lb1 := DR1.len
  simp only [go_sem, la0, sc_map, ri_map, true_and]
  refine cR.useA ?_
  simp only [go_sem, la0, sc_map, ri_map, true_and]
  refine alloc_intro fun c10 h10 => ?_
  simp only [fresh_set] at h10
  have y10 : S (.r c10) = none := h10.2
  simp only [go_sem, h10, la0, lb0, sc_map, ri_map, true_and, List.append_nil, List.length_map, tk a0 la0, tk b0 lb0]
  refine cE1.useA ?_
  simp only [go_sem, h10, la0, lb0, la1, sc_map, ri_map, true_and, List.append_nil, List.drop_nil, List.length_map, tk b0 lb0, m1, dk a0 la0]
  refine cR1.useA ?_
  simp only [go_sem, h10, la0, lb0, la1, lb1, sc_map, ri_map, true_and, List.append_nil, List.drop_nil, List.length_map, tk b0 lb0, m1, dk b0 lb0]
  refine AWP.iter (fun i => ⟨Env.get [(0, u64 x), (1, i64 g), (9, .sp c9 0), (10, .sp c10 0), (11, i64 i)],
    (S.set (.r c9) (.cells ((upF a1 x i).map u64))).set (.r c10) (.cells ((upF b1 (x + 2) i).map u64)), 54, []⟩) g ?_ ?_ ?_
  · refine le_of (by simp only [go_sem] <;> rfl) ?_ rfl rfl (by simp)
    show Sub ((S.set (.r c9) (.cells (a1.map u64))).set (.r c10) (.cells (b1.map u64))) _
    ((try dsimp only); (repeat refine sub_set ?_ ?_) <;> first | ((repeat (first | exact Sub.refl _ | refine Sub.setF ?_ (by first | assumption | simp only [*]) | refine Sub.setV ?_ (by first | assumption | simp only [*]))); done) | (simp only [go_sem, h10]; done) | (simp only [go_sem, h10]; rfl) | rfl)
  · intro i hi ih
    have hqi : wi ((i : Int) + 1) = ((i + 1 : Nat) : Int) := wi_succ (show i < 4611686018427387904 by clear h10; omega)
    have hig : (i : Int) < (g : Int) := by clear h10; omega
    have dA := DA i (by clear h10; omega)
    have dB := DB i (by clear h10; omega)
    have fA := cA i (by clear h10; omega)
    have fB := cB i (by clear h10; omega)
    have dA2 := DA (i + 1) (by clear h10; omega)
    have dB2 := DB (i + 1) (by clear h10; omega)
    have eA : upF a1 x (i + 1) = timesL (upF a1 x i) x := rfl
    have eB : upF b1 (x + 2) (i + 1) = timesL (upF b1 (x + 2) i) (x + 2) := rfl
    rw [← eA] at fA
    rw [← eB] at fB
    obtain ⟨A, hA⟩ : ∃ A, upF a1 x i = A := ⟨_, rfl⟩
    obtain ⟨B, hB⟩ : ∃ B, upF b1 (x + 2) i = B := ⟨_, rfl⟩
    obtain ⟨A', hA'⟩ : ∃ A, upF a1 x (i + 1) = A := ⟨_, rfl⟩
    obtain ⟨B', hB'⟩ : ∃ B, upF b1 (x + 2) (i + 1) = B := ⟨_, rfl⟩
    rw [hA] at fA dA
    rw [hB] at fB dB
    rw [hA'] at fA dA2 ih
    rw [hB'] at fB dB2 ih
    rw [hA, hB]
    have lA := dA.len
    have lB := dB.len
    have lA' := dA2.len
    have lB' := dB2.len
    refine AWPH.step (xc_ok (bitB 70506250247951) _ _ _ ?_)
    simp only [go_sem, h10, hig, lA, sc_map, ri_map, true_and, List.append_nil, List.length_map, tk A lA]
    refine fA.useA ?_
    simp only [go_sem, h10, lA, lA', lB, sc_map, ri_map, true_and, List.append_nil, List.length_map, dk A lA, tk B lB, m2]
    refine fB.useA ?_
    simp only [go_sem, h10, lA, lA', lB, lB', sc_map, ri_map, true_and, List.append_nil, List.length_map, dk B lB]
    refine ih.back ?_ (by simp) ?_
    · ((try dsimp only); (repeat refine sub_set ?_ ?_) <;> first | ((repeat (first | exact Sub.refl _ | refine Sub.setF ?_ (by first | assumption | simp only [*]) | refine Sub.setV ?_ (by first | assumption | simp only [*]))); done) | (simp only [go_sem, h10]; done) | (simp only [go_sem, h10]; rfl) | rfl)
    · simp only [go_sem, hqi]
  · have dA := DA g hg
    have dB := DB g hg
    obtain ⟨A, hA⟩ : ∃ A, upF a1 x g = A := ⟨_, rfl⟩
    obtain ⟨B, hB⟩ : ∃ B, upF b1 (x + 2) g = B := ⟨_, rfl⟩
    rw [hA] at dA
    rw [hB] at dB
    rw [hA, hB]
    have lA := dA.len
    have lB := dB.len
    have hAB : valD A ≤ valD B := by rw [dA.val, dB.val]; exact hb
    refine AWPH.step (xc_ok (bitB 70506250247951) _ _ _ ?_)
    simp only [go_sem, h10]
    refine AWP.roam (ι := Nat) (fun d => d ≤ 8 ∧ A.drop (8 - d) = B.drop (8 - d))
      (fun d => ⟨Env.get [(9, .sp c9 0), (10, .sp c10 0), (12, i64 ((7 : Int) - (d : Int)))], (S.set (.r c9) (.cells (A.map u64))).set (.r c10) (.cells (B.map u64)), 54, []⟩) (fun d => 8 - d) 0 ⟨Nat.zero_le _, by rw [List.drop_of_length_le (by omega), List.drop_of_length_le (by omega)]⟩ ?_ ?_
    · refine le_of (by simp only [go_sem] <;> rfl) (Sub.refl _) rfl rfl (by simp)
    · rintro d ⟨hd, hs⟩ ih
      refine AWPH.step (xc_ok (bitB 70506250247951) _ _ _ ?_)
      by_cases hc : d < 8
      · obtain ⟨j, hj⟩ : ∃ j, 7 - d = j := ⟨_, rfl⟩
        have hj8 : j < 8 := by clear h10; omega
        have ej : ((7 : Int) - (d : Int)) = ((j : Nat) : Int) := by clear h10; omega
        have e1 : decide ((j : Int) ≥ 0) = true := decide_eq_true (by clear h10; omega)
        have ew : wi ((j : Int) - 1) = (7 : Int) - ((d + 1 : Nat) : Int) := by rw [wi_id (by clear h10; omega) (by clear h10; omega)]; clear h10; omega
        have e8' : 8 - d = j + 1 := by clear h10; omega
        have e9 : 8 - (d + 1) = j := by clear h10; omega
        rw [e8'] at hs
        obtain ⟨k1, k2⟩ := dig_cmp dA.len dB.len dA.dig dB.dig hj8 hs
        obtain ⟨k3, _⟩ := dig_cmp dB.len dA.len dB.dig dA.dig hj8 hs.symm
        have gA : (A.map u64).getD (j * 1) .top = u64 (A.getD j 0) := by
          rw [Nat.mul_one, List.getD_eq_getElem?_getD, List.getElem?_map, List.getElem?_eq_getElem (show j < A.length by rw [lA]; exact hj8)]
          simp [List.getD_eq_getElem?_getD, show j < A.length by rw [lA]; exact hj8]
        have gB : (B.map u64).getD (j * 1) .top = u64 (B.getD j 0) := by
          rw [Nat.mul_one, List.getD_eq_getElem?_getD, List.getElem?_map, List.getElem?_eq_getElem (show j < B.length by rw [lB]; exact hj8)]
          simp [List.getD_eq_getElem?_getD, show j < B.length by rw [lB]; exact hj8]
        rw [ej]
        simp only [go_sem, h10, e1]
        refine AWP.draw2 (bitB 70506250247951) mixed (by kernel_rfl) (fun j => bl false) ?_
        have hj1 : j * 1 + 1 ≤ 8 := by clear h10; omega
        simp only [go_sem, h10, hj8, ltN' hj8, lA, lB, gA, gB, List.length_map]
        refine ⟨by clear h10; omega, by clear h10; omega, ?_⟩
        by_cases heq : A.getD j 0 = B.getD j 0
        · have hb1 : (A.getD j 0 != B.getD j 0) = false := by simpa using heq
          simp only [go_sem, hb1]
          refine (ih (d + 1) ⟨by clear h10; omega, by rw [e9]; exact k2 heq⟩ (by clear h10; omega)).back (Sub.refl _) (by simp) ?_
          simp only [go_sem, ew]
        · have hb1 : (A.getD j 0 != B.getD j 0) = true := by simpa using heq
          have hlt : A.getD j 0 < B.getD j 0 := by
            apply Classical.byContradiction
            intro hn
            have := k3 (by clear h10; omega)
            clear h10; omega
          simp only [go_sem, hb1]
          refine AWP.draw2 (bitB 70506250247951) mixed (by kernel_rfl) (fun j => bl false) ?_
          simp only [go_sem, h10, hj8, ltN' hj8, lA, lB, gA, gB, List.length_map, hlt]
          refine ⟨by clear h10; omega, by clear h10; omega, ?_⟩
          exact ⟨S, Sub.set (Sub.set (Sub.refl _) y9 _) y10 _, Or.inl rfl⟩
      · obtain rfl : d = 8 := by clear h10; omega
        have e0 : decide (((7 : Int) - ((8 : Nat) : Int)) ≥ 0) = false := by decide
        simp only [go_sem, h10, e0]
        exact ⟨S, Sub.set (Sub.set (Sub.refl _) y9 _) y10 _, Or.inl rfl⟩
end Go.Sk
end
