/- Texts W10r, joined. -/
import Derived.Test.YtmpockfgppcnbaaR10I
set_option linter.unusedSimpArgs false
set_option linter.unusedVariables false
set_option linter.unusedSectionVars false
-- W10r
section
namespace Go.Sk
open Go Go.Proofs

set_option maxHeartbeats 2000000 in
set_option maxRecDepth 8000 in
theorem law10_real (t : Tree) (ho : t.Ok) (hl : t.Light) (tick span : Nat) : Pure Try.prog 14 [t.av, u64 tick, u64 span] (u64 (realW t (inW tick span))) := fun S => by
  have hd := ho.d
  have x0 := ref08_Exact t.k t.l0 tick span ho.k1 (by have := ho.o0.2; omega) ho.o0.1
  have x1 := ref08_Exact t.k t.l1 tick span ho.k1 (by have := ho.o1.2; omega) ho.o1.1
  have x2 := ref08_Exact t.k t.l2 tick span ho.k1 (by have := ho.o2.2; omega) ho.o2.1
  have x3 := ref08_Exact t.k t.l3 tick span ho.k1 (by have := ho.o3.2; omega) ho.o3.1
  obtain ⟨z0, z1, z2, z3⟩ := hl.sz
  have b0 := came_le t.k t.l0 (inW tick span)
  have b1 := came_le t.k t.l1 (inW tick span)
  have b2 := came_le t.k t.l2 (inW tick span)
  have b3 := came_le t.k t.l3 (inW tick span)
  unfold realW
  obtain ⟨C0, hC0⟩ : ∃ c, cameD t.k t.l0 (inW tick span) = c := ⟨_, rfl⟩
  obtain ⟨C1, hC1⟩ : ∃ c, cameD t.k t.l1 (inW tick span) = c := ⟨_, rfl⟩
  obtain ⟨C2, hC2⟩ : ∃ c, cameD t.k t.l2 (inW tick span) = c := ⟨_, rfl⟩
  obtain ⟨C3, hC3⟩ : ∃ c, cameD t.k t.l3 (inW tick span) = c := ⟨_, rfl⟩
  rw [hC0] at x0 b0
  rw [hC1] at x1 b1
  rw [hC2] at x2 b2
  rw [hC3] at x3 b3
  rw [hC0, hC1, hC2, hC3]
  have hT := ref10_Times t ho
  unfold timesA at hT
  have ht : (timesV (t.deep % 5)).1 ≤ 3 ∧ (timesV (t.deep % 5)).2.1 ≤ 3 ∧ (timesV (t.deep % 5)).2.2.1 ≤ 3 ∧ (timesV (t.deep % 5)).2.2.2 ≤ 3 := by
    unfold timesV
    split
    · simp
    · split
      · simp
      · dsimp only; omega
  obtain ⟨⟨T0, T1, T2, T3⟩, hTT⟩ : ∃ x, timesV (t.deep % 5) = x := ⟨_, rfl⟩
  rw [hTT] at hT ht ⊢
  dsimp only at hT ht ⊢
  obtain ⟨ht0, ht1, ht2, ht3⟩ := ht
  have p0 : T0 * C0 ≤ 3 * 32985348833280 := Nat.mul_le_mul ht0 (by omega)
  have p1 : T1 * C1 ≤ 3 * 32985348833280 := Nat.mul_le_mul ht1 (by omega)
  have p2 : T2 * C2 ≤ 3 * 32985348833280 := Nat.mul_le_mul ht2 (by omega)
  have p3 : T3 * C3 ≤ 3 * 32985348833280 := Nat.mul_le_mul ht3 (by omega)
  have m0 : m64 (T0 * C0) = T0 * C0 := m64_id (by omega)
  have m1 : m64 (T1 * C1) = T1 * C1 := m64_id (by omega)
  have m2 : m64 (T2 * C2) = T2 * C2 := m64_id (by omega)
  have m3 : m64 (T3 * C3) = T3 * C3 := m64_id (by omega)
  have a0 : m64 (0 + T0 * C0) = T0 * C0 := by rw [m64_id (by omega)]; omega
  have a1 : m64 (T0 * C0 + T1 * C1) = T0 * C0 + T1 * C1 := m64_id (by omega)
  have a2 : m64 (T0 * C0 + T1 * C1 + T2 * C2) = T0 * C0 + T1 * C1 + T2 * C2 := m64_id (by omega)
  have a3 : m64 (T0 * C0 + T1 * C1 + T2 * C2 + T3 * C3) = T0 * C0 + T1 * C1 + T2 * C2 + T3 * C3 := m64_id (by omega)
  have d0 : decide ((0 : Int) < 4) = true := by decide
  have d1 : decide ((1 : Int) < 4) = true := by decide
  have d2 : decide ((2 : Int) < 4) = true := by decide
  have d3 : decide ((3 : Int) < 4) = true := by decide
  have d4 : decide ((4 : Int) < 4) = false := by decide
  have w0 : wi ((0 : Int) + 1) = 1 := wi_id (by decide) (by decide)
  have w1 : wi ((1 : Int) + 1) = 2 := wi_id (by decide) (by decide)
  have w2 : wi ((2 : Int) + 1) = 3 := wi_id (by decide) (by decide)
  have w3 : wi ((3 : Int) + 1) = 4 := wi_id (by decide) (by decide)
  refine callR_of Try.func14 rfl rfl (xc_ok (bitB 9167) _ _ _ ?_)
  simp only [go_sem, Tree.av, Tree.pv]
  refine alloc_intro fun c3 h3 => ?_
  have y3 : S (.r c3) = none := h3
  simp only [go_sem]
  refine hT.useA ?_
  simp only [go_sem]
  refine alloc_intro fun c7 h7 => ?_
  simp only [fresh_set] at h7
  have y7 : S (.r c7) = none := h7.2
  simp only [go_sem, h7]
  refine AWP.head (AWPH.step (xc_ok (bitB 9167) _ _ _ ?_))
  simp only [go_sem, h7, d0]
  refine AWP.draw2 (bitB 9167) mixed (by kernel_rfl) (fun j => u64 C0) ?_
  simp only [go_sem, h7, w0, m0, a0]
  repeat first | refine ⟨by decide, ?_⟩ | refine ⟨x0.draw, ?_⟩
  refine AWPH.step (xc_ok (bitB 9167) _ _ _ ?_)
  simp only [go_sem, h7, d1]
  refine AWP.draw2 (bitB 9167) mixed (by kernel_rfl) (fun j => u64 C1) ?_
  simp only [go_sem, h7, w1, m1, a1]
  repeat first | refine ⟨by decide, ?_⟩ | refine ⟨x1.draw, ?_⟩
  refine AWPH.step (xc_ok (bitB 9167) _ _ _ ?_)
  simp only [go_sem, h7, d2]
  refine AWP.draw2 (bitB 9167) mixed (by kernel_rfl) (fun j => u64 C2) ?_
  simp only [go_sem, h7, w2, m2, a2]
  repeat first | refine ⟨by decide, ?_⟩ | refine ⟨x2.draw, ?_⟩
  refine AWPH.step (xc_ok (bitB 9167) _ _ _ ?_)
  simp only [go_sem, h7, d3]
  refine AWP.draw2 (bitB 9167) mixed (by kernel_rfl) (fun j => u64 C3) ?_
  simp only [go_sem, h7, w3, m3, a3]
  repeat first | refine ⟨by decide, ?_⟩ | refine ⟨x3.draw, ?_⟩
  refine AWPH.step (xc_ok (bitB 9167) _ _ _ ?_)
  simp only [go_sem, h7, d4]
  exact ⟨S, Sub.set (Sub.set (Sub.refl _) y3 _) y7 _, Or.inl rfl⟩

/-! Numbers by 2^32. -/
def digA (l : List Nat) : AV := .agg (l.map u64)
def dig2 (n : Nat) : List Nat := [n % 4294967296, n / 4294967296, 0, 0, 0, 0, 0, 0]
theorem law10_digits (n : Nat) (hn : n < 18446744073709551616) : Pure Try.prog 38 [u64 n] (digA (dig2 n)) := fun S => by
  refine callR_of Try.func38 rfl rfl (xc_ok (bitB 5) _ _ _ ?_)
  simp only [go_sem]
  refine alloc_intro fun c2 h2 => ?_
  have y2 : S (.r c2) = none := h2
  simp only [go_sem]
  exact ⟨S, Sub.set (Sub.refl _) y2 _, Or.inl ⟨rfl, rfl⟩⟩
end Go.Sk
end
