/- Texts W10u, joined. -/
import Derived.Test.YtmpockfgppcnbaaR10J
import Derived.Test.YtmpockfgppcnbaaR10D
set_option linter.unusedSimpArgs false
set_option linter.unusedVariables false
set_option linter.unusedSectionVars false
-- W10u
section
namespace Go.Sk
open Go Go.Proofs

set_option maxHeartbeats 2000000 in
set_option maxRecDepth 8000 in
theorem law_ReplayBound (t : Tree) (ho : t.Ok) (tick span : Nat) : CallsR Try.prog 5 [t.av, u64 tick, u64 span] noS (fun x _ => x = bl true) := by
  generalize noS = S
  have hL := ref10_Light t ho
  refine callsR_of Try.func5 rfl (xc_ok (bitB 73679) _ _ _ ?_)
  simp only [go_sem, Tree.av, Tree.pv]
  refine alloc_intro fun c3 h3 => ?_
  have y3 : S (.r c3) = none := h3
  simp only [go_sem]
  refine law10_awake.useA ?_
  simp only [go_sem]
  refine hL.useA ?_
  cases hlb : t.lightB
  · simp only [go_sem, Bool.not_false]
    exact ⟨_, Sub.refl _⟩
  have hl := Tree.lightB_ok hlb
  obtain ⟨D, hk, hsz⟩ := build_deep hl
  have hfg := D.fine.good
  have hB := ref10_Build t ho hl
  have hM := law10_made (buildV t)
  have hE := est_Of (buildV t).k (buildV t).g (buildV t).ls tick span (by have := hfg.len; omega) (fun l hl => by have := hfg.sm l hl; have := hfg.k1; omega)
  have hR := law10_real t ho hl tick span
  obtain ⟨E, R, hEe, hRe, hE1, hR1, b1, b2, b3, b4⟩ := deep_est D tick span
  rw [hEe] at hE
  rw [hRe] at hR
  obtain ⟨x, hx⟩ : ∃ x : Nat, (buildV t).k = x := ⟨(buildV t).k.toNat, by have := hfg.k0; omega⟩
  have hx2 : 2 ≤ x ∧ x ≤ 31 := by omega
  rw [hx, Int.toNat_natCast] at b1 b2
  obtain ⟨g, hg⟩ : ∃ g : Nat, t.deep % 5 = g := ⟨_, rfl⟩
  have hg4 : g ≤ 4 := by omega
  have hgen := D.gen
  rw [hg] at hgen b2
  have hlow : m64 ((x - 1) * R) ≤ m64 (x * E) := by
    have q1 : (x - 1) * R ≤ 31 * 4503599627370496 := Nat.mul_le_mul (by omega) hR1
    have q2 : x * E ≤ 31 * 4503599627370496 := Nat.mul_le_mul (by omega) hE1
    rw [m64_id (by omega), m64_id (by omega)]; exact b1
  have hbe := law10_below x g E R (by omega) hg4 hE1 hR1 (by
    have e1 : E * x * x ^ g = x ^ (g + 1) * E := by rw [Nat.pow_succ, Nat.mul_assoc, Nat.mul_comm E, Nat.mul_comm (x ^ g) x]
    have e2 : R * (x + 1) * (x + 2) ^ g = (x + 1) * ((x + 2) ^ g * R) := by rw [Nat.mul_comm R, Nat.mul_assoc, Nat.mul_comm R]
    rw [e1, e2]; exact b2)
  have es : sub64 x 1 = x - 1 := sub64_le (by omega) (by omega)
  have ex : m64 x = x := m64_id (by omega)
  have hlow2 : (m64 ((x - 1) * R) ≤ m64 (x * E)) = True := eq_true hlow
  simp only [go_sem, Bool.not_true]
  refine hB.useA ?_
  simp only [go_sem]
  refine alloc_intro fun c8 h8 => ?_
  simp only [fresh_set] at h8
  have y8 : S (.r c8) = none := h8.2
  simp only [go_sem, h8]
  refine hM.useA ?_
  simp only [go_sem, h8]
  refine hE.useA ?_
  simp only [go_sem, h8]
  refine hR.useA ?_
  simp only [go_sem, h8, hx, es, ex, hlow2]
  rw [hgen]
  refine hbe.useA ?_
  simp only [go_sem]
  exact ⟨_, Sub.refl _⟩
set_option maxHeartbeats 2000000 in
set_option maxRecDepth 8000 in
theorem law_ReplayNever (t : Tree) (ho : t.Ok) (tick span : Nat) : CallsR Try.prog 6 [t.av, u64 tick, u64 span] noS (fun x _ => x = bl true) := by
  generalize noS = S
  have hL := ref10_Light t ho
  refine callsR_of Try.func6 rfl (xc_ok (bitB 36815) _ _ _ ?_)
  simp only [go_sem, Tree.av, Tree.pv]
  refine alloc_intro fun c3 h3 => ?_
  have y3 : S (.r c3) = none := h3
  simp only [go_sem]
  refine law10_awake.useA ?_
  simp only [go_sem]
  refine hL.useA ?_
  cases hlb : t.lightB
  · simp only [go_sem, Bool.not_false]
    exact ⟨_, Sub.refl _⟩
  have hl := Tree.lightB_ok hlb
  obtain ⟨D, hk, hsz⟩ := build_deep hl
  have hfg := D.fine.good
  have hB := ref10_Build t ho hl
  have hM := law10_made (buildV t)
  have hP := est_Parts (buildV t).k (buildV t).g (buildV t).ls tick span (by have := hfg.len; omega) (fun l hl => by have := hfg.sm l hl; have := hfg.k1; omega)
  have hE := est_Of (buildV t).k (buildV t).g (buildV t).ls tick span (by have := hfg.len; omega) (fun l hl => by have := hfg.sm l hl; have := hfg.k1; omega)
  have hR := law10_real t ho hl tick span
  obtain ⟨E, R, hEe, hRe, hE1, hR1, b1, b2, b3, b4⟩ := deep_est D tick span
  rw [hEe] at hE
  rw [hRe] at hR
  have hpe : partsV (buildV t).ls tick span = (loL (inW tick span) 0 (buildV t).ls, hiL (inW tick span) 0 (buildV t).ls - loL (inW tick span) 0 (buildV t).ls) := by
    have := parts_eq tick span (buildV t).ls 0 (by have := hfg.len; omega) D.fine.tidy.val (0, 0) (by dsimp only; have := hfg.tot; omega)
    unfold partsV; rw [this]; simp
  have hlh := loL_le_hiL (inW_mono tick span) (buildV t).ls 0 D.fine.tidy.val
  have hht := hiL_le_tot (inW tick span) (buildV t).ls 0
  have hft := hfg.tot
  rw [hpe] at hP
  dsimp only at hP
  obtain ⟨p, hp⟩ : ∃ p, loL (inW tick span) 0 (buildV t).ls = p := ⟨_, rfl⟩
  obtain ⟨q, hq⟩ : ∃ q, hiL (inW tick span) 0 (buildV t).ls - loL (inW tick span) 0 (buildV t).ls = q := ⟨_, rfl⟩
  rw [hq, hp] at hP
  have em : m64 (p + q) = p + q := m64_id (by omega)
  have hge : R ≤ p + q := by omega
  simp only [go_sem, Bool.not_true]
  refine hB.useA ?_
  simp only [go_sem]
  refine alloc_intro fun c8 h8 => ?_
  simp only [fresh_set] at h8
  have y8 : S (.r c8) = none := h8.2
  simp only [go_sem, h8]
  refine hM.useA ?_
  simp only [go_sem, h8]
  refine hP.useA ?_
  simp only [go_sem, h8]
  refine hR.useA ?_
  simp only [go_sem, h8, em, hge]
  by_cases r0 : 0 < R
  · simp only [go_sem, r0]
    exact ⟨_, Sub.refl _⟩
  · have hR0 : R = 0 := by omega
    have hE0 := b4 hR0
    rw [hE0] at hE
    simp only [go_sem, r0, h8]
    refine hM.useA ?_
    simp only [go_sem, r0, h8]
    refine hE.useA ?_
    simp only [go_sem]
    exact ⟨_, Sub.refl _⟩
end Go.Sk
end
