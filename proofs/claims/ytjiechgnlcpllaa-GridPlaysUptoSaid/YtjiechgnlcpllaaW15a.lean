/- Walks: grids: what they are made of. -/
import Derived.Test.YtjiechgnlcpllaaW4c
import Derived.Test.YtjiechgnlcpllaaW6c
set_option linter.unusedSimpArgs false
set_option linter.unusedVariables false
set_option linter.unusedSectionVars false
namespace Go.Sk
open Go Go.Proofs

def rowP (r : List Hist) : PV := .sl (r.map Hist.cs)
def rowE (r : List Hist) : List PV := [rowP r]
structure Grid where (w : Int) (sd : List Seed) (rows : List (List Hist)) (all : Hist)
  deriving DecidableEq
def Grid.pv (g : Grid) : List PV := [.int .i64 g.w, .sl (g.sd.map Seed.pv), .sl (g.rows.map rowE), .int .i64 g.all.k, .int .i64 g.all.g, .sl (g.all.ls.map lvE)]
def Grid.av (g : Grid) : AV := .agg (g.pv.map .p)
attribute [go_sem] Grid.pv Grid.av
theorem hist_len {l : List Hist} : ∀ el ∈ l.map Hist.cs, el.length = 3 := by
  intro el h; obtain ⟨x, _, rfl⟩ := List.mem_map.1 h; rfl
theorem row_len {l : List (List Hist)} : ∀ el ∈ l.map rowE, el.length = 1 := by
  intro el h; obtain ⟨x, _, rfl⟩ := List.mem_map.1 h; rfl

set_option maxRecDepth 8000 in
theorem bits_Mul64 (x y : Nat) (hx : x < 4294967296) (hy : y < 4294967296) : Pure Try.prog 84 [u64 x, u64 y] (.tuple [u64 0, u64 (x * y)]) := fun S => by
  have a1 : and64 x 4294967295 = x := by rw [and64_32 (by omega)]; omega
  have a2 : and64 y 4294967295 = y := by rw [and64_32 (by omega)]; omega
  have b1 : x / 4294967296 = 0 := by omega
  have b2 : y / 4294967296 = 0 := by omega
  have hxy : x * y ≤ 4294967295 * 4294967295 := Nat.mul_le_mul (by omega) (by omega)
  have c1 : m64 (x * y) = x * y := m64_id (by omega)
  have c5 : m64 (x * y / 4294967296) = x * y / 4294967296 := m64_id (by omega)
  have c2 : m64 (m64 (0 * y) + x * y / 4294967296) = x * y / 4294967296 := by rw [Nat.zero_mul, m64_id (show 0 < 18446744073709551616 by decide), Nat.zero_add]; exact m64_id (by omega)
  have c3 : and64 (x * y / 4294967296) 4294967295 = x * y / 4294967296 := by rw [and64_32 (by omega)]; omega
  have d2 : x * y / 4294967296 / 4294967296 = 0 := by omega
  have z0 : m64 0 = 0 := m64_id (by decide)
  have c4 : m64 (x * y / 4294967296 + 0) = x * y / 4294967296 := by rw [Nat.add_zero]; exact m64_id (by omega)
  refine callR_of Try.func84 rfl rfl (xc_ok (bitB 16371) _ _ _ ?_)
  simp only [go_sem, decide_true, decide_false, Nat.lt_irrefl, a1, a2, b1, b2, c1, c5, c2, c3, d2, Nat.mul_zero, Nat.zero_mul, z0, c4, Nat.add_zero, Nat.zero_add]
  (refine ⟨S, by (repeat (first | exact Sub.refl _ | refine Sub.setF ?_ (by first | assumption | exact And.right (by assumption) | exact And.right (And.right (by assumption)) | exact And.right (And.right (And.right (by assumption))) | exact And.right (And.right (And.right (And.right (by assumption)))) | exact And.right (And.right (And.right (And.right (And.right (by assumption))))) | exact And.right (And.right (And.right (And.right (And.right (And.right (by assumption)))))) | exact And.right (And.right (And.right (And.right (And.right (And.right (And.right (by assumption))))))) | exact And.right (And.right (And.right (And.right (And.right (And.right (And.right (And.right (by assumption)))))))) | exact And.right (And.right (And.right (And.right (And.right (And.right (And.right (And.right (And.right (by assumption)))))))))) | refine Sub.setV ?_ (by first | assumption | exact And.right (by assumption) | exact And.right (And.right (by assumption)) | exact And.right (And.right (And.right (by assumption))) | exact And.right (And.right (And.right (And.right (by assumption)))) | exact And.right (And.right (And.right (And.right (And.right (by assumption))))) | exact And.right (And.right (And.right (And.right (And.right (And.right (by assumption)))))) | exact And.right (And.right (And.right (And.right (And.right (And.right (And.right (by assumption))))))) | exact And.right (And.right (And.right (And.right (And.right (And.right (And.right (And.right (by assumption)))))))) | exact And.right (And.right (And.right (And.right (And.right (And.right (And.right (And.right (And.right (by assumption)))))))))))), ?_⟩); simp
theorem bits_Mul (x y : Nat) (hx : x < 4294967296) (hy : y < 4294967296) : Pure Try.prog 60 [u64 x, u64 y] (.tuple [u64 0, u64 (x * y)]) := fun S => by
  refine callR_of Try.func60 rfl rfl (xc_ok (bitB 1011) _ _ _ ?_)
  simp only [go_sem, decide_true, decide_false, Nat.lt_irrefl]
  refine (bits_Mul64 x y hx hy).useA ?_
  simp only [go_sem, decide_true, decide_false, Nat.lt_irrefl]
  (refine ⟨S, by (repeat (first | exact Sub.refl _ | refine Sub.setF ?_ (by first | assumption | exact And.right (by assumption) | exact And.right (And.right (by assumption)) | exact And.right (And.right (And.right (by assumption))) | exact And.right (And.right (And.right (And.right (by assumption)))) | exact And.right (And.right (And.right (And.right (And.right (by assumption))))) | exact And.right (And.right (And.right (And.right (And.right (And.right (by assumption)))))) | exact And.right (And.right (And.right (And.right (And.right (And.right (And.right (by assumption))))))) | exact And.right (And.right (And.right (And.right (And.right (And.right (And.right (And.right (by assumption)))))))) | exact And.right (And.right (And.right (And.right (And.right (And.right (And.right (And.right (And.right (by assumption)))))))))) | refine Sub.setV ?_ (by first | assumption | exact And.right (by assumption) | exact And.right (And.right (by assumption)) | exact And.right (And.right (And.right (by assumption))) | exact And.right (And.right (And.right (And.right (by assumption)))) | exact And.right (And.right (And.right (And.right (And.right (by assumption))))) | exact And.right (And.right (And.right (And.right (And.right (And.right (by assumption)))))) | exact And.right (And.right (And.right (And.right (And.right (And.right (And.right (by assumption))))))) | exact And.right (And.right (And.right (And.right (And.right (And.right (And.right (And.right (by assumption)))))))) | exact And.right (And.right (And.right (And.right (And.right (And.right (And.right (And.right (And.right (by assumption)))))))))))), ?_⟩); simp

def zero3 : List AV := [.p (.int .i64 0), .p (.int .i64 0), .nils]
theorem rep_flat {c : List PV} (hc : c.length = 3) (n : Nat) : (flatA (List.replicate n c)).length = n * 3 := by
  rw [flatA_length (sz := 3) (by intro el he; rw [List.eq_of_mem_replicate he]; exact hc)]; simp
theorem zcs3_len (n : Nat) : (zcs zero3 n).length = n * 3 := by rw [zcs_length]; rfl
theorem zcs_add (z : List AV) (a b : Nat) : zcs z (a + b) = zcs z a ++ zcs z b := by unfold zcs; rw [← List.replicate_append_replicate, List.flatten_append]
theorem rep_add (c : List PV) (a b : Nat) : flatA (List.replicate (a + b) c) = flatA (List.replicate a c) ++ flatA (List.replicate b c) := by unfold flatA; rw [← List.replicate_append_replicate, List.flatMap_append]
/-- Copied over, once more. -/
theorem rep_more {c : List PV} (hc : c.length = 3) (w n m : Nat) (hn : n + m ≤ w) (hm : m ≤ n) :
    splice (flatA (List.replicate n c) ++ zcs zero3 (w - n)) (n * 3) ((((flatA (List.replicate n c) ++ zcs zero3 (w - n)).drop 0).take (n * 3)).take (m * 3)) = flatA (List.replicate (n + m) c) ++ zcs zero3 (w - (n + m)) := by
  rw [List.drop_zero, List.take_append_of_le_length (by rw [rep_flat hc]; exact Nat.le_refl _), List.take_of_length_le (i := n * 3) (by rw [rep_flat hc]; exact Nat.le_refl _)]
  have e1 : (flatA (List.replicate n c)).take (m * 3) = flatA (List.replicate m c) := by
    rw [show n = m + (n - m) from by omega, rep_add, List.take_append_of_le_length (by rw [rep_flat hc]; exact Nat.le_refl _), List.take_of_length_le (by rw [rep_flat hc]; exact Nat.le_refl _)]
  rw [e1]
  have e2 : w - n = m + (w - (n + m)) := by omega
  rw [e2, zcs_add]
  unfold splice
  rw [List.take_append_of_le_length (by rw [rep_flat hc]; exact Nat.le_refl _), List.take_of_length_le (by rw [rep_flat hc]; exact Nat.le_refl _), rep_flat hc, List.drop_append, rep_flat hc,
    List.drop_of_length_le (by rw [rep_flat hc]; omega), List.nil_append, show n * 3 + m * 3 - n * 3 = m * 3 from by omega, List.drop_append_of_le_length (by rw [zcs3_len]; exact Nat.le_refl _),
    List.drop_of_length_le (by rw [zcs3_len]; exact Nat.le_refl _), List.nil_append, rep_add]

set_option maxHeartbeats 1000000 in
set_option maxRecDepth 4000 in
theorem repeat_hist (c : List PV) (hc : c.length = 3) (w : Nat) (hw1 : 1 ≤ w) (hw2 : w < 1048576) (S : Store) : CallR Try.prog 34 [.p (.sl [c]), i64 w] S (fun r S' => r = .p (.sl (List.replicate w c)) ∧ S' = S) := by
  refine CallR.frz (R := fun r S' => ∃ b, Fresh S b ∧ r = .ms b 3 0 w w ∧ S' = S.set (.r b) (.cells (flatA (List.replicate w c)))) ?_ ?_
  rotate_left
  · rintro r S' ⟨b, hb, rfl, rfl⟩
    refine ⟨.p (.sl (List.replicate w c)), S, Frz.freeze (b := b) (m := w * 3) (Store.set_same _ _ _) (by rw [rep_flat hc]; exact Nat.le_refl _) (fun k y hk => ?_) (Or.inl (Or.inl (Or.inr (Or.inr ⟨3, 0, w, w, List.replicate w c, rfl, ?_⟩)))), rfl, rfl⟩
    · have hne : k ≠ .r b := by rintro rfl; rw [hb] at hk; cases hk
      exact ⟨hne, Or.inl (by rw [Store.set_other _ _ hne]; exact hk)⟩
    · refine ⟨by omega, rfl, by simp, fun el he => by rw [List.eq_of_mem_replicate he]; exact hc, ?_⟩
      rw [List.drop_zero, List.take_of_length_le (by rw [rep_flat hc]; exact Nat.le_refl _)]
  refine callR_of Try.func34 rfl rfl (xc_ok (bitB 137506063859) _ _ _ ?_)
  have h0 : ¬ (w : Int) < 0 := by omega
  have e1 : m64 1 = 1 := m64_id (by decide)
  have e2 : m64 w = w := m64_id (by omega)
  simp only [go_sem, decide_true, decide_false, Nat.lt_irrefl, h0, e1, e2]
  refine (bits_Mul 1 w (by omega) (by omega)).useA ?_
  have h1 : ¬ 9223372036854775807 < w := by omega
  simp only [go_sem, decide_true, decide_false, Nat.lt_irrefl, Nat.one_mul, h1]
  have ewi : wi (w : Int) = (w : Int) := wi_id (by omega) (by omega)
  rw [ewi, Int.toNat_natCast]
  refine ⟨by omega, by omega, by omega, make_intro fun b hb => ?_⟩
  have hz : zcs [AV.p (PV.int IntKind.i64 0), AV.p (PV.int IntKind.i64 0), AV.nils] w = zcs zero3 w := rfl
  rw [hz]
  have hmin : min 1 w = 1 := by omega
  have hcs1 : flatA [c] = flatA (List.replicate 1 c) := rfl
  have hsp1 : splice (zcs zero3 w) (0 + 0 * 3) ((flatA [c]).take (min 1 w * 3)) = flatA (List.replicate 1 c) ++ zcs zero3 (w - 1) := by
    rw [hmin, hcs1, List.take_of_length_le (by rw [rep_flat hc]; exact Nat.le_refl _)]
    have : w = 1 + (w - 1) := by omega
    conv => lhs; rw [this, zcs_add]
    unfold splice
    rw [rep_flat hc, Nat.zero_mul, Nat.zero_add, List.take_zero, List.nil_append, Nat.zero_add, List.drop_append_of_le_length (by rw [zcs3_len]; exact Nat.le_refl _), List.drop_of_length_le (by rw [zcs3_len]; exact Nat.le_refl _), List.nil_append]
  have hsc : ((flatA [c]).take (min 1 w * 3)).all scalar = true := by
    rw [hmin, List.take_of_length_le (by have := rep_flat hc 1; rw [← hcs1] at this; omega)]
    unfold flatA; simp [scalar]
  simp only [go_sem, decide_true, decide_false, Nat.lt_irrefl]
  refine ⟨by rintro el rfl; exact hc, by rw [zcs3_len]; omega, hsc, ?_⟩
  have hst : (flatA [c]).take (min 1 w * 3) ++ (zcs zero3 w).drop ((flatA [c]).take (min 1 w * 3)).length = flatA (List.replicate 1 c) ++ zcs zero3 (w - 1) := by
    rw [← hsp1]; unfold splice; simp
  simp only [hst]
  simp only [hmin]
  refine AWP.roam (ι := Nat) (fun n => 1 ≤ n ∧ n ≤ w) (fun n => ⟨Env.get [(7, .ms b 3 0 w w), (8, i64 n)], S.set (.r b) (.cells (flatA (List.replicate n c) ++ zcs zero3 (w - n))), 48, []⟩) (fun n => w - n) 1 ⟨by omega, by omega⟩ ?_ ?_
  · exact le_of (by simp only [go_sem, decide_true, decide_false, Nat.lt_irrefl] <;> rfl) (Sub.refl _) rfl rfl (by simp)
  · rintro n ⟨hn1, hn2⟩ ih
    refine AWPH.step (xc_ok (bitB 137506063859) _ _ _ ?_)
    by_cases hnw : n < w
    · simp only [go_sem, decide_true, decide_false, Nat.lt_irrefl, ltN' hnw]
      refine AWP.draw2 (bitB 137506063859) mixed (by kernel_rfl) (fun i => bl false) ?_
      simp only [go_sem, decide_true, decide_false, Nat.lt_irrefl, ltN' hnw]
      have hmore := rep_more hc w n (min n (w - n)) (by omega) (by omega)
      rw [List.drop_zero] at hmore
      unfold splice at hmore
      have hall : ∀ k k', (List.take k (List.take k' (flatA (List.replicate n c) ++ zcs zero3 (w - n)))).all scalar = true := by
        intro k k'
        rw [List.all_eq_true]
        intro x hx
        rcases List.mem_append.1 (List.mem_of_mem_take (List.mem_of_mem_take hx)) with h | h
        · unfold flatA at h
          simp only [List.mem_flatMap, List.mem_map] at h
          obtain ⟨_, _, _, _, rfl⟩ := h
          rfl
        · unfold zcs at h
          simp only [List.mem_flatten, List.mem_replicate] at h
          obtain ⟨l, ⟨_, rfl⟩, hx⟩ := h
          simp only [zero3, List.mem_cons, List.not_mem_nil, or_false] at hx
          rcases hx with rfl | rfl | rfl <;> rfl
      have hlen : (flatA (List.replicate n c) ++ zcs zero3 (w - n)).length = w * 3 := by
        rw [List.length_append, rep_flat hc, zcs3_len]; omega
      have hq : wi ((n : Int) + ((min n (w - n) : Nat) : Int)) = ((n + min n (w - n) : Nat) : Int) := by rw [wi_id (by omega) (by omega)]; omega
      simp only [Nat.sub_zero, hlen, hmore]
      refine ⟨by omega, by omega, by omega, by omega, hall _ _, ?_⟩
      refine (ih (n + min n (w - n)) ⟨by omega, by omega⟩ (by omega)).back (Sub.refl _) (by simp) ?_
      simp only [go_sem, decide_true, decide_false, Nat.lt_irrefl, hq]
    · obtain rfl : n = w := by omega
      simp only [go_sem, decide_true, decide_false, Nat.lt_irrefl]
      have hz0 : zcs zero3 (n - n) = [] := by rw [Nat.sub_self]; rfl
      rw [hz0, List.append_nil]
      exact ⟨_, Sub.refl _, Or.inl ⟨b, hb, rfl, rfl⟩⟩
end Go.Sk
