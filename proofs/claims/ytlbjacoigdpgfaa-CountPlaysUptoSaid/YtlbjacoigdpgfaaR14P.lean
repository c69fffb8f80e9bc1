/- Texts W14g LE LD LT L14a, joined. -/
import Derived.Test.YtlbjacoigdpgfaaR14B
import Derived.Test.YtlbjacoigdpgfaaSkBr
import Derived.Test.YtlbjacoigdpgfaaLB
import Derived.Test.YtlbjacoigdpgfaaR14A
set_option linter.unusedSimpArgs false
set_option linter.unusedVariables false
set_option linter.unusedSectionVars false
-- W14g
section
namespace Go.Sk
open Go Go.Proofs

theorem oneK_small {s : Skt} (hg : s.Good) (e : Event) : (oneK s e).1.Small := by
  by_cases h : (oneK s e).2 = 0
  · exact (oneK_ok hg e h).1.small
  · have : (oneK s e).1 = zeroK := by
      unfold oneK at *
      split at h
      · rename_i c
        rw [if_pos c]
        unfold moveK at *
        split at h
        · exact absurd rfl h
        · rename_i c2; rw [if_neg c2]
      · rename_i c
        rw [if_neg c]
        unfold addK at *
        split at h
        · rename_i c2
          rw [if_pos c2]
          split at h
          · rename_i c3; rw [if_pos c3]
          · exact absurd rfl h
        · rename_i c2; rw [if_neg c2]
    rw [this]; exact zeroK_small

theorem conf_ok (k : Int) (n0 n1 : Nat) : confK (2 + max k 0 % 30) (1 + n0 % 1000) (n1 % 100) (1 + (n1 % 7 : Nat)) = true := by
  unfold confK
  rw [decide_eq_true_eq]
  omega

set_option maxHeartbeats 2000000 in
set_option maxRecDepth 8000 in
theorem law_CountPlays (k : Int) (n0 n1 : Nat) (l : List Event) (hk0 : -9223372036854775808 ≤ k) (hk : k < 9223372036854775808) (b0 : n0 < 18446744073709551616) (b1 : n1 < 18446744073709551616)
    (hl : ∀ e ∈ l, e.Ok) (ll : l.length ≤ 1048576) :
    CallsR Try.prog 5 [i64 k, .agg [u64 n0, u64 n1], .p (evsP l)] noS (fun x _ => x = bl true) := by
  generalize noS = S
  refine callsR_of Try.func5 rfl (xc_ok (bitB 3073841324820704018730470885466570711) _ _ _ ?_)
  simp only [go_sem, decide_true, decide_false, Nat.lt_irrefl]
  refine alloc_intro fun c4 h4 => ?_
  simp only [go_sem, decide_true, decide_false, Nat.lt_irrefl]
  refine awake14.useA ?_
  simp only [go_sem, decide_true, decide_false, Nat.lt_irrefl]
  have q1 : wi (max k 0 % 30) = max k 0 % 30 := wi_id (by omega) (by omega)
  have q2 : wi (2 + max k 0 % 30) = 2 + max k 0 % 30 := wi_id (by omega) (by omega)
  have q3 : m64 (1 + n0 % 1000) = 1 + n0 % 1000 := m64_id (by omega)
  have q4 : wi ((n1 % 7 : Nat) : Int) = ((n1 % 7 : Nat) : Int) := wi_id (by omega) (by omega)
  have q5 : wi (1 + ((n1 % 7 : Nat) : Int)) = 1 + ((n1 % 7 : Nat) : Int) := wi_id (by omega) (by omega)
  have q0 : (if (0 : Int) > k then 0 else k).tmod 30 = max k 0 % 30 := by
    have : (if (0 : Int) > k then 0 else k) = max k 0 := by split <;> omega
    rw [this, Int.tmod_eq_emod_of_nonneg (by omega)]
  have hN := ref14_New (2 + max k 0 % 30) (1 + n0 % 1000) (n1 % 100) (1 + (n1 % 7 : Nat))
  have hC := count_New (2 + max k 0 % 30) (1 + n0 % 1000) (n1 % 100) (1 + (n1 % 7 : Nat))
  rw [if_pos (conf_ok k n0 n1), if_pos (conf_ok k n0 n1)] at hC
  have hnew := (newK_good (k := 2 + max k 0 % 30) (win := 1 + n0 % 1000) (late := n1 % 100) (room := 1 + (n1 % 7 : Nat)) (by omega) (by omega) (by omega) (by omega) (by omega) (by omega) (by omega)).1
  generalize newK (2 + max k 0 % 30) (1 + n0 % 1000) (n1 % 100) (1 + (n1 % 7 : Nat)) = s0 at hN hC hnew
  simp only [go_sem, decide_true, decide_false, Nat.lt_irrefl, q0, q1, q2, q3, q4, q5]
  refine ⟨by decide, by decide, by decide, by decide, by decide, ?_⟩
  refine hN.useA ?_
  simp only [go_sem, decide_true, decide_false, Nat.lt_irrefl, q0, q1, q2, q3, q4, q5]
  refine alloc_intro fun c8 h8 => ?_
  simp only [fresh_set] at h8
  simp only [go_sem, decide_true, decide_false, Nat.lt_irrefl, h8, q0, q1, q2, q3, q4, q5]
  refine ⟨by decide, by decide, by decide, by decide, by decide, ?_⟩
  refine hC.useA ?_
  simp only [go_sem, decide_true, decide_false, Nat.lt_irrefl, h8, q0, q1, q2, q3, q4, q5]
  refine alloc_intro fun c9 h9 => ?_
  simp only [fresh_set] at h9
  simp only [go_sem, decide_true, decide_false, Nat.lt_irrefl, h8, h9]
  have y4 : S (.r c4) = none := h4
  have y8 : S (.r c8) = none := h8.2
  have y9 : S (.r c9) = none := h9.2.2
  have n89 : ¬ c8 = c9 ∧ ¬ c9 = c8 := ⟨h9.1.2, h9.1.1⟩
  clear hN hC q0 q1 q2 q3 q4 q5
  obtain ⟨V, hV⟩ : ∃ V : Store, V = S.set (.r c4) (.cells [u64 n0, u64 n1]) := ⟨_, rfl⟩
  refine AWP.roam (ι := Nat × Skt) (fun y => y.1 ≤ l.length ∧ y.1 ≤ 30 ∧ y.2.Good)
    (fun y => ⟨Env.get [(2, .p (evsP l)), (7, bl true), (8, .sp c8 0), (9, .sp c9 0), (11, i64 y.1)],
      (V.set (.r c8) (.cells [u64 y.2.win, u64 y.2.b.late, i64 y.2.b.room, u64 y.2.b.mark, u64 y.2.b.front, .p (.sl (y.2.b.evs.map Event.pv)), i64 y.2.past.k, i64 y.2.past.g, .p (.sl (y.2.past.ls.map lvE))])).set (.r c9) (.cells [u64 y.2.win, u64 y.2.b.late, i64 y.2.b.room, u64 y.2.b.mark, u64 y.2.b.front, .p (.sl (y.2.b.evs.map Event.pv)), i64 y.2.past.k, i64 y.2.past.g, .p (.sl (y.2.past.ls.map lvE))]), 129, []⟩)
    (fun y => l.length - y.1) (0, s0) ⟨Nat.zero_le _, Nat.zero_le _, hnew⟩ ?_ ?_
  · refine le_of (by simp only [go_sem, decide_true, decide_false, Nat.lt_irrefl, evsP] <;> rfl) ?_ rfl rfl (by simp)
    rw [hV]
    ((try dsimp only); (repeat refine sub_set ?_ ?_) <;> first | ((repeat (first | exact Sub.refl _ | refine Sub.setF ?_ (by first | assumption | exact And.right (by assumption) | exact And.right (And.right (by assumption)) | exact And.right (And.right (And.right (by assumption))) | exact And.right (And.right (And.right (And.right (by assumption)))) | exact And.right (And.right (And.right (And.right (And.right (by assumption))))) | exact And.right (And.right (And.right (And.right (And.right (And.right (by assumption)))))) | exact And.right (And.right (And.right (And.right (And.right (And.right (And.right (by assumption))))))) | exact And.right (And.right (And.right (And.right (And.right (And.right (And.right (And.right (by assumption)))))))) | exact And.right (And.right (And.right (And.right (And.right (And.right (And.right (And.right (And.right (by assumption)))))))))) | refine Sub.setV ?_ (by first | assumption | exact And.right (by assumption) | exact And.right (And.right (by assumption)) | exact And.right (And.right (And.right (by assumption))) | exact And.right (And.right (And.right (And.right (by assumption)))) | exact And.right (And.right (And.right (And.right (And.right (by assumption))))) | exact And.right (And.right (And.right (And.right (And.right (And.right (by assumption)))))) | exact And.right (And.right (And.right (And.right (And.right (And.right (And.right (by assumption))))))) | exact And.right (And.right (And.right (And.right (And.right (And.right (And.right (And.right (by assumption)))))))) | exact And.right (And.right (And.right (And.right (And.right (And.right (And.right (And.right (And.right (by assumption)))))))))))); done) | (simp only [go_sem, decide_true, decide_false, Nat.lt_irrefl, h8, h9]; done) | (simp only [go_sem, decide_true, decide_false, Nat.lt_irrefl, h8, h9]; rfl) | rfl)
  have v8 : V (.r c8) = none := by rw [hV]; simp only [go_sem, decide_true, decide_false, Nat.lt_irrefl, h8]; exact y8
  have v9 : V (.r c9) = none := by rw [hV]; simp only [go_sem, decide_true, decide_false, Nat.lt_irrefl, h9]; exact y9
  clear hV h4 h8 h9
  rintro ⟨i, s⟩ ⟨hi, hi2, hg⟩ ih
  dsimp only at hi hi2 hg ⊢
  refine AWPH.step (xc_ok (bitB 3073841324820704018730470885466570711) _ _ _ ?_)
  have hsame := same14 s s hg.small
  rw [decide_eq_true (rfl : s = s)] at hsame
  by_cases c1 : i < l.length
  rotate_left
  · simp only [go_sem, decide_true, decide_false, Nat.lt_irrefl, c1, evsP, List.length_map]
    simp only [go_sem, decide_true, decide_false, Nat.lt_irrefl, n89]
    refine hsame.useA ?_
    simp only [go_sem, decide_true, decide_false, Nat.lt_irrefl, n89]
    exact ⟨_, Sub.refl _⟩
  by_cases c2' : (i : Int) < 30
  rotate_left
  · simp only [go_sem, decide_true, decide_false, Nat.lt_irrefl, c1, c2', evsP, List.length_map]
    simp only [go_sem, decide_true, decide_false, Nat.lt_irrefl, n89]
    refine hsame.useA ?_
    simp only [go_sem, decide_true, decide_false, Nat.lt_irrefl, n89]
    exact ⟨_, Sub.refl _⟩
  have hok : (l[i]).Ok := hl _ (List.getElem_mem c1)
  have hq : wi ((i : Int) + 1) = ((i + 1 : Nat) : Int) := wi_succ (show i < 4611686018427387904 by omega)
  simp only [go_sem, decide_true, decide_false, Nat.lt_irrefl, c1, c2', evsP, ltN' c1, getD_map' _ _ _ _ c1, List.length_map]
  refine alloc_intro fun c12 h12 => ?_
  simp only [fresh_set] at h12
  simp only [go_sem, decide_true, decide_false, Nat.lt_irrefl, h12, n89]
  have hA := count_Add s hg (l[i]) hok
  have hM := count_Move s hg (l[i]).t
  have hO := ref14_One s hg (l[i]) hok
  have hgd := oneK_ok hg (l[i])
  have hsm := oneK_small hg (l[i])
  have hun : oneK s (l[i]) = if (l[i]).w = 0 then moveK s (l[i]).t else addK s (l[i]) := rfl
  refine hO.useA ?_
  simp only [go_sem, decide_true, decide_false, Nat.lt_irrefl, h12, n89]
  refine alloc_intro fun c13 h13 => ?_
  simp only [fresh_set] at h13
  simp only [go_sem, decide_true, decide_false, Nat.lt_irrefl, h12, h13, n89]
  have hse := same14 (oneK s (l[i])).1 (oneK s (l[i])).1 hsm
  rw [decide_eq_true rfl] at hse
  by_cases ew : (l[i]).w = 0
  · rw [if_pos ew] at hun
    rw [← hun] at hM
    have ewb : ((l[i]).w == 0) = true := by simpa using ew
    generalize oneK s (l[i]) = X at *
    simp only [go_sem, decide_true, decide_false, Nat.lt_irrefl, ewb, h12, h13, n89]
    refine hM.useA ?_
    simp only [go_sem, decide_true, decide_false, Nat.lt_irrefl, h12, h13, n89]
    refine alloc_intro fun c15 h15 => ?_
    simp only [fresh_set] at h15
    simp only [go_sem, decide_true, decide_false, Nat.lt_irrefl, h12, h13, h15, n89, bne_self_eq_false]
    refine hse.useA ?_
    simp only [go_sem, decide_true, decide_false, Nat.lt_irrefl, h12, h13, h15, n89]
    by_cases ex : X.2 = 0
    · have exb : (X.2 == 0) = true := by simpa using ex
      simp only [go_sem, decide_true, decide_false, Nat.lt_irrefl, exb, h12, h13, h15, n89]
      refine (ih (i + 1, X.1) ⟨c1, by dsimp only; omega, (hgd ex).1⟩ (by dsimp only; omega)).back ?_ (by simp) ?_
      · ((try dsimp only); (repeat refine sub_set ?_ ?_) <;> first | ((repeat (first | exact Sub.refl _ | refine Sub.setF ?_ (by first | assumption | exact And.right (by assumption) | exact And.right (And.right (by assumption)) | exact And.right (And.right (And.right (by assumption))) | exact And.right (And.right (And.right (And.right (by assumption)))) | exact And.right (And.right (And.right (And.right (And.right (by assumption))))) | exact And.right (And.right (And.right (And.right (And.right (And.right (by assumption)))))) | exact And.right (And.right (And.right (And.right (And.right (And.right (And.right (by assumption))))))) | exact And.right (And.right (And.right (And.right (And.right (And.right (And.right (And.right (by assumption)))))))) | exact And.right (And.right (And.right (And.right (And.right (And.right (And.right (And.right (And.right (by assumption)))))))))) | refine Sub.setV ?_ (by first | assumption | exact And.right (by assumption) | exact And.right (And.right (by assumption)) | exact And.right (And.right (And.right (by assumption))) | exact And.right (And.right (And.right (And.right (by assumption)))) | exact And.right (And.right (And.right (And.right (And.right (by assumption))))) | exact And.right (And.right (And.right (And.right (And.right (And.right (by assumption)))))) | exact And.right (And.right (And.right (And.right (And.right (And.right (And.right (by assumption))))))) | exact And.right (And.right (And.right (And.right (And.right (And.right (And.right (And.right (by assumption)))))))) | exact And.right (And.right (And.right (And.right (And.right (And.right (And.right (And.right (And.right (by assumption)))))))))))); done) | (simp only [go_sem, decide_true, decide_false, Nat.lt_irrefl, h12, h13, h15, n89]; done) | (simp only [go_sem, decide_true, decide_false, Nat.lt_irrefl, h12, h13, h15, n89]; rfl) | rfl)
      · simp only [go_sem, decide_true, decide_false, Nat.lt_irrefl, hq, evsP]
    · have exb : (X.2 == 0) = false := by simpa using ex
      simp only [go_sem, decide_true, decide_false, Nat.lt_irrefl, exb, h12, h13, h15, n89]
      refine (ih (i + 1, s) ⟨c1, by dsimp only; omega, hg⟩ (by dsimp only; omega)).back ?_ (by simp) ?_
      · ((try dsimp only); (repeat refine sub_set ?_ ?_) <;> first | ((repeat (first | exact Sub.refl _ | refine Sub.setF ?_ (by first | assumption | exact And.right (by assumption) | exact And.right (And.right (by assumption)) | exact And.right (And.right (And.right (by assumption))) | exact And.right (And.right (And.right (And.right (by assumption)))) | exact And.right (And.right (And.right (And.right (And.right (by assumption))))) | exact And.right (And.right (And.right (And.right (And.right (And.right (by assumption)))))) | exact And.right (And.right (And.right (And.right (And.right (And.right (And.right (by assumption))))))) | exact And.right (And.right (And.right (And.right (And.right (And.right (And.right (And.right (by assumption)))))))) | exact And.right (And.right (And.right (And.right (And.right (And.right (And.right (And.right (And.right (by assumption)))))))))) | refine Sub.setV ?_ (by first | assumption | exact And.right (by assumption) | exact And.right (And.right (by assumption)) | exact And.right (And.right (And.right (by assumption))) | exact And.right (And.right (And.right (And.right (by assumption)))) | exact And.right (And.right (And.right (And.right (And.right (by assumption))))) | exact And.right (And.right (And.right (And.right (And.right (And.right (by assumption)))))) | exact And.right (And.right (And.right (And.right (And.right (And.right (And.right (by assumption))))))) | exact And.right (And.right (And.right (And.right (And.right (And.right (And.right (And.right (by assumption)))))))) | exact And.right (And.right (And.right (And.right (And.right (And.right (And.right (And.right (And.right (by assumption)))))))))))); done) | (simp only [go_sem, decide_true, decide_false, Nat.lt_irrefl, h12, h13, h15, n89]; done) | (simp only [go_sem, decide_true, decide_false, Nat.lt_irrefl, h12, h13, h15, n89]; rfl) | rfl)
      · simp only [go_sem, decide_true, decide_false, Nat.lt_irrefl, hq, evsP]
  · rw [if_neg ew] at hun
    rw [← hun] at hA
    have ewb : ((l[i]).w == 0) = false := by simpa using ew
    generalize oneK s (l[i]) = X at *
    simp only [go_sem, decide_true, decide_false, Nat.lt_irrefl, ewb, h12, h13, n89]
    refine hA.useA ?_
    simp only [go_sem, decide_true, decide_false, Nat.lt_irrefl, h12, h13, n89]
    refine alloc_intro fun c15 h15 => ?_
    simp only [fresh_set] at h15
    simp only [go_sem, decide_true, decide_false, Nat.lt_irrefl, h12, h13, h15, n89, bne_self_eq_false]
    refine hse.useA ?_
    simp only [go_sem, decide_true, decide_false, Nat.lt_irrefl, h12, h13, h15, n89]
    by_cases ex : X.2 = 0
    · have exb : (X.2 == 0) = true := by simpa using ex
      simp only [go_sem, decide_true, decide_false, Nat.lt_irrefl, exb, h12, h13, h15, n89]
      refine (ih (i + 1, X.1) ⟨c1, by dsimp only; omega, (hgd ex).1⟩ (by dsimp only; omega)).back ?_ (by simp) ?_
      · ((try dsimp only); (repeat refine sub_set ?_ ?_) <;> first | ((repeat (first | exact Sub.refl _ | refine Sub.setF ?_ (by first | assumption | exact And.right (by assumption) | exact And.right (And.right (by assumption)) | exact And.right (And.right (And.right (by assumption))) | exact And.right (And.right (And.right (And.right (by assumption)))) | exact And.right (And.right (And.right (And.right (And.right (by assumption))))) | exact And.right (And.right (And.right (And.right (And.right (And.right (by assumption)))))) | exact And.right (And.right (And.right (And.right (And.right (And.right (And.right (by assumption))))))) | exact And.right (And.right (And.right (And.right (And.right (And.right (And.right (And.right (by assumption)))))))) | exact And.right (And.right (And.right (And.right (And.right (And.right (And.right (And.right (And.right (by assumption)))))))))) | refine Sub.setV ?_ (by first | assumption | exact And.right (by assumption) | exact And.right (And.right (by assumption)) | exact And.right (And.right (And.right (by assumption))) | exact And.right (And.right (And.right (And.right (by assumption)))) | exact And.right (And.right (And.right (And.right (And.right (by assumption))))) | exact And.right (And.right (And.right (And.right (And.right (And.right (by assumption)))))) | exact And.right (And.right (And.right (And.right (And.right (And.right (And.right (by assumption))))))) | exact And.right (And.right (And.right (And.right (And.right (And.right (And.right (And.right (by assumption)))))))) | exact And.right (And.right (And.right (And.right (And.right (And.right (And.right (And.right (And.right (by assumption)))))))))))); done) | (simp only [go_sem, decide_true, decide_false, Nat.lt_irrefl, h12, h13, h15, n89]; done) | (simp only [go_sem, decide_true, decide_false, Nat.lt_irrefl, h12, h13, h15, n89]; rfl) | rfl)
      · simp only [go_sem, decide_true, decide_false, Nat.lt_irrefl, hq, evsP]
    · have exb : (X.2 == 0) = false := by simpa using ex
      simp only [go_sem, decide_true, decide_false, Nat.lt_irrefl, exb, h12, h13, h15, n89]
      refine (ih (i + 1, s) ⟨c1, by dsimp only; omega, hg⟩ (by dsimp only; omega)).back ?_ (by simp) ?_
      · ((try dsimp only); (repeat refine sub_set ?_ ?_) <;> first | ((repeat (first | exact Sub.refl _ | refine Sub.setF ?_ (by first | assumption | exact And.right (by assumption) | exact And.right (And.right (by assumption)) | exact And.right (And.right (And.right (by assumption))) | exact And.right (And.right (And.right (And.right (by assumption)))) | exact And.right (And.right (And.right (And.right (And.right (by assumption))))) | exact And.right (And.right (And.right (And.right (And.right (And.right (by assumption)))))) | exact And.right (And.right (And.right (And.right (And.right (And.right (And.right (by assumption))))))) | exact And.right (And.right (And.right (And.right (And.right (And.right (And.right (And.right (by assumption)))))))) | exact And.right (And.right (And.right (And.right (And.right (And.right (And.right (And.right (And.right (by assumption)))))))))) | refine Sub.setV ?_ (by first | assumption | exact And.right (by assumption) | exact And.right (And.right (by assumption)) | exact And.right (And.right (And.right (by assumption))) | exact And.right (And.right (And.right (And.right (by assumption)))) | exact And.right (And.right (And.right (And.right (And.right (by assumption))))) | exact And.right (And.right (And.right (And.right (And.right (And.right (by assumption)))))) | exact And.right (And.right (And.right (And.right (And.right (And.right (And.right (by assumption))))))) | exact And.right (And.right (And.right (And.right (And.right (And.right (And.right (And.right (by assumption)))))))) | exact And.right (And.right (And.right (And.right (And.right (And.right (And.right (And.right (And.right (by assumption)))))))))))); done) | (simp only [go_sem, decide_true, decide_false, Nat.lt_irrefl, h12, h13, h15, n89]; done) | (simp only [go_sem, decide_true, decide_false, Nat.lt_irrefl, h12, h13, h15, n89]; rfl) | rfl)
      · simp only [go_sem, decide_true, decide_false, Nat.lt_irrefl, hq, evsP]
end Go.Sk
end

-- LE
section
namespace Go.Sk
open Go Go.Proofs Go.ChangeShapes Go.WideShapes Go.ChangeAt Go.RowKit

theorem fit_events {N : Nat} {pv : PV} (h : Fit N (.sl [.int .u64, .int .u64, .int .u64]) pv) : ∃ l : List Event, pv = evsP l ∧ (∀ e ∈ l, e.Ok) ∧ l.length ≤ N := by
  refine fit_list (pvf := Event.pv) (ok := Event.Ok) h (fun l hl hf => ?_)
  obtain ⟨a, b, c, rfl, ha, hb, hc⟩ := fit_three hl hf
  obtain ⟨x, hx, rfl⟩ := fit_u64 ha
  obtain ⟨y, hy, rfl⟩ := fit_u64 hb
  obtain ⟨z, hz, rfl⟩ := fit_u64 hc
  exact ⟨⟨x, y, z⟩, rfl, hx, hy, hz⟩
theorem shEvents : shOf Try.prog 8 26 = some [.sl [.int .u64, .int .u64, .int .u64]] := by kernel_rfl
section
variable {H : Type} {enc : TypeId × Value → H}
set_option maxRecDepth 100000 in
theorem arg_events {W : World} {base N : Nat} {v : Value} {d : DataW H} {p : List MemPlace} (hok : Value.okWide Try.prog W .any base 26 v) (h : DataW.Trod enc Try.prog W 0 (fun _ => true) true 26 v d p) (hN : Ytlbjacoigdpgfaa.Rows.uptoBulk d ≤ N) :
    ∃ l : List Event, (∀ e ∈ l, e.Ok) ∧ l.length ≤ N ∧ RepA (allD W) W v (.p (evsP l)) := by
  obtain ⟨a, n, c, rfl⟩ := okWide_slice Try.underlying26 hok
  obtain ⟨pv, hf, hr⟩ := arg_one (N := N) (f := 8) (bulkOk H) shEvents (fun c h => by cases h) h hN
  obtain ⟨l, rfl, h1, h2⟩ := fit_events hf
  exact ⟨l, h1, h2, hr⟩
end
end Go.Sk
end

-- LD
section
namespace Go.Sk
open Go Go.Proofs Go.ChangeShapes Go.WideShapes Go.ChangeAt Go.RowKit

theorem shDeeds : shOf Try.prog 8 24 = some [.sl [.int .u64, .int .u64, .int .u64]] := by kernel_rfl
section
variable {H : Type} {enc : TypeId × Value → H}
set_option maxRecDepth 100000 in
theorem arg_deeds {W : World} {base N : Nat} {v : Value} {d : DataW H} {p : List MemPlace} (hok : Value.okWide Try.prog W .any base 24 v) (h : DataW.Trod enc Try.prog W 0 (fun _ => true) true 24 v d p) (hN : Ytlbjacoigdpgfaa.Rows.uptoBulk d ≤ N) :
    ∃ l : List Event, (∀ e ∈ l, e.Ok) ∧ l.length ≤ N ∧ RepA (allD W) W v (.p (evsP l)) := by
  obtain ⟨a, n, c, rfl⟩ := okWide_slice Try.underlying24 hok
  obtain ⟨pv, hf, hr⟩ := arg_one (N := N) (f := 8) (bulkOk H) shDeeds (fun c h => by cases h) h hN
  obtain ⟨l, rfl, h1, h2⟩ := fit_events hf
  exact ⟨l, h1, h2, hr⟩
end
end Go.Sk
end

-- LT
section
namespace Go.Sk
open Go Go.Proofs Go.ChangeShapes Go.WideShapes Go.ChangeAt Go.RowKit

theorem shTwo : shOf Try.prog 8 53 = some [.int .u64, .int .u64] := by kernel_rfl
section
variable {H : Type} {enc : TypeId × Value → H}
set_option maxRecDepth 100000 in
theorem arg_two {W : World} {base N : Nat} {v : Value} {d : DataW H} {p : List MemPlace} (hok : Value.okWide Try.prog W .any base 53 v) (h : DataW.Trod enc Try.prog W 0 (fun _ => true) true 53 v d p) (hN : Ytlbjacoigdpgfaa.Rows.uptoBulk d ≤ N) :
    ∃ n0 n1 : Nat, (n0 < 18446744073709551616 ∧ n1 < 18446744073709551616) ∧ RepA (allD W) W v (.agg [u64 n0, u64 n1]) := by
  obtain ⟨pvs, hl, hf, hr⟩ := arg_agg (N := N) (f := 8) (bulkOk H) shTwo (by rw [Try.underlying53]) hok h hN
  match pvs, hl with
  | [a, b], _ =>
    obtain ⟨x0, h0, e0⟩ := fit_u64 (hf 0 (by simp))
    obtain ⟨x1, h1, e1⟩ := fit_u64 (hf 1 (by simp))
    simp at e0 e1
    subst e0; subst e1
    exact ⟨x0, x1, ⟨h0, h1⟩, hr⟩
end
end Go.Sk
end

-- L14a
section
namespace Go.Sk
open Go Go.Proofs Go.ChangeShapes Go.WideShapes Go.ChangeAt Go.RowKit

namespace countPlays
set_option maxRecDepth 100000 in
theorem contract (H : Type) (enc : TypeId × Value → H) (W : World) (base : Nat) (args : Array Value) (ds gs : List (DataW H)) (before : List MemPlace)
    (hval : ∀ (j : Nat) t v, Try.f5.params[j]? = some t → args[j]? = some v → Value.okWide Try.prog W .any base t v)
    (hW : DataW.Whole enc Try.prog Try.f5.params.toList Ytlbjacoigdpgfaa.Rows.countPlaysSpec.vars false W args.toList ds gs before) (hk : Ytlbjacoigdpgfaa.Rows.uptoSmall H (ds ++ gs) = true) :
    Calls Try.prog 5 args W fun e W' => ∃ v, e = .returned v ∧ Ytlbjacoigdpgfaa.Rows.countPlaysSpec.post enc Try.prog Try.f5 false true false false W args v W' := by
  have hW' := hW
  obtain ⟨p, q, hA0, hV, rfl, hfz, hnd⟩ := hW
  have hA : DataW.TrodAll enc Try.prog W 0 (fun _ => true) true Try.f5.params.toList args.toList ds p := hA0
  rw [Try.params5] at hA hval
  obtain ⟨v0, vs0, d0, ds0, p0, q0, hargs, rfl, rfl, h0, r0⟩ := trodAll_cons hA
  obtain ⟨v1, vs1, d1, ds1, p1, q1, rfl, rfl, rfl, h1, r1⟩ := trodAll_cons r0
  obtain ⟨v2, vs2, d2, ds2, p2, q2, rfl, rfl, rfl, h2, r2⟩ := trodAll_cons r1
  obtain ⟨rfl, rfl, rfl⟩ := trodAll_nil r2
  obtain ⟨rfl, rfl⟩ := trodVars_none hV
  obtain rfl : args = #[v0, v1, v2] := by cases args; simp_all
  have hb : Ytlbjacoigdpgfaa.Rows.uptoBulkAll ([d0, d1, d2] ++ []) ≤ 1048576 := of_decide_eq_true hk
  obtain ⟨b0, hb⟩ := small_cons hb
  obtain ⟨b1, hb⟩ := small_cons hb
  obtain ⟨b2, hb⟩ := small_cons hb
  obtain ⟨k, hk, rep0⟩ := arg_i64 (hval 0 3 v0 rfl rfl) h0 b0
  obtain ⟨n0, n1, hn, rep1⟩ := arg_two (hval 1 53 v1 rfl rfl) h1 b1
  obtain ⟨l, hl, ll, rep2⟩ := arg_deeds (hval 2 24 v2 rfl rfl) h2 b2
  refine ((law_CountPlays k n0 n1 l hk.1 hk.2 hn.1 hn.2 hl ll) (allD W) W #[v0, v1, v2] (rel_all W) ⟨rfl, fun i hi => ?_⟩).mono ?_
  · match i, hi with
    | 0, _ => exact rep0
    | 1, _ => exact rep1
    | 2, _ => exact rep2
  · rintro e W' ⟨v, rfl, x, S', D', rfl, _, hrep, hE⟩
    cases hrep with
    | p hrep =>
    cases hrep
    exact ⟨_, rfl, bridge kids full hW' rfl (by rw [Try.params5]; decide) rfl Try.underlying4 rfl rfl rfl hE.still⟩

set_option maxRecDepth 100000 in
theorem lifted (os : Os) (started : os.Started) (H : Type) (enc : TypeId × Value → H) (F : Stop.Interp) :
    ReturnsInHanded {} Try.checked os 5 .any ((Ytlbjacoigdpgfaa.Rows.OpenSpec.upto Ytlbjacoigdpgfaa.Rows.countPlaysSpec).pre6 enc Try.prog Try.f5 Ytlbjacoigdpgfaa.Rows.countPlaysUptoRow.domain false) (((Ytlbjacoigdpgfaa.Rows.OpenSpec.upto Ytlbjacoigdpgfaa.Rows.countPlaysSpec).at F).post enc Try.prog Try.f5 false true false false) := by
  refine returnsInHanded_of_cond (C := Try.checked) (s := Ytlbjacoigdpgfaa.Rows.OpenSpec.upto Ytlbjacoigdpgfaa.Rows.countPlaysSpec) (k := Ytlbjacoigdpgfaa.Rows.uptoSmall) rfl own started (by kernel_rfl) Try.func5
    (OpenSpec.witness (enc := enc) (C := Try.checked) (s := Ytlbjacoigdpgfaa.Rows.OpenSpec.upto Ytlbjacoigdpgfaa.Rows.countPlaysSpec) (k := Ytlbjacoigdpgfaa.Rows.uptoSmall) rfl false ⟨#[], #[.int .i64 0, .agg #[.int .u64 0, .int .u64 0], .slice none 0 0], []⟩ 12 (by kernel_rfl) (by kernel_rfl) (by kernel_rfl)
      (x := ([.lit (.int .i64 0), .agg [.lit (.int .u64 0), .lit (.int .u64 0)], .nil], [], [])) (by kernel_rfl) rfl (by kernel_rfl)) ?_
  intro W base args ds gs before hval hW _ hk _
  exact contract H enc W base args ds gs before hval hW hk

theorem j1 : (Ytlbjacoigdpgfaa.Rows.countPlaysUptoRow.inPlace == Try.prog.inPlace 5) = true := by kernel_rfl
theorem j2 : (Ytlbjacoigdpgfaa.Rows.countPlaysUptoRow.unfollowed == Try.prog.unfollowed 5) = true := by kernel_rfl
theorem j3 : (Ytlbjacoigdpgfaa.Rows.countPlaysUptoRow.recurses == Try.prog.recurses 5) = true := by kernel_rfl
theorem j4 : (Ytlbjacoigdpgfaa.Rows.countPlaysUptoRow.named == Try.prog.varsNamed 5) = true := by kernel_rfl
theorem j5 : (Ytlbjacoigdpgfaa.Rows.countPlaysUptoRow.plainKeys == Try.prog.plainKeys) = true := by kernel_rfl
theorem j6 : (Ytlbjacoigdpgfaa.Rows.countPlaysUptoRow.lifted == Try.prog.liftsFinal) = true := by kernel_rfl
theorem j7 : (Try.prog.make == some Ytlbjacoigdpgfaa.Rows.countPlaysUptoRow.make) = true := by kernel_rfl
set_option maxRecDepth 100000 in
theorem jf : joinedFacts Try.prog 5 Try.f5 (Ytlbjacoigdpgfaa.Rows.OpenSpec.upto Ytlbjacoigdpgfaa.Rows.countPlaysSpec).bare Ytlbjacoigdpgfaa.Rows.countPlaysUptoRow = true := by
  unfold joinedFacts
  exact and_ok (and_ok (and_ok (and_ok (and_ok (and_ok (and_ok (and_ok (and_ok (and_ok (and_ok (and_ok (and_ok (and_ok (and_ok (and_ok (and_ok (and_ok (and_ok (and_ok (and_ok (and_ok (and_ok (and_ok (and_ok (and_ok (and_ok (and_ok (and_ok (and_ok (and_ok (by kernel_rfl) j_laid) j_maps) (by kernel_rfl)) (by kernel_rfl)) (by kernel_rfl)) (by kernel_rfl)) (by kernel_rfl)) (by kernel_rfl)) j1) j2) j3) j4) (by kernel_rfl)) (by kernel_rfl)) (by kernel_rfl)) (by kernel_rfl)) (by kernel_rfl)) (by kernel_rfl)) (by kernel_rfl)) (by kernel_rfl)) (by kernel_rfl)) j5) (by kernel_rfl)) j_heard) j_enter) j6) j7) (by kernel_rfl)) (by kernel_rfl)) (by kernel_rfl)) (by kernel_rfl)
end countPlays
theorem _root_.Go.Proofs.Ytlbjacoigdpgfaa.countPlays_proved : Ytlbjacoigdpgfaa.Rows.CountPlaysUptoSaid :=
  OpenClaim.holds_of_cond 5 Try.f5 rfl rfl rfl rfl rfl rfl rfl ⟨rfl, rfl, rfl, rfl, rfl⟩ rfl rfl rfl rfl rfl (by kernel_rfl) Try.func5 countPlays.jf
    (of_decide_eq_true (by kernel_rfl)) (by unfold Func.isWrapper; first | (rw [if_pos (by decide +kernel)]; kernel_rfl) | (rw [if_neg (by decide +kernel)]; exact ⟨rfl, rfl⟩))
    (fun os started H enc _ F => countPlays.lifted os started H enc F)
#print axioms Go.Proofs.Ytlbjacoigdpgfaa.countPlays_proved
end Go.Sk
end
