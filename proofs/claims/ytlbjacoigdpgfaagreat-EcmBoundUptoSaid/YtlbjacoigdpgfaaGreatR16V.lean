/- Texts W16l W15u W16m A19 W16n W16o W16p LE LD LC L3 L16c, joined. -/
import Derived.Test.YtlbjacoigdpgfaaGreatR16G
import Derived.Test.YtlbjacoigdpgfaaGreatSkBr
import Derived.Test.YtlbjacoigdpgfaaGreatR16D
import Derived.Test.YtlbjacoigdpgfaaGreatR16F
import Derived.Test.YtlbjacoigdpgfaaGreatLB
import Derived.Test.YtlbjacoigdpgfaaGreatR16E
set_option linter.unusedSimpArgs false
set_option linter.unusedVariables false
set_option linter.unusedSectionVars false
-- W16l
section
namespace Go.Sk
open Go Go.Proofs

theorem oneE_small {s : Ecm} (hg : s.Good) (e : Event) : (oneE s e).1.Small ∧ (oneE s e).1.past.Sz := by
  by_cases h : (oneE s e).2 = 0
  · exact ⟨(oneE_ok hg e h).1.small, (oneE_ok hg e h).1.pg.sz⟩
  · have : (oneE s e).1 = zeroE := by
      unfold oneE at *
      split at h
      · rename_i c
        rw [if_pos c]
        unfold moveE at *
        split at h
        · exact absurd rfl h
        · rename_i c2; rw [if_neg c2]
      · rename_i c
        rw [if_neg c]
        unfold addE at *
        split at h
        · rename_i c0
          rw [if_pos c0]
          split at h
          · rename_i c2
            rw [if_pos c2]
            split at h
            · exact absurd rfl h
            · rename_i c3; rw [if_neg c3]
          · rename_i c2; rw [if_neg c2]
        · rename_i c0; rw [if_neg c0]
    rw [this]; exact ⟨zeroE_small, ⟨by decide, fun r hr => by cases hr⟩⟩
theorem tame_conf16 (c : ConfE) : confE (tameE' c) = 0 := by
  have hl := tameS_len c.two
  have hm := tameS_may c.two
  unfold confE
  rw [if_neg (by unfold tameE'; dsimp only; omega)]
  show confV (tameK c.two) (tameW c.two) (tameS c.two) = 0
  unfold confV
  rw [if_neg (by unfold tameK tameW; omega), if_pos (List.all_eq_true.2 hm)]

set_option maxHeartbeats 2000000 in
set_option maxRecDepth 8000 in
theorem law_EcmPlays (c : ConfE) (l : List Event) (hn : c.sd.length ≤ 1048576) (hk : c.k < 9223372036854775808) (hw : c.w < 9223372036854775808)
    (hl : ∀ e ∈ l, e.Ok) (ll : l.length ≤ 1048576) :
    CallsR Tryz.prog 5 [c.av, .p (evsP l)] noS (fun x _ => x = bl true) := by
  have hT := ref16_Tame c (by omega) hk hw
  have hsl := (tameS_len c.two).2
  have hN := ref16_New (tameE' c) (by show (tameS c.two).length < _; omega) (by show tameW c.two < _; unfold tameW; omega) (by show 0 ≤ tameW c.two; unfold tameW; omega)
  have hC := ecm_New (tameE' c) (by show (tameS c.two).length < _; omega)
  rw [tame_conf16 c, if_pos rfl] at hC
  have hnew := (tame_good c).1
  generalize (tameE' c).new = s0 at hN hnew hC
  generalize tameE' c = c' at hT hN hC
  have hs0 := same16 s0 s0 hnew.small hnew.pg.sz
  rw [decide_eq_true (rfl : s0 = s0)] at hs0
  generalize noS = S
  refine callsR_of Tryz.func5 rfl (xc_ok (bitB 366430440523708345738705764343) _ _ _ ?_)
  simp only [go_sem]
  refine alloc_intro fun c2 h2 => ?_
  simp only [go_sem]
  refine awake16.useA ?_
  simp only [go_sem]
  refine hT.useA ?_
  simp only [go_sem]
  refine alloc_intro fun c6 h6 => ?_
  simp only [fresh_set] at h6
  simp only [go_sem, h6]
  refine hN.useA ?_
  simp only [go_sem, h6]
  refine alloc_intro fun c7 h7 => ?_
  simp only [fresh_set] at h7
  simp only [go_sem, h6, h7]
  refine hC.useA ?_
  simp only [go_sem, h6, h7]
  refine alloc_intro fun c8 h8 => ?_
  simp only [fresh_set] at h8
  simp only [go_sem, h6, h7, h8, bne_self_eq_false]
  refine hs0.useA ?_
  simp only [go_sem, h6, h7, h8]
  have y2 : S (.r c2) = none := h2
  have y6 : S (.r c6) = none := h6.2
  have y7 : S (.r c7) = none := h7.2.2
  have y8 : S (.r c8) = none := h8.2.2.2
  have n89 : ¬ c7 = c8 ∧ ¬ c8 = c7 := ⟨h8.1.2, h8.1.1⟩
  clear hN hC hT hs0
  refine AWP.roam (ι := Nat × Ecm) (fun y => y.1 ≤ l.length ∧ y.1 ≤ 15 ∧ y.2.Good)
    (fun y => ⟨Env.get [(1, .p (evsP l)), (5, bl true), (7, .sp c7 0), (8, .sp c8 0), (10, i64 y.1)],
      (S.set (.r c7) (.cells (y.2.pv.map .p))).set (.r c8) (.cells (y.2.pv.map .p)), 106, []⟩)
    (fun y => l.length - y.1) (0, s0) ⟨Nat.zero_le _, Nat.zero_le _, hnew⟩ ?_ ?_
  · refine le_of (by simp only [go_sem, evsP] <;> rfl) ?_ rfl rfl (by simp)
    simp only [Ecm.pv, List.map_cons, List.map_nil]
    ((try dsimp only); (repeat refine sub_set ?_ ?_) <;> first | ((repeat (first | exact Sub.refl _ | refine Sub.setF ?_ (by first | assumption | simp only [*]) | refine Sub.setV ?_ (by first | assumption | simp only [*]))); done) | (simp only [go_sem, h6, h7, h8, y2, y6]; done) | (simp only [go_sem, h6, h7, h8, y2, y6]; rfl) | rfl)
    done
  clear h2 h6 h7 h8
  rintro ⟨i, s⟩ ⟨hi, hi2, hg⟩ ih
  dsimp only at hi hi2 hg ⊢
  refine AWPH.step (xc_ok (bitB 366430440523708345738705764343) _ _ _ ?_)
  have hsame := same16 s s hg.small hg.pg.sz
  rw [decide_eq_true (rfl : s = s)] at hsame
  by_cases c1 : i < l.length
  rotate_left
  · simp only [go_sem, c1, evsP, List.length_map]
    simp only [go_sem, n89]
    refine hsame.useA ?_
    simp only [go_sem, n89]
    exact ⟨_, Sub.refl _⟩
  by_cases c2' : (i : Int) < 15
  rotate_left
  · simp only [go_sem, c1, c2', evsP, List.length_map]
    simp only [go_sem, n89]
    refine hsame.useA ?_
    simp only [go_sem, n89]
    exact ⟨_, Sub.refl _⟩
  have hok : (l[i]).Ok := hl _ (List.getElem_mem c1)
  have hq : wi ((i : Int) + 1) = ((i + 1 : Nat) : Int) := wi_succ (show i < 4611686018427387904 by omega)
  simp only [go_sem, c1, c2', evsP, ltN' c1, getD_map' _ _ _ _ c1, List.length_map]
  refine alloc_intro fun c12 h12 => ?_
  simp only [fresh_set] at h12
  simp only [go_sem, h12, n89]
  have hA := ecm_Add s hg (l[i]) hok
  have hM := ecm_Move s hg (l[i]).t
  have hO := ref16_One s hg (l[i]) hok
  have hgd := oneE_ok hg (l[i])
  have hsm := oneE_small hg (l[i])
  have hun : oneE s (l[i]) = if (l[i]).w = 0 then moveE s (l[i]).t else addE s (l[i]) := rfl
  refine hO.useA ?_
  simp only [go_sem, h12, n89]
  refine alloc_intro fun c13 h13 => ?_
  simp only [fresh_set] at h13
  simp only [go_sem, h12, h13, n89]
  have hse := same16 (oneE s (l[i])).1 (oneE s (l[i])).1 hsm.1 hsm.2
  rw [decide_eq_true rfl] at hse
  by_cases ew : (l[i]).w = 0
  · rw [if_pos ew] at hun
    rw [← hun] at hM
    have ewb : ((l[i]).w == 0) = true := by simpa using ew
    generalize oneE s (l[i]) = X at *
    simp only [go_sem, ewb, h12, h13, n89]
    refine hM.useA ?_
    simp only [go_sem, h12, h13, n89]
    refine alloc_intro fun c15 h15 => ?_
    simp only [fresh_set] at h15
    simp only [go_sem, h12, h13, h15, n89, bne_self_eq_false]
    refine hse.useA ?_
    simp only [go_sem, h12, h13, h15, n89]
    by_cases ex : X.2 = 0
    · have exb : (X.2 == 0) = true := by simpa using ex
      simp only [go_sem, exb, h12, h13, h15, n89]
      refine (ih (i + 1, X.1) ⟨c1, by dsimp only; omega, (hgd ex).1⟩ (by dsimp only; omega)).back ?_ (by simp) ?_
      · ((try dsimp only); (repeat refine sub_set ?_ ?_) <;> first | ((repeat (first | exact Sub.refl _ | refine Sub.setF ?_ (by first | assumption | simp only [*]) | refine Sub.setV ?_ (by first | assumption | simp only [*]))); done) | (simp only [go_sem, h12, h13, h15, n89]; done) | (simp only [go_sem, h12, h13, h15, n89]; rfl) | rfl)
      · simp only [go_sem, hq, evsP]
    · have exb : (X.2 == 0) = false := by simpa using ex
      simp only [go_sem, exb, h12, h13, h15, n89]
      refine (ih (i + 1, s) ⟨c1, by dsimp only; omega, hg⟩ (by dsimp only; omega)).back ?_ (by simp) ?_
      · ((try dsimp only); (repeat refine sub_set ?_ ?_) <;> first | ((repeat (first | exact Sub.refl _ | refine Sub.setF ?_ (by first | assumption | simp only [*]) | refine Sub.setV ?_ (by first | assumption | simp only [*]))); done) | (simp only [go_sem, h12, h13, h15, n89]; done) | (simp only [go_sem, h12, h13, h15, n89]; rfl) | rfl)
      · simp only [go_sem, hq, evsP]
  · rw [if_neg ew] at hun
    rw [← hun] at hA
    have ewb : ((l[i]).w == 0) = false := by simpa using ew
    generalize oneE s (l[i]) = X at *
    simp only [go_sem, ewb, h12, h13, n89]
    refine hA.useA ?_
    simp only [go_sem, h12, h13, n89]
    refine alloc_intro fun c15 h15 => ?_
    simp only [fresh_set] at h15
    simp only [go_sem, h12, h13, h15, n89, bne_self_eq_false]
    refine hse.useA ?_
    simp only [go_sem, h12, h13, h15, n89]
    by_cases ex : X.2 = 0
    · have exb : (X.2 == 0) = true := by simpa using ex
      simp only [go_sem, exb, h12, h13, h15, n89]
      refine (ih (i + 1, X.1) ⟨c1, by dsimp only; omega, (hgd ex).1⟩ (by dsimp only; omega)).back ?_ (by simp) ?_
      · ((try dsimp only); (repeat refine sub_set ?_ ?_) <;> first | ((repeat (first | exact Sub.refl _ | refine Sub.setF ?_ (by first | assumption | simp only [*]) | refine Sub.setV ?_ (by first | assumption | simp only [*]))); done) | (simp only [go_sem, h12, h13, h15, n89]; done) | (simp only [go_sem, h12, h13, h15, n89]; rfl) | rfl)
      · simp only [go_sem, hq, evsP]
    · have exb : (X.2 == 0) = false := by simpa using ex
      simp only [go_sem, exb, h12, h13, h15, n89]
      refine (ih (i + 1, s) ⟨c1, by dsimp only; omega, hg⟩ (by dsimp only; omega)).back ?_ (by simp) ?_
      · ((try dsimp only); (repeat refine sub_set ?_ ?_) <;> first | ((repeat (first | exact Sub.refl _ | refine Sub.setF ?_ (by first | assumption | simp only [*]) | refine Sub.setV ?_ (by first | assumption | simp only [*]))); done) | (simp only [go_sem, h12, h13, h15, n89]; done) | (simp only [go_sem, h12, h13, h15, n89]; rfl) | rfl)
      · simp only [go_sem, hq, evsP]
end Go.Sk
end

-- W15u
section
namespace Go.Sk
open Go Go.Proofs

theorem zeroG_small : zeroG.Small := ⟨by decide, ⟨by decide, fun r hr => by cases hr⟩, ⟨by decide, fun l hl => by cases hl⟩⟩
theorem zeroG_sz : zeroG.Sz := ⟨by decide, fun r hr => by cases hr⟩
theorem addG_small {g : Grid} (hg : g.Good) (e : Event) : (addG g e).1.Small ∧ (addG g e).1.Sz := by
  by_cases h : (addG g e).2 = 0
  · exact ⟨(addG_good hg e h).small, (addG_good hg e h).sz⟩
  · have : (addG g e).1 = zeroG := by
      unfold addG at h ⊢
      split
      · rename_i c; rw [if_pos c] at h
        split
        · rename_i c2; rw [if_pos c2] at h; exact absurd rfl h
        · rfl
      · rfl
    rw [this]; exact ⟨zeroG_small, zeroG_sz⟩
theorem conf_good {k w : Int} {sd : List Seed} (h : confV k w sd = 0) : (newV k w sd).Good := by
  unfold confV at h
  split at h
  · simp at h
  · rename_i c
    split at h
    · rename_i c2
      exact newV_good (by omega) (by omega) (by omega) (by omega) (by omega) (fun s hs => List.all_eq_true.1 c2 s hs)
    · simp at h

end Go.Sk
end

-- W16m
section
namespace Go.Sk
open Go Go.Proofs

theorem madeE_good (c : ConfE) (l : List Event) : (madeE c l).1.Good ∧ (madeE c l).1.Led (madeE c l).2 ∧ (madeE c l).1.past.all.k = tameK c.two ∧ (madeE c l).2.length ≤ 15 ∧ (∀ e ∈ (madeE c l).2, e.w ≤ 4503599627370496) ∧ ∀ e ∈ (madeE c l).2, e ∈ l := by
  obtain ⟨h1, h2⟩ := tame_good c
  obtain ⟨a, b, c', d, e, f⟩ := madeEo_ok (l.take 15) _ [] h1 h2
  refine ⟨a, b, c'.trans rfl, Nat.le_trans d ?_, e (fun e h => by cases h), fun x hx => ?_⟩
  · simp; omega
  · rcases f x hx with h | h
    · cases h
    · exact List.mem_of_mem_take h
theorem conf_good16 {c : ConfE} (h : confE c = 0) : c.new.Good := by
  unfold confE at h
  split at h
  · simp at h
  · rename_i hc
    have hV := conf_good h
    unfold confV at h
    split at h
    · simp at h
    · exact (newE_good hV (by omega) (by omega) (by omega) (by omega) (by omega) (by omega) (by omega) (by omega)).1

set_option maxHeartbeats 2000000 in
set_option maxRecDepth 8000 in
theorem law_EcmAsked (c : ConfE) (l : List Event) (n0 n1 n2 : Nat) (hn : c.sd.length ≤ 1048576) (hk : c.k < 9223372036854775808) (hw : c.w < 9223372036854775808)
    (hl : ∀ e ∈ l, e.Ok) (ll : l.length ≤ 1048576) (b0 : n0 < 18446744073709551616) :
    CallsR Tryz.prog 3 [c.av, .p (evsP l), .agg [u64 n0, u64 n1, u64 n2]] noS (fun x _ => x = bl true) := by
  have hF := ref16_Conf c (by omega)
  have hM := ref16_Made c l (by omega) hk hw (by omega) hl
  obtain ⟨hg, -, -, -, -, -⟩ := madeE_good c l
  generalize noS = S
  refine callsR_of Tryz.func3 rfl (xc_ok (bitB 4563394543) _ _ _ ?_)
  simp only [go_sem]
  refine alloc_intro fun c3 h3 => ?_
  simp only [go_sem]
  refine alloc_intro fun c5 h5 => ?_
  simp only [fresh_set] at h5
  simp only [go_sem, h5]
  refine awake16.useA ?_
  have y3 : S (.r c3) = none := h3
  have y5 : S (.r c5) = none := h5.2
  simp only [go_sem, h5]
  by_cases h20 : (c.sd.length : Int) > 20
  · simp only [go_sem, h5, h20, List.length_map]
    exact ⟨S, by repeat' first | exact Sub.refl _ | refine Sub.set ?_ (by assumption) _⟩
  simp only [go_sem, h5, h20, List.length_map]
  have hC := ecm_New c (by clear h5; omega)
  refine hC.useA ?_
  have hwin := hg.at' _ _ (Or.inl ⟨rfl, rfl⟩)
  have hfr : (madeE c l).1.b.front ≤ 9223372036854775807 := Nat.le_trans hwin.fm hwin.mkk
  have hw1 : 1 ≤ (madeE c l).1.win := hwin.w1
  have hw2 : (madeE c l).1.win ≤ 4611686018427387904 := hwin.w2
  clear hwin
  generalize madeE c l = X at *
  obtain ⟨s, all⟩ := X
  dsimp only at hM hg hfr hw1 hw2
  have q2 : m64 (s.b.front + n1 % 60) = s.b.front + n1 % 60 := m64_id (by clear h5; omega)
  have q3 : m64 (1 + n2 % s.win) = 1 + n2 % s.win := m64_id (by have := Nat.mod_lt n2 (show 0 < s.win by clear h5; omega); clear h5; omega)
  have hQ1 := ecm_Point s hg n0 n1 n2 b0
  have hR1 := ref16_Point s hg n0 n1 n2 b0
  have hQ2 := ecm_Point s hg n0 (s.b.front + n1 % 60) (1 + n2 % s.win) b0
  have hR2 := ref16_Point s hg n0 (s.b.front + n1 % 60) (1 + n2 % s.win) b0
  have hQ3 := ecm_All s hg (s.b.front + n1 % 60) n2
  have hR3 := ref16_All s hg (s.b.front + n1 % 60) n2
  have hMd := made16 s hg.pg.sz
  generalize pointE s n0 n1 n2 = A1 at *
  generalize pointE s n0 (s.b.front + n1 % 60) (1 + n2 % s.win) = A2 at *
  generalize allE s (s.b.front + n1 % 60) n2 = A3 at *
  by_cases hc : confE c = 0
  · rw [if_pos hc, hc]
    rw [hc] at hF
    have hgc := conf_good16 hc
    have hN := ref16_New c (by clear h5; omega) (by have := hgc.pg.w2; have e : c.new.past.w = c.w := rfl; clear h5; omega) (by have := hgc.pg.w1; have e : c.new.past.w = c.w := rfl; clear h5; omega)
    have hS := same16 c.new c.new hgc.small hgc.pg.sz
    rw [decide_eq_true (rfl : c.new = c.new)] at hS
    generalize c.new = s0 at *
    simp only [go_sem, h5]
    refine alloc_intro fun c8 h8 => ?_
    simp only [fresh_set] at h8
    have y8 : S (.r c8) = none := h8.2.2
    simp only [go_sem, h5, h8]
    refine hF.useA ?_
    simp only [go_sem, h5, h8]
    refine AWP.draw2 (bitB 4563394543) mixed (by kernel_rfl) (fun j => if j = 9 then s0.av else bl true) ?_
    simp only [go_sem, h5, h8, bne_self_eq_false]
    repeat first | refine ⟨by decide, ?_⟩ | refine ⟨hN.draw, ?_⟩ | refine ⟨hS.draw, ?_⟩
    refine hM.useA ?_
    simp only [go_sem, h5, h8]
    refine alloc_intro fun c12 h12 => ?_
    simp only [fresh_set] at h12
    have y12 : S (.r c12) = none := h12.2.2.2
    simp only [go_sem, h5, h8, h12]
    refine AWP.draw2 (bitB 4563394543) mixed (by kernel_rfl) (fun j => if j = 1 then s.av else .tuple [u64 A1.1, i64 A1.2]) ?_
    simp only [go_sem, h5, h8, h12]
    repeat first | refine ⟨by decide, ?_⟩ | refine ⟨hMd.draw, ?_⟩ | refine ⟨hQ1.draw, ?_⟩ | refine ⟨hQ2.draw, ?_⟩ | refine ⟨hQ3.draw, ?_⟩ | refine ⟨by omega, ?_⟩
    refine hR1.useA ?_
    simp only [go_sem, h5, h8, h12, q2, q3]
    repeat first | refine ⟨by decide, ?_⟩ | refine ⟨hMd.draw, ?_⟩ | refine ⟨hQ1.draw, ?_⟩ | refine ⟨hQ2.draw, ?_⟩ | refine ⟨hQ3.draw, ?_⟩ | refine ⟨by omega, ?_⟩
    refine AWP.draw2 (bitB 4563394543) mixed (by kernel_rfl) (fun j => if j = 1 then s.av else .tuple [u64 A2.1, i64 A2.2]) ?_
    simp only [go_sem, h5, h8, h12, q2, q3]
    repeat first | refine ⟨by decide, ?_⟩ | refine ⟨hMd.draw, ?_⟩ | refine ⟨hQ1.draw, ?_⟩ | refine ⟨hQ2.draw, ?_⟩ | refine ⟨hQ3.draw, ?_⟩ | refine ⟨by omega, ?_⟩
    refine hR2.useA ?_
    simp only [go_sem, h5, h8, h12, q2, q3]
    refine AWP.draw2 (bitB 4563394543) mixed (by kernel_rfl) (fun j => if j = 1 then s.av else .tuple [u64 A3.1, i64 A3.2]) ?_
    simp only [go_sem, h5, h8, h12, q2, q3]
    repeat first | refine ⟨by decide, ?_⟩ | refine ⟨hMd.draw, ?_⟩ | refine ⟨hQ1.draw, ?_⟩ | refine ⟨hQ2.draw, ?_⟩ | refine ⟨hQ3.draw, ?_⟩ | refine ⟨by omega, ?_⟩
    refine hR3.useA ?_
    simp only [go_sem, h5, h8, h12, q2, q3, beq_self_eq_true]
    exact ⟨S, by repeat' first | exact Sub.refl _ | refine Sub.set ?_ (by assumption) _⟩
  · rw [if_neg hc]
    have g1 : (confE c != 0) = true := by simpa using hc
    generalize confE c = code at *
    simp only [go_sem, h5]
    refine alloc_intro fun c8 h8 => ?_
    simp only [fresh_set] at h8
    have y8 : S (.r c8) = none := h8.2.2
    simp only [go_sem, h5, h8]
    refine hF.useA ?_
    simp only [go_sem, h5, h8]
    refine AWP.draw2 (bitB 4563394543) mixed (by kernel_rfl) (fun j => bl true) ?_
    simp only [go_sem, h5, h8, g1, beq_self_eq_true]
    refine hM.useA ?_
    simp only [go_sem, h5, h8]
    refine alloc_intro fun c12 h12 => ?_
    simp only [fresh_set] at h12
    have y12 : S (.r c12) = none := h12.2.2.2
    simp only [go_sem, h5, h8, h12]
    refine AWP.draw2 (bitB 4563394543) mixed (by kernel_rfl) (fun j => if j = 1 then s.av else .tuple [u64 A1.1, i64 A1.2]) ?_
    simp only [go_sem, h5, h8, h12]
    repeat first | refine ⟨by decide, ?_⟩ | refine ⟨hMd.draw, ?_⟩ | refine ⟨hQ1.draw, ?_⟩ | refine ⟨hQ2.draw, ?_⟩ | refine ⟨hQ3.draw, ?_⟩ | refine ⟨by omega, ?_⟩
    refine hR1.useA ?_
    simp only [go_sem, h5, h8, h12, q2, q3]
    repeat first | refine ⟨by decide, ?_⟩ | refine ⟨hMd.draw, ?_⟩ | refine ⟨hQ1.draw, ?_⟩ | refine ⟨hQ2.draw, ?_⟩ | refine ⟨hQ3.draw, ?_⟩ | refine ⟨by omega, ?_⟩
    refine AWP.draw2 (bitB 4563394543) mixed (by kernel_rfl) (fun j => if j = 1 then s.av else .tuple [u64 A2.1, i64 A2.2]) ?_
    simp only [go_sem, h5, h8, h12, q2, q3]
    repeat first | refine ⟨by decide, ?_⟩ | refine ⟨hMd.draw, ?_⟩ | refine ⟨hQ1.draw, ?_⟩ | refine ⟨hQ2.draw, ?_⟩ | refine ⟨hQ3.draw, ?_⟩ | refine ⟨by omega, ?_⟩
    refine hR2.useA ?_
    simp only [go_sem, h5, h8, h12, q2, q3]
    refine AWP.draw2 (bitB 4563394543) mixed (by kernel_rfl) (fun j => if j = 1 then s.av else .tuple [u64 A3.1, i64 A3.2]) ?_
    simp only [go_sem, h5, h8, h12, q2, q3]
    repeat first | refine ⟨by decide, ?_⟩ | refine ⟨hMd.draw, ?_⟩ | refine ⟨hQ1.draw, ?_⟩ | refine ⟨hQ2.draw, ?_⟩ | refine ⟨hQ3.draw, ?_⟩ | refine ⟨by omega, ?_⟩
    refine hR3.useA ?_
    simp only [go_sem, h5, h8, h12, q2, q3, beq_self_eq_true]
    exact ⟨S, by repeat' first | exact Sub.refl _ | refine Sub.set ?_ (by assumption) _⟩
end Go.Sk
end

-- A19
section
namespace Go.Sk

/-- What came within, of a column. -/
noncomputable def colW (W : Nat → Bool) (s : Seed) (w c : Int) (e : Event) : Nat := if W e.t = true ∧ colV s e.k w = c then e.w else 0
noncomputable def colT (W : Nat → Bool) (s : Seed) (w c : Int) (l : List Event) : Nat := (l.map (colW W s w c)).sum
theorem colT_snoc (W : Nat → Bool) (s : Seed) (w c : Int) (l : List Event) (e : Event) : colT W s w c (l ++ [e]) = colT W s w c l + colW W s w c e := by
  unfold colT; simp
theorem colSum_eq (tick span : Nat) (s : Seed) (w c : Int) : ∀ (l : List Event) (n : Nat), (∀ e ∈ l, e.t ≤ tick) → n + colT (inW tick span) s w c l < 18446744073709551616 →
    sumV (inV tick span s w c) Event.w n l = n + colT (inW tick span) s w c l := by
  intro l
  induction l with
  | nil => intro n _ _; simp [sumV, colT]
  | cons e r ih =>
    intro n ht hn
    have hte := ht e (by simp)
    have e1 : colT (inW tick span) s w c (e :: r) = colW (inW tick span) s w c e + colT (inW tick span) s w c r := by unfold colT; simp
    rw [e1] at hn ⊢
    show sumV _ _ (if inV tick span s w c e = true then m64 (n + e.w) else n) r = _
    have hin : inV tick span s w c e = true ↔ (inW tick span e.t = true ∧ colV s e.k w = c) := by
      unfold inV withinV inW
      simp only [Bool.and_eq_true, decide_eq_true_eq, Bool.or_eq_true]
      constructor
      · rintro ⟨⟨_, h2⟩, h3⟩; exact ⟨by omega, h3⟩
      · rintro ⟨h2, h3⟩; exact ⟨⟨hte, by omega⟩, h3⟩
    unfold colW at hn ⊢
    by_cases hc : inV tick span s w c e = true
    · rw [if_pos (hin.1 hc)] at hn ⊢
      rw [if_pos hc, m64_id (by omega), ih _ (fun x hx => ht x (by simp [hx])) (by omega)]; omega
    · rw [if_neg (fun h => hc (hin.2 h))] at hn ⊢
      rw [if_neg hc, ih _ (fun x hx => ht x (by simp [hx])) (by omega)]; omega

def rowTot (r : List Hist) : Nat := (r.map (fun h => totN 0 h.ls)).sum
theorem rowTot_set : ∀ (r : List Hist) (c : Nat) (x : Hist), c < r.length → rowTot (r.set c x) + totN 0 (r.getD c zeroH).ls = rowTot r + totN 0 x.ls := by
  intro r
  induction r with
  | nil => intro c x h; simp at h
  | cons y t ih =>
    intro c x h
    cases c with
    | zero => simp [rowTot]; omega
    | succ c =>
      have := ih c x (by simpa using h)
      simp only [rowTot, List.set_cons_succ, List.map_cons, List.sum_cons, List.getD_cons_succ] at this ⊢
      omega
theorem rowTot_take (r : List Hist) (j : Nat) (h : j < r.length) : rowTot (r.take (j + 1)) = rowTot (r.take j) + totN 0 r[j].ls := by
  unfold rowTot; rw [List.take_succ_eq_append_getElem h, List.map_append, List.sum_append]; simp only [List.map_cons, List.map_nil, List.sum_cons, List.sum_nil, Nat.add_zero]
theorem rowTot_le (r : List Hist) (j : Nat) : rowTot (r.take j) ≤ rowTot r := by
  have : rowTot (r.take j ++ r.drop j) = rowTot (r.take j) + rowTot (r.drop j) := by
    unfold rowTot; rw [List.map_append, List.sum_append]
  rw [List.take_append_drop] at this
  omega

/-- A grid, and all that came to it. -/
structure Told (k : Int) (g : Grid) (al : List Event) : Prop where
  cell : ∀ i c, i < g.rows.length → c < g.w.toNat → (cellOf g i c).k = k ∧ Tidy k.toNat (cellOf g i c).ls ∧
    ∀ W, Mono W → loL W 0 (cellOf g i c).ls ≤ colT W (g.sd.getD i default) g.w c al ∧ colT W (g.sd.getD i default) g.w c al ≤ hiL W 0 (cellOf g i c).ls
  tot : ∀ i, i < g.rows.length → rowTot (g.rows.getD i []) = totN 0 g.all.ls
  allk : g.all.k = k
theorem told_add {k : Int} {g : Grid} {al : List Event} (hT : Told k g al) (hg : g.Good) (e : Event) (h0 : (addG g e).2 = 0) : Told k (addG g e).1 (al ++ [e]) := by
  obtain ⟨hk, hr0, hAG⟩ := addG_ok h0
  rw [hAG]
  have hA := rowsV_at g e g.rows.length (Nat.le_refl _) hr0
  have hl := rowsV_len g e g.rows.length
  have hX := addH_good hg.all e.t e.w (rowsV_first g e _ hr0)
  have hcol : ∀ i, colV (g.sd.getD i default) e.k g.w = ((colN g e.k i : Nat) : Int) := fun i => by
    unfold colN; rw [Int.toNat_of_nonneg (colV_nn _ _ _)]
  have hrl : ∀ i, i < g.rows.length → (g.rows.getD i []).length = g.w.toNat := fun i hi => by
    rw [show g.rows.getD i [] = g.rows[i] by simp [List.getD_eq_getElem?_getD, hi]]; exact hg.wid _ (List.getElem_mem hi)
  have hgc : ∀ i, i < g.rows.length → ∀ c, c < g.w.toNat → (cellOf g i c).Good := fun i hi c hc => by
    have hlc : c < (g.rows[i]).length := by rw [hg.wid _ (List.getElem_mem hi)]; exact hc
    unfold cellOf
    rw [show g.rows.getD i [] = g.rows[i] by simp [List.getD_eq_getElem?_getD, hi], show (g.rows[i]).getD c zeroH = (g.rows[i])[c] by simp [List.getD_eq_getElem?_getD, hlc]]
    exact hg.hs _ (List.getElem_mem hi) _ (List.getElem_mem hlc)
  refine ⟨?_, ?_, ?_⟩
  · intro i c hi hc
    dsimp only at hi hc ⊢
    rw [hl] at hi
    obtain ⟨a1, a2⟩ := hA i hi
    obtain ⟨c1, c2, c3⟩ := hT.cell i c hi hc
    unfold cellOf
    dsimp only
    rw [a2]
    have hcn : colN g e.k i < (g.rows.getD i []).length := by rw [hrl i hi]; exact colN_lt g hg.w1 _ _
    by_cases hcc : c = colN g e.k i
    · subst hcc
      have e1 : ((g.rows.getD i []).set (colN g e.k i) (cellG g e i).1).getD (colN g e.k i) zeroH = (cellG g e i).1 := by
        rw [List.getD_eq_getElem?_getD, List.getElem?_set_self hcn]; rfl
      rw [e1]
      have hgo := hgc i hi _ hc
      obtain ⟨_, b2, _, _⟩ := addH_good hgo e.t e.w a1
      have hkk : (cellOf g i (colN g e.k i)).k.toNat = k.toNat := by rw [c1]
      obtain ⟨d1, d2⟩ := addH_tidy hgo (by rw [hkk]; exact c2) e.t e.w a1
      rw [hkk] at d1
      refine ⟨b2.trans c1, d1, fun W hW => ?_⟩
      obtain ⟨u1, u2⟩ := d2 W hW
      obtain ⟨v1, v2⟩ := c3 W hW
      rw [colT_snoc]
      have ew : colW W (g.sd.getD i default) g.w (colN g e.k i : Nat) e = if W e.t = true then e.w else 0 := by
        unfold colW; rw [hcol i]; simp
      rw [ew]
      exact ⟨Nat.le_trans u1 (Nat.add_le_add_right v1 _), Nat.le_trans (Nat.add_le_add_right v2 _) u2⟩
    · have e1 : ((g.rows.getD i []).set (colN g e.k i) (cellG g e i).1).getD c zeroH = (g.rows.getD i []).getD c zeroH := by
        rw [List.getD_eq_getElem?_getD, List.getElem?_set_ne (Ne.symm hcc), ← List.getD_eq_getElem?_getD]
      rw [e1]
      refine ⟨c1, c2, fun W hW => ?_⟩
      rw [colT_snoc]
      have ew : colW W (g.sd.getD i default) g.w (c : Nat) e = 0 := by
        unfold colW; rw [hcol i, if_neg]
        rintro ⟨_, h⟩
        exact hcc (by exact_mod_cast h.symm)
      rw [ew, Nat.add_zero]
      exact c3 W hW
  · intro i hi
    dsimp only at hi ⊢
    rw [hl] at hi
    obtain ⟨a1, a2⟩ := hA i hi
    rw [a2]
    have hcn : colN g e.k i < (g.rows.getD i []).length := by rw [hrl i hi]; exact colN_lt g hg.w1 _ _
    have h1 := rowTot_set (g.rows.getD i []) (colN g e.k i) (cellG g e i).1 hcn
    have h2 := (addH_good (hgc i hi _ (colN_lt g hg.w1 _ _)) e.t e.w a1).2.2.2
    have h3 := hT.tot i hi
    have h4 := hX.2.2.2
    unfold cellG at h1 ⊢
    unfold cellOf at h2
    omega
  · exact hX.2.1.trans hT.allk
theorem madeGo_told {k : Int} : ∀ l t g al, Grid.Good g → Told k g al → Told k (madeGo l t g al).1 (madeGo l t g al).2 := by
  intro l
  induction l with
  | nil => intro t g al _ h; exact h
  | cons x r ih =>
    intro t g al hg h
    unfold madeGo
    split
    · rename_i c; exact ih _ _ _ (addG_good hg _ c) (told_add h hg _ c)
    · exact ih _ _ _ hg h
theorem tot_empty (k : Int) : ∀ n, rowTot (List.replicate n (emptyH k)) = 0 := by
  intro n; induction n with
  | zero => rfl
  | succ n ih => rw [List.replicate_succ]; unfold rowTot at ih ⊢; simp only [List.map_cons, List.sum_cons, ih]; rfl
theorem newV_told {k w : Int} {sd : List Seed} : Told k (newV k w sd) [] := by
  refine ⟨?_, ?_, rfl⟩
  · intro i c hi hc
    have e1 : cellOf (newV k w sd) i c = emptyH k := by
      unfold cellOf newV at *
      dsimp only at *
      simp only [List.length_replicate] at hi
      rw [List.getD_eq_getElem?_getD, List.getD_eq_getElem?_getD, List.getElem?_replicate, if_pos hi]
      simp only [Option.getD_some]
      rw [List.getElem?_replicate, if_pos hc]; rfl
    rw [e1]
    exact ⟨rfl, empty_tidy _, fun W _ => ⟨Nat.le_refl _, Nat.le_refl _⟩⟩
  · intro i hi
    unfold newV at *
    dsimp only at *
    simp only [List.length_replicate] at hi
    rw [List.getD_eq_getElem?_getD, List.getElem?_replicate, if_pos hi]
    exact tot_empty k _
theorem madeV_told (c : Conf2) (l : List Event) : Told (tameV c).all.k (madeV c l).1 (madeV c l).2 := madeGo_told _ _ _ _ (tameV_good c) newV_told
/-- Each event that came is of few ticks. -/
theorem madeGo_ev : ∀ l t g al, (∀ e ∈ l, Event.Ok e) → (∀ e ∈ al, Event.Ok e ∧ e.t ≤ t) → t + 100 * l.length ≤ 1099511627776 → ∀ e ∈ (madeGo l t g al).2, Event.Ok e ∧ e.t ≤ 1099511627776 := by
  intro l
  induction l with
  | nil => intro t g al _ h ht e he; obtain ⟨h1, h2⟩ := h e he; simp at ht; exact ⟨h1, by omega⟩
  | cons x r ih =>
    intro t g al hl h ht
    rw [List.length_cons] at ht
    have hx := hl x (by simp)
    have h2 : ∀ e ∈ al, Event.Ok e ∧ e.t ≤ t + x.t % 100 := fun e he => ⟨(h e he).1, by have := (h e he).2; omega⟩
    unfold madeGo
    split
    · refine ih _ _ _ (fun e he => hl e (by simp [he])) (fun e he => ?_) (by omega)
      rcases List.mem_append.1 he with he | he
      · exact h2 e he
      · simp only [List.mem_singleton] at he; subst he
        refine ⟨⟨?_, hx.k, hx.w⟩, Nat.le_refl _⟩
        dsimp only; omega
    · exact ih _ _ _ (fun e he => hl e (by simp [he])) h2 (by omega)
theorem madeV_ev (c : Conf2) (l : List Event) (hl : ∀ e ∈ l, Event.Ok e) : ∀ e ∈ (madeV c l).2, Event.Ok e ∧ e.t ≤ 1099511627776 :=
  madeGo_ev _ _ _ _ (fun e he => hl e (List.mem_of_mem_take he)) (fun e he => by cases he) (by rw [List.length_take]; omega)
/-- The bound of a key's cell. -/
theorem cells_bound {k : Int} {g : Grid} {al : List Event} (hT : Told k g al) (hg : g.Good) (ha : ∀ e ∈ al, Event.Ok e ∧ e.t ≤ 1099511627776) (i c : Nat) (hi : i < g.rows.length) (hc : c < g.w.toNat) (span : Nat) :
    ∃ R E, colSumV al 1099511627776 span (g.sd.getD i default) g.w c = R ∧ estV (cellOf g i c).ls 1099511627776 span = E ∧ R ≤ 4503599627370496 ∧ E ≤ 4503599627370496 ∧
      (k.toNat - 1) * R ≤ k.toNat * E ∧ k.toNat * E ≤ (k.toNat + 1) * R := by
  obtain ⟨c1, c2, c3⟩ := hT.cell i c hi hc
  have hlc : c < (g.rows[i]).length := by rw [hg.wid _ (List.getElem_mem hi)]; exact hc
  have hgo : (cellOf g i c).Good := by
    unfold cellOf
    rw [show g.rows.getD i [] = g.rows[i] by simp [List.getD_eq_getElem?_getD, hi], show (g.rows[i]).getD c zeroH = (g.rows[i])[c] by simp [List.getD_eq_getElem?_getD, hlc]]
    exact hg.hs _ (List.getElem_mem hi) _ (List.getElem_mem hlc)
  obtain ⟨e1, e2, e3⟩ := est_eq c2.val (by have := hgo.len; omega) hgo.tot 1099511627776 span
  obtain ⟨b1, b2⟩ := c3 _ (inW_mono 1099511627776 span)
  refine ⟨_, _, ?_, e1, Nat.le_trans b2 e2, by omega, est_bound (by have := hgo.k0; omega) c2 _ (inW_mono _ _) b1 b2⟩
  unfold colSumV
  rw [colSum_eq _ _ _ _ _ _ _ (fun e he => (ha e he).2) (by omega), Nat.zero_add]
end Go.Sk
end

-- W16n
section
namespace Go.Sk
open Go Go.Proofs

def isK (x : Nat) (e : Event) : Bool := e.k == x
noncomputable def rowT (g : Grid) (all : List Event) (x tick span i : Nat) : Nat := colSumV all tick span (g.sd.getD i default) g.w (colV (g.sd.getD i default) x g.w)
def minI (f : Nat → Nat) : Nat → Nat
  | 0 => 4611686018427387904
  | n + 1 => min (minI f n) (f n)
set_option maxHeartbeats 1000000 in
set_option maxRecDepth 8000 in
theorem law_truth (g : Grid) (hg : g.Good) (all : List Event) (x tick span : Nat) (hx : x < 18446744073709551616) (ho : ∀ e ∈ all, e.Ok) (hl : all.length < 1048576) :
    Pure Tryz.prog 17 [g.av, .p (evsP all), u64 x, .agg [u64 tick, u64 span]] (.tuple [u64 (spanV (all.filter (isK x)) tick span), u64 (minI (rowT g all x tick span) g.sd.length)]) := fun S => by
  have hn := hg.n
  have hsdl := hg.sd
  have hw2 := hg.w2
  refine callR_of Tryz.func17 rfl rfl (xc_ok (bitB 549890326431) _ _ _ ?_)
  simp only [go_sem, evsP]
  refine alloc_intro fun c4 h4 => ?_
  simp only [go_sem]
  refine alloc_intro fun c7 h7 => ?_
  simp only [fresh_set] at h7
  have y4 : S (.r c4) = none := h4
  have y7 : S (.r c7) = none := h7.2
  simp only [go_sem, h7]
  refine AWP.tip0 10 3 (by simp only [go_sem]) fun v hv => ?_
  simp only [freshv_setr] at hv
  have yv : S (.v v) = none := hv
  simp only [go_sem]
  refine AWP.iterE (ι := Option Nat) (fun loc j => ⟨Env.get [(1, .p (.sl (all.map Event.pv))), (2, u64 x), (4, .sp c4 0), (7, .sp c7 0), (10, .ts v 3 loc (((all.take j).filter (isK x)).map Event.pv)), (11, i64 j)],
    ((S.set (.r c4) (.cells (g.pv.map .p))).set (.r c7) (.cells [u64 tick, u64 span])).set (.v v) (.tip 3 ((all.take j).filter (isK x)).length loc), 75, []⟩) all.length none ?_ ?_ ?_
  · refine le_of (by simp only [go_sem, List.length_map, List.take_zero, List.filter_nil, List.map_nil] <;> rfl) ?_ rfl rfl (by simp)
    ((try dsimp only); (repeat refine sub_set ?_ ?_) <;> first | ((repeat (first | exact Sub.refl _ | refine Sub.setF ?_ (by first | assumption | simp only [*]) | refine Sub.setV ?_ (by first | assumption | simp only [*]))); done) | (simp only [go_sem, h7, hv, List.take_zero, List.filter_nil]; done) | (simp only [go_sem, h7, hv, List.take_zero, List.filter_nil]; rfl) | rfl)
  · intro j loc hj jh
    have hqj : wi ((j : Int) + 1) = ((j + 1 : Nat) : Int) := wi_succ (show j < 4611686018427387904 by omega)
    have hfl : ((all.take j).filter (isK x)).length ≤ j := Nat.le_trans (List.length_filter_le _ _) (by rw [List.length_take]; omega)
    have hft := filter_take (isK x) all j hj
    refine AWPH.step (xc_ok (bitB 549890326431) _ _ _ ?_)
    simp only [go_sem, hj, ltN' hj, getD_map' _ _ _ _ hj, List.length_map]
    cases hp : isK x all[j]
    · rw [hp] at hft
      have hb : ((all[j]).k == x) = false := hp
      rw [if_neg (by simp), List.append_nil] at hft
      simp only [go_sem, hb]
      refine (jh loc).back ?_ (by simp) ?_
      · ((try dsimp only); (repeat refine sub_set ?_ ?_) <;> first | ((repeat (first | exact Sub.refl _ | refine Sub.setF ?_ (by first | assumption | simp only [*]) | refine Sub.setV ?_ (by first | assumption | simp only [*]))); done) | (simp only [go_sem, h7, hv, hft]; done) | (simp only [go_sem, h7, hv, hft]; rfl) | rfl)
      · simp only [go_sem, hqj, hft, List.length_map]
    · rw [hp] at hft
      have hb : ((all[j]).k == x) = true := hp
      rw [if_pos rfl] at hft
      simp only [go_sem, hb, h7, hv, hj, ltN' hj, getD_map' _ _ _ _ hj, List.length_map]
      refine ⟨by rintro el rfl; rfl, evn_len, by clear h7; omega, by clear h7; omega, grow_intro fun loc' => ?_⟩
      have e5 : List.map Event.pv (List.filter (isK x) (List.take j all)) ++ [[.int .u64 (all[j]).t, .int .u64 (all[j]).k, .int .u64 (all[j]).w]] = List.map Event.pv (List.filter (isK x) (List.take (j + 1) all)) := by
        rw [hft, List.map_append]; rfl
      simp only [go_sem, h7, hv, hqj, e5]
      refine (jh loc').back ?_ (by simp) ?_
      · ((try dsimp only); (repeat refine sub_set ?_ ?_) <;> first | ((repeat (first | exact Sub.refl _ | refine Sub.setF ?_ (by first | assumption | simp only [*]) | refine Sub.setV ?_ (by first | assumption | simp only [*]))); done) | (simp only [go_sem, h7, hv, List.length_map, e5, hft, List.length_append, List.length_cons, List.length_nil]; done) | (simp only [go_sem, h7, hv, List.length_map, e5, hft, List.length_append, List.length_cons, List.length_nil]; rfl) | rfl)
      · simp only [go_sem, hqj, e5, List.length_map]
  intro loc
  refine AWPH.step (xc_ok (bitB 549890326431) _ _ _ ?_)
  simp only [go_sem, h7, hv, List.take_length, List.length_map]
  refine AWP.iter (fun i => ⟨Env.get [(1, .p (.sl (all.map Event.pv))), (2, u64 x), (4, .sp c4 0), (7, .sp c7 0), (10, .ts v 3 loc ((all.filter (isK x)).map Event.pv)), (12, u64 (minI (rowT g all x tick span) i)), (13, i64 i)],
    ((S.set (.r c4) (.cells (g.pv.map .p))).set (.r c7) (.cells [u64 tick, u64 span])).set (.v v) (.tip 3 (all.filter (isK x)).length loc), 75, []⟩) g.sd.length ?_ ?_ ?_
  · refine le_of (by simp only [go_sem, List.length_map] <;> simp [minI]) ?_ rfl rfl (by simp)
    ((try dsimp only); (repeat refine sub_set ?_ ?_) <;> first | ((repeat (first | exact Sub.refl _ | refine Sub.setF ?_ (by first | assumption | simp only [*]) | refine Sub.setV ?_ (by first | assumption | simp only [*]))); done) | (simp only [go_sem, h7, hv]; done) | (simp only [go_sem, h7, hv]; rfl) | rfl)
  · intro j hj ih
    have hso := Seed.ok_of_may (hg.so _ (List.getElem_mem hj))
    have hsd : g.sd.getD j default = g.sd[j] := by simp [List.getD_eq_getElem?_getD, hj]
    have hC := ref04_Column g.sd[j] x g.w hso hx (by omega)
    have hI := ref13_In all tick span ⟨g.sd[j], g.w, colV g.sd[j] x g.w⟩ (by omega) ho hso (by dsimp only; omega)
    dsimp only at hI
    rw [show colSumV all tick span g.sd[j] g.w (colV g.sd[j] x g.w) = rowT g all x tick span j by unfold rowT; rw [hsd]] at hI
    have hq : wi ((j : Int) + 1) = ((j + 1 : Nat) : Int) := wi_succ (show j < 4611686018427387904 by omega)
    have e1 : (if rowT g all x tick span j < minI (rowT g all x tick span) j then ((rowT g all x tick span j : Nat) : Int) else ((minI (rowT g all x tick span) j : Nat) : Int)) = ((minI (rowT g all x tick span) (j + 1) : Nat) : Int) := by
      rw [minI]; split <;> omega
    refine AWPH.step (xc_ok (bitB 549890326431) _ _ _ ?_)
    simp only [go_sem, h7, hj, ltN' hj, getD_map' _ _ _ _ hj, List.length_map]
    refine AWP.draw2 (bitB 549890326431) mixed (by kernel_rfl) (fun q => i64 (colV g.sd[j] x g.w)) ?_
    simp only [go_sem, h7, hj, ltN' hj, getD_map' _ _ _ _ hj]
    refine ⟨hC.draw, ?_⟩
    refine alloc_intro fun c14 h14 => ?_
    simp only [fresh_set, fresh_setv] at h14
    simp only [go_sem, h7, h14]
    refine ⟨by decide, by decide, hI.useA ?_⟩
    simp only [go_sem, h7, h14, e1]
    refine ih.back ?_ (by simp) ?_
    · ((try dsimp only); (repeat refine sub_set ?_ ?_) <;> first | ((repeat (first | exact Sub.refl _ | refine Sub.setF ?_ (by first | assumption | simp only [*]) | refine Sub.setV ?_ (by first | assumption | simp only [*]))); done) | (simp only [go_sem, h7, h14, hv]; done) | (simp only [go_sem, h7, h14, hv]; rfl) | rfl)
    · simp only [go_sem, hq, e1, List.length_map]
  · refine AWPH.step (xc_ok (bitB 549890326431) _ _ _ ?_)
    simp only [go_sem, h7, hv, List.length_map]
    have hfl := List.length_filter_le (isK x) all
    refine ⟨by decide, by decide, (ref13_Sum (all.filter (isK x)) tick span (by clear h7; omega)).useA ?_⟩
    simp only [go_sem, h7, hv, List.length_map]
    refine ⟨S, ?_, ?_⟩
    · repeat' first | exact Sub.refl _ | refine Sub.set ?_ (by assumption) _
    · simp
end Go.Sk
end

-- W16o
section
namespace Go.Sk
open Go Go.Proofs

theorem lowV_mem (f : Nat → Nat) : ∀ n, 0 < n → ∃ i, i < n ∧ lowV f n = f i := by
  intro n
  induction n with
  | zero => intro h; omega
  | succ n ih =>
    intro _
    rw [lowV]
    by_cases h : n = 0
    · rw [if_pos h]; exact ⟨0, by omega, rfl⟩
    · rw [if_neg h]
      obtain ⟨i, hi, e⟩ := ih (by omega)
      by_cases c : lowV f n ≤ f n
      · exact ⟨i, by omega, by rw [← e]; omega⟩
      · exact ⟨n, by omega, by omega⟩
theorem lowV_le (f : Nat → Nat) : ∀ n i, i < n → lowV f n ≤ f i := by
  intro n
  induction n with
  | zero => intro i h; omega
  | succ n ih =>
    intro i hi
    rw [lowV]
    by_cases h : n = 0
    · rw [if_pos h]; have : i = 0 := by omega
      subst this; exact Nat.le_refl _
    · rw [if_neg h]
      by_cases c : i = n
      · subst c; omega
      · have := ih i (by omega); omega
theorem minI_mem (f : Nat → Nat) : ∀ n, minI f n = 4611686018427387904 ∨ ∃ i, i < n ∧ minI f n = f i := by
  intro n
  induction n with
  | zero => exact Or.inl rfl
  | succ n ih =>
    rw [minI]
    by_cases c : minI f n ≤ f n
    · rcases ih with h | ⟨i, hi, e⟩
      · exact Or.inl (by omega)
      · exact Or.inr ⟨i, by omega, by rw [← e]; omega⟩
    · exact Or.inr ⟨n, by omega, by omega⟩
theorem minI_le (f : Nat → Nat) : ∀ n i, i < n → minI f n ≤ f i := by
  intro n
  induction n with
  | zero => intro i h; omega
  | succ n ih =>
    intro i hi
    rw [minI]
    by_cases c : i = n
    · subst c; omega
    · have := ih i (by omega); omega
theorem sumE_allE {f : Event → Nat} {B : Nat} : ∀ {l : List Event}, (∀ e ∈ l, f e ≤ B) → sumE f l ≤ l.length * B
  | [], _ => by simp [sumE]
  | e :: r, h => by
    have h1 := h e (by simp)
    have h2 := sumE_allE (l := r) (f := f) fun x hx => h x (by simp [hx])
    simp only [sumE_cons, List.length_cons, Nat.add_mul, Nat.one_mul]
    omega
theorem sumV_filter (a p : Event → Bool) : ∀ (l : List Event) (n : Nat), sumV (fun e => a e && p e) Event.w n l = sumV a Event.w n (l.filter p) := by
  intro l
  induction l with
  | nil => intro n; rfl
  | cons e r ih =>
    intro n
    rw [List.filter_cons]
    show sumV _ _ (if (a e && p e) = true then m64 (n + e.w) else n) r = _
    by_cases hp : p e = true
    · rw [if_pos hp, hp, Bool.and_true]
      show _ = sumV _ _ (if a e = true then m64 (n + e.w) else n) (r.filter p)
      exact ih _
    · rw [if_neg hp, Bool.eq_false_iff.2 hp, Bool.and_false, if_neg (by simp)]
      exact ih _
theorem colSum_cut (g : Grid) (x i tick span : Nat) (l : List Event) : colSumV l tick span (g.sd.getD i default) g.w (colV (g.sd.getD i default) x g.w) = spanV (l.filter (inC g i (colN g x i))) tick span := by
  have hc : colV (g.sd.getD i default) x g.w = ((colN g x i : Nat) : Int) := by unfold colN; rw [Int.toNat_of_nonneg (colV_nn _ _ _)]
  unfold colSumV spanV
  rw [← sumV_filter, hc]
  congr 1
  funext e
  unfold inV
  rw [col_in]
theorem cut_at {g : Grid} (hw1 : 1 ≤ g.w) (x i : Nat) (hi : i < g.rows.length) : g.At (inC g i (colN g x i)) (cellOf g i (colN g x i)) := Or.inr ⟨i, _, hi, colN_lt g hw1 _ _, rfl, rfl⟩
theorem isK_in (g : Grid) (x i : Nat) (e : Event) (h : isK x e = true) : inC g i (colN g x i) e = true := by
  unfold isK at h
  unfold inC
  rw [beq_iff_eq] at h
  rw [h]; simp
theorem ecm_bound {s : Ecm} (hg : s.Good) {all : List Event} (hl : s.Led all) (hlen : all.length ≤ 15) (hw : ∀ e ∈ all, e.w ≤ 4503599627370496) {x tick span : Nat} (hx : x < 2305843009213693951)
    (h1 : s.b.front ≤ tick) (h2 : tick ≤ 9223372036854775807) (h3 : span ≤ s.win) :
    ∃ E R L, lowV (cellQ s x tick span) s.past.rows.length = E ∧ spanV (all.filter (isK x)) tick span = R ∧ minI (rowT s.past all x tick span) s.past.sd.length = L ∧
      E ≤ 4503599627370496 ∧ R ≤ 15 * 4503599627370496 ∧ L ≤ 15 * 4503599627370496 ∧ (s.past.all.k.toNat - 1) * R ≤ s.past.all.k.toNat * E ∧ s.past.all.k.toNat * E ≤ (s.past.all.k.toNat + 1) * L := by
  have hn1 := hg.n1
  have hsd := hg.pg.sd
  have hall : ∀ p : Event → Bool, sumE (wtT tick span) (all.filter p) ≤ 15 * 4503599627370496 := fun p => by
    refine Nat.le_trans (sumE_sub _ List.filter_sublist) ?_
    refine Nat.le_trans (sumE_allE (B := 4503599627370496) fun e he => Nat.le_trans (wtT_le tick span e) (hw e he)) ?_
    exact Nat.mul_le_mul_right _ hlen
  have hsp : ∀ p : Event → Bool, spanV (all.filter p) tick span = sumE (wtT tick span) (all.filter p) := fun p => by
    have := spanV_eq tick span (all.filter p) 0 (by have := hall p; omega)
    unfold spanV; rw [this, Nat.zero_add]
  have hcell : ∀ i, i < s.past.rows.length → cellQ s x tick span i ≤ 4503599627370496 ∧
      (s.past.all.k.toNat - 1) * sumE (wtT tick span) (all.filter (inC s.past i (colN s.past x i))) ≤ s.past.all.k.toNat * cellQ s x tick span i ∧
      s.past.all.k.toNat * cellQ s x tick span i ≤ (s.past.all.k.toNat + 1) * sumE (wtT tick span) (all.filter (inC s.past i (colN s.past x i))) := by
    intro i hi
    have ha := cut_at hg.pg.w1 x i hi
    obtain ⟨E, e1, e2, e3, e4⟩ := count_bound (hg.at' _ _ ha) (hl _ _ ha) (tick := tick) (span := span) h1 h2 h3
    have hk : (s.cut (inC s.past i (colN s.past x i)) (cellOf s.past i (colN s.past x i))).past.k = s.past.all.k := hg.kk _ _ ha
    rw [hk] at e3 e4
    have hq : cellQ s x tick span i = E := by
      unfold cellQ
      rw [colSum_cut]
      have hr : rowV s.past ((i : Nat) : Int) x tick span = estV (cellOf s.past i (colN s.past x i)).ls tick span := by
        unfold rowV cellOf
        rw [if_pos ⟨by omega, by omega, hx⟩, Int.toNat_natCast]
      rw [hr]
      have e1' : estV (cellOf s.past i (colN s.past x i)).ls tick span + spanV (s.b.evs.filter (inC s.past i (colN s.past x i))) tick span = E := e1
      rw [e1', m64_id (by omega)]
    rw [hq]
    exact ⟨e2, e3, e4⟩
  have hrow : ∀ i, rowT s.past all x tick span i = sumE (wtT tick span) (all.filter (inC s.past i (colN s.past x i))) := fun i => by
    unfold rowT; rw [colSum_cut, hsp]
  refine ⟨_, _, _, rfl, rfl, rfl, ?_, ?_, ?_, ?_, ?_⟩
  · obtain ⟨i, hi, e⟩ := lowV_mem (cellQ s x tick span) s.past.rows.length (by omega)
    rw [e]; exact (hcell i hi).1
  · rw [hsp]; exact hall _
  · have := minI_le (rowT s.past all x tick span) s.past.sd.length 0 (by omega)
    rw [hrow] at this
    exact Nat.le_trans this (hall _)
  · obtain ⟨i, hi, e⟩ := lowV_mem (cellQ s x tick span) s.past.rows.length (by omega)
    rw [e, hsp]
    refine Nat.le_trans (Nat.mul_le_mul_left _ ?_) (hcell i hi).2.1
    rw [sumE_filter, sumE_filter]
    refine sumE_le (fun ev => ?_) all
    by_cases c : isK x ev = true
    · rw [if_pos c, if_pos (isK_in s.past x i ev c)]; exact Nat.le_refl _
    · rw [if_neg c]; exact Nat.zero_le _
  · have hE : lowV (cellQ s x tick span) s.past.rows.length ≤ 4503599627370496 := by
      obtain ⟨i, hi, e⟩ := lowV_mem (cellQ s x tick span) s.past.rows.length (by omega)
      rw [e]; exact (hcell i hi).1
    rcases minI_mem (rowT s.past all x tick span) s.past.sd.length with h | ⟨i, hi, e⟩
    · rw [h]
      exact Nat.mul_le_mul (Nat.le_succ _) (by omega)
    · rw [e, hrow]
      have hi' : i < s.past.rows.length := by omega
      exact Nat.le_trans (Nat.mul_le_mul_left _ (lowV_le _ _ i hi')) (hcell i hi').2.2
end Go.Sk
end

-- W16p
section
namespace Go.Sk
open Go Go.Proofs

set_option maxHeartbeats 2000000 in
set_option maxRecDepth 8000 in
theorem law_EcmBound (c : ConfE) (l : List Event) (n0 n1 n2 : Nat) (hn : c.sd.length ≤ 1048576) (hk : c.k < 9223372036854775808) (hw : c.w < 9223372036854775808)
    (hl : ∀ e ∈ l, e.Ok) (ll : l.length ≤ 1048576) :
    CallsR Tryz.prog 4 [c.av, .p (evsP l), .agg [u64 n0, u64 n1, u64 n2]] noS (fun x _ => x = bl true) := by
  have hM := ref16_Made c l (by omega) hk hw (by omega) hl
  obtain ⟨hg, hled, hpk, hlen, hew, hsub⟩ := madeE_good c l
  have hao : ∀ e ∈ (madeE c l).2, e.Ok := fun e he => hl e (hsub e he)
  have hkt : 2 ≤ tameK c.two ∧ tameK c.two ≤ 31 := by unfold tameK; omega
  generalize madeE c l = X at *
  obtain ⟨s, all⟩ := X
  dsimp only at hM hg hled hpk hlen hew hao
  have hT := hg.top
  have hfr : s.b.front ≤ 9223372036854775807 := Nat.le_trans hT.fm hT.mkk
  have hw1 : 1 ≤ s.win := hT.w1
  have hw2 : s.win ≤ 4611686018427387904 := hT.w2
  clear hT
  generalize noS = S
  refine callsR_of Tryz.func4 rfl (xc_ok (bitB 68719738863) _ _ _ ?_)
  simp only [go_sem]
  refine alloc_intro fun c3 h3 => ?_
  simp only [go_sem]
  refine alloc_intro fun c5 h5 => ?_
  simp only [fresh_set] at h5
  simp only [go_sem, h5]
  refine awake16.useA ?_
  have y3 : S (.r c3) = none := h3
  have y5 : S (.r c5) = none := h5.2
  simp only [go_sem, h5]
  refine hM.useA ?_
  simp only [go_sem, h5]
  refine alloc_intro fun c8 h8 => ?_
  simp only [fresh_set] at h8
  have y8 : S (.r c8) = none := h8.2.2
  have q1 : m64 (s.b.front + n1 % 200) = s.b.front + n1 % 200 := m64_id (by clear h5 h8; omega)
  have q2 : m64 (1 + n2 % s.win) = 1 + n2 % s.win := m64_id (by have := Nat.mod_lt n2 (show 0 < s.win by clear h5 h8; omega); clear h5 h8; omega)
  simp only [go_sem, h5, h8, q1, q2]
  repeat refine ⟨by decide, ?_⟩
  by_cases htk : 9223372036854775807 < s.b.front + n1 % 200
  · simp only [go_sem, htk, h5, h8]
    exact ⟨S, by repeat' first | exact Sub.refl _ | refine Sub.set ?_ (by assumption) _⟩
  simp only [go_sem, htk, h5, h8, q1, q2]
  repeat first | refine ⟨by decide, ?_⟩ | refine ⟨by clear h5 h8; omega, ?_⟩
  have hsp : 1 + n2 % s.win ≤ s.win := by have := Nat.mod_lt n2 (show 0 < s.win by clear h5 h8; omega); clear h5 h8; omega
  have hs1 : ¬ (1 + n2 % s.win = 0) := by clear h5 h8; omega
  have ht1 : s.b.front ≤ s.b.front + n1 % 200 := by clear h5 h8; omega
  have ht2 : s.b.front + n1 % 200 ≤ 9223372036854775807 := by clear h5 h8; omega
  have hx : n0 % 9 < 2305843009213693951 := by clear h5 h8; omega
  clear q1 q2
  generalize 1 + n2 % s.win = span at *
  generalize s.b.front + n1 % 200 = tick at *
  generalize n0 % 9 = x at *
  obtain ⟨E, R, L, hE, hR, hL, bE, bR, bL, hlo, hhi⟩ := ecm_bound hg hled hlen hew hx ht1 ht2 hsp
  have hQ := ecm_Point s hg x tick span (by clear h5 h8; omega)
  have hqk : pointE s x tick span = (E, 0) := by
    unfold pointE
    rw [if_pos hx, if_neg (by clear h5 h8; omega), if_neg (by clear h5 h8; omega), hE]
  rw [hqk] at hQ
  dsimp only at hQ
  have hTr := law_truth s.past hg.pg all x tick span (by clear h5 h8; omega) hao (by clear h5 h8; omega)
  rw [hR, hL] at hTr
  refine (made16 s hg.pg.sz).useA ?_
  simp only [go_sem, h5, h8]
  refine hQ.useA ?_
  simp only [go_sem, h5, h8]
  refine hTr.useA ?_
  rw [hpk] at hlo hhi
  generalize hKK : tameK c.two = KK at *
  obtain ⟨K, hK⟩ : ∃ K : Nat, KK = (K : Int) := ⟨KK.toNat, by clear h5 h8; omega⟩
  subst hK
  have hK2 : 2 ≤ K := by clear h5 h8; omega
  have hK3 : K ≤ 31 := by clear h5 h8; omega
  rw [Int.toNat_natCast] at hlo hhi
  have m0 : m64 K = K := m64_id (by clear h5 h8; omega)
  have m1 : sub64 K 1 = K - 1 := sub64_le (by clear h5 h8; omega) (by clear h5 h8; omega)
  have bR1 : (K - 1) * R ≤ 31 * (15 * 4503599627370496) := Nat.mul_le_mul (by clear h5 h8; omega) bR
  have bR2 : (K + 1) * L ≤ 32 * (15 * 4503599627370496) := Nat.mul_le_mul (by clear h5 h8; omega) bL
  have bE2 : K * E ≤ 31 * 4503599627370496 := Nat.mul_le_mul hK3 bE
  have m2 : m64 ((K - 1) * R) = (K - 1) * R := m64_id (by clear h5 h8 hlo hhi bR2 bE2; omega)
  have m3 : m64 ((K + 1) * L) = (K + 1) * L := m64_id (by clear h5 h8 hlo hhi bR1 bE2; omega)
  have m4 : m64 (K * E) = K * E := m64_id (by clear h5 h8 hlo hhi bR1 bR2; omega)
  have m5 : m64 (K + 1) = K + 1 := m64_id (by clear h5 h8; omega)
  simp only [go_sem, h5, h8, hpk, m0, m1, m2, m3, m4, m5, decide_eq_true hlo, decide_eq_true hhi]
  exact ⟨S, by repeat' first | exact Sub.refl _ | refine Sub.set ?_ (by assumption) _⟩
end Go.Sk
end

-- LE
section
namespace Go.Sk
open Go Go.Proofs Go.ChangeShapes Go.WideShapes Go.ChangeAt Go.RowKit

theorem fit_events {N : Nat} {pv : PV} (h : Fit N (.sl [.int .u64, .int .u64, .int .u64]) pv) : ∃ l : List Event, pv = evsP l ∧ (∀ e ∈ l, e.Ok) ∧ l.length ≤ N := by
  refine fit_list (pvf := Event.pv) (ok := Event.Ok) h (fun l hl hf => ?_)
  obtain ⟨a, b, c, rfl, ha, hb, hc⟩ := fit_three hl hf
  obtain ⟨x, hx, rfl⟩ := fit_u64 ha
  obtain ⟨y, hy, rfl⟩ := fit_u64 hb
  obtain ⟨z, hz, rfl⟩ := fit_u64 hc
  exact ⟨⟨x, y, z⟩, rfl, hx, hy, hz⟩
theorem shEvents : shOf Tryz.prog 8 29 = some [.sl [.int .u64, .int .u64, .int .u64]] := by kernel_rfl
section
variable {H : Type} {enc : TypeId × Value → H}
set_option maxRecDepth 100000 in
theorem arg_events {W : World} {base N : Nat} {v : Value} {d : DataW H} {p : List MemPlace} (hok : Value.okWide Tryz.prog W .any base 29 v) (h : DataW.Trod enc Tryz.prog W 0 (fun _ => true) true 29 v d p) (hN : YtlbjacoigdpgfaaGreat.Rows.uptoBulk d ≤ N) :
    ∃ l : List Event, (∀ e ∈ l, e.Ok) ∧ l.length ≤ N ∧ RepA (allD W) W v (.p (evsP l)) := by
  obtain ⟨a, n, c, rfl⟩ := okWide_slice Tryz.underlying29 hok
  obtain ⟨pv, hf, hr⟩ := arg_one (N := N) (f := 8) (bulkOk H) shEvents (fun c h => by cases h) h hN
  obtain ⟨l, rfl, h1, h2⟩ := fit_events hf
  exact ⟨l, h1, h2, hr⟩
end
end Go.Sk
end

-- LD
section
namespace Go.Sk
open Go Go.Proofs Go.ChangeShapes Go.WideShapes Go.ChangeAt Go.RowKit

theorem shDeeds : shOf Tryz.prog 8 26 = some [.sl [.int .u64, .int .u64, .int .u64]] := by kernel_rfl
section
variable {H : Type} {enc : TypeId × Value → H}
set_option maxRecDepth 100000 in
theorem arg_deeds {W : World} {base N : Nat} {v : Value} {d : DataW H} {p : List MemPlace} (hok : Value.okWide Tryz.prog W .any base 26 v) (h : DataW.Trod enc Tryz.prog W 0 (fun _ => true) true 26 v d p) (hN : YtlbjacoigdpgfaaGreat.Rows.uptoBulk d ≤ N) :
    ∃ l : List Event, (∀ e ∈ l, e.Ok) ∧ l.length ≤ N ∧ RepA (allD W) W v (.p (evsP l)) := by
  obtain ⟨a, n, c, rfl⟩ := okWide_slice Tryz.underlying26 hok
  obtain ⟨pv, hf, hr⟩ := arg_one (N := N) (f := 8) (bulkOk H) shDeeds (fun c h => by cases h) h hN
  obtain ⟨l, rfl, h1, h2⟩ := fit_events hf
  exact ⟨l, h1, h2, hr⟩
end
end Go.Sk
end

-- LC
section
namespace Go.Sk
open Go Go.Proofs Go.ChangeShapes Go.WideShapes Go.ChangeAt Go.RowKit

theorem fit_seedsE {N : Nat} {pv : PV} (h : Fit N (.sl [.int .u64, .int .u64]) pv) : ∃ l : List Seed, pv = .sl (l.map Seed.pv) ∧ (∀ e ∈ l, e.Ok) ∧ l.length ≤ N := by
  refine fit_list (pvf := Seed.pv) (ok := Seed.Ok) h (fun l hl hf => ?_)
  obtain ⟨a, b, rfl, ha, hb⟩ := fit_two hl hf
  obtain ⟨x, hx, rfl⟩ := fit_u64 ha
  obtain ⟨y, hy, rfl⟩ := fit_u64 hb
  exact ⟨⟨x, y⟩, rfl, hx, hy⟩
structure ConfE.Ok (c : ConfE) : Prop where
  k : c.k < 9223372036854775808
  w : c.w < 9223372036854775808
  win : c.win < 18446744073709551616
  late : c.late < 18446744073709551616
  room : c.room < 9223372036854775808
  so : ∀ s ∈ c.sd, s.Ok
  n : c.sd.length ≤ 1048576
theorem shConfE : shOf Tryz.prog 8 25 = some [.int .i64, .int .i64, .int .u64, .int .u64, .int .i64, .int .i64, .sl [.int .u64, .int .u64], .int .i64, .int .i64] := by kernel_rfl
section
variable {H : Type} {enc : TypeId × Value → H}
set_option maxRecDepth 100000 in
theorem arg_confE {W : World} {base : Nat} {v : Value} {d : DataW H} {p : List MemPlace} (hok : Value.okWide Tryz.prog W .any base 25 v) (h : DataW.Trod enc Tryz.prog W 0 (fun _ => true) true 25 v d p) (hN : YtlbjacoigdpgfaaGreat.Rows.uptoBulk d ≤ 1048576) :
    ∃ c : ConfE, c.Ok ∧ RepA (allD W) W v c.av := by
  obtain ⟨pvs, hl, hf, hr⟩ := arg_agg (N := 1048576) (f := 8) (bulkOk H) shConfE (by rw [Tryz.underlying25]) hok h hN
  match pvs, hl with
  | [a, b, c, d', e, f, g, i, j], _ =>
    obtain ⟨x0, _, e0⟩ := fit_i64 (hf 0 (by simp))
    obtain ⟨x1, ⟨_, h1⟩, e1⟩ := fit_i64 (hf 1 (by simp))
    obtain ⟨x2, h2, e2⟩ := fit_u64 (hf 2 (by simp))
    obtain ⟨x3, h3, e3⟩ := fit_u64 (hf 3 (by simp))
    obtain ⟨x4, ⟨_, h4⟩, e4⟩ := fit_i64 (hf 4 (by simp))
    obtain ⟨x5, ⟨_, h5⟩, e5⟩ := fit_i64 (hf 5 (by simp))
    obtain ⟨s, e6, hs, hsn⟩ := fit_seedsE (hf 6 (by simp))
    obtain ⟨x7, _, e7⟩ := fit_i64 (hf 7 (by simp))
    obtain ⟨x8, _, e8⟩ := fit_i64 (hf 8 (by simp))
    simp at e0 e1 e2 e3 e4 e5 e6 e7 e8
    subst e0; subst e1; subst e2; subst e3; subst e4; subst e5; subst e6; subst e7; subst e8
    exact ⟨⟨x0, x1, x2, x3, x4, x5, s, x7, x8⟩, ⟨h1, h5, h2, h3, h4, hs, hsn⟩, hr⟩
end
end Go.Sk
end

-- L3
section
namespace Go.Sk
open Go Go.Proofs Go.ChangeShapes Go.WideShapes Go.ChangeAt Go.RowKit

theorem shThree : shOf Tryz.prog 8 27 = some [.int .u64, .int .u64, .int .u64] := by kernel_rfl
section
variable {H : Type} {enc : TypeId × Value → H}
set_option maxRecDepth 100000 in
theorem arg_three {W : World} {base N : Nat} {v : Value} {d : DataW H} {p : List MemPlace} (hok : Value.okWide Tryz.prog W .any base 27 v) (h : DataW.Trod enc Tryz.prog W 0 (fun _ => true) true 27 v d p) (hN : YtlbjacoigdpgfaaGreat.Rows.uptoBulk d ≤ N) :
    ∃ n0 n1 n2 : Nat, (n0 < 18446744073709551616 ∧ n1 < 18446744073709551616 ∧ n2 < 18446744073709551616) ∧ RepA (allD W) W v (.agg [u64 n0, u64 n1, u64 n2]) := by
  obtain ⟨pvs, hl, hf, hr⟩ := arg_agg (N := N) (f := 8) (bulkOk H) shThree (by rw [Tryz.underlying27]) hok h hN
  match pvs, hl with
  | [a, b, c], _ =>
    obtain ⟨x0, h0, e0⟩ := fit_u64 (hf 0 (by simp))
    obtain ⟨x1, h1, e1⟩ := fit_u64 (hf 1 (by simp))
    obtain ⟨x2, h2, e2⟩ := fit_u64 (hf 2 (by simp))
    simp at e0 e1 e2
    subst e0; subst e1; subst e2
    exact ⟨x0, x1, x2, ⟨h0, h1, h2⟩, hr⟩
end
end Go.Sk
end

-- L16c
section
namespace Go.Sk
open Go Go.Proofs Go.ChangeShapes Go.WideShapes Go.ChangeAt Go.RowKit

namespace ecmBound
set_option maxRecDepth 100000 in
theorem contract (H : Type) (enc : TypeId × Value → H) (W : World) (base : Nat) (args : Array Value) (ds gs : List (DataW H)) (before : List MemPlace)
    (hval : ∀ (j : Nat) t v, Tryz.f4.params[j]? = some t → args[j]? = some v → Value.okWide Tryz.prog W .any base t v)
    (hW : DataW.Whole enc Tryz.prog Tryz.f4.params.toList YtlbjacoigdpgfaaGreat.Rows.ecmBoundSpec.vars false W args.toList ds gs before) (hk : YtlbjacoigdpgfaaGreat.Rows.uptoSmall H (ds ++ gs) = true) :
    Calls Tryz.prog 4 args W fun e W' => ∃ v, e = .returned v ∧ YtlbjacoigdpgfaaGreat.Rows.ecmBoundSpec.post enc Tryz.prog Tryz.f4 false true false false W args v W' := by
  have hW' := hW
  obtain ⟨p, q, hA0, hV, rfl, hfz, hnd⟩ := hW
  have hA : DataW.TrodAll enc Tryz.prog W 0 (fun _ => true) true Tryz.f4.params.toList args.toList ds p := hA0
  rw [Tryz.params4] at hA hval
  obtain ⟨v0, vs0, d0, ds0, p0, q0, hargs, rfl, rfl, h0, r0⟩ := trodAll_cons hA
  obtain ⟨v1, vs1, d1, ds1, p1, q1, rfl, rfl, rfl, h1, r1⟩ := trodAll_cons r0
  obtain ⟨v2, vs2, d2, ds2, p2, q2, rfl, rfl, rfl, h2, r2⟩ := trodAll_cons r1
  obtain ⟨rfl, rfl, rfl⟩ := trodAll_nil r2
  obtain ⟨rfl, rfl⟩ := trodVars_none hV
  obtain rfl : args = #[v0, v1, v2] := by cases args; simp_all
  have hb : YtlbjacoigdpgfaaGreat.Rows.uptoBulkAll ([d0, d1, d2] ++ []) ≤ 1048576 := of_decide_eq_true hk
  obtain ⟨b0, hb⟩ := small_cons hb
  obtain ⟨b1, hb⟩ := small_cons hb
  obtain ⟨b2, hb⟩ := small_cons hb
  obtain ⟨c, hc, rep0⟩ := arg_confE (hval 0 25 v0 rfl rfl) h0 b0
  obtain ⟨l, hl, ll, rep1⟩ := arg_deeds (hval 1 26 v1 rfl rfl) h1 b1
  obtain ⟨n0, n1, n2, hn, rep2⟩ := arg_three (hval 2 27 v2 rfl rfl) h2 b2
  refine ((law_EcmBound c l n0 n1 n2 hc.n hc.k hc.w hl ll) (allD W) W #[v0, v1, v2] (rel_all W) ⟨rfl, fun i hi => ?_⟩).mono ?_
  · match i, hi with
    | 0, _ => exact rep0
    | 1, _ => exact rep1
    | 2, _ => exact rep2
  · rintro e W' ⟨v, rfl, x, S', D', rfl, _, hrep, hE⟩
    cases hrep with
    | p hrep =>
    cases hrep
    exact ⟨_, rfl, bridge kids full hW' rfl (by rw [Tryz.params4]; decide) rfl Tryz.underlying4 rfl rfl rfl hE.still⟩

set_option maxRecDepth 100000 in
theorem lifted (os : Os) (started : os.Started) (H : Type) (enc : TypeId × Value → H) (F : Stop.Interp) :
    ReturnsInHanded {} Tryz.checked os 4 .any ((YtlbjacoigdpgfaaGreat.Rows.OpenSpec.upto YtlbjacoigdpgfaaGreat.Rows.ecmBoundSpec).pre6 enc Tryz.prog Tryz.f4 YtlbjacoigdpgfaaGreat.Rows.ecmBoundUptoRow.domain false) (((YtlbjacoigdpgfaaGreat.Rows.OpenSpec.upto YtlbjacoigdpgfaaGreat.Rows.ecmBoundSpec).at F).post enc Tryz.prog Tryz.f4 false true false false) := by
  refine returnsInHanded_of_cond (C := Tryz.checked) (s := YtlbjacoigdpgfaaGreat.Rows.OpenSpec.upto YtlbjacoigdpgfaaGreat.Rows.ecmBoundSpec) (k := YtlbjacoigdpgfaaGreat.Rows.uptoSmall) rfl own started (by kernel_rfl) Tryz.func4
    (OpenSpec.witness (enc := enc) (C := Tryz.checked) (s := YtlbjacoigdpgfaaGreat.Rows.OpenSpec.upto YtlbjacoigdpgfaaGreat.Rows.ecmBoundSpec) (k := YtlbjacoigdpgfaaGreat.Rows.uptoSmall) rfl false ⟨#[], #[.agg #[.int .i64 0, .int .i64 0, .int .u64 0, .int .u64 0, .int .i64 0, .int .i64 0, .slice none 0 0, .int .i64 0, .int .i64 0], .slice none 0 0, .agg #[.int .u64 0, .int .u64 0, .int .u64 0]], []⟩ 12 (by kernel_rfl) (by kernel_rfl) (by kernel_rfl)
      (x := ([.agg [.lit (.int .i64 0), .lit (.int .i64 0), .lit (.int .u64 0), .lit (.int .u64 0), .lit (.int .i64 0), .lit (.int .i64 0), .nil, .lit (.int .i64 0), .lit (.int .i64 0)], .nil, .agg [.lit (.int .u64 0), .lit (.int .u64 0), .lit (.int .u64 0)]], [], [])) (by kernel_rfl) rfl (by kernel_rfl)) ?_
  intro W base args ds gs before hval hW _ hk _
  exact contract H enc W base args ds gs before hval hW hk

theorem j1 : (YtlbjacoigdpgfaaGreat.Rows.ecmBoundUptoRow.inPlace == Tryz.prog.inPlace 4) = true := by kernel_rfl
theorem j2 : (YtlbjacoigdpgfaaGreat.Rows.ecmBoundUptoRow.unfollowed == Tryz.prog.unfollowed 4) = true := by kernel_rfl
theorem j3 : (YtlbjacoigdpgfaaGreat.Rows.ecmBoundUptoRow.recurses == Tryz.prog.recurses 4) = true := by kernel_rfl
theorem j4 : (YtlbjacoigdpgfaaGreat.Rows.ecmBoundUptoRow.named == Tryz.prog.varsNamed 4) = true := by kernel_rfl
theorem j5 : (YtlbjacoigdpgfaaGreat.Rows.ecmBoundUptoRow.plainKeys == Tryz.prog.plainKeys) = true := by kernel_rfl
theorem j6 : (YtlbjacoigdpgfaaGreat.Rows.ecmBoundUptoRow.lifted == Tryz.prog.liftsFinal) = true := by kernel_rfl
theorem j7 : (Tryz.prog.make == some YtlbjacoigdpgfaaGreat.Rows.ecmBoundUptoRow.make) = true := by kernel_rfl
set_option maxRecDepth 100000 in
theorem jf : joinedFacts Tryz.prog 4 Tryz.f4 (YtlbjacoigdpgfaaGreat.Rows.OpenSpec.upto YtlbjacoigdpgfaaGreat.Rows.ecmBoundSpec).bare YtlbjacoigdpgfaaGreat.Rows.ecmBoundUptoRow = true := by
  unfold joinedFacts
  exact and_ok (and_ok (and_ok (and_ok (and_ok (and_ok (and_ok (and_ok (and_ok (and_ok (and_ok (and_ok (and_ok (and_ok (and_ok (and_ok (and_ok (and_ok (and_ok (and_ok (and_ok (and_ok (and_ok (and_ok (and_ok (and_ok (and_ok (and_ok (and_ok (and_ok (and_ok (by kernel_rfl) j_laid) j_maps) (by kernel_rfl)) (by kernel_rfl)) (by kernel_rfl)) (by kernel_rfl)) (by kernel_rfl)) (by kernel_rfl)) j1) j2) j3) j4) (by kernel_rfl)) (by kernel_rfl)) (by kernel_rfl)) (by kernel_rfl)) (by kernel_rfl)) (by kernel_rfl)) (by kernel_rfl)) (by kernel_rfl)) (by kernel_rfl)) j5) (by kernel_rfl)) j_heard) j_enter) j6) j7) (by kernel_rfl)) (by kernel_rfl)) (by kernel_rfl)) (by kernel_rfl)
end ecmBound
theorem _root_.Go.Proofs.YtlbjacoigdpgfaaGreat.ecmBound_proved : YtlbjacoigdpgfaaGreat.Rows.EcmBoundUptoSaid :=
  OpenClaim.holds_of_cond 4 Tryz.f4 rfl rfl rfl rfl rfl rfl rfl ⟨rfl, rfl, rfl, rfl, rfl⟩ rfl rfl rfl rfl rfl (by kernel_rfl) Tryz.func4 ecmBound.jf
    (of_decide_eq_true (by kernel_rfl)) (by unfold Func.isWrapper; first | (rw [if_pos (by decide +kernel)]; kernel_rfl) | (rw [if_neg (by decide +kernel)]; exact ⟨rfl, rfl⟩))
    (fun os started H enc _ F => ecmBound.lifted os started H enc F)
#print axioms Go.Proofs.YtlbjacoigdpgfaaGreat.ecmBound_proved
end Go.Sk
end
