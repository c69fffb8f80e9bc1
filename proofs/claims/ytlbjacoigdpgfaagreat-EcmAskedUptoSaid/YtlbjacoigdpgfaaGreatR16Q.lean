/- Texts W16l W15u W16m LE LD LC L3 L16b, joined. -/
import Derived.Test.YtlbjacoigdpgfaaGreatR16G
import Derived.Test.YtlbjacoigdpgfaaGreatSkBr
import Derived.Test.YtlbjacoigdpgfaaGreatR16D
import Derived.Test.YtlbjacoigdpgfaaGreatLB
import Derived.Test.YtlbjacoigdpgfaaGreatR16E
import Derived.Test.YtlbjacoigdpgfaaGreatR16F
set_option linter.unusedSimpArgs false
set_option linter.unusedVariables false
set_option linter.unusedSectionVars false
-- W16l
section
namespace Go.Sk
open Go Go.Proofs

theorem oneE_small {s : Ecm} (hg : s.Good) (e : Event) : (oneE s e).1.Small ∧ (oneE s e).1.past.Sz := by
  by_cases h : (oneE s e).2 = 0
  · exact ⟨(oneE_ok hg e h).1.small, (oneE_ok hg e h).1.pg.sz⟩
  · have : (oneE s e).1 = zeroE := by
      unfold oneE at *
      split at h
      · rename_i c
        rw [if_pos c]
        unfold moveE at *
        split at h
        · exact absurd rfl h
        · rename_i c2; rw [if_neg c2]
      · rename_i c
        rw [if_neg c]
        unfold addE at *
        split at h
        · rename_i c0
          rw [if_pos c0]
          split at h
          · rename_i c2
            rw [if_pos c2]
            split at h
            · exact absurd rfl h
            · rename_i c3; rw [if_neg c3]
          · rename_i c2; rw [if_neg c2]
        · rename_i c0; rw [if_neg c0]
    rw [this]; exact ⟨zeroE_small, ⟨by decide, fun r hr => by cases hr⟩⟩
theorem tame_conf16 (c : ConfE) : confE (tameE' c) = 0 := by
  have hl := tameS_len c.two
  have hm := tameS_may c.two
  unfold confE
  rw [if_neg (by unfold tameE'; dsimp only; omega)]
  show confV (tameK c.two) (tameW c.two) (tameS c.two) = 0
  unfold confV
  rw [if_neg (by unfold tameK tameW; omega), if_pos (List.all_eq_true.2 hm)]

set_option maxHeartbeats 2000000 in
set_option maxRecDepth 8000 in
theorem law_EcmPlays (c : ConfE) (l : List Event) (hn : c.sd.length ≤ 1048576) (hk : c.k < 9223372036854775808) (hw : c.w < 9223372036854775808)
    (hl : ∀ e ∈ l, e.Ok) (ll : l.length ≤ 1048576) :
    CallsR Tryz.prog 5 [c.av, .p (evsP l)] noS (fun x _ => x = bl true) := by
  have hT := ref16_Tame c (by omega) hk hw
  have hsl := (tameS_len c.two).2
  have hN := ref16_New (tameE' c) (by show (tameS c.two).length < _; omega) (by show tameW c.two < _; unfold tameW; omega) (by show 0 ≤ tameW c.two; unfold tameW; omega)
  have hC := ecm_New (tameE' c) (by show (tameS c.two).length < _; omega)
  rw [tame_conf16 c, if_pos rfl] at hC
  have hnew := (tame_good c).1
  generalize (tameE' c).new = s0 at hN hnew hC
  generalize tameE' c = c' at hT hN hC
  have hs0 := same16 s0 s0 hnew.small hnew.pg.sz
  rw [decide_eq_true (rfl : s0 = s0)] at hs0
  generalize noS = S
  refine callsR_of Tryz.func5 rfl (xc_ok (bitB 366430440523708345738705764343) _ _ _ ?_)
  simp only [go_sem]
  refine alloc_intro fun c2 h2 => ?_
  simp only [go_sem]
  refine awake16.useA ?_
  simp only [go_sem]
  refine hT.useA ?_
  simp only [go_sem]
  refine alloc_intro fun c6 h6 => ?_
  simp only [fresh_set] at h6
  simp only [go_sem, h6]
  refine hN.useA ?_
  simp only [go_sem, h6]
  refine alloc_intro fun c7 h7 => ?_
  simp only [fresh_set] at h7
  simp only [go_sem, h6, h7]
  refine hC.useA ?_
  simp only [go_sem, h6, h7]
  refine alloc_intro fun c8 h8 => ?_
  simp only [fresh_set] at h8
  simp only [go_sem, h6, h7, h8, bne_self_eq_false]
  refine hs0.useA ?_
  simp only [go_sem, h6, h7, h8]
  have y2 : S (.r c2) = none := h2
  have y6 : S (.r c6) = none := h6.2
  have y7 : S (.r c7) = none := h7.2.2
  have y8 : S (.r c8) = none := h8.2.2.2
  have n89 : ¬ c7 = c8 ∧ ¬ c8 = c7 := ⟨h8.1.2, h8.1.1⟩
  clear hN hC hT hs0
  refine AWP.roam (ι := Nat × Ecm) (fun y => y.1 ≤ l.length ∧ y.1 ≤ 15 ∧ y.2.Good)
    (fun y => ⟨Env.get [(1, .p (evsP l)), (5, bl true), (7, .sp c7 0), (8, .sp c8 0), (10, i64 y.1)],
      (S.set (.r c7) (.cells (y.2.pv.map .p))).set (.r c8) (.cells (y.2.pv.map .p)), 106, []⟩)
    (fun y => l.length - y.1) (0, s0) ⟨Nat.zero_le _, Nat.zero_le _, hnew⟩ ?_ ?_
  · refine le_of (by simp only [go_sem, evsP] <;> rfl) ?_ rfl rfl (by simp)
    simp only [Ecm.pv, List.map_cons, List.map_nil]
    ((try dsimp only); (repeat refine sub_set ?_ ?_) <;> first | ((repeat (first | exact Sub.refl _ | refine Sub.setF ?_ (by first | assumption | simp only [*]) | refine Sub.setV ?_ (by first | assumption | simp only [*]))); done) | (simp only [go_sem, h6, h7, h8, y2, y6]; done) | (simp only [go_sem, h6, h7, h8, y2, y6]; rfl) | rfl)
    done
  clear h2 h6 h7 h8
  rintro ⟨i, s⟩ ⟨hi, hi2, hg⟩ ih
  dsimp only at hi hi2 hg ⊢
  refine AWPH.step (xc_ok (bitB 366430440523708345738705764343) _ _ _ ?_)
  have hsame := same16 s s hg.small hg.pg.sz
  rw [decide_eq_true (rfl : s = s)] at hsame
  by_cases c1 : i < l.length
  rotate_left
  · simp only [go_sem, c1, evsP, List.length_map]
    simp only [go_sem, n89]
    refine hsame.useA ?_
    simp only [go_sem, n89]
    exact ⟨_, Sub.refl _⟩
  by_cases c2' : (i : Int) < 15
  rotate_left
  · simp only [go_sem, c1, c2', evsP, List.length_map]
    simp only [go_sem, n89]
    refine hsame.useA ?_
    simp only [go_sem, n89]
    exact ⟨_, Sub.refl _⟩
  have hok : (l[i]).Ok := hl _ (List.getElem_mem c1)
  have hq : wi ((i : Int) + 1) = ((i + 1 : Nat) : Int) := wi_succ (show i < 4611686018427387904 by omega)
  simp only [go_sem, c1, c2', evsP, ltN' c1, getD_map' _ _ _ _ c1, List.length_map]
  refine alloc_intro fun c12 h12 => ?_
  simp only [fresh_set] at h12
  simp only [go_sem, h12, n89]
  have hA := ecm_Add s hg (l[i]) hok
  have hM := ecm_Move s hg (l[i]).t
  have hO := ref16_One s hg (l[i]) hok
  have hgd := oneE_ok hg (l[i])
  have hsm := oneE_small hg (l[i])
  have hun : oneE s (l[i]) = if (l[i]).w = 0 then moveE s (l[i]).t else addE s (l[i]) := rfl
  refine hO.useA ?_
  simp only [go_sem, h12, n89]
  refine alloc_intro fun c13 h13 => ?_
  simp only [fresh_set] at h13
  simp only [go_sem, h12, h13, n89]
  have hse := same16 (oneE s (l[i])).1 (oneE s (l[i])).1 hsm.1 hsm.2
  rw [decide_eq_true rfl] at hse
  by_cases ew : (l[i]).w = 0
  · rw [if_pos ew] at hun
    rw [← hun] at hM
    have ewb : ((l[i]).w == 0) = true := by simpa using ew
    generalize oneE s (l[i]) = X at *
    simp only [go_sem, ewb, h12, h13, n89]
    refine hM.useA ?_
    simp only [go_sem, h12, h13, n89]
    refine alloc_intro fun c15 h15 => ?_
    simp only [fresh_set] at h15
    simp only [go_sem, h12, h13, h15, n89, bne_self_eq_false]
    refine hse.useA ?_
    simp only [go_sem, h12, h13, h15, n89]
    by_cases ex : X.2 = 0
    · have exb : (X.2 == 0) = true := by simpa using ex
      simp only [go_sem, exb, h12, h13, h15, n89]
      refine (ih (i + 1, X.1) ⟨c1, by dsimp only; omega, (hgd ex).1⟩ (by dsimp only; omega)).back ?_ (by simp) ?_
      · ((try dsimp only); (repeat refine sub_set ?_ ?_) <;> first | ((repeat (first | exact Sub.refl _ | refine Sub.setF ?_ (by first | assumption | simp only [*]) | refine Sub.setV ?_ (by first | assumption | simp only [*]))); done) | (simp only [go_sem, h12, h13, h15, n89]; done) | (simp only [go_sem, h12, h13, h15, n89]; rfl) | rfl)
      · simp only [go_sem, hq, evsP]
    · have exb : (X.2 == 0) = false := by simpa using ex
      simp only [go_sem, exb, h12, h13, h15, n89]
      refine (ih (i + 1, s) ⟨c1, by dsimp only; omega, hg⟩ (by dsimp only; omega)).back ?_ (by simp) ?_
      · ((try dsimp only); (repeat refine sub_set ?_ ?_) <;> first | ((repeat (first | exact Sub.refl _ | refine Sub.setF ?_ (by first | assumption | simp only [*]) | refine Sub.setV ?_ (by first | assumption | simp only [*]))); done) | (simp only [go_sem, h12, h13, h15, n89]; done) | (simp only [go_sem, h12, h13, h15, n89]; rfl) | rfl)
      · simp only [go_sem, hq, evsP]
  · rw [if_neg ew] at hun
    rw [← hun] at hA
    have ewb : ((l[i]).w == 0) = false := by simpa using ew
    generalize oneE s (l[i]) = X at *
    simp only [go_sem, ewb, h12, h13, n89]
    refine hA.useA ?_
    simp only [go_sem, h12, h13, n89]
    refine alloc_intro fun c15 h15 => ?_
    simp only [fresh_set] at h15
    simp only [go_sem, h12, h13, h15, n89, bne_self_eq_false]
    refine hse.useA ?_
    simp only [go_sem, h12, h13, h15, n89]
    by_cases ex : X.2 = 0
    · have exb : (X.2 == 0) = true := by simpa using ex
      simp only [go_sem, exb, h12, h13, h15, n89]
      refine (ih (i + 1, X.1) ⟨c1, by dsimp only; omega, (hgd ex).1⟩ (by dsimp only; omega)).back ?_ (by simp) ?_
      · ((try dsimp only); (repeat refine sub_set ?_ ?_) <;> first | ((repeat (first | exact Sub.refl _ | refine Sub.setF ?_ (by first | assumption | simp only [*]) | refine Sub.setV ?_ (by first | assumption | simp only [*]))); done) | (simp only [go_sem, h12, h13, h15, n89]; done) | (simp only [go_sem, h12, h13, h15, n89]; rfl) | rfl)
      · simp only [go_sem, hq, evsP]
    · have exb : (X.2 == 0) = false := by simpa using ex
      simp only [go_sem, exb, h12, h13, h15, n89]
      refine (ih (i + 1, s) ⟨c1, by dsimp only; omega, hg⟩ (by dsimp only; omega)).back ?_ (by simp) ?_
      · ((try dsimp only); (repeat refine sub_set ?_ ?_) <;> first | ((repeat (first | exact Sub.refl _ | refine Sub.setF ?_ (by first | assumption | simp only [*]) | refine Sub.setV ?_ (by first | assumption | simp only [*]))); done) | (simp only [go_sem, h12, h13, h15, n89]; done) | (simp only [go_sem, h12, h13, h15, n89]; rfl) | rfl)
      · simp only [go_sem, hq, evsP]
end Go.Sk
end

-- W15u
section
namespace Go.Sk
open Go Go.Proofs

theorem zeroG_small : zeroG.Small := ⟨by decide, ⟨by decide, fun r hr => by cases hr⟩, ⟨by decide, fun l hl => by cases hl⟩⟩
theorem zeroG_sz : zeroG.Sz := ⟨by decide, fun r hr => by cases hr⟩
theorem addG_small {g : Grid} (hg : g.Good) (e : Event) : (addG g e).1.Small ∧ (addG g e).1.Sz := by
  by_cases h : (addG g e).2 = 0
  · exact ⟨(addG_good hg e h).small, (addG_good hg e h).sz⟩
  · have : (addG g e).1 = zeroG := by
      unfold addG at h ⊢
      split
      · rename_i c; rw [if_pos c] at h
        split
        · rename_i c2; rw [if_pos c2] at h; exact absurd rfl h
        · rfl
      · rfl
    rw [this]; exact ⟨zeroG_small, zeroG_sz⟩
theorem conf_good {k w : Int} {sd : List Seed} (h : confV k w sd = 0) : (newV k w sd).Good := by
  unfold confV at h
  split at h
  · simp at h
  · rename_i c
    split at h
    · rename_i c2
      exact newV_good (by omega) (by omega) (by omega) (by omega) (by omega) (fun s hs => List.all_eq_true.1 c2 s hs)
    · simp at h

end Go.Sk
end

-- W16m
section
namespace Go.Sk
open Go Go.Proofs

theorem madeE_good (c : ConfE) (l : List Event) : (madeE c l).1.Good ∧ (madeE c l).1.Led (madeE c l).2 ∧ (madeE c l).1.past.all.k = tameK c.two ∧ (madeE c l).2.length ≤ 15 ∧ (∀ e ∈ (madeE c l).2, e.w ≤ 4503599627370496) ∧ ∀ e ∈ (madeE c l).2, e ∈ l := by
  obtain ⟨h1, h2⟩ := tame_good c
  obtain ⟨a, b, c', d, e, f⟩ := madeEo_ok (l.take 15) _ [] h1 h2
  refine ⟨a, b, c'.trans rfl, Nat.le_trans d ?_, e (fun e h => by cases h), fun x hx => ?_⟩
  · simp; omega
  · rcases f x hx with h | h
    · cases h
    · exact List.mem_of_mem_take h
theorem conf_good16 {c : ConfE} (h : confE c = 0) : c.new.Good := by
  unfold confE at h
  split at h
  · simp at h
  · rename_i hc
    have hV := conf_good h
    unfold confV at h
    split at h
    · simp at h
    · exact (newE_good hV (by omega) (by omega) (by omega) (by omega) (by omega) (by omega) (by omega) (by omega)).1

set_option maxHeartbeats 2000000 in
set_option maxRecDepth 8000 in
theorem law_EcmAsked (c : ConfE) (l : List Event) (n0 n1 n2 : Nat) (hn : c.sd.length ≤ 1048576) (hk : c.k < 9223372036854775808) (hw : c.w < 9223372036854775808)
    (hl : ∀ e ∈ l, e.Ok) (ll : l.length ≤ 1048576) (b0 : n0 < 18446744073709551616) :
    CallsR Tryz.prog 3 [c.av, .p (evsP l), .agg [u64 n0, u64 n1, u64 n2]] noS (fun x _ => x = bl true) := by
  have hF := ref16_Conf c (by omega)
  have hM := ref16_Made c l (by omega) hk hw (by omega) hl
  obtain ⟨hg, -, -, -, -, -⟩ := madeE_good c l
  generalize noS = S
  refine callsR_of Tryz.func3 rfl (xc_ok (bitB 4563394543) _ _ _ ?_)
  simp only [go_sem]
  refine alloc_intro fun c3 h3 => ?_
  simp only [go_sem]
  refine alloc_intro fun c5 h5 => ?_
  simp only [fresh_set] at h5
  simp only [go_sem, h5]
  refine awake16.useA ?_
  have y3 : S (.r c3) = none := h3
  have y5 : S (.r c5) = none := h5.2
  simp only [go_sem, h5]
  by_cases h20 : (c.sd.length : Int) > 20
  · simp only [go_sem, h5, h20, List.length_map]
    exact ⟨S, by repeat' first | exact Sub.refl _ | refine Sub.set ?_ (by assumption) _⟩
  simp only [go_sem, h5, h20, List.length_map]
  have hC := ecm_New c (by clear h5; omega)
  refine hC.useA ?_
  have hwin := hg.at' _ _ (Or.inl ⟨rfl, rfl⟩)
  have hfr : (madeE c l).1.b.front ≤ 9223372036854775807 := Nat.le_trans hwin.fm hwin.mkk
  have hw1 : 1 ≤ (madeE c l).1.win := hwin.w1
  have hw2 : (madeE c l).1.win ≤ 4611686018427387904 := hwin.w2
  clear hwin
  generalize madeE c l = X at *
  obtain ⟨s, all⟩ := X
  dsimp only at hM hg hfr hw1 hw2
  have q2 : m64 (s.b.front + n1 % 60) = s.b.front + n1 % 60 := m64_id (by clear h5; omega)
  have q3 : m64 (1 + n2 % s.win) = 1 + n2 % s.win := m64_id (by have := Nat.mod_lt n2 (show 0 < s.win by clear h5; omega); clear h5; omega)
  have hQ1 := ecm_Point s hg n0 n1 n2 b0
  have hR1 := ref16_Point s hg n0 n1 n2 b0
  have hQ2 := ecm_Point s hg n0 (s.b.front + n1 % 60) (1 + n2 % s.win) b0
  have hR2 := ref16_Point s hg n0 (s.b.front + n1 % 60) (1 + n2 % s.win) b0
  have hQ3 := ecm_All s hg (s.b.front + n1 % 60) n2
  have hR3 := ref16_All s hg (s.b.front + n1 % 60) n2
  have hMd := made16 s hg.pg.sz
  generalize pointE s n0 n1 n2 = A1 at *
  generalize pointE s n0 (s.b.front + n1 % 60) (1 + n2 % s.win) = A2 at *
  generalize allE s (s.b.front + n1 % 60) n2 = A3 at *
  by_cases hc : confE c = 0
  · rw [if_pos hc, hc]
    rw [hc] at hF
    have hgc := conf_good16 hc
    have hN := ref16_New c (by clear h5; omega) (by have := hgc.pg.w2; have e : c.new.past.w = c.w := rfl; clear h5; omega) (by have := hgc.pg.w1; have e : c.new.past.w = c.w := rfl; clear h5; omega)
    have hS := same16 c.new c.new hgc.small hgc.pg.sz
    rw [decide_eq_true (rfl : c.new = c.new)] at hS
    generalize c.new = s0 at *
    simp only [go_sem, h5]
    refine alloc_intro fun c8 h8 => ?_
    simp only [fresh_set] at h8
    have y8 : S (.r c8) = none := h8.2.2
    simp only [go_sem, h5, h8]
    refine hF.useA ?_
    simp only [go_sem, h5, h8]
    refine AWP.draw2 (bitB 4563394543) mixed (by kernel_rfl) (fun j => if j = 9 then s0.av else bl true) ?_
    simp only [go_sem, h5, h8, bne_self_eq_false]
    repeat first | refine ⟨by decide, ?_⟩ | refine ⟨hN.draw, ?_⟩ | refine ⟨hS.draw, ?_⟩
    refine hM.useA ?_
    simp only [go_sem, h5, h8]
    refine alloc_intro fun c12 h12 => ?_
    simp only [fresh_set] at h12
    have y12 : S (.r c12) = none := h12.2.2.2
    simp only [go_sem, h5, h8, h12]
    refine AWP.draw2 (bitB 4563394543) mixed (by kernel_rfl) (fun j => if j = 1 then s.av else .tuple [u64 A1.1, i64 A1.2]) ?_
    simp only [go_sem, h5, h8, h12]
    repeat first | refine ⟨by decide, ?_⟩ | refine ⟨hMd.draw, ?_⟩ | refine ⟨hQ1.draw, ?_⟩ | refine ⟨hQ2.draw, ?_⟩ | refine ⟨hQ3.draw, ?_⟩ | refine ⟨by omega, ?_⟩
    refine hR1.useA ?_
    simp only [go_sem, h5, h8, h12, q2, q3]
    repeat first | refine ⟨by decide, ?_⟩ | refine ⟨hMd.draw, ?_⟩ | refine ⟨hQ1.draw, ?_⟩ | refine ⟨hQ2.draw, ?_⟩ | refine ⟨hQ3.draw, ?_⟩ | refine ⟨by omega, ?_⟩
    refine AWP.draw2 (bitB 4563394543) mixed (by kernel_rfl) (fun j => if j = 1 then s.av else .tuple [u64 A2.1, i64 A2.2]) ?_
    simp only [go_sem, h5, h8, h12, q2, q3]
    repeat first | refine ⟨by decide, ?_⟩ | refine ⟨hMd.draw, ?_⟩ | refine ⟨hQ1.draw, ?_⟩ | refine ⟨hQ2.draw, ?_⟩ | refine ⟨hQ3.draw, ?_⟩ | refine ⟨by omega, ?_⟩
    refine hR2.useA ?_
    simp only [go_sem, h5, h8, h12, q2, q3]
    refine AWP.draw2 (bitB 4563394543) mixed (by kernel_rfl) (fun j => if j = 1 then s.av else .tuple [u64 A3.1, i64 A3.2]) ?_
    simp only [go_sem, h5, h8, h12, q2, q3]
    repeat first | refine ⟨by decide, ?_⟩ | refine ⟨hMd.draw, ?_⟩ | refine ⟨hQ1.draw, ?_⟩ | refine ⟨hQ2.draw, ?_⟩ | refine ⟨hQ3.draw, ?_⟩ | refine ⟨by omega, ?_⟩
    refine hR3.useA ?_
    simp only [go_sem, h5, h8, h12, q2, q3, beq_self_eq_true]
    exact ⟨S, by repeat' first | exact Sub.refl _ | refine Sub.set ?_ (by assumption) _⟩
  · rw [if_neg hc]
    have g1 : (confE c != 0) = true := by simpa using hc
    generalize confE c = code at *
    simp only [go_sem, h5]
    refine alloc_intro fun c8 h8 => ?_
    simp only [fresh_set] at h8
    have y8 : S (.r c8) = none := h8.2.2
    simp only [go_sem, h5, h8]
    refine hF.useA ?_
    simp only [go_sem, h5, h8]
    refine AWP.draw2 (bitB 4563394543) mixed (by kernel_rfl) (fun j => bl true) ?_
    simp only [go_sem, h5, h8, g1, beq_self_eq_true]
    refine hM.useA ?_
    simp only [go_sem, h5, h8]
    refine alloc_intro fun c12 h12 => ?_
    simp only [fresh_set] at h12
    have y12 : S (.r c12) = none := h12.2.2.2
    simp only [go_sem, h5, h8, h12]
    refine AWP.draw2 (bitB 4563394543) mixed (by kernel_rfl) (fun j => if j = 1 then s.av else .tuple [u64 A1.1, i64 A1.2]) ?_
    simp only [go_sem, h5, h8, h12]
    repeat first | refine ⟨by decide, ?_⟩ | refine ⟨hMd.draw, ?_⟩ | refine ⟨hQ1.draw, ?_⟩ | refine ⟨hQ2.draw, ?_⟩ | refine ⟨hQ3.draw, ?_⟩ | refine ⟨by omega, ?_⟩
    refine hR1.useA ?_
    simp only [go_sem, h5, h8, h12, q2, q3]
    repeat first | refine ⟨by decide, ?_⟩ | refine ⟨hMd.draw, ?_⟩ | refine ⟨hQ1.draw, ?_⟩ | refine ⟨hQ2.draw, ?_⟩ | refine ⟨hQ3.draw, ?_⟩ | refine ⟨by omega, ?_⟩
    refine AWP.draw2 (bitB 4563394543) mixed (by kernel_rfl) (fun j => if j = 1 then s.av else .tuple [u64 A2.1, i64 A2.2]) ?_
    simp only [go_sem, h5, h8, h12, q2, q3]
    repeat first | refine ⟨by decide, ?_⟩ | refine ⟨hMd.draw, ?_⟩ | refine ⟨hQ1.draw, ?_⟩ | refine ⟨hQ2.draw, ?_⟩ | refine ⟨hQ3.draw, ?_⟩ | refine ⟨by omega, ?_⟩
    refine hR2.useA ?_
    simp only [go_sem, h5, h8, h12, q2, q3]
    refine AWP.draw2 (bitB 4563394543) mixed (by kernel_rfl) (fun j => if j = 1 then s.av else .tuple [u64 A3.1, i64 A3.2]) ?_
    simp only [go_sem, h5, h8, h12, q2, q3]
    repeat first | refine ⟨by decide, ?_⟩ | refine ⟨hMd.draw, ?_⟩ | refine ⟨hQ1.draw, ?_⟩ | refine ⟨hQ2.draw, ?_⟩ | refine ⟨hQ3.draw, ?_⟩ | refine ⟨by omega, ?_⟩
    refine hR3.useA ?_
    simp only [go_sem, h5, h8, h12, q2, q3, beq_self_eq_true]
    exact ⟨S, by repeat' first | exact Sub.refl _ | refine Sub.set ?_ (by assumption) _⟩
end Go.Sk
end

-- LE
section
namespace Go.Sk
open Go Go.Proofs Go.ChangeShapes Go.WideShapes Go.ChangeAt Go.RowKit

theorem fit_events {N : Nat} {pv : PV} (h : Fit N (.sl [.int .u64, .int .u64, .int .u64]) pv) : ∃ l : List Event, pv = evsP l ∧ (∀ e ∈ l, e.Ok) ∧ l.length ≤ N := by
  refine fit_list (pvf := Event.pv) (ok := Event.Ok) h (fun l hl hf => ?_)
  obtain ⟨a, b, c, rfl, ha, hb, hc⟩ := fit_three hl hf
  obtain ⟨x, hx, rfl⟩ := fit_u64 ha
  obtain ⟨y, hy, rfl⟩ := fit_u64 hb
  obtain ⟨z, hz, rfl⟩ := fit_u64 hc
  exact ⟨⟨x, y, z⟩, rfl, hx, hy, hz⟩
theorem shEvents : shOf Tryz.prog 8 29 = some [.sl [.int .u64, .int .u64, .int .u64]] := by kernel_rfl
section
variable {H : Type} {enc : TypeId × Value → H}
set_option maxRecDepth 100000 in
theorem arg_events {W : World} {base N : Nat} {v : Value} {d : DataW H} {p : List MemPlace} (hok : Value.okWide Tryz.prog W .any base 29 v) (h : DataW.Trod enc Tryz.prog W 0 (fun _ => true) true 29 v d p) (hN : YtlbjacoigdpgfaaGreat.Rows.uptoBulk d ≤ N) :
    ∃ l : List Event, (∀ e ∈ l, e.Ok) ∧ l.length ≤ N ∧ RepA (allD W) W v (.p (evsP l)) := by
  obtain ⟨a, n, c, rfl⟩ := okWide_slice Tryz.underlying29 hok
  obtain ⟨pv, hf, hr⟩ := arg_one (N := N) (f := 8) (bulkOk H) shEvents (fun c h => by cases h) h hN
  obtain ⟨l, rfl, h1, h2⟩ := fit_events hf
  exact ⟨l, h1, h2, hr⟩
end
end Go.Sk
end

-- LD
section
namespace Go.Sk
open Go Go.Proofs Go.ChangeShapes Go.WideShapes Go.ChangeAt Go.RowKit

theorem shDeeds : shOf Tryz.prog 8 26 = some [.sl [.int .u64, .int .u64, .int .u64]] := by kernel_rfl
section
variable {H : Type} {enc : TypeId × Value → H}
set_option maxRecDepth 100000 in
theorem arg_deeds {W : World} {base N : Nat} {v : Value} {d : DataW H} {p : List MemPlace} (hok : Value.okWide Tryz.prog W .any base 26 v) (h : DataW.Trod enc Tryz.prog W 0 (fun _ => true) true 26 v d p) (hN : YtlbjacoigdpgfaaGreat.Rows.uptoBulk d ≤ N) :
    ∃ l : List Event, (∀ e ∈ l, e.Ok) ∧ l.length ≤ N ∧ RepA (allD W) W v (.p (evsP l)) := by
  obtain ⟨a, n, c, rfl⟩ := okWide_slice Tryz.underlying26 hok
  obtain ⟨pv, hf, hr⟩ := arg_one (N := N) (f := 8) (bulkOk H) shDeeds (fun c h => by cases h) h hN
  obtain ⟨l, rfl, h1, h2⟩ := fit_events hf
  exact ⟨l, h1, h2, hr⟩
end
end Go.Sk
end

-- LC
section
namespace Go.Sk
open Go Go.Proofs Go.ChangeShapes Go.WideShapes Go.ChangeAt Go.RowKit

theorem fit_seedsE {N : Nat} {pv : PV} (h : Fit N (.sl [.int .u64, .int .u64]) pv) : ∃ l : List Seed, pv = .sl (l.map Seed.pv) ∧ (∀ e ∈ l, e.Ok) ∧ l.length ≤ N := by
  refine fit_list (pvf := Seed.pv) (ok := Seed.Ok) h (fun l hl hf => ?_)
  obtain ⟨a, b, rfl, ha, hb⟩ := fit_two hl hf
  obtain ⟨x, hx, rfl⟩ := fit_u64 ha
  obtain ⟨y, hy, rfl⟩ := fit_u64 hb
  exact ⟨⟨x, y⟩, rfl, hx, hy⟩
structure ConfE.Ok (c : ConfE) : Prop where
  k : c.k < 9223372036854775808
  w : c.w < 9223372036854775808
  win : c.win < 18446744073709551616
  late : c.late < 18446744073709551616
  room : c.room < 9223372036854775808
  so : ∀ s ∈ c.sd, s.Ok
  n : c.sd.length ≤ 1048576
theorem shConfE : shOf Tryz.prog 8 25 = some [.int .i64, .int .i64, .int .u64, .int .u64, .int .i64, .int .i64, .sl [.int .u64, .int .u64], .int .i64, .int .i64] := by kernel_rfl
section
variable {H : Type} {enc : TypeId × Value → H}
set_option maxRecDepth 100000 in
theorem arg_confE {W : World} {base : Nat} {v : Value} {d : DataW H} {p : List MemPlace} (hok : Value.okWide Tryz.prog W .any base 25 v) (h : DataW.Trod enc Tryz.prog W 0 (fun _ => true) true 25 v d p) (hN : YtlbjacoigdpgfaaGreat.Rows.uptoBulk d ≤ 1048576) :
    ∃ c : ConfE, c.Ok ∧ RepA (allD W) W v c.av := by
  obtain ⟨pvs, hl, hf, hr⟩ := arg_agg (N := 1048576) (f := 8) (bulkOk H) shConfE (by rw [Tryz.underlying25]) hok h hN
  match pvs, hl with
  | [a, b, c, d', e, f, g, i, j], _ =>
    obtain ⟨x0, _, e0⟩ := fit_i64 (hf 0 (by simp))
    obtain ⟨x1, ⟨_, h1⟩, e1⟩ := fit_i64 (hf 1 (by simp))
    obtain ⟨x2, h2, e2⟩ := fit_u64 (hf 2 (by simp))
    obtain ⟨x3, h3, e3⟩ := fit_u64 (hf 3 (by simp))
    obtain ⟨x4, ⟨_, h4⟩, e4⟩ := fit_i64 (hf 4 (by simp))
    obtain ⟨x5, ⟨_, h5⟩, e5⟩ := fit_i64 (hf 5 (by simp))
    obtain ⟨s, e6, hs, hsn⟩ := fit_seedsE (hf 6 (by simp))
    obtain ⟨x7, _, e7⟩ := fit_i64 (hf 7 (by simp))
    obtain ⟨x8, _, e8⟩ := fit_i64 (hf 8 (by simp))
    simp at e0 e1 e2 e3 e4 e5 e6 e7 e8
    subst e0; subst e1; subst e2; subst e3; subst e4; subst e5; subst e6; subst e7; subst e8
    exact ⟨⟨x0, x1, x2, x3, x4, x5, s, x7, x8⟩, ⟨h1, h5, h2, h3, h4, hs, hsn⟩, hr⟩
end
end Go.Sk
end

-- L3
section
namespace Go.Sk
open Go Go.Proofs Go.ChangeShapes Go.WideShapes Go.ChangeAt Go.RowKit

theorem shThree : shOf Tryz.prog 8 27 = some [.int .u64, .int .u64, .int .u64] := by kernel_rfl
section
variable {H : Type} {enc : TypeId × Value → H}
set_option maxRecDepth 100000 in
theorem arg_three {W : World} {base N : Nat} {v : Value} {d : DataW H} {p : List MemPlace} (hok : Value.okWide Tryz.prog W .any base 27 v) (h : DataW.Trod enc Tryz.prog W 0 (fun _ => true) true 27 v d p) (hN : YtlbjacoigdpgfaaGreat.Rows.uptoBulk d ≤ N) :
    ∃ n0 n1 n2 : Nat, (n0 < 18446744073709551616 ∧ n1 < 18446744073709551616 ∧ n2 < 18446744073709551616) ∧ RepA (allD W) W v (.agg [u64 n0, u64 n1, u64 n2]) := by
  obtain ⟨pvs, hl, hf, hr⟩ := arg_agg (N := N) (f := 8) (bulkOk H) shThree (by rw [Tryz.underlying27]) hok h hN
  match pvs, hl with
  | [a, b, c], _ =>
    obtain ⟨x0, h0, e0⟩ := fit_u64 (hf 0 (by simp))
    obtain ⟨x1, h1, e1⟩ := fit_u64 (hf 1 (by simp))
    obtain ⟨x2, h2, e2⟩ := fit_u64 (hf 2 (by simp))
    simp at e0 e1 e2
    subst e0; subst e1; subst e2
    exact ⟨x0, x1, x2, ⟨h0, h1, h2⟩, hr⟩
end
end Go.Sk
end

-- L16b
section
namespace Go.Sk
open Go Go.Proofs Go.ChangeShapes Go.WideShapes Go.ChangeAt Go.RowKit

namespace ecmAsked
set_option maxRecDepth 100000 in
theorem contract (H : Type) (enc : TypeId × Value → H) (W : World) (base : Nat) (args : Array Value) (ds gs : List (DataW H)) (before : List MemPlace)
    (hval : ∀ (j : Nat) t v, Tryz.f3.params[j]? = some t → args[j]? = some v → Value.okWide Tryz.prog W .any base t v)
    (hW : DataW.Whole enc Tryz.prog Tryz.f3.params.toList YtlbjacoigdpgfaaGreat.Rows.ecmAskedSpec.vars false W args.toList ds gs before) (hk : YtlbjacoigdpgfaaGreat.Rows.uptoSmall H (ds ++ gs) = true) :
    Calls Tryz.prog 3 args W fun e W' => ∃ v, e = .returned v ∧ YtlbjacoigdpgfaaGreat.Rows.ecmAskedSpec.post enc Tryz.prog Tryz.f3 false true false false W args v W' := by
  have hW' := hW
  obtain ⟨p, q, hA0, hV, rfl, hfz, hnd⟩ := hW
  have hA : DataW.TrodAll enc Tryz.prog W 0 (fun _ => true) true Tryz.f3.params.toList args.toList ds p := hA0
  rw [Tryz.params3] at hA hval
  obtain ⟨v0, vs0, d0, ds0, p0, q0, hargs, rfl, rfl, h0, r0⟩ := trodAll_cons hA
  obtain ⟨v1, vs1, d1, ds1, p1, q1, rfl, rfl, rfl, h1, r1⟩ := trodAll_cons r0
  obtain ⟨v2, vs2, d2, ds2, p2, q2, rfl, rfl, rfl, h2, r2⟩ := trodAll_cons r1
  obtain ⟨rfl, rfl, rfl⟩ := trodAll_nil r2
  obtain ⟨rfl, rfl⟩ := trodVars_none hV
  obtain rfl : args = #[v0, v1, v2] := by cases args; simp_all
  have hb : YtlbjacoigdpgfaaGreat.Rows.uptoBulkAll ([d0, d1, d2] ++ []) ≤ 1048576 := of_decide_eq_true hk
  obtain ⟨b0, hb⟩ := small_cons hb
  obtain ⟨b1, hb⟩ := small_cons hb
  obtain ⟨b2, hb⟩ := small_cons hb
  obtain ⟨c, hc, rep0⟩ := arg_confE (hval 0 25 v0 rfl rfl) h0 b0
  obtain ⟨l, hl, ll, rep1⟩ := arg_deeds (hval 1 26 v1 rfl rfl) h1 b1
  obtain ⟨n0, n1, n2, hn, rep2⟩ := arg_three (hval 2 27 v2 rfl rfl) h2 b2
  refine ((law_EcmAsked c l n0 n1 n2 hc.n hc.k hc.w hl ll hn.1) (allD W) W #[v0, v1, v2] (rel_all W) ⟨rfl, fun i hi => ?_⟩).mono ?_
  · match i, hi with
    | 0, _ => exact rep0
    | 1, _ => exact rep1
    | 2, _ => exact rep2
  · rintro e W' ⟨v, rfl, x, S', D', rfl, _, hrep, hE⟩
    cases hrep with
    | p hrep =>
    cases hrep
    exact ⟨_, rfl, bridge kids full hW' rfl (by rw [Tryz.params3]; decide) rfl Tryz.underlying4 rfl rfl rfl hE.still⟩

set_option maxRecDepth 100000 in
theorem lifted (os : Os) (started : os.Started) (H : Type) (enc : TypeId × Value → H) (F : Stop.Interp) :
    ReturnsInHanded {} Tryz.checked os 3 .any ((YtlbjacoigdpgfaaGreat.Rows.OpenSpec.upto YtlbjacoigdpgfaaGreat.Rows.ecmAskedSpec).pre6 enc Tryz.prog Tryz.f3 YtlbjacoigdpgfaaGreat.Rows.ecmAskedUptoRow.domain false) (((YtlbjacoigdpgfaaGreat.Rows.OpenSpec.upto YtlbjacoigdpgfaaGreat.Rows.ecmAskedSpec).at F).post enc Tryz.prog Tryz.f3 false true false false) := by
  refine returnsInHanded_of_cond (C := Tryz.checked) (s := YtlbjacoigdpgfaaGreat.Rows.OpenSpec.upto YtlbjacoigdpgfaaGreat.Rows.ecmAskedSpec) (k := YtlbjacoigdpgfaaGreat.Rows.uptoSmall) rfl own started (by kernel_rfl) Tryz.func3
    (OpenSpec.witness (enc := enc) (C := Tryz.checked) (s := YtlbjacoigdpgfaaGreat.Rows.OpenSpec.upto YtlbjacoigdpgfaaGreat.Rows.ecmAskedSpec) (k := YtlbjacoigdpgfaaGreat.Rows.uptoSmall) rfl false ⟨#[], #[.agg #[.int .i64 0, .int .i64 0, .int .u64 0, .int .u64 0, .int .i64 0, .int .i64 0, .slice none 0 0, .int .i64 0, .int .i64 0], .slice none 0 0, .agg #[.int .u64 0, .int .u64 0, .int .u64 0]], []⟩ 12 (by kernel_rfl) (by kernel_rfl) (by kernel_rfl)
      (x := ([.agg [.lit (.int .i64 0), .lit (.int .i64 0), .lit (.int .u64 0), .lit (.int .u64 0), .lit (.int .i64 0), .lit (.int .i64 0), .nil, .lit (.int .i64 0), .lit (.int .i64 0)], .nil, .agg [.lit (.int .u64 0), .lit (.int .u64 0), .lit (.int .u64 0)]], [], [])) (by kernel_rfl) rfl (by kernel_rfl)) ?_
  intro W base args ds gs before hval hW _ hk _
  exact contract H enc W base args ds gs before hval hW hk

theorem j1 : (YtlbjacoigdpgfaaGreat.Rows.ecmAskedUptoRow.inPlace == Tryz.prog.inPlace 3) = true := by kernel_rfl
theorem j2 : (YtlbjacoigdpgfaaGreat.Rows.ecmAskedUptoRow.unfollowed == Tryz.prog.unfollowed 3) = true := by kernel_rfl
theorem j3 : (YtlbjacoigdpgfaaGreat.Rows.ecmAskedUptoRow.recurses == Tryz.prog.recurses 3) = true := by kernel_rfl
theorem j4 : (YtlbjacoigdpgfaaGreat.Rows.ecmAskedUptoRow.named == Tryz.prog.varsNamed 3) = true := by kernel_rfl
theorem j5 : (YtlbjacoigdpgfaaGreat.Rows.ecmAskedUptoRow.plainKeys == Tryz.prog.plainKeys) = true := by kernel_rfl
theorem j6 : (YtlbjacoigdpgfaaGreat.Rows.ecmAskedUptoRow.lifted == Tryz.prog.liftsFinal) = true := by kernel_rfl
theorem j7 : (Tryz.prog.make == some YtlbjacoigdpgfaaGreat.Rows.ecmAskedUptoRow.make) = true := by kernel_rfl
set_option maxRecDepth 100000 in
theorem jf : joinedFacts Tryz.prog 3 Tryz.f3 (YtlbjacoigdpgfaaGreat.Rows.OpenSpec.upto YtlbjacoigdpgfaaGreat.Rows.ecmAskedSpec).bare YtlbjacoigdpgfaaGreat.Rows.ecmAskedUptoRow = true := by
  unfold joinedFacts
  exact and_ok (and_ok (and_ok (and_ok (and_ok (and_ok (and_ok (and_ok (and_ok (and_ok (and_ok (and_ok (and_ok (and_ok (and_ok (and_ok (and_ok (and_ok (and_ok (and_ok (and_ok (and_ok (and_ok (and_ok (and_ok (and_ok (and_ok (and_ok (and_ok (and_ok (and_ok (by kernel_rfl) j_laid) j_maps) (by kernel_rfl)) (by kernel_rfl)) (by kernel_rfl)) (by kernel_rfl)) (by kernel_rfl)) (by kernel_rfl)) j1) j2) j3) j4) (by kernel_rfl)) (by kernel_rfl)) (by kernel_rfl)) (by kernel_rfl)) (by kernel_rfl)) (by kernel_rfl)) (by kernel_rfl)) (by kernel_rfl)) (by kernel_rfl)) j5) (by kernel_rfl)) j_heard) j_enter) j6) j7) (by kernel_rfl)) (by kernel_rfl)) (by kernel_rfl)) (by kernel_rfl)
end ecmAsked
theorem _root_.Go.Proofs.YtlbjacoigdpgfaaGreat.ecmAsked_proved : YtlbjacoigdpgfaaGreat.Rows.EcmAskedUptoSaid :=
  OpenClaim.holds_of_cond 3 Tryz.f3 rfl rfl rfl rfl rfl rfl rfl ⟨rfl, rfl, rfl, rfl, rfl⟩ rfl rfl rfl rfl rfl (by kernel_rfl) Tryz.func3 ecmAsked.jf
    (of_decide_eq_true (by kernel_rfl)) (by unfold Func.isWrapper; first | (rw [if_pos (by decide +kernel)]; kernel_rfl) | (rw [if_neg (by decide +kernel)]; exact ⟨rfl, rfl⟩))
    (fun os started H enc _ F => ecmAsked.lifted os started H enc F)
#print axioms Go.Proofs.YtlbjacoigdpgfaaGreat.ecmAsked_proved
end Go.Sk
end
