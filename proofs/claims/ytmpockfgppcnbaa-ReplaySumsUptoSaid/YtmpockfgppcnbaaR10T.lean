/- Texts W10w W10x LR L10d, joined. -/
import Derived.Test.YtmpockfgppcnbaaR10I
import Derived.Test.YtmpockfgppcnbaaLB
set_option linter.unusedSimpArgs false
set_option linter.unusedVariables false
set_option linter.unusedSectionVars false
-- W10w
section
namespace Go.Sk
open Go Go.Proofs

theorem level_Least (k i : Nat) (hk : k < 1099511627776) : Pure Try.prog 78 [i64 k, i64 i] (i64 ((mostN k i - 1 : Nat) : Int)) := fun S => by
  have hm := mostN_pos k i
  have hm2 := mostN_le k i
  refine callR_of Try.func78 rfl rfl (xc_ok (bitB 19) _ _ _ ?_)
  simp only [go_sem]
  refine (level_Most k i hk).useA ?_
  have w : wi (((mostN k i : Nat) : Int) - 1) = ((mostN k i - 1 : Nat) : Int) := by rw [wi_id (by omega) (by omega)]; omega
  simp only [go_sem, w]
  (refine ⟨S, by (repeat (first | exact Sub.refl _ | refine Sub.setF ?_ (by first | assumption | simp only [*]) | refine Sub.setV ?_ (by first | assumption | simp only [*]))), ?_⟩); simp
theorem check_conf (k g : Int) (hk : 2 ≤ k ∧ k ≤ 1024) (hg : 0 ≤ g ∧ g ≤ 4) : Pure Try.prog 57 [i64 k, i64 g] (bl true) := fun S => by
  refine callR_of Try.func57 rfl rfl (xc_ok (bitB 19) _ _ _ ?_)
  have h1 : k ≥ 2 := hk.1
  have h2 : k ≤ 1024 := hk.2
  have h3 : g ≥ 0 := hg.1
  have h4 : g ≤ 4 := hg.2
  simp only [go_sem, h1, h2, h3, h4]
  (refine ⟨S, by (repeat (first | exact Sub.refl _ | refine Sub.setF ?_ (by first | assumption | simp only [*]) | refine Sub.setV ?_ (by first | assumption | simp only [*]))), ?_⟩); simp
theorem check_light (h : Hist) (g : h.Good) : Pure Try.prog 60 [h.av] (bl true) := fun S => by
  have htv : totV h.ls = totN 0 h.ls := totV_eq (by have := g.tot; omega)
  have hT := hist_Total h.k h.g h.ls (by have := g.len; omega)
  rw [htv] at hT
  have ht : totN 0 h.ls ≤ 4503599627370496 := g.tot
  refine callR_of Try.func60 rfl rfl (xc_ok (bitB 7) _ _ _ ?_)
  simp only [go_sem]
  refine alloc_intro fun c1 h1 => ?_
  simp only [go_sem]
  refine hT.useA ?_
  simp only [go_sem, ht]
  (refine ⟨S, by (repeat (first | exact Sub.refl _ | refine Sub.setF ?_ (by first | assumption | simp only [*]) | refine Sub.setV ?_ (by first | assumption | simp only [*]))), ?_⟩); simp
set_option maxHeartbeats 1000000 in
set_option maxRecDepth 4000 in
theorem check_shaped (h : Hist) (f : h.Fine) (h52 : h.ls.length ≤ 52) : Pure Try.prog 58 [h.av] (bl true) := fun S => by
  obtain ⟨k, g, ls⟩ := h
  have hk0 := f.good.k0
  have hk1 := f.good.k1
  dsimp only at hk0 hk1 h52
  obtain ⟨k, rfl⟩ : ∃ k' : Nat, k = k' := ⟨k.toNat, by omega⟩
  refine callR_of Try.func58 rfl rfl (xc_ok (bitB 137447344063) _ _ _ ?_)
  simp only [go_sem]
  refine alloc_intro fun c1 h1 => ?_
  have y1 : S (.r c1) = none := h1
  simp only [go_sem]
  refine AWP.iter (fun i => ⟨Env.get [(1, .sp c1 0), (7, .p (.sl (ls.map lvE))), (8, i64 ls.length), (9, i64 i)], S.set (.r c1) (.cells [i64 k, i64 g, .p (.sl (ls.map lvE))]), 43, []⟩) ls.length ?_ ?_ ?_
  · exact le_of (by simp only [go_sem] <;> rfl) (Sub.refl _) rfl rfl (by simp)
  · intro i hi ih
    have hqi : wi ((i : Int) + 1) = ((i + 1 : Nat) : Int) := wi_succ (show i < 4611686018427387904 by omega)
    have hwl : wi ((ls.length : Int) - 1) = (ls.length : Int) - 1 := wi_id (by omega) (by omega)
    have hm := most_at ls 0 f.most i hi
    rw [Nat.zero_add] at hm
    have hm' : (ls[i]).length ≤ mostN k i := hm
    have hm1 := mostN_pos k i
    have hnev := f.good.ne _ (List.getElem_mem hi)
    have hpos : 1 ≤ (ls[i]).length := List.length_pos_iff.2 hnev
    have hMo := level_Most k i (by omega)
    have hLe := level_Least k i (by omega)
    have c2 : ¬ ((ls[i]).length : Int) > ((mostN k i : Nat) : Int) := by omega
    have hlv : (ls.map lvE).getD i [] = [.sl ((ls[i]).map Span.pv)] := by rw [getD_map' _ _ _ _ hi]; rfl
    refine AWPH.step (xc_ok (bitB 137447344063) _ _ _ ?_)
    simp only [go_sem, hi, ltN' hi, hlv, List.length_map]
    refine hLe.useA ?_
    simp only [go_sem, List.length_map, hwl]
    by_cases hlast : (i : Int) = (ls.length : Int) - 1
    · have e1 : ((i : Int) == (ls.length : Int) - 1) = true := by simpa using hlast
      have d1 : decide (((ls[i]).length : Int) < if (1 : Int) > 1 then 1 else 1) = false := decide_eq_false (by split <;> omega)
      simp only [go_sem, e1, List.length_map]
      rw [d1]
      simp only [go_sem]
      refine hMo.useA ?_
      simp only [go_sem, c2]
      refine ih.back (by (repeat (first | exact Sub.refl _ | refine Sub.setF ?_ (by first | assumption | simp only [*]) | refine Sub.setV ?_ (by first | assumption | simp only [*])))) (by simp) ?_
      simp only [go_sem, hqi]
    · have e1 : ((i : Int) == (ls.length : Int) - 1) = false := by simpa using hlast
      have hfu := full_at ls 0 f.tidy.full i hi (by omega)
      rw [Nat.zero_add] at hfu
      have hfu' : mostN k i ≤ (ls[i]).length + 1 := hfu
      have d1 : decide (((ls[i]).length : Int) < if (1 : Int) > ((mostN k i - 1 : Nat) : Int) then 1 else ((mostN k i - 1 : Nat) : Int)) = false := decide_eq_false (by split <;> omega)
      simp only [go_sem, e1, List.length_map]
      rw [d1]
      simp only [go_sem]
      refine hMo.useA ?_
      simp only [go_sem, c2]
      refine ih.back (by (repeat (first | exact Sub.refl _ | refine Sub.setF ?_ (by first | assumption | simp only [*]) | refine Sub.setV ?_ (by first | assumption | simp only [*])))) (by simp) ?_
      simp only [go_sem, hqi]
  · refine AWPH.step (xc_ok (bitB 137447344063) _ _ _ ?_)
    have h5 : (ls.length : Int) ≤ 52 := by omega
    simp only [go_sem, h5, List.length_map]
    exact ⟨S, Sub.set (Sub.refl _) y1 _, Or.inl rfl⟩

/-! All buckets stand in turn. -/
set_option maxRecDepth 4000 in
theorem walk_step {S : Store} {b : Nat} (a : Nat) (s : Span) (u : Bool) (h1 : S (.r b) = some (.cells [u64 a, bl true])) (ha : a ≤ s.a) (hv : s.a ≤ s.b) (hm : s.b ≤ 9223372036854775807) (hu : u = true → s.a = s.b) :
    CallR Try.prog 79 [.sp b 0, s.av, bl u] S (fun r S' => r = .tuple [] ∧ S' = S.set (.r b) (.cells [u64 s.b, bl true])) := by
  have q1 : ¬ s.b < s.a := by omega
  have q2 : ¬ s.a < a := by omega
  have q3 : ¬ 9223372036854775807 < s.b := by omega
  refine callR_of Try.func79 rfl rfl (xc_ok (bitB 87) _ _ _ ?_)
  simp only [go_sem]
  refine alloc_intro fun c4 h4 => ?_
  have n4 := h4.ne h1
  cases u
  · simp only [go_sem, h1, n4]
    refine AWP.draw2 (bitB 87) mixed (by kernel_rfl) (fun j => bl false) ?_
    simp only [go_sem, h1, n4, q1, q2, q3]
    exact ⟨_, Sub.both (Sub.set (Sub.refl _) h4 _) _ _, Or.inl rfl⟩
  · have q4 : (s.a != s.b) = false := by simpa using hu rfl
    simp only [go_sem, h1, n4]
    refine AWP.draw2 (bitB 87) mixed (by kernel_rfl) (fun j => bl false) ?_
    simp only [go_sem, h1, n4, q1, q2, q3, q4]
    exact ⟨_, Sub.both (Sub.set (Sub.refl _) h4 _) _ _, Or.inl rfl⟩
/-- The tick of the last one. -/
def lastB (l : List Span) : Nat := match l.getLast? with | some s => s.b | none => 0
theorem lastB_snoc (l : List Span) (s : Span) : lastB (l ++ [s]) = s.b := by unfold lastB; rw [List.getLast?_concat]
theorem lastB_le {l : List Span} {a : Nat} (h : ∀ x ∈ l, x.b ≤ a) : lastB l ≤ a := by
  unfold lastB
  cases hl : l.getLast? with
  | none => exact Nat.zero_le _
  | some s => exact h s (List.mem_of_getLast? hl)
theorem turn_at {ls : List (List Span)} (hp : (flat ls).Pairwise Bef) (m : Nat) (hm : m < ls.length) (q : Nat) (hq : q < (ls[m]).length) :
    ∀ x ∈ flat (ls.drop (m + 1)) ++ (ls[m]).take q, x.b ≤ ((ls[m])[q]).a := by
  obtain ⟨r, hr⟩ := flat_sub ls m
  rw [hr, flat_drop ls m hm hm] at hp
  have hp2 := (List.pairwise_append.1 hp).1
  obtain ⟨_, g2, g3⟩ := List.pairwise_append.1 hp2
  intro x hx
  rcases List.mem_append.1 hx with hx | hx
  · exact g3 x hx _ (List.getElem_mem hq)
  · have e : ls[m] = (ls[m]).take q ++ (ls[m])[q] :: (ls[m]).drop (q + 1) := by rw [← List.drop_eq_getElem_cons hq, List.take_append_drop]
    rw [e] at g2
    exact (List.pairwise_append.1 g2).2.2 x hx _ List.mem_cons_self
theorem flat_mem {ls : List (List Span)} (m : Nat) (hm : m < ls.length) : ∀ x ∈ ls[m], x ∈ flat ls := by
  intro x hx
  obtain ⟨r, hr⟩ := flat_sub ls m
  rw [hr, flat_drop ls m hm hm]
  simp [hx]
set_option maxHeartbeats 1000000 in
set_option maxRecDepth 4000 in
theorem check_turned (h : Hist) (f : h.Fine) : Pure Try.prog 59 [h.av] (bl true) := fun S => by
  obtain ⟨k, g, ls⟩ := h
  have hln := f.good.len
  have hsm := f.good.sm
  have hk1 := f.good.k1
  dsimp only at hln hsm hk1
  refine callR_of Try.func59 rfl rfl (xc_ok (bitB 15736927) _ _ _ ?_)
  simp only [go_sem]
  refine alloc_intro fun c1 h1 => ?_
  have y1 : S (.r c1) = none := h1
  simp only [go_sem]
  refine alloc_intro fun c3 h3 => ?_
  simp only [fresh_set] at h3
  have y3 : S (.r c3) = none := h3.2
  have e0 : wi ((ls.length : Int) - 1) = (ls.length : Int) - 1 := wi_id (by omega) (by omega)
  simp only [go_sem, h3, List.length_map, e0]
  refine AWP.iter (fun d => ⟨Env.get [(1, .sp c1 0), (3, .sp c3 0), (4, i64 ((ls.length : Int) - 1 - (d : Int)))],
    (S.set (.r c1) (.cells [i64 k, i64 g, .p (.sl (ls.map lvE))])).set (.r c3) (.cells [u64 (lastB (flat (ls.drop (ls.length - d)))), bl true]), 33, []⟩) ls.length ?_ ?_ ?_
  · refine le_of (by simp only [go_sem] <;> simp) ?_ rfl rfl (by simp)
    have e1 : lastB (flat (ls.drop (ls.length - 0))) = 0 := by rw [Nat.sub_zero, List.drop_length]; rfl
    rw [e1]
    ((try dsimp only); (repeat refine sub_set ?_ ?_) <;> first | ((repeat (first | exact Sub.refl _ | refine Sub.setF ?_ (by first | assumption | simp only [*]) | refine Sub.setV ?_ (by first | assumption | simp only [*]))); done) | (simp only [go_sem, h3]; done) | (simp only [go_sem, h3]; rfl) | rfl)
  · intro d hd ih
    obtain ⟨m, hm⟩ : ∃ m, ls.length = m + 1 + d := ⟨ls.length - 1 - d, by omega⟩
    have hml : m < ls.length := by omega
    have e1 : ((ls.length : Int) - 1 - (d : Int)) = ((m : Nat) : Int) := by omega
    have e2 : ls.length - d = m + 1 := by omega
    have e3 : ls.length - (d + 1) = m := by omega
    have e4 : ((ls.length : Int) - 1 - ((d + 1 : Nat) : Int)) = (m : Int) - 1 := by omega
    have e5 : wi ((m : Int) - 1) = (m : Int) - 1 := wi_id (by omega) (by omega)
    have e6 : decide ((m : Int) ≥ 0) = true := decide_eq_true (by omega)
    have hdr := flat_drop ls m hml hml
    simp only [e3, e4] at ih
    rw [e2, e1]
    have hlv : (ls.map lvE).getD m [] = [.sl ((ls[m]).map Span.pv)] := by rw [getD_map' _ _ _ _ hml]; rfl
    have hmll := hsm _ (List.getElem_mem hml)
    refine AWPH.step (xc_ok (bitB 15736927) _ _ _ ?_)
    simp only [go_sem, h3, e6, hml, ltN' hml, hlv, List.length_map]
    refine AWP.iter (fun q => ⟨Env.get [(1, .sp c1 0), (3, .sp c3 0), (4, i64 m), (20, .p (.sl ((ls[m]).map Span.pv))), (21, i64 (ls[m]).length), (22, i64 q)],
      (S.set (.r c1) (.cells [i64 k, i64 g, .p (.sl (ls.map lvE))])).set (.r c3) (.cells [u64 (lastB (flat (ls.drop (m + 1)) ++ (ls[m]).take q)), bl true]), 33, []⟩) (ls[m]).length ?_ ?_ ?_
    · refine le_of (by simp only [go_sem] <;> rfl) ?_ rfl rfl (by simp)
      rw [List.take_zero, List.append_nil]
      exact Sub.refl _
    · intro q hq qh
      have hqq : wi ((q : Int) + 1) = ((q + 1 : Nat) : Int) := wi_succ (show q < 4611686018427387904 by omega)
      have htn := turn_at f.tidy.srt m hml q hq
      have hfm := flat_mem m hml _ (List.getElem_mem hq)
      have hva := f.tidy.val _ hfm
      have hfa := f.far _ hfm
      have hlo : (m == 0) = true → ((ls[m])[q]).a = ((ls[m])[q]).b := fun h0 => by
        have hm0 : m = 0 := by simpa using h0
        subst hm0
        refine f.tidy.low _ ?_
        have : ls.headD [] = ls[0] := by cases ls with | nil => cases hml | cons x r => rfl
        show _ ∈ ls.headD []
        rw [this]; exact List.getElem_mem hq
      have hnx : lastB (flat (ls.drop (m + 1)) ++ (ls[m]).take (q + 1)) = ((ls[m])[q]).b := by
        rw [List.take_succ_eq_append_getElem hq, ← List.append_assoc, lastB_snoc]
      have hst := lastB_le htn
      generalize lastB (flat (ls.drop (m + 1)) ++ (ls[m]).take q) = A at *
      refine AWPH.step (xc_ok (bitB 15736927) _ _ _ ?_)
      simp only [go_sem, h3, hq, ltN' hq, getD_map' _ _ _ _ hq, List.length_map]
      refine alloc_intro fun c6 h6 => ?_
      simp only [fresh_set] at h6
      simp only [go_sem, h3, h6]
      refine (walk_step A (ls[m])[q] (m == 0) (by simp only [go_sem, h3, h6]) hst hva hfa hlo).useA ?_
      rintro _ _ ⟨rfl, rfl⟩
      simp only [go_sem, h3, h6]
      refine qh.back ?_ (by simp) ?_
      · rw [hnx]
        ((try dsimp only); (repeat refine sub_set ?_ ?_) <;> first | ((repeat (first | exact Sub.refl _ | refine Sub.setF ?_ (by first | assumption | simp only [*]) | refine Sub.setV ?_ (by first | assumption | simp only [*]))); done) | (simp only [go_sem, h3, h6]; done) | (simp only [go_sem, h3, h6]; rfl) | rfl)
      · simp only [go_sem, hqq]
    · refine AWPH.step (xc_ok (bitB 15736927) _ _ _ ?_)
      simp only [go_sem, h3, List.take_length, List.length_map]
      rw [← hdr]
      refine ih.back (by (repeat (first | exact Sub.refl _ | refine Sub.setF ?_ (by first | assumption | simp only [*]) | refine Sub.setV ?_ (by first | assumption | simp only [*])))) (by simp) ?_
      simp only [go_sem, e5]
  · refine AWPH.step (xc_ok (bitB 15736927) _ _ _ ?_)
    have e1 : decide (((ls.length : Int) - 1 - ((ls.length : Nat) : Int)) ≥ 0) = false := decide_eq_false (by omega)
    simp only [go_sem, h3, e1]
    exact ⟨S, Sub.set (Sub.set (Sub.refl _) y1 _) y3 _, Or.inl rfl⟩
set_option maxHeartbeats 1000000 in
set_option maxRecDepth 4000 in
theorem check_Hist (h : Hist) (f : h.Fine) (h52 : h.ls.length ≤ 52) (hg : h.g ≤ 4) : Pure Try.prog 30 [h.av] (i64 0) := fun S => by
  have hC := check_conf h.k h.g ⟨f.good.k0, f.good.k1⟩ ⟨f.g0, hg⟩
  have h1 := check_shaped h f h52
  have h2 := check_turned h f
  have h3 := check_light h f.good
  refine callR_of Try.func30 rfl rfl (xc_ok (bitB 277527) _ _ _ ?_)
  simp only [go_sem]
  refine alloc_intro fun c1 hc1 => ?_
  have y1 : S (.r c1) = none := hc1
  simp only [go_sem]
  refine hC.useA ?_
  simp only [go_sem, Bool.not_true]
  have d0 : decide ((0 : Int) < 3) = true := by decide
  have d1 : decide ((1 : Int) < 3) = true := by decide
  have d2 : decide ((2 : Int) < 3) = true := by decide
  have d3 : decide ((3 : Int) < 3) = false := by decide
  have w0 : wi ((0 : Int) + 1) = 1 := wi_id (by decide) (by decide)
  have w1 : wi ((1 : Int) + 1) = 2 := wi_id (by decide) (by decide)
  have w2 : wi ((2 : Int) + 1) = 3 := wi_id (by decide) (by decide)
  refine AWP.head (AWPH.step (xc_ok (bitB 277527) _ _ _ ?_))
  simp only [go_sem, d0, w0]
  refine h1.useA ?_
  simp only [go_sem, Bool.not_true, w0]
  refine AWPH.step (xc_ok (bitB 277527) _ _ _ ?_)
  simp only [go_sem, d1]
  refine ⟨by decide, by decide, h2.useA ?_⟩
  simp only [go_sem, Bool.not_true, w1]
  refine AWPH.step (xc_ok (bitB 277527) _ _ _ ?_)
  simp only [go_sem, d2]
  refine ⟨by decide, by decide, h3.useA ?_⟩
  simp only [go_sem, Bool.not_true, w2]
  refine AWPH.step (xc_ok (bitB 277527) _ _ _ ?_)
  simp only [go_sem, d3]
  exact ⟨S, Sub.set (Sub.refl _) y1 _, Or.inl rfl⟩
end Go.Sk
end

-- W10x
section
namespace Go.Sk
open Go Go.Proofs

noncomputable def Tree.hs (t : Tree) : List Hist := [madeD t.k t.l0, madeD t.k t.l1, madeD t.k t.l2, madeD t.k t.l3]
theorem hs_came {t : Tree} (l : t.Light) : Came t.hs [] ∧ maxG t.hs = 0 ∧ sumT t.hs ≤ 4 * 32985348833280 := by
  obtain ⟨a0, a1, a2, a3⟩ := l.sz
  obtain ⟨d0, k0⟩ := made_deep t.k t.l0
  obtain ⟨d1, k1⟩ := made_deep t.k t.l1
  obtain ⟨d2, k2⟩ := made_deep t.k t.l2
  obtain ⟨d3, k3⟩ := made_deep t.k t.l3
  have g0 := d0.gen
  have g1 := d1.gen
  have g2 := d2.gen
  have g3 := d3.gen
  have hg : maxG t.hs = 0 := by
    show max (max (max (max (0 : Int) (madeD t.k t.l0).g) (madeD t.k t.l1).g) (madeD t.k t.l2).g) (madeD t.k t.l3).g = 0
    omega
  have hs : sumT t.hs ≤ 4 * 32985348833280 := by
    show totN 0 (madeD t.k t.l0).ls + (totN 0 (madeD t.k t.l1).ls + (totN 0 (madeD t.k t.l2).ls + (totN 0 (madeD t.k t.l3).ls + 0))) ≤ _
    omega
  refine ⟨⟨by simp [Tree.hs], fun h hh => ?_, fun h hh => ?_, by rw [hg]; omega, fun e he => (by cases he), by show sumT t.hs + 0 ≤ _; omega⟩, hg, hs⟩
  · have hd : (t.hs.headD zeroH).k = 2 + max t.k 0 % 30 := k0
    rw [hd]
    simp only [Tree.hs, List.mem_cons, List.not_mem_nil, or_false] at hh
    rcases hh with rfl | rfl | rfl | rfl
    · exact k0
    · exact k1
    · exact k2
    · exact k3
  · simp only [Tree.hs, List.mem_cons, List.not_mem_nil, or_false] at hh
    rcases hh with rfl | rfl | rfl | rfl
    · exact d0.fine
    · exact d1.fine
    · exact d2.fine
    · exact d3.fine
theorem merge_perm {l m : List Hist} (c : Came l []) (hg : ∀ h ∈ l, h.g ≤ 4) (hp : l.Perm m) (hn : m.length < 1048576) :
    Pure Try.prog 27 [.p (.sl (m.map Hist.cs))] (.tuple [(withV [] l).1.av, i64 0]) := by
  have := replay_Merge m hn (fun h hh => c.fine h (hp.mem_iff.2 hh)) (fun h hh => hg h (hp.mem_iff.2 hh))
  rw [with_turn c hp, (with_ok c).1] at this
  exact this
set_option maxHeartbeats 2000000 in
set_option maxRecDepth 8000 in
theorem law_ReplaySums (t : Tree) (ho : t.Ok) (n : Nat) (hn : n < 256) : CallsR Try.prog 8 [t.av, .p (.int .u8 n)] noS (fun x _ => x = bl true) := by
  generalize noS = S
  have hL := ref10_Light t ho
  refine callsR_of Try.func8 rfl (xc_ok (bitB 4784119) _ _ _ ?_)
  simp only [go_sem, Tree.av, Tree.pv]
  refine alloc_intro fun c2 h2 => ?_
  have y2 : S (.r c2) = none := h2
  simp only [go_sem]
  refine law10_awake.useA ?_
  simp only [go_sem]
  refine hL.useA ?_
  cases hlb : t.lightB
  · simp only [go_sem, Bool.not_false]
    exact ⟨_, Sub.refl _⟩
  have hl := Tree.lightB_ok hlb
  obtain ⟨hc, hmg, hst⟩ := hs_came hl
  obtain ⟨w1, w2, w3, w4, w5, _⟩ := with_ok hc
  have hm0 := ref06_Made t.k t.l0 ho.k1 (by have := ho.o0.2; omega) ho.o0.1
  have hm1 := ref06_Made t.k t.l1 ho.k1 (by have := ho.o1.2; omega) ho.o1.1
  have hm2 := ref06_Made t.k t.l2 ho.k1 (by have := ho.o2.2; omega) ho.o2.1
  have hm3 := ref06_Made t.k t.l3 ho.k1 (by have := ho.o3.2; omega) ho.o3.1
  have hg4 : ∀ h ∈ t.hs, h.g ≤ 4 := fun h hh => by have := (maxG_ge t.hs).2 h hh; omega
  have f0 := hc.fine (madeD t.k t.l0) (by simp [Tree.hs])
  have f1 := hc.fine (madeD t.k t.l1) (by simp [Tree.hs])
  have f2 := hc.fine (madeD t.k t.l2) (by simp [Tree.hs])
  have f3 := hc.fine (madeD t.k t.l3) (by simp [Tree.hs])
  obtain ⟨z0, z1, z2, z3⟩ := hl.sz
  have hsum : sumT t.hs = totN 0 (madeD t.k t.l0).ls + totN 0 (madeD t.k t.l1).ls + totN 0 (madeD t.k t.l2).ls + totN 0 (madeD t.k t.l3).ls := by
    show totN 0 (madeD t.k t.l0).ls + (totN 0 (madeD t.k t.l1).ls + (totN 0 (madeD t.k t.l2).ls + (totN 0 (madeD t.k t.l3).ls + 0))) = _
    omega
  have hhs : t.hs = [madeD t.k t.l0, madeD t.k t.l1, madeD t.k t.l2, madeD t.k t.l3] := rfl
  obtain ⟨a, ha⟩ : ∃ a, madeD t.k t.l0 = a := ⟨_, rfl⟩
  obtain ⟨b, hb⟩ : ∃ b, madeD t.k t.l1 = b := ⟨_, rfl⟩
  obtain ⟨c, hcc⟩ : ∃ c, madeD t.k t.l2 = c := ⟨_, rfl⟩
  obtain ⟨e, he⟩ : ∃ e, madeD t.k t.l3 = e := ⟨_, rfl⟩
  rw [ha] at hm0 f0 z0 hsum hhs
  rw [hb] at hm1 f1 z1 hsum hhs
  rw [hcc] at hm2 f2 z2 hsum hhs
  rw [he] at hm3 f3 z3 hsum hhs
  have tot : ∀ h : Hist, h.Fine → Pure Try.prog 19 [h.av] (u64 (totN 0 h.ls)) := fun h f => by
    have htv : totV h.ls = totN 0 h.ls := totV_eq (by have := f.good.tot; omega)
    have hT := hist_Total h.k h.g h.ls (by have := f.good.len; omega)
    rw [htv] at hT; exact hT
  have T0 := tot a f0
  have T1 := tot b f1
  have T2 := tot c f2
  have T3 := tot e f3
  have TW := tot _ w2
  rw [w5] at TW
  have hse : sumT t.hs + sumE Event.w [] = sumT t.hs := by rw [sumE_nil]; rfl
  rw [hse, hsum] at TW
  have m0 : m64 (0 + totN 0 a.ls) = totN 0 a.ls := by rw [m64_id (by omega)]; omega
  have m1 : m64 (totN 0 a.ls + totN 0 b.ls) = totN 0 a.ls + totN 0 b.ls := m64_id (by omega)
  have m2 : m64 (totN 0 a.ls + totN 0 b.ls + totN 0 c.ls) = totN 0 a.ls + totN 0 b.ls + totN 0 c.ls := m64_id (by omega)
  have m3 : m64 (totN 0 a.ls + totN 0 b.ls + totN 0 c.ls + totN 0 e.ls) = totN 0 a.ls + totN 0 b.ls + totN 0 c.ls + totN 0 e.ls := m64_id (by omega)
  have hsmW : (withV [] t.hs).1.Small := w2.good.small
  have hD := hist_Same (withV [] t.hs).1 (withV [] t.hs).1 hsmW
  rw [decide_eq_true rfl] at hD
  have e53 : (2 : Nat) ^ (52 + 1) = 9007199254740992 := by decide
  have hlenW : (withV [] t.hs).1.ls.length ≤ 52 := len_small w2 52 (by rw [w5, hse, e53]; omega)
  have hgW : (withV [] t.hs).1.g = 1 := by rw [w4, hmg]; rfl
  have hCk := check_Hist (withV [] t.hs).1 w2 hlenW (by rw [hgW]; decide)
  have P1 := merge_perm hc hg4 (m := [a, b, c, e]) (by rw [hhs]) (by simp)
  have P2 := merge_perm hc hg4 (m := [e, c, b, a]) (by rw [hhs]; exact (List.reverse_perm [a, b, c, e]).symm) (by simp)
  have P3 : ∀ q, q < 4 → Pure Try.prog 27 [.p (.sl ((([a, b, c, e].drop q) ++ ([a, b, c, e].take q)).map Hist.cs))] (.tuple [(withV [] t.hs).1.av, i64 0]) := fun q hq =>
    merge_perm hc hg4 (by
      rw [hhs]
      have := (List.perm_append_comm (l₁ := [a, b, c, e].take q) (l₂ := [a, b, c, e].drop q))
      rw [List.take_append_drop] at this; exact this) (by simp; omega)
  obtain ⟨W, hW⟩ : ∃ W, (withV [] t.hs).1 = W := ⟨_, rfl⟩
  rw [hW] at TW hD hgW hCk P1 P2 P3
  have d0 : decide ((0 : Int) < 4) = true := by decide
  have d1 : decide ((1 : Int) < 4) = true := by decide
  have d2 : decide ((2 : Int) < 4) = true := by decide
  have d3 : decide ((3 : Int) < 4) = true := by decide
  have d4 : decide ((4 : Int) < 4) = false := by decide
  have i0 : wi ((0 : Int) + 1) = 1 := wi_id (by decide) (by decide)
  have i1 : wi ((1 : Int) + 1) = 2 := wi_id (by decide) (by decide)
  have i2 : wi ((2 : Int) + 1) = 3 := wi_id (by decide) (by decide)
  have i3 : wi ((3 : Int) + 1) = 4 := wi_id (by decide) (by decide)
  clear hsmW hlenW w1 w2 w3 w4 w5 hc hg4 hst hmg
  simp only [go_sem, Bool.not_true]
  refine alloc_intro fun c6 h6 => ?_
  simp only [fresh_set] at h6
  simp only [go_sem, h6]
  refine AWP.head (AWPH.step (xc_ok (bitB 4784119) _ _ _ ?_))
  simp only [go_sem, h6, d0]
  refine AWP.draw2 (bitB 4784119) mixed (by kernel_rfl) (fun j => a.av) ?_
  simp only [go_sem, h6]
  refine ⟨hm0.draw, (law10_made a).draw, ?_⟩
  refine T0.useA ?_
  simp only [go_sem, h6, m0, i0]
  refine AWPH.step (xc_ok (bitB 4784119) _ _ _ ?_)
  simp only [go_sem, h6, d1]
  refine AWP.draw2 (bitB 4784119) mixed (by kernel_rfl) (fun j => b.av) ?_
  simp only [go_sem, h6]
  repeat first | refine ⟨by decide, ?_⟩ | refine ⟨hm1.draw, ?_⟩ | refine ⟨(law10_made b).draw, ?_⟩
  refine T1.useA ?_
  simp only [go_sem, h6, m1, i1]
  refine AWPH.step (xc_ok (bitB 4784119) _ _ _ ?_)
  simp only [go_sem, h6, d2]
  refine AWP.draw2 (bitB 4784119) mixed (by kernel_rfl) (fun j => c.av) ?_
  simp only [go_sem, h6]
  repeat first | refine ⟨by decide, ?_⟩ | refine ⟨hm2.draw, ?_⟩ | refine ⟨(law10_made c).draw, ?_⟩
  refine T2.useA ?_
  simp only [go_sem, h6, m2, i2]
  refine AWPH.step (xc_ok (bitB 4784119) _ _ _ ?_)
  simp only [go_sem, h6, d3]
  refine AWP.draw2 (bitB 4784119) mixed (by kernel_rfl) (fun j => e.av) ?_
  simp only [go_sem, h6]
  repeat first | refine ⟨by decide, ?_⟩ | refine ⟨hm3.draw, ?_⟩ | refine ⟨(law10_made e).draw, ?_⟩
  refine T3.useA ?_
  simp only [go_sem, h6, m3, i3]
  refine AWPH.step (xc_ok (bitB 4784119) _ _ _ ?_)
  simp only [go_sem, h6, d4]
  repeat refine ⟨by decide, ?_⟩
  refine P1.useA ?_
  simp only [go_sem, h6]
  refine alloc_intro fun c9 h9 => ?_
  simp only [fresh_set] at h9
  simp only [go_sem, h6, h9]
  obtain ⟨q, hq⟩ : ∃ q, n % 4 = q := ⟨_, rfl⟩
  have hq4 : q < 4 := by omega
  have ewq : wi ((q : Nat) : Int) = q := wi_id (by omega) (by omega)
  rw [hq, ewq]
  rcases (show q = 0 ∨ q = 1 ∨ q = 2 ∨ q = 3 by omega) with rfl | rfl | rfl | rfl
  · have s1 : wi (((0 : Nat) : Int) + 1) = ((1 : Nat) : Int) := by rw [wi_id (by decide) (by decide)]; rfl
    have u1 : (((1 : Nat) : Int)).tmod 4 = ((1 : Nat) : Int) := by decide
    have s2 : wi (((0 : Nat) : Int) + 2) = ((2 : Nat) : Int) := by rw [wi_id (by decide) (by decide)]; rfl
    have u2 : (((2 : Nat) : Int)).tmod 4 = ((2 : Nat) : Int) := by decide
    have s3 : wi (((0 : Nat) : Int) + 3) = ((3 : Nat) : Int) := by rw [wi_id (by decide) (by decide)]; rfl
    have u3 : (((3 : Nat) : Int)).tmod 4 = ((3 : Nat) : Int) := by decide
    have hP3 := P3 0 (by decide)
    refine AWP.draw2 (bitB 4784119) mixed (by kernel_rfl) (fun j => .tuple [W.av, i64 0]) ?_
    simp only [go_sem, h6, h9, s1, s2, s3, u1, u2, u3]
    repeat first | refine ⟨by decide, ?_⟩ | refine ⟨hP3.draw, ?_⟩
    refine alloc_intro fun c12 h12 => ?_
    simp only [fresh_set] at h12
    simp only [go_sem, h6, h9, h12]
    repeat refine ⟨by decide, ?_⟩
    refine P2.useA ?_
    simp only [go_sem, h6, h9, h12]
    refine alloc_intro fun c14 h14 => ?_
    simp only [fresh_set] at h14
    have r0 : ((0 : Int) == 0) = true := by decide
    simp only [go_sem, h6, h9, h12, h14, r0]
    refine TW.useA ?_
    have r1 : (totN 0 a.ls + totN 0 b.ls + totN 0 c.ls + totN 0 e.ls == m64 (m64 (m64 (m64 (totN 0 a.ls) + totN 0 b.ls) + totN 0 c.ls) + totN 0 e.ls)) = true := by
      rw [m64_id (show totN 0 a.ls < 18446744073709551616 by clear h6 h9 h12 h14; omega), m1, m2, m3]; exact beq_self_eq_true _
    simp only [go_sem, h6, h9, h12, h14, r0, r1]
    refine hD.useA ?_
    simp only [go_sem, h6, h9, h12, h14, r0]
    refine hD.useA ?_
    have r2 : (W.g == 1) = true := by rw [hgW]; decide
    simp only [go_sem, h6, h9, h12, h14, r0, r2]
    refine hCk.useA ?_
    simp only [go_sem, r0]
    exact ⟨_, Sub.refl _⟩
  · have s1 : wi (((1 : Nat) : Int) + 1) = ((2 : Nat) : Int) := by rw [wi_id (by decide) (by decide)]; rfl
    have u1 : (((2 : Nat) : Int)).tmod 4 = ((2 : Nat) : Int) := by decide
    have s2 : wi (((1 : Nat) : Int) + 2) = ((3 : Nat) : Int) := by rw [wi_id (by decide) (by decide)]; rfl
    have u2 : (((3 : Nat) : Int)).tmod 4 = ((3 : Nat) : Int) := by decide
    have s3 : wi (((1 : Nat) : Int) + 3) = ((4 : Nat) : Int) := by rw [wi_id (by decide) (by decide)]; rfl
    have u3 : (((4 : Nat) : Int)).tmod 4 = ((0 : Nat) : Int) := by decide
    have hP3 := P3 1 (by decide)
    refine AWP.draw2 (bitB 4784119) mixed (by kernel_rfl) (fun j => .tuple [W.av, i64 0]) ?_
    simp only [go_sem, h6, h9, s1, s2, s3, u1, u2, u3]
    repeat first | refine ⟨by decide, ?_⟩ | refine ⟨hP3.draw, ?_⟩
    refine alloc_intro fun c12 h12 => ?_
    simp only [fresh_set] at h12
    simp only [go_sem, h6, h9, h12]
    repeat refine ⟨by decide, ?_⟩
    refine P2.useA ?_
    simp only [go_sem, h6, h9, h12]
    refine alloc_intro fun c14 h14 => ?_
    simp only [fresh_set] at h14
    have r0 : ((0 : Int) == 0) = true := by decide
    simp only [go_sem, h6, h9, h12, h14, r0]
    refine TW.useA ?_
    have r1 : (totN 0 a.ls + totN 0 b.ls + totN 0 c.ls + totN 0 e.ls == m64 (m64 (m64 (m64 (totN 0 a.ls) + totN 0 b.ls) + totN 0 c.ls) + totN 0 e.ls)) = true := by
      rw [m64_id (show totN 0 a.ls < 18446744073709551616 by clear h6 h9 h12 h14; omega), m1, m2, m3]; exact beq_self_eq_true _
    simp only [go_sem, h6, h9, h12, h14, r0, r1]
    refine hD.useA ?_
    simp only [go_sem, h6, h9, h12, h14, r0]
    refine hD.useA ?_
    have r2 : (W.g == 1) = true := by rw [hgW]; decide
    simp only [go_sem, h6, h9, h12, h14, r0, r2]
    refine hCk.useA ?_
    simp only [go_sem, r0]
    exact ⟨_, Sub.refl _⟩
  · have s1 : wi (((2 : Nat) : Int) + 1) = ((3 : Nat) : Int) := by rw [wi_id (by decide) (by decide)]; rfl
    have u1 : (((3 : Nat) : Int)).tmod 4 = ((3 : Nat) : Int) := by decide
    have s2 : wi (((2 : Nat) : Int) + 2) = ((4 : Nat) : Int) := by rw [wi_id (by decide) (by decide)]; rfl
    have u2 : (((4 : Nat) : Int)).tmod 4 = ((0 : Nat) : Int) := by decide
    have s3 : wi (((2 : Nat) : Int) + 3) = ((5 : Nat) : Int) := by rw [wi_id (by decide) (by decide)]; rfl
    have u3 : (((5 : Nat) : Int)).tmod 4 = ((1 : Nat) : Int) := by decide
    have hP3 := P3 2 (by decide)
    refine AWP.draw2 (bitB 4784119) mixed (by kernel_rfl) (fun j => .tuple [W.av, i64 0]) ?_
    simp only [go_sem, h6, h9, s1, s2, s3, u1, u2, u3]
    repeat first | refine ⟨by decide, ?_⟩ | refine ⟨hP3.draw, ?_⟩
    refine alloc_intro fun c12 h12 => ?_
    simp only [fresh_set] at h12
    simp only [go_sem, h6, h9, h12]
    repeat refine ⟨by decide, ?_⟩
    refine P2.useA ?_
    simp only [go_sem, h6, h9, h12]
    refine alloc_intro fun c14 h14 => ?_
    simp only [fresh_set] at h14
    have r0 : ((0 : Int) == 0) = true := by decide
    simp only [go_sem, h6, h9, h12, h14, r0]
    refine TW.useA ?_
    have r1 : (totN 0 a.ls + totN 0 b.ls + totN 0 c.ls + totN 0 e.ls == m64 (m64 (m64 (m64 (totN 0 a.ls) + totN 0 b.ls) + totN 0 c.ls) + totN 0 e.ls)) = true := by
      rw [m64_id (show totN 0 a.ls < 18446744073709551616 by clear h6 h9 h12 h14; omega), m1, m2, m3]; exact beq_self_eq_true _
    simp only [go_sem, h6, h9, h12, h14, r0, r1]
    refine hD.useA ?_
    simp only [go_sem, h6, h9, h12, h14, r0]
    refine hD.useA ?_
    have r2 : (W.g == 1) = true := by rw [hgW]; decide
    simp only [go_sem, h6, h9, h12, h14, r0, r2]
    refine hCk.useA ?_
    simp only [go_sem, r0]
    exact ⟨_, Sub.refl _⟩
  · have s1 : wi (((3 : Nat) : Int) + 1) = ((4 : Nat) : Int) := by rw [wi_id (by decide) (by decide)]; rfl
    have u1 : (((4 : Nat) : Int)).tmod 4 = ((0 : Nat) : Int) := by decide
    have s2 : wi (((3 : Nat) : Int) + 2) = ((5 : Nat) : Int) := by rw [wi_id (by decide) (by decide)]; rfl
    have u2 : (((5 : Nat) : Int)).tmod 4 = ((1 : Nat) : Int) := by decide
    have s3 : wi (((3 : Nat) : Int) + 3) = ((6 : Nat) : Int) := by rw [wi_id (by decide) (by decide)]; rfl
    have u3 : (((6 : Nat) : Int)).tmod 4 = ((2 : Nat) : Int) := by decide
    have hP3 := P3 3 (by decide)
    refine AWP.draw2 (bitB 4784119) mixed (by kernel_rfl) (fun j => .tuple [W.av, i64 0]) ?_
    simp only [go_sem, h6, h9, s1, s2, s3, u1, u2, u3]
    repeat first | refine ⟨by decide, ?_⟩ | refine ⟨hP3.draw, ?_⟩
    refine alloc_intro fun c12 h12 => ?_
    simp only [fresh_set] at h12
    simp only [go_sem, h6, h9, h12]
    repeat refine ⟨by decide, ?_⟩
    refine P2.useA ?_
    simp only [go_sem, h6, h9, h12]
    refine alloc_intro fun c14 h14 => ?_
    simp only [fresh_set] at h14
    have r0 : ((0 : Int) == 0) = true := by decide
    simp only [go_sem, h6, h9, h12, h14, r0]
    refine TW.useA ?_
    have r1 : (totN 0 a.ls + totN 0 b.ls + totN 0 c.ls + totN 0 e.ls == m64 (m64 (m64 (m64 (totN 0 a.ls) + totN 0 b.ls) + totN 0 c.ls) + totN 0 e.ls)) = true := by
      rw [m64_id (show totN 0 a.ls < 18446744073709551616 by clear h6 h9 h12 h14; omega), m1, m2, m3]; exact beq_self_eq_true _
    simp only [go_sem, h6, h9, h12, h14, r0, r1]
    refine hD.useA ?_
    simp only [go_sem, h6, h9, h12, h14, r0]
    refine hD.useA ?_
    have r2 : (W.g == 1) = true := by rw [hgW]; decide
    simp only [go_sem, h6, h9, h12, h14, r0, r2]
    refine hCk.useA ?_
    simp only [go_sem, r0]
    exact ⟨_, Sub.refl _⟩
end Go.Sk
end

-- LR
section
namespace Go.Sk
open Go Go.Proofs Go.ChangeShapes Go.WideShapes Go.ChangeAt Go.RowKit

theorem fit_deeds {N : Nat} {pv : PV} (h : Fit N (.sl [.int .u64, .int .u64]) pv) : ∃ l : List Deed, pv = .sl (l.map Deed.pv) ∧ (∀ e ∈ l, e.Ok) ∧ l.length ≤ N := by
  refine fit_list (pvf := Deed.pv) (ok := Deed.Ok) h (fun l hl hf => ?_)
  obtain ⟨a, b, rfl, ha, hb⟩ := fit_two hl hf
  obtain ⟨x, hx, rfl⟩ := fit_u64 ha
  obtain ⟨y, hy, rfl⟩ := fit_u64 hb
  exact ⟨⟨x, y⟩, rfl, hx, hy⟩
theorem fit_dls {N : Nat} {pv : PV} (h : Fit N (.sl [.sl [.int .u64, .int .u64]]) pv) : ∃ l : List (List Deed), pv = .sl (l.map dlE) ∧ (∀ x ∈ l, (∀ d ∈ x, d.Ok) ∧ x.length ≤ N) ∧ l.length ≤ N := by
  refine fit_list (pvf := dlE) (ok := fun x : List Deed => (∀ d ∈ x, d.Ok) ∧ x.length ≤ N) h (fun l hl hf => ?_)
  obtain ⟨a, rfl, ha⟩ := fit_one hl hf
  obtain ⟨x, rfl, h1, h2⟩ := fit_deeds ha
  exact ⟨x, rfl, h1, h2⟩
theorem fit_ints {N : Nat} {pv : PV} (h : Fit N (.sl [.int .i64]) pv) : ∃ l : List Int, pv = .sl (l.map fun n : Int => [PV.int .i64 n]) ∧ (∀ n ∈ l, -9223372036854775808 ≤ n ∧ n < 9223372036854775808) ∧ l.length ≤ N := by
  refine fit_list (pvf := fun n : Int => [PV.int .i64 n]) (ok := fun n : Int => -9223372036854775808 ≤ n ∧ n < 9223372036854775808) h (fun l hl hf => ?_)
  obtain ⟨a, rfl, ha⟩ := fit_one hl hf
  obtain ⟨x, h1, rfl⟩ := fit_i64 ha
  exact ⟨x, rfl, h1⟩
theorem fit_bytes {N : Nat} {pv : PV} (h : Fit N (.sl [.int .u8]) pv) : ∃ l : List Nat, pv = .sl (l.map fun n : Nat => [PV.int .u8 n]) ∧ (∀ n ∈ l, n < 256) ∧ l.length ≤ N := by
  refine fit_list (pvf := fun n : Nat => [PV.int .u8 n]) (ok := fun n : Nat => n < 256) h (fun l hl hf => ?_)
  obtain ⟨a, rfl, ha⟩ := fit_one hl hf
  obtain ⟨x, h1, rfl⟩ := fit_u8 ha
  exact ⟨x, rfl, h1⟩
theorem shInts : shOf Try.prog 8 22 = some [.sl [.int .i64]] := by kernel_rfl
theorem shBytes : shOf Try.prog 8 24 = some [.sl [.int .u8]] := by kernel_rfl
theorem shDls : shOf Try.prog 8 23 = some [.sl [.sl [.int .u64, .int .u64]]] := by kernel_rfl
theorem shTree : shOf Try.prog 8 38 = some [.int .i64, .sl [.int .u64, .int .u64], .sl [.int .u64, .int .u64], .sl [.int .u64, .int .u64], .sl [.int .u64, .int .u64], .int .u8] := by kernel_rfl
section
variable {H : Type} {enc : TypeId × Value → H}
set_option maxRecDepth 100000 in
theorem arg_ints {W : World} {base N : Nat} {v : Value} {d : DataW H} {p : List MemPlace} (hok : Value.okWide Try.prog W .any base 22 v) (h : DataW.Trod enc Try.prog W 0 (fun _ => true) true 22 v d p) (hN : Ytmpockfgppcnbaa.Rows.uptoBulk d ≤ N) :
    ∃ l : List Int, ((∀ n ∈ l, -9223372036854775808 ≤ n ∧ n < 9223372036854775808) ∧ l.length ≤ N) ∧ RepA (allD W) W v (.p (.sl (l.map fun n : Int => [PV.int .i64 n]))) := by
  obtain ⟨a, n, c, rfl⟩ := okWide_slice Try.underlying22 hok
  obtain ⟨pv, hf, hr⟩ := arg_one (N := N) (f := 8) (bulkOk H) shInts (fun c h => by cases h) h hN
  obtain ⟨l, rfl, h1, h2⟩ := fit_ints hf
  exact ⟨l, ⟨h1, h2⟩, hr⟩
set_option maxRecDepth 100000 in
theorem arg_bytes {W : World} {base N : Nat} {v : Value} {d : DataW H} {p : List MemPlace} (hok : Value.okWide Try.prog W .any base 24 v) (h : DataW.Trod enc Try.prog W 0 (fun _ => true) true 24 v d p) (hN : Ytmpockfgppcnbaa.Rows.uptoBulk d ≤ N) :
    ∃ l : List Nat, ((∀ n ∈ l, n < 256) ∧ l.length ≤ N) ∧ RepA (allD W) W v (.p (.sl (l.map fun n : Nat => [PV.int .u8 n]))) := by
  obtain ⟨a, n, c, rfl⟩ := okWide_slice Try.underlying24 hok
  obtain ⟨pv, hf, hr⟩ := arg_one (N := N) (f := 8) (bulkOk H) shBytes (fun c h => by cases h) h hN
  obtain ⟨l, rfl, h1, h2⟩ := fit_bytes hf
  exact ⟨l, ⟨h1, h2⟩, hr⟩
set_option maxRecDepth 100000 in
theorem arg_dls {W : World} {base N : Nat} {v : Value} {d : DataW H} {p : List MemPlace} (hok : Value.okWide Try.prog W .any base 23 v) (h : DataW.Trod enc Try.prog W 0 (fun _ => true) true 23 v d p) (hN : Ytmpockfgppcnbaa.Rows.uptoBulk d ≤ N) :
    ∃ l : List (List Deed), ((∀ x ∈ l, (∀ d ∈ x, d.Ok) ∧ x.length ≤ N) ∧ l.length ≤ N) ∧ RepA (allD W) W v (.p (.sl (l.map dlE))) := by
  obtain ⟨a, n, c, rfl⟩ := okWide_slice Try.underlying23 hok
  obtain ⟨pv, hf, hr⟩ := arg_one (N := N) (f := 8) (bulkOk H) shDls (fun c h => by cases h) h hN
  obtain ⟨l, rfl, h1, h2⟩ := fit_dls hf
  exact ⟨l, ⟨h1, h2⟩, hr⟩
set_option maxRecDepth 100000 in
theorem arg_u8 {W : World} {base N : Nat} {v : Value} {d : DataW H} {p : List MemPlace} (hok : Value.okWide Try.prog W .any base 5 v) (h : DataW.Trod enc Try.prog W 0 (fun _ => true) true 5 v d p) (hN : Ytmpockfgppcnbaa.Rows.uptoBulk d ≤ N) :
    ∃ n : Nat, n < 256 ∧ RepA (allD W) W v (.p (.int .u8 n)) := by
  obtain ⟨n, rfl⟩ := okWide_int Try.underlying5 hok
  obtain ⟨pv, hf, hr⟩ := arg_one (N := N) (f := 8) (bulkOk H) (show shOf Try.prog 8 5 = some [.int .u8] by kernel_rfl) (fun c h => by cases h) h hN
  obtain ⟨n, h1, rfl⟩ := fit_u8 hf
  exact ⟨n, h1, hr⟩
set_option maxRecDepth 100000 in
theorem arg_tree {W : World} {base : Nat} {v : Value} {d : DataW H} {p : List MemPlace} (hok : Value.okWide Try.prog W .any base 38 v) (h : DataW.Trod enc Try.prog W 0 (fun _ => true) true 38 v d p) (hN : Ytmpockfgppcnbaa.Rows.uptoBulk d ≤ 1048576) :
    ∃ t : Tree, t.Ok ∧ RepA (allD W) W v t.av := by
  obtain ⟨pvs, hl, hf, hr⟩ := arg_agg (N := 1048576) (f := 8) (bulkOk H) shTree (by rw [Try.underlying38]) hok h hN
  match pvs, hl with
  | [a, b, c, d', e, f], _ =>
    obtain ⟨x0, h0, e0⟩ := fit_i64 (hf 0 (by simp))
    obtain ⟨x1, e1, h1, n1⟩ := fit_deeds (hf 1 (by simp))
    obtain ⟨x2, e2, h2, n2⟩ := fit_deeds (hf 2 (by simp))
    obtain ⟨x3, e3, h3, n3⟩ := fit_deeds (hf 3 (by simp))
    obtain ⟨x4, e4, h4, n4⟩ := fit_deeds (hf 4 (by simp))
    obtain ⟨x5, h5, e5⟩ := fit_u8 (hf 5 (by simp))
    simp at e0 e1 e2 e3 e4 e5
    subst e0; subst e1; subst e2; subst e3; subst e4; subst e5
    exact ⟨⟨x0, x1, x2, x3, x4, x5⟩, ⟨h0.1, h0.2, ⟨h1, n1⟩, ⟨h2, n2⟩, ⟨h3, n3⟩, ⟨h4, n4⟩, h5⟩, hr⟩
end
end Go.Sk
end

-- L10d
section
namespace Go.Sk
open Go Go.Proofs Go.ChangeShapes Go.WideShapes Go.ChangeAt Go.RowKit

namespace replaySums
set_option maxRecDepth 100000 in
theorem contract (H : Type) (enc : TypeId × Value → H) (W : World) (base : Nat) (args : Array Value) (ds gs : List (DataW H)) (before : List MemPlace)
    (hval : ∀ (j : Nat) t v, Try.f8.params[j]? = some t → args[j]? = some v → Value.okWide Try.prog W .any base t v)
    (hW : DataW.Whole enc Try.prog Try.f8.params.toList Ytmpockfgppcnbaa.Rows.replaySumsSpec.vars false W args.toList ds gs before) (hk : Ytmpockfgppcnbaa.Rows.uptoSmall H (ds ++ gs) = true) :
    Calls Try.prog 8 args W fun e W' => ∃ v, e = .returned v ∧ Ytmpockfgppcnbaa.Rows.replaySumsSpec.post enc Try.prog Try.f8 false true false false W args v W' := by
  have hW' := hW
  obtain ⟨p, q, hA0, hV, rfl, hfz, hnd⟩ := hW
  have hA : DataW.TrodAll enc Try.prog W 0 (fun _ => true) true Try.f8.params.toList args.toList ds p := hA0
  rw [Try.params8] at hA hval
  obtain ⟨v0, vs0, d0, ds0, p0, q0, hargs, rfl, rfl, h0, r0⟩ := trodAll_cons hA
  obtain ⟨v1, vs1, d1, ds1, p1, q1, rfl, rfl, rfl, h1, r1⟩ := trodAll_cons r0
  obtain ⟨rfl, rfl, rfl⟩ := trodAll_nil r1
  obtain ⟨rfl, rfl⟩ := trodVars_none hV
  obtain rfl : args = #[v0, v1] := by cases args; simp_all
  have hb : Ytmpockfgppcnbaa.Rows.uptoBulkAll ([d0, d1] ++ []) ≤ 1048576 := of_decide_eq_true hk
  obtain ⟨b0, hb⟩ := small_cons hb
  obtain ⟨b1, hb⟩ := small_cons hb
  obtain ⟨t, ht, rep0⟩ := arg_tree (hval 0 38 v0 rfl rfl) h0 b0
  obtain ⟨n, hn, rep1⟩ := arg_u8 (hval 1 5 v1 rfl rfl) h1 b1
  refine ((law_ReplaySums t ht n hn) (allD W) W #[v0, v1] (rel_all W) ⟨rfl, fun i hi => ?_⟩).mono ?_
  · match i, hi with
    | 0, _ => exact rep0
    | 1, _ => exact rep1
  · rintro e W' ⟨v, rfl, x, S', D', rfl, _, hrep, hE⟩
    cases hrep with
    | p hrep =>
    cases hrep
    exact ⟨_, rfl, bridge kids full hW' rfl (by rw [Try.params8]; decide) rfl Try.underlying4 rfl rfl rfl hE.still⟩

set_option maxRecDepth 100000 in
theorem lifted (os : Os) (started : os.Started) (H : Type) (enc : TypeId × Value → H) (F : Stop.Interp) :
    ReturnsInHanded {} Try.checked os 8 .any ((Ytmpockfgppcnbaa.Rows.OpenSpec.upto Ytmpockfgppcnbaa.Rows.replaySumsSpec).pre6 enc Try.prog Try.f8 Ytmpockfgppcnbaa.Rows.replaySumsUptoRow.domain false) (((Ytmpockfgppcnbaa.Rows.OpenSpec.upto Ytmpockfgppcnbaa.Rows.replaySumsSpec).at F).post enc Try.prog Try.f8 false true false false) := by
  refine returnsInHanded_of_cond (C := Try.checked) (s := Ytmpockfgppcnbaa.Rows.OpenSpec.upto Ytmpockfgppcnbaa.Rows.replaySumsSpec) (k := Ytmpockfgppcnbaa.Rows.uptoSmall) rfl own started (by kernel_rfl) Try.func8
    (OpenSpec.witness (enc := enc) (C := Try.checked) (s := Ytmpockfgppcnbaa.Rows.OpenSpec.upto Ytmpockfgppcnbaa.Rows.replaySumsSpec) (k := Ytmpockfgppcnbaa.Rows.uptoSmall) rfl false ⟨#[], #[.agg #[.int .i64 0, .slice none 0 0, .slice none 0 0, .slice none 0 0, .slice none 0 0, .int .u8 0], .int .u8 0], []⟩ 12 (by kernel_rfl) (by kernel_rfl) (by kernel_rfl)
      (x := ([.agg [.lit (.int .i64 0), .agg [.nil, .nil, .nil, .nil], .lit (.int .u8 0)], .lit (.int .u8 0)], [], [])) (by kernel_rfl) rfl (by kernel_rfl)) ?_
  intro W base args ds gs before hval hW _ hk _
  exact contract H enc W base args ds gs before hval hW hk

theorem j1 : (Ytmpockfgppcnbaa.Rows.replaySumsUptoRow.inPlace == Try.prog.inPlace 8) = true := by kernel_rfl
theorem j2 : (Ytmpockfgppcnbaa.Rows.replaySumsUptoRow.unfollowed == Try.prog.unfollowed 8) = true := by kernel_rfl
theorem j3 : (Ytmpockfgppcnbaa.Rows.replaySumsUptoRow.recurses == Try.prog.recurses 8) = true := by kernel_rfl
theorem j4 : (Ytmpockfgppcnbaa.Rows.replaySumsUptoRow.named == Try.prog.varsNamed 8) = true := by kernel_rfl
theorem j5 : (Ytmpockfgppcnbaa.Rows.replaySumsUptoRow.plainKeys == Try.prog.plainKeys) = true := by kernel_rfl
theorem j6 : (Ytmpockfgppcnbaa.Rows.replaySumsUptoRow.lifted == Try.prog.liftsFinal) = true := by kernel_rfl
theorem j7 : (Try.prog.make == some Ytmpockfgppcnbaa.Rows.replaySumsUptoRow.make) = true := by kernel_rfl
set_option maxRecDepth 100000 in
theorem jf : joinedFacts Try.prog 8 Try.f8 (Ytmpockfgppcnbaa.Rows.OpenSpec.upto Ytmpockfgppcnbaa.Rows.replaySumsSpec).bare Ytmpockfgppcnbaa.Rows.replaySumsUptoRow = true := by
  unfold joinedFacts
  exact and_ok (and_ok (and_ok (and_ok (and_ok (and_ok (and_ok (and_ok (and_ok (and_ok (and_ok (and_ok (and_ok (and_ok (and_ok (and_ok (and_ok (and_ok (and_ok (and_ok (and_ok (and_ok (and_ok (and_ok (and_ok (and_ok (and_ok (and_ok (and_ok (and_ok (and_ok (by kernel_rfl) j_laid) j_maps) (by kernel_rfl)) (by kernel_rfl)) (by kernel_rfl)) (by kernel_rfl)) (by kernel_rfl)) (by kernel_rfl)) j1) j2) j3) j4) (by kernel_rfl)) (by kernel_rfl)) (by kernel_rfl)) (by kernel_rfl)) (by kernel_rfl)) (by kernel_rfl)) (by kernel_rfl)) (by kernel_rfl)) (by kernel_rfl)) j5) (by kernel_rfl)) j_heard) j_enter) j6) j7) (by kernel_rfl)) (by kernel_rfl)) (by kernel_rfl)) (by kernel_rfl)
end replaySums
theorem _root_.Go.Proofs.Ytmpockfgppcnbaa.replaySums_proved : Ytmpockfgppcnbaa.Rows.ReplaySumsUptoSaid :=
  OpenClaim.holds_of_cond 8 Try.f8 rfl rfl rfl rfl rfl rfl rfl ⟨rfl, rfl, rfl, rfl, rfl⟩ rfl rfl rfl rfl rfl (by kernel_rfl) Try.func8 replaySums.jf
    (of_decide_eq_true (by kernel_rfl)) (by unfold Func.isWrapper; first | (rw [if_pos (by decide +kernel)]; kernel_rfl) | (rw [if_neg (by decide +kernel)]; exact ⟨rfl, rfl⟩))
    (fun os started H enc _ F => replaySums.lifted os started H enc F)
#print axioms Go.Proofs.Ytmpockfgppcnbaa.replaySums_proved
end Go.Sk
end
