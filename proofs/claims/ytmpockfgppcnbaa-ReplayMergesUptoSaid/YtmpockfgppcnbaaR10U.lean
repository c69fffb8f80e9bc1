/- Texts W10q W10v W10y LR L10e, joined. -/
import Derived.Test.YtmpockfgppcnbaaR10I
import Derived.Test.YtmpockfgppcnbaaSkY
import Derived.Test.YtmpockfgppcnbaaLB
set_option linter.unusedSimpArgs false
set_option linter.unusedVariables false
set_option linter.unusedSectionVars false
-- W10q
section
namespace Go.Sk
open Go Go.Proofs

set_option maxHeartbeats 1000000 in
set_option maxRecDepth 4000 in
theorem law10_merged (l : List Hist) (hn : l.length ≤ 1000) (hf : ∀ h ∈ l, h.Fine) (hg4 : ∀ h ∈ l, h.g ≤ 4) :
    Pure Try.prog 11 [.p (.sl (l.map Hist.cs))] (.tuple [(withV [] l).1.av, (withV [] l).1.av, bl true]) := fun S => by
  refine callR_of Try.func11 rfl rfl (xc_ok (bitB 18429) _ _ _ ?_)
  simp only [go_sem]
  refine alloc_intro fun c2 h2 => ?_
  have y2 : S (.r c2) = none := h2
  simp only [go_sem]
  refine alloc_intro fun c3 h3 => ?_
  simp only [fresh_set] at h3
  have y3 : S (.r c3) = none := h3.2
  simp only [go_sem, h3]
  refine AWP.tip0 5 3 (by simp only [go_sem]) fun v hv => ?_
  simp only [freshv_setr] at hv
  simp only [go_sem, h3]
  refine AWP.iterE (ι := Option Nat) (fun loc j => ⟨Env.get [(0, .p (.sl (l.map Hist.cs))), (2, .sp c2 0), (3, .sp c3 0), (5, .ts v 3 loc ((l.take j).map Hist.cs)), (6, i64 j)],
    ((S.set (.r c2) (.cells [i64 0, i64 0, .nils])).set (.r c3) (.cells [i64 0, i64 0, .nils])).set (.v v) (.tip 3 j loc), 45, []⟩) l.length none ?_ ?_ ?_
  · refine le_of (by simp only [go_sem, List.take_zero, List.map_nil] <;> rfl) ?_ rfl rfl (by simp)
    ((try dsimp only); (repeat refine sub_set ?_ ?_) <;> first | ((repeat (first | exact Sub.refl _ | refine Sub.setF ?_ (by first | assumption | simp only [*]) | refine Sub.setV ?_ (by first | assumption | simp only [*]))); done) | (simp only [go_sem, h3, hv]; done) | (simp only [go_sem, h3, hv]; rfl) | rfl)
  · intro j loc hj jh
    have hqj : wi ((j : Int) + 1) = ((j + 1 : Nat) : Int) := wi_succ (show j < 4611686018427387904 by clear h3; omega)
    have htl : (l.take j).length = j := by rw [List.length_take]; exact Nat.min_eq_left (Nat.le_of_lt hj)
    have htl1 : (l.take (j + 1)).length = j + 1 := by rw [List.length_take]; exact Nat.min_eq_left hj
    have hget : (l.map Hist.cs).getD j [] = [.int .i64 (l[j]).k, .int .i64 (l[j]).g, .sl ((l[j]).ls.map lvE)] := by rw [getD_map' _ _ _ _ hj]; rfl
    have hrep : List.map Hist.cs (l.take j) ++ [[.int .i64 (l[j]).k, .int .i64 (l[j]).g, .sl ((l[j]).ls.map lvE)]] = List.map Hist.cs (l.take (j + 1)) := by
      rw [List.take_succ_eq_append_getElem hj, List.map_append]; rfl
    refine AWPH.step (xc_ok (bitB 18429) _ _ _ ?_)
    simp only [go_sem, hj, ltN' hj, hget, List.length_map]
    refine (law10_made l[j]).useA ?_
    simp only [go_sem, hv, htl, List.length_map]
    refine ⟨by rintro el rfl; rfl, hs_len, by clear h3; omega, by clear h3; omega, grow_intro fun loc' => ?_⟩
    simp only [go_sem, h3, hv, hqj, hrep]
    refine (jh loc').back ?_ (by simp) ?_
    · ((try dsimp only); (repeat refine sub_set ?_ ?_) <;> first | ((repeat (first | exact Sub.refl _ | refine Sub.setF ?_ (by first | assumption | simp only [*]) | refine Sub.setV ?_ (by first | assumption | simp only [*]))); done) | (simp only [go_sem, h3, hv, List.length_map, htl1, hrep]; done) | (simp only [go_sem, h3, hv, List.length_map, htl1, hrep]; rfl) | rfl)
    · simp only [go_sem, hqj]
  · intro loc
    have hM1 := replay_Merge l (by omega) hf hg4
    have hM2 := ref10_Merge l hn hf hg4
    refine AWPH.step (xc_ok (bitB 18429) _ _ _ ?_)
    simp only [go_sem, h3, hv, List.take_length, List.length_map]
    refine hM1.useA ?_
    simp only [go_sem, h3, hv]
    refine alloc_intro fun c7 h7 => ?_
    simp only [fresh_set, fresh_setv] at h7
    simp only [go_sem, h3, hv, h7]
    refine hM2.useA ?_
    simp only [go_sem, h3, hv, h7]
    refine alloc_intro fun c9 h9 => ?_
    simp only [fresh_set, fresh_setv] at h9
    simp only [go_sem, h3, hv, h7, h9]
    have hsm : (withV [] l).1.Small := by
      by_cases h0 : (withV [] l).2 = 0
      · exact (with_ok (came_iff hf h0)).2.1.good.small
      · rw [withV_no hf h0]; exact ⟨by decide, fun l hl => by cases hl⟩
    have hS : Pure Try.prog 28 [(withV [] l).1.av, (withV [] l).1.av] (bl true) := by
      have := law10_same (withV [] l).1 (withV [] l).1 hsm
      rwa [decide_eq_true rfl] at this
    have y7 : S (.r c7) = none := h7.2.2
    have y9 : S (.r c9) = none := h9.2.2.2
    refine AWP.drawX (fun b => b = c2 ∨ b = c3) (bitB 18429) mixed (by kernel_rfl) (fun j => bl true) ?_
    simp only [go_sem, h3, hv, h7, h9]
    refine ⟨hS.drawX, S, Sub.set (Sub.set (Sub.set (Sub.set (Sub.set (Sub.set (Sub.set (Sub.refl _) y2 _) y3 _) hv _) y7 _) y9 _) y2 _) y3 _, ?_⟩
    simp
end Go.Sk
end

-- W10v
section
namespace Go.Sk
open Go Go.Proofs

noncomputable def madesL (k : Int) (l : List (List Deed)) : List Hist := l.map fun x => madeD k (x.take 20)
theorem mades_ok (k : Int) (l : List (List Deed)) : (∀ h ∈ madesL k l, h.Fine) ∧ (∀ h ∈ madesL k l, h.g ≤ 4) ∧ ∀ h ∈ madesL k l, h.k = 2 + max k 0 % 30 := by
  refine ⟨fun h hh => ?_, fun h hh => ?_, fun h hh => ?_⟩
  all_goals
    obtain ⟨x, _, rfl⟩ := List.mem_map.1 hh
    obtain ⟨d, hk⟩ := made_deep k (x.take 20)
  · exact d.fine
  · have := d.gen; omega
  · exact hk
theorem mades_len (k : Int) (l : List (List Deed)) : (madesL k l).length = l.length := by unfold madesL; rw [List.length_map]
theorem with_small {evs : List Event} {l : List Hist} (hf : ∀ h ∈ l, h.Fine) : (withV evs l).1.Small := by
  by_cases h0 : (withV evs l).2 = 0
  · exact (with_ok (came_iff hf h0)).2.1.good.small
  · rw [withV_no hf h0]; exact ⟨by decide, fun l hl => by cases hl⟩
set_option maxHeartbeats 2000000 in
set_option maxRecDepth 8000 in
theorem law_ReplayWith (l : List (List Deed)) (k : Int) (evs : List Event) (hl : ∀ x ∈ l, (∀ d ∈ x, d.Ok) ∧ x.length ≤ 1048576) (hll : l.length ≤ 1048576) (hk : k < 9223372036854775808) (he : ∀ e ∈ evs, e.Ok) (hel : evs.length ≤ 1048576) :
    CallsR Try.prog 7 [.p (.sl (l.map dlE)), i64 k, .p (evsP evs)] noS (fun x _ => x = bl true) := by
  generalize noS = S
  refine callsR_of Try.func7 rfl (xc_ok (bitB 75557863725923182706631) _ _ _ ?_)
  simp only [go_sem, evsP]
  refine law10_awake.useA ?_
  by_cases c1 : (l.length : Int) > 3
  · simp only [go_sem, c1, List.length_map]
    exact ⟨_, Sub.refl _⟩
  by_cases c2 : (evs.length : Int) > 20
  · simp only [go_sem, c1, c2, List.length_map]
    exact ⟨_, Sub.refl _⟩
  simp only [go_sem, c1, c2, List.length_map]
  refine AWP.tip0 8 3 (by simp only [go_sem]) fun v1 hv1 => ?_
  simp only [go_sem]
  refine AWP.tip0 9 3 (by simp only [go_sem]) fun v2 hv2 => ?_
  simp only [freshv_set] at hv2
  simp only [go_sem]
  have hln : l.length ≤ 3 := by omega
  have hHl := mades_len k l
  refine AWP.iterE (ι := Option Nat × Option Nat) (fun x i => ⟨Env.get [(0, .p (.sl (l.map dlE))), (1, i64 k), (2, .p (evsP evs)), (7, bl true), (8, .ts v1 3 x.1 (((madesL k l).take i).map Hist.cs)), (9, .ts v2 3 x.2 (((madesL k l).take i).map Hist.cs)), (10, i64 i)],
    (S.set (.v v1) (.tip 3 i x.1)).set (.v v2) (.tip 3 i x.2), 132, []⟩) l.length (none, none) ?_ ?_ ?_
  · refine le_of (by simp only [go_sem, List.take_zero, List.map_nil, evsP] <;> rfl) ?_ rfl rfl (by simp)
    ((try dsimp only); (repeat refine sub_set ?_ ?_) <;> first | ((repeat (first | exact Sub.refl _ | refine Sub.setF ?_ (by first | assumption | simp only [*]) | refine Sub.setV ?_ (by first | assumption | simp only [*]))); done) | (simp only [go_sem, hv2]; done) | (simp only [go_sem, hv2]; rfl) | rfl)
  · rintro i ⟨loc1, loc2⟩ hi ih
    have hqi : wi ((i : Int) + 1) = ((i + 1 : Nat) : Int) := wi_succ (show i < 4611686018427387904 by clear hv2; omega)
    obtain ⟨ho, hxl⟩ := hl _ (List.getElem_mem hi)
    have hmi : i < (madesL k l).length := by rw [hHl]; exact hi
    have hmg : (madesL k l)[i] = madeD k ((l[i]).take 20) := by simp only [madesL, List.getElem_map]
    have hm := ref06_Made k ((l[i]).take 20) hk (by rw [List.length_take]; clear hv2; omega) (fun d hd => ho d (List.mem_of_mem_take hd))
    have htl : ((madesL k l).take i).length = i := by rw [List.length_take]; exact Nat.min_eq_left (Nat.le_of_lt hmi)
    have htl1 : ((madesL k l).take (i + 1)).length = i + 1 := by rw [List.length_take]; exact Nat.min_eq_left hmi
    have hrep : List.map Hist.cs ((madesL k l).take i) ++ [[.int .i64 (madeD k ((l[i]).take 20)).k, .int .i64 (madeD k ((l[i]).take 20)).g, .sl ((madeD k ((l[i]).take 20)).ls.map lvE)]] = List.map Hist.cs ((madesL k l).take (i + 1)) := by
      rw [List.take_succ_eq_append_getElem hmi, List.map_append, hmg]; rfl
    have hget : (l.map dlE).getD i [] = [.sl ((l[i]).map Deed.pv)] := by rw [getD_map' _ _ _ _ hi]; rfl
    generalize madeD k ((l[i]).take 20) = H at *
    refine AWPH.step (xc_ok (bitB 75557863725923182706631) _ _ _ ?_)
    simp only [go_sem, hi, ltN' hi, hget, List.length_map]
    refine AWP.draw2 (bitB 75557863725923182706631) mixed (by kernel_rfl) (fun j => H.av) ?_
    simp only [go_sem, hi, ltN' hi, hget, List.length_map]
    have et : List.take ((if (20 : Int) < ((l[i]).length : Int) then (20 : Int) else ((l[i]).length : Int)).toNat - 0) (List.map Deed.pv l[i]) = ((l[i]).take 20).map Deed.pv := by
      rw [← List.map_take]
      congr 1
      split
      · rfl
      · rw [List.take_of_length_le (by omega), List.take_of_length_le (by omega)]
    rw [et]
    refine ⟨fun el h => by obtain ⟨x, _, rfl⟩ := List.mem_map.1 h; rfl, by split <;> omega, by split <;> omega, hm.draw, alloc_intro fun c11 h11 => ?_⟩
    simp only [fresh_set, fresh_setv] at h11
    simp only [go_sem, h11, hv1, hv2, List.length_map, htl]
    refine ⟨by rintro el rfl; rfl, hs_len, by clear hv2 h11; omega, by clear hv2 h11; omega, grow_intro fun loc1' => ?_⟩
    simp only [go_sem, h11, hv1, hv2, hrep, List.length_map, htl1]
    refine (law10_made H).useA ?_
    simp only [go_sem, h11, hv1, hv2, List.length_map, htl]
    refine ⟨by rintro el rfl; rfl, hs_len, by clear hv2 h11; omega, by clear hv2 h11; omega, grow_intro fun loc2' => ?_⟩
    simp only [go_sem, h11, hv1, hv2, hrep, List.length_map, htl1]
    refine (ih (loc1', loc2')).back ?_ (by simp) ?_
    · ((try dsimp only); (repeat refine sub_set ?_ ?_) <;> first | ((repeat (first | exact Sub.refl _ | refine Sub.setF ?_ (by first | assumption | simp only [*]) | refine Sub.setV ?_ (by first | assumption | simp only [*]))); done) | (simp only [go_sem, h11, hv1, hv2, hrep, List.length_map, htl1]; done) | (simp only [go_sem, h11, hv1, hv2, hrep, List.length_map, htl1]; rfl) | rfl)
    · simp only [go_sem, hqi]
  · rintro ⟨loc1, loc2⟩
    obtain ⟨m1, m2, m3⟩ := mades_ok k l
    refine AWPH.step (xc_ok (bitB 75557863725923182706631) _ _ _ ?_)
    rw [← hHl, List.take_length]
    generalize hHs : madesL k l = Hs at *
    have hnH : Hs.length ≤ 3 := by rw [hHl]; exact hln
    have hP := replay_With evs Hs (by clear hv2; omega) (by clear hv2; omega) he m1 m2
    have hR := ref10_With evs Hs (by clear hv2; omega) (by clear hv2; omega) he m1 m2
    have hsm := with_small (evs := evs) m1
    have hS : Pure Try.prog 28 [(withV evs Hs).1.av, (withV evs Hs).1.av] (bl true) := by
      have := law10_same (withV evs Hs).1 (withV evs Hs).1 hsm
      rwa [decide_eq_true rfl] at this
    simp only [go_sem, hHl, List.length_map]
    refine hP.useA ?_
    simp only [go_sem]
    refine alloc_intro fun c12 h12 => ?_
    simp only [fresh_set, fresh_setv] at h12
    simp only [go_sem, h12]
    refine hR.useA ?_
    simp only [go_sem, h12]
    refine alloc_intro fun c14 h14 => ?_
    simp only [fresh_set, fresh_setv] at h14
    simp only [go_sem, h12, h14]
    have hbb : ((withV evs Hs).2 == (withV evs Hs).2) = true := beq_self_eq_true _
    by_cases h0 : (withV evs Hs).2 = 0
    rotate_left
    · have e0 : ((withV evs Hs).2 == 0) = false := by simpa using h0
      simp only [go_sem, h12, h14, e0, hbb, evsP, List.length_map]
      refine hS.useA ?_
      simp only [go_sem]
      exact ⟨_, Sub.refl _⟩
    have e0 : ((withV evs Hs).2 == 0) = true := by simpa using h0
    by_cases h1 : evs.length = 1
    rotate_left
    · have e1 : ((evs.length : Int) == 1) = false := by
        have : ¬ (evs.length : Int) = 1 := by clear hv2 h14; omega
        simpa using this
      simp only [go_sem, h12, h14, e0, e1, hbb, evsP, List.length_map]
      refine hS.useA ?_
      simp only [go_sem]
      exact ⟨_, Sub.refl _⟩
    obtain ⟨ev, rfl⟩ : ∃ ev, evs = [ev] := by
      match evs, h1 with
      | [ev], _ => exact ⟨ev, rfl⟩
    have hc := came_iff m1 h0
    obtain ⟨w1, w2, w3⟩ := with_one hc
    obtain ⟨_, b2, b3, _⟩ := with_ok hc
    obtain ⟨K, hK⟩ : ∃ K, (Hs.headD zeroH).k = K := ⟨_, rfl⟩
    rw [hK] at w1 w2 w3 b3
    have hKb : 2 ≤ K ∧ K ≤ 1024 := by
      rw [← hK]
      exact ⟨(hc.fine _ (head_mem hc.ne)).good.k0, (hc.fine _ (head_mem hc.ne)).good.k1⟩
    have hne : (⟨K, 0, []⟩ : Hist).Good := ⟨hKb.1, hKb.2, fun l hl => (by cases hl), fun l hl => (by cases hl), Nat.zero_le _⟩
    have hev := (he ev (by simp)).w
    have hA := hist_addH ⟨K, 0, []⟩ hne.ok ev.t ev.w hev
    have hM := replay_Merge (Hs ++ [(addH ⟨K, 0, []⟩ ev.t ev.w).1]) (by rw [List.length_append]; show Hs.length + 1 < _; clear hv2 h14; omega) w3.fine (fun h hh => by
      rcases List.mem_append.1 hh with hh | hh
      · exact m2 h hh
      · rw [List.mem_singleton.1 hh]
        have hw := hc.w ev (by simp)
        have ht := hc.tot
        have hs1 : sumE Event.w [ev] = ev.w := by rw [sumE_cons, sumE_nil]; omega
        rw [hs1] at ht
        rw [(one_fine hKb.1 hKb.2 hw.2 hw.1 (by omega)).2.2.2.1]; decide)
    rw [w2] at hM
    have hD := hist_Same (withV [ev] Hs).1 (withV [ev] Hs).1 hsm
    rw [decide_eq_true rfl] at hD
    have e1 : (((1 : Nat) : Int) == 1) = true := by decide
    rw [h0] at hM
    generalize withV [ev] Hs = W at *
    obtain ⟨⟨wk, wg, wl⟩, wc⟩ := W
    dsimp only at *
    subst b3
    subst h0
    obtain ⟨one, ho⟩ : ∃ one, addH ⟨wk, 0, []⟩ ev.t ev.w = one := ⟨_, rfl⟩
    rw [ho] at hA hM
    simp only [go_sem, h12, h14, e1, evsP, List.length_map, List.map_cons, List.map_nil, List.length_cons, List.length_nil]
    refine AWP.draw2 (bitB 75557863725923182706631) mixed (by kernel_rfl) (fun j => .tuple [one.1.av, i64 one.2]) ?_
    simp only [go_sem, h12, h14, evsP, List.length_map, List.map_cons, List.map_nil, List.length_cons, List.length_nil, Event.pv]
    have hrp : List.map Hist.cs Hs ++ [[.int .i64 one.1.k, .int .i64 one.1.g, .sl (one.1.ls.map lvE)]] = List.map Hist.cs (Hs ++ [one.1]) := by rw [List.map_append]; rfl
    refine ⟨hA.draw, alloc_intro fun c16 h16 => ?_⟩
    simp only [fresh_set, fresh_setv] at h16
    simp only [go_sem, h12, h14, h16, hv1, hv2, hHl, List.length_map]
    refine ⟨by rintro el rfl; rfl, hs_len, by clear hv2 h14 h16; omega, by clear hv2 h14 h16; omega, grow_intro fun loc3 => ?_⟩
    simp only [go_sem, h12, h14, h16, hv1, hv2, hrp]
    refine hM.useA ?_
    simp only [go_sem, h12, h14, h16, hv1, hv2]
    refine alloc_intro fun c18 h18 => ?_
    simp only [fresh_set, fresh_setv] at h18
    have r0 : (((0 : Int)) == 0) = true := by decide
    simp only [go_sem, h12, h14, h16, h18, r0]
    refine hS.useA ?_
    simp only [go_sem, h12, h14, h16, h18, r0]
    refine hD.useA ?_
    simp only [go_sem]
    exact ⟨_, Sub.refl _⟩
end Go.Sk
end

-- W10y
section
namespace Go.Sk
open Go Go.Proofs

def kAt (ks : List Int) (i : Nat) : Int := if i < ks.length then ks.getD i 0 else 0
noncomputable def hAt (ks : List Int) (l : List (List Deed)) (gs : List Nat) (i : Nat) : Hist :=
  ⟨(madeD (kAt ks i) ((l.getD i []).take 20)).k, if i < gs.length then ((gs.getD i 0 % 5 : Nat) : Int) else 0, (madeD (kAt ks i) ((l.getD i []).take 20)).ls⟩
noncomputable def hsM (ks : List Int) (l : List (List Deed)) (gs : List Nat) : List Hist := (List.range l.length).map (hAt ks l gs)
theorem Hist.Fine.gen {h : Hist} (f : h.Fine) (g : Int) (hg : 0 ≤ g) : (⟨h.k, g, h.ls⟩ : Hist).Fine :=
  ⟨⟨f.good.k0, f.good.k1, f.good.ne, f.good.sm, f.good.tot⟩, f.tidy, f.far, hg, f.most⟩
theorem hsM_ok (ks : List Int) (l : List (List Deed)) (gs : List Nat) : (∀ h ∈ hsM ks l gs, h.Fine) ∧ ∀ h ∈ hsM ks l gs, h.g ≤ 4 := by
  refine ⟨fun h hh => ?_, fun h hh => ?_⟩
  · obtain ⟨i, _, rfl⟩ := List.mem_map.1 hh
    exact (made_deep (kAt ks i) ((l.getD i []).take 20)).1.fine.gen _ (by split <;> omega)
  · obtain ⟨i, _, rfl⟩ := List.mem_map.1 hh
    show (if i < gs.length then ((gs.getD i 0 % 5 : Nat) : Int) else 0) ≤ 4
    split <;> omega
set_option maxHeartbeats 2000000 in
set_option maxRecDepth 8000 in
theorem law_ReplayMerges (ks : List Int) (l : List (List Deed)) (gs : List Nat) (hk : ∀ n ∈ ks, -9223372036854775808 ≤ n ∧ n < 9223372036854775808) (hkl : ks.length ≤ 1048576) (hl : ∀ x ∈ l, (∀ d ∈ x, d.Ok) ∧ x.length ≤ 1048576) (hll : l.length ≤ 1048576) (hg : ∀ n ∈ gs, n < 256) (hgl : gs.length ≤ 1048576) :
    CallsR Try.prog 3 [.p (.sl (ks.map fun n : Int => [PV.int .i64 n])), .p (.sl (l.map dlE)), .p (.sl (gs.map fun n : Nat => [PV.int .u8 n]))] noS (fun x _ => x = bl true) := by
  generalize noS = S
  refine callsR_of Try.func3 rfl (xc_ok (bitB 1125900452384711) _ _ _ ?_)
  simp only [go_sem]
  refine law10_awake.useA ?_
  by_cases c1 : (l.length : Int) > 6
  · simp only [go_sem, c1, List.length_map]
    exact ⟨_, Sub.refl _⟩
  simp only [go_sem, c1, List.length_map]
  refine AWP.tip0 8 3 (by simp only [go_sem]) fun v1 hv1 => ?_
  simp only [go_sem]
  have hln : l.length ≤ 6 := by omega
  have hHl : (hsM ks l gs).length = l.length := by unfold hsM; rw [List.length_map, List.length_range]
  refine AWP.iterE (ι := Option Nat) (fun x i => ⟨Env.get [(0, .p (.sl (ks.map fun n : Int => [PV.int .i64 n]))), (1, .p (.sl (l.map dlE))), (2, .p (.sl (gs.map fun n : Nat => [PV.int .u8 n]))), (7, bl true), (8, .ts v1 3 x (((hsM ks l gs).take i).map Hist.cs)), (9, i64 i)],
    S.set (.v v1) (.tip 3 i x), 72, []⟩) l.length none ?_ ?_ ?_
  · refine le_of (by simp only [go_sem, List.take_zero, List.map_nil] <;> rfl) ?_ rfl rfl (by simp)
    ((try dsimp only); (repeat refine sub_set ?_ ?_) <;> first | ((repeat (first | exact Sub.refl _ | refine Sub.setF ?_ (by first | assumption | simp only [*]) | refine Sub.setV ?_ (by first | assumption | simp only [*]))); done) | (simp only [go_sem, hv1]; done) | (simp only [go_sem, hv1]; rfl) | rfl)
  · rintro i loc1 hi ih
    have hqi : wi ((i : Int) + 1) = ((i + 1 : Nat) : Int) := wi_succ (show i < 4611686018427387904 by omega)
    obtain ⟨ho, hxl⟩ := hl _ (List.getElem_mem hi)
    have hmi : i < (hsM ks l gs).length := by rw [hHl]; exact hi
    have hmg : (hsM ks l gs)[i] = hAt ks l gs i := by simp only [hsM, List.getElem_map, List.getElem_range]
    have hli : l.getD i [] = l[i] := by simp [List.getD_eq_getElem?_getD, hi]
    have hkb : kAt ks i < 9223372036854775808 := by
      unfold kAt
      split
      · rename_i h
        have e : ks.getD i 0 = ks[i] := by simp [List.getD_eq_getElem?_getD, h]
        rw [e]; exact (hk _ (List.getElem_mem h)).2
      · omega
    have hm := ref06_Made (kAt ks i) ((l[i]).take 20) hkb (by rw [List.length_take]; omega) (fun d hd => ho d (List.mem_of_mem_take hd))
    have htl : ((hsM ks l gs).take i).length = i := by rw [List.length_take]; exact Nat.min_eq_left (Nat.le_of_lt hmi)
    have htl1 : ((hsM ks l gs).take (i + 1)).length = i + 1 := by rw [List.length_take]; exact Nat.min_eq_left hmi
    have hget : (l.map dlE).getD i [] = [.sl ((l[i]).map Deed.pv)] := by rw [getD_map' _ _ _ _ hi]; rfl
    have hM0 := (made_deep (kAt ks i) ((l[i]).take 20)).1.gen
    obtain ⟨G, hG⟩ : ∃ G : Int, (if i < gs.length then ((gs.getD i 0 % 5 : Nat) : Int) else 0) = G := ⟨_, rfl⟩
    have hrep : List.map Hist.cs ((hsM ks l gs).take i) ++ [[.int .i64 (madeD (kAt ks i) ((l[i]).take 20)).k, .int .i64 G, .sl ((madeD (kAt ks i) ((l[i]).take 20)).ls.map lvE)]] = List.map Hist.cs ((hsM ks l gs).take (i + 1)) := by
      rw [List.take_succ_eq_append_getElem hmi, List.map_append, hmg, ← hG, ← hli]; rfl
    obtain ⟨H, hH⟩ : ∃ H, madeD (kAt ks i) ((l[i]).take 20) = H := ⟨_, rfl⟩
    rw [hH] at hm hM0 hrep
    have et : List.take ((if (20 : Int) < ((l[i]).length : Int) then (20 : Int) else ((l[i]).length : Int)).toNat - 0) (List.map Deed.pv l[i]) = ((l[i]).take 20).map Deed.pv := by
      rw [← List.map_take]
      congr 1
      split
      · rfl
      · rw [List.take_of_length_le (by omega), List.take_of_length_le (by omega)]
    have hM0' : H.g = 0 := hM0
    refine AWPH.step (xc_ok (bitB 1125900452384711) _ _ _ ?_)
    simp only [go_sem, hi, ltN' hi, List.length_map]
    by_cases k1 : i < ks.length
    · have hka : kAt ks i = ks[i] := by unfold kAt; rw [if_pos k1]; simp [List.getD_eq_getElem?_getD, k1]
      rw [hka] at hm
      simp only [go_sem, k1, ltN' k1, getD_map' _ _ _ _ k1, List.length_map]
      refine AWP.draw2 (bitB 1125900452384711) mixed (by kernel_rfl) (fun j => H.av) ?_
      simp only [go_sem, hi, ltN' hi, hget, List.length_map]
      rw [et]
      refine ⟨fun el h => by obtain ⟨x, _, rfl⟩ := List.mem_map.1 h; rfl, by split <;> omega, by split <;> omega, hm.draw, alloc_intro fun c11 h11 => ?_⟩
      simp only [fresh_set, fresh_setv] at h11
      by_cases g1 : i < gs.length
      · have hGe : wi ((gs[i] % 5 : Nat) : Int) = G := by
          rw [wi_id (by omega) (by omega), ← hG, if_pos g1]
          simp [List.getD_eq_getElem?_getD, g1]
        simp only [go_sem, h11, g1, ltN' g1, getD_map' _ _ _ _ g1, hv1, htl, List.length_map]
        rw [hGe]
        refine ⟨by rintro el rfl; rfl, hs_len, by clear h11; omega, by clear h11; omega, grow_intro fun loc1' => ?_⟩
        simp only [go_sem, h11, hv1, hrep, List.length_map, htl1]
        refine (ih loc1').back ?_ (by simp) ?_
        · ((try dsimp only); (repeat refine sub_set ?_ ?_) <;> first | ((repeat (first | exact Sub.refl _ | refine Sub.setF ?_ (by first | assumption | simp only [*]) | refine Sub.setV ?_ (by first | assumption | simp only [*]))); done) | (simp only [go_sem, h11, hv1, hrep, List.length_map, htl1]; done) | (simp only [go_sem, h11, hv1, hrep, List.length_map, htl1]; rfl) | rfl)
        · simp only [go_sem, hqi]
      · have hGe : H.g = G := by rw [hM0', ← hG, if_neg g1]
        rw [← hGe] at hrep
        simp only [go_sem, h11, g1, hv1, List.length_map, htl]
        refine ⟨by rintro el rfl; rfl, hs_len, by clear h11; omega, by clear h11; omega, grow_intro fun loc1' => ?_⟩
        simp only [go_sem, h11, hv1, hrep, List.length_map, htl1]
        refine (ih loc1').back ?_ (by simp) ?_
        · ((try dsimp only); (repeat refine sub_set ?_ ?_) <;> first | ((repeat (first | exact Sub.refl _ | refine Sub.setF ?_ (by first | assumption | simp only [*]) | refine Sub.setV ?_ (by first | assumption | simp only [*]))); done) | (simp only [go_sem, h11, hv1, hrep, List.length_map, htl1]; done) | (simp only [go_sem, h11, hv1, hrep, List.length_map, htl1]; rfl) | rfl)
        · simp only [go_sem, hqi]
    · have hka : kAt ks i = 0 := by unfold kAt; rw [if_neg k1]
      rw [hka] at hm
      simp only [go_sem, k1, List.length_map]
      refine AWP.draw2 (bitB 1125900452384711) mixed (by kernel_rfl) (fun j => H.av) ?_
      simp only [go_sem, hi, ltN' hi, hget, List.length_map]
      rw [et]
      refine ⟨fun el h => by obtain ⟨x, _, rfl⟩ := List.mem_map.1 h; rfl, by split <;> omega, by split <;> omega, hm.draw, alloc_intro fun c11 h11 => ?_⟩
      simp only [fresh_set, fresh_setv] at h11
      by_cases g1 : i < gs.length
      · have hGe : wi ((gs[i] % 5 : Nat) : Int) = G := by
          rw [wi_id (by omega) (by omega), ← hG, if_pos g1]
          simp [List.getD_eq_getElem?_getD, g1]
        simp only [go_sem, h11, g1, ltN' g1, getD_map' _ _ _ _ g1, hv1, htl, List.length_map]
        rw [hGe]
        refine ⟨by rintro el rfl; rfl, hs_len, by clear h11; omega, by clear h11; omega, grow_intro fun loc1' => ?_⟩
        simp only [go_sem, h11, hv1, hrep, List.length_map, htl1]
        refine (ih loc1').back ?_ (by simp) ?_
        · ((try dsimp only); (repeat refine sub_set ?_ ?_) <;> first | ((repeat (first | exact Sub.refl _ | refine Sub.setF ?_ (by first | assumption | simp only [*]) | refine Sub.setV ?_ (by first | assumption | simp only [*]))); done) | (simp only [go_sem, h11, hv1, hrep, List.length_map, htl1]; done) | (simp only [go_sem, h11, hv1, hrep, List.length_map, htl1]; rfl) | rfl)
        · simp only [go_sem, hqi]
      · have hGe : H.g = G := by rw [hM0', ← hG, if_neg g1]
        rw [← hGe] at hrep
        simp only [go_sem, h11, g1, hv1, List.length_map, htl]
        refine ⟨by rintro el rfl; rfl, hs_len, by clear h11; omega, by clear h11; omega, grow_intro fun loc1' => ?_⟩
        simp only [go_sem, h11, hv1, hrep, List.length_map, htl1]
        refine (ih loc1').back ?_ (by simp) ?_
        · ((try dsimp only); (repeat refine sub_set ?_ ?_) <;> first | ((repeat (first | exact Sub.refl _ | refine Sub.setF ?_ (by first | assumption | simp only [*]) | refine Sub.setV ?_ (by first | assumption | simp only [*]))); done) | (simp only [go_sem, h11, hv1, hrep, List.length_map, htl1]; done) | (simp only [go_sem, h11, hv1, hrep, List.length_map, htl1]; rfl) | rfl)
        · simp only [go_sem, hqi]
  · rintro loc1
    obtain ⟨m1, m2⟩ := hsM_ok ks l gs
    have hMg := law10_merged (hsM ks l gs) (by rw [hHl]; omega) m1 m2
    refine AWPH.step (xc_ok (bitB 1125900452384711) _ _ _ ?_)
    rw [← hHl, List.take_length]
    simp only [go_sem, hHl, List.length_map]
    refine hMg.useA ?_
    simp only [go_sem]
    refine alloc_intro fun c12 h12 => ?_
    simp only [fresh_set, fresh_setv] at h12
    simp only [go_sem, h12]
    refine alloc_intro fun c13 h13 => ?_
    simp only [fresh_set, fresh_setv] at h13
    simp only [go_sem, h12, h13]
    exact ⟨_, Sub.refl _⟩
end Go.Sk
end

-- LR
section
namespace Go.Sk
open Go Go.Proofs Go.ChangeShapes Go.WideShapes Go.ChangeAt Go.RowKit

theorem fit_deeds {N : Nat} {pv : PV} (h : Fit N (.sl [.int .u64, .int .u64]) pv) : ∃ l : List Deed, pv = .sl (l.map Deed.pv) ∧ (∀ e ∈ l, e.Ok) ∧ l.length ≤ N := by
  refine fit_list (pvf := Deed.pv) (ok := Deed.Ok) h (fun l hl hf => ?_)
  obtain ⟨a, b, rfl, ha, hb⟩ := fit_two hl hf
  obtain ⟨x, hx, rfl⟩ := fit_u64 ha
  obtain ⟨y, hy, rfl⟩ := fit_u64 hb
  exact ⟨⟨x, y⟩, rfl, hx, hy⟩
theorem fit_dls {N : Nat} {pv : PV} (h : Fit N (.sl [.sl [.int .u64, .int .u64]]) pv) : ∃ l : List (List Deed), pv = .sl (l.map dlE) ∧ (∀ x ∈ l, (∀ d ∈ x, d.Ok) ∧ x.length ≤ N) ∧ l.length ≤ N := by
  refine fit_list (pvf := dlE) (ok := fun x : List Deed => (∀ d ∈ x, d.Ok) ∧ x.length ≤ N) h (fun l hl hf => ?_)
  obtain ⟨a, rfl, ha⟩ := fit_one hl hf
  obtain ⟨x, rfl, h1, h2⟩ := fit_deeds ha
  exact ⟨x, rfl, h1, h2⟩
theorem fit_ints {N : Nat} {pv : PV} (h : Fit N (.sl [.int .i64]) pv) : ∃ l : List Int, pv = .sl (l.map fun n : Int => [PV.int .i64 n]) ∧ (∀ n ∈ l, -9223372036854775808 ≤ n ∧ n < 9223372036854775808) ∧ l.length ≤ N := by
  refine fit_list (pvf := fun n : Int => [PV.int .i64 n]) (ok := fun n : Int => -9223372036854775808 ≤ n ∧ n < 9223372036854775808) h (fun l hl hf => ?_)
  obtain ⟨a, rfl, ha⟩ := fit_one hl hf
  obtain ⟨x, h1, rfl⟩ := fit_i64 ha
  exact ⟨x, rfl, h1⟩
theorem fit_bytes {N : Nat} {pv : PV} (h : Fit N (.sl [.int .u8]) pv) : ∃ l : List Nat, pv = .sl (l.map fun n : Nat => [PV.int .u8 n]) ∧ (∀ n ∈ l, n < 256) ∧ l.length ≤ N := by
  refine fit_list (pvf := fun n : Nat => [PV.int .u8 n]) (ok := fun n : Nat => n < 256) h (fun l hl hf => ?_)
  obtain ⟨a, rfl, ha⟩ := fit_one hl hf
  obtain ⟨x, h1, rfl⟩ := fit_u8 ha
  exact ⟨x, rfl, h1⟩
theorem shInts : shOf Try.prog 8 22 = some [.sl [.int .i64]] := by kernel_rfl
theorem shBytes : shOf Try.prog 8 24 = some [.sl [.int .u8]] := by kernel_rfl
theorem shDls : shOf Try.prog 8 23 = some [.sl [.sl [.int .u64, .int .u64]]] := by kernel_rfl
theorem shTree : shOf Try.prog 8 38 = some [.int .i64, .sl [.int .u64, .int .u64], .sl [.int .u64, .int .u64], .sl [.int .u64, .int .u64], .sl [.int .u64, .int .u64], .int .u8] := by kernel_rfl
section
variable {H : Type} {enc : TypeId × Value → H}
set_option maxRecDepth 100000 in
theorem arg_ints {W : World} {base N : Nat} {v : Value} {d : DataW H} {p : List MemPlace} (hok : Value.okWide Try.prog W .any base 22 v) (h : DataW.Trod enc Try.prog W 0 (fun _ => true) true 22 v d p) (hN : Ytmpockfgppcnbaa.Rows.uptoBulk d ≤ N) :
    ∃ l : List Int, ((∀ n ∈ l, -9223372036854775808 ≤ n ∧ n < 9223372036854775808) ∧ l.length ≤ N) ∧ RepA (allD W) W v (.p (.sl (l.map fun n : Int => [PV.int .i64 n]))) := by
  obtain ⟨a, n, c, rfl⟩ := okWide_slice Try.underlying22 hok
  obtain ⟨pv, hf, hr⟩ := arg_one (N := N) (f := 8) (bulkOk H) shInts (fun c h => by cases h) h hN
  obtain ⟨l, rfl, h1, h2⟩ := fit_ints hf
  exact ⟨l, ⟨h1, h2⟩, hr⟩
set_option maxRecDepth 100000 in
theorem arg_bytes {W : World} {base N : Nat} {v : Value} {d : DataW H} {p : List MemPlace} (hok : Value.okWide Try.prog W .any base 24 v) (h : DataW.Trod enc Try.prog W 0 (fun _ => true) true 24 v d p) (hN : Ytmpockfgppcnbaa.Rows.uptoBulk d ≤ N) :
    ∃ l : List Nat, ((∀ n ∈ l, n < 256) ∧ l.length ≤ N) ∧ RepA (allD W) W v (.p (.sl (l.map fun n : Nat => [PV.int .u8 n]))) := by
  obtain ⟨a, n, c, rfl⟩ := okWide_slice Try.underlying24 hok
  obtain ⟨pv, hf, hr⟩ := arg_one (N := N) (f := 8) (bulkOk H) shBytes (fun c h => by cases h) h hN
  obtain ⟨l, rfl, h1, h2⟩ := fit_bytes hf
  exact ⟨l, ⟨h1, h2⟩, hr⟩
set_option maxRecDepth 100000 in
theorem arg_dls {W : World} {base N : Nat} {v : Value} {d : DataW H} {p : List MemPlace} (hok : Value.okWide Try.prog W .any base 23 v) (h : DataW.Trod enc Try.prog W 0 (fun _ => true) true 23 v d p) (hN : Ytmpockfgppcnbaa.Rows.uptoBulk d ≤ N) :
    ∃ l : List (List Deed), ((∀ x ∈ l, (∀ d ∈ x, d.Ok) ∧ x.length ≤ N) ∧ l.length ≤ N) ∧ RepA (allD W) W v (.p (.sl (l.map dlE))) := by
  obtain ⟨a, n, c, rfl⟩ := okWide_slice Try.underlying23 hok
  obtain ⟨pv, hf, hr⟩ := arg_one (N := N) (f := 8) (bulkOk H) shDls (fun c h => by cases h) h hN
  obtain ⟨l, rfl, h1, h2⟩ := fit_dls hf
  exact ⟨l, ⟨h1, h2⟩, hr⟩
set_option maxRecDepth 100000 in
theorem arg_u8 {W : World} {base N : Nat} {v : Value} {d : DataW H} {p : List MemPlace} (hok : Value.okWide Try.prog W .any base 5 v) (h : DataW.Trod enc Try.prog W 0 (fun _ => true) true 5 v d p) (hN : Ytmpockfgppcnbaa.Rows.uptoBulk d ≤ N) :
    ∃ n : Nat, n < 256 ∧ RepA (allD W) W v (.p (.int .u8 n)) := by
  obtain ⟨n, rfl⟩ := okWide_int Try.underlying5 hok
  obtain ⟨pv, hf, hr⟩ := arg_one (N := N) (f := 8) (bulkOk H) (show shOf Try.prog 8 5 = some [.int .u8] by kernel_rfl) (fun c h => by cases h) h hN
  obtain ⟨n, h1, rfl⟩ := fit_u8 hf
  exact ⟨n, h1, hr⟩
set_option maxRecDepth 100000 in
theorem arg_tree {W : World} {base : Nat} {v : Value} {d : DataW H} {p : List MemPlace} (hok : Value.okWide Try.prog W .any base 38 v) (h : DataW.Trod enc Try.prog W 0 (fun _ => true) true 38 v d p) (hN : Ytmpockfgppcnbaa.Rows.uptoBulk d ≤ 1048576) :
    ∃ t : Tree, t.Ok ∧ RepA (allD W) W v t.av := by
  obtain ⟨pvs, hl, hf, hr⟩ := arg_agg (N := 1048576) (f := 8) (bulkOk H) shTree (by rw [Try.underlying38]) hok h hN
  match pvs, hl with
  | [a, b, c, d', e, f], _ =>
    obtain ⟨x0, h0, e0⟩ := fit_i64 (hf 0 (by simp))
    obtain ⟨x1, e1, h1, n1⟩ := fit_deeds (hf 1 (by simp))
    obtain ⟨x2, e2, h2, n2⟩ := fit_deeds (hf 2 (by simp))
    obtain ⟨x3, e3, h3, n3⟩ := fit_deeds (hf 3 (by simp))
    obtain ⟨x4, e4, h4, n4⟩ := fit_deeds (hf 4 (by simp))
    obtain ⟨x5, h5, e5⟩ := fit_u8 (hf 5 (by simp))
    simp at e0 e1 e2 e3 e4 e5
    subst e0; subst e1; subst e2; subst e3; subst e4; subst e5
    exact ⟨⟨x0, x1, x2, x3, x4, x5⟩, ⟨h0.1, h0.2, ⟨h1, n1⟩, ⟨h2, n2⟩, ⟨h3, n3⟩, ⟨h4, n4⟩, h5⟩, hr⟩
end
end Go.Sk
end

-- L10e
section
namespace Go.Sk
open Go Go.Proofs Go.ChangeShapes Go.WideShapes Go.ChangeAt Go.RowKit

namespace replayMerges
set_option maxRecDepth 100000 in
theorem contract (H : Type) (enc : TypeId × Value → H) (W : World) (base : Nat) (args : Array Value) (ds gs : List (DataW H)) (before : List MemPlace)
    (hval : ∀ (j : Nat) t v, Try.f3.params[j]? = some t → args[j]? = some v → Value.okWide Try.prog W .any base t v)
    (hW : DataW.Whole enc Try.prog Try.f3.params.toList Ytmpockfgppcnbaa.Rows.replayMergesSpec.vars false W args.toList ds gs before) (hk : Ytmpockfgppcnbaa.Rows.uptoSmall H (ds ++ gs) = true) :
    Calls Try.prog 3 args W fun e W' => ∃ v, e = .returned v ∧ Ytmpockfgppcnbaa.Rows.replayMergesSpec.post enc Try.prog Try.f3 false true false false W args v W' := by
  have hW' := hW
  obtain ⟨p, q, hA0, hV, rfl, hfz, hnd⟩ := hW
  have hA : DataW.TrodAll enc Try.prog W 0 (fun _ => true) true Try.f3.params.toList args.toList ds p := hA0
  rw [Try.params3] at hA hval
  obtain ⟨v0, vs0, d0, ds0, p0, q0, hargs, rfl, rfl, h0, r0⟩ := trodAll_cons hA
  obtain ⟨v1, vs1, d1, ds1, p1, q1, rfl, rfl, rfl, h1, r1⟩ := trodAll_cons r0
  obtain ⟨v2, vs2, d2, ds2, p2, q2, rfl, rfl, rfl, h2, r2⟩ := trodAll_cons r1
  obtain ⟨rfl, rfl, rfl⟩ := trodAll_nil r2
  obtain ⟨rfl, rfl⟩ := trodVars_none hV
  obtain rfl : args = #[v0, v1, v2] := by cases args; simp_all
  have hb : Ytmpockfgppcnbaa.Rows.uptoBulkAll ([d0, d1, d2] ++ []) ≤ 1048576 := of_decide_eq_true hk
  obtain ⟨b0, hb⟩ := small_cons hb
  obtain ⟨b1, hb⟩ := small_cons hb
  obtain ⟨b2, hb⟩ := small_cons hb
  obtain ⟨ks, hk, rep0⟩ := arg_ints (hval 0 22 v0 rfl rfl) h0 b0
  obtain ⟨l, hl, rep1⟩ := arg_dls (hval 1 23 v1 rfl rfl) h1 b1
  obtain ⟨gs, hg, rep2⟩ := arg_bytes (hval 2 24 v2 rfl rfl) h2 b2
  refine ((law_ReplayMerges ks l gs hk.1 hk.2 hl.1 hl.2 hg.1 hg.2) (allD W) W #[v0, v1, v2] (rel_all W) ⟨rfl, fun i hi => ?_⟩).mono ?_
  · match i, hi with
    | 0, _ => exact rep0
    | 1, _ => exact rep1
    | 2, _ => exact rep2
  · rintro e W' ⟨v, rfl, x, S', D', rfl, _, hrep, hE⟩
    cases hrep with
    | p hrep =>
    cases hrep
    exact ⟨_, rfl, bridge kids full hW' rfl (by rw [Try.params3]; decide) rfl Try.underlying4 rfl rfl rfl hE.still⟩

set_option maxRecDepth 100000 in
theorem lifted (os : Os) (started : os.Started) (H : Type) (enc : TypeId × Value → H) (F : Stop.Interp) :
    ReturnsInHanded {} Try.checked os 3 .any ((Ytmpockfgppcnbaa.Rows.OpenSpec.upto Ytmpockfgppcnbaa.Rows.replayMergesSpec).pre6 enc Try.prog Try.f3 Ytmpockfgppcnbaa.Rows.replayMergesUptoRow.domain false) (((Ytmpockfgppcnbaa.Rows.OpenSpec.upto Ytmpockfgppcnbaa.Rows.replayMergesSpec).at F).post enc Try.prog Try.f3 false true false false) := by
  refine returnsInHanded_of_cond (C := Try.checked) (s := Ytmpockfgppcnbaa.Rows.OpenSpec.upto Ytmpockfgppcnbaa.Rows.replayMergesSpec) (k := Ytmpockfgppcnbaa.Rows.uptoSmall) rfl own started (by kernel_rfl) Try.func3
    (OpenSpec.witness (enc := enc) (C := Try.checked) (s := Ytmpockfgppcnbaa.Rows.OpenSpec.upto Ytmpockfgppcnbaa.Rows.replayMergesSpec) (k := Ytmpockfgppcnbaa.Rows.uptoSmall) rfl false ⟨#[], #[.slice none 0 0, .slice none 0 0, .slice none 0 0], []⟩ 12 (by kernel_rfl) (by kernel_rfl) (by kernel_rfl)
      (x := ([.nil, .nil, .nil], [], [])) (by kernel_rfl) rfl (by kernel_rfl)) ?_
  intro W base args ds gs before hval hW _ hk _
  exact contract H enc W base args ds gs before hval hW hk

theorem j1 : (Ytmpockfgppcnbaa.Rows.replayMergesUptoRow.inPlace == Try.prog.inPlace 3) = true := by kernel_rfl
theorem j2 : (Ytmpockfgppcnbaa.Rows.replayMergesUptoRow.unfollowed == Try.prog.unfollowed 3) = true := by kernel_rfl
theorem j3 : (Ytmpockfgppcnbaa.Rows.replayMergesUptoRow.recurses == Try.prog.recurses 3) = true := by kernel_rfl
theorem j4 : (Ytmpockfgppcnbaa.Rows.replayMergesUptoRow.named == Try.prog.varsNamed 3) = true := by kernel_rfl
theorem j5 : (Ytmpockfgppcnbaa.Rows.replayMergesUptoRow.plainKeys == Try.prog.plainKeys) = true := by kernel_rfl
theorem j6 : (Ytmpockfgppcnbaa.Rows.replayMergesUptoRow.lifted == Try.prog.liftsFinal) = true := by kernel_rfl
theorem j7 : (Try.prog.make == some Ytmpockfgppcnbaa.Rows.replayMergesUptoRow.make) = true := by kernel_rfl
set_option maxRecDepth 100000 in
theorem jf : joinedFacts Try.prog 3 Try.f3 (Ytmpockfgppcnbaa.Rows.OpenSpec.upto Ytmpockfgppcnbaa.Rows.replayMergesSpec).bare Ytmpockfgppcnbaa.Rows.replayMergesUptoRow = true := by
  unfold joinedFacts
  exact and_ok (and_ok (and_ok (and_ok (and_ok (and_ok (and_ok (and_ok (and_ok (and_ok (and_ok (and_ok (and_ok (and_ok (and_ok (and_ok (and_ok (and_ok (and_ok (and_ok (and_ok (and_ok (and_ok (and_ok (and_ok (and_ok (and_ok (and_ok (and_ok (and_ok (and_ok (by kernel_rfl) j_laid) j_maps) (by kernel_rfl)) (by kernel_rfl)) (by kernel_rfl)) (by kernel_rfl)) (by kernel_rfl)) (by kernel_rfl)) j1) j2) j3) j4) (by kernel_rfl)) (by kernel_rfl)) (by kernel_rfl)) (by kernel_rfl)) (by kernel_rfl)) (by kernel_rfl)) (by kernel_rfl)) (by kernel_rfl)) (by kernel_rfl)) j5) (by kernel_rfl)) j_heard) j_enter) j6) j7) (by kernel_rfl)) (by kernel_rfl)) (by kernel_rfl)) (by kernel_rfl)
end replayMerges
theorem _root_.Go.Proofs.Ytmpockfgppcnbaa.replayMerges_proved : Ytmpockfgppcnbaa.Rows.ReplayMergesUptoSaid :=
  OpenClaim.holds_of_cond 3 Try.f3 rfl rfl rfl rfl rfl rfl rfl ⟨rfl, rfl, rfl, rfl, rfl⟩ rfl rfl rfl rfl rfl (by kernel_rfl) Try.func3 replayMerges.jf
    (of_decide_eq_true (by kernel_rfl)) (by unfold Func.isWrapper; first | (rw [if_pos (by decide +kernel)]; kernel_rfl) | (rw [if_neg (by decide +kernel)]; exact ⟨rfl, rfl⟩))
    (fun os started H enc _ F => replayMerges.lifted os started H enc F)
#print axioms Go.Proofs.Ytmpockfgppcnbaa.replayMerges_proved
end Go.Sk
end
