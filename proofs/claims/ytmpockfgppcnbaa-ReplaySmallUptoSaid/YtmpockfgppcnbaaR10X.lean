/- Texts W10q W10z LR L10f, joined. -/
import Derived.Test.YtmpockfgppcnbaaR10I
import Derived.Test.YtmpockfgppcnbaaSkY
import Derived.Test.YtmpockfgppcnbaaR10J
import Derived.Test.YtmpockfgppcnbaaLB
set_option linter.unusedSimpArgs false
set_option linter.unusedVariables false
set_option linter.unusedSectionVars false
-- W10q
section
namespace Go.Sk
open Go Go.Proofs

set_option maxHeartbeats 1000000 in
set_option maxRecDepth 4000 in
theorem law10_merged (l : List Hist) (hn : l.length ≤ 1000) (hf : ∀ h ∈ l, h.Fine) (hg4 : ∀ h ∈ l, h.g ≤ 4) :
    Pure Try.prog 11 [.p (.sl (l.map Hist.cs))] (.tuple [(withV [] l).1.av, (withV [] l).1.av, bl true]) := fun S => by
  refine callR_of Try.func11 rfl rfl (xc_ok (bitB 18429) _ _ _ ?_)
  simp only [go_sem]
  refine alloc_intro fun c2 h2 => ?_
  have y2 : S (.r c2) = none := h2
  simp only [go_sem]
  refine alloc_intro fun c3 h3 => ?_
  simp only [fresh_set] at h3
  have y3 : S (.r c3) = none := h3.2
  simp only [go_sem, h3]
  refine AWP.tip0 5 3 (by simp only [go_sem]) fun v hv => ?_
  simp only [freshv_setr] at hv
  simp only [go_sem, h3]
  refine AWP.iterE (ι := Option Nat) (fun loc j => ⟨Env.get [(0, .p (.sl (l.map Hist.cs))), (2, .sp c2 0), (3, .sp c3 0), (5, .ts v 3 loc ((l.take j).map Hist.cs)), (6, i64 j)],
    ((S.set (.r c2) (.cells [i64 0, i64 0, .nils])).set (.r c3) (.cells [i64 0, i64 0, .nils])).set (.v v) (.tip 3 j loc), 45, []⟩) l.length none ?_ ?_ ?_
  · refine le_of (by simp only [go_sem, List.take_zero, List.map_nil] <;> rfl) ?_ rfl rfl (by simp)
    ((try dsimp only); (repeat refine sub_set ?_ ?_) <;> first | ((repeat (first | exact Sub.refl _ | refine Sub.setF ?_ (by first | assumption | simp only [*]) | refine Sub.setV ?_ (by first | assumption | simp only [*]))); done) | (simp only [go_sem, h3, hv]; done) | (simp only [go_sem, h3, hv]; rfl) | rfl)
  · intro j loc hj jh
    have hqj : wi ((j : Int) + 1) = ((j + 1 : Nat) : Int) := wi_succ (show j < 4611686018427387904 by clear h3; omega)
    have htl : (l.take j).length = j := by rw [List.length_take]; exact Nat.min_eq_left (Nat.le_of_lt hj)
    have htl1 : (l.take (j + 1)).length = j + 1 := by rw [List.length_take]; exact Nat.min_eq_left hj
    have hget : (l.map Hist.cs).getD j [] = [.int .i64 (l[j]).k, .int .i64 (l[j]).g, .sl ((l[j]).ls.map lvE)] := by rw [getD_map' _ _ _ _ hj]; rfl
    have hrep : List.map Hist.cs (l.take j) ++ [[.int .i64 (l[j]).k, .int .i64 (l[j]).g, .sl ((l[j]).ls.map lvE)]] = List.map Hist.cs (l.take (j + 1)) := by
      rw [List.take_succ_eq_append_getElem hj, List.map_append]; rfl
    refine AWPH.step (xc_ok (bitB 18429) _ _ _ ?_)
    simp only [go_sem, hj, ltN' hj, hget, List.length_map]
    refine (law10_made l[j]).useA ?_
    simp only [go_sem, hv, htl, List.length_map]
    refine ⟨by rintro el rfl; rfl, hs_len, by clear h3; omega, by clear h3; omega, grow_intro fun loc' => ?_⟩
    simp only [go_sem, h3, hv, hqj, hrep]
    refine (jh loc').back ?_ (by simp) ?_
    · ((try dsimp only); (repeat refine sub_set ?_ ?_) <;> first | ((repeat (first | exact Sub.refl _ | refine Sub.setF ?_ (by first | assumption | simp only [*]) | refine Sub.setV ?_ (by first | assumption | simp only [*]))); done) | (simp only [go_sem, h3, hv, List.length_map, htl1, hrep]; done) | (simp only [go_sem, h3, hv, List.length_map, htl1, hrep]; rfl) | rfl)
    · simp only [go_sem, hqj]
  · intro loc
    have hM1 := replay_Merge l (by omega) hf hg4
    have hM2 := ref10_Merge l hn hf hg4
    refine AWPH.step (xc_ok (bitB 18429) _ _ _ ?_)
    simp only [go_sem, h3, hv, List.take_length, List.length_map]
    refine hM1.useA ?_
    simp only [go_sem, h3, hv]
    refine alloc_intro fun c7 h7 => ?_
    simp only [fresh_set, fresh_setv] at h7
    simp only [go_sem, h3, hv, h7]
    refine hM2.useA ?_
    simp only [go_sem, h3, hv, h7]
    refine alloc_intro fun c9 h9 => ?_
    simp only [fresh_set, fresh_setv] at h9
    simp only [go_sem, h3, hv, h7, h9]
    have hsm : (withV [] l).1.Small := by
      by_cases h0 : (withV [] l).2 = 0
      · exact (with_ok (came_iff hf h0)).2.1.good.small
      · rw [withV_no hf h0]; exact ⟨by decide, fun l hl => by cases hl⟩
    have hS : Pure Try.prog 28 [(withV [] l).1.av, (withV [] l).1.av] (bl true) := by
      have := law10_same (withV [] l).1 (withV [] l).1 hsm
      rwa [decide_eq_true rfl] at this
    have y7 : S (.r c7) = none := h7.2.2
    have y9 : S (.r c9) = none := h9.2.2.2
    refine AWP.drawX (fun b => b = c2 ∨ b = c3) (bitB 18429) mixed (by kernel_rfl) (by kernel_rfl) (fun j => bl true) ?_
    simp only [go_sem, h3, hv, h7, h9]
    refine ⟨hS.drawX, S, Sub.set (Sub.set (Sub.set (Sub.set (Sub.set (Sub.set (Sub.set (Sub.refl _) y2 _) y3 _) hv _) y7 _) y9 _) y2 _) y3 _, ?_⟩
    simp
end Go.Sk
end

-- W10z
section
namespace Go.Sk
open Go Go.Proofs

theorem inW_all (x : Nat) : inW 0 1 x = true := by unfold inW; simp
set_option maxHeartbeats 2000000 in
set_option maxRecDepth 8000 in
theorem law_ReplaySmall (t : Tree) (ho : t.Ok) : CallsR Try.prog 4 [t.av] noS (fun x _ => x = bl true) := by
  generalize noS = S
  have hL := ref10_Light t ho
  refine callsR_of Try.func4 rfl (xc_ok (bitB 4607) _ _ _ ?_)
  simp only [go_sem, Tree.av, Tree.pv]
  refine alloc_intro fun c1 h1 => ?_
  simp only [go_sem]
  refine law10_awake.useA ?_
  simp only [go_sem]
  refine hL.useA ?_
  cases hlb : t.lightB
  · simp only [go_sem, Bool.not_false]
    exact ⟨_, Sub.refl _⟩
  have hl := Tree.lightB_ok hlb
  obtain ⟨D, hk, hsz⟩ := build_deep hl
  have hfg := D.fine.good
  have hB := ref10_Build t ho hl
  have hR := law10_real t ho hl 0 1
  rw [real_all hl inW_all] at hR
  obtain ⟨d1, k1⟩ := made_deep t.k t.l1
  have hm1 := ref06_Made t.k t.l1 ho.k1 (by have := ho.o1.2; omega) ho.o1.1
  obtain ⟨z0, z1, z2, z3⟩ := hl.sz
  have hgD := D.gen
  have hg1 := d1.gen
  have hf2 : ∀ h ∈ [buildV t, madeD t.k t.l1], h.Fine := fun h hh => by
    simp only [List.mem_cons, List.not_mem_nil, or_false] at hh
    rcases hh with rfl | rfl
    · exact D.fine
    · exact d1.fine
  have hg2 : ∀ h ∈ [buildV t, madeD t.k t.l1], h.g ≤ 4 := fun h hh => by
    simp only [List.mem_cons, List.not_mem_nil, or_false] at hh
    rcases hh with rfl | rfl <;> omega
  have hM := law10_merged [buildV t, madeD t.k t.l1] (by simp) hf2 hg2
  have hMk := law10_made (buildV t)
  have hBk := check_Buckets (buildV t) hfg
  have hBd := ref09_Bound (buildV t).k (buildV t).g (totN 0 (buildV t).ls) ⟨hfg.k0, hfg.k1⟩ ⟨by omega, by omega⟩ (by have := hfg.tot; omega)
  have hfew := few_ok D.fine (by omega)
  have hLs := ref05_Least0 (buildV t).k.toNat (by have := hfg.k1; omega)
  have hkn : (((buildV t).k.toNat : Nat) : Int) = (buildV t).k := Int.toNat_of_nonneg (by have := hfg.k0; omega)
  rw [hkn] at hLs
  have hfin : ((buildV t).g = 4 ∧ (withV [] [buildV t, madeD t.k t.l1]).1.k = 0) ∨ ((buildV t).g ≠ 4 ∧ (withV [] [buildV t, madeD t.k t.l1]).1.g = (buildV t).g + 1 ∧ (withV [] [buildV t, madeD t.k t.l1]).1.Good) := by
    by_cases h4 : t.deep % 5 = 4
    · left
      refine ⟨by rw [hgD, h4]; rfl, ?_⟩
      rw [withV_g (by simp) rfl ?_ ?_]
      · rfl
      · rw [List.any_eq_false]
        intro h hh
        have hhd : ([buildV t, madeD t.k t.l1].headD zeroH).k = 2 + max t.k 0 % 30 := hk
        rw [hhd]
        simp only [List.mem_cons, List.not_mem_nil, or_false] at hh
        rcases hh with rfl | rfl
        · rw [hk]; simp
        · rw [k1]; simp
      · have := (maxG_ge [buildV t, madeD t.k t.l1]).2 (buildV t) (by simp)
        omega
    · right
      obtain ⟨_, p2, _, _⟩ := deep_two D d1 (by rw [hk, k1]) (by omega) (by omega)
      have := p2.gen
      exact ⟨by omega, by omega, p2.fine.good⟩
  have hk0 := hfg.k0
  obtain ⟨W, hW⟩ : ∃ W, (withV [] [buildV t, madeD t.k t.l1]).1 = W := ⟨_, rfl⟩
  rw [hW] at hM hfin
  obtain ⟨B, hBB⟩ : ∃ B, buildV t = B := ⟨_, rfl⟩
  obtain ⟨Q, hQ⟩ : ∃ Q, madeD t.k t.l1 = Q := ⟨_, rfl⟩
  have hwg : wi (B.g + 1) = B.g + 1 := wi_id (by rw [← hBB]; omega) (by rw [← hBB]; omega)
  rw [hBB] at hB hR hMk hBk hBd hfew hLs hfin hk0 hM
  rw [hQ] at hm1 hM
  have hlk : (B.k == B.k) = true := beq_self_eq_true _
  have hfew' : (((bksN B.ls : Nat) : Int) ≤ boundB B.k B.g (totN 0 B.ls)) = True := eq_true hfew
  simp only [go_sem, Bool.not_true]
  refine hB.useA ?_
  simp only [go_sem]
  refine alloc_intro fun c4 h4 => ?_
  simp only [fresh_set] at h4
  simp only [go_sem, h4]
  refine hR.useA ?_
  simp only [go_sem, h4]
  refine AWP.drawX (fun b => ¬ (b = c1 ∨ b = c4)) (bitB 4607) mixed (by kernel_rfl) (by kernel_rfl) (fun j => if j = 6 then Q.av else .tuple [W.av, W.av, bl true]) ?_
  simp only [go_sem, h4]
  refine ⟨by omega, by omega, hm1.drawX, hM.drawX, ?_⟩
  refine alloc_intro fun c6 h6 => ?_
  simp only [fresh_set] at h6
  simp only [go_sem, h4, h6]
  refine alloc_intro fun c7 h7 => ?_
  simp only [fresh_set] at h7
  simp only [go_sem, h4, h6, h7]
  have hT : ∀ x : Hist, x.Good → Pure Try.prog 19 [x.av] (u64 (totV x.ls)) := fun x g => hist_Total x.k x.g x.ls (by have := g.len; omega)
  have hT' : ∀ x : Hist, x.Good → Pure Try.prog 18 [x.av] (u64 (totV x.ls)) := fun x g => ref06_Total x.k x.g x.ls (by have := g.len; omega)
  refine AWP.draw2 (bitB 4607) mixed (by kernel_rfl) (fun j => if j = 6 then B.av else if j = 7 then i64 (bksN B.ls : Nat) else if j = 13 then i64 (boundB B.k B.g (totN 0 B.ls)) else if j = 44 then i64 B.k else u64 (totV W.ls)) ?_
  rcases hfin with ⟨e4, w0⟩ | ⟨n4, wg, wG⟩
  · have b4 : (B.g == 4) = true := beq_iff_eq.2 e4
    have b0 : (W.k == 0) = true := beq_iff_eq.2 w0
    simp only [go_sem, h4, h6, h7, hfew', b4, b0, hlk]
    exact ⟨hMk.draw, hBk.draw, hBd.draw, hLs.draw, _, Sub.refl _⟩
  · have b4 : (B.g == 4) = false := beq_false_of_ne n4
    have bg : (W.g == B.g + 1) = true := beq_iff_eq.2 wg
    have tt : ((((totV W.ls : Nat) : Int) == ((totV W.ls : Nat) : Int))) = true := beq_self_eq_true _
    simp only [go_sem, h4, h6, h7, hfew', b4, bg, hwg, hlk, tt]
    exact ⟨hMk.draw, hBk.draw, hBd.draw, (hT' W wG).draw, (hT W wG).draw, hLs.draw, _, Sub.refl _⟩
end Go.Sk
end

-- LR
section
namespace Go.Sk
open Go Go.Proofs Go.ChangeShapes Go.WideShapes Go.ChangeAt Go.RowKit

theorem fit_deeds {N : Nat} {pv : PV} (h : Fit N (.sl [.int .u64, .int .u64]) pv) : ∃ l : List Deed, pv = .sl (l.map Deed.pv) ∧ (∀ e ∈ l, e.Ok) ∧ l.length ≤ N := by
  refine fit_list (pvf := Deed.pv) (ok := Deed.Ok) h (fun l hl hf => ?_)
  obtain ⟨a, b, rfl, ha, hb⟩ := fit_two hl hf
  obtain ⟨x, hx, rfl⟩ := fit_u64 ha
  obtain ⟨y, hy, rfl⟩ := fit_u64 hb
  exact ⟨⟨x, y⟩, rfl, hx, hy⟩
theorem fit_dls {N : Nat} {pv : PV} (h : Fit N (.sl [.sl [.int .u64, .int .u64]]) pv) : ∃ l : List (List Deed), pv = .sl (l.map dlE) ∧ (∀ x ∈ l, (∀ d ∈ x, d.Ok) ∧ x.length ≤ N) ∧ l.length ≤ N := by
  refine fit_list (pvf := dlE) (ok := fun x : List Deed => (∀ d ∈ x, d.Ok) ∧ x.length ≤ N) h (fun l hl hf => ?_)
  obtain ⟨a, rfl, ha⟩ := fit_one hl hf
  obtain ⟨x, rfl, h1, h2⟩ := fit_deeds ha
  exact ⟨x, rfl, h1, h2⟩
theorem fit_ints {N : Nat} {pv : PV} (h : Fit N (.sl [.int .i64]) pv) : ∃ l : List Int, pv = .sl (l.map fun n : Int => [PV.int .i64 n]) ∧ (∀ n ∈ l, -9223372036854775808 ≤ n ∧ n < 9223372036854775808) ∧ l.length ≤ N := by
  refine fit_list (pvf := fun n : Int => [PV.int .i64 n]) (ok := fun n : Int => -9223372036854775808 ≤ n ∧ n < 9223372036854775808) h (fun l hl hf => ?_)
  obtain ⟨a, rfl, ha⟩ := fit_one hl hf
  obtain ⟨x, h1, rfl⟩ := fit_i64 ha
  exact ⟨x, rfl, h1⟩
theorem fit_bytes {N : Nat} {pv : PV} (h : Fit N (.sl [.int .u8]) pv) : ∃ l : List Nat, pv = .sl (l.map fun n : Nat => [PV.int .u8 n]) ∧ (∀ n ∈ l, n < 256) ∧ l.length ≤ N := by
  refine fit_list (pvf := fun n : Nat => [PV.int .u8 n]) (ok := fun n : Nat => n < 256) h (fun l hl hf => ?_)
  obtain ⟨a, rfl, ha⟩ := fit_one hl hf
  obtain ⟨x, h1, rfl⟩ := fit_u8 ha
  exact ⟨x, rfl, h1⟩
theorem shInts : shOf Try.prog 8 22 = some [.sl [.int .i64]] := by kernel_rfl
theorem shBytes : shOf Try.prog 8 24 = some [.sl [.int .u8]] := by kernel_rfl
theorem shDls : shOf Try.prog 8 23 = some [.sl [.sl [.int .u64, .int .u64]]] := by kernel_rfl
theorem shTree : shOf Try.prog 8 38 = some [.int .i64, .sl [.int .u64, .int .u64], .sl [.int .u64, .int .u64], .sl [.int .u64, .int .u64], .sl [.int .u64, .int .u64], .int .u8] := by kernel_rfl
section
variable {H : Type} {enc : TypeId × Value → H}
set_option maxRecDepth 100000 in
theorem arg_ints {W : World} {base N : Nat} {v : Value} {d : DataW H} {p : List MemPlace} (hok : Value.okWide Try.prog W .any base 22 v) (h : DataW.Trod enc Try.prog W 0 (fun _ => true) true 22 v d p) (hN : Ytmpockfgppcnbaa.Rows.uptoBulk d ≤ N) :
    ∃ l : List Int, ((∀ n ∈ l, -9223372036854775808 ≤ n ∧ n < 9223372036854775808) ∧ l.length ≤ N) ∧ RepA (allD W) W v (.p (.sl (l.map fun n : Int => [PV.int .i64 n]))) := by
  obtain ⟨a, n, c, rfl⟩ := okWide_slice Try.underlying22 hok
  obtain ⟨pv, hf, hr⟩ := arg_one (N := N) (f := 8) (bulkOk H) shInts (fun c h => by cases h) h hN
  obtain ⟨l, rfl, h1, h2⟩ := fit_ints hf
  exact ⟨l, ⟨h1, h2⟩, hr⟩
set_option maxRecDepth 100000 in
theorem arg_bytes {W : World} {base N : Nat} {v : Value} {d : DataW H} {p : List MemPlace} (hok : Value.okWide Try.prog W .any base 24 v) (h : DataW.Trod enc Try.prog W 0 (fun _ => true) true 24 v d p) (hN : Ytmpockfgppcnbaa.Rows.uptoBulk d ≤ N) :
    ∃ l : List Nat, ((∀ n ∈ l, n < 256) ∧ l.length ≤ N) ∧ RepA (allD W) W v (.p (.sl (l.map fun n : Nat => [PV.int .u8 n]))) := by
  obtain ⟨a, n, c, rfl⟩ := okWide_slice Try.underlying24 hok
  obtain ⟨pv, hf, hr⟩ := arg_one (N := N) (f := 8) (bulkOk H) shBytes (fun c h => by cases h) h hN
  obtain ⟨l, rfl, h1, h2⟩ := fit_bytes hf
  exact ⟨l, ⟨h1, h2⟩, hr⟩
set_option maxRecDepth 100000 in
theorem arg_dls {W : World} {base N : Nat} {v : Value} {d : DataW H} {p : List MemPlace} (hok : Value.okWide Try.prog W .any base 23 v) (h : DataW.Trod enc Try.prog W 0 (fun _ => true) true 23 v d p) (hN : Ytmpockfgppcnbaa.Rows.uptoBulk d ≤ N) :
    ∃ l : List (List Deed), ((∀ x ∈ l, (∀ d ∈ x, d.Ok) ∧ x.length ≤ N) ∧ l.length ≤ N) ∧ RepA (allD W) W v (.p (.sl (l.map dlE))) := by
  obtain ⟨a, n, c, rfl⟩ := okWide_slice Try.underlying23 hok
  obtain ⟨pv, hf, hr⟩ := arg_one (N := N) (f := 8) (bulkOk H) shDls (fun c h => by cases h) h hN
  obtain ⟨l, rfl, h1, h2⟩ := fit_dls hf
  exact ⟨l, ⟨h1, h2⟩, hr⟩
set_option maxRecDepth 100000 in
theorem arg_u8 {W : World} {base N : Nat} {v : Value} {d : DataW H} {p : List MemPlace} (hok : Value.okWide Try.prog W .any base 5 v) (h : DataW.Trod enc Try.prog W 0 (fun _ => true) true 5 v d p) (hN : Ytmpockfgppcnbaa.Rows.uptoBulk d ≤ N) :
    ∃ n : Nat, n < 256 ∧ RepA (allD W) W v (.p (.int .u8 n)) := by
  obtain ⟨n, rfl⟩ := okWide_int Try.underlying5 hok
  obtain ⟨pv, hf, hr⟩ := arg_one (N := N) (f := 8) (bulkOk H) (show shOf Try.prog 8 5 = some [.int .u8] by kernel_rfl) (fun c h => by cases h) h hN
  obtain ⟨n, h1, rfl⟩ := fit_u8 hf
  exact ⟨n, h1, hr⟩
set_option maxRecDepth 100000 in
theorem arg_tree {W : World} {base : Nat} {v : Value} {d : DataW H} {p : List MemPlace} (hok : Value.okWide Try.prog W .any base 38 v) (h : DataW.Trod enc Try.prog W 0 (fun _ => true) true 38 v d p) (hN : Ytmpockfgppcnbaa.Rows.uptoBulk d ≤ 1048576) :
    ∃ t : Tree, t.Ok ∧ RepA (allD W) W v t.av := by
  obtain ⟨pvs, hl, hf, hr⟩ := arg_agg (N := 1048576) (f := 8) (bulkOk H) shTree (by rw [Try.underlying38]) hok h hN
  match pvs, hl with
  | [a, b, c, d', e, f], _ =>
    obtain ⟨x0, h0, e0⟩ := fit_i64 (hf 0 (by simp))
    obtain ⟨x1, e1, h1, n1⟩ := fit_deeds (hf 1 (by simp))
    obtain ⟨x2, e2, h2, n2⟩ := fit_deeds (hf 2 (by simp))
    obtain ⟨x3, e3, h3, n3⟩ := fit_deeds (hf 3 (by simp))
    obtain ⟨x4, e4, h4, n4⟩ := fit_deeds (hf 4 (by simp))
    obtain ⟨x5, h5, e5⟩ := fit_u8 (hf 5 (by simp))
    simp at e0 e1 e2 e3 e4 e5
    subst e0; subst e1; subst e2; subst e3; subst e4; subst e5
    exact ⟨⟨x0, x1, x2, x3, x4, x5⟩, ⟨h0.1, h0.2, ⟨h1, n1⟩, ⟨h2, n2⟩, ⟨h3, n3⟩, ⟨h4, n4⟩, h5⟩, hr⟩
end
end Go.Sk
end

-- L10f
section
namespace Go.Sk
open Go Go.Proofs Go.ChangeShapes Go.WideShapes Go.ChangeAt Go.RowKit

namespace replaySmall
set_option maxRecDepth 100000 in
theorem contract (H : Type) (enc : TypeId × Value → H) (W : World) (base : Nat) (args : Array Value) (ds gs : List (DataW H)) (before : List MemPlace)
    (hval : ∀ (j : Nat) t v, Try.f4.params[j]? = some t → args[j]? = some v → Value.okWide Try.prog W .any base t v)
    (hW : DataW.Whole enc Try.prog Try.f4.params.toList Ytmpockfgppcnbaa.Rows.replaySmallSpec.vars false W args.toList ds gs before) (hk : Ytmpockfgppcnbaa.Rows.uptoSmall H (ds ++ gs) = true) :
    Calls Try.prog 4 args W fun e W' => ∃ v, e = .returned v ∧ Ytmpockfgppcnbaa.Rows.replaySmallSpec.post enc Try.prog Try.f4 false true false false W args v W' := by
  have hW' := hW
  obtain ⟨p, q, hA0, hV, rfl, hfz, hnd⟩ := hW
  have hA : DataW.TrodAll enc Try.prog W 0 (fun _ => true) true Try.f4.params.toList args.toList ds p := hA0
  rw [Try.params4] at hA hval
  obtain ⟨v0, vs0, d0, ds0, p0, q0, hargs, rfl, rfl, h0, r0⟩ := trodAll_cons hA
  obtain ⟨rfl, rfl, rfl⟩ := trodAll_nil r0
  obtain ⟨rfl, rfl⟩ := trodVars_none hV
  obtain rfl : args = #[v0] := by cases args; simp_all
  have hb : Ytmpockfgppcnbaa.Rows.uptoBulkAll ([d0] ++ []) ≤ 1048576 := of_decide_eq_true hk
  obtain ⟨b0, hb⟩ := small_cons hb
  obtain ⟨t, ht, rep0⟩ := arg_tree (hval 0 38 v0 rfl rfl) h0 b0
  refine ((law_ReplaySmall t ht) (allD W) W #[v0] (rel_all W) ⟨rfl, fun i hi => ?_⟩).mono ?_
  · match i, hi with
    | 0, _ => exact rep0
  · rintro e W' ⟨v, rfl, x, S', D', rfl, _, hrep, hE⟩
    cases hrep with
    | p hrep =>
    cases hrep
    exact ⟨_, rfl, bridge kids full hW' rfl (by rw [Try.params4]; decide) rfl Try.underlying4 rfl rfl rfl hE.still⟩

set_option maxRecDepth 100000 in
theorem lifted (os : Os) (started : os.Started) (H : Type) (enc : TypeId × Value → H) (F : Stop.Interp) :
    ReturnsInHanded {} Try.checked os 4 .any ((Ytmpockfgppcnbaa.Rows.OpenSpec.upto Ytmpockfgppcnbaa.Rows.replaySmallSpec).pre6 enc Try.prog Try.f4 Ytmpockfgppcnbaa.Rows.replaySmallUptoRow.domain false) (((Ytmpockfgppcnbaa.Rows.OpenSpec.upto Ytmpockfgppcnbaa.Rows.replaySmallSpec).at F).post enc Try.prog Try.f4 false true false false) := by
  refine returnsInHanded_of_cond (C := Try.checked) (s := Ytmpockfgppcnbaa.Rows.OpenSpec.upto Ytmpockfgppcnbaa.Rows.replaySmallSpec) (k := Ytmpockfgppcnbaa.Rows.uptoSmall) rfl own started (by kernel_rfl) Try.func4
    (OpenSpec.witness (enc := enc) (C := Try.checked) (s := Ytmpockfgppcnbaa.Rows.OpenSpec.upto Ytmpockfgppcnbaa.Rows.replaySmallSpec) (k := Ytmpockfgppcnbaa.Rows.uptoSmall) rfl false ⟨#[], #[.agg #[.int .i64 0, .slice none 0 0, .slice none 0 0, .slice none 0 0, .slice none 0 0, .int .u8 0]], []⟩ 12 (by kernel_rfl) (by kernel_rfl) (by kernel_rfl)
      (x := ([.agg [.lit (.int .i64 0), .agg [.nil, .nil, .nil, .nil], .lit (.int .u8 0)]], [], [])) (by kernel_rfl) rfl (by kernel_rfl)) ?_
  intro W base args ds gs before hval hW _ hk _
  exact contract H enc W base args ds gs before hval hW hk

theorem j1 : (Ytmpockfgppcnbaa.Rows.replaySmallUptoRow.inPlace == Try.prog.inPlace 4) = true := by kernel_rfl
theorem j2 : (Ytmpockfgppcnbaa.Rows.replaySmallUptoRow.unfollowed == Try.prog.unfollowed 4) = true := by kernel_rfl
theorem j3 : (Ytmpockfgppcnbaa.Rows.replaySmallUptoRow.recurses == Try.prog.recurses 4) = true := by kernel_rfl
theorem j4 : (Ytmpockfgppcnbaa.Rows.replaySmallUptoRow.named == Try.prog.varsNamed 4) = true := by kernel_rfl
theorem j5 : (Ytmpockfgppcnbaa.Rows.replaySmallUptoRow.plainKeys == Try.prog.plainKeys) = true := by kernel_rfl
theorem j6 : (Ytmpockfgppcnbaa.Rows.replaySmallUptoRow.lifted == Try.prog.liftsFinal) = true := by kernel_rfl
theorem j7 : (Try.prog.make == some Ytmpockfgppcnbaa.Rows.replaySmallUptoRow.make) = true := by kernel_rfl
set_option maxRecDepth 100000 in
theorem jf : joinedFacts Try.prog 4 Try.f4 (Ytmpockfgppcnbaa.Rows.OpenSpec.upto Ytmpockfgppcnbaa.Rows.replaySmallSpec).bare Ytmpockfgppcnbaa.Rows.replaySmallUptoRow = true := by
  unfold joinedFacts
  exact and_ok (and_ok (and_ok (and_ok (and_ok (and_ok (and_ok (and_ok (and_ok (and_ok (and_ok (and_ok (and_ok (and_ok (and_ok (and_ok (and_ok (and_ok (and_ok (and_ok (and_ok (and_ok (and_ok (and_ok (and_ok (and_ok (and_ok (and_ok (and_ok (and_ok (and_ok (by kernel_rfl) j_laid) j_maps) (by kernel_rfl)) (by kernel_rfl)) (by kernel_rfl)) (by kernel_rfl)) (by kernel_rfl)) (by kernel_rfl)) j1) j2) j3) j4) (by kernel_rfl)) (by kernel_rfl)) (by kernel_rfl)) (by kernel_rfl)) (by kernel_rfl)) (by kernel_rfl)) (by kernel_rfl)) (by kernel_rfl)) (by kernel_rfl)) j5) (by kernel_rfl)) j_heard) j_enter) j6) j7) (by kernel_rfl)) (by kernel_rfl)) (by kernel_rfl)) (by kernel_rfl)
end replaySmall
theorem _root_.Go.Proofs.Ytmpockfgppcnbaa.replaySmall_proved : Ytmpockfgppcnbaa.Rows.ReplaySmallUptoSaid :=
  OpenClaim.holds_of_cond 4 Try.f4 rfl rfl rfl rfl rfl rfl rfl ⟨rfl, rfl, rfl, rfl, rfl⟩ rfl rfl rfl rfl rfl (by kernel_rfl) Try.func4 replaySmall.jf
    (of_decide_eq_true (by kernel_rfl)) (by unfold Func.isWrapper; first | (rw [if_pos (by decide +kernel)]; kernel_rfl) | (rw [if_neg (by decide +kernel)]; exact ⟨rfl, rfl⟩))
    (fun os started H enc _ F => replaySmall.lifted os started H enc F)
#print axioms Go.Proofs.Ytmpockfgppcnbaa.replaySmall_proved
end Go.Sk
end
