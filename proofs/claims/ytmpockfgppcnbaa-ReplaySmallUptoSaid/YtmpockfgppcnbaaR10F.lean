/- Texts W10k W10l W10b W10c, joined. -/
import Derived.Test.YtmpockfgppcnbaaR10D
import Derived.Test.YtmpockfgppcnbaaW6d
import Derived.Test.YtmpockfgppcnbaaR10C
import Derived.Test.YtmpockfgppcnbaaSkTp
import Derived.Test.YtmpockfgppcnbaaSkRg
set_option linter.unusedSimpArgs false
set_option linter.unusedVariables false
set_option linter.unusedSectionVars false
-- W10k
section
namespace Go.Sk
open Go Go.Proofs

def Deed.pv (d : Deed) : List PV := [.int .u64 d.gap, .int .u64 d.w]
structure Deed.Ok (d : Deed) : Prop where
  g : d.gap < 18446744073709551616
  w : d.w < 18446744073709551616
def dlE (l : List Deed) : List PV := [.sl (l.map Deed.pv)]
def Tree.pv (t : Tree) : List PV := [.int .i64 t.k, .sl (t.l0.map Deed.pv), .sl (t.l1.map Deed.pv), .sl (t.l2.map Deed.pv), .sl (t.l3.map Deed.pv), .int .u8 t.deep]
def Tree.av (t : Tree) : AV := .agg (t.pv.map .p)
structure Tree.Ok (t : Tree) : Prop where
  k0 : -9223372036854775808 ≤ t.k
  k1 : t.k < 9223372036854775808
  o0 : (∀ d ∈ t.l0, d.Ok) ∧ t.l0.length ≤ 1048576
  o1 : (∀ d ∈ t.l1, d.Ok) ∧ t.l1.length ≤ 1048576
  o2 : (∀ d ∈ t.l2, d.Ok) ∧ t.l2.length ≤ 1048576
  o3 : (∀ d ∈ t.l3, d.Ok) ∧ t.l3.length ≤ 1048576
  d : t.deep < 256
def lsA (ls : List (List Span)) : AV := if ls = [] then .nils else .p (.sl (ls.map lvE))
theorem lsA_nil : lsA [] = .nils := if_pos rfl
theorem lsA_ne {ls : List (List Span)} (h : ls ≠ []) : lsA ls = .p (.sl (ls.map lvE)) := if_neg h
theorem addH_ne {h : Hist} (g : h.Good) {t w : Nat} (e : (addH h t w).2 = 0) : (addH h t w).1.ls ≠ [] := by
  obtain ⟨_, _, _, b4⟩ := addH_good g t w e
  have ho := addH_w e
  have := g.tot
  intro hc
  rw [hc] at b4
  have : totN 0 [] = 0 := rfl
  omega
set_option maxHeartbeats 2000000 in
set_option maxRecDepth 8000 in
theorem ref06_Made (k : Int) (l : List Deed) (hk1 : k < 9223372036854775808) (hn : l.length < 1099511627776) (ho : ∀ d ∈ l, d.Ok) :
    Pure Try.prog 10 [i64 k, .p (.sl (l.map Deed.pv))] (madeD k l).av := fun S => by
  refine callR_of Try.func10 rfl rfl (xc_ok (bitB 35184376284147) _ _ _ ?_)
  simp only [go_sem]
  refine alloc_intro fun c4 h4 => ?_
  have y4 : S (.r c4) = none := h4
  simp only [go_sem]
  have ek : wi (2 + (if 0 > k then 0 else k).tmod 30) = 2 + max k 0 % 30 := by
    have e1 : (if 0 > k then 0 else k) = max k 0 := by split <;> omega
    rw [e1, Int.tmod_eq_emod_of_nonneg (by omega)]
    exact wi_id (by omega) (by omega)
  rw [ek]
  refine ⟨by decide, alloc_intro fun c5 h5 => ?_⟩
  simp only [fresh_set] at h5
  have y5 : S (.r c5) = none := h5.2
  simp only [go_sem, h5]
  obtain ⟨F, hF⟩ : ∃ F : Nat → Hist × Nat, (fun i => madeF (newM k, 0) ((l.take 30).take i)) = F := ⟨_, rfl⟩
  have hFi : ∀ i, madeF (newM k, 0) ((l.take 30).take i) = F i := fun i => by rw [← hF]
  have hF0 : F 0 = (newM k, 0) := by rw [← hFi]; rfl
  have hln : (l.take 30).length = min 30 l.length := List.length_take
  have hFs : ∀ i (h : i < (l.take 30).length), F (i + 1) = madeS (F i) (l[i]'(by rw [hln] at h; omega)) := fun i h => by
    rw [← hFi, ← hFi, madeF_snoc _ _ _ h, List.getElem_take]
  have hFf : ∀ i, (F i).1.Fine ∧ (F i).2 ≤ 30000 := fun i => by
    have := madeF_at (k := k) l i
    rw [hFi] at this; exact ⟨this.1, this.2.1⟩
  have hres : madeD k l = (F (l.take 30).length).1 := by rw [← hFi, List.take_length]; rfl
  rw [hres]
  refine AWP.iter (fun i => ⟨Env.get [(1, .p (.sl (l.map Deed.pv))), (4, .sp c4 0), (5, .sp c5 0), (6, u64 (F i).2), (7, i64 i)],
    (S.set (.r c4) (.cells [i64 0, i64 0, .nils])).set (.r c5) (.cells [i64 (F i).1.k, i64 (F i).1.g, lsA (F i).1.ls]), 48, []⟩) (l.take 30).length ?_ ?_ ?_
  · refine le_of (by simp only [go_sem, hF0] <;> rfl) ?_ rfl rfl (by simp)
    have e0 : lsA (newM k).ls = .nils := lsA_nil
    rw [hF0, e0]
    ((try dsimp only); (repeat refine sub_set ?_ ?_) <;> first | ((repeat (first | exact Sub.refl _ | refine Sub.setF ?_ (by first | assumption | simp only [*]) | refine Sub.setV ?_ (by first | assumption | simp only [*]))); done) | (simp only [go_sem, h5, newM]; done) | (simp only [go_sem, h5, newM]; rfl) | rfl)
  · intro i hi ih
    have hil : i < l.length := by rw [hln] at hi; clear h5; omega
    have hi30 : (i : Int) < 30 := by rw [hln] at hi; clear h5; omega
    have hqi : wi ((i : Int) + 1) = ((i + 1 : Nat) : Int) := wi_succ (show i < 4611686018427387904 by clear h5; omega)
    have hfs := hFs i hi
    obtain ⟨hff, hft⟩ := hFf i
    have hlen2 : decide ((i : Int) < (l.length : Int)) = true := decide_eq_true (by clear h5; omega)
    refine AWPH.step (xc_ok (bitB 35184376284147) _ _ _ ?_)
    rw [hfs] at ih
    generalize F i = st at *
    obtain ⟨h, tk⟩ := st
    dsimp only at hff hft ih ⊢
    obtain ⟨T, hT⟩ : ∃ T, tk + (l[i]).gap % 1000 = T := ⟨_, rfl⟩
    have em : m64 (tk + (l[i]).gap % 1000) = T := by rw [m64_id (by clear h5; omega), hT]
    unfold madeS at ih
    dsimp only at ih
    rw [hT] at ih
    have hwi := (ho _ (List.getElem_mem hil)).w
    have hcall := ref06_addH h hff.good.ok T (l[i]).w hwi
    have hpv : (l.map Deed.pv).getD i [] = [.int .u64 (l[i]).gap, .int .u64 (l[i]).w] := by rw [getD_map' _ _ _ _ hil]; rfl
    simp only [go_sem, h5, hil, ltN' hil, hi30, hpv, List.length_map]
    obtain ⟨hk, hg, ls⟩ := h
    have hcd := hcall
    rw [em]
    cases ls with
    | nil =>
      rw [show lsA (Hist.mk hk hg []).ls = .nils from lsA_nil] at *
      refine AWP.draw2 (bitB 35184376284147) mixed (by kernel_rfl) (fun j => .tuple [(addH ⟨hk, hg, []⟩ T (l[i]).w).1.av, i64 (addH ⟨hk, hg, []⟩ T (l[i]).w).2]) ?_
      simp only [go_sem, h5, hil, ltN' hil, hi30, hpv, List.length_map]
      refine ⟨hcall.draw, alloc_intro fun c8 h8 => ?_⟩
      simp only [fresh_set] at h8
      simp only [go_sem, h5, h8]
      by_cases e : (addH ⟨hk, hg, []⟩ T (l[i]).w).2 = 0
      · have e' : ((addH ⟨hk, hg, []⟩ T (l[i]).w).2 == 0) = true := by simpa using e
        rw [if_pos e] at ih
        have hne := addH_ne hff.good e
        simp only [go_sem, h5, h8, e']
        refine ih.back ?_ (by simp) ?_
        · rw [lsA_ne hne]
          ((try dsimp only); (repeat refine sub_set ?_ ?_) <;> first | ((repeat (first | exact Sub.refl _ | refine Sub.setF ?_ (by first | assumption | simp only [*]) | refine Sub.setV ?_ (by first | assumption | simp only [*]))); done) | (simp only [go_sem, h5, h8]; done) | (simp only [go_sem, h5, h8]; rfl) | rfl)
        · simp only [go_sem, hqi]
      · have e' : ((addH ⟨hk, hg, []⟩ T (l[i]).w).2 == 0) = false := by simpa using e
        rw [if_neg e] at ih
        simp only [go_sem, h5, h8, e']
        refine ih.back ?_ (by simp) ?_
        · rw [show lsA (Hist.mk hk hg []).ls = .nils from lsA_nil]
          ((try dsimp only); (repeat refine sub_set ?_ ?_) <;> first | ((repeat (first | exact Sub.refl _ | refine Sub.setF ?_ (by first | assumption | simp only [*]) | refine Sub.setV ?_ (by first | assumption | simp only [*]))); done) | (simp only [go_sem, h5, h8]; done) | (simp only [go_sem, h5, h8]; rfl) | rfl)
        · simp only [go_sem, hqi]
    | cons x r =>
      have hcl : lsA (Hist.mk hk hg (x :: r)).ls = .p (.sl ((x :: r).map lvE)) := lsA_ne (by simp)
      generalize hls : x :: r = ls at *
      rw [hcl]
      refine AWP.draw2 (bitB 35184376284147) mixed (by kernel_rfl) (fun j => .tuple [(addH ⟨hk, hg, ls⟩ T (l[i]).w).1.av, i64 (addH ⟨hk, hg, ls⟩ T (l[i]).w).2]) ?_
      simp only [go_sem, h5, hil, ltN' hil, hi30, hpv, List.length_map]
      refine ⟨hcall.draw, alloc_intro fun c8 h8 => ?_⟩
      simp only [fresh_set] at h8
      simp only [go_sem, h5, h8]
      by_cases e : (addH ⟨hk, hg, ls⟩ T (l[i]).w).2 = 0
      · have e' : ((addH ⟨hk, hg, ls⟩ T (l[i]).w).2 == 0) = true := by simpa using e
        rw [if_pos e] at ih
        have hne := addH_ne hff.good e
        simp only [go_sem, h5, h8, e']
        refine ih.back ?_ (by simp) ?_
        · rw [lsA_ne hne]
          ((try dsimp only); (repeat refine sub_set ?_ ?_) <;> first | ((repeat (first | exact Sub.refl _ | refine Sub.setF ?_ (by first | assumption | simp only [*]) | refine Sub.setV ?_ (by first | assumption | simp only [*]))); done) | (simp only [go_sem, h5, h8]; done) | (simp only [go_sem, h5, h8]; rfl) | rfl)
        · simp only [go_sem, hqi]
      · have e' : ((addH ⟨hk, hg, ls⟩ T (l[i]).w).2 == 0) = false := by simpa using e
        rw [if_neg e] at ih
        simp only [go_sem, h5, h8, e']
        refine ih.back ?_ (by simp) ?_
        · rw [hcl]
          ((try dsimp only); (repeat refine sub_set ?_ ?_) <;> first | ((repeat (first | exact Sub.refl _ | refine Sub.setF ?_ (by first | assumption | simp only [*]) | refine Sub.setV ?_ (by first | assumption | simp only [*]))); done) | (simp only [go_sem, h5, h8]; done) | (simp only [go_sem, h5, h8]; rfl) | rfl)
        · simp only [go_sem, hqi]
  · refine AWPH.step (xc_ok (bitB 35184376284147) _ _ _ ?_)
    rw [hln]
    generalize F (min 30 l.length) = st
    obtain ⟨⟨hk, hg, ls⟩, tk⟩ := st
    dsimp only
    obtain ⟨n, hn2⟩ : ∃ n, min 30 l.length = n := ⟨_, rfl⟩
    rw [hn2]
    by_cases c3 : (n : Int) < (l.length : Int)
    · have c4' : ¬ (n : Int) < 30 := by clear h5; omega
      by_cases h0 : ls = []
      · subst h0
        rw [lsA_nil]
        simp only [go_sem, h5, List.length_map, c3, c4']
        (refine ⟨S, by (repeat (first | exact Sub.refl _ | refine Sub.setF ?_ (by first | assumption | simp only [*]) | refine Sub.setV ?_ (by first | assumption | simp only [*]))), ?_⟩); simp
      · rw [lsA_ne h0]
        simp only [go_sem, h5, List.length_map, c3, c4']
        (refine ⟨S, by (repeat (first | exact Sub.refl _ | refine Sub.setF ?_ (by first | assumption | simp only [*]) | refine Sub.setV ?_ (by first | assumption | simp only [*]))), ?_⟩); simp
    · by_cases h0 : ls = []
      · subst h0
        rw [lsA_nil]
        simp only [go_sem, h5, List.length_map, c3]
        (refine ⟨S, by (repeat (first | exact Sub.refl _ | refine Sub.setF ?_ (by first | assumption | simp only [*]) | refine Sub.setV ?_ (by first | assumption | simp only [*]))), ?_⟩); simp
      · rw [lsA_ne h0]
        simp only [go_sem, h5, List.length_map, c3]
        (refine ⟨S, by (repeat (first | exact Sub.refl _ | refine Sub.setF ?_ (by first | assumption | simp only [*]) | refine Sub.setV ?_ (by first | assumption | simp only [*]))), ?_⟩); simp
end Go.Sk
end

-- W10l
section
namespace Go.Sk
open Go Go.Proofs

set_option maxHeartbeats 2000000 in
set_option maxRecDepth 8000 in
theorem ref08_Exact (k : Int) (l : List Deed) (tick span : Nat) (hk1 : k < 9223372036854775808) (hn : l.length < 1099511627776) (ho : ∀ d ∈ l, d.Ok) :
    Pure Try.prog 34 [i64 k, .p (.sl (l.map Deed.pv)), u64 tick, u64 span] (u64 (cameD k l (inW tick span))) := fun S => by
  refine callR_of Try.func34 rfl rfl (xc_ok (bitB 37154697060056847) _ _ _ ?_)
  simp only [go_sem]
  have ek : wi (2 + (if 0 > k then 0 else k).tmod 30) = 2 + max k 0 % 30 := by
    have e1 : (if 0 > k then 0 else k) = max k 0 := by split <;> omega
    rw [e1, Int.tmod_eq_emod_of_nonneg (by omega)]
    exact wi_id (by omega) (by omega)
  rw [ek]
  refine ⟨by decide, alloc_intro fun c5 h5 => ?_⟩
  have y5 : S (.r c5) = none := h5
  simp only [go_sem, h5]
  obtain ⟨F, hF⟩ : ∃ F : Nat → (Hist × Nat) × Nat, (fun i => cameF (inW tick span) ((newM k, 0), 0) ((l.take 30).take i)) = F := ⟨_, rfl⟩
  have hFi : ∀ i, cameF (inW tick span) ((newM k, 0), 0) ((l.take 30).take i) = F i := fun i => by rw [← hF]
  have hF0 : F 0 = ((newM k, 0), 0) := by rw [← hFi]; rfl
  have hln : (l.take 30).length = min 30 l.length := List.length_take
  have hFs : ∀ i (h : i < (l.take 30).length), F (i + 1) = cameS (inW tick span) (F i) (l[i]'(by rw [hln] at h; omega)) := fun i h => by
    rw [← hFi, ← hFi, cameF_snoc _ _ _ _ h, List.getElem_take]
  have hFf : ∀ i, (F i).1.1.Fine ∧ (F i).1.2 ≤ 30000 ∧ (F i).2 ≤ 4503599627370496 := fun i => by
    obtain ⟨a, b⟩ := cameF_at (k := k) (inW tick span) l i
    rw [hFi] at a b
    exact ⟨a.fine, b, Nat.le_trans a.le a.fine.good.tot⟩
  have hres : cameD k l (inW tick span) = (F (l.take 30).length).2 := by rw [← hFi, List.take_length]; rfl
  rw [hres]
  refine AWP.iter (fun i => ⟨Env.get [(1, .p (.sl (l.map Deed.pv))), (2, u64 tick), (3, u64 span), (9, .sp c5 0), (10, u64 (F i).1.2), (11, u64 (F i).2), (12, i64 i)],
    S.set (.r c5) (.cells [i64 (F i).1.1.k, i64 (F i).1.1.g, lsA (F i).1.1.ls]), 64, []⟩) (l.take 30).length ?_ ?_ ?_
  · refine le_of (by simp only [go_sem, hF0] <;> rfl) ?_ rfl rfl (by simp)
    have e0 : lsA (newM k).ls = .nils := lsA_nil
    rw [hF0, e0]
    ((try dsimp only); (repeat refine sub_set ?_ ?_) <;> first | ((repeat (first | exact Sub.refl _ | refine Sub.setF ?_ (by first | assumption | simp only [*]) | refine Sub.setV ?_ (by first | assumption | simp only [*]))); done) | (simp only [go_sem, h5, newM]; done) | (simp only [go_sem, h5, newM]; rfl) | rfl)
  · intro i hi ih
    have hil : i < l.length := by rw [hln] at hi; clear h5; omega
    have hi30 : (i : Int) < 30 := by rw [hln] at hi; clear h5; omega
    have hqi : wi ((i : Int) + 1) = ((i + 1 : Nat) : Int) := wi_succ (show i < 4611686018427387904 by clear h5; omega)
    have hfs := hFs i hi
    obtain ⟨hff, hft, hfn⟩ := hFf i
    have hlen2 : decide ((i : Int) < (l.length : Int)) = true := decide_eq_true (by clear h5; omega)
    refine AWPH.step (xc_ok (bitB 37154697060056847) _ _ _ ?_)
    rw [hfs] at ih
    generalize F i = st at *
    obtain ⟨⟨h, tk⟩, n⟩ := st
    dsimp only at hff hft hfn ih ⊢
    obtain ⟨T, hT⟩ : ∃ T, tk + (l[i]).gap % 1000 = T := ⟨_, rfl⟩
    have em : m64 (tk + (l[i]).gap % 1000) = T := by rw [m64_id (by clear h5; omega), hT]
    unfold cameS madeS at ih
    dsimp only at ih
    rw [hT] at ih
    have hwi := (ho _ (List.getElem_mem hil)).w
    have hcall := ref06_addH h hff.good.ok T (l[i]).w hwi
    have hpv : (l.map Deed.pv).getD i [] = [.int .u64 (l[i]).gap, .int .u64 (l[i]).w] := by rw [getD_map' _ _ _ _ hil]; rfl
    simp only [go_sem, h5, hil, ltN' hil, hi30, hpv, List.length_map]
    obtain ⟨hk, hg, ls⟩ := h
    have hcd := hcall
    rw [em]
    cases ls with
    | nil =>
      rw [show lsA (Hist.mk hk hg []).ls = .nils from lsA_nil] at *
      refine AWP.draw2 (bitB 37154697060056847) mixed (by kernel_rfl) (fun j => .tuple [(addH ⟨hk, hg, []⟩ T (l[i]).w).1.av, i64 (addH ⟨hk, hg, []⟩ T (l[i]).w).2]) ?_
      simp only [go_sem, h5, hil, ltN' hil, hi30, hpv, List.length_map]
      refine ⟨hcall.draw, alloc_intro fun c8 h8 => ?_⟩
      simp only [fresh_set] at h8
      simp only [go_sem, h5, h8]
      by_cases e : (addH ⟨hk, hg, []⟩ T (l[i]).w).2 = 0
      · have e' : ((addH ⟨hk, hg, []⟩ T (l[i]).w).2 == 0) = true := by simpa using e
        rw [if_pos e, if_pos e] at ih
        have hne := addH_ne hff.good e
        have hwb := addH_w e
        have htt := hff.good.tot
        have em2 : m64 (n + (l[i]).w) = n + (l[i]).w := m64_id (by clear h5 h8; omega)
        simp only [go_sem, h5, h8, e']
        refine (ref08_Within T tick span).useA ?_
        cases hin : inW tick span T
        · rw [hin, if_neg (by simp), Nat.add_zero] at ih
          simp only [go_sem, h5, h8]
          refine ih.back ?_ (by simp) ?_
          · rw [lsA_ne hne]
            ((try dsimp only); (repeat refine sub_set ?_ ?_) <;> first | ((repeat (first | exact Sub.refl _ | refine Sub.setF ?_ (by first | assumption | simp only [*]) | refine Sub.setV ?_ (by first | assumption | simp only [*]))); done) | (simp only [go_sem, h5, h8]; done) | (simp only [go_sem, h5, h8]; rfl) | rfl)
          · simp only [go_sem, hqi]
        · rw [hin, if_pos rfl] at ih
          simp only [go_sem, h5, h8, hil, ltN' hil, hpv, List.length_map, em2]
          refine ih.back ?_ (by simp) ?_
          · rw [lsA_ne hne]
            ((try dsimp only); (repeat refine sub_set ?_ ?_) <;> first | ((repeat (first | exact Sub.refl _ | refine Sub.setF ?_ (by first | assumption | simp only [*]) | refine Sub.setV ?_ (by first | assumption | simp only [*]))); done) | (simp only [go_sem, h5, h8]; done) | (simp only [go_sem, h5, h8]; rfl) | rfl)
          · simp only [go_sem, hqi]
      · have e' : ((addH ⟨hk, hg, []⟩ T (l[i]).w).2 == 0) = false := by simpa using e
        rw [if_neg e, if_neg e] at ih
        simp only [go_sem, h5, h8, e']
        refine ih.back ?_ (by simp) ?_
        · rw [show lsA (Hist.mk hk hg []).ls = .nils from lsA_nil]
          ((try dsimp only); (repeat refine sub_set ?_ ?_) <;> first | ((repeat (first | exact Sub.refl _ | refine Sub.setF ?_ (by first | assumption | simp only [*]) | refine Sub.setV ?_ (by first | assumption | simp only [*]))); done) | (simp only [go_sem, h5, h8]; done) | (simp only [go_sem, h5, h8]; rfl) | rfl)
        · simp only [go_sem, hqi]
    | cons x r =>
      have hcl : lsA (Hist.mk hk hg (x :: r)).ls = .p (.sl ((x :: r).map lvE)) := lsA_ne (by simp)
      generalize hls : x :: r = ls at *
      rw [hcl]
      refine AWP.draw2 (bitB 37154697060056847) mixed (by kernel_rfl) (fun j => .tuple [(addH ⟨hk, hg, ls⟩ T (l[i]).w).1.av, i64 (addH ⟨hk, hg, ls⟩ T (l[i]).w).2]) ?_
      simp only [go_sem, h5, hil, ltN' hil, hi30, hpv, List.length_map]
      refine ⟨hcall.draw, alloc_intro fun c8 h8 => ?_⟩
      simp only [fresh_set] at h8
      simp only [go_sem, h5, h8]
      by_cases e : (addH ⟨hk, hg, ls⟩ T (l[i]).w).2 = 0
      · have e' : ((addH ⟨hk, hg, ls⟩ T (l[i]).w).2 == 0) = true := by simpa using e
        rw [if_pos e, if_pos e] at ih
        have hne := addH_ne hff.good e
        have hwb := addH_w e
        have htt := hff.good.tot
        have em2 : m64 (n + (l[i]).w) = n + (l[i]).w := m64_id (by clear h5 h8; omega)
        simp only [go_sem, h5, h8, e']
        refine (ref08_Within T tick span).useA ?_
        cases hin : inW tick span T
        · rw [hin, if_neg (by simp), Nat.add_zero] at ih
          simp only [go_sem, h5, h8]
          refine ih.back ?_ (by simp) ?_
          · rw [lsA_ne hne]
            ((try dsimp only); (repeat refine sub_set ?_ ?_) <;> first | ((repeat (first | exact Sub.refl _ | refine Sub.setF ?_ (by first | assumption | simp only [*]) | refine Sub.setV ?_ (by first | assumption | simp only [*]))); done) | (simp only [go_sem, h5, h8]; done) | (simp only [go_sem, h5, h8]; rfl) | rfl)
          · simp only [go_sem, hqi]
        · rw [hin, if_pos rfl] at ih
          simp only [go_sem, h5, h8, hil, ltN' hil, hpv, List.length_map, em2]
          refine ih.back ?_ (by simp) ?_
          · rw [lsA_ne hne]
            ((try dsimp only); (repeat refine sub_set ?_ ?_) <;> first | ((repeat (first | exact Sub.refl _ | refine Sub.setF ?_ (by first | assumption | simp only [*]) | refine Sub.setV ?_ (by first | assumption | simp only [*]))); done) | (simp only [go_sem, h5, h8]; done) | (simp only [go_sem, h5, h8]; rfl) | rfl)
          · simp only [go_sem, hqi]
      · have e' : ((addH ⟨hk, hg, ls⟩ T (l[i]).w).2 == 0) = false := by simpa using e
        rw [if_neg e, if_neg e] at ih
        simp only [go_sem, h5, h8, e']
        refine ih.back ?_ (by simp) ?_
        · rw [hcl]
          ((try dsimp only); (repeat refine sub_set ?_ ?_) <;> first | ((repeat (first | exact Sub.refl _ | refine Sub.setF ?_ (by first | assumption | simp only [*]) | refine Sub.setV ?_ (by first | assumption | simp only [*]))); done) | (simp only [go_sem, h5, h8]; done) | (simp only [go_sem, h5, h8]; rfl) | rfl)
        · simp only [go_sem, hqi]
  · refine AWPH.step (xc_ok (bitB 37154697060056847) _ _ _ ?_)
    rw [hln]
    generalize F (min 30 l.length) = st
    obtain ⟨⟨⟨hk, hg, ls⟩, tk⟩, cnt⟩ := st
    dsimp only
    obtain ⟨n, hn2⟩ : ∃ n, min 30 l.length = n := ⟨_, rfl⟩
    rw [hn2]
    by_cases c3 : (n : Int) < (l.length : Int)
    · have c4' : ¬ (n : Int) < 30 := by clear h5; omega
      by_cases h0 : ls = []
      · subst h0
        rw [lsA_nil]
        simp only [go_sem, h5, List.length_map, c3, c4']
        (refine ⟨S, by (repeat (first | exact Sub.refl _ | refine Sub.setF ?_ (by first | assumption | simp only [*]) | refine Sub.setV ?_ (by first | assumption | simp only [*]))), ?_⟩); simp
      · rw [lsA_ne h0]
        simp only [go_sem, h5, List.length_map, c3, c4']
        (refine ⟨S, by (repeat (first | exact Sub.refl _ | refine Sub.setF ?_ (by first | assumption | simp only [*]) | refine Sub.setV ?_ (by first | assumption | simp only [*]))), ?_⟩); simp
    · by_cases h0 : ls = []
      · subst h0
        rw [lsA_nil]
        simp only [go_sem, h5, List.length_map, c3]
        (refine ⟨S, by (repeat (first | exact Sub.refl _ | refine Sub.setF ?_ (by first | assumption | simp only [*]) | refine Sub.setV ?_ (by first | assumption | simp only [*]))), ?_⟩); simp
      · rw [lsA_ne h0]
        simp only [go_sem, h5, List.length_map, c3]
        (refine ⟨S, by (repeat (first | exact Sub.refl _ | refine Sub.setF ?_ (by first | assumption | simp only [*]) | refine Sub.setV ?_ (by first | assumption | simp only [*]))), ?_⟩); simp
end Go.Sk
end

-- W10b
section
namespace Go.Sk
open Go Go.Proofs

/-- All buckets of some. -/
def bucksH (l : List Hist) : List (Span × Nat) := l.flatMap fun h => bucksF 0 h.ls
theorem bucksH_next (l : List Hist) (a : Nat) (ha : a < l.length) : bucksH (l.take (a + 1)) = bucksH (l.take a) ++ bucksF 0 (l[a]).ls := by
  unfold bucksH; rw [List.take_succ_eq_append_getElem ha, List.flatMap_append]; simp
theorem bucksH_get (l : List Hist) (a : Nat) (ha : a < l.length) (q : Nat) (hq : q < (bucksF 0 (l[a]).ls).length) :
    (bucksH (l.take a)).length + q < (bucksH l).length ∧ (bucksH l).getD ((bucksH (l.take a)).length + q) default = (bucksF 0 (l[a]).ls).getD q default := by
  have e : bucksH l = bucksH (l.take a) ++ (bucksF 0 (l[a]).ls ++ bucksH (l.drop (a + 1))) := by
    have h1 : l = l.take a ++ l[a] :: l.drop (a + 1) := by rw [← List.drop_eq_getElem_cons ha, List.take_append_drop]
    have : bucksH (l.take a ++ l[a] :: l.drop (a + 1)) = bucksH (l.take a) ++ (bucksF 0 (l[a]).ls ++ bucksH (l.drop (a + 1))) := by
      unfold bucksH; rw [List.flatMap_append, List.flatMap_cons]
    rw [← h1] at this; exact this
  refine ⟨by rw [e]; simp only [List.length_append]; omega, ?_⟩
  rw [List.getD_eq_getElem?_getD, e, List.getElem?_append_right (by omega), Nat.add_sub_cancel_left, List.getElem?_append_left hq, List.getD_eq_getElem?_getD]
noncomputable def itemsH (L : List (Span × Nat)) : Nat → List AV := fun k => [.agg [u64 (L.getD k default).1.b, u64 (units (L.getD k default).2)]]
theorem Sub.both' {E T : Store} {k : Key} {x : Blk} (h1 : T k = none) (h2 : E k = none) : Sub (Store.join E T) (Store.join E (T.set k x)) := sub_join_set h1 h2

set_option maxHeartbeats 2000000 in
set_option maxRecDepth 4000 in
theorem lumps1 (l : List Hist) (hn : l.length < 1048576) (hs : ∀ h ∈ l, h.ls.length < 1099511627776 ∧ ∀ x ∈ h.ls, x.length < 1099511627776) {T0 : Store} {b : Nat} (h1 : T0 (.r b) = some (.cells [.p (.sl (l.map Hist.cs))])) :
    SeqR Try.prog 67 [] [.sp b 0] T0 (bucksH l).length (itemsH (bucksH l)) := by
  intro ll J Jx hy E hd h0
  simp only [List.nil_append, List.singleton_append]
  refine callR_of Try.func67 rfl rfl (xc_ok (bitB 68846296947) _ _ _ ?_)
  simp only [go_sem, h1]
  refine AWP.roam (ι := Nat × Store) (fun x => x.1 ≤ l.length ∧ Disj T0 x.2 ∧ J (bucksH (l.take x.1)).length x.2)
    (fun x => ⟨Env.get [(0, .fn (.yield ll) [] []), (1, .sp b 0), (9, .p (.sl (l.map Hist.cs))), (10, i64 l.length), (11, i64 x.1)], Store.join x.2 T0, 40, []⟩) (fun x => l.length - x.1) (0, E) ⟨by simp, hd, h0⟩ ?_ ?_
  · exact le_of (by simp only [go_sem, List.length_map] <;> rfl) (Sub.refl _) rfl rfl (by simp)
  · rintro ⟨a, E⟩ ⟨ha, hd, hJ⟩ kh
    dsimp only at ha hd hJ ⊢
    refine AWPH.step (xc_ok (bitB 68846296947) _ _ _ ?_)
    by_cases ca : a < l.length
    rotate_left
    · obtain rfl : a = l.length := by omega
      rw [List.take_length] at hJ
      simp only [go_sem]
      exact ⟨_, Sub.refl _, Or.inl ⟨E, rfl, hd, Or.inl hJ⟩⟩
    obtain ⟨hsa, hsb⟩ := hs _ (List.getElem_mem ca)
    have hnext := bucksH_next l a ca
    have hgetH := bucksH_get l a ca
    simp only [go_sem, ca, ltN' ca, getD_map' _ _ _ _ ca, List.length_map]
    generalize l[a] = hh at *
    obtain ⟨hk, hg, ls⟩ := hh
    dsimp only at hsa hsb hnext hgetH
    refine alloc_intro fun e hfe => ?_
    have hfe' := join_none hfe
    simp only [go_sem]
    rw [join_set]
    refine AWP.roam (ι := Nat × Store) (fun x => x.1 ≤ ls.length ∧ Disj T0 x.2 ∧ J ((bucksH (l.take a)).length + (bucksF 0 (ls.take x.1)).length) x.2)
      (fun x => ⟨Env.get [(0, .fn (.yield ll) [] []), (1, .sp b 0), (9, .p (.sl (l.map Hist.cs))), (10, i64 l.length), (11, i64 a), (16, .p (.sl (ls.map lvE))), (17, i64 ls.length), (18, i64 x.1)], Store.join x.2 T0, 40, []⟩) (fun x => ls.length - x.1) (0, E) ⟨by simp, hd, by simpa [bucksF] using hJ⟩ ?_ ?_
    · refine le_of (by simp only [go_sem, List.length_map] <;> simp) ?_ rfl rfl (by simp)
      exact sub_join_set hfe'.2 hfe'.1
    · rintro ⟨i, E⟩ ⟨hi, hd, hJ⟩ ih
      dsimp only at hi hd hJ ⊢
      refine AWPH.step (xc_ok (bitB 68846296947) _ _ _ ?_)
      by_cases c : i < ls.length
      rotate_left
      · obtain rfl : i = ls.length := by omega
        rw [List.take_length] at hJ
        simp only [go_sem]
        refine (kh (a + 1, E) ⟨ca, hd, by rw [hnext, List.length_append]; exact hJ⟩ (by dsimp only; omega)).back (Sub.refl _) (by simp) ?_
        simp only [go_sem, wi_succ (show a < 4611686018427387904 by omega)]
      have hll := hsb _ (List.getElem_mem c)
      simp only [go_sem, c, ltN' c, getD_map' _ _ _ _ c, lvE_mk]
      refine AWP.roam (ι := Nat × Store) (fun x => x.1 ≤ ls[i].length ∧ Disj T0 x.2 ∧ J ((bucksH (l.take a)).length + ((bucksF 0 (ls.take i)).length + x.1)) x.2)
        (fun x => ⟨Env.get [(0, .fn (.yield ll) [] []), (1, .sp b 0), (5, i64 i), (9, .p (.sl (l.map Hist.cs))), (10, i64 l.length), (11, i64 a), (16, .p (.sl (ls.map lvE))), (17, i64 ls.length), (18, i64 i), (23, .p (lvP ls[i])), (24, i64 ls[i].length), (25, i64 x.1)], Store.join x.2 T0, 40, []⟩) (fun x => ls[i].length - x.1) (0, E) ⟨by simp, hd, hJ⟩ ?_ ?_
      · exact le_of (by simp only [go_sem, lvP] <;> simp) (Sub.refl _) rfl rfl (by simp)
      · rintro ⟨j, E⟩ ⟨hj, hd, hJ⟩ jh
        dsimp only at hj hd hJ ⊢
        refine AWPH.step (xc_ok (bitB 68846296947) _ _ _ ?_)
        by_cases cj : j < ls[i].length
        rotate_left
        · obtain rfl : j = ls[i].length := by omega
          simp only [go_sem, lvP]
          refine (ih (i + 1, E) ⟨c, hd, by rw [bucks_next ls i c]; simpa using hJ⟩ (by dsimp only; omega)).back (Sub.refl _) (by simp) ?_
          simp only [go_sem, wi_succ (show i < 4611686018427387904 by omega)]
        have hget0 := bucks_get ls i c j cj
        have hget := hgetH _ hget0.1
        rw [hget0.2] at hget
        simp only [go_sem, lvP, cj, ltN' cj, getD_map' _ _ _ _ cj]
        refine alloc_intro fun d hfd => ?_
        have hfd' := join_none hfd
        simp only [go_sem]
        rw [join_set]
        have hyi := hy _ hget.1 E (T0.set (.r d) (.cells [u64 (ls[i][j]).a, u64 (ls[i][j]).b])) ((Sub.refl T0).set hfd'.2 _) (hd.setT hfd'.1 _) hJ
        simp only [itemsH, hget.2] at hyi
        have hjs : wi ((j : Int) + 1) = ((j + 1 : Nat) : Int) := wi_succ (show j < 4611686018427387904 by omega)
        refine AWP.orders (bitB 68846296947) mixed [[0,1,2,3,4,5,6,7],[0,1,3,2,4,5,6,7],[0,1,3,4,2,5,6,7],[0,3,1,2,4,5,6,7],[0,3,1,4,2,5,6,7],[0,3,4,1,2,5,6,7],[1,0,2,3,4,5,6,7],[1,0,3,2,4,5,6,7],[1,0,3,4,2,5,6,7],[1,2,0,3,4,5,6,7],[1,2,3,0,4,5,6,7],[1,2,3,4,0,5,6,7],[1,2,3,4,5,0,6,7],[1,3,0,2,4,5,6,7],[1,3,0,4,2,5,6,7],[1,3,2,0,4,5,6,7],[1,3,2,4,0,5,6,7],[1,3,2,4,5,0,6,7],[1,3,4,0,2,5,6,7],[1,3,4,2,0,5,6,7],[1,3,4,2,5,0,6,7],[3,0,1,2,4,5,6,7],[3,0,1,4,2,5,6,7],[3,0,4,1,2,5,6,7],[3,1,0,2,4,5,6,7],[3,1,0,4,2,5,6,7],[3,1,2,0,4,5,6,7],[3,1,2,4,0,5,6,7],[3,1,2,4,5,0,6,7],[3,1,4,0,2,5,6,7],[3,1,4,2,0,5,6,7],[3,1,4,2,5,0,6,7],[3,4,0,1,2,5,6,7],[3,4,1,0,2,5,6,7],[3,4,1,2,0,5,6,7],[3,4,1,2,5,0,6,7]] (by kernel_rfl) ?_
        simp only [List.forall_mem_cons, List.not_mem_nil, false_implies, implies_true, and_true, opsAt, List.getElem?_cons_zero, List.getElem?_cons_succ]
        repeat' (with_reducible refine And.intro ?_ ?_)
        all_goals
          simp only [go_sem]
          refine hyi.useA rfl ?_
          rintro r S' ⟨E', rfl, hd2, ⟨rfl, hJ2⟩ | ⟨rfl, hJ2⟩⟩
          · obtain ⟨hd3, hed⟩ := hd2.unsetT hfd'.2
            simp only [go_sem]
            refine (jh (j + 1, E') ⟨cj, hd3, by rw [← Nat.add_assoc, ← Nat.add_assoc]; rw [← Nat.add_assoc] at hJ2; exact hJ2⟩ (by dsimp only; omega)).back (sub_join_set hfd'.2 hed) (by simp) ?_
            simp only [go_sem, hjs, lvP]
          · obtain ⟨hd3, hed⟩ := hd2.unsetT hfd'.2
            simp only [go_sem]
            exact ⟨_, sub_join_set hfd'.2 hed, Or.inl ⟨E', rfl, hd3, Or.inr hJ2⟩⟩
theorem lumps_it (l : List Hist) (S : Store) : CallR Try.prog 46 [.p (.sl (l.map Hist.cs))] S
    (fun r S' => ∃ b, Fresh S b ∧ r = .fn (.func 67) [] [.sp b 0] ∧ S' = S.set (.r b) (.cells [.p (.sl (l.map Hist.cs))])) := by
  refine callR_of Try.func46 rfl rfl (xc_ok (bitB 7) _ _ _ ?_)
  simp only [go_sem]
  refine alloc_intro fun b hb => ?_
  simp only [go_sem]
  exact ⟨_, Sub.refl _, Or.inl ⟨b, hb, rfl, rfl⟩⟩
end Go.Sk
end

-- W10c
section
namespace Go.Sk
open Go Go.Proofs

def lumE (x : Nat × Nat) : List PV := [.int .u64 x.1, .int .u64 x.2]
theorem lum_len {l : List (Nat × Nat)} : ∀ el ∈ l.map lumE, el.length = 2 := by
  intro el h; obtain ⟨x, _, rfl⟩ := List.mem_map.1 h; rfl
theorem lumpsD_len : ∀ (ls : List (List Span)) i, (lumpsD i ls).length = bksN ls := by
  intro ls
  induction ls with
  | nil => intro i; rfl
  | cons l r ih => intro i; show (lumpsD (i + 1) r ++ l.map (fun s : Span => (s.b, 2 ^ i))).length = _; rw [List.length_append, ih, List.length_map]; unfold bksN; rw [List.map_cons, List.sum_cons]; omega
theorem good_bks {h : Hist} (g : h.Good) : bksN h.ls ≤ 60000 := by
  have h1 := bks_le (c := h.k.toNat + 2) h.ls g.sm
  have h2 := g.len
  have h3 := g.k1
  have h4 : (h.k.toNat + 2) * h.ls.length ≤ 1026 * 53 := Nat.mul_le_mul (by omega) h2
  omega
theorem lumpsR_len : ∀ (l : List Hist), (∀ h ∈ l, h.Good) → (lumpsR l).length ≤ l.length * 60000 := by
  intro l
  induction l with
  | nil => intro _; exact Nat.le_refl _
  | cons h r ih =>
    intro hg
    have h1 := good_bks (hg h (by simp))
    have h2 := ih (fun x hx => hg x (by simp [hx]))
    have e : lumpsR (h :: r) = lumpsD 0 h.ls ++ lumpsR r := by unfold lumpsR; rw [List.flatMap_cons]
    rw [e, List.length_append, lumpsD_len, List.length_cons]; omega
theorem lumpsR_next (l : List Hist) (i : Nat) (hi : i < l.length) : lumpsR (l.take (i + 1)) = lumpsR (l.take i) ++ lumpsD 0 (l[i]).ls := by
  unfold lumpsR; rw [List.take_succ_eq_append_getElem hi, List.flatMap_append]; simp
theorem lumpsD_drop (ls : List (List Span)) (m : Nat) (hm : m < ls.length) : lumpsD m (ls.drop m) = lumpsD (m + 1) (ls.drop (m + 1)) ++ (ls[m]).map (fun s : Span => (s.b, 2 ^ m)) := by
  rw [List.drop_eq_getElem_cons hm]; rfl
theorem units_two {i : Nat} (h : i < 64) : units i = 2 ^ i := by
  have h1 : (2 : Nat) ^ i < 2 ^ 64 := Nat.pow_lt_pow_right (by decide) h
  have e : (2 : Nat) ^ 64 = 18446744073709551616 := by decide
  unfold units; rw [Nat.min_eq_left (by omega), Nat.one_mul, m64_id (by omega)]

set_option maxHeartbeats 2000000 in
set_option maxRecDepth 4000 in
theorem ref10_lumps (l : List Hist) (hn : l.length < 1048576) (hg : ∀ h ∈ l, h.Good) (S : Store) : CallR Try.prog 51 [.p (.sl (l.map Hist.cs))] S
    (fun r S' => ∃ v loc, FreshV S v ∧ r = .ts v 2 loc ((lumpsR l).map lumE) ∧ S' = S.set (.v v) (.tip 2 (lumpsR l).length loc)) := by
  refine callR_of Try.func51 rfl rfl (xc_ok (bitB 17181967485) _ _ _ ?_)
  simp only [go_sem]
  refine AWP.tip0 3 2 (by simp only [go_sem]) fun v hv => ?_
  simp only [go_sem]
  have hbig := lumpsR_len l hg
  refine AWP.iterE (ι := Option Nat) (fun loc i => ⟨Env.get [(0, .p (.sl (l.map Hist.cs))), (3, .ts v 2 loc ((lumpsR (l.take i)).map lumE)), (4, i64 i)], S.set (.v v) (.tip 2 (lumpsR (l.take i)).length loc), 56, []⟩) l.length none ?_ ?_ ?_
  · refine le_of (by simp only [go_sem, List.take_zero, lumpsR, List.flatMap_nil, List.map_nil] <;> rfl) ?_ rfl rfl (by simp)
    ((try dsimp only); (repeat refine sub_set ?_ ?_) <;> first | ((repeat (first | exact Sub.refl _ | refine Sub.setF ?_ (by first | assumption | simp only [*]) | refine Sub.setV ?_ (by first | assumption | simp only [*]))); done) | (simp only [go_sem, hv, List.take_zero, lumpsR, List.flatMap_nil, List.length_nil]; done) | (simp only [go_sem, hv, List.take_zero, lumpsR, List.flatMap_nil, List.length_nil]; rfl) | rfl)
  · intro i loc hi ih
    have hgi := hg _ (List.getElem_mem hi)
    have hln := hgi.len
    have hnx := lumpsR_next l i hi
    have hlen0 : (lumpsR (l.take (i + 1))).length ≤ 62914560000 := by
      have := lumpsR_len (l.take (i + 1)) (fun h hh => hg h (List.mem_of_mem_take hh))
      rw [List.length_take] at this
      have h3 : min (i + 1) l.length * 60000 ≤ 1048576 * 60000 := Nat.mul_le_mul_right _ (by omega)
      omega
    have hsm := hgi.sm
    have hk1 := hgi.k1
    have hqi : wi ((i : Int) + 1) = ((i + 1 : Nat) : Int) := wi_succ (show i < 4611686018427387904 by omega)
    refine AWPH.step (xc_ok (bitB 17181967485) _ _ _ ?_)
    obtain ⟨H, hH⟩ : ∃ H, l[i] = H := ⟨_, rfl⟩
    rw [hH] at hln hnx hsm hk1
    have hget : (l.map Hist.cs).getD i [] = [.int .i64 H.k, .int .i64 H.g, .sl (H.ls.map lvE)] := by
      rw [getD_map' _ _ _ _ hi, hH]; rfl
    simp only [go_sem, hi, ltN' hi, hget, List.length_map]
    refine AWP.iterE (ι := Option Nat) (fun loc d => ⟨Env.get [(0, .p (.sl (l.map Hist.cs))), (3, .ts v 2 loc ((lumpsR (l.take i) ++ lumpsD (H.ls.length - d) (H.ls.drop (H.ls.length - d))).map lumE)), (4, i64 i), (5, i64 ((H.ls.length : Int) - 1 - (d : Int)))],
      S.set (.v v) (.tip 2 (lumpsR (l.take i) ++ lumpsD (H.ls.length - d) (H.ls.drop (H.ls.length - d))).length loc), 56, []⟩) H.ls.length loc ?_ ?_ ?_
    · have e0 : wi ((H.ls.length : Int) - 1) = (H.ls.length : Int) - 1 := wi_id (by omega) (by omega)
      refine le_of (by simp only [go_sem, e0] <;> simp [lumpsD]) ?_ rfl rfl (by simp)
      ((try dsimp only); (repeat refine sub_set ?_ ?_) <;> first | ((repeat (first | exact Sub.refl _ | refine Sub.setF ?_ (by first | assumption | simp only [*]) | refine Sub.setV ?_ (by first | assumption | simp only [*]))); done) | (simp only [go_sem, hv, Nat.sub_zero, List.drop_length, lumpsD, List.append_nil]; done) | (simp only [go_sem, hv, Nat.sub_zero, List.drop_length, lumpsD, List.append_nil]; rfl) | rfl)
    · intro d loc hd dh
      obtain ⟨m, hm⟩ : ∃ m, H.ls.length = m + 1 + d := ⟨H.ls.length - 1 - d, by omega⟩
      have hml : m < H.ls.length := by omega
      have e1 : ((H.ls.length : Int) - 1 - (d : Int)) = ((m : Nat) : Int) := by omega
      have e2 : H.ls.length - d = m + 1 := by omega
      have e3 : H.ls.length - (d + 1) = m := by omega
      have e4 : ((H.ls.length : Int) - 1 - ((d + 1 : Nat) : Int)) = (m : Int) - 1 := by omega
      have e5 : wi ((m : Int) - 1) = (m : Int) - 1 := wi_id (by omega) (by omega)
      have hu := units_two (i := m) (by omega)
      have hdr := lumpsD_drop H.ls m hml
      simp only [e3, e4] at dh
      rw [e2, e1]
      refine AWPH.step (xc_ok (bitB 17181967485) _ _ _ ?_)
      have e6 : decide ((m : Int) ≥ 0) = true := decide_eq_true (by omega)
      simp only [go_sem, e6, hget]
      refine AWP.iterE (ι := Option Nat) (fun loc q => ⟨Env.get [(0, .p (.sl (l.map Hist.cs))), (3, .ts v 2 loc ((lumpsR (l.take i) ++ (lumpsD (m + 1) (H.ls.drop (m + 1)) ++ ((H.ls[m]).take q).map (fun s : Span => (s.b, 2 ^ m)))).map lumE)), (4, i64 i), (5, i64 m), (6, i64 q)],
        S.set (.v v) (.tip 2 (lumpsR (l.take i) ++ (lumpsD (m + 1) (H.ls.drop (m + 1)) ++ ((H.ls[m]).take q).map (fun s : Span => (s.b, 2 ^ m)))).length loc), 56, []⟩) (H.ls[m]).length loc ?_ ?_ ?_
      · refine le_of (by simp only [go_sem, List.take_zero, List.map_nil, List.append_nil] <;> simp) ?_ rfl rfl (by simp)
        ((try dsimp only); (repeat refine sub_set ?_ ?_) <;> first | ((repeat (first | exact Sub.refl _ | refine Sub.setF ?_ (by first | assumption | simp only [*]) | refine Sub.setV ?_ (by first | assumption | simp only [*]))); done) | (simp only [go_sem, hv, List.take_zero, List.map_nil, List.append_nil]; done) | (simp only [go_sem, hv, List.take_zero, List.map_nil, List.append_nil]; rfl) | rfl)
      · intro q loc hq qh
        have hqq : wi ((q : Int) + 1) = ((q + 1 : Nat) : Int) := wi_succ (show q < 4611686018427387904 by have := hsm _ (List.getElem_mem hml); omega)
        refine AWPH.step (xc_ok (bitB 17181967485) _ _ _ ?_)
        simp only [go_sem, hi, ltN' hi, hget, List.length_map, hml, ltN' hml, getD_map' _ _ _ _ hml, lvE_mk, lvP, hq, ltN' hq]
        have hb2 : (lumpsR (l.take i) ++ (lumpsD (m + 1) (H.ls.drop (m + 1)) ++ ((H.ls[m]).take q).map (fun s : Span => (s.b, 2 ^ m)))).length + 1 ≤ 62914560000 := by
          have h1 : ((H.ls[m]).take q).length + 1 ≤ (H.ls[m]).length := by rw [List.length_take]; omega
          have h2 : (lumpsD m (H.ls.drop m)).length ≤ (lumpsD 0 H.ls).length := by
            rw [lumpsD_len, lumpsD_len]
            have := List.take_append_drop m H.ls
            have e : bksN H.ls = bksN (H.ls.take m) + bksN (H.ls.drop m) := by rw [← this]; unfold bksN; rw [List.map_append, List.sum_append]; simp
            omega
          rw [hdr, List.length_append, List.length_map] at h2
          rw [hnx, List.length_append] at hlen0
          simp only [List.length_append, List.length_map]
          omega
        have e7 : List.map lumE (lumpsR (l.take i) ++ (lumpsD (m + 1) (H.ls.drop (m + 1)) ++ ((H.ls[m]).take q).map (fun s : Span => (s.b, 2 ^ m)))) ++ [[.int .u64 ((H.ls[m])[q]).b, .int .u64 ((2 ^ m : Nat) : Int)]] =
            List.map lumE (lumpsR (l.take i) ++ (lumpsD (m + 1) (H.ls.drop (m + 1)) ++ ((H.ls[m]).take (q + 1)).map (fun s : Span => (s.b, 2 ^ m)))) := by
          rw [List.take_succ_eq_append_getElem hq]
          simp only [List.map_append, List.append_assoc]; rfl
        refine AWP.draw2 (bitB 17181967485) mixed (by kernel_rfl) (fun j => bl false) ?_
        simp only [go_sem, hi, ltN' hi, hget, List.length_map, hml, ltN' hml, getD_map' _ _ _ _ hml, lvE_mk, lvP, hq, ltN' hq, getD_map' _ _ _ _ hq, hv]
        have hu2 : m64 (1 * 2 ^ min m 64) = 2 ^ m := hu
        have hlm : (List.map lumE (lumpsR (l.take i) ++ (lumpsD (m + 1) (H.ls.drop (m + 1)) ++ ((H.ls[m]).take q).map (fun s : Span => (s.b, 2 ^ m))))).length = (lumpsR (l.take i) ++ (lumpsD (m + 1) (H.ls.drop (m + 1)) ++ ((H.ls[m]).take q).map (fun s : Span => (s.b, 2 ^ m)))).length := List.length_map _
        rw [hu2]
        refine ⟨by rintro el rfl; rfl, lum_len, by omega, by omega, grow_intro fun loc' => ?_⟩
        have hlq : (lumpsR (l.take i) ++ (lumpsD (m + 1) (H.ls.drop (m + 1)) ++ ((H.ls[m]).take (q + 1)).map (fun s : Span => (s.b, 2 ^ m)))).length = (lumpsR (l.take i) ++ (lumpsD (m + 1) (H.ls.drop (m + 1)) ++ ((H.ls[m]).take q).map (fun s : Span => (s.b, 2 ^ m)))).length + 1 := by
          have := congrArg List.length e7
          rw [List.length_append, List.length_map, List.length_map] at this
          rw [← this]; rfl
        simp only [go_sem, hv, hqq, e7]
        refine (qh loc').back ?_ (by simp) ?_
        · rw [hlq]
          ((try dsimp only); (repeat refine sub_set ?_ ?_) <;> first | ((repeat (first | exact Sub.refl _ | refine Sub.setF ?_ (by first | assumption | simp only [*]) | refine Sub.setV ?_ (by first | assumption | simp only [*]))); done) | (simp only [go_sem, hv, e7]; done) | (simp only [go_sem, hv, e7]; rfl) | rfl)
        · simp only [go_sem, hqq]
      · intro loc
        refine AWPH.step (xc_ok (bitB 17181967485) _ _ _ ?_)
        simp only [go_sem, hi, ltN' hi, hget, List.length_map, hml, ltN' hml, getD_map' _ _ _ _ hml, lvE_mk, lvP, List.take_length]
        rw [← hdr]
        refine (dh loc).back ?_ (by simp) ?_
        · ((try dsimp only); (repeat refine sub_set ?_ ?_) <;> first | ((repeat (first | exact Sub.refl _ | refine Sub.setF ?_ (by first | assumption | simp only [*]) | refine Sub.setV ?_ (by first | assumption | simp only [*]))); done) | (simp only [go_sem, hv]; done) | (simp only [go_sem, hv]; rfl) | rfl)
        · simp only [go_sem, e5]
    · intro loc
      refine AWPH.step (xc_ok (bitB 17181967485) _ _ _ ?_)
      have e1 : ((H.ls.length : Int) - 1 - ((H.ls.length : Nat) : Int)) = -1 := by omega
      have e0 : decide ((-1 : Int) ≥ 0) = false := by decide
      simp only [go_sem, e1, e0, Nat.sub_self, List.drop_zero]
      rw [← hnx]
      refine (ih loc).back ?_ (by simp) ?_
      · ((try dsimp only); (repeat refine sub_set ?_ ?_) <;> first | ((repeat (first | exact Sub.refl _ | refine Sub.setF ?_ (by first | assumption | simp only [*]) | refine Sub.setV ?_ (by first | assumption | simp only [*]))); done) | (simp only [go_sem, hv]; done) | (simp only [go_sem, hv]; rfl) | rfl)
      · simp only [go_sem, hqi]
  · intro loc
    refine AWPH.step (xc_ok (bitB 17181967485) _ _ _ ?_)
    simp only [go_sem, hv, List.take_length, List.length_map]
    refine ⟨S.set (.v v) (.tip 2 (lumpsR l).length loc), Sub.refl _, Or.inr ⟨v, loc, hv, rfl, rfl⟩⟩
end Go.Sk
end
