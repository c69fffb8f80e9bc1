/- Texts W12a W16a W16b W16c W12e W14A W13 W13w W13s W16d W12b W12c W12d W16e W13r W13a W16h W16i, joined. -/
import Derived.Test.YtlbjacoigdpgfaaGreatR16A
import Derived.Test.YtlbjacoigdpgfaaGreatR16E
import Derived.Test.YtlbjacoigdpgfaaGreatSkTp
import Derived.Test.YtlbjacoigdpgfaaGreatSkRg
import Derived.Test.YtlbjacoigdpgfaaGreatW2
import Derived.Test.YtlbjacoigdpgfaaGreatR16B
import Derived.Test.YtlbjacoigdpgfaaGreatW15i
import Derived.Test.YtlbjacoigdpgfaaGreatR16C
import Derived.Test.YtlbjacoigdpgfaaGreatW8
import Derived.Test.YtlbjacoigdpgfaaGreatW15c
import Derived.Test.YtlbjacoigdpgfaaGreatR16D
set_option linter.unusedSimpArgs false
set_option linter.unusedVariables false
set_option linter.unusedSectionVars false
-- W12a
section
namespace Go.Sk
open Go Go.Proofs

def Buf.pv (b : Buf) : List PV := [.int .u64 b.late, .int .i64 b.room, .int .u64 b.mark, .int .u64 b.front, .sl (b.evs.map Event.pv)]
def Buf.av (b : Buf) : AV := .agg (b.pv.map .p)
attribute [go_sem] Buf.pv Buf.av
theorem evn_len {l : List Event} : ∀ el ∈ l.map Event.pv, el.length = 3 := by
  intro el h; obtain ⟨x, _, rfl⟩ := List.mem_map.1 h; rfl

theorem latest_two (a b : Nat) : Pure Tryz.prog 84 [.p (.sl [[.int .u64 a], [.int .u64 b]])] (u64 (max a b)) := fun S => by
  refine callR_of Tryz.func84 rfl rfl (xc_ok (bitB 5) _ _ _ ?_)
  simp only [go_sem]
  have hm : Pure Tryz.prog 119 [.p (.sl [[.int .u64 a], [.int .u64 b]])] (u64 (max a b)) := fun S => by
    refine callR_of Tryz.func119 rfl rfl (xc_ok (bitB 32925) _ _ _ ?_)
    have q0 : decide (((2 : Nat) : Int) < 1) = false := by decide
    have q1 : decide ((2 : Int) < ((2 : Nat) : Int)) = false := by decide
    have q2 : decide ((1 : Int) < ((2 : Nat) : Int)) = true := by decide
    simp only [go_sem, q0]
    refine AWP.roam (ι := Bool) (fun _ => True) (fun t => ⟨Env.get [(0, .p (.sl [[.int .u64 a], [.int .u64 b]])), (3, u64 (if t = true then max a b else a)), (4, i64 (if t = true then 2 else 1))], S, 25, []⟩) (fun t => if t = true then 0 else 1) false trivial ?_ ?_
    · exact le_of (by simp only [go_sem] <;> simp) (Sub.refl _) rfl rfl (by simp)
    · intro t _ ih
      refine AWPH.step (xc_ok (bitB 32925) _ _ _ ?_)
      cases t with
      | true =>
        simp only [go_sem, q1]
        (refine ⟨S, by (repeat (first | exact Sub.refl _ | refine Sub.setF ?_ (by first | assumption | simp only [*]) | refine Sub.setV ?_ (by first | assumption | simp only [*]))), ?_⟩); simp
      | false =>
        simp only [go_sem, q2]
        refine ⟨by decide, by decide, ?_⟩
        refine (ih true trivial (by simp)).back (by (repeat (first | exact Sub.refl _ | refine Sub.setF ?_ (by first | assumption | simp only [*]) | refine Sub.setV ?_ (by first | assumption | simp only [*])))) (by simp) ?_
        have q3 : wi (2 : Int) = 2 := wi_id (by decide) (by decide)
        have q4 : wi ((1 : Int) + 1) = 2 := wi_id (by decide) (by decide)
        simp only [go_sem, q3, q4] <;> simp [q3, q4] <;> omega
  refine hm.useA ?_
  simp only [go_sem]
  (refine ⟨S, by (repeat (first | exact Sub.refl _ | refine Sub.setF ?_ (by first | assumption | simp only [*]) | refine Sub.setV ?_ (by first | assumption | simp only [*]))), ?_⟩); simp
theorem below1 {S : Store} {b1 : Nat} (e : Event) (f : Nat) (h1 : S (.r b1) = some (.cells [u64 f])) :
    CallR Tryz.prog 125 [e.av, .sp b1 0] S (fun r S' => r = bl (decide (f < e.t)) ∧ S' = S) := by
  refine callR_of Tryz.func125 rfl rfl (xc_ok (bitB 15) _ _ _ ?_)
  simp only [go_sem]
  refine alloc_intro fun b hb => ?_
  have n1 := hb.ne h1
  simp only [go_sem, h1, n1]
  (refine ⟨S, by (repeat (first | exact Sub.refl _ | refine Sub.setF ?_ (by first | assumption | simp only [*]) | refine Sub.setV ?_ (by first | assumption | simp only [*]))), ?_⟩); simp
theorem index_ev {S : Store} {b1 : Nat} (l : List Event) (f : Nat) (hl : l.length < 4611686018427387904) (h1 : S (.r b1) = some (.cells [u64 f])) :
    CallR Tryz.prog 124 [.p (evsP l), .fn (.func 125) [] [.sp b1 0]] S (fun r S' => r = i64 (if belowN f l < l.length then (belowN f l : Int) else -1) ∧ S' = S) := by
  refine callR_of Tryz.func124 rfl rfl (xc_ok (bitB 66483) _ _ _ ?_)
  simp only [go_sem, evsP]
  refine AWP.roam (ι := Nat) (fun i => i ≤ belowN f l)
    (fun i => ⟨Env.get [(0, .p (evsP l)), (1, .fn (.func 125) [] [.sp b1 0]), (7, i64 l.length), (8, i64 i)], S, 19, []⟩) (fun i => l.length - i) 0 (Nat.zero_le _) ?_ ?_
  · exact le_of (by simp only [go_sem, evsP, List.length_map] <;> rfl) (Sub.refl _) rfl rfl (by simp)
  · intro i hi ih
    have hle := belowN_le f l
    refine AWPH.step (xc_ok (bitB 66483) _ _ _ ?_)
    by_cases c : i < l.length
    · have hst := belowN_step f l i c hi
      simp only [go_sem, evsP, c, ltN' c, getD_map' _ _ _ _ c, List.length_map]
      refine (below1 l[i] f h1).useA ?_
      rintro _ S' ⟨rfl, hS⟩
      rw [hS]
      by_cases hc : f < (l[i]).t
      · have := hst.2 hc
        simp only [go_sem, hc]
        (refine ⟨S, by (repeat (first | exact Sub.refl _ | refine Sub.setF ?_ (by first | assumption | simp only [*]) | refine Sub.setV ?_ (by first | assumption | simp only [*]))), ?_⟩); rw [← this, if_pos c]; simp
      · simp only [go_sem, hc]
        refine (ih (i + 1) (hst.1 (by omega)) (by omega)).back (by (repeat (first | exact Sub.refl _ | refine Sub.setF ?_ (by first | assumption | simp only [*]) | refine Sub.setV ?_ (by first | assumption | simp only [*])))) (by simp) ?_
        simp only [go_sem, evsP, wi_succ (show i < 4611686018427387904 by omega)]
    · obtain rfl : i = l.length := by omega
      simp only [go_sem, evsP, c, List.length_map]
      (refine ⟨S, by (repeat (first | exact Sub.refl _ | refine Sub.setF ?_ (by first | assumption | simp only [*]) | refine Sub.setV ?_ (by first | assumption | simp only [*]))), ?_⟩); rw [if_neg (by omega)]; simp
theorem below (b : Buf) (f : Nat) (hl : b.evs.length < 4611686018427387904) : Pure Tryz.prog 89 [b.av, u64 f] (i64 (belowN f b.evs)) := fun S => by
  refine callR_of Tryz.func89 rfl rfl (xc_ok (bitB 2111) _ _ _ ?_)
  simp only [go_sem]
  refine alloc_intro fun c2 h2 => ?_
  simp only [go_sem]
  refine alloc_intro fun c3 h3 => ?_
  simp only [fresh_set] at h3
  simp only [go_sem, h3]
  refine (index_ev (b1 := c3) b.evs f hl (by simp only [go_sem])).useA ?_
  rintro _ _ ⟨rfl, rfl⟩
  have hle := belowN_le f b.evs
  by_cases c : belowN f b.evs < b.evs.length
  · rw [if_pos c]
    simp only [go_sem, h3]
    (refine ⟨S, by (repeat (first | exact Sub.refl _ | refine Sub.setF ?_ (by first | assumption | simp only [*]) | refine Sub.setV ?_ (by first | assumption | simp only [*]))), ?_⟩); simp
  · rw [if_neg c]
    have q0 : decide ((-1 : Int) < 0) = true := by decide
    simp only [go_sem, h3, List.length_map, q0]
    (refine ⟨S, by (repeat (first | exact Sub.refl _ | refine Sub.setF ?_ (by first | assumption | simp only [*]) | refine Sub.setV ?_ (by first | assumption | simp only [*]))), ?_⟩); simp; omega
theorem clone_ev (l : List Event) (hn : l.length < 1099511627776) : Pure Tryz.prog 85 [.p (.sl (l.map Event.pv))] (.p (.sl (l.map Event.pv))) := fun S => by
  refine callR_of Tryz.func85 rfl rfl (xc_ok (bitB 21) _ _ _ ?_)
  simp only [go_sem]
  refine ⟨fun h => ⟨S, Sub.refl _, by rw [h], rfl⟩, evn_len, by omega, by omega, tip_intro fun k loc hk => ?_⟩
  simp only [go_sem]
  (refine ⟨S, by (repeat (first | exact Sub.refl _ | refine Sub.setF ?_ (by first | assumption | simp only [*]) | refine Sub.setV ?_ (by first | assumption | simp only [*]))), ?_⟩); simp

theorem buf_New (late : Nat) (room : Int) : Pure Tryz.prog 23 [u64 late, i64 room] (.tuple (if 4611686018427387904 < late ∨ room < 1 ∨ 1024 < room then [zeroB.av, i64 9] else [(Buf.mk late room 0 0 []).av, i64 0])) := fun S => by
  refine callR_of Tryz.func23 rfl rfl (xc_ok (bitB 32819) _ _ _ ?_)
  simp only [go_sem]
  refine alloc_intro fun c4 h4 => ?_
  simp only [go_sem]
  by_cases c1 : 4611686018427387904 < late
  · simp only [go_sem, c1]
    (refine ⟨S, by (repeat (first | exact Sub.refl _ | refine Sub.setF ?_ (by first | assumption | simp only [*]) | refine Sub.setV ?_ (by first | assumption | simp only [*]))), ?_⟩); simp [c1, zeroB]
  by_cases c2 : room < 1
  · simp only [go_sem, c1, c2]
    (refine ⟨S, by (repeat (first | exact Sub.refl _ | refine Sub.setF ?_ (by first | assumption | simp only [*]) | refine Sub.setV ?_ (by first | assumption | simp only [*]))), ?_⟩); simp [c1, c2, zeroB]
  by_cases c3 : 1024 < room
  · simp only [go_sem, c1, c2, c3]
    (refine ⟨S, by (repeat (first | exact Sub.refl _ | refine Sub.setF ?_ (by first | assumption | simp only [*]) | refine Sub.setV ?_ (by first | assumption | simp only [*]))), ?_⟩); simp [c1, c2, c3, zeroB]
  · simp only [go_sem, c1, c2, c3]
    (refine ⟨S, by (repeat (first | exact Sub.refl _ | refine Sub.setF ?_ (by first | assumption | simp only [*]) | refine Sub.setV ?_ (by first | assumption | simp only [*]))), ?_⟩); simp [c1, c2, c3]
end Go.Sk
end

-- W16a
section
namespace Go.Sk
open Go Go.Proofs

def numE (n : Nat) : List PV := [.int .u64 n]
def numsP (l : List Nat) : PV := .sl (l.map numE)
theorem num_len {l : List Nat} : ∀ el ∈ l.map numE, el.length = 1 := by
  intro el h; obtain ⟨x, _, rfl⟩ := List.mem_map.1 h; rfl
def lightL (l : List Nat) : Bool := decide (l.sum ≤ 4503599627370496)
theorem sum_take (l : List Nat) (i : Nat) (h : i < l.length) : (l.take (i + 1)).sum = (l.take i).sum + l[i] := by
  rw [List.take_succ_eq_append_getElem h, List.sum_append]; simp
theorem sum_take_le (l : List Nat) (i : Nat) : (l.take i).sum ≤ l.sum := by
  have : (l.take i ++ l.drop i).sum = (l.take i).sum + (l.drop i).sum := List.sum_append
  rw [List.take_append_drop] at this; omega
theorem ecm_light (l : List Nat) (hl : l.length < 1099511627776) : Pure Tryz.prog 91 [.p (numsP l)] (bl (lightL l)) := fun S => by
  refine callR_of Tryz.func91 rfl rfl (xc_ok (bitB 17389) _ _ _ ?_)
  simp only [go_sem, numsP]
  refine AWP.roam (ι := Nat) (fun i => i ≤ l.length ∧ (l.take i).sum ≤ 4503599627370496)
    (fun i => ⟨Env.get [(2, bl false), (3, u64 (4503599627370496 - (l.take i).sum : Nat)), (6, .p (.sl (l.map numE))), (7, i64 l.length), (8, i64 i)], S, 19, []⟩) (fun i => l.length - i) 0 ⟨Nat.zero_le _, by simp⟩ ?_ ?_
  · exact le_of (by simp only [go_sem, List.length_map, List.take_zero] <;> simp) (Sub.refl _) rfl rfl (by simp)
  intro i ⟨hi, hs⟩ ih
  refine AWPH.step (xc_ok (bitB 17389) _ _ _ ?_)
  by_cases c : i < l.length
  rotate_left
  · simp only [go_sem, c, List.length_map]
    obtain rfl : i = l.length := by omega
    rw [List.take_length] at hs
    exact ⟨S, Sub.refl _, by unfold lightL; rw [decide_eq_true hs]; exact Or.inl ⟨rfl, rfl⟩⟩
  have h1 := sum_take l i c
  have h2 := sum_take_le l (i + 1)
  simp only [go_sem, c, ltN' c, getD_map' _ _ _ _ c, List.length_map, numE]
  by_cases cn : 4503599627370496 - (l.take i).sum < l[i]
  · simp only [go_sem, cn]
    exact ⟨S, Sub.refl _, by unfold lightL; rw [decide_eq_false (by omega)]; exact Or.inl ⟨rfl, rfl⟩⟩
  · have q : sub64 (4503599627370496 - (l.take i).sum) l[i] = 4503599627370496 - (l.take (i + 1)).sum := by rw [sub64_le (by omega) (by omega), h1]; omega
    simp only [go_sem, cn, q]
    refine (ih (i + 1) ⟨c, by omega⟩ (by omega)).back (Sub.refl _) (by simp) ?_
    simp only [go_sem, wi_succ (show i < 4611686018427387904 by omega), numE, List.length_map]

/-- Weights of a cell's events. -/
theorem col_in (g : Grid) (i c : Nat) (e : Event) : decide (colV (g.sd.getD i default) e.k g.w = (c : Int)) = inC g i c e := by
  unfold inC colN
  have := colV_nn (g.sd.getD i default) e.k g.w
  by_cases h : colV (g.sd.getD i default) e.k g.w = c
  · rw [decide_eq_true h, decide_eq_true (by omega)]
  · rw [decide_eq_false h, decide_eq_false (by omega)]
theorem filter_take (p : Event → Bool) (l : List Event) (j : Nat) (h : j < l.length) : (l.take (j + 1)).filter p = (l.take j).filter p ++ if p l[j] = true then [l[j]] else [] := by
  rw [List.take_succ_eq_append_getElem h, List.filter_append, List.filter_cons]; rfl
set_option maxHeartbeats 1000000 in
theorem ecm_in (l : List Event) (g : Grid) (hg : g.Ok) (i c : Nat) (hi : i < g.rows.length) (hc : c < 1048576) (ho : ∀ e ∈ l, e.Ok) (hl : l.length < 1048576) (S : Store) :
    CallR Tryz.prog 92 [.p (evsP l), g.av, i64 i, i64 c] S (fun r S' => ∃ v loc, FreshV S v ∧ r = .ts v 1 loc (((l.filter (inC g i c)).map Event.w).map numE) ∧ S' = S.set (.v v) (.tip 1 (l.filter (inC g i c)).length loc)) := by
  have hsi : i < g.sd.length := by rw [hg.sd]; exact hi
  have hso := hg.so _ (List.getElem_mem hsi)
  have hw2 := hg.w2
  refine callR_of Tryz.func92 rfl rfl (xc_ok (bitB 536935215) _ _ _ ?_)
  simp only [go_sem, evsP]
  refine alloc_intro fun c5 h5 => ?_
  simp only [go_sem]
  have y5 : S (.r c5) = none := h5
  refine AWP.tip0 9 1 (by simp only [go_sem]) fun v hv => ?_
  simp only [freshv_setr] at hv
  simp only [go_sem]
  refine AWP.iterE (ι := Option Nat) (fun loc j => ⟨Env.get [(2, i64 i), (3, i64 c), (5, .sp c5 0), (9, .ts v 1 loc ((((l.take j).filter (inC g i c)).map Event.w).map numE)), (12, .p (.sl (l.map Event.pv))), (13, i64 l.length), (14, i64 j)],
    (S.set (.r c5) (.cells (g.pv.map .p))).set (.v v) (.tip 1 ((l.take j).filter (inC g i c)).length loc), 37, []⟩) l.length none ?_ ?_ ?_
  · refine le_of (by simp only [go_sem, evsP, List.length_map, List.take_zero, List.filter_nil, List.map_nil] <;> rfl) ?_ rfl rfl (by simp)
    ((try dsimp only); (repeat refine sub_set ?_ ?_) <;> first | ((repeat (first | exact Sub.refl _ | refine Sub.setF ?_ (by first | assumption | simp only [*]) | refine Sub.setV ?_ (by first | assumption | simp only [*]))); done) | (simp only [go_sem, hv, List.take_zero, List.filter_nil]; done) | (simp only [go_sem, hv, List.take_zero, List.filter_nil]; rfl) | rfl)
  · intro j loc hj jh
    have hqj : wi ((j : Int) + 1) = ((j + 1 : Nat) : Int) := wi_succ (show j < 4611686018427387904 by omega)
    have hfl : ((l.take j).filter (inC g i c)).length ≤ j := Nat.le_trans (List.length_filter_le _ _) (by rw [List.length_take]; omega)
    have hft := filter_take (inC g i c) l j hj
    refine AWPH.step (xc_ok (bitB 536935215) _ _ _ ?_)
    simp only [go_sem, hj, ltN' hj, getD_map' _ _ _ _ hj, List.length_map]
    refine alloc_intro fun c11 h11 => ?_
    simp only [fresh_set, fresh_setv] at h11
    simp only [go_sem, h11, hj, ltN' hj, getD_map' _ _ _ _ hj]
    refine AWP.draw2 (bitB 536935215) mixed (by kernel_rfl) (fun q => i64 (colV g.sd[i] (l[j]).k g.w)) ?_
    simp only [go_sem, h11, ltN' hsi, getD_map' _ _ _ _ hsi]
    refine ⟨(hash_Column g.sd[i] (l[j]).k g.w hso (ho _ (List.getElem_mem hj)).k (by omega)).draw, ?_⟩
    have hsd : g.sd.getD i default = g.sd[i] := by simp [List.getD_eq_getElem?_getD, hsi]
    have hci := col_in g i c l[j]
    rw [hsd] at hci
    cases hp : inC g i c l[j]
    · rw [hp] at hci hft
      have hb : (colV g.sd[i] (l[j]).k g.w == (c : Int)) = false := by simpa using hci
      rw [if_neg (by simp), List.append_nil] at hft
      simp only [go_sem, hb]
      refine (jh loc).back ?_ (by simp) ?_
      · ((try dsimp only); (repeat refine sub_set ?_ ?_) <;> first | ((repeat (first | exact Sub.refl _ | refine Sub.setF ?_ (by first | assumption | simp only [*]) | refine Sub.setV ?_ (by first | assumption | simp only [*]))); done) | (simp only [go_sem, h11, hv, hft]; done) | (simp only [go_sem, h11, hv, hft]; rfl) | rfl)
      · simp only [go_sem, hqj, hft, List.length_map]
    · rw [hp] at hci hft
      have hb : (colV g.sd[i] (l[j]).k g.w == (c : Int)) = true := by simpa using hci
      rw [if_pos rfl] at hft
      simp only [go_sem, hb, h11, hv, List.length_map]
      refine ⟨by rintro el rfl; rfl, num_len, by clear h11; omega, by clear h11; omega, grow_intro fun loc' => ?_⟩
      have e5 : List.map numE (List.map Event.w (List.filter (inC g i c) (List.take j l))) ++ [[.int .u64 (l[j]).w]] = List.map numE (List.map Event.w (List.filter (inC g i c) (List.take (j + 1) l))) := by
        rw [hft, List.map_append, List.map_append]; rfl
      simp only [go_sem, h11, hv, hqj, e5]
      refine (jh loc').back ?_ (by simp) ?_
      · ((try dsimp only); (repeat refine sub_set ?_ ?_) <;> first | ((repeat (first | exact Sub.refl _ | refine Sub.setF ?_ (by first | assumption | simp only [*]) | refine Sub.setV ?_ (by first | assumption | simp only [*]))); done) | (simp only [go_sem, h11, hv, List.length_map, e5, hft, List.length_append, List.length_cons, List.length_nil]; done) | (simp only [go_sem, h11, hv, List.length_map, e5, hft, List.length_append, List.length_cons, List.length_nil]; rfl) | rfl)
      · simp only [go_sem, hqj, e5, List.length_map]
  · intro loc
    refine AWPH.step (xc_ok (bitB 536935215) _ _ _ ?_)
    simp only [go_sem, hv, List.take_length, List.length_map]
    refine ⟨S.set (.v v) (.tip 1 (l.filter (inC g i c)).length loc), ?_, Or.inr ⟨v, loc, hv, rfl, rfl⟩⟩
    ((try dsimp only); (repeat refine sub_set ?_ ?_) <;> first | ((repeat (first | exact Sub.refl _ | refine Sub.setF ?_ (by first | assumption | simp only [*]) | refine Sub.setV ?_ (by first | assumption | simp only [*]))); done) | (simp only [go_sem, hv]; done) | (simp only [go_sem, hv]; rfl) | rfl)
end Go.Sk
end

-- W16b
section
namespace Go.Sk
open Go Go.Proofs

def allV (n : Nat) (f : Nat → Bool) : Bool := (List.range n).all f
theorem allV_succ (n : Nat) (f : Nat → Bool) : allV (n + 1) f = (allV n f && f n) := by
  unfold allV; rw [List.range_succ, List.all_append]; simp
theorem light_one (a : Nat) (l : List Event) : lightL (a :: l.map Event.w) = decide (a + sumE Event.w l ≤ 4503599627370496) := by
  unfold lightL sumE; rw [List.sum_cons]
theorem light_end (a : Nat) (l : List Event) : lightL (l.map Event.w ++ [a]) = decide (a + sumE Event.w l ≤ 4503599627370496) := by
  unfold lightL sumE; rw [List.sum_append, Nat.add_comm, List.sum_cons, List.sum_nil, Nat.add_zero]
def cellL (g : Grid) (evs : List Event) (i c : Nat) : Bool := decide (cellW g evs i c ≤ 4503599627370496)
def topL (g : Grid) (evs : List Event) : Bool := decide (totN 0 g.all.ls + sumE Event.w evs ≤ 4503599627370496)
theorem lightG_eq (g : Grid) (evs : List Event) : lightG g evs = (topL g evs && allV g.rows.length fun i => allV g.w.toNat (cellL g evs i)) := rfl

set_option maxHeartbeats 2000000 in
set_option maxRecDepth 8000 in
theorem ecm_fits (l : List Event) (g : Grid) (hg : g.Good) (ho : ∀ e ∈ l, e.Ok) (hl : l.length < 524288) :
    Pure Tryz.prog 52 [.p (evsP l), .p (.sl [g.pv])] (bl (lightG g l)) := fun S => by
  have htA := hist_Total g.all.k g.all.g g.all.ls (by have := hg.all.len; omega)
  have ht0 := hg.all.tot
  rw [totV_eq (by omega)] at htA
  have k1 : decide (wi ((0 : Int) + 1) < ((1 : Nat) : Int)) = false := by rw [wi_id (by decide) (by decide)]; decide
  refine callR_of Tryz.func52 rfl rfl (xc_ok (bitB 1107058957080139366067) _ _ _ ?_)
  simp only [go_sem, evsP]
  refine AWP.head (AWPH.step (xc_ok (bitB 1107058957080139366067) _ _ _ ?_))
  simp only [go_sem]
  refine alloc_intro fun c7 h7 => ?_
  simp only [go_sem]
  have y7 : S (.r c7) = none := h7
  refine htA.useA ?_
  simp only [go_sem]
  refine ⟨by rintro el rfl; rfl, tip_intro fun v loc hv => ?_⟩
  simp only [freshv_setr] at hv
  simp only [go_sem, hv]
  refine AWPH.step (xc_ok (bitB 1107058957080139366067) _ _ _ ?_)
  simp only [go_sem, hv, k1]
  refine AWP.iterE (ι := Option Nat) (fun loc j => ⟨Env.get [(0, .p (.sl (l.map Event.pv))), (1, .p (.sl [g.pv])), (5, .ts v 1 loc ((totN 0 g.all.ls :: (l.take j).map Event.w).map numE)), (30, .p (.sl (l.map Event.pv))), (31, i64 l.length), (32, i64 j)],
    S.set (.v v) (.tip 1 (j + 1) loc), 93, []⟩) l.length loc ?_ ?_ ?_
  · refine le_of (by simp only [go_sem, List.length_map] <;> exact ⟨rfl, rfl⟩) ?_ rfl rfl (by simp)
    ((try dsimp only); (repeat refine sub_set ?_ ?_) <;> first | ((repeat (first | exact Sub.refl _ | refine Sub.setF ?_ (by first | assumption | simp only [*]) | refine Sub.setV ?_ (by first | assumption | simp only [*]))); done) | (simp only [go_sem, hv]; done) | (simp only [go_sem, hv]; rfl) | rfl)
  · intro j loc hj jh
    have hqj : wi ((j : Int) + 1) = ((j + 1 : Nat) : Int) := wi_succ (show j < 4611686018427387904 by omega)
    refine AWPH.step (xc_ok (bitB 1107058957080139366067) _ _ _ ?_)
    simp only [go_sem, hj, ltN' hj, getD_map' _ _ _ _ hj, List.length_map]
    refine alloc_intro fun c9 h9 => ?_
    simp only [fresh_set, fresh_setv] at h9
    simp only [go_sem, h9, hv, List.length_map, List.length_cons, take_len (Nat.le_of_lt hj)]
    have e5 : numE (totN 0 g.all.ls) :: (List.map numE (List.map Event.w (List.take j l)) ++ [[.int .u64 (l[j]).w]]) = numE (totN 0 g.all.ls) :: List.map numE (List.map Event.w (List.take (j + 1) l)) := by
      rw [List.take_succ_eq_append_getElem hj, List.map_append, List.map_append]; rfl
    refine ⟨by rintro el rfl; rfl, by rintro el (rfl | h); exact rfl; exact num_len _ h, by clear h9; omega, by clear h9; omega, grow_intro fun loc' => ?_⟩
    simp only [go_sem, h9, hv, hqj, e5]
    refine (jh loc').back ?_ (by simp) ?_
    · ((try dsimp only); (repeat refine sub_set ?_ ?_) <;> first | ((repeat (first | exact Sub.refl _ | refine Sub.setF ?_ (by first | assumption | simp only [*]) | refine Sub.setV ?_ (by first | assumption | simp only [*]))); done) | (simp only [go_sem, h9, hv, List.length_map, e5, List.length_cons, take_len hj]; done) | (simp only [go_sem, h9, hv, List.length_map, e5, List.length_cons, take_len hj]; rfl) | rfl)
    · simp only [go_sem, hqj, e5, List.length_map]
  intro loc
  refine AWPH.step (xc_ok (bitB 1107058957080139366067) _ _ _ ?_)
  simp only [go_sem, hv, List.take_length, List.length_map]
  refine (ecm_light (totN 0 g.all.ls :: l.map Event.w) (by simp; omega)).useA ?_
  rw [show lightL (totN 0 g.all.ls :: l.map Event.w) = topL g l from light_one _ _]
  simp only [go_sem, hv, List.take_length, List.length_map]
  clear htA
  refine AWP.iter (fun i => ⟨Env.get [(0, .p (.sl (l.map Event.pv))), (1, .p (.sl [g.pv])), (10, bl (topL g l && allV i fun i => allV g.w.toNat (cellL g l i))), (47, .p (.sl (g.rows.map rowE))), (48, i64 g.rows.length), (49, i64 i)], S, 93, []⟩) g.rows.length ?_ ?_ ?_
  · refine le_of (by simp only [go_sem, List.length_map] <;> simp [allV]) ?_ rfl rfl (by simp)
    repeat' first | exact Sub.refl _ | refine Sub.set ?_ (by assumption) _
  · intro i hi ih
    have hn := hg.n
    have hw2 := hg.w2
    have hqi : wi ((i : Int) + 1) = ((i + 1 : Nat) : Int) := wi_succ (show i < 4611686018427387904 by omega)
    have hrw := hg.wid _ (List.getElem_mem hi)
    refine AWPH.step (xc_ok (bitB 1107058957080139366067) _ _ _ ?_)
    simp only [go_sem, hi, ltN' hi, getD_map' _ _ _ _ hi, rowE_mk, rowP, List.length_map]
    refine AWP.iter (fun c => ⟨Env.get [(0, .p (.sl (l.map Event.pv))), (1, .p (.sl [g.pv])), (10, bl ((topL g l && allV i fun i => allV g.w.toNat (cellL g l i)) && allV c (cellL g l i))), (11, i64 i), (55, i64 (g.rows[i]).length), (56, i64 c), (47, .p (.sl (g.rows.map rowE))), (48, i64 g.rows.length), (49, i64 i)], S, 93, []⟩) (g.rows[i]).length ?_ ?_ ?_
    · refine le_of (by simp only [go_sem, List.length_map] <;> simp [allV]) ?_ rfl rfl (by simp)
      exact Sub.refl _
    · intro c hc ic
      have hqc : wi ((c : Int) + 1) = ((c + 1 : Nat) : Int) := wi_succ (show c < 4611686018427387904 by omega)
      refine AWPH.step (xc_ok (bitB 1107058957080139366067) _ _ _ ?_)
      simp only [go_sem, hc, List.length_map]
      refine (ecm_in l g hg.ok i c hi (by omega) ho (by omega) S).useB ?_
      rintro _ _ ⟨v2, loc2, hv2, rfl, rfl⟩
      have y2 : S (.v v2) = none := hv2
      simp only [go_sem]
      refine AWP.head (AWPH.step (xc_ok (bitB 1107058957080139366067) _ _ _ ?_))
      simp only [go_sem]
      refine alloc_intro fun c16 h16 => ?_
      have y16 : S (.r c16) = none := h16
      simp only [go_sem, hi, ltN' hi, getD_map' _ _ _ _ hi, rowE_mk, rowP, hc, ltN' hc, getD_map' _ _ _ _ hc, List.length_map]
      have hgc := hg.hs _ (List.getElem_mem hi) _ (List.getElem_mem hc)
      have hct := hgc.tot
      have hTc := hist_Total ((g.rows[i])[c]).k ((g.rows[i])[c]).g ((g.rows[i])[c]).ls (by have := hgc.len; omega)
      rw [totV_eq (by omega)] at hTc
      obtain ⟨_, hce⟩ := cell_get hg.wid hi (show c < g.w.toNat by omega)
      refine hTc.useA ?_
      simp only [go_sem, hv2, List.length_map]
      have hfl := List.length_filter_le (inC g i c) l
      refine ⟨by rintro el rfl; rfl, num_len, by omega, by omega, grow_intro fun loc3 => ?_⟩
      simp only [go_sem, hv2]
      refine AWPH.step (xc_ok (bitB 1107058957080139366067) _ _ _ ?_)
      simp only [go_sem, hv2, k1]
      have hB : ((topL g l && allV i fun i => allV g.w.toNat (cellL g l i)) && allV (c + 1) (cellL g l i)) = (((topL g l && allV i fun i => allV g.w.toNat (cellL g l i)) && allV c (cellL g l i)) && cellL g l i c) := by
        rw [allV_succ, ← Bool.and_assoc]
      cases hb : ((topL g l && allV i fun i => allV g.w.toNat (cellL g l i)) && allV c (cellL g l i))
      · rw [hb, Bool.false_and] at hB
        simp only [go_sem, hv2]
        refine ic.back ?_ (by simp) ?_
        · repeat' first | exact Sub.refl _ | refine Sub.set ?_ (by assumption) _
        · simp only [go_sem, hqc, hB, List.length_map]
          done
      · rw [hb, Bool.true_and] at hB
        simp only [go_sem, hv2]
        have hL := ecm_light ((l.filter (inC g i c)).map Event.w ++ [totN 0 ((g.rows[i])[c]).ls]) (by simp; omega)
        rw [show lightL ((l.filter (inC g i c)).map Event.w ++ [totN 0 ((g.rows[i])[c]).ls]) = cellL g l i c from by rw [light_end, ← hce]; rfl,
          show numsP ((l.filter (inC g i c)).map Event.w ++ [totN 0 ((g.rows[i])[c]).ls]) = .sl (((l.filter (inC g i c)).map Event.w).map numE ++ [[.int .u64 (totN 0 ((g.rows[i])[c]).ls)]]) from by unfold numsP; rw [List.map_append]; rfl] at hL
        refine hL.useA ?_
        simp only [go_sem, hv2]
        refine ic.back ?_ (by simp) ?_
        · repeat' first | exact Sub.refl _ | refine Sub.set ?_ (by assumption) _
        · simp only [go_sem, hqc, hB, List.length_map]
          done
    · refine AWPH.step (xc_ok (bitB 1107058957080139366067) _ _ _ ?_)
      simp only [go_sem, List.length_map]
      refine ih.back (Sub.refl _) (by simp) ?_
      simp only [go_sem, hqi, allV_succ, hrw, List.length_map, Bool.and_assoc]
  · refine AWPH.step (xc_ok (bitB 1107058957080139366067) _ _ _ ?_)
    simp only [go_sem, List.length_map]
    exact ⟨S, Sub.refl _, Or.inl ⟨rfl, rfl⟩⟩
end Go.Sk
end

-- W16c
section
namespace Go.Sk
open Go Go.Proofs

def Ecm.pv (s : Ecm) : List PV := [.int .u64 s.win, .int .u64 s.b.late, .int .i64 s.b.room, .int .u64 s.b.mark, .int .u64 s.b.front, .sl (s.b.evs.map Event.pv), .int .i64 s.past.w, .sl (s.past.sd.map Seed.pv), .sl (s.past.rows.map rowE), .int .i64 s.past.all.k, .int .i64 s.past.all.g, .sl (s.past.all.ls.map lvE)]
def Ecm.av (s : Ecm) : AV := .agg (s.pv.map .p)
attribute [go_sem] Ecm.pv Ecm.av
set_option maxHeartbeats 1000000 in
set_option maxRecDepth 8000 in
theorem ecm_pass (s : Ecm) (b : Buf) (out : List Event) (hp : PassOk s out) : Pure Tryz.prog 50 [s.av, b.av, .p (evsP out)] (passE s b out).av := fun S => by
  have hn := hp.len
  refine callR_of Tryz.func50 rfl rfl (xc_ok (bitB 31071) _ _ _ ?_)
  simp only [go_sem, evsP]
  refine alloc_intro fun c3 h3 => ?_
  simp only [go_sem]
  refine alloc_intro fun c4 h4 => ?_
  simp only [fresh_set] at h4
  simp only [go_sem, h4]
  refine alloc_intro fun c6 h6 => ?_
  simp only [fresh_set] at h6
  simp only [go_sem, h4, h6]
  have y3 : S (.r c3) = none := h3
  have y4 : S (.r c4) = none := h4.2
  have y6 : S (.r c6) = none := h6.2.2
  refine AWP.iter (fun i => ⟨Env.get [(3, .sp c3 0), (4, .sp c4 0), (6, .sp c6 0), (11, .p (.sl (out.map Event.pv))), (12, i64 out.length), (13, i64 i)],
    ((S.set (.r c3) (.cells ((Ecm.mk s.win b (passG s.past (out.take i))).pv.map .p))).set (.r c4) (.cells (b.pv.map .p))).set (.r c6) (.cells [u64 0, u64 0, i64 0, u64 0, u64 0, .nils, i64 0, .nils, .nils, i64 0, i64 0, .nils]), 35, []⟩) out.length ?_ ?_ ?_
  · refine le_of (by simp only [go_sem, List.length_map] <;> simp) ?_ rfl rfl (by simp)
    simp only [Ecm.pv, Buf.pv, List.map_cons, List.map_nil]
    ((try dsimp only); (repeat refine sub_set ?_ ?_) <;> first | ((repeat (first | exact Sub.refl _ | refine Sub.setF ?_ (by first | assumption | simp only [*]) | refine Sub.setV ?_ (by first | assumption | simp only [*]))); done) | (simp only [go_sem, h4, h6, List.take_zero]; done) | (simp only [go_sem, h4, h6, List.take_zero]; rfl) | rfl)
    done
  · intro i hi ih
    have hgd := (hp.pre i).1
    have hok := hp.ok _ (List.getElem_mem hi)
    refine AWPH.step (xc_ok (bitB 31071) _ _ _ ?_)
    simp only [go_sem, hi, ltN' hi, getD_map' _ _ _ _ hi]
    refine alloc_intro fun c8 h8 => ?_
    simp only [fresh_set] at h8
    simp only [go_sem, h4, h6, h8]
    refine (grid_Add (passG s.past (out.take i)) out[i] hgd.ok hok.k hok.w).useA ?_
    have hs := passG_snoc s.past out i hi
    rw [← hs]
    simp only [go_sem, h4, h6, h8]
    refine ih.back ?_ (by simp) ?_
    · simp only [Ecm.pv, Buf.pv, List.map_cons, List.map_nil]
      ((try dsimp only); (repeat refine sub_set ?_ ?_) <;> first | ((repeat (first | exact Sub.refl _ | refine Sub.setF ?_ (by first | assumption | simp only [*]) | refine Sub.setV ?_ (by first | assumption | simp only [*]))); done) | (simp only [go_sem, h4, h6, h8]; done) | (simp only [go_sem, h4, h6, h8]; rfl) | rfl)
      done
    · simp only [go_sem, wi_succ (show i < 4611686018427387904 by omega), List.length_map]
  · refine AWPH.step (xc_ok (bitB 31071) _ _ _ ?_)
    simp only [go_sem, List.take_length]
    have hgd := (hp.pre out.length).1
    rw [List.take_length] at hgd
    simp only [go_sem, h4, h6]
    refine (grid_Drop (passG s.past out) hgd.lo hgd.w1 (by have := hgd.w2; omega) hgd.wid (by have := hgd.n; have := hgd.sd; omega) b.front s.win).useA ?_
    simp only [go_sem, h4, h6]
    refine ⟨S, ?_, ?_⟩
    · repeat' first
        | exact Sub.refl _
        | refine Sub.set ?_ (by assumption) _
    · simp [passE]
end Go.Sk
end

-- W12e
section
namespace Go.Sk
open Go Go.Proofs

theorem event_eq (x y : Event) : (x.t == y.t && (x.k == y.k && x.w == y.w)) = decide (x = y) := by
  cases x; cases y
  rw [Bool.eq_iff_iff]; simp
theorem eq_events (a b : List Event) (ha : a.length < 1099511627776) : Pure Tryz.prog 94 [.p (evsP a), .p (evsP b)] (bl (decide (a = b))) := fun S => by
  refine callR_of Tryz.func94 rfl rfl (xc_ok (bitB 16806963) _ _ _ ?_)
  simp only [go_sem, evsP]
  by_cases hlen : a.length = b.length
  rotate_left
  · have hn : (a.length != b.length) = true := by simpa using hlen
    have hne : ¬ a = b := fun e => hlen (by rw [e])
    simp only [go_sem, hn]
    (refine ⟨S, by (repeat (first | exact Sub.refl _ | refine Sub.setF ?_ (by first | assumption | simp only [*]) | refine Sub.setV ?_ (by first | assumption | simp only [*]))), ?_⟩); simp [hne]
  · have hn : (a.length != b.length) = false := by simpa using hlen
    simp only [go_sem, hn]
    refine AWP.roam (fun i : Nat => i ≤ a.length ∧ ∀ j, j < i → ∀ (h1 : j < a.length) (h2 : j < b.length), a[j] = b[j]) (fun i => ⟨Env.get [(0, .p (.sl (a.map Event.pv))), (1, .p (.sl (b.map Event.pv))), (12, i64 a.length), (13, i64 i)], S, 26, []⟩) (fun i => a.length - i) 0 ⟨by omega, fun j h => by omega⟩ ?_ ?_
    · exact le_of (by simp only [go_sem]; simp) (Sub.refl _) rfl rfl (by simp)
    · rintro i ⟨hi, hall⟩ ih
      refine AWPH.step (xc_ok (bitB 16806963) _ _ _ ?_)
      by_cases h : i < a.length
      · have hb : i < b.length := by omega
        simp only [go_sem, h, hb, ltN' h, ltN' hb, getD_map' _ _ _ _ h, getD_map' _ _ _ _ hb]
        refine AWP.draw2 (bitB 16806963) mixed (by kernel_rfl) (fun j => bl false) ?_
        simp only [go_sem, h, hb, ltN' h, ltN' hb, getD_map' _ _ _ _ h, getD_map' _ _ _ _ hb, event_eq]
        by_cases hq : a[i] = b[i]
        · simp only [go_sem, hq, Bool.not_true]
          refine (ih (i + 1) ⟨h, all_step hall fun _ _ => hq⟩ (by omega)).back (by (repeat (first | exact Sub.refl _ | refine Sub.setF ?_ (by first | assumption | simp only [*]) | refine Sub.setV ?_ (by first | assumption | simp only [*])))) (by simp) ?_
          simp only [go_sem, wi_succ (show i < 4611686018427387904 by omega)]
        · simp only [go_sem, hq, Bool.not_false]
          (refine ⟨S, by (repeat (first | exact Sub.refl _ | refine Sub.setF ?_ (by first | assumption | simp only [*]) | refine Sub.setV ?_ (by first | assumption | simp only [*]))), ?_⟩)
          have hne : ¬ a = b := by rintro rfl; exact hq rfl
          simp [hne]
      · obtain rfl : i = a.length := by omega
        simp only [go_sem]
        (refine ⟨S, by (repeat (first | exact Sub.refl _ | refine Sub.setF ?_ (by first | assumption | simp only [*]) | refine Sub.setV ?_ (by first | assumption | simp only [*]))), ?_⟩)
        have : a = b := eq_of_all hlen fun j h1 h2 => hall j h1 h1 h2
        simp [this]

theorem ref12_Events (a b : List Event) (ha : a.length < 1099511627776) : Pure Tryz.prog 102 [.p (evsP a), .p (evsP b)] (bl (decide (a = b))) := fun S => by
  refine callR_of Tryz.func102 rfl rfl (xc_ok (bitB 33571891) _ _ _ ?_)
  simp only [go_sem, evsP]
  by_cases hlen : a.length = b.length
  rotate_left
  · have hn : (a.length != b.length) = true := by simpa using hlen
    have hne : ¬ a = b := fun e => hlen (by rw [e])
    simp only [go_sem, hn]
    (refine ⟨S, by (repeat (first | exact Sub.refl _ | refine Sub.setF ?_ (by first | assumption | simp only [*]) | refine Sub.setV ?_ (by first | assumption | simp only [*]))), ?_⟩); simp [hne]
  · have hn : (a.length != b.length) = false := by simpa using hlen
    simp only [go_sem, hn]
    refine AWP.roam (fun i : Nat => i ≤ a.length ∧ ∀ j, j < i → ∀ (h1 : j < a.length) (h2 : j < b.length), a[j] = b[j]) (fun i => ⟨Env.get [(0, .p (.sl (a.map Event.pv))), (1, .p (.sl (b.map Event.pv))), (5, i64 i)], S, 26, []⟩) (fun i => a.length - i) 0 ⟨by omega, fun j h => by omega⟩ ?_ ?_
    · exact le_of (by simp only [go_sem]; simp) (Sub.refl _) rfl rfl (by simp)
    · rintro i ⟨hi, hall⟩ ih
      refine AWPH.step (xc_ok (bitB 33571891) _ _ _ ?_)
      by_cases h : i < a.length
      · have hb : i < b.length := by omega
        simp only [go_sem, h, hb, ltN' h, ltN' hb, getD_map' _ _ _ _ h, getD_map' _ _ _ _ hb]
        refine AWP.draw2 (bitB 33571891) mixed (by kernel_rfl) (fun j => bl false) ?_
        simp only [go_sem, h, hb, ltN' h, ltN' hb, getD_map' _ _ _ _ h, getD_map' _ _ _ _ hb, event_eq]
        by_cases hq : a[i] = b[i]
        · simp only [go_sem, hq, Bool.not_true]
          refine (ih (i + 1) ⟨h, all_step hall fun _ _ => hq⟩ (by omega)).back (by (repeat (first | exact Sub.refl _ | refine Sub.setF ?_ (by first | assumption | simp only [*]) | refine Sub.setV ?_ (by first | assumption | simp only [*])))) (by simp) ?_
          simp only [go_sem, wi_succ (show i < 4611686018427387904 by omega)]
        · simp only [go_sem, hq, Bool.not_false]
          (refine ⟨S, by (repeat (first | exact Sub.refl _ | refine Sub.setF ?_ (by first | assumption | simp only [*]) | refine Sub.setV ?_ (by first | assumption | simp only [*]))), ?_⟩)
          have hne : ¬ a = b := by rintro rfl; exact hq rfl
          simp [hne]
      · obtain rfl : i = a.length := by omega
        simp only [go_sem]
        (refine ⟨S, by (repeat (first | exact Sub.refl _ | refine Sub.setF ?_ (by first | assumption | simp only [*]) | refine Sub.setV ?_ (by first | assumption | simp only [*]))), ?_⟩)
        have : a = b := eq_of_all hlen fun j h1 h2 => hall j h1 h1 h2
        simp [this]


set_option maxRecDepth 16000 in
set_option maxHeartbeats 1000000 in
theorem buf_Same (a b : Buf) (ha : a.evs.length < 1099511627776) : Pure Tryz.prog 54 [a.av, b.av] (bl (decide (a = b))) := fun S => by
  obtain ⟨l1, r1, m1, f1, e1⟩ := a
  obtain ⟨l2, r2, m2, f2, e2⟩ := b
  dsimp only at ha
  refine callR_of Tryz.func54 rfl rfl (xc_ok (bitB 63) _ _ _ ?_)
  simp only [go_sem]
  refine alloc_intro fun c2 h2 => ?_
  simp only [go_sem]
  refine alloc_intro fun c3 h3 => ?_
  simp only [fresh_set] at h3
  by_cases q1 : l1 = l2
  rotate_left
  · have g1 : (l1 == l2) = false := by simpa using q1
    simp only [go_sem, h3, g1]
    (refine ⟨S, by (repeat (first | exact Sub.refl _ | refine Sub.setF ?_ (by first | assumption | simp only [*]) | refine Sub.setV ?_ (by first | assumption | simp only [*]))), ?_⟩); simp [q1]
  have g1 : (l1 == l2) = true := by simpa using q1
  by_cases q2 : m1 = m2
  rotate_left
  · have g2 : (m1 == m2) = false := by simpa using q2
    simp only [go_sem, h3, g1, g2]
    (refine ⟨S, by (repeat (first | exact Sub.refl _ | refine Sub.setF ?_ (by first | assumption | simp only [*]) | refine Sub.setV ?_ (by first | assumption | simp only [*]))), ?_⟩); simp [q2]
  have g2 : (m1 == m2) = true := by simpa using q2
  by_cases q3 : f1 = f2
  rotate_left
  · have g3 : (f1 == f2) = false := by simpa using q3
    simp only [go_sem, h3, g1, g2, g3]
    (refine ⟨S, by (repeat (first | exact Sub.refl _ | refine Sub.setF ?_ (by first | assumption | simp only [*]) | refine Sub.setV ?_ (by first | assumption | simp only [*]))), ?_⟩); simp [q3]
  have g3 : (f1 == f2) = true := by simpa using q3
  by_cases q4 : r1 = r2
  rotate_left
  · have g4 : (r1 == r2) = false := by simpa using q4
    simp only [go_sem, h3, g1, g2, g3, g4]
    (refine ⟨S, by (repeat (first | exact Sub.refl _ | refine Sub.setF ?_ (by first | assumption | simp only [*]) | refine Sub.setV ?_ (by first | assumption | simp only [*]))), ?_⟩); simp [q4]
  have g4 : (r1 == r2) = true := by simpa using q4
  simp only [go_sem, h3, g1, g2, g3, g4]
  refine (eq_events e1 e2 ha).useA ?_
  simp only [go_sem, h3]
  (refine ⟨S, by (repeat (first | exact Sub.refl _ | refine Sub.setF ?_ (by first | assumption | simp only [*]) | refine Sub.setV ?_ (by first | assumption | simp only [*]))), ?_⟩); simp [q1, q2, q3, q4]
set_option maxRecDepth 16000 in
set_option maxHeartbeats 1000000 in
theorem ref12_Same (a b : Buf) (ha : a.evs.length < 1099511627776) : Pure Tryz.prog 65 [a.av, b.av] (bl (decide (a = b))) := fun S => by
  obtain ⟨l1, r1, m1, f1, e1⟩ := a
  obtain ⟨l2, r2, m2, f2, e2⟩ := b
  dsimp only at ha
  refine callR_of Tryz.func65 rfl rfl (xc_ok (bitB 31) _ _ _ ?_)
  simp only [go_sem]
  refine alloc_intro fun c2 h2 => ?_
  simp only [go_sem]
  refine alloc_intro fun c3 h3 => ?_
  simp only [fresh_set] at h3
  by_cases q1 : l1 = l2
  rotate_left
  · have g1 : (l1 == l2) = false := by simpa using q1
    simp only [go_sem, h3, g1]
    (refine ⟨S, by (repeat (first | exact Sub.refl _ | refine Sub.setF ?_ (by first | assumption | simp only [*]) | refine Sub.setV ?_ (by first | assumption | simp only [*]))), ?_⟩); simp [q1]
  have g1 : (l1 == l2) = true := by simpa using q1
  by_cases q4 : r1 = r2
  rotate_left
  · have g4 : (r1 == r2) = false := by simpa using q4
    simp only [go_sem, h3, g1, g4]
    (refine ⟨S, by (repeat (first | exact Sub.refl _ | refine Sub.setF ?_ (by first | assumption | simp only [*]) | refine Sub.setV ?_ (by first | assumption | simp only [*]))), ?_⟩); simp [q4]
  have g4 : (r1 == r2) = true := by simpa using q4
  by_cases q2 : m1 = m2
  rotate_left
  · have g2 : (m1 == m2) = false := by simpa using q2
    simp only [go_sem, h3, g1, g4, g2]
    (refine ⟨S, by (repeat (first | exact Sub.refl _ | refine Sub.setF ?_ (by first | assumption | simp only [*]) | refine Sub.setV ?_ (by first | assumption | simp only [*]))), ?_⟩); simp [q2]
  have g2 : (m1 == m2) = true := by simpa using q2
  by_cases q3 : f1 = f2
  rotate_left
  · have g3 : (f1 == f2) = false := by simpa using q3
    simp only [go_sem, h3, g1, g2, g3, g4]
    (refine ⟨S, by (repeat (first | exact Sub.refl _ | refine Sub.setF ?_ (by first | assumption | simp only [*]) | refine Sub.setV ?_ (by first | assumption | simp only [*]))), ?_⟩); simp [q3]
  have g3 : (f1 == f2) = true := by simpa using q3
  simp only [go_sem, h3, g1, g2, g3, g4]
  refine (ref12_Events e1 e2 ha).useA ?_
  simp only [go_sem, h3]
  (refine ⟨S, by (repeat (first | exact Sub.refl _ | refine Sub.setF ?_ (by first | assumption | simp only [*]) | refine Sub.setV ?_ (by first | assumption | simp only [*]))), ?_⟩); simp [q1, q2, q3, q4]
theorem ref12_Conf (late : Nat) (room : Int) : Pure Tryz.prog 25 [u64 late, i64 room] (bl (decide (late ≤ 4611686018427387904 ∧ 1 ≤ room ∧ room ≤ 1024))) := fun S => by
  refine callR_of Tryz.func25 rfl rfl (xc_ok (bitB 19) _ _ _ ?_)
  simp only [go_sem]
  by_cases c1 : late ≤ 4611686018427387904
  rotate_left
  · simp only [go_sem, c1]
    (refine ⟨S, by (repeat (first | exact Sub.refl _ | refine Sub.setF ?_ (by first | assumption | simp only [*]) | refine Sub.setV ?_ (by first | assumption | simp only [*]))), ?_⟩); simp [c1]
  by_cases c2 : 1 ≤ room
  rotate_left
  · simp only [go_sem, c1, c2]
    (refine ⟨S, by (repeat (first | exact Sub.refl _ | refine Sub.setF ?_ (by first | assumption | simp only [*]) | refine Sub.setV ?_ (by first | assumption | simp only [*]))), ?_⟩); simp [c1, c2]
  · simp only [go_sem, c1, c2]
    (refine ⟨S, by (repeat (first | exact Sub.refl _ | refine Sub.setF ?_ (by first | assumption | simp only [*]) | refine Sub.setV ?_ (by first | assumption | simp only [*]))), ?_⟩); simp [c1, c2]
end Go.Sk
end

-- W14A
section
namespace Go.Sk
open Go Go.Proofs

theorem ref14_Asked (b : Buf) (win tick span : Nat) : Pure Tryz.prog 38 [b.av, u64 win, u64 tick, u64 span] (i64 (if tick < b.front ∨ 9223372036854775807 < tick then 6 else if span = 0 ∨ win < span then 8 else 0)) := fun S => by
  refine callR_of Tryz.func38 rfl rfl (xc_ok (bitB 8454431) _ _ _ ?_)
  simp only [go_sem]
  refine alloc_intro fun c4 h4 => ?_
  simp only [go_sem]
  by_cases q1 : tick < b.front
  · simp only [go_sem, q1]
    (refine ⟨S, by (repeat (first | exact Sub.refl _ | refine Sub.setF ?_ (by first | assumption | simp only [*]) | refine Sub.setV ?_ (by first | assumption | simp only [*]))), ?_⟩); simp [q1]
  by_cases q2 : 9223372036854775807 < tick
  · simp only [go_sem, q1, q2]
    (refine ⟨S, by (repeat (first | exact Sub.refl _ | refine Sub.setF ?_ (by first | assumption | simp only [*]) | refine Sub.setV ?_ (by first | assumption | simp only [*]))), ?_⟩); simp [q2]
  by_cases q3 : span = 0
  · have g3 : (span == 0) = true := by simpa using q3
    simp only [go_sem, q1, q2, g3]
    (refine ⟨S, by (repeat (first | exact Sub.refl _ | refine Sub.setF ?_ (by first | assumption | simp only [*]) | refine Sub.setV ?_ (by first | assumption | simp only [*]))), ?_⟩); simp [q1, q2, q3]
  have g3 : (span == 0) = false := by simpa using q3
  by_cases q4 : win < span
  · simp only [go_sem, q1, q2, g3, q4]
    (refine ⟨S, by (repeat (first | exact Sub.refl _ | refine Sub.setF ?_ (by first | assumption | simp only [*]) | refine Sub.setV ?_ (by first | assumption | simp only [*]))), ?_⟩); simp [q1, q2, q3, q4]
  · simp only [go_sem, q1, q2, g3, q4]
    (refine ⟨S, by (repeat (first | exact Sub.refl _ | refine Sub.setF ?_ (by first | assumption | simp only [*]) | refine Sub.setV ?_ (by first | assumption | simp only [*]))), ?_⟩); simp [q1, q2, q3, q4]
end Go.Sk
end

-- W13
section
namespace Go.Sk
open Go Go.Proofs

theorem scan_within1 {S : Store} {b1 b2 : Nat} (tick span : Nat) (e : Event) (h1 : S (.r b1) = some (.cells [u64 tick])) (h2 : S (.r b2) = some (.cells [u64 span])) :
    CallR Tryz.prog 106 [e.av, .sp b1 0, .sp b2 0] S (fun r S' => r = bl (withinV tick span e) ∧ S' = S) := by
  refine callR_of Tryz.func106 rfl rfl (xc_ok (bitB 31) _ _ _ ?_)
  simp only [go_sem]
  refine alloc_intro fun b hb => ?_
  have n1 := hb.ne h1; have n2 := hb.ne h2
  simp only [go_sem, h1, h2, n1, n2]
  (first | refine dec_split (fun hc => ?_) (fun hc => ?_) | refine gdd_split (fun hc => ?_) (fun hc => ?_) | refine bool_split (fun hc => ?_) (fun hc => ?_) | refine gd_split (fun hc => ?_) (fun hc => ?_)) <;> simp only [go_sem, h1, h2, n1, n2]
  · (first | refine dec_split (fun hd => ?_) (fun hd => ?_) | refine gdd_split (fun hd => ?_) (fun hd => ?_) | refine bool_split (fun hd => ?_) (fun hd => ?_) | refine gd_split (fun hd => ?_) (fun hd => ?_)) <;> simp only [go_sem, h1, h2, n1, n2]
    · (refine ⟨S, by (repeat (first | exact Sub.refl _ | refine Sub.setF ?_ (by first | assumption | simp only [*]) | refine Sub.setV ?_ (by first | assumption | simp only [*]))), ?_⟩); simp [withinV, hc, hd]
    · (refine ⟨S, by (repeat (first | exact Sub.refl _ | refine Sub.setF ?_ (by first | assumption | simp only [*]) | refine Sub.setV ?_ (by first | assumption | simp only [*]))), ?_⟩); simp [withinV, hc, hd]
  · (refine ⟨S, by (repeat (first | exact Sub.refl _ | refine Sub.setF ?_ (by first | assumption | simp only [*]) | refine Sub.setV ?_ (by first | assumption | simp only [*]))), ?_⟩); simp [withinV, hc]

theorem scan_weight (e : Event) : Pure Tryz.prog 73 [e.av] (u64 e.w) := fun S => by
  refine callR_of Tryz.func73 rfl rfl (xc_ok (bitB 7) _ _ _ ?_)
  simp only [go_sem]
  refine alloc_intro fun b hb => ?_
  simp only [go_sem]
  (refine ⟨S, by (repeat (first | exact Sub.refl _ | refine Sub.setF ?_ (by first | assumption | simp only [*]) | refine Sub.setV ?_ (by first | assumption | simp only [*]))), ?_⟩); simp

theorem scan_within (t s : Nat) (S : Store) : CallR Tryz.prog 69 [u64 t, u64 s] S (fun r S' => ∃ b1 b2, Fresh S b1 ∧ Fresh S b2 ∧ (¬ b1 = b2 ∧ ¬ b2 = b1) ∧ r = .fn (.func 106) [] [.sp b1 0, .sp b2 0] ∧ S' = (S.set (.r b1) (.cells [u64 t])).set (.r b2) (.cells [u64 s])) := by
  refine callR_of Tryz.func69 rfl rfl (xc_ok (bitB 31) _ _ _ ?_)
  simp only [go_sem]
  refine alloc_intro fun b hb => ?_
  simp only [go_sem]
  refine alloc_intro fun b' hb' => ?_
  simp only [fresh_set] at hb'
  simp only [go_sem, hb']
  exact ⟨_, Sub.refl _, Or.inl ⟨b, b', hb, hb'.2, ⟨hb'.1.2, hb'.1.1⟩, rfl, rfl⟩⟩

theorem scan_sum {S : Store} (l : List Event) (f g : AV) (p : Event → Bool) (q : Event → Nat) (hl : l.length < 4611686018427387904) (hf : ∀ e ∈ l, PureF Tryz.prog S f [e.av] (bl (p e))) (hg : ∀ e ∈ l, PureF Tryz.prog S g [e.av] (u64 (q e))) :
    CallR Tryz.prog 70 [.p (evsP l), f, g] S (fun r S' => r = u64 (sumV p q 0 l) ∧ S' = S) := by
  refine callR_of Tryz.func70 rfl rfl (xc_ok (bitB 278215) _ _ _ ?_)
  simp only [go_sem, evsP]
  refine AWP.iter (fun i => ⟨Env.get [(1, f), (2, g), (7, u64 (sumV p q 0 (l.take i))), (10, .p (.sl (l.map Event.pv))), (11, i64 l.length), (12, i64 i)], S, 26, []⟩) l.length ?_ ?_ ?_
  · exact le_of (by simp only [go_sem]; simp [sumV]) (Sub.refl _) rfl rfl (by simp)
  · intro i hi ih
    have hm := List.getElem_mem hi
    refine AWPH.step (xc_ok (bitB 278215) _ _ _ ?_)
    simp only [go_sem, hi, ltN' hi, getD_map' _ _ _ _ hi]
    refine alloc_intro fun b hb => ?_
    simp only [go_sem]
    have hm0 := hf _ hm
    cases hp : p l[i]
    · refine hm0.useA rfl (by (repeat (first | exact KeepAll.refl _ | refine KeepAll.setF ?_ (by first | assumption | simp only [*]) | refine KeepAll.setV ?_ (by first | assumption | simp only [*])))) ?_
      simp only [go_sem, hp]
      refine ih.back (by (repeat (first | exact Sub.refl _ | refine Sub.setF ?_ (by first | assumption | simp only [*]) | refine Sub.setV ?_ (by first | assumption | simp only [*])))) (by simp) ?_
      simp only [go_sem, sumV_snoc p q 0 l i hi, hp, wi_succ (show i < 4611686018427387904 by omega)]
    · refine hm0.useA rfl (by (repeat (first | exact KeepAll.refl _ | refine KeepAll.setF ?_ (by first | assumption | simp only [*]) | refine KeepAll.setV ?_ (by first | assumption | simp only [*])))) ?_
      simp only [go_sem, hp]
      refine (hg _ hm).useA rfl (by (repeat (first | exact KeepAll.refl _ | refine KeepAll.setF ?_ (by first | assumption | simp only [*]) | refine KeepAll.setV ?_ (by first | assumption | simp only [*])))) ?_
      simp only [go_sem]
      refine ih.back (by (repeat (first | exact Sub.refl _ | refine Sub.setF ?_ (by first | assumption | simp only [*]) | refine Sub.setV ?_ (by first | assumption | simp only [*])))) (by simp) ?_
      simp only [go_sem, sumV_snoc p q 0 l i hi, hp, wi_succ (show i < 4611686018427387904 by omega)]
  · refine AWPH.step (xc_ok (bitB 278215) _ _ _ ?_)
    simp only [go_sem, List.take_length]
    (refine ⟨S, by (repeat (first | exact Sub.refl _ | refine Sub.setF ?_ (by first | assumption | simp only [*]) | refine Sub.setV ?_ (by first | assumption | simp only [*]))), ?_⟩); simp
end Go.Sk
end

-- W13w
section
namespace Go.Sk
open Go Go.Proofs

theorem ref13_Within (tick span : Nat) (e : Event) : Pure Tryz.prog 77 [e.av, u64 tick, u64 span] (bl (withinV tick span e)) := fun S => by
  refine callR_of Tryz.func77 rfl rfl (xc_ok (bitB 79) _ _ _ ?_)
  simp only [go_sem]
  refine alloc_intro fun b hb => ?_
  simp only [go_sem]
  (first | refine dec_split (fun hc => ?_) (fun hc => ?_) | refine gdd_split (fun hc => ?_) (fun hc => ?_) | refine bool_split (fun hc => ?_) (fun hc => ?_) | refine gd_split (fun hc => ?_) (fun hc => ?_)) <;> simp only [go_sem]
  · (first | refine dec_split (fun hd => ?_) (fun hd => ?_) | refine gdd_split (fun hd => ?_) (fun hd => ?_) | refine bool_split (fun hd => ?_) (fun hd => ?_) | refine gd_split (fun hd => ?_) (fun hd => ?_)) <;> simp only [go_sem]
    · (refine ⟨S, by (repeat (first | exact Sub.refl _ | refine Sub.setF ?_ (by first | assumption | simp only [*]) | refine Sub.setV ?_ (by first | assumption | simp only [*]))), ?_⟩); simp [withinV, hc, hd]
    · (refine ⟨S, by (repeat (first | exact Sub.refl _ | refine Sub.setF ?_ (by first | assumption | simp only [*]) | refine Sub.setV ?_ (by first | assumption | simp only [*]))), ?_⟩); simp [withinV, hc, hd]
  · (refine ⟨S, by (repeat (first | exact Sub.refl _ | refine Sub.setF ?_ (by first | assumption | simp only [*]) | refine Sub.setV ?_ (by first | assumption | simp only [*]))), ?_⟩); simp [withinV, hc]

end Go.Sk
end

-- W13s
section
namespace Go.Sk
open Go Go.Proofs

theorem within_pf {S : Store} {b1 b2 : Nat} (tick span : Nat) (e : Event) (h1 : S (.r b1) = some (.cells [u64 tick])) (h2 : S (.r b2) = some (.cells [u64 span])) :
    PureF Tryz.prog S (.fn (.func 106) [] [.sp b1 0, .sp b2 0]) [e.av] (bl (withinV tick span e)) :=
  fun _ hS => FunR.of_call (scan_within1 tick span e (hS.get h1) (hS.get h2))
theorem weight_pf (S : Store) (e : Event) : PureF Tryz.prog S (.fn (.func 73) [] []) [e.av] (u64 e.w) :=
  fun S' _ => FunR.of_call (scan_weight e S')

theorem scan_Sum (l : List Event) (tick span : Nat) (hl : l.length < 4611686018427387904) : Pure Tryz.prog 43 [.p (evsP l), u64 tick, u64 span] (u64 (spanV l tick span)) := fun S => by
  refine callR_of Tryz.func43 rfl rfl (xc_ok (bitB 71) _ _ _ ?_)
  simp only [go_sem]
  refine (scan_within tick span S).useA ?_
  rintro _ _ ⟨b1, b2, f1, f2, ⟨n1, n2⟩, rfl, rfl⟩
  simp only [go_sem]
  refine (scan_sum l _ _ (withinV tick span) Event.w hl (fun e _ => within_pf tick span e (b1 := b1) (b2 := b2) (by simp [Store.set, n1]) (by simp [Store.set])) (fun e _ => weight_pf _ e)).useA ?_
  rintro _ _ ⟨rfl, rfl⟩
  simp only [go_sem]
  (refine ⟨S, by (repeat (first | exact Sub.refl _ | refine Sub.setF ?_ (by first | assumption | simp only [*]) | refine Sub.setV ?_ (by first | assumption | simp only [*]))), ?_⟩); simp [spanV]

theorem ref13_Sum (l : List Event) (tick span : Nat) (hl : l.length < 4611686018427387904) : Pure Tryz.prog 45 [.p (evsP l), u64 tick, u64 span] (u64 (spanV l tick span)) := fun S => by
  refine callR_of Tryz.func45 rfl rfl (xc_ok (bitB 2101703) _ _ _ ?_)
  simp only [go_sem, evsP]
  refine AWP.iter (fun i => ⟨Env.get [(0, .p (.sl (l.map Event.pv))), (1, u64 tick), (2, u64 span), (7, u64 (spanV (l.take i) tick span)), (8, i64 i)], S, 30, []⟩) l.length ?_ ?_ ?_
  · exact le_of (by simp only [go_sem]; simp [spanV, sumV]) (Sub.refl _) rfl rfl (by simp)
  · intro i hi ih
    refine AWPH.step (xc_ok (bitB 2101703) _ _ _ ?_)
    simp only [go_sem, hi, ltN' hi, getD_map' _ _ _ _ hi]
    refine (ref13_Within tick span l[i]).useA ?_
    cases hp : withinV tick span l[i]
    · simp only [go_sem]
      refine ih.back (by (repeat (first | exact Sub.refl _ | refine Sub.setF ?_ (by first | assumption | simp only [*]) | refine Sub.setV ?_ (by first | assumption | simp only [*])))) (by simp) ?_
      simp only [go_sem, spanV, sumV_snoc _ _ 0 l i hi, hp, wi_succ (show i < 4611686018427387904 by omega)]
    · simp only [go_sem, hi, ltN' hi, getD_map' _ _ _ _ hi]
      refine ih.back (by (repeat (first | exact Sub.refl _ | refine Sub.setF ?_ (by first | assumption | simp only [*]) | refine Sub.setV ?_ (by first | assumption | simp only [*])))) (by simp) ?_
      simp only [go_sem, spanV, sumV_snoc _ _ 0 l i hi, hp, wi_succ (show i < 4611686018427387904 by omega)]
  · refine AWPH.step (xc_ok (bitB 2101703) _ _ _ ?_)
    simp only [go_sem, List.take_length]
    (refine ⟨S, by (repeat (first | exact Sub.refl _ | refine Sub.setF ?_ (by first | assumption | simp only [*]) | refine Sub.setV ?_ (by first | assumption | simp only [*]))), ?_⟩); simp

end Go.Sk
end

-- W16d
section
namespace Go.Sk
open Go Go.Proofs

theorem ecm_asked (s : Ecm) (tick span : Nat) : Pure Tryz.prog 31 [s.av, u64 tick, u64 span] (i64 (if tick < s.b.front ∨ 9223372036854775807 < tick then 6 else if span = 0 ∨ s.win < span then 8 else 0)) := fun S => by
  refine callR_of Tryz.func31 rfl rfl (xc_ok (bitB 131279) _ _ _ ?_)
  simp only [go_sem]
  refine alloc_intro fun c3 h3 => ?_
  simp only [go_sem]
  by_cases q1 : tick < s.b.front
  · simp only [go_sem, q1]
    (refine ⟨S, by (repeat (first | exact Sub.refl _ | refine Sub.setF ?_ (by first | assumption | simp only [*]) | refine Sub.setV ?_ (by first | assumption | simp only [*]))), ?_⟩); simp [q1]
  by_cases q2 : 9223372036854775807 < tick
  · simp only [go_sem, q1, q2]
    (refine ⟨S, by (repeat (first | exact Sub.refl _ | refine Sub.setF ?_ (by first | assumption | simp only [*]) | refine Sub.setV ?_ (by first | assumption | simp only [*]))), ?_⟩); simp [q2]
  by_cases q3 : span = 0
  · have g3 : decide (span < 1) = true := by simpa using q3
    simp only [go_sem, q1, q2, g3]
    (refine ⟨S, by (repeat (first | exact Sub.refl _ | refine Sub.setF ?_ (by first | assumption | simp only [*]) | refine Sub.setV ?_ (by first | assumption | simp only [*]))), ?_⟩); simp [q1, q2, q3]
  have g3 : decide (span < 1) = false := by simpa using q3
  by_cases q4 : s.win < span
  · simp only [go_sem, q1, q2, g3, q4]
    (refine ⟨S, by (repeat (first | exact Sub.refl _ | refine Sub.setF ?_ (by first | assumption | simp only [*]) | refine Sub.setV ?_ (by first | assumption | simp only [*]))), ?_⟩); simp [q1, q2, q3, q4]
  · simp only [go_sem, q1, q2, g3, q4]
    (refine ⟨S, by (repeat (first | exact Sub.refl _ | refine Sub.setF ?_ (by first | assumption | simp only [*]) | refine Sub.setV ?_ (by first | assumption | simp only [*]))), ?_⟩); simp [q1, q2, q3, q4]
noncomputable def allE (s : Ecm) (tick span : Nat) : Nat × Int :=
  if tick < s.b.front ∨ 9223372036854775807 < tick then (0, 6) else if span = 0 ∨ s.win < span then (0, 8) else (m64 (estV s.past.all.ls tick span + spanV s.b.evs tick span), 0)
theorem ecm_All (s : Ecm) (hg : s.Good) (tick span : Nat) : Pure Tryz.prog 15 [s.av, u64 tick, u64 span] (.tuple [u64 (allE s tick span).1, i64 (allE s tick span).2]) := fun S => by
  have hn := hg.evLen
  have hp := hg.pg.all
  have hE := est_Of s.past.all.k s.past.all.g s.past.all.ls tick span (by have := hp.len; omega) (fun l hl => by have := hp.sm l hl; have := hp.k1; omega)
  have hQ := scan_Sum s.b.evs tick span (by omega)
  have hA := ecm_asked s tick span
  refine callR_of Tryz.func15 rfl rfl (xc_ok (bitB 16847) _ _ _ ?_)
  simp only [go_sem]
  refine alloc_intro fun c3 h3 => ?_
  simp only [go_sem]
  refine hA.useA ?_
  by_cases q1 : tick < s.b.front ∨ 9223372036854775807 < tick
  · rw [if_pos q1]
    have g : ((6 : Int) != 0) = true := by decide
    simp only [go_sem, g]
    (refine ⟨S, by (repeat (first | exact Sub.refl _ | refine Sub.setF ?_ (by first | assumption | simp only [*]) | refine Sub.setV ?_ (by first | assumption | simp only [*]))), ?_⟩); simp [allE, q1]
  rw [if_neg q1]
  by_cases q2 : span = 0 ∨ s.win < span
  · rw [if_pos q2]
    have g : ((8 : Int) != 0) = true := by decide
    simp only [go_sem, g]
    (refine ⟨S, by (repeat (first | exact Sub.refl _ | refine Sub.setF ?_ (by first | assumption | simp only [*]) | refine Sub.setV ?_ (by first | assumption | simp only [*]))), ?_⟩); simp [allE, q1, q2]
  rw [if_neg q2]
  simp only [go_sem, bne_self_eq_false]
  refine AWP.draw2 (bitB 16847) mixed (by kernel_rfl) (fun j => if j = 5 then u64 (estV s.past.all.ls tick span) else u64 (spanV s.b.evs tick span)) ?_
  simp only [go_sem]
  refine ⟨hE.draw, hQ.draw, ?_⟩
  (refine ⟨S, by (repeat (first | exact Sub.refl _ | refine Sub.setF ?_ (by first | assumption | simp only [*]) | refine Sub.setV ?_ (by first | assumption | simp only [*]))), ?_⟩); simp [allE, q1, q2]
theorem ref16_All (s : Ecm) (hg : s.Good) (tick span : Nat) : Pure Tryz.prog 16 [s.av, u64 tick, u64 span] (.tuple [u64 (allE s tick span).1, i64 (allE s tick span).2]) := fun S => by
  have hn := hg.evLen
  have hp := hg.pg.all
  have hE := ref08_Of s.past.all.k s.past.all.g s.past.all.ls tick span (by have := hp.len; omega) (fun l hl => by have := hp.sm l hl; have := hp.k1; omega)
  have hQ := ref13_Sum s.b.evs tick span (by omega)
  have hA := ref14_Asked s.b s.win tick span
  refine callR_of Tryz.func16 rfl rfl (xc_ok (bitB 131535) _ _ _ ?_)
  simp only [go_sem]
  refine alloc_intro fun c3 h3 => ?_
  simp only [go_sem]
  refine hA.useA ?_
  by_cases q1 : tick < s.b.front ∨ 9223372036854775807 < tick
  · rw [if_pos q1]
    have g : ((6 : Int) != 0) = true := by decide
    simp only [go_sem, g]
    (refine ⟨S, by (repeat (first | exact Sub.refl _ | refine Sub.setF ?_ (by first | assumption | simp only [*]) | refine Sub.setV ?_ (by first | assumption | simp only [*]))), ?_⟩); simp [allE, q1]
  rw [if_neg q1]
  by_cases q2 : span = 0 ∨ s.win < span
  · rw [if_pos q2]
    have g : ((8 : Int) != 0) = true := by decide
    simp only [go_sem, g]
    (refine ⟨S, by (repeat (first | exact Sub.refl _ | refine Sub.setF ?_ (by first | assumption | simp only [*]) | refine Sub.setV ?_ (by first | assumption | simp only [*]))), ?_⟩); simp [allE, q1, q2]
  rw [if_neg q2]
  simp only [go_sem, bne_self_eq_false]
  refine AWP.draw2 (bitB 131535) mixed (by kernel_rfl) (fun j => if j = 5 then u64 (estV s.past.all.ls tick span) else u64 (spanV s.b.evs tick span)) ?_
  simp only [go_sem]
  refine ⟨hE.draw, hQ.draw, ?_⟩
  (refine ⟨S, by (repeat (first | exact Sub.refl _ | refine Sub.setF ?_ (by first | assumption | simp only [*]) | refine Sub.setV ?_ (by first | assumption | simp only [*]))), ?_⟩); simp [allE, q1, q2]

structure Ecm.Small (s : Ecm) : Prop where
  e : s.b.evs.length < 1099511627776
  g : s.past.Small
theorem Ecm.Good.small {s : Ecm} (hg : s.Good) : s.Small := ⟨by have := hg.evLen; omega, hg.pg.small⟩
theorem zeroE_small : zeroE.Small := ⟨by decide, ⟨by decide, ⟨by decide, fun r hr => by cases hr⟩, ⟨by decide, fun l hl => by cases hl⟩⟩⟩
set_option maxHeartbeats 1000000 in
set_option maxRecDepth 8000 in
theorem ecm_Same (x y : Ecm) (hx : x.Small) : Pure Tryz.prog 22 [x.av, y.av] (bl (decide (x = y))) := fun S => by
  have hb := buf_Same x.b y.b hx.e
  have hh := grid_Same x.past y.past hx.g
  refine callR_of Tryz.func22 rfl rfl (xc_ok (bitB 31) _ _ _ ?_)
  simp only [go_sem]
  refine alloc_intro fun c2 h2 => ?_
  simp only [go_sem]
  refine alloc_intro fun c3 h3 => ?_
  simp only [fresh_set] at h3
  have hd : x = y ↔ x.win = y.win ∧ x.b = y.b ∧ x.past = y.past := by cases x; cases y; simp
  by_cases q1 : x.win = y.win
  rotate_left
  · have g1 : (x.win == y.win) = false := by simpa using q1
    simp only [go_sem, h3, g1]
    (refine ⟨S, by (repeat (first | exact Sub.refl _ | refine Sub.setF ?_ (by first | assumption | simp only [*]) | refine Sub.setV ?_ (by first | assumption | simp only [*]))), ?_⟩); simp [hd, q1]
  have g1 : (x.win == y.win) = true := by simpa using q1
  simp only [go_sem, h3, g1]
  by_cases q2 : x.b = y.b
  rotate_left
  · rw [decide_eq_false q2] at hb
    refine hb.useA ?_
    simp only [go_sem, h3]
    (refine ⟨S, by (repeat (first | exact Sub.refl _ | refine Sub.setF ?_ (by first | assumption | simp only [*]) | refine Sub.setV ?_ (by first | assumption | simp only [*]))), ?_⟩); simp [hd, q2]
  rw [decide_eq_true q2] at hb
  refine hb.useA ?_
  simp only [go_sem, h3]
  refine hh.useA ?_
  simp only [go_sem, h3]
  (refine ⟨S, by (repeat (first | exact Sub.refl _ | refine Sub.setF ?_ (by first | assumption | simp only [*]) | refine Sub.setV ?_ (by first | assumption | simp only [*]))), ?_⟩); simp [hd, q1, q2]
set_option maxHeartbeats 1000000 in
set_option maxRecDepth 8000 in
theorem ref16_Same (x y : Ecm) (hx : x.Small) : Pure Tryz.prog 28 [x.av, y.av] (bl (decide (x = y))) := fun S => by
  have hb := ref12_Same x.b y.b hx.e
  have hh := ref15_Same x.past y.past hx.g
  refine callR_of Tryz.func28 rfl rfl (xc_ok (bitB 31) _ _ _ ?_)
  simp only [go_sem]
  refine alloc_intro fun c2 h2 => ?_
  simp only [go_sem]
  refine alloc_intro fun c3 h3 => ?_
  simp only [fresh_set] at h3
  have hd : x = y ↔ x.win = y.win ∧ x.b = y.b ∧ x.past = y.past := by cases x; cases y; simp
  by_cases q1 : x.win = y.win
  rotate_left
  · have g1 : (x.win == y.win) = false := by simpa using q1
    simp only [go_sem, h3, g1]
    (refine ⟨S, by (repeat (first | exact Sub.refl _ | refine Sub.setF ?_ (by first | assumption | simp only [*]) | refine Sub.setV ?_ (by first | assumption | simp only [*]))), ?_⟩); simp [hd, q1]
  have g1 : (x.win == y.win) = true := by simpa using q1
  simp only [go_sem, h3, g1]
  by_cases q2 : x.b = y.b
  rotate_left
  · rw [decide_eq_false q2] at hb
    refine hb.useA ?_
    simp only [go_sem, h3]
    (refine ⟨S, by (repeat (first | exact Sub.refl _ | refine Sub.setF ?_ (by first | assumption | simp only [*]) | refine Sub.setV ?_ (by first | assumption | simp only [*]))), ?_⟩); simp [hd, q2]
  rw [decide_eq_true q2] at hb
  refine hb.useA ?_
  simp only [go_sem, h3]
  refine hh.useA ?_
  simp only [go_sem, h3]
  (refine ⟨S, by (repeat (first | exact Sub.refl _ | refine Sub.setF ?_ (by first | assumption | simp only [*]) | refine Sub.setV ?_ (by first | assumption | simp only [*]))), ?_⟩); simp [hd, q1, q2]

structure ConfE where (kind k : Int) (win late : Nat) (room w : Int) (sd : List Seed) (keys parts : Int)
def ConfE.pv (c : ConfE) : List PV := [.int .i64 c.kind, .int .i64 c.k, .int .u64 c.win, .int .u64 c.late, .int .i64 c.room, .int .i64 c.w, .sl (c.sd.map Seed.pv), .int .i64 c.keys, .int .i64 c.parts]
def ConfE.av (c : ConfE) : AV := .agg (c.pv.map .p)
attribute [go_sem] ConfE.pv ConfE.av
def ConfE.two (c : ConfE) : Conf2 := ⟨c.k, c.w, c.sd⟩
def confE (c : ConfE) : Int := if c.win = 0 ∨ 4611686018427387904 < c.win ∨ ¬ (c.late ≤ 4611686018427387904 ∧ 1 ≤ c.room ∧ c.room ≤ 1024) then 9 else confV c.k c.w c.sd
def ConfE.new (c : ConfE) : Ecm := newE c.k c.w c.sd c.win c.late c.room
def tameE' (c : ConfE) : ConfE := ⟨2, tameK c.two, 1 + c.win % 1000, c.late % 100, 1 + max c.room 0 % 7, tameW c.two, tameS c.two, 0, 0⟩
theorem ref16_Conf (c : ConfE) (hn : c.sd.length < 1099511627776) : Pure Tryz.prog 8 [c.av] (i64 (confE c)) := fun S => by
  have h12 := ref12_Conf c.late c.room
  have h15 := ref15_Conf c.k c.w c.sd hn
  refine callR_of Tryz.func8 rfl rfl (xc_ok (bitB 262151) _ _ _ ?_)
  simp only [go_sem]
  refine alloc_intro fun c1 h1 => ?_
  simp only [go_sem]
  by_cases q1 : c.win = 0
  · have g1 : (c.win == 0) = true := by simpa using q1
    simp only [go_sem, g1]
    (refine ⟨S, by (repeat (first | exact Sub.refl _ | refine Sub.setF ?_ (by first | assumption | simp only [*]) | refine Sub.setV ?_ (by first | assumption | simp only [*]))), ?_⟩); simp [confE, q1]
  have g1 : (c.win == 0) = false := by simpa using q1
  by_cases q2 : 4611686018427387904 < c.win
  · simp only [go_sem, g1, q2]
    (refine ⟨S, by (repeat (first | exact Sub.refl _ | refine Sub.setF ?_ (by first | assumption | simp only [*]) | refine Sub.setV ?_ (by first | assumption | simp only [*]))), ?_⟩); simp [confE, q2]
  simp only [go_sem, g1, q2]
  refine h12.useA ?_
  by_cases q3 : c.late ≤ 4611686018427387904 ∧ 1 ≤ c.room ∧ c.room ≤ 1024
  rotate_left
  · rw [decide_eq_false q3]
    simp only [go_sem]
    (refine ⟨S, by (repeat (first | exact Sub.refl _ | refine Sub.setF ?_ (by first | assumption | simp only [*]) | refine Sub.setV ?_ (by first | assumption | simp only [*]))), ?_⟩); simp [confE, q3]
  rw [decide_eq_true q3]
  simp only [go_sem]
  refine h15.useA ?_
  simp only [go_sem]
  (refine ⟨S, by (repeat (first | exact Sub.refl _ | refine Sub.setF ?_ (by first | assumption | simp only [*]) | refine Sub.setV ?_ (by first | assumption | simp only [*]))), ?_⟩); unfold confE; rw [if_neg (by simp only [not_or, Classical.not_not]; exact ⟨q1, q2, q3⟩)]; simp
theorem ref16_New (c : ConfE) (hn : c.sd.length < 1048576) (hw : c.w < 1048576) (hw0 : 0 ≤ c.w) : Pure Tryz.prog 10 [c.av] c.new.av := fun S => by
  have h15 := ref15_New c.k c.w.toNat c.sd (by omega) hn
  rw [Int.toNat_of_nonneg hw0] at h15
  refine callR_of Tryz.func10 rfl rfl (xc_ok (bitB 7) _ _ _ ?_)
  simp only [go_sem]
  refine alloc_intro fun c1 h1 => ?_
  simp only [go_sem]
  refine alloc_intro fun c2 h2 => ?_
  simp only [fresh_set] at h2
  simp only [go_sem, h2]
  refine AWP.draw2 (bitB 7) mixed (by kernel_rfl) (fun j => (newV c.k c.w c.sd).av) ?_
  simp only [go_sem, h2]
  have y1 : S (.r c1) = none := h1
  have y2 : S (.r c2) = none := h2.2
  refine ⟨h15.draw, S, ?_, ?_⟩
  · repeat' first | exact Sub.refl _ | refine Sub.set ?_ (by assumption) _
  · simp [ConfE.new, newE]
theorem ecm_New (c : ConfE) (hn : c.sd.length < 1048576) : Pure Tryz.prog 7 [c.av] (.tuple [if confE c = 0 then c.new.av else zeroE.av, i64 (confE c)]) := fun S => by
  have hB := buf_New c.late c.room
  have hG := grid_New c.k c.w c.sd hn
  refine callR_of Tryz.func7 rfl rfl (xc_ok (bitB 549822922879) _ _ _ ?_)
  simp only [go_sem]
  refine alloc_intro fun c1 h1 => ?_
  simp only [go_sem]
  refine alloc_intro fun c2 h2 => ?_
  simp only [fresh_set] at h2
  simp only [go_sem, h2]
  refine hB.useA ?_
  have y1 : S (.r c1) = none := h1
  have y2 : S (.r c2) = none := h2.2
  by_cases q0 : 4611686018427387904 < c.late ∨ c.room < 1 ∨ 1024 < c.room
  · rw [if_pos q0]
    have g0 : ((9 : Int) != 0) = true := by decide
    simp only [go_sem, h2]
    refine alloc_intro fun c4 h4 => ?_
    simp only [fresh_set] at h4
    have y4 : S (.r c4) = none := h4.2.2
    simp only [go_sem, h2, h4, g0]
    refine ⟨S, ?_, ?_⟩
    · repeat' first | exact Sub.refl _ | refine Sub.set ?_ (by assumption) _
    · have hc : confE c = 9 := by unfold confE; rw [if_pos (by omega)]
      rw [hc]; simp [zeroE, zeroB, zeroG, zeroH]
  rw [if_neg q0]
  simp only [go_sem, h2]
  refine alloc_intro fun c4 h4 => ?_
  simp only [fresh_set] at h4
  have y4 : S (.r c4) = none := h4.2.2
  simp only [go_sem, h2, h4, bne_self_eq_false]
  by_cases q1 : c.win < 1
  · simp only [go_sem, h2, h4, q1]
    refine ⟨S, ?_, ?_⟩
    · repeat' first | exact Sub.refl _ | refine Sub.set ?_ (by assumption) _
    · have hc : confE c = 9 := by unfold confE; rw [if_pos (by omega)]
      rw [hc]; simp [zeroE, zeroB, zeroG, zeroH]
  by_cases q2 : 4611686018427387904 < c.win
  · simp only [go_sem, h2, h4, q1, q2]
    refine ⟨S, ?_, ?_⟩
    · repeat' first | exact Sub.refl _ | refine Sub.set ?_ (by assumption) _
    · have hc : confE c = 9 := by unfold confE; rw [if_pos (by omega)]
      rw [hc]; simp [zeroE, zeroB, zeroG, zeroH]
  simp only [go_sem, h2, h4, q1, q2]
  refine hG.useA ?_
  have hc : confE c = confV c.k c.w c.sd := by unfold confE; rw [if_neg (by omega)]
  rw [hc]
  by_cases q3 : confV c.k c.w c.sd = 0
  · rw [if_pos q3, if_pos q3, q3]
    simp only [go_sem, h2, h4]
    refine alloc_intro fun c6 h6 => ?_
    simp only [fresh_set] at h6
    have y6 : S (.r c6) = none := h6.2.2.2
    simp only [go_sem, h2, h4, h6, bne_self_eq_false]
    refine ⟨S, ?_, ?_⟩
    · repeat' first | exact Sub.refl _ | refine Sub.set ?_ (by assumption) _
    · simp [ConfE.new, newE]
  · rw [if_neg q3, if_neg q3]
    have g3 : (confV c.k c.w c.sd != 0) = true := by simpa using q3
    simp only [go_sem, h2, h4]
    refine alloc_intro fun c6 h6 => ?_
    simp only [fresh_set] at h6
    have y6 : S (.r c6) = none := h6.2.2.2
    simp only [go_sem, h2, h4, h6, g3]
    refine ⟨S, ?_, ?_⟩
    · repeat' first | exact Sub.refl _ | refine Sub.set ?_ (by assumption) _
    · simp [zeroE, zeroB, zeroG, zeroH]
end Go.Sk
end

-- W12b
section
namespace Go.Sk
open Go Go.Proofs

structure Buf.Sz (b : Buf) : Prop where
  r : 0 ≤ b.room
  m : b.mark < 18446744073709551616
  n : b.evs.length < 1073741824
set_option maxHeartbeats 1000000 in
set_option maxRecDepth 4000 in
theorem buf_settle (b : Buf) (hb : b.Sz) : Pure Tryz.prog 86 [b.av] (.tuple [(settleB b).1.av, .p (evsP (settleB b).2)]) := fun S => by
  obtain ⟨late, rm, mark, front, evs⟩ := b
  have hn := hb.n
  have hr := hb.r
  have hm := hb.m
  dsimp only at hn hr hm
  clear hb
  obtain ⟨room, rfl⟩ : ∃ room : Nat, rm = room := ⟨rm.toNat, by omega⟩
  refine callR_of Tryz.func86 rfl rfl (xc_ok (bitB 4294968383) _ _ _ ?_)
  simp only [go_sem]
  refine alloc_intro fun c1 h1 => ?_
  simp only [go_sem]
  refine alloc_intro fun c2 h2 => ?_
  simp only [fresh_set] at h2
  have y1 : S (.r c1) = none := h1
  have y2 : S (.r c2) = none := h2.2
  obtain ⟨f0, hf0⟩ : ∃ f0, max front (mark - late) = f0 := ⟨_, rfl⟩
  have hres : settleB ⟨late, room, mark, front, evs⟩ = (⟨late, room, mark, (settleN room evs f0).1, evs.drop (settleN room evs f0).2⟩, evs.take (settleN room evs f0).2) := by
    unfold settleB; dsimp only; rw [hf0, Int.toNat_natCast]
  rw [hres]
  by_cases cm : late < mark
  have e1 : sub64 mark late = mark - late := sub64_le hm (by omega)
  simp only [go_sem, cm, h2, e1]
  refine (latest_two front (mark - late)).useA ?_
  rw [hf0]
  simp only [go_sem, h2]
  refine (below ⟨late, room, mark, f0, evs⟩ f0 (by dsimp only; omega)).useA ?_
  simp only [go_sem, h2]
  rotate_left
  have e0 : f0 = front := by omega
  simp only [go_sem, cm, h2]
  refine (below ⟨late, room, mark, front, evs⟩ front (by dsimp only; omega)).useA ?_
  rw [← e0]
  simp only [go_sem, h2]
  all_goals
    refine AWP.roam (ι := Nat) (fun f => settleN room evs f = settleN room evs f0)
      (fun f => ⟨Env.get [(1, .sp c1 0), (2, .sp c2 0), (4, i64 (belowN f evs))], (S.set (.r c1) (.cells [u64 late, i64 room, u64 mark, u64 f, .p (.sl (evs.map Event.pv))])).set (.r c2) (.cells [u64 0, i64 0, u64 0, u64 0, .nils]), 57, []⟩) (fun f => evs.length - belowN f evs) f0 rfl ?_ ?_
    · refine le_of (by simp only [go_sem] <;> simp) ?_ rfl rfl (by simp)
      ((try dsimp only); (repeat refine sub_set ?_ ?_) <;> first | ((repeat (first | exact Sub.refl _ | refine Sub.setF ?_ (by first | assumption | simp only [*]) | refine Sub.setV ?_ (by first | assumption | simp only [*]))); done) | (simp only [go_sem, h2]; done) | (simp only [go_sem, h2]; rfl) | rfl)
      done
    intro f hf ih
    have hle := belowN_le f evs
    refine AWPH.step (xc_ok (bitB 4294968383) _ _ _ ?_)
    have hsub : wi ((evs.length : Int) - (belowN f evs : Int)) = ((evs.length - belowN f evs : Nat) : Int) := by rw [wi_id (by omega) (by omega)]; omega
    by_cases c : room < evs.length - belowN f evs
    · have hlt : belowN f evs < evs.length := by omega
      have hmore := belowN_more f evs hlt
      have hgo := settleN_go c
      simp only [go_sem, h2, hsub, c, hlt, ltN' hlt, getD_map' _ _ _ _ hlt, List.length_map]
      refine (below ⟨late, room, mark, (evs[belowN f evs]).t, evs⟩ (evs[belowN f evs]).t (by dsimp only; omega)).useA ?_
      simp only [go_sem, h2]
      refine (ih (evs[belowN f evs]).t (by rw [← hgo]; exact hf) (by omega)).back ?_ (by simp) ?_
      · ((try dsimp only); (repeat refine sub_set ?_ ?_) <;> first | ((repeat (first | exact Sub.refl _ | refine Sub.setF ?_ (by first | assumption | simp only [*]) | refine Sub.setV ?_ (by first | assumption | simp only [*]))); done) | (simp only [go_sem, h2]; done) | (simp only [go_sem, h2]; rfl) | rfl)
      · simp only [go_sem] <;> simp
    · have hen := settleN_end c
      rw [hen] at hf
      rw [← hf]
      have e5 : List.take (belowN f evs - 0) (List.map Event.pv evs) = List.map Event.pv (evs.take (belowN f evs)) := by rw [Nat.sub_zero, List.map_take]
      have e6 : List.take (evs.length - belowN f evs) (List.drop (belowN f evs) (List.map Event.pv evs)) = List.map Event.pv (evs.drop (belowN f evs)) := by
        rw [← List.map_drop]; exact List.take_of_length_le (by simp)
      simp only [go_sem, h2, hsub, c, List.length_map, e5, e6]
      refine ⟨evn_len, hle, evn_len, hle, ?_⟩
      refine AWP.draw2 (bitB 4294968383) mixed (by kernel_rfl) (fun j => .p (evsP (evs.take (belowN f evs)))) ?_
      simp only [go_sem, h2, evsP]
      refine ⟨(clone_ev (evs.take (belowN f evs)) (by rw [List.length_take]; omega)).draw, S, ?_, ?_⟩
      · exact Sub.set (Sub.set (Sub.set (Sub.set (Sub.refl _) y1 _) y2 _) y1 _) y2 _
      · simp
end Go.Sk
end

-- W12c
section
namespace Go.Sk
open Go Go.Proofs

def zE : List AV := [u64 0, u64 0, u64 0]
theorem grow_ev (n : Nat) (h0 : 0 < n) (hn : n < 1073741824) (S : Store) : CallR Tryz.prog 93 [.nils, i64 n] S
    (fun r S' => ∃ b c, Fresh S b ∧ n ≤ c ∧ r = .ms b 3 0 0 c ∧ S' = S.set (.r b) (.cells (zcs zE c))) := by
  refine callR_of Tryz.func93 rfl rfl (xc_ok (bitB 65619) _ _ _ ?_)
  have q0 : decide ((n : Int) < 0) = false := by simp
  have q1 : wi ((n : Int) - wi ((0 : Int) - 0)) = n := by rw [wi_id (x := (0 : Int) - 0) (by decide) (by decide), wi_id (by omega) (by omega)]; omega
  have q2 : decide (0 < n) = true := by simpa using h0
  have q3 : ((n : Int)).toNat = n := Int.toNat_natCast n
  simp only [go_sem, q0, q1, q2, q3]
  refine ⟨h0, by omega, by rw [show (2 : Int) ^ 62 = 4611686018427387904 by decide]; omega, zero_intro fun b c hb hc => ?_⟩
  simp only [go_sem]
  refine ⟨by omega, _, Sub.refl _, Or.inl ⟨b, c, hb, hc, ?_, rfl⟩⟩
  simp

theorem flat_scalar (els : List (List PV)) : (flatA els).all scalar = true := by
  rw [List.all_eq_true]
  intro x hx
  unfold flatA at hx
  obtain ⟨el, _, h⟩ := List.mem_flatMap.1 hx
  obtain ⟨y, _, rfl⟩ := List.mem_map.1 h
  rfl
def lstE (l : List Event) : List PV := [.sl (l.map Event.pv)]
theorem splice_pre (cs : List AV) (m : Nat) (l : List AV) (h : m + l.length ≤ cs.length) : (splice cs m l).length = cs.length ∧ (splice cs m l).take (m + l.length) = cs.take m ++ l := by
  unfold splice
  refine ⟨by simp; omega, ?_⟩
  rw [List.take_append_of_le_length (by simp; omega), List.take_of_length_le (by simp; omega)]
def sumL (ls : List (List Event)) : Nat := (ls.map List.length).sum
theorem sumL_take (ls : List (List Event)) (i : Nat) (h : i < ls.length) : sumL (ls.take (i + 1)) = sumL (ls.take i) + (ls[i]).length := by
  unfold sumL; rw [List.take_succ_eq_append_getElem h, List.map_append, List.sum_append]; simp only [List.map_cons, List.map_nil, List.sum_cons, List.sum_nil, Nat.add_zero]
theorem sumL_le (ls : List (List Event)) (i : Nat) : sumL (ls.take i) ≤ sumL ls := by
  have : sumL (ls.take i ++ ls.drop i) = sumL (ls.take i) + sumL (ls.drop i) := by unfold sumL; rw [List.map_append, List.sum_append]
  rw [List.take_append_drop] at this
  omega
theorem flat_take (ls : List (List Event)) (i : Nat) (h : i < ls.length) : (ls.take (i + 1)).flatten = (ls.take i).flatten ++ ls[i] := by
  rw [List.take_succ_eq_append_getElem h, List.flatten_append]; simp
theorem flat_len3 (l : List Event) : (flatA (l.map Event.pv)).length = l.length * 3 := by rw [flatA_length (sz := 3) evn_len]; simp
theorem sumL_flat (ls : List (List Event)) : ls.flatten.length = sumL ls := by unfold sumL; rw [List.length_flatten]

set_option maxHeartbeats 1000000 in
set_option maxRecDepth 4000 in
theorem concat_ev (ls : List (List Event)) (h0 : 0 < sumL ls) (hn : sumL ls < 1073741824) (hl : ls.length < 1073741824) : Pure Tryz.prog 53 [.p (.sl (ls.map lstE))] (.p (.sl (ls.flatten.map Event.pv))) := fun S => by
  refine CallR.frz (R := fun r S' => ∃ b c cs, Fresh S b ∧ sumL ls ≤ c ∧ r = .ms b 3 0 (sumL ls) c ∧ S' = S.set (.r b) (.cells cs) ∧ cs.length = c * 3 ∧ cs.take (sumL ls * 3) = flatA (ls.flatten.map Event.pv)) ?_ ?_
  rotate_left
  · rintro r S' ⟨b, c, cs, hb, hc, rfl, rfl, hcl, hct⟩
    refine ⟨.p (.sl (ls.flatten.map Event.pv)), S, Frz.freeze (b := b) (m := sumL ls * 3) (Store.set_same _ _ _) (by omega) (fun k y hk => ?_) (Or.inl (Or.inl (Or.inr (Or.inr ⟨3, 0, sumL ls, c, ls.flatten.map Event.pv, rfl, ?_⟩)))), rfl, rfl⟩
    · have hne : k ≠ .r b := by rintro rfl; rw [hb] at hk; cases hk
      exact ⟨hne, Or.inl (by rw [Store.set_other _ _ hne]; exact hk)⟩
    · exact ⟨by omega, rfl, by rw [List.length_map, sumL_flat], evn_len, by rw [List.drop_zero]; exact hct⟩
  refine callR_of Tryz.func53 rfl rfl (xc_ok (bitB 504373101) _ _ _ ?_)
  simp only [go_sem]
  refine AWP.iter (fun i => ⟨Env.get [(0, .p (.sl (ls.map lstE))), (3, i64 (sumL (ls.take i))), (9, .p (.sl (ls.map lstE))), (10, i64 ls.length), (11, i64 i)], S, 36, []⟩) ls.length ?_ ?_ ?_
  · exact le_of (by simp only [go_sem, List.length_map, List.take_zero] <;> simp [sumL]) (Sub.refl _) rfl rfl (by simp)
  · intro i hi ih
    have h1 := sumL_take ls i hi
    have h2 := sumL_le ls (i + 1)
    have q1 : wi ((sumL (ls.take i) : Int) + ((ls[i]).length : Int)) = ((sumL (ls.take (i + 1)) : Nat) : Int) := by rw [wi_id (by omega) (by omega)]; omega
    have q2 : decide (((sumL (ls.take (i + 1)) : Nat) : Int) < 0) = false := by simp
    refine AWPH.step (xc_ok (bitB 504373101) _ _ _ ?_)
    simp only [go_sem, hi, ltN' hi, getD_map' _ _ _ _ hi, lstE, List.length_map, q1, q2]
    refine ih.back (Sub.refl _) (by simp) ?_
    simp only [go_sem, lstE, List.length_map, wi_succ (show i < 4611686018427387904 by omega), q1]
  · refine AWPH.step (xc_ok (bitB 504373101) _ _ _ ?_)
    simp only [go_sem, List.take_length, List.length_map]
    refine (grow_ev (sumL ls) h0 hn S).useB ?_
    rintro _ _ ⟨b, c, hb, hc, rfl, rfl⟩
    simp only [go_sem, List.length_map]
    refine AWP.roam (ι := Nat × List AV) (fun x => x.1 ≤ ls.length ∧ x.2.length = c * 3 ∧ x.2.take (sumL (ls.take x.1) * 3) = flatA ((ls.take x.1).flatten.map Event.pv))
      (fun x => ⟨Env.get [(6, .ms b 3 0 (sumL (ls.take x.1)) c), (25, .p (.sl (ls.map lstE))), (26, i64 ls.length), (27, i64 x.1)], S.set (.r b) (.cells x.2), 36, []⟩) (fun x => ls.length - x.1) (0, zcs zE c) ⟨Nat.zero_le _, by rw [zcs_length]; rfl, by simp [sumL, flatA]⟩ ?_ ?_
    · exact le_of (by simp only [go_sem, List.length_map, List.take_zero] <;> simp [sumL]) (Sub.refl _) rfl rfl (by simp)
    · rintro ⟨i, cs⟩ ⟨hi, hcl, hct⟩ ih
      dsimp only at hi hcl hct ⊢
      refine AWPH.step (xc_ok (bitB 504373101) _ _ _ ?_)
      by_cases ci : i < ls.length
      · have h1 := sumL_take ls i ci
        have h2 := sumL_le ls (i + 1)
        have hfl := flat_len3 ls[i]
        have hsp := splice_pre cs (0 + sumL (ls.take i) * 3) (flatA ((ls[i]).map Event.pv)) (by omega)
        simp only [go_sem, ci, ltN' ci, getD_map' _ _ _ _ ci, lstE, List.length_map]
        refine ⟨evn_len, by omega, flat_scalar _, more_in (by omega) (by omega) ?_⟩
        simp only [go_sem, lstE]
        refine (ih (i + 1, splice cs (0 + sumL (ls.take i) * 3) (flatA ((ls[i]).map Event.pv))) ⟨ci, by dsimp only; rw [hsp.1]; exact hcl, ?_⟩ (by dsimp only; omega)).back ?_ (by simp) ?_
        · dsimp only
          rw [h1, flat_take ls i ci, List.map_append, Nat.add_mul]
          have h5 := hsp.2
          rw [hfl, Nat.zero_add, hct] at h5
          rw [Nat.zero_add, h5]; simp [flatA]
        · ((try dsimp only); (repeat refine sub_set ?_ ?_) <;> first | ((repeat (first | exact Sub.refl _ | refine Sub.setF ?_ (by first | assumption | simp only [*]) | refine Sub.setV ?_ (by first | assumption | simp only [*]))); done) | (simp only [go_sem]; done) | (simp only [go_sem]; rfl) | rfl)
          done
        · simp only [go_sem, lstE, wi_succ (show i < 4611686018427387904 by omega), h1]
          done
      · obtain rfl : i = ls.length := by omega
        rw [List.take_length] at hct
        simp only [go_sem, ci, List.length_map, List.take_length]
        exact ⟨_, Sub.refl _, Or.inl ⟨b, c, cs, hb, hc, by simp, rfl, hcl, hct⟩⟩
end Go.Sk
end

-- W12d
section
namespace Go.Sk
open Go Go.Proofs

theorem insL (l : List Event) (e : Event) : [l.take (belowN e.t l), [e], l.drop (belowN e.t l)].flatten = insE l e := by
  unfold insE; simp
theorem insL_sum (l : List Event) (e : Event) : sumL [l.take (belowN e.t l), [e], l.drop (belowN e.t l)] = l.length + 1 := by
  have := belowN_le e.t l
  simp [sumL]; omega
set_option maxHeartbeats 1000000 in
set_option maxRecDepth 4000 in
theorem buf_Push (b : Buf) (hb : b.Sz) (hn : b.evs.length < 1048576) (e : Event) : Pure Tryz.prog 51 [b.av, e.av] (.tuple [(pushB b e).1.1.av, .p (evsP (pushB b e).1.2), i64 (pushB b e).2]) := fun S => by
  have hm := hb.m
  have hr := hb.r
  refine callR_of Tryz.func51 rfl rfl (xc_ok (bitB 1083391) _ _ _ ?_)
  simp only [go_sem]
  refine alloc_intro fun c2 h2 => ?_
  simp only [go_sem]
  refine alloc_intro fun c3 h3 => ?_
  simp only [fresh_set] at h3
  simp only [go_sem, h3]
  refine alloc_intro fun c4 h4 => ?_
  simp only [fresh_set] at h4
  have y2 : S (.r c2) = none := h2
  have y3 : S (.r c3) = none := h3.2
  have y4 : S (.r c4) = none := h4.2.2
  by_cases c1 : e.w = 0
  · have q1 : (e.w == 0) = true := by simpa using c1
    simp only [go_sem, q1, h3, h4]
    (refine ⟨S, by (repeat (first | exact Sub.refl _ | refine Sub.setF ?_ (by first | assumption | simp only [*]) | refine Sub.setV ?_ (by first | assumption | simp only [*]))), ?_⟩); simp [pushB, c1, zeroB, evsP]
  have q1 : (e.w == 0) = false := by simpa using c1
  by_cases c2' : 9223372036854775807 < e.t
  · simp only [go_sem, q1, c2', h3, h4]
    (refine ⟨S, by (repeat (first | exact Sub.refl _ | refine Sub.setF ?_ (by first | assumption | simp only [*]) | refine Sub.setV ?_ (by first | assumption | simp only [*]))), ?_⟩); simp [pushB, c1, c2', zeroB, evsP]
  by_cases c3' : e.t < b.front
  · simp only [go_sem, q1, c2', c3', h3, h4]
    (refine ⟨S, by (repeat (first | exact Sub.refl _ | refine Sub.setF ?_ (by first | assumption | simp only [*]) | refine Sub.setV ?_ (by first | assumption | simp only [*]))), ?_⟩); simp [pushB, c1, c2', c3', zeroB, evsP]
  have hres : pushB b e = (settleB ⟨b.late, b.room, max b.mark e.t, b.front, insE b.evs e⟩, 0) := by unfold pushB; rw [if_neg c1, if_neg c2', if_neg c3']
  rw [hres]
  have hst := buf_settle ⟨b.late, b.room, max b.mark e.t, b.front, insE b.evs e⟩ ⟨hr, by dsimp only; omega, by
    dsimp only
    have := insL_sum b.evs e
    rw [← sumL_flat, insL] at this; omega⟩
  generalize settleB ⟨b.late, b.room, max b.mark e.t, b.front, insE b.evs e⟩ = R at *
  simp only [go_sem, q1, c2', c3', h3, h4]
  refine (below b e.t (by omega)).useA ?_
  have hle := belowN_le e.t b.evs
  simp only [go_sem, h3, h4]
  refine (latest_two b.mark e.t).useA ?_
  simp only [go_sem, h3, h4]
  have e5 : List.take (belowN e.t b.evs - 0) (List.map Event.pv b.evs) = List.map Event.pv (b.evs.take (belowN e.t b.evs)) := by rw [Nat.sub_zero, List.map_take]
  have e6 : List.take (b.evs.length - belowN e.t b.evs) (List.drop (belowN e.t b.evs) (List.map Event.pv b.evs)) = List.map Event.pv (b.evs.drop (belowN e.t b.evs)) := by
    rw [← List.map_drop]; exact List.take_of_length_le (by simp)
  have hcon := concat_ev [b.evs.take (belowN e.t b.evs), [e], b.evs.drop (belowN e.t b.evs)] (by rw [insL_sum]; omega) (by rw [insL_sum]; omega) (by simp)
  rw [insL] at hcon
  refine AWP.draw2 (bitB 1083391) mixed (by kernel_rfl) (fun j => .p (evsP (insE b.evs e))) ?_
  simp only [go_sem, h3, h4, e5, e6, List.length_map, evsP]
  refine ⟨evn_len, hle, evn_len, hle, hcon.draw, ?_⟩
  refine hst.useA ?_
  simp only [go_sem, h3, h4]
  refine alloc_intro fun c8 h8 => ?_
  simp only [fresh_set] at h8
  simp only [go_sem, h3, h4, h8]
  have y8 : S (.r c8) = none := h8.2.2.2.2
  refine ⟨S, ?_, ?_⟩
  · repeat' first
      | exact Sub.refl _
      | refine Sub.set ?_ (by assumption) _
  · simp [evsP]
set_option maxHeartbeats 1000000 in
set_option maxRecDepth 4000 in
theorem buf_Move (b : Buf) (hb : b.Sz) (t : Nat) : Pure Tryz.prog 49 [b.av, u64 t] (.tuple [(moveB b t).1.1.av, .p (evsP (moveB b t).1.2), i64 (moveB b t).2]) := fun S => by
  have hm := hb.m
  have hr := hb.r
  have hn := hb.n
  refine callR_of Tryz.func49 rfl rfl (xc_ok (bitB 1527) _ _ _ ?_)
  simp only [go_sem]
  refine alloc_intro fun c2 h2 => ?_
  simp only [go_sem]
  refine alloc_intro fun c4 h4 => ?_
  simp only [fresh_set] at h4
  have y2 : S (.r c2) = none := h2
  have y4 : S (.r c4) = none := h4.2
  by_cases c1 : 9223372036854775807 < t
  · simp only [go_sem, c1, h4]
    (refine ⟨S, by (repeat (first | exact Sub.refl _ | refine Sub.setF ?_ (by first | assumption | simp only [*]) | refine Sub.setV ?_ (by first | assumption | simp only [*]))), ?_⟩); simp [moveB, c1, zeroB, evsP]
  have hres : moveB b t = (settleB ⟨b.late, b.room, max b.mark t, b.front, b.evs⟩, 0) := by unfold moveB; rw [if_neg c1]
  rw [hres]
  have hst := buf_settle ⟨b.late, b.room, max b.mark t, b.front, b.evs⟩ ⟨hr, by dsimp only; omega, hn⟩
  generalize settleB ⟨b.late, b.room, max b.mark t, b.front, b.evs⟩ = R at *
  simp only [go_sem, c1, h4]
  refine (latest_two b.mark t).useA ?_
  simp only [go_sem, h4]
  refine (clone_ev b.evs (by omega)).useA ?_
  simp only [go_sem, h4]
  refine hst.useA ?_
  simp only [go_sem, h4]
  refine alloc_intro fun c7 h7 => ?_
  simp only [fresh_set] at h7
  simp only [go_sem, h4, h7]
  have y7 : S (.r c7) = none := h7.2.2.2
  refine ⟨S, ?_, ?_⟩
  · repeat' first
      | exact Sub.refl _
      | refine Sub.set ?_ (by assumption) _
  · simp [evsP]
end Go.Sk
end

-- W16e
section
namespace Go.Sk
open Go Go.Proofs

theorem Ecm.Good.bsz {s : Ecm} (hg : s.Good) : s.b.Sz ∧ s.b.evs.length < 1048576 := by
  have hT := hg.top
  have h1 := hT.r1
  have h2 := hT.mkk
  have hl := hg.evLen
  dsimp only at h1 h2
  exact ⟨⟨by omega, by omega, by omega⟩, by omega⟩
set_option maxHeartbeats 1000000 in
set_option maxRecDepth 8000 in
theorem ecm_Move (s : Ecm) (hg : s.Good) (t : Nat) : Pure Tryz.prog 20 [s.av, u64 t] (.tuple [(moveE s t).1.av, i64 (moveE s t).2]) := fun S => by
  obtain ⟨hz, hn⟩ := hg.bsz
  refine callR_of Tryz.func20 rfl rfl (xc_ok (bitB 262647) _ _ _ ?_)
  simp only [go_sem]
  refine alloc_intro fun c2 h2 => ?_
  simp only [go_sem]
  refine alloc_intro fun c4 h4 => ?_
  simp only [fresh_set] at h4
  simp only [go_sem, h4]
  refine (buf_Move s.b hz t).useA ?_
  have hpre := move_passOk hg t
  have hres : moveE s t = if (moveB s.b t).2 = 0 then (passE s (moveB s.b t).1.1 (moveB s.b t).1.2, 0) else (zeroE, (moveB s.b t).2) := rfl
  rw [hres]
  generalize moveB s.b t = R at *
  obtain ⟨⟨b', out⟩, bad⟩ := R
  dsimp only at hpre ⊢
  simp only [go_sem, h4]
  refine alloc_intro fun c6 h6 => ?_
  simp only [fresh_set] at h6
  have y2 : S (.r c2) = none := h2
  have y4 : S (.r c4) = none := h4.2
  have y6 : S (.r c6) = none := h6.2.2
  by_cases h0 : bad = 0
  rotate_left
  · have h0b : (bad != 0) = true := by simpa using h0
    simp only [go_sem, h4, h6, h0b]
    refine ⟨S, ?_, ?_⟩
    · repeat' first | exact Sub.refl _ | refine Sub.set ?_ (by assumption) _
    · rw [if_neg h0]; simp [zeroE, zeroB, zeroG, zeroH]
  have h0b : (bad != 0) = false := by simpa using h0
  simp only [go_sem, h4, h6, h0b]
  refine (ecm_pass s b' out (hpre h0)).useA ?_
  simp only [go_sem, h4, h6]
  refine ⟨S, ?_, ?_⟩
  · repeat' first | exact Sub.refl _ | refine Sub.set ?_ (by assumption) _
  · rw [if_pos h0]; simp
set_option maxHeartbeats 1000000 in
set_option maxRecDepth 8000 in
theorem ecm_Add (s : Ecm) (hg : s.Good) (e : Event) (he : e.Ok) : Pure Tryz.prog 21 [s.av, e.av] (.tuple [(addE s e).1.av, i64 (addE s e).2]) := fun S => by
  obtain ⟨hz, hn⟩ := hg.bsz
  have hl := hg.evLen
  have hK := hash_Key e.k
  have hres : addE s e = if e.k < 2305843009213693951 then
      (if (pushB s.b e).2 = 0 then (if lightG s.past (s.b.evs ++ [e]) = true then (passE s (pushB s.b e).1.1 (pushB s.b e).1.2, 0) else (zeroE, 5)) else (zeroE, (pushB s.b e).2)) else (zeroE, 7) := rfl
  refine callR_of Tryz.func21 rfl rfl (xc_ok (bitB 138416639) _ _ _ ?_)
  simp only [go_sem]
  refine alloc_intro fun c2 h2 => ?_
  simp only [go_sem]
  refine alloc_intro fun c3 h3 => ?_
  simp only [fresh_set] at h3
  simp only [go_sem, h3]
  refine alloc_intro fun c4 h4 => ?_
  simp only [fresh_set] at h4
  simp only [go_sem, h3, h4]
  refine hK.useA ?_
  have y2 : S (.r c2) = none := h2
  have y3 : S (.r c3) = none := h3.2
  have y4 : S (.r c4) = none := h4.2.2
  by_cases hk : e.k < 2305843009213693951
  rotate_left
  · simp only [go_sem, h3, h4, hk]
    refine ⟨S, ?_, ?_⟩
    · repeat' first | exact Sub.refl _ | refine Sub.set ?_ (by assumption) _
    · rw [hres, if_neg hk]; simp [zeroE, zeroB, zeroG, zeroH]
  simp only [go_sem, h3, h4, hk]
  refine (buf_Push s.b hz hn e).useA ?_
  have hpre := add_passOk hg e he hk
  rw [hres, if_pos hk]
  generalize pushB s.b e = R at *
  obtain ⟨⟨b', out⟩, bad⟩ := R
  dsimp only at hpre ⊢
  simp only [go_sem, h3, h4]
  refine alloc_intro fun c6 h6 => ?_
  simp only [fresh_set] at h6
  have y6 : S (.r c6) = none := h6.2.2.2
  by_cases h0 : bad = 0
  rotate_left
  · have h0b : (bad != 0) = true := by simpa using h0
    simp only [go_sem, h3, h4, h6, h0b]
    refine ⟨S, ?_, ?_⟩
    · repeat' first | exact Sub.refl _ | refine Sub.set ?_ (by assumption) _
    · rw [if_neg h0]; simp [zeroE, zeroB, zeroG, zeroH]
  have h0b : (bad != 0) = false := by simpa using h0
  simp only [go_sem, h3, h4, h6, h0b]
  have hcon := concat_ev [s.b.evs, [e]] (by simp [sumL]) (by simp [sumL]; omega) (by simp)
  have hfl : [s.b.evs, [e]].flatten = s.b.evs ++ [e] := by simp
  rw [hfl] at hcon
  have hfit := ecm_fits (s.b.evs ++ [e]) s.past hg.pg (fun x hx => by
    rcases List.mem_append.1 hx with hx | hx
    · exact hg.evOk x hx
    · simp only [List.mem_singleton] at hx; subst hx; exact he) (by simp; omega)
  refine AWP.draw2 (bitB 138416639) mixed (by kernel_rfl) (fun j => if j = 6 then .p (evsP (s.b.evs ++ [e])) else bl (lightG s.past (s.b.evs ++ [e]))) ?_
  simp only [go_sem, h3, h4, h6]
  refine ⟨hcon.draw, hfit.draw, ?_⟩
  cases hh : lightG s.past (s.b.evs ++ [e])
  · simp only [go_sem, h3, h4, h6]
    refine ⟨S, ?_, ?_⟩
    · repeat' first | exact Sub.refl _ | refine Sub.set ?_ (by assumption) _
    · rw [if_pos h0]; simp [zeroE, zeroB, zeroG, zeroH]
  · simp only [go_sem, h3, h4, h6]
    refine (ecm_pass s b' out (hpre h0 hh)).useA ?_
    simp only [go_sem, h3, h4, h6]
    refine ⟨S, ?_, ?_⟩
    · repeat' first | exact Sub.refl _ | refine Sub.set ?_ (by assumption) _
    · rw [if_pos h0]; simp
set_option maxHeartbeats 1000000 in
set_option maxRecDepth 8000 in
theorem ref16_Tame (c : ConfE) (hn : c.sd.length < 1099511627776) (hk : c.k < 9223372036854775808) (hw : c.w < 9223372036854775808) : Pure Tryz.prog 18 [c.av] (tameE' c).av := fun S => by
  have hT := ref15_Tame c.two hn hk hw
  have q1 : wi (max c.room 0 % 7) = max c.room 0 % 7 := wi_id (by omega) (by omega)
  have q2 : wi (1 + max c.room 0 % 7) = 1 + max c.room 0 % 7 := wi_id (by omega) (by omega)
  have q3 : m64 (1 + c.win % 1000) = 1 + c.win % 1000 := m64_id (by omega)
  have q0 : (if (0 : Int) > c.room then 0 else c.room).tmod 7 = max c.room 0 % 7 := by
    have : (if (0 : Int) > c.room then 0 else c.room) = max c.room 0 := by split <;> omega
    rw [this, Int.tmod_eq_emod_of_nonneg (by omega)]
  refine callR_of Tryz.func18 rfl rfl (xc_ok (bitB 15) _ _ _ ?_)
  simp only [go_sem]
  refine alloc_intro fun c1 h1 => ?_
  simp only [go_sem]
  refine alloc_intro fun c2 h2 => ?_
  simp only [fresh_set] at h2
  simp only [go_sem, h2]
  refine hT.useA ?_
  simp only [go_sem, h2]
  refine alloc_intro fun c3 h3 => ?_
  simp only [fresh_set] at h3
  have y1 : S (.r c1) = none := h1
  have y2 : S (.r c2) = none := h2.2
  have y3 : S (.r c3) = none := h3.2.2
  simp only [go_sem, h2, h3, q0, q1, q2, q3]
  refine ⟨by decide, ?_⟩
  refine ⟨S, ?_, ?_⟩
  · repeat' first | exact Sub.refl _ | refine Sub.set ?_ (by assumption) _
  · simp [tameE', tameV, newV, emptyH]
end Go.Sk
end

-- W13r
section
namespace Go.Sk
open Go Go.Proofs

/-- Within, and in the column. -/
noncomputable def inV (tick span : Nat) (s : Seed) (w c : Int) (e : Event) : Bool := withinV tick span e && decide (colV s e.k w = c)
noncomputable def colSumV (l : List Event) (tick span : Nat) (s : Seed) (w c : Int) : Nat := sumV (inV tick span s w c) Event.w 0 l

structure Row where (s : Seed) (w c : Int)
def Row.pv (r : Row) : List PV := [.int .u64 r.s.a, .int .u64 r.s.b, .int .i64 r.w, .int .i64 r.c]
def Row.av (r : Row) : AV := .agg (r.pv.map .p)
attribute [go_sem] Row.pv Row.av

theorem ref13_In (l : List Event) (tick span : Nat) (r : Row) (hl : l.length < 4611686018427387904) (he : ∀ e ∈ l, e.Ok) (hs : r.s.Ok) (hw : r.w < 9223372036854775808) :
    Pure Tryz.prog 41 [.p (evsP l), u64 tick, u64 span, r.av] (u64 (colSumV l tick span r.s r.w r.c)) := fun S => by
  refine callR_of Tryz.func41 rfl rfl (xc_ok (bitB 274877925263) _ _ _ ?_)
  simp only [go_sem, evsP]
  refine alloc_intro fun b hb => ?_
  simp only [go_sem]
  refine AWP.iter (fun i => ⟨Env.get [(0, .p (.sl (l.map Event.pv))), (1, u64 tick), (2, u64 span), (7, .sp b 0), (9, u64 (colSumV (l.take i) tick span r.s r.w r.c)), (10, i64 i)], S.set (.r b) (.cells [u64 r.s.a, u64 r.s.b, i64 r.w, i64 r.c]), 47, []⟩) l.length ?_ ?_ ?_
  · exact le_of (by simp only [go_sem]; simp [colSumV, sumV]) (Sub.refl _) rfl rfl (by simp)
  · intro i hi ih
    have hm := List.getElem_mem hi
    refine AWPH.step (xc_ok (bitB 274877925263) _ _ _ ?_)
    simp only [go_sem, hi, ltN' hi, getD_map' _ _ _ _ hi]
    refine AWP.draw2 (bitB 274877925263) mixed (by kernel_rfl) (fun j => if j = 6 then bl (withinV tick span l[i]) else i64 (colV r.s l[i].k r.w)) ?_
    simp only [go_sem, hi, ltN' hi, getD_map' _ _ _ _ hi]
    refine ⟨(ref13_Within tick span l[i]).draw, ?_⟩
    cases hp : withinV tick span l[i]
    · simp only [go_sem]
      refine ih.back (by (repeat (first | exact Sub.refl _ | refine Sub.setF ?_ (by first | assumption | simp only [*]) | refine Sub.setV ?_ (by first | assumption | simp only [*])))) (by simp) ?_
      simp only [go_sem, colSumV, sumV_snoc _ _ 0 l i hi, inV, hp, Bool.false_and, wi_succ (show i < 4611686018427387904 by omega)]
    · simp only [go_sem, hi, ltN' hi, getD_map' _ _ _ _ hi]
      refine ⟨(ref04_Column r.s l[i].k r.w hs (he _ hm).k hw).draw, ?_⟩
      cases hc : (colV r.s l[i].k r.w == r.c)
      · have hc' : ¬ colV r.s l[i].k r.w = r.c := by simpa using hc
        simp only [go_sem, hc]
        refine ih.back (by (repeat (first | exact Sub.refl _ | refine Sub.setF ?_ (by first | assumption | simp only [*]) | refine Sub.setV ?_ (by first | assumption | simp only [*])))) (by simp) ?_
        simp only [go_sem, colSumV, sumV_snoc _ _ 0 l i hi, inV, hp, hc', Bool.true_and, wi_succ (show i < 4611686018427387904 by omega)]
      · have hc' : colV r.s l[i].k r.w = r.c := by simpa using hc
        simp only [go_sem, hc, hi, ltN' hi, getD_map' _ _ _ _ hi]
        refine ih.back (by (repeat (first | exact Sub.refl _ | refine Sub.setF ?_ (by first | assumption | simp only [*]) | refine Sub.setV ?_ (by first | assumption | simp only [*])))) (by simp) ?_
        simp only [go_sem, colSumV, sumV_snoc _ _ 0 l i hi, inV, hp, hc', Bool.true_and, wi_succ (show i < 4611686018427387904 by omega)]
  · refine AWPH.step (xc_ok (bitB 274877925263) _ _ _ ?_)
    simp only [go_sem, List.take_length]
    (refine ⟨S, by (repeat (first | exact Sub.refl _ | refine Sub.setF ?_ (by first | assumption | simp only [*]) | refine Sub.setV ?_ (by first | assumption | simp only [*]))), ?_⟩); simp
end Go.Sk
end

-- W13a
section
namespace Go.Sk
open Go Go.Proofs

theorem scan_In1 {S : Store} {b1 b2 b3 b4 b5 b6 : Nat} (tick span : Nat) (s : Seed) (w c : Int) (e : Event) (hs : s.Ok) (hk : e.k < 18446744073709551616) (hw : w < 9223372036854775808)
    (h1 : S (.r b1) = some (.cells [u64 tick])) (h2 : S (.r b2) = some (.cells [u64 span])) (h3 : S (.r b3) = some (.cells [.fn (.func 106) [] [.sp b1 0, .sp b2 0]]))
    (h4 : S (.r b4) = some (.cells [u64 s.a, u64 s.b])) (h5 : S (.r b5) = some (.cells [i64 w])) (h6 : S (.r b6) = some (.cells [i64 c])) :
    CallR Tryz.prog 71 [e.av, .sp b3 0, .sp b4 0, .sp b5 0, .sp b6 0] S (fun r S' => r = bl (inV tick span s w c e) ∧ S' = S) := by
  refine callR_of Tryz.func71 rfl rfl (xc_ok (bitB 127) _ _ _ ?_)
  simp only [go_sem]
  refine alloc_intro fun b hb => ?_
  have n1 := hb.ne h1; have n2 := hb.ne h2; have n3 := hb.ne h3; have n4 := hb.ne h4; have n5 := hb.ne h5; have n6 := hb.ne h6
  simp only [go_sem, h1, h2, h3, h4, h5, h6, n1, n2, n3, n4, n5, n6]
  refine AWP.draw2 (bitB 127) mixed (by kernel_rfl) (fun i => if i = 2 then bl (withinV tick span e) else i64 (colV s e.k w)) ?_
  simp only [go_sem, h1, h2, h3, h4, h5, h6, n1, n2, n3, n4, n5, n6]
  refine ⟨fun S1 hS => ?_, ?_⟩
  · exact scan_within1 tick span e (hS _ _ (by simp [Store.set, n1, h1])) (hS _ _ (by simp [Store.set, n2, h2]))
  cases hv : withinV tick span e
  · simp only [go_sem]
    (refine ⟨S, by (repeat (first | exact Sub.refl _ | refine Sub.setF ?_ (by first | assumption | simp only [*]) | refine Sub.setV ?_ (by first | assumption | simp only [*]))), ?_⟩); simp [inV, hv]
  · simp only [go_sem, h1, h2, h3, h4, h5, h6, n1, n2, n3, n4, n5, n6]
    refine ⟨(hash_Column s e.k w hs hk hw).draw, ?_⟩
    (refine ⟨S, by (repeat (first | exact Sub.refl _ | refine Sub.setF ?_ (by first | assumption | simp only [*]) | refine Sub.setV ?_ (by first | assumption | simp only [*]))), ?_⟩); simp [inV, hv, Bool.beq_eq_decide_eq]

theorem scan_In (l : List Event) (tick span : Nat) (s : Seed) (w c : Int) (hl : l.length < 4611686018427387904) (he : ∀ e ∈ l, e.Ok) (hs : s.Ok) (hw : w < 9223372036854775808) :
    Pure Tryz.prog 33 [.p (evsP l), u64 tick, u64 span, s.av, i64 w, i64 c] (u64 (colSumV l tick span s w c)) := fun S => by
  refine callR_of Tryz.func33 rfl rfl (xc_ok (bitB 15935) _ _ _ ?_)
  simp only [go_sem]
  refine alloc_intro fun b4 f4 => ?_
  simp only [go_sem]
  refine alloc_intro fun b5 f5 => ?_
  simp only [fresh_set] at f5
  simp only [go_sem, f5]
  refine alloc_intro fun b6 f6 => ?_
  simp only [fresh_set] at f6
  simp only [go_sem, f5, f6]
  refine (scan_within tick span _).useA ?_
  rintro _ _ ⟨b1, b2, f1, f2, n12, rfl, rfl⟩
  simp only [fresh_set] at f1 f2
  simp only [go_sem, f5, f6, f1, f2, n12]
  refine alloc_intro fun b3 f3 => ?_
  simp only [fresh_set] at f3
  simp only [go_sem, f5, f6, f1, f2, n12, f3]
  refine (scan_sum l _ _ (inV tick span s w c) Event.w hl (fun e hm => ?_) (fun e _ => weight_pf _ e)).useA ?_
  · intro S' hS
    refine FunR.of_call (scan_In1 (b1 := b1) (b2 := b2) (b3 := b3) (b4 := b4) (b5 := b5) (b6 := b6) tick span s w c e hs (he e hm).k hw ?_ ?_ ?_ ?_ ?_ ?_) <;> refine hS.get ?_ <;> simp [Store.set, f5, f6, f1, f2, n12, f3]
  rintro _ _ ⟨rfl, rfl⟩
  simp only [go_sem]
  (refine ⟨S, by (repeat (first | exact Sub.refl _ | refine Sub.setF ?_ (by first | assumption | simp only [*]) | refine Sub.setV ?_ (by first | assumption | simp only [*]))), ?_⟩); simp [colSumV]

end Go.Sk
end

-- W16h
section
namespace Go.Sk
open Go Go.Proofs

def itemsR (l : List Int) : Nat → List AV := fun k => [i64 k, i64 (l.getD k 0)]
theorem ecm_rows (g : Grid) (x : Nat) (S : Store) : CallR Tryz.prog 32 [g.av, u64 x] S
    (fun r S' => ∃ b1 b2, Fresh S b1 ∧ Fresh S b2 ∧ (¬ b2 = b1 ∧ ¬ b1 = b2) ∧ r = .fn (.func 67) [] [.sp b1 0, .sp b2 0] ∧
      S' = (S.set (.r b1) (.cells (g.pv.map .p))).set (.r b2) (.cells [u64 x])) := by
  refine callR_of Tryz.func32 rfl rfl (xc_ok (bitB 31) _ _ _ ?_)
  simp only [go_sem]
  refine alloc_intro fun b1 h1 => ?_
  simp only [go_sem]
  refine alloc_intro fun b2 h2 => ?_
  simp only [fresh_set] at h2
  simp only [go_sem, h2]
  exact ⟨_, Sub.refl _, Or.inl ⟨b1, b2, h1, h2.2, h2.1, rfl, rfl⟩⟩
set_option maxRecDepth 4000 in
theorem ecm_rows1 (g : Grid) (hg : g.Good) (x : Nat) (hx : x < 18446744073709551616) {T0 : Store} {b1 b2 : Nat}
    (h1 : T0 (.r b1) = some (.cells (g.pv.map .p))) (h2 : T0 (.r b2) = some (.cells [u64 x])) :
    SeqR Tryz.prog 67 [] [.sp b1 0, .sp b2 0] T0 (colsL g.sd x g.w).length (itemsR (colsL g.sd x g.w)) := by
  have hC := hash_Columns g.sd x g.w (by have := hg.n; have := hg.sd; omega) hg.ok.so hx (by have := hg.w2; omega)
  have hll : (colsL g.sd x g.w).length < 1099511627776 := by have := hg.n; have := hg.sd; simp [colsL]; omega
  intro l J Jx hy E hd h0
  simp only [List.nil_append, List.singleton_append]
  generalize colsL g.sd x g.w = L at *
  refine callR_of Tryz.func67 rfl rfl (xc_ok (bitB 4225079) _ _ _ ?_)
  simp only [go_sem, h1, h2]
  refine hC.useA ?_
  simp only [go_sem, List.length_map]
  refine AWP.roam (ι := Nat × Store) (fun y => y.1 ≤ L.length ∧ Disj T0 y.2 ∧ J y.1 y.2)
    (fun y => ⟨Env.get [(0, .fn (.yield l) [] []), (1, .sp b1 0), (2, .sp b2 0), (11, .p (.sl (L.map colE))), (12, i64 L.length), (13, i64 y.1)], Store.join y.2 T0, 24, []⟩) (fun y => L.length - y.1) (0, E) ⟨by simp, hd, h0⟩ ?_ ?_
  · exact le_of (by simp only [go_sem] <;> rfl) (Sub.refl _) rfl rfl (by simp)
  · rintro ⟨i, E⟩ ⟨hi, hd, hJ⟩ ih
    dsimp only at hi hd hJ ⊢
    refine AWPH.step (xc_ok (bitB 4225079) _ _ _ ?_)
    by_cases c : i < L.length
    rotate_left
    · obtain rfl : i = L.length := by omega
      simp only [go_sem]
      exact ⟨_, Sub.refl _, Or.inl ⟨E, rfl, hd, Or.inl hJ⟩⟩
    have hq : wi ((i : Int) + 1) = ((i + 1 : Nat) : Int) := wi_succ (show i < 4611686018427387904 by omega)
    simp only [go_sem, c, ltN' c, getD_map' _ _ _ _ c, colE]
    have hyi := hy i c E T0 (Sub.refl T0) hd hJ
    have hgi : L.getD i 0 = L[i] := by simp [List.getD_eq_getElem?_getD, c]
    simp only [itemsR, hgi] at hyi
    refine hyi.useA rfl ?_
    rintro r S' ⟨E', rfl, hd2, ⟨rfl, hJ2⟩ | ⟨rfl, hJ2⟩⟩
    · simp only [go_sem]
      refine (ih (i + 1, E') ⟨c, hd2, hJ2⟩ (by dsimp only; omega)).back (Sub.refl _) (by simp) ?_
      simp only [go_sem, hq, colE, List.length_map]
    · simp only [go_sem]
      exact ⟨_, Sub.refl _, Or.inl ⟨E', rfl, hd2, Or.inr hJ2⟩⟩
def lowV (f : Nat → Nat) : Nat → Nat
  | 0 => 0
  | n + 1 => if n = 0 then f 0 else min (lowV f n) (f n)
theorem slices_Min (f : Nat → Nat) (n : Nat) (h0 : 0 < n) (hn : n < 1099511627776) : Pure Tryz.prog 74 [.p (numsP ((List.range n).map f))] (u64 (lowV f n)) := fun S => by
  have hl : ((List.range n).map f).length = n := by simp
  have hget : ∀ i (h : i < ((List.range n).map f).length), ((List.range n).map f)[i] = f i := fun i h => by simp
  have q0 : decide ((n : Int) < 1) = false := by rw [decide_eq_false_iff_not]; omega
  have h0' : 0 < ((List.range n).map f).length := by omega
  generalize hL : (List.range n).map f = L at *
  refine callR_of Tryz.func74 rfl rfl (xc_ok (bitB 32925) _ _ _ ?_)
  simp only [go_sem, numsP, List.length_map, hl, q0, h0, ltN' h0', getD_map' _ _ _ _ h0', numE, hget 0 h0']
  refine AWP.iter (fun k => ⟨Env.get [(0, .p (.sl (L.map numE))), (3, u64 (lowV f (k + 1))), (4, i64 (k + 1 : Nat))], S, 25, []⟩) (n - 1) ?_ ?_ ?_
  · exact le_of (by simp only [go_sem] <;> simp [lowV]) (Sub.refl _) rfl rfl (by simp)
  · intro k hk ih
    have hj : k + 1 < L.length := by omega
    have hq : wi (((k + 1 : Nat) : Int) + 1) = ((k + 1 + 1 : Nat) : Int) := wi_succ (show k + 1 < 4611686018427387904 by omega)
    have hlt : k + 1 < n := by omega
    have e1 : (if f (k + 1) < lowV f (k + 1) then ((f (k + 1) : Nat) : Int) else ((lowV f (k + 1) : Nat) : Int)) = ((lowV f (k + 1 + 1) : Nat) : Int) := by
      rw [show lowV f (k + 1 + 1) = min (lowV f (k + 1)) (f (k + 1)) by rw [lowV, if_neg (by omega)]]
      split <;> omega
    refine AWPH.step (xc_ok (bitB 32925) _ _ _ ?_)
    simp only [go_sem, hl, hlt, List.length_map, hj, ltN' hj, getD_map' _ _ _ _ hj, numE, hget (k + 1) hj, e1]
    refine ih.back (Sub.refl _) (by simp) ?_
    simp only [go_sem, hq, numE, e1]
    done
  · have hlt : ¬ n - 1 + 1 < n := by omega
    have he : n - 1 + 1 = n := by omega
    refine AWPH.step (xc_ok (bitB 32925) _ _ _ ?_)
    simp only [go_sem, hl, he, Nat.lt_irrefl, List.length_map]
    exact ⟨S, Sub.refl _, by simp⟩
theorem ecm_least (f : Nat → Nat) (n : Nat) (h0 : 0 < n) (hn : n < 1099511627776) : Pure Tryz.prog 35 [.p (numsP ((List.range n).map f))] (u64 (lowV f n)) := fun S => by
  have hM := slices_Min f n h0 hn
  have hl : ((List.range n).map f).length = n := by simp
  have q0 : ((n : Int) == 0) = false := by rw [beq_eq_false_iff_ne]; omega
  generalize hL : (List.range n).map f = L at *
  refine callR_of Tryz.func35 rfl rfl (xc_ok (bitB 37) _ _ _ ?_)
  simp only [go_sem, numsP, List.length_map, hl, q0]
  refine hM.useA ?_
  simp only [go_sem]
  exact ⟨S, Sub.refl _, by simp⟩
end Go.Sk
end

-- W16i
section
namespace Go.Sk
open Go Go.Proofs

noncomputable def cellQ (s : Ecm) (x tick span i : Nat) : Nat := m64 (rowV s.past i x tick span + colSumV s.b.evs tick span (s.past.sd.getD i default) s.past.w (colV (s.past.sd.getD i default) x s.past.w))
noncomputable def pointE (s : Ecm) (x tick span : Nat) : Nat × Int :=
  if x < 2305843009213693951 then
    if tick < s.b.front ∨ 9223372036854775807 < tick then (0, 6) else if span = 0 ∨ s.win < span then (0, 8) else (lowV (cellQ s x tick span) s.past.rows.length, 0)
  else (0, 7)
theorem ne_of_none {E : Store} {c d : Nat} {y : Blk} (h : E (.r d) = none) (k : E (.r c) = some y) : ¬ c = d ∧ ¬ d = c := by
  constructor <;> rintro rfl <;> rw [h] at k <;> cases k
set_option maxHeartbeats 2000000 in
set_option maxRecDepth 8000 in
theorem ecm_Point (s : Ecm) (hg : s.Good) (x tick span : Nat) (hx : x < 18446744073709551616) : Pure Tryz.prog 12 [s.av, u64 x, u64 tick, u64 span] (.tuple [u64 (pointE s x tick span).1, i64 (pointE s x tick span).2]) := fun S => by
  have hK := hash_Key x
  have hA := ecm_asked s tick span
  have hn := hg.pg.n
  have hsdl := hg.pg.sd
  have hn1 := hg.n1
  refine callR_of Tryz.func12 rfl rfl (xc_ok (bitB 7533297663) _ _ _ ?_)
  simp only [go_sem]
  refine alloc_intro fun c4 h4 => ?_
  simp only [go_sem]
  refine alloc_intro fun c5 h5 => ?_
  simp only [fresh_set] at h5
  simp only [go_sem, h5]
  refine alloc_intro fun c6 h6 => ?_
  simp only [fresh_set] at h6
  simp only [go_sem, h5, h6]
  refine alloc_intro fun c7 h7 => ?_
  simp only [fresh_set] at h7
  simp only [go_sem, h5, h6, h7]
  refine hK.useA ?_
  have y4 : S (.r c4) = none := h4
  have y5 : S (.r c5) = none := h5.2
  have y6 : S (.r c6) = none := h6.2.2
  have y7 : S (.r c7) = none := h7.2.2.2
  by_cases hk : x < 2305843009213693951
  rotate_left
  · simp only [go_sem, hk, h5, h6, h7]
    refine ⟨S, ?_, ?_⟩
    · repeat' first | exact Sub.refl _ | refine Sub.set ?_ (by assumption) _
    · simp [pointE, hk]
  simp only [go_sem, hk, h5, h6, h7]
  refine hA.useA ?_
  by_cases q1 : tick < s.b.front ∨ 9223372036854775807 < tick
  · rw [if_pos q1]
    have g : ((6 : Int) != 0) = true := by decide
    simp only [go_sem, g]
    refine ⟨S, ?_, ?_⟩
    · repeat' first | exact Sub.refl _ | refine Sub.set ?_ (by assumption) _
    · simp [pointE, hk, q1]
  rw [if_neg q1]
  by_cases q2 : span = 0 ∨ s.win < span
  · rw [if_pos q2]
    have g : ((8 : Int) != 0) = true := by decide
    simp only [go_sem, g]
    refine ⟨S, ?_, ?_⟩
    · repeat' first | exact Sub.refl _ | refine Sub.set ?_ (by assumption) _
    · simp [pointE, hk, q1, q2]
  rw [if_neg q2]
  simp only [go_sem, bne_self_eq_false]
  refine alloc_intro fun c11 h11 => ?_
  simp only [fresh_set] at h11
  simp only [go_sem, h5, h6, h7, h11]
  refine alloc_intro fun c12 h12 => ?_
  simp only [fresh_set] at h12
  simp only [go_sem, h5, h6, h7, h11, h12]
  have y11 : S (.r c11) = none := h11.2.2.2.2
  have y12 : S (.r c12) = none := h12.2.2.2.2.2
  refine (ecm_rows s.past x _).useA ?_
  rintro _ _ ⟨b1, b2, f1, f2, hne, rfl, rfl⟩
  simp only [fresh_set] at f1 f2
  simp only [go_sem, h5, h6, h7, h11, h12, f1, f2, hne]
  refine AWP.tipB c11 0 1 (cs := [.nils]) (by simp only [go_sem, h5, h6, h7, h11, h12, f1, f2, hne]) rfl fun kk hkk => ?_
  simp only [freshv_setr] at hkk
  simp only [List.set]
  have hcl : (colsL s.past.sd x s.past.w).length = s.past.rows.length := by simp [colsL, hsdl]
  have hseq := ecm_rows1 s.past hg.pg x hx (T0 := (eS.set (.r b1) (.cells (s.past.pv.map .p))).set (.r b2) (.cells [u64 x])) (b1 := b1) (b2 := b2) (by simp only [go_sem, hne]) (by simp only [go_sem, hne])
  rw [hcl] at hseq
  have g1 : S (.r b1) = none := f1.2.2.2.2.2.2
  have g2 : S (.r b2) = none := f2.2.2.2.2.2.2
  obtain ⟨F, hF⟩ : ∃ F : Nat → List Nat, ∀ j, F j = (List.range j).map (cellQ s x tick span) := ⟨_, fun _ => rfl⟩
  have hF0 : F 0 = [] := by rw [hF]; rfl
  have hrl : ∀ j, (F j).length = j := fun j => by rw [hF]; simp
  have hFs : ∀ j, F (j + 1) = F j ++ [cellQ s x tick span j] := fun j => by rw [hF, hF, List.range_succ, List.map_append]; rfl
  refine AWP.rangeE (ι := Option Nat) (f := 67) (first := []) (caps := [.sp b1 0, .sp b2 0]) (by simp only [go_sem]) _
    (fun j loc => (((((((S.set (.r c4) (.cells (s.pv.map .p))).set (.r c5) (.cells [u64 x])).set (.r c6) (.cells [u64 tick])).set (.r c7) (.cells [u64 span])).set (.r c11) (.cells [.ts kk 1 loc ((F j).map numE)])).set (.r c12) (.cells (s.past.pv.map .p))).set (.v kk) (.tip 1 j loc))) none
    ?_ ?_ hseq (enterable_of Tryz.func67 rfl rfl) (fun _ _ => False) (fun _ _ => rfl) (by simp) ?_ ?_ ?_
  · refine sub_joinT (sub_joinT (sub_join0 ?_) ?_ ?_) ?_ ?_
    · ((try dsimp only); (repeat refine sub_set ?_ ?_) <;> first | ((repeat (first | exact Sub.refl _ | refine Sub.setF ?_ (by first | assumption | simp only [*]) | refine Sub.setV ?_ (by first | assumption | simp only [*]))); done) | (simp only [go_sem, h5, h6, h7, h11, h12, f1, f2, hne, hkk, hF0, List.map_nil]; done) | (simp only [go_sem, h5, h6, h7, h11, h12, f1, f2, hne, hkk, hF0, List.map_nil]; rfl) | rfl)
    all_goals simp only [go_sem, h5, h6, h7, h11, h12, f1, f2, hne, hkk, g1, g2]
  · refine ((Disj.nil _).setT ?_ _).setT ?_ _
    all_goals simp only [go_sem, h5, h6, h7, h11, h12, f1, f2, hne, hkk, g1, g2]
  · intro j loc l hj T hT hdT
    refine xc_ok (bitB 7533297663) _ _ _ ?_
    simp only [go_sem, itemsR]
    refine ⟨_, Sub.refl _, hdT, fun T' hT' hdT' => ?_⟩
    refine xc_ok (bitB 7533297663) _ _ _ ?_
    have hsi : j < s.past.sd.length := by rw [hsdl]; exact hj
    have hso := Seed.ok_of_may (hg.pg.so _ (List.getElem_mem hsi))
    have hw2 := hg.pg.w2
    have hel := hg.evLen
    have hsd : s.past.sd.getD j default = s.past.sd[j] := by simp [List.getD_eq_getElem?_getD, hsi]
    have hgi : (colsL s.past.sd x s.past.w).getD j 0 = colV s.past.sd[j] x s.past.w := by simp [colsL, List.getD_eq_getElem?_getD, hsi]
    have hI := scan_In s.b.evs tick span s.past.sd[j] s.past.w (colV s.past.sd[j] x s.past.w) (by clear h5 h6 h7 h11 h12 f1 f2 hne; omega) hg.evOk hso (by clear h5 h6 h7 h11 h12 f1 f2 hne; omega)
    have hR := grid_Row s.past hg.pg.ok j x tick span hx
    have hcq : m64 (rowV s.past j x tick span + colSumV s.b.evs tick span s.past.sd[j] s.past.w (colV s.past.sd[j] x s.past.w)) = cellQ s x tick span j := by unfold cellQ; rw [hsd]
    refine AWP.draw2 (bitB 7533297663) mixed (by kernel_rfl) (fun q => u64 (colSumV s.b.evs tick span s.past.sd[j] s.past.w (colV s.past.sd[j] x s.past.w))) ?_
    simp only [go_sem, h5, h6, h7, h11, h12, hkk, hsi, ltN' hsi, getD_map' _ _ _ _ hsi, hgi]
    refine ⟨hI.draw, ?_⟩
    refine AWP.draw2 (bitB 7533297663) mixed (by kernel_rfl) (fun q => u64 (rowV s.past j x tick span)) ?_
    simp only [go_sem, h5, h6, h7, h11, h12, hkk, hcq, hrl, List.length_map]
    refine ⟨hR.draw, by rintro el rfl; rfl, num_len, by clear h5 h6 h7 h11 h12 f1 f2 hne; omega, by clear h5 h6 h7 h11 h12 f1 f2 hne; omega, grow_intro fun loc' => ?_⟩
    have e5 : List.map numE (F j) ++ [([.int .u64 (cellQ s x tick span j)] : List PV)] = List.map numE (F (j + 1)) := by
      rw [hFs, List.map_append]; rfl
    simp only [go_sem, h5, h6, h7, h11, h12, hkk, e5]
    have hdq := (hdT'.setE (k := .v kk) (y := .tip 1 j loc) (by simp only [go_sem]) (.tip 1 (F (j + 1)).length loc')).setE (k := .r c11) (y := .cells [.ts kk 1 loc ((F j).map numE)]) (by simp only [go_sem, h5, h6, h7, h11, h12])
      (.cells [.ts kk 1 loc' ((F (j + 1)).map numE)])
    refine ⟨loc', ?_, ?_⟩
    · rw [join_set, join_set]
      refine Sub.joinD ?_ hdq
      ((try dsimp only); (repeat refine sub_set ?_ ?_) <;> first | ((repeat (first | exact Sub.refl _ | refine Sub.setF ?_ (by first | assumption | simp only [*]) | refine Sub.setV ?_ (by first | assumption | simp only [*]))); done) | (simp only [go_sem, h5, h6, h7, h11, h12, hkk, List.length_map, hrl]; done) | (simp only [go_sem, h5, h6, h7, h11, h12, hkk, List.length_map, hrl]; rfl) | rfl)
    · (intro q; refine (hdT' q).elim (fun e => Or.inl ?_) (fun e => Or.inr e); simp only [set_none_iff] at e ⊢; simp only [e, not_false_eq_true, and_self])
  · intro loc d hd
    have hjd := join_none hd
    have n4 := ne_of_none (c := c4) (y := .cells (s.pv.map .p)) hjd.2 (by simp only [go_sem, h5, h6, h7, h11, h12])
    have n5 := ne_of_none (c := c5) (y := .cells [u64 x]) hjd.2 (by simp only [go_sem, h5, h6, h7, h11, h12])
    have n6 := ne_of_none (c := c6) (y := .cells [u64 tick]) hjd.2 (by simp only [go_sem, h5, h6, h7, h11, h12])
    have n7 := ne_of_none (c := c7) (y := .cells [u64 span]) hjd.2 (by simp only [go_sem, h5, h6, h7, h11, h12])
    have n11 := ne_of_none (c := c11) (y := .cells [.ts kk 1 loc ((F s.past.rows.length).map numE)]) hjd.2 (by simp only [go_sem, h5, h6, h7, h11, h12])
    have n12 := ne_of_none (c := c12) (y := .cells (s.past.pv.map .p)) hjd.2 (by simp only [go_sem, h5, h6, h7, h11, h12])
    have gd : S (.r d) = none := by have := hjd.2; simpa [Store.set, n4, n5, n6, n7, n11, n12] using this
    have hL := ecm_least (cellQ s x tick span) s.past.rows.length (by clear h5 h6 h7 h11 h12 f1 f2 hne; omega) (by clear h5 h6 h7 h11 h12 f1 f2 hne; omega)
    rw [← hF] at hL
    simp only [go_sem, h5, h6, h7, h11, h12, hkk, n4, n5, n6, n7, n11, n12]
    refine hL.useA ?_
    simp only [go_sem, h5, h6, h7, h11, h12, hkk, n4, n5, n6, n7, n11, n12]
    refine ⟨fun r hr => by subst hr; rw [if_pos rfl], ?_⟩
    refine ⟨S, ?_, fun r hr => hr ▸ gd, ?_⟩
    · refine Sub.set (Sub.joinL ?_) gd _
      repeat' first | exact Sub.refl _ | refine Sub.set ?_ (by assumption) _
    · simp [pointE, hk, q1, q2]
  · intro e E' d _ h; exact h.elim
end Go.Sk
end
