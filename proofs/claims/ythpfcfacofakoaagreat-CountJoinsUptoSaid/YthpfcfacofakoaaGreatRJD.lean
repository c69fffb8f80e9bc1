/- Texts W12a W12b W12c W12f W12g W12h W7 W14a W12e W12d W13 W13w W13s W14b W14c W14A, joined. -/
import Derived.Test.YthpfcfacofakoaaGreatRJB
import Derived.Test.YthpfcfacofakoaaGreatRJA
import Derived.Test.YthpfcfacofakoaaGreatSkTp
import Derived.Test.YthpfcfacofakoaaGreatSkRg
import Derived.Test.YthpfcfacofakoaaGreatRJC
import Derived.Test.YthpfcfacofakoaaGreatSkSc
import Derived.Test.YthpfcfacofakoaaGreatSkDf
set_option linter.unusedSimpArgs false
set_option linter.unusedVariables false
set_option linter.unusedSectionVars false
-- W12a
section
namespace Go.Sk
open Go Go.Proofs

def Buf.pv (b : Buf) : List PV := [.int .u64 b.late, .int .i64 b.room, .int .u64 b.mark, .int .u64 b.front, .sl (b.evs.map Event.pv)]
def Buf.av (b : Buf) : AV := .agg (b.pv.map .p)
attribute [go_sem] Buf.pv Buf.av
theorem evn_len {l : List Event} : ∀ el ∈ l.map Event.pv, el.length = 3 := by
  intro el h; obtain ⟨x, _, rfl⟩ := List.mem_map.1 h; rfl

theorem latest_two (a b : Nat) : Pure Tryz.prog 79 [.p (.sl [[.int .u64 a], [.int .u64 b]])] (u64 (max a b)) := fun S => by
  refine callR_of Tryz.func79 rfl rfl (xc_ok (bitB 5) _ _ _ ?_)
  simp only [go_sem]
  have hm : Pure Tryz.prog 141 [.p (.sl [[.int .u64 a], [.int .u64 b]])] (u64 (max a b)) := fun S => by
    refine callR_of Tryz.func141 rfl rfl (xc_ok (bitB 32925) _ _ _ ?_)
    have q0 : decide (((2 : Nat) : Int) < 1) = false := by decide
    have q1 : decide ((2 : Int) < ((2 : Nat) : Int)) = false := by decide
    have q2 : decide ((1 : Int) < ((2 : Nat) : Int)) = true := by decide
    simp only [go_sem, q0]
    refine AWP.roam (ι := Bool) (fun _ => True) (fun t => ⟨Env.get [(0, .p (.sl [[.int .u64 a], [.int .u64 b]])), (3, u64 (if t = true then max a b else a)), (4, i64 (if t = true then 2 else 1))], S, 25, []⟩) (fun t => if t = true then 0 else 1) false trivial ?_ ?_
    · exact le_of (by simp only [go_sem] <;> simp) (Sub.refl _) rfl rfl (by simp)
    · intro t _ ih
      refine AWPH.step (xc_ok (bitB 32925) _ _ _ ?_)
      cases t with
      | true =>
        simp only [go_sem, q1]
        (refine ⟨S, by (repeat (first | exact Sub.refl _ | refine Sub.setF ?_ (by first | assumption | simp only [*]) | refine Sub.setV ?_ (by first | assumption | simp only [*]))), ?_⟩); simp
      | false =>
        simp only [go_sem, q2]
        refine ⟨by decide, by decide, ?_⟩
        refine (ih true trivial (by simp)).back (by (repeat (first | exact Sub.refl _ | refine Sub.setF ?_ (by first | assumption | simp only [*]) | refine Sub.setV ?_ (by first | assumption | simp only [*])))) (by simp) ?_
        have q3 : wi (2 : Int) = 2 := wi_id (by decide) (by decide)
        have q4 : wi ((1 : Int) + 1) = 2 := wi_id (by decide) (by decide)
        simp only [go_sem, q3, q4] <;> simp [q3, q4] <;> omega
  refine hm.useA ?_
  simp only [go_sem]
  (refine ⟨S, by (repeat (first | exact Sub.refl _ | refine Sub.setF ?_ (by first | assumption | simp only [*]) | refine Sub.setV ?_ (by first | assumption | simp only [*]))), ?_⟩); simp
theorem below1 {S : Store} {b1 : Nat} (e : Event) (f : Nat) (h1 : S (.r b1) = some (.cells [u64 f])) :
    CallR Tryz.prog 146 [e.av, .sp b1 0] S (fun r S' => r = bl (decide (f < e.t)) ∧ S' = S) := by
  refine callR_of Tryz.func146 rfl rfl (xc_ok (bitB 15) _ _ _ ?_)
  simp only [go_sem]
  refine alloc_intro fun b hb => ?_
  have n1 := hb.ne h1
  simp only [go_sem, h1, n1]
  (refine ⟨S, by (repeat (first | exact Sub.refl _ | refine Sub.setF ?_ (by first | assumption | simp only [*]) | refine Sub.setV ?_ (by first | assumption | simp only [*]))), ?_⟩); simp
theorem index_ev {S : Store} {b1 : Nat} (l : List Event) (f : Nat) (hl : l.length < 4611686018427387904) (h1 : S (.r b1) = some (.cells [u64 f])) :
    CallR Tryz.prog 145 [.p (evsP l), .fn (.func 146) [] [.sp b1 0]] S (fun r S' => r = i64 (if belowN f l < l.length then (belowN f l : Int) else -1) ∧ S' = S) := by
  refine callR_of Tryz.func145 rfl rfl (xc_ok (bitB 66483) _ _ _ ?_)
  simp only [go_sem, evsP]
  refine AWP.roam (ι := Nat) (fun i => i ≤ belowN f l)
    (fun i => ⟨Env.get [(0, .p (evsP l)), (1, .fn (.func 146) [] [.sp b1 0]), (7, i64 l.length), (8, i64 i)], S, 19, []⟩) (fun i => l.length - i) 0 (Nat.zero_le _) ?_ ?_
  · exact le_of (by simp only [go_sem, evsP, List.length_map] <;> rfl) (Sub.refl _) rfl rfl (by simp)
  · intro i hi ih
    have hle := belowN_le f l
    refine AWPH.step (xc_ok (bitB 66483) _ _ _ ?_)
    by_cases c : i < l.length
    · have hst := belowN_step f l i c hi
      simp only [go_sem, evsP, c, ltN' c, getD_map' _ _ _ _ c, List.length_map]
      refine (below1 l[i] f h1).useA ?_
      rintro _ S' ⟨rfl, hS⟩
      rw [hS]
      by_cases hc : f < (l[i]).t
      · have := hst.2 hc
        simp only [go_sem, hc]
        (refine ⟨S, by (repeat (first | exact Sub.refl _ | refine Sub.setF ?_ (by first | assumption | simp only [*]) | refine Sub.setV ?_ (by first | assumption | simp only [*]))), ?_⟩); rw [← this, if_pos c]; simp
      · simp only [go_sem, hc]
        refine (ih (i + 1) (hst.1 (by omega)) (by omega)).back (by (repeat (first | exact Sub.refl _ | refine Sub.setF ?_ (by first | assumption | simp only [*]) | refine Sub.setV ?_ (by first | assumption | simp only [*])))) (by simp) ?_
        simp only [go_sem, evsP, wi_succ (show i < 4611686018427387904 by omega)]
    · obtain rfl : i = l.length := by omega
      simp only [go_sem, evsP, c, List.length_map]
      (refine ⟨S, by (repeat (first | exact Sub.refl _ | refine Sub.setF ?_ (by first | assumption | simp only [*]) | refine Sub.setV ?_ (by first | assumption | simp only [*]))), ?_⟩); rw [if_neg (by omega)]; simp
theorem below (b : Buf) (f : Nat) (hl : b.evs.length < 4611686018427387904) : Pure Tryz.prog 84 [b.av, u64 f] (i64 (belowN f b.evs)) := fun S => by
  refine callR_of Tryz.func84 rfl rfl (xc_ok (bitB 2111) _ _ _ ?_)
  simp only [go_sem]
  refine alloc_intro fun c2 h2 => ?_
  simp only [go_sem]
  refine alloc_intro fun c3 h3 => ?_
  simp only [fresh_set] at h3
  simp only [go_sem, h3]
  refine (index_ev (b1 := c3) b.evs f hl (by simp only [go_sem])).useA ?_
  rintro _ _ ⟨rfl, rfl⟩
  have hle := belowN_le f b.evs
  by_cases c : belowN f b.evs < b.evs.length
  · rw [if_pos c]
    simp only [go_sem, h3]
    (refine ⟨S, by (repeat (first | exact Sub.refl _ | refine Sub.setF ?_ (by first | assumption | simp only [*]) | refine Sub.setV ?_ (by first | assumption | simp only [*]))), ?_⟩); simp
  · rw [if_neg c]
    have q0 : decide ((-1 : Int) < 0) = true := by decide
    simp only [go_sem, h3, List.length_map, q0]
    (refine ⟨S, by (repeat (first | exact Sub.refl _ | refine Sub.setF ?_ (by first | assumption | simp only [*]) | refine Sub.setV ?_ (by first | assumption | simp only [*]))), ?_⟩); simp; omega
theorem clone_ev (l : List Event) (hn : l.length < 1099511627776) : Pure Tryz.prog 152 [.p (.sl (l.map Event.pv))] (.p (.sl (l.map Event.pv))) := fun S => by
  refine callR_of Tryz.func152 rfl rfl (xc_ok (bitB 21) _ _ _ ?_)
  simp only [go_sem]
  refine ⟨fun h => ⟨S, Sub.refl _, by rw [h], rfl⟩, evn_len, by omega, by omega, tip_intro fun k loc hk => ?_⟩
  simp only [go_sem]
  (refine ⟨S, by (repeat (first | exact Sub.refl _ | refine Sub.setF ?_ (by first | assumption | simp only [*]) | refine Sub.setV ?_ (by first | assumption | simp only [*]))), ?_⟩); simp

theorem buf_New (late : Nat) (room : Int) : Pure Tryz.prog 71 [u64 late, i64 room] (.tuple (if 4611686018427387904 < late ∨ room < 1 ∨ 1024 < room then [zeroB.av, i64 9] else [(Buf.mk late room 0 0 []).av, i64 0])) := fun S => by
  refine callR_of Tryz.func71 rfl rfl (xc_ok (bitB 32819) _ _ _ ?_)
  simp only [go_sem]
  refine alloc_intro fun c4 h4 => ?_
  simp only [go_sem]
  by_cases c1 : 4611686018427387904 < late
  · simp only [go_sem, c1]
    (refine ⟨S, by (repeat (first | exact Sub.refl _ | refine Sub.setF ?_ (by first | assumption | simp only [*]) | refine Sub.setV ?_ (by first | assumption | simp only [*]))), ?_⟩); simp [c1, zeroB]
  by_cases c2 : room < 1
  · simp only [go_sem, c1, c2]
    (refine ⟨S, by (repeat (first | exact Sub.refl _ | refine Sub.setF ?_ (by first | assumption | simp only [*]) | refine Sub.setV ?_ (by first | assumption | simp only [*]))), ?_⟩); simp [c1, c2, zeroB]
  by_cases c3 : 1024 < room
  · simp only [go_sem, c1, c2, c3]
    (refine ⟨S, by (repeat (first | exact Sub.refl _ | refine Sub.setF ?_ (by first | assumption | simp only [*]) | refine Sub.setV ?_ (by first | assumption | simp only [*]))), ?_⟩); simp [c1, c2, c3, zeroB]
  · simp only [go_sem, c1, c2, c3]
    (refine ⟨S, by (repeat (first | exact Sub.refl _ | refine Sub.setF ?_ (by first | assumption | simp only [*]) | refine Sub.setV ?_ (by first | assumption | simp only [*]))), ?_⟩); simp [c1, c2, c3]
theorem buf_Weight (b : Buf) (hl : b.evs.length < 4611686018427387904) : Pure Tryz.prog 74 [b.av] (u64 (sumV (fun _ => true) Event.w 0 b.evs)) := fun S => by
  refine callR_of Tryz.func74 rfl rfl (xc_ok (bitB 1967) _ _ _ ?_)
  simp only [go_sem]
  refine alloc_intro fun c1 h1 => ?_
  simp only [go_sem]
  refine AWP.iter (fun i => ⟨Env.get [(3, u64 (sumV (fun _ => true) Event.w 0 (b.evs.take i))), (7, .p (evsP b.evs)), (8, i64 b.evs.length), (9, i64 i)], S.set (.r c1) (.cells [u64 b.late, i64 b.room, u64 b.mark, u64 b.front, .p (.sl (b.evs.map Event.pv))]), 19, []⟩) b.evs.length ?_ ?_ ?_
  · exact le_of (by simp only [go_sem, evsP, List.length_map, List.take_zero] <;> simp [sumV]) (Sub.refl _) rfl rfl (by simp)
  · intro i hi ih
    refine AWPH.step (xc_ok (bitB 1967) _ _ _ ?_)
    simp only [go_sem, evsP, hi, ltN' hi, getD_map' _ _ _ _ hi, List.length_map]
    refine alloc_intro fun c5 h5 => ?_
    simp only [fresh_set] at h5
    simp only [go_sem, h5]
    refine ih.back (by ((try dsimp only); (repeat refine sub_set ?_ ?_) <;> first | ((repeat (first | exact Sub.refl _ | refine Sub.setF ?_ (by first | assumption | simp only [*]) | refine Sub.setV ?_ (by first | assumption | simp only [*]))); done) | (simp only [go_sem, h5]; done) | (simp only [go_sem, h5]; rfl) | rfl)) (by simp) ?_
    simp only [go_sem, evsP, sumV_snoc _ _ 0 b.evs i hi, wi_succ (show i < 4611686018427387904 by omega)]
  · refine AWPH.step (xc_ok (bitB 1967) _ _ _ ?_)
    simp only [go_sem, List.take_length]
    (refine ⟨S, by (repeat (first | exact Sub.refl _ | refine Sub.setF ?_ (by first | assumption | simp only [*]) | refine Sub.setV ?_ (by first | assumption | simp only [*]))), ?_⟩); simp
end Go.Sk
end

-- W12b
section
namespace Go.Sk
open Go Go.Proofs

structure Buf.Sz (b : Buf) : Prop where
  r : 0 ≤ b.room
  m : b.mark < 18446744073709551616
  n : b.evs.length < 1073741824
set_option maxHeartbeats 1000000 in
set_option maxRecDepth 4000 in
theorem buf_settle (b : Buf) (hb : b.Sz) : Pure Tryz.prog 135 [b.av] (.tuple [(settleB b).1.av, .p (evsP (settleB b).2)]) := fun S => by
  obtain ⟨late, rm, mark, front, evs⟩ := b
  have hn := hb.n
  have hr := hb.r
  have hm := hb.m
  dsimp only at hn hr hm
  clear hb
  obtain ⟨room, rfl⟩ : ∃ room : Nat, rm = room := ⟨rm.toNat, by omega⟩
  refine callR_of Tryz.func135 rfl rfl (xc_ok (bitB 4294968383) _ _ _ ?_)
  simp only [go_sem]
  refine alloc_intro fun c1 h1 => ?_
  simp only [go_sem]
  refine alloc_intro fun c2 h2 => ?_
  simp only [fresh_set] at h2
  have y1 : S (.r c1) = none := h1
  have y2 : S (.r c2) = none := h2.2
  obtain ⟨f0, hf0⟩ : ∃ f0, max front (mark - late) = f0 := ⟨_, rfl⟩
  have hres : settleB ⟨late, room, mark, front, evs⟩ = (⟨late, room, mark, (settleN room evs f0).1, evs.drop (settleN room evs f0).2⟩, evs.take (settleN room evs f0).2) := by
    unfold settleB; dsimp only; rw [hf0, Int.toNat_natCast]
  rw [hres]
  by_cases cm : late < mark
  have e1 : sub64 mark late = mark - late := sub64_le hm (by omega)
  simp only [go_sem, cm, h2, e1]
  refine (latest_two front (mark - late)).useA ?_
  rw [hf0]
  simp only [go_sem, h2]
  refine (below ⟨late, room, mark, f0, evs⟩ f0 (by dsimp only; omega)).useA ?_
  simp only [go_sem, h2]
  rotate_left
  have e0 : f0 = front := by omega
  simp only [go_sem, cm, h2]
  refine (below ⟨late, room, mark, front, evs⟩ front (by dsimp only; omega)).useA ?_
  rw [← e0]
  simp only [go_sem, h2]
  all_goals
    refine AWP.roam (ι := Nat) (fun f => settleN room evs f = settleN room evs f0)
      (fun f => ⟨Env.get [(1, .sp c1 0), (2, .sp c2 0), (4, i64 (belowN f evs))], (S.set (.r c1) (.cells [u64 late, i64 room, u64 mark, u64 f, .p (.sl (evs.map Event.pv))])).set (.r c2) (.cells [u64 0, i64 0, u64 0, u64 0, .nils]), 57, []⟩) (fun f => evs.length - belowN f evs) f0 rfl ?_ ?_
    · refine le_of (by simp only [go_sem] <;> simp) ?_ rfl rfl (by simp)
      ((try dsimp only); (repeat refine sub_set ?_ ?_) <;> first | ((repeat (first | exact Sub.refl _ | refine Sub.setF ?_ (by first | assumption | simp only [*]) | refine Sub.setV ?_ (by first | assumption | simp only [*]))); done) | (simp only [go_sem, h2]; done) | (simp only [go_sem, h2]; rfl) | rfl)
      done
    intro f hf ih
    have hle := belowN_le f evs
    refine AWPH.step (xc_ok (bitB 4294968383) _ _ _ ?_)
    have hsub : wi ((evs.length : Int) - (belowN f evs : Int)) = ((evs.length - belowN f evs : Nat) : Int) := by rw [wi_id (by omega) (by omega)]; omega
    by_cases c : room < evs.length - belowN f evs
    · have hlt : belowN f evs < evs.length := by omega
      have hmore := belowN_more f evs hlt
      have hgo := settleN_go c
      simp only [go_sem, h2, hsub, c, hlt, ltN' hlt, getD_map' _ _ _ _ hlt, List.length_map]
      refine (below ⟨late, room, mark, (evs[belowN f evs]).t, evs⟩ (evs[belowN f evs]).t (by dsimp only; omega)).useA ?_
      simp only [go_sem, h2]
      refine (ih (evs[belowN f evs]).t (by rw [← hgo]; exact hf) (by omega)).back ?_ (by simp) ?_
      · ((try dsimp only); (repeat refine sub_set ?_ ?_) <;> first | ((repeat (first | exact Sub.refl _ | refine Sub.setF ?_ (by first | assumption | simp only [*]) | refine Sub.setV ?_ (by first | assumption | simp only [*]))); done) | (simp only [go_sem, h2]; done) | (simp only [go_sem, h2]; rfl) | rfl)
      · simp only [go_sem] <;> simp
    · have hen := settleN_end c
      rw [hen] at hf
      rw [← hf]
      have e5 : List.take (belowN f evs - 0) (List.map Event.pv evs) = List.map Event.pv (evs.take (belowN f evs)) := by rw [Nat.sub_zero, List.map_take]
      have e6 : List.take (evs.length - belowN f evs) (List.drop (belowN f evs) (List.map Event.pv evs)) = List.map Event.pv (evs.drop (belowN f evs)) := by
        rw [← List.map_drop]; exact List.take_of_length_le (by simp)
      simp only [go_sem, h2, hsub, c, List.length_map, e5, e6]
      refine ⟨evn_len, hle, evn_len, hle, ?_⟩
      refine AWP.draw2 (bitB 4294968383) mixed (by kernel_rfl) (fun j => .p (evsP (evs.take (belowN f evs)))) ?_
      simp only [go_sem, h2, evsP]
      refine ⟨(clone_ev (evs.take (belowN f evs)) (by rw [List.length_take]; omega)).draw, S, ?_, ?_⟩
      · exact Sub.set (Sub.set (Sub.set (Sub.set (Sub.refl _) y1 _) y2 _) y1 _) y2 _
      · simp
end Go.Sk
end

-- W12c
section
namespace Go.Sk
open Go Go.Proofs

def zE : List AV := [u64 0, u64 0, u64 0]
theorem grow_ev (n : Nat) (h0 : 0 < n) (hn : n < 1073741824) (S : Store) : CallR Tryz.prog 142 [.nils, i64 n] S
    (fun r S' => ∃ b c, Fresh S b ∧ n ≤ c ∧ r = .ms b 3 0 0 c ∧ S' = S.set (.r b) (.cells (zcs zE c))) := by
  refine callR_of Tryz.func142 rfl rfl (xc_ok (bitB 65619) _ _ _ ?_)
  have q0 : decide ((n : Int) < 0) = false := by simp
  have q1 : wi ((n : Int) - wi ((0 : Int) - 0)) = n := by rw [wi_id (x := (0 : Int) - 0) (by decide) (by decide), wi_id (by omega) (by omega)]; omega
  have q2 : decide (0 < n) = true := by simpa using h0
  have q3 : ((n : Int)).toNat = n := Int.toNat_natCast n
  simp only [go_sem, q0, q1, q2, q3]
  refine ⟨h0, by omega, by rw [show (2 : Int) ^ 62 = 4611686018427387904 by decide]; omega, zero_intro fun b c hb hc => ?_⟩
  simp only [go_sem]
  refine ⟨by omega, _, Sub.refl _, Or.inl ⟨b, c, hb, hc, ?_, rfl⟩⟩
  simp

theorem flat_scalar (els : List (List PV)) : (flatA els).all scalar = true := by
  rw [List.all_eq_true]
  intro x hx
  unfold flatA at hx
  obtain ⟨el, _, h⟩ := List.mem_flatMap.1 hx
  obtain ⟨y, _, rfl⟩ := List.mem_map.1 h
  rfl
def lstE (l : List Event) : List PV := [.sl (l.map Event.pv)]
theorem splice_pre (cs : List AV) (m : Nat) (l : List AV) (h : m + l.length ≤ cs.length) : (splice cs m l).length = cs.length ∧ (splice cs m l).take (m + l.length) = cs.take m ++ l := by
  unfold splice
  refine ⟨by simp; omega, ?_⟩
  rw [List.take_append_of_le_length (by simp; omega), List.take_of_length_le (by simp; omega)]
def sumL (ls : List (List Event)) : Nat := (ls.map List.length).sum
theorem sumL_take (ls : List (List Event)) (i : Nat) (h : i < ls.length) : sumL (ls.take (i + 1)) = sumL (ls.take i) + (ls[i]).length := by
  unfold sumL; rw [List.take_succ_eq_append_getElem h, List.map_append, List.sum_append]; simp only [List.map_cons, List.map_nil, List.sum_cons, List.sum_nil, Nat.add_zero]
theorem sumL_le (ls : List (List Event)) (i : Nat) : sumL (ls.take i) ≤ sumL ls := by
  have : sumL (ls.take i ++ ls.drop i) = sumL (ls.take i) + sumL (ls.drop i) := by unfold sumL; rw [List.map_append, List.sum_append]
  rw [List.take_append_drop] at this
  omega
theorem flat_take (ls : List (List Event)) (i : Nat) (h : i < ls.length) : (ls.take (i + 1)).flatten = (ls.take i).flatten ++ ls[i] := by
  rw [List.take_succ_eq_append_getElem h, List.flatten_append]; simp
theorem flat_len3 (l : List Event) : (flatA (l.map Event.pv)).length = l.length * 3 := by rw [flatA_length (sz := 3) evn_len]; simp
theorem sumL_flat (ls : List (List Event)) : ls.flatten.length = sumL ls := by unfold sumL; rw [List.length_flatten]

set_option maxHeartbeats 1000000 in
set_option maxRecDepth 4000 in
theorem concat_ev (ls : List (List Event)) (h0 : 0 < sumL ls) (hn : sumL ls < 1073741824) (hl : ls.length < 1073741824) : Pure Tryz.prog 80 [.p (.sl (ls.map lstE))] (.p (.sl (ls.flatten.map Event.pv))) := fun S => by
  refine CallR.frz (R := fun r S' => ∃ b c cs, Fresh S b ∧ sumL ls ≤ c ∧ r = .ms b 3 0 (sumL ls) c ∧ S' = S.set (.r b) (.cells cs) ∧ cs.length = c * 3 ∧ cs.take (sumL ls * 3) = flatA (ls.flatten.map Event.pv)) ?_ ?_
  rotate_left
  · rintro r S' ⟨b, c, cs, hb, hc, rfl, rfl, hcl, hct⟩
    refine ⟨.p (.sl (ls.flatten.map Event.pv)), S, Frz.freeze (b := b) (m := sumL ls * 3) (Store.set_same _ _ _) (by omega) (fun k y hk => ?_) (Or.inl (Or.inl (Or.inr (Or.inr ⟨3, 0, sumL ls, c, ls.flatten.map Event.pv, rfl, ?_⟩)))), rfl, rfl⟩
    · have hne : k ≠ .r b := by rintro rfl; rw [hb] at hk; cases hk
      exact ⟨hne, Or.inl (by rw [Store.set_other _ _ hne]; exact hk)⟩
    · exact ⟨by omega, rfl, by rw [List.length_map, sumL_flat], evn_len, by rw [List.drop_zero]; exact hct⟩
  refine callR_of Tryz.func80 rfl rfl (xc_ok (bitB 504373101) _ _ _ ?_)
  simp only [go_sem]
  refine AWP.iter (fun i => ⟨Env.get [(0, .p (.sl (ls.map lstE))), (3, i64 (sumL (ls.take i))), (9, .p (.sl (ls.map lstE))), (10, i64 ls.length), (11, i64 i)], S, 36, []⟩) ls.length ?_ ?_ ?_
  · exact le_of (by simp only [go_sem, List.length_map, List.take_zero] <;> simp [sumL]) (Sub.refl _) rfl rfl (by simp)
  · intro i hi ih
    have h1 := sumL_take ls i hi
    have h2 := sumL_le ls (i + 1)
    have q1 : wi ((sumL (ls.take i) : Int) + ((ls[i]).length : Int)) = ((sumL (ls.take (i + 1)) : Nat) : Int) := by rw [wi_id (by omega) (by omega)]; omega
    have q2 : decide (((sumL (ls.take (i + 1)) : Nat) : Int) < 0) = false := by simp
    refine AWPH.step (xc_ok (bitB 504373101) _ _ _ ?_)
    simp only [go_sem, hi, ltN' hi, getD_map' _ _ _ _ hi, lstE, List.length_map, q1, q2]
    refine ih.back (Sub.refl _) (by simp) ?_
    simp only [go_sem, lstE, List.length_map, wi_succ (show i < 4611686018427387904 by omega), q1]
  · refine AWPH.step (xc_ok (bitB 504373101) _ _ _ ?_)
    simp only [go_sem, List.take_length, List.length_map]
    refine (grow_ev (sumL ls) h0 hn S).useB ?_
    rintro _ _ ⟨b, c, hb, hc, rfl, rfl⟩
    simp only [go_sem, List.length_map]
    refine AWP.roam (ι := Nat × List AV) (fun x => x.1 ≤ ls.length ∧ x.2.length = c * 3 ∧ x.2.take (sumL (ls.take x.1) * 3) = flatA ((ls.take x.1).flatten.map Event.pv))
      (fun x => ⟨Env.get [(6, .ms b 3 0 (sumL (ls.take x.1)) c), (25, .p (.sl (ls.map lstE))), (26, i64 ls.length), (27, i64 x.1)], S.set (.r b) (.cells x.2), 36, []⟩) (fun x => ls.length - x.1) (0, zcs zE c) ⟨Nat.zero_le _, by rw [zcs_length]; rfl, by simp [sumL, flatA]⟩ ?_ ?_
    · exact le_of (by simp only [go_sem, List.length_map, List.take_zero] <;> simp [sumL]) (Sub.refl _) rfl rfl (by simp)
    · rintro ⟨i, cs⟩ ⟨hi, hcl, hct⟩ ih
      dsimp only at hi hcl hct ⊢
      refine AWPH.step (xc_ok (bitB 504373101) _ _ _ ?_)
      by_cases ci : i < ls.length
      · have h1 := sumL_take ls i ci
        have h2 := sumL_le ls (i + 1)
        have hfl := flat_len3 ls[i]
        have hsp := splice_pre cs (0 + sumL (ls.take i) * 3) (flatA ((ls[i]).map Event.pv)) (by omega)
        simp only [go_sem, ci, ltN' ci, getD_map' _ _ _ _ ci, lstE, List.length_map]
        refine ⟨evn_len, by omega, flat_scalar _, more_in (by omega) (by omega) ?_⟩
        simp only [go_sem, lstE]
        refine (ih (i + 1, splice cs (0 + sumL (ls.take i) * 3) (flatA ((ls[i]).map Event.pv))) ⟨ci, by dsimp only; rw [hsp.1]; exact hcl, ?_⟩ (by dsimp only; omega)).back ?_ (by simp) ?_
        · dsimp only
          rw [h1, flat_take ls i ci, List.map_append, Nat.add_mul]
          have h5 := hsp.2
          rw [hfl, Nat.zero_add, hct] at h5
          rw [Nat.zero_add, h5]; simp [flatA]
        · ((try dsimp only); (repeat refine sub_set ?_ ?_) <;> first | ((repeat (first | exact Sub.refl _ | refine Sub.setF ?_ (by first | assumption | simp only [*]) | refine Sub.setV ?_ (by first | assumption | simp only [*]))); done) | (simp only [go_sem]; done) | (simp only [go_sem]; rfl) | rfl)
          done
        · simp only [go_sem, lstE, wi_succ (show i < 4611686018427387904 by omega), h1]
          done
      · obtain rfl : i = ls.length := by omega
        rw [List.take_length] at hct
        simp only [go_sem, ci, List.length_map, List.take_length]
        exact ⟨_, Sub.refl _, Or.inl ⟨b, c, cs, hb, hc, by simp, rfl, hcl, hct⟩⟩
end Go.Sk
end

-- W12f
section
namespace Go.Sk
open Go Go.Proofs

theorem splO_snoc (f : Nat) (l : List Event) (i : Nat) (h : i < l.length) : splO f (l.take (i + 1)) = if (l[i]).t ≤ f then splO f (l.take i) ++ [l[i]] else splO f (l.take i) := by
  unfold splO
  rw [List.take_succ_eq_append_getElem h, List.filter_append]
  by_cases c : (l[i]).t ≤ f
  · rw [if_pos c]; simp [c]
  · rw [if_neg c]; simp [c]
theorem splS_snoc (f : Nat) (l : List Event) (i : Nat) (h : i < l.length) : splS f (l.take (i + 1)) = if (l[i]).t ≤ f then splS f (l.take i) else splS f (l.take i) ++ [l[i]] := by
  unfold splS
  rw [List.take_succ_eq_append_getElem h, List.filter_append]
  by_cases c : (l[i]).t ≤ f
  · rw [if_pos c]; simp [c]
  · rw [if_neg c]; simp [c]
theorem splO_len (f : Nat) (l : List Event) : (splO f l).length ≤ l.length := List.length_filter_le _ _
theorem splS_len (f : Nat) (l : List Event) : (splS f l).length ≤ l.length := List.length_filter_le _ _
set_option maxHeartbeats 1000000 in
set_option maxRecDepth 4000 in
theorem ref12_split (l : List Event) (f : Nat) (hl : l.length < 1073741824) (S : Store) : CallR Tryz.prog 94 [.p (evsP l), u64 f] S
    (fun r S' => ∃ k1 k2 loc1 loc2, FreshV S k1 ∧ FreshV S k2 ∧ (¬ k2 = k1 ∧ ¬ k1 = k2) ∧ r = .tuple [.ts k1 3 loc1 ((splO f l).map Event.pv), .ts k2 3 loc2 ((splS f l).map Event.pv)] ∧
      S' = (S.set (.v k1) (.tip 3 (splO f l).length loc1)).set (.v k2) (.tip 3 (splS f l).length loc2)) := by
  refine callR_of Tryz.func94 rfl rfl (xc_ok (bitB 2101747) _ _ _ ?_)
  simp only [go_sem, evsP]
  refine AWP.tip0 6 3 (by simp only [go_sem]) fun k1 hk1 => ?_
  simp only [go_sem]
  refine AWP.tip0 7 3 (by simp only [go_sem]) fun k2 hk2 => ?_
  simp only [freshv_set] at hk2
  simp only [go_sem]
  refine AWP.iterE (ι := Option Nat × Option Nat) (fun x i => ⟨Env.get [(0, .p (.sl (l.map Event.pv))), (1, u64 f), (6, .ts k1 3 x.1 ((splO f (l.take i)).map Event.pv)), (7, .ts k2 3 x.2 ((splS f (l.take i)).map Event.pv)), (8, i64 i)],
      (S.set (.v k1) (.tip 3 (splO f (l.take i)).length x.1)).set (.v k2) (.tip 3 (splS f (l.take i)).length x.2), 38, []⟩) l.length (none, none) ?_ ?_ ?_
  · have h1 : splO f [] = [] := rfl
    have h2 : splS f [] = [] := rfl
    refine le_of (by simp only [go_sem, List.take_zero, List.map_nil, h1, h2] <;> rfl) ?_ rfl rfl (by simp)
    ((try dsimp only); (repeat refine sub_set ?_ ?_) <;> first | ((repeat (first | exact Sub.refl _ | refine Sub.setF ?_ (by first | assumption | simp only [*]) | refine Sub.setV ?_ (by first | assumption | simp only [*]))); done) | (simp only [go_sem, hk2, List.take_zero, h1, h2, List.length_nil]; done) | (simp only [go_sem, hk2, List.take_zero, h1, h2, List.length_nil]; rfl) | rfl)
  · rintro i ⟨loc1, loc2⟩ hi ih
    have q := wi_succ (show i < 4611686018427387904 by omega)
    have n1 := splO_len f (l.take i)
    have n2 := splS_len f (l.take i)
    rw [List.length_take] at n1 n2
    have s1 := splO_snoc f l i hi
    have s2 := splS_snoc f l i hi
    refine AWPH.step (xc_ok (bitB 2101747) _ _ _ ?_)
    by_cases c : (l[i]).t ≤ f
    · rw [if_pos c] at s1 s2
      have hm : (splO f (l.take i)).map Event.pv ++ [[.int .u64 (l[i]).t, .int .u64 (l[i]).k, .int .u64 (l[i]).w]] = (splO f (l.take (i + 1))).map Event.pv := by rw [s1, List.map_append]; rfl
      have hn : (splO f (l.take (i + 1))).length = (splO f (l.take i)).length + 1 := by rw [s1]; simp
      simp only [go_sem, hi, ltN' hi, getD_map' _ _ _ _ hi, c, hk2]
      refine ⟨by rintro el rfl; rfl, evn_len, by omega, by omega, grow_intro fun loc' => ?_⟩
      simp only [go_sem, hk2, hm]
      refine (ih (loc', loc2)).back ?_ (by simp) ?_
      · ((try dsimp only); (repeat refine sub_set ?_ ?_) <;> first | ((repeat (first | exact Sub.refl _ | refine Sub.setF ?_ (by first | assumption | simp only [*]) | refine Sub.setV ?_ (by first | assumption | simp only [*]))); done) | (simp only [go_sem, hk2, hm, hn, s2, List.length_map]; done) | (simp only [go_sem, hk2, hm, hn, s2, List.length_map]; rfl) | rfl)
      · simp only [go_sem, q, s2, hm]
    · rw [if_neg c] at s1 s2
      have hm : (splS f (l.take i)).map Event.pv ++ [[.int .u64 (l[i]).t, .int .u64 (l[i]).k, .int .u64 (l[i]).w]] = (splS f (l.take (i + 1))).map Event.pv := by rw [s2, List.map_append]; rfl
      have hn : (splS f (l.take (i + 1))).length = (splS f (l.take i)).length + 1 := by rw [s2]; simp
      simp only [go_sem, hi, ltN' hi, getD_map' _ _ _ _ hi, c, hk2]
      refine ⟨by rintro el rfl; rfl, evn_len, by omega, by omega, grow_intro fun loc' => ?_⟩
      simp only [go_sem, hk2, hm]
      refine (ih (loc1, loc')).back ?_ (by simp) ?_
      · ((try dsimp only); (repeat refine sub_set ?_ ?_) <;> first | ((repeat (first | exact Sub.refl _ | refine Sub.setF ?_ (by first | assumption | simp only [*]) | refine Sub.setV ?_ (by first | assumption | simp only [*]))); done) | (simp only [go_sem, hk2, hm, hn, s1, List.length_map]; done) | (simp only [go_sem, hk2, hm, hn, s1, List.length_map]; rfl) | rfl)
      · simp only [go_sem, q, s1, hm]
  · rintro ⟨loc1, loc2⟩
    refine AWPH.step (xc_ok (bitB 2101747) _ _ _ ?_)
    simp only [go_sem, List.take_length]
    exact ⟨_, Sub.refl _, Or.inr ⟨k1, k2, loc1, loc2, hk1, hk2.2, ⟨hk2.1.1, hk2.1.2⟩, rfl, rfl⟩⟩
end Go.Sk
end

-- W12g
section
namespace Go.Sk
open Go Go.Proofs

theorem docS_stop {room f : Nat} {out stay : List Event} (h : ¬ room < stay.length) : docS room f out stay = (f, out, stay) := by
  cases stay with
  | nil => rw [docS]
  | cons e l => rw [docS, if_neg h]
theorem docS_go {room f : Nat} {out l : List Event} {e : Event} (h : room < (e :: l).length) : docS room f out (e :: l) = docS room e.t (out ++ splO e.t (e :: l)) (splS e.t (e :: l)) := by
  rw [docS, if_pos h]
theorem spl_len (f : Nat) (l : List Event) : (splO f l).length + (splS f l).length = l.length := by
  induction l with
  | nil => rfl
  | cons e l ih =>
    unfold splO splS at *
    by_cases c : e.t ≤ f
    · rw [List.filter_cons_of_pos (by simpa using c), List.filter_cons_of_neg (by simp; exact c)]; simp only [List.length_cons]; omega
    · rw [List.filter_cons_of_neg (by simpa using c), List.filter_cons_of_pos (by simp; omega)]; simp only [List.length_cons]; omega
set_option maxHeartbeats 2000000 in
set_option maxRecDepth 8000 in
theorem ref12_settle (b : Buf) (hb : b.Sz) (hs : Srt b.evs) : Pure Tryz.prog 158 [b.av] (.tuple [(settleB b).1.av, .p (evsP (settleB b).2)]) := fun S => by
  obtain ⟨late, rm, mark, front, evs⟩ := b
  have hn := hb.n
  have hr := hb.r
  have hm := hb.m
  dsimp only at hn hr hm hs
  clear hb
  obtain ⟨room, rfl⟩ : ∃ room : Nat, rm = room := ⟨rm.toNat, by omega⟩
  refine callR_of Tryz.func158 rfl rfl (xc_ok (bitB 2199027450111) _ _ _ ?_)
  simp only [go_sem]
  refine alloc_intro fun c1 h1 => ?_
  simp only [go_sem]
  refine alloc_intro fun c2 h2 => ?_
  simp only [fresh_set] at h2
  have y1 : S (.r c1) = none := h1
  have y2 : S (.r c2) = none := h2.2
  have n21 : ¬ c2 = c1 ∧ ¬ c1 = c2 := h2.1
  obtain ⟨f0, hf0⟩ : ∃ f0, max front (mark - late) = f0 := ⟨_, rfl⟩
  obtain ⟨p1, p2⟩ := spl_eq f0 evs hs
  have hdoc := docS_eq room evs hs f0
  rw [← p1, ← p2] at hdoc
  have hpl := spl_len f0 evs
  have hres : settleB ⟨late, room, mark, front, evs⟩ = (⟨late, room, mark, (settleN room evs f0).1, evs.drop (settleN room evs f0).2⟩, evs.take (settleN room evs f0).2) := by
    unfold settleB; dsimp only; rw [hf0, Int.toNat_natCast]
  rw [hres]
  generalize settleN room evs f0 = R at *
  clear hres p1 p2
  by_cases cm : late ≤ mark
  have e1 : sub64 mark late = mark - late := sub64_le hm cm
  by_cases cf : front < mark - late
  have e0 : f0 = mark - late := by omega
  simp only [go_sem, cm, h2, e1, cf]
  rw [← e0]
  refine (ref12_split evs f0 hn _).useA ?_
  rotate_left
  have e0 : f0 = front := by omega
  simp only [go_sem, cm, h2, e1, cf]
  rw [← e0]
  refine (ref12_split evs f0 hn _).useA ?_
  rotate_left
  have e0 : f0 = front := by omega
  simp only [go_sem, cm, h2]
  rw [← e0]
  refine (ref12_split evs f0 hn _).useA ?_
  all_goals
    rintro _ _ ⟨k1, k2, loc1, loc2, hk1, hk2, hkk, rfl, rfl⟩
    simp only [freshv_setr] at hk1 hk2
    simp only [go_sem, n21, hkk]
    have z1 : S (.v k1) = none := hk1
    have z2 : S (.v k2) = none := hk2
    refine AWP.roam (ι := Nat × List Event × List Event × Nat × Option Nat × Option Nat) (fun x => docS room x.1 x.2.1 x.2.2.1 = (R.1, evs.take R.2, evs.drop R.2) ∧ (¬ x.2.2.2.1 = k1 ∧ ¬ k1 = x.2.2.2.1) ∧ S (.v x.2.2.2.1) = none ∧ x.2.1.length + x.2.2.1.length ≤ evs.length)
      (fun x => ⟨Env.get [(1, .sp c1 0), (2, .sp c2 0), (4, .ts k1 3 x.2.2.2.2.1 (x.2.1.map Event.pv)), (5, .ts x.2.2.2.1 3 x.2.2.2.2.2 (x.2.2.1.map Event.pv))],
        (((S.set (.r c1) (.cells [u64 late, i64 room, u64 mark, u64 x.1, .p (.sl (evs.map Event.pv))])).set (.r c2) (.cells [u64 0, i64 0, u64 0, u64 0, .nils])).set (.v k1) (.tip 3 x.2.1.length x.2.2.2.2.1)).set (.v x.2.2.2.1) (.tip 3 x.2.2.1.length x.2.2.2.2.2), 62, []⟩)
      (fun x => x.2.2.1.length) (f0, splO f0 evs, splS f0 evs, k2, loc1, loc2) ⟨hdoc, ⟨hkk.1, hkk.2⟩, z2, by dsimp only; omega⟩ ?_ ?_
    · refine le_of (by simp only [go_sem] <;> rfl) ?_ rfl rfl (by simp)
      ((try dsimp only); (repeat refine sub_set ?_ ?_) <;> first | ((repeat (first | exact Sub.refl _ | refine Sub.setF ?_ (by first | assumption | simp only [*]) | refine Sub.setV ?_ (by first | assumption | simp only [*]))); done) | (simp only [go_sem, n21, hkk]; done) | (simp only [go_sem, n21, hkk]; rfl) | rfl)
    rintro ⟨f, out, stay, k2', loc1', loc2'⟩ ⟨hd, hne, z2', hln⟩ ih
    dsimp only at hd hne z2' hln ⊢
    refine AWPH.step (xc_ok (bitB 2199027450111) _ _ _ ?_)
    by_cases c : room < stay.length
    rotate_left
    · have hst := docS_stop (f := f) (out := out) c
      rw [hst] at hd
      injection hd with d1 d2
      injection d2 with d2 d3
      simp only [go_sem, n21, hne, c, List.length_map]
      refine ⟨S, ?_, ?_⟩
      · repeat' first
          | exact Sub.refl _
          | refine Sub.set ?_ (by assumption) _
      · simp [evsP, d1, d2, d3]
    · cases stay with
      | nil => simp at c
      | cons e l =>
        have hgo := docS_go (f := f) (out := out) c
        rw [hgo] at hd
        have c' : room < l.length + 1 := by simpa using c
        have hsl := spl_len e.t (e :: l)
        have hsh := splS_head e l
        simp only [go_sem, n21, hne, c', List.length_map, List.length_cons, List.map_cons]
        refine (ref12_split (e :: l) e.t (by omega) _).useA ?_
        rintro _ _ ⟨k3, k4, loc3, loc4, hk3, hk4, h34, rfl, rfl⟩
        simp only [freshv_setr, freshv_set] at hk3 hk4
        obtain ⟨O, hO⟩ : ∃ O, splO e.t (e :: l) = O := ⟨_, rfl⟩
        obtain ⟨T, hT⟩ : ∃ T, splS e.t (e :: l) = T := ⟨_, rfl⟩
        rw [hO, hT] at hsl hd
        rw [hT] at hsh
        simp only [hO, hT]
        simp only [go_sem, n21, hne, hk3, hk4, h34]
        refine ⟨evn_len, evn_len, by simp only [List.length_map, List.length_cons] at *; omega, by simp only [List.length_map, List.length_cons] at *; omega, grow_intro fun loc' => ?_⟩
        have hap : out.map Event.pv ++ O.map Event.pv = (out ++ O).map Event.pv := by rw [List.map_append]
        simp only [go_sem, n21, hne, hk3, hk4, h34, hap]
        refine (ih (e.t, out ++ O, T, k4, loc', loc4) ⟨hd, ⟨hk4.2.1.1, hk4.2.1.2⟩, hk4.2.2, by simp only [List.length_append, List.length_cons] at *; omega⟩ hsh).back ?_ (by simp) ?_
        · ((try dsimp only); (repeat refine sub_set ?_ ?_) <;> first | ((repeat (first | exact Sub.refl _ | refine Sub.setF ?_ (by first | assumption | simp only [*]) | refine Sub.setV ?_ (by first | assumption | simp only [*]))); done) | (simp only [go_sem, n21, hne, hk3, hk4, h34, hap, List.length_map]; done) | (simp only [go_sem, n21, hne, hk3, hk4, h34, hap, List.length_map]; rfl) | rfl)
        · simp only [go_sem] <;> rfl
end Go.Sk
end

-- W12h
section
namespace Go.Sk
open Go Go.Proofs

set_option maxHeartbeats 1000000 in
set_option maxRecDepth 4000 in
theorem ref12_Push (b : Buf) (hb : b.Sz) (hn : b.evs.length < 1048576) (hs : Srt b.evs) (e : Event) : Pure Tryz.prog 139 [b.av, e.av] (.tuple [(pushB b e).1.1.av, .p (evsP (pushB b e).1.2), i64 (pushB b e).2]) := fun S => by
  have hm := hb.m
  have hr := hb.r
  refine callR_of Tryz.func139 rfl rfl (xc_ok (bitB 4333567) _ _ _ ?_)
  simp only [go_sem]
  refine alloc_intro fun c2 h2 => ?_
  simp only [go_sem]
  refine alloc_intro fun c3 h3 => ?_
  simp only [fresh_set] at h3
  simp only [go_sem, h3]
  refine alloc_intro fun c4 h4 => ?_
  simp only [fresh_set] at h4
  have y2 : S (.r c2) = none := h2
  have y3 : S (.r c3) = none := h3.2
  have y4 : S (.r c4) = none := h4.2.2
  by_cases c1 : e.w = 0
  · have q1 : (e.w == 0) = true := by simpa using c1
    simp only [go_sem, q1, h3, h4]
    (refine ⟨S, by (repeat (first | exact Sub.refl _ | refine Sub.setF ?_ (by first | assumption | simp only [*]) | refine Sub.setV ?_ (by first | assumption | simp only [*]))), ?_⟩); simp [pushB, c1, zeroB, evsP]
  have q1 : (e.w == 0) = false := by simpa using c1
  by_cases c2' : 9223372036854775807 < e.t
  · simp only [go_sem, q1, c2', h3, h4]
    (refine ⟨S, by (repeat (first | exact Sub.refl _ | refine Sub.setF ?_ (by first | assumption | simp only [*]) | refine Sub.setV ?_ (by first | assumption | simp only [*]))), ?_⟩); simp [pushB, c1, c2', zeroB, evsP]
  by_cases c3' : e.t < b.front
  · simp only [go_sem, q1, c2', c3', h3, h4]
    (refine ⟨S, by (repeat (first | exact Sub.refl _ | refine Sub.setF ?_ (by first | assumption | simp only [*]) | refine Sub.setV ?_ (by first | assumption | simp only [*]))), ?_⟩); simp [pushB, c1, c2', c3', zeroB, evsP]
  have hres : pushB b e = (settleB ⟨b.late, b.room, max b.mark e.t, b.front, insE b.evs e⟩, 0) := by unfold pushB; rw [if_neg c1, if_neg c2', if_neg c3']
  rw [hres]
  have hst := ref12_settle ⟨b.late, b.room, max b.mark e.t, b.front, insE b.evs e⟩ ⟨hr, by dsimp only; omega, by dsimp only; rw [insE_len]; omega⟩ (insE_srt hs e)
  have hil := insE_len b.evs e
  obtain ⟨p1, p2⟩ := spl_eq e.t b.evs hs
  have hie : splO e.t b.evs ++ [e] ++ splS e.t b.evs = insE b.evs e := by rw [p1, p2]; rfl
  have hpl := spl_len e.t b.evs
  generalize settleB ⟨b.late, b.room, max b.mark e.t, b.front, insE b.evs e⟩ = R at *
  have hmx : (if b.mark < e.t then ((e.t : Nat) : Int) else ((b.mark : Nat) : Int)) = ((max b.mark e.t : Nat) : Int) := by split <;> omega
  simp only [go_sem, q1, c2', c3', h3, h4]
  simp only [hmx]
  refine (ref12_split b.evs e.t (by omega) _).useA ?_
  rintro _ _ ⟨k1, k2, loc1, loc2, hk1, hk2, hkk, rfl, rfl⟩
  simp only [freshv_setr] at hk1 hk2
  have z1 : S (.v k1) = none := hk1
  have z2 : S (.v k2) = none := hk2
  obtain ⟨O, hO⟩ : ∃ O, splO e.t b.evs = O := ⟨_, rfl⟩
  obtain ⟨T, hT⟩ : ∃ T, splS e.t b.evs = T := ⟨_, rfl⟩
  rw [hO, hT] at hpl hie
  simp only [hO, hT]
  simp only [go_sem, h3, h4, hkk]
  refine ⟨evn_len, by omega, by omega, tip_intro fun k3 loc3 hk3 => ?_⟩
  simp only [freshv_setr, freshv_set] at hk3
  have z3 : S (.v k3) = none := hk3.2.2
  simp only [go_sem, h3, h4, hkk, hk3, List.length_map]
  refine ⟨by rintro el rfl; rfl, evn_len, by omega, by omega, grow_intro fun loc4 => ?_⟩
  have ha1 : O.map Event.pv ++ [[.int .u64 e.t, .int .u64 e.k, .int .u64 e.w]] = (O ++ [e]).map Event.pv := by rw [List.map_append]; rfl
  have ha2 : (O ++ [e]).map Event.pv ++ T.map Event.pv = (insE b.evs e).map Event.pv := by rw [← hie, ← List.map_append]
  simp only [go_sem, h3, h4, hkk, hk3, ha1]
  refine ⟨evn_len, evn_len, by simp only [List.length_append, List.length_singleton]; omega, by simp only [List.length_append, List.length_singleton]; omega, grow_intro fun loc5 => ?_⟩
  simp only [go_sem, h3, h4, hkk, hk3, ha2]
  refine hst.useA ?_
  simp only [go_sem, h3, h4, hkk, hk3]
  refine alloc_intro fun c10 h10 => ?_
  simp only [fresh_set, fresh_setv] at h10
  simp only [go_sem, h3, h4, h10]
  have y10 : S (.r c10) = none := h10.2.2.2.2.2
  refine ⟨S, ?_, ?_⟩
  · repeat' first
      | exact Sub.refl _
      | refine Sub.set ?_ (by assumption) _
  · simp [evsP]
set_option maxHeartbeats 1000000 in
set_option maxRecDepth 4000 in
theorem ref12_Move (b : Buf) (hb : b.Sz) (hs : Srt b.evs) (t : Nat) : Pure Tryz.prog 99 [b.av, u64 t] (.tuple [(moveB b t).1.1.av, .p (evsP (moveB b t).1.2), i64 (moveB b t).2]) := fun S => by
  have hm := hb.m
  have hr := hb.r
  have hn := hb.n
  refine callR_of Tryz.func99 rfl rfl (xc_ok (bitB 1527) _ _ _ ?_)
  simp only [go_sem]
  refine alloc_intro fun c2 h2 => ?_
  simp only [go_sem]
  refine alloc_intro fun c4 h4 => ?_
  simp only [fresh_set] at h4
  have y2 : S (.r c2) = none := h2
  have y4 : S (.r c4) = none := h4.2
  by_cases c1 : 9223372036854775807 < t
  · simp only [go_sem, c1, h4]
    (refine ⟨S, by (repeat (first | exact Sub.refl _ | refine Sub.setF ?_ (by first | assumption | simp only [*]) | refine Sub.setV ?_ (by first | assumption | simp only [*]))), ?_⟩); simp [moveB, c1, zeroB, evsP]
  have hres : moveB b t = (settleB ⟨b.late, b.room, max b.mark t, b.front, b.evs⟩, 0) := by unfold moveB; rw [if_neg c1]
  rw [hres]
  have hst := ref12_settle ⟨b.late, b.room, max b.mark t, b.front, b.evs⟩ ⟨hr, by dsimp only; omega, hn⟩ hs
  have hmx : (if b.mark < t then ((t : Nat) : Int) else ((b.mark : Nat) : Int)) = ((max b.mark t : Nat) : Int) := by split <;> omega
  generalize settleB ⟨b.late, b.room, max b.mark t, b.front, b.evs⟩ = R at *
  simp only [go_sem, c1, h4]
  simp only [hmx]
  refine hst.useA ?_
  simp only [go_sem, h4]
  refine alloc_intro fun c7 h7 => ?_
  simp only [fresh_set] at h7
  simp only [go_sem, h4, h7]
  have y7 : S (.r c7) = none := h7.2.2.2
  refine ⟨S, ?_, ?_⟩
  · repeat' first
      | exact Sub.refl _
      | refine Sub.set ?_ (by assumption) _
  · simp [evsP]
end Go.Sk
end

-- W7
section
namespace Go.Sk
open Go Go.Proofs

theorem exp_Old (t f w : Nat) : Pure Tryz.prog 219 [u64 t, u64 f, u64 w] (bl (oldV f w t)) := fun S => by
  refine callR_of Tryz.func219 rfl rfl (xc_ok (bitB 71) _ _ _ ?_)
  simp only [go_sem]
  by_cases h1 : w ≤ f
  · simp only [go_sem, h1]
    (refine ⟨S, by (repeat (first | exact Sub.refl _ | refine Sub.setF ?_ (by first | assumption | simp only [*]) | refine Sub.setV ?_ (by first | assumption | simp only [*]))), ?_⟩); simp [oldV, h1]
  · simp only [go_sem, h1]
    (refine ⟨S, by (repeat (first | exact Sub.refl _ | refine Sub.setF ?_ (by first | assumption | simp only [*]) | refine Sub.setV ?_ (by first | assumption | simp only [*]))), ?_⟩); simp [oldV, h1]
theorem ref07_Old (t f w : Nat) : Pure Tryz.prog 205 [u64 t, u64 f, u64 w] (bl (oldV f w t)) := fun S => by
  refine callR_of Tryz.func205 rfl rfl (xc_ok (bitB 71) _ _ _ ?_)
  simp only [go_sem]
  by_cases h1 : w ≤ f
  · simp only [go_sem, h1]
    (refine ⟨S, by (repeat (first | exact Sub.refl _ | refine Sub.setF ?_ (by first | assumption | simp only [*]) | refine Sub.setV ?_ (by first | assumption | simp only [*]))), ?_⟩); simp [oldV, h1]
  · simp only [go_sem, h1]
    (refine ⟨S, by (repeat (first | exact Sub.refl _ | refine Sub.setF ?_ (by first | assumption | simp only [*]) | refine Sub.setV ?_ (by first | assumption | simp only [*]))), ?_⟩); simp [oldV, h1]
theorem exp_Drop1 {S : Store} {b1 b2 : Nat} (s : Span) (f w : Nat) (h1 : S (.r b1) = some (.cells [u64 f])) (h2 : S (.r b2) = some (.cells [u64 w])) :
    CallR Tryz.prog 218 [s.av, .sp b1 0, .sp b2 0] S (fun r S' => r = bl (oldV f w s.b) ∧ S' = S) := by
  refine callR_of Tryz.func218 rfl rfl (xc_ok (bitB 31) _ _ _ ?_)
  simp only [go_sem]
  refine alloc_intro fun b hb => ?_
  have n1 := hb.ne h1; have n2 := hb.ne h2
  simp only [go_sem, h1, h2, n1, n2]
  refine (exp_Old s.b f w).useA ?_
  simp only [go_sem]
  (refine ⟨S, by (repeat (first | exact Sub.refl _ | refine Sub.setF ?_ (by first | assumption | simp only [*]) | refine Sub.setV ?_ (by first | assumption | simp only [*]))), ?_⟩); simp

set_option maxHeartbeats 1000000 in
set_option maxRecDepth 8000 in
theorem exp_Drop (k g : Int) (ls : List (List Span)) (f w : Nat) (hn : ls.length < 1048576) (hl : ∀ l ∈ ls, l.length < 1048576) :
    Pure Tryz.prog 187 [(Hist.mk k g ls).av, u64 f, u64 w] (Hist.mk k g (dropG (oldV f w) ls)).av := fun S => by
  refine callR_of Tryz.func187 rfl rfl (xc_ok (bitB 69741846015) _ _ _ ?_)
  simp only [go_sem]
  refine alloc_intro fun c3 h3 => ?_
  simp only [go_sem]
  refine alloc_intro fun c4 h4 => ?_
  simp only [fresh_set] at h4
  simp only [go_sem, h4]
  refine alloc_intro fun c5 h5 => ?_
  simp only [fresh_set] at h5
  simp only [go_sem, h4, h5]
  refine alloc_intro fun c6 h6 => ?_
  simp only [fresh_set] at h6
  simp only [go_sem, h4, h5, h6]
  refine AWP.scope (xc_ok (bitB 69741846015) _ _ _ ?_)
  simp only [go_sem, h4, h5, h6]
  refine alloc_intro fun c8 h8 => ?_
  simp only [fresh_set] at h8
  simp only [go_sem, h4, h5, h6, h8]
  refine AWP.tipB c8 2 1 (cs := [i64 k, i64 g, .nils]) (by simp only [go_sem, h8]) rfl fun kk hkk => ?_
  simp only [freshv_setr] at hkk
  simp only [List.set]
  have y3 : S (.r c3) = none := h3
  have y4 : S (.r c4) = none := h4.2
  have y5 : S (.r c5) = none := h5.2.2
  have y6 : S (.r c6) = none := h6.2.2.2
  obtain ⟨o, ho⟩ : ∃ o, oldV f w = o := ⟨_, rfl⟩
  obtain ⟨V, hV⟩ : ∃ V : Store, V = (((S.set (.r c3) (.cells [i64 k, i64 g, .p (.sl (ls.map lvE))])).set (.r c4) (.cells [u64 f])).set (.r c5) (.cells [u64 w])).set (.r c6) (.cells [i64 0, i64 0, .nils]) := ⟨_, rfl⟩
  have v4 : V (.r c4) = some (.cells [u64 f]) := by rw [hV]; simp only [go_sem, h4, h5, h6]
  have v5 : V (.r c5) = some (.cells [u64 w]) := by rw [hV]; simp only [go_sem, h4, h5, h6]
  have v6 : V (.r c6) = some (.cells [i64 0, i64 0, .nils]) := by rw [hV]; simp only [go_sem, h4, h5, h6]
  have v8 : V (.r c8) = none := by rw [hV]; simp only [go_sem, h8]; exact h8.2.2.2.2
  have vk : V (.v kk) = none := by rw [hV]; simp only [go_sem]; exact hkk
  have vS : Sub S V := by rw [hV]; exact Sub.set (Sub.set (Sub.set (Sub.set (Sub.refl _) y3 _) y4 _) y5 _) y6 _
  have y8 : S (.r c8) = none := h8.2.2.2.2
  have yk : S (.v kk) = none := hkk
  have n84 : ¬ c4 = c8 ∧ ¬ c8 = c4 := ⟨h8.2.2.1.2, h8.2.2.1.1⟩
  have n85 : ¬ c5 = c8 ∧ ¬ c8 = c5 := ⟨h8.2.1.2, h8.2.1.1⟩
  have n86 : ¬ c6 = c8 ∧ ¬ c8 = c6 := ⟨h8.1.2, h8.1.1⟩
  rw [ho]
  refine AWP.roam (ι := Nat × Option Nat) (fun x => x.1 ≤ ls.length ∧ dropG o ls = (ls.take x.1).map (fun l => l.drop (oldN o l)) ++ dropG o (ls.drop x.1))
    (fun x => ⟨Env.get [(4, .sp c4 0), (5, .sp c5 0), (6, .sp c6 0), (7, .fn (.func 218) [] [.sp c4 0, .sp c5 0]), (8, .sp c8 0), (20, .p (.sl (ls.map lvE))), (21, i64 ls.length), (22, i64 x.1)],
      (V.set (.v kk) (.tip 1 x.1 x.2)).set (.r c8) (.cells [i64 k, i64 g, .ts kk 1 x.2 ((((ls.take x.1).map (fun l => l.drop (oldN o l)))).map lvE)]), 52, []⟩) (fun x => ls.length - x.1) (0, none) ⟨Nat.zero_le _, by simp⟩ ?_ ?_
  · refine le_of (by simp only [go_sem, List.length_map] <;> rfl) ?_ rfl rfl (by simp)
    rw [hV]
    ((try dsimp only); (repeat refine sub_set ?_ ?_) <;> first | ((repeat (first | exact Sub.refl _ | refine Sub.setF ?_ (by first | assumption | simp only [*]) | refine Sub.setV ?_ (by first | assumption | simp only [*]))); done) | (simp only [go_sem, h4, h5, h6, h8, hkk, List.take_zero, List.map_nil]; done) | (simp only [go_sem, h4, h5, h6, h8, hkk, List.take_zero, List.map_nil]; rfl) | rfl)
  clear hV h4 h5 h6 h8 hkk y3 y4 y5
  rintro ⟨i, loc⟩ ⟨hi, hG⟩ ih
  dsimp only at hi hG ⊢
  refine AWPH.step (xc_ok (bitB 69741846015) _ _ _ ?_)
  by_cases ci : i < ls.length
  rotate_left
  · obtain rfl : i = ls.length := by omega
    rw [List.drop_length, List.take_length] at hG
    simp only [dropG, List.append_nil] at hG
    simp only [go_sem, n86, v6, List.take_length, ← hG]
    refine ⟨S, ?_, ?_⟩
    · exact Sub.set (Sub.set (Sub.set vS yk _) y8 _) y6 _
    · simp
  simp only [go_sem, ci, ltN' ci, getD_map' _ _ _ _ ci, lvE_mk, List.length_map]
  have hlen := hl _ (List.getElem_mem ci)
  have hcons : ls.drop i = ls[i] :: ls.drop (i + 1) := List.drop_eq_getElem_cons ci
  have hgi : dropG o (ls.drop i) = if oldN o ls[i] < (ls[i]).length then (ls[i]).drop (oldN o ls[i]) :: dropG o (ls.drop (i + 1)) else [] := by rw [hcons]; rfl
  refine AWP.roam (ι := Nat) (fun j => j ≤ oldN o ls[i]) (fun j => ⟨Env.get [(4, .sp c4 0), (5, .sp c5 0), (6, .sp c6 0), (7, .fn (.func 218) [] [.sp c4 0, .sp c5 0]), (8, .sp c8 0), (10, .p (lvP ls[i])), (20, .p (.sl (ls.map lvE))), (21, i64 ls.length), (22, i64 i), (26, .p (lvP ls[i])), (27, i64 (ls[i]).length), (28, i64 j)],
      (V.set (.v kk) (.tip 1 i loc)).set (.r c8) (.cells [i64 k, i64 g, .ts kk 1 loc ((((ls.take i).map (fun l => l.drop (oldN o l)))).map lvE)]), 52, []⟩) (fun j => (ls[i]).length - j) 0 (Nat.zero_le _) ?_ ?_
  · exact le_of (by simp only [go_sem, lvP, List.length_map] <;> simp) (Sub.refl _) rfl rfl (by simp)
  intro j hj jh
  have hol := oldN_le o ls[i]
  refine AWPH.step (xc_ok (bitB 69741846015) _ _ _ ?_)
  by_cases cj : j < (ls[i]).length
  rotate_left
  · have hz : ¬ oldN o ls[i] < (ls[i]).length := by omega
    rw [hgi, if_neg hz, List.append_nil] at hG
    simp only [go_sem, n86, v6, cj, ← hG]
    refine ⟨S, ?_, ?_⟩
    · exact Sub.set (Sub.set (Sub.set vS yk _) y8 _) y6 _
    · simp
  simp only [go_sem, cj, ltN' cj, lvP, getD_map' _ _ _ _ cj]
  refine alloc_intro fun c12 h12 => ?_
  simp only [fresh_set, fresh_setv] at h12
  have n4 := h12.2.ne v4
  have n5 := h12.2.ne v5
  simp only [go_sem, h12]
  refine (exp_Drop1 ls[i][j] f w (b1 := c4) (b2 := c5) ?_ ?_).useA ?_
  · simp only [go_sem, n84, n4, v4]
  · simp only [go_sem, n85, n5, v5]
  rintro _ _ ⟨rfl, rfl⟩
  rw [ho]
  have hst := oldN_step o ls[i] j cj hj
  cases hc : o (ls[i][j]).b
  · obtain rfl := hst.2 hc
    simp only [go_sem, h12]
    refine AWP.draw2 (bitB 69741846015) mixed (by kernel_rfl) (fun j => bl false) ?_
    have htl : (ls.take i).length = i := by rw [List.length_take]; omega
    have htl1 : (ls.take (i + 1)).length = i + 1 := by rw [List.length_take]; omega
    have hsl : List.take ((ls[i]).length - oldN o ls[i]) (List.drop (oldN o ls[i]) (List.map Span.pv ls[i])) = ((ls[i]).drop (oldN o ls[i])).map Span.pv := by
      rw [← List.map_drop]
      exact List.take_of_length_le (by simp)
    have hrow : List.map lvE (List.map (fun l => l.drop (oldN o l)) (ls.take i)) ++ [[.sl (((ls[i]).drop (oldN o ls[i])).map Span.pv)]] = List.map lvE (List.map (fun l => l.drop (oldN o l)) (ls.take (i + 1))) := by
      rw [List.take_succ_eq_append_getElem ci, List.map_append, List.map_append]; rfl
    simp only [go_sem, n84, n85, h12, n4, n5, htl, hsl, hrow]
    refine ⟨span_len, hol, by rintro el rfl; rfl, lvE_len, by omega, by omega, grow_intro fun loc' => ?_⟩
    simp only [go_sem, n84, n85, h12, n4, n5, vk]
    refine (ih (i + 1, loc') ⟨ci, ?_⟩ (by dsimp only; omega)).back ?_ (by simp) ?_
    · rw [hG, hgi, if_pos cj, List.take_succ_eq_append_getElem ci, List.map_append, List.append_assoc]; rfl
    · ((try dsimp only); (repeat refine sub_set ?_ ?_) <;> first | ((repeat (first | exact Sub.refl _ | refine Sub.setF ?_ (by first | assumption | simp only [*]) | refine Sub.setV ?_ (by first | assumption | simp only [*]))); done) | (simp only [go_sem, h12, n4, n5, vk, htl1, hrow]; done) | (simp only [go_sem, h12, n4, n5, vk, htl1, hrow]; rfl) | rfl)
    · simp only [go_sem, wi_succ (show i < 4611686018427387904 by omega)]
  · simp only [go_sem, h12]
    refine (jh (j + 1) (hst.1 hc) (by omega)).back ?_ (by simp) ?_
    · ((try dsimp only); (repeat refine sub_set ?_ ?_) <;> first | ((repeat (first | exact Sub.refl _ | refine Sub.setF ?_ (by first | assumption | simp only [*]) | refine Sub.setV ?_ (by first | assumption | simp only [*]))); done) | (simp only [go_sem, h12]; done) | (simp only [go_sem, h12]; rfl) | rfl)
    · simp only [go_sem, lvP, wi_succ (show j < 4611686018427387904 by omega)]
theorem stayF_snoc (o : Nat → Bool) (l : List Span) (j : Nat) (h : j < l.length) : stayF o (l.take (j + 1)) = if o (l[j]).b = true then stayF o (l.take j) else stayF o (l.take j) ++ [l[j]] := by
  unfold stayF
  rw [List.take_succ_eq_append_getElem h, List.filter_append]
  by_cases c : o (l[j]).b = true
  · rw [if_pos c]; simp [c]
  · rw [if_neg c]; simp [c]
theorem stayF_len (o : Nat → Bool) (l : List Span) : (stayF o l).length ≤ l.length := List.length_filter_le _ _
theorem docD_snoc (o : Nat → Bool) (ls : List (List Span)) (i : Nat) (h : i < ls.length) : manyF 0 0 ((ls.take (i + 1)).map (stayF o)) = if stayF o ls[i] = [] then manyF 0 0 ((ls.take i).map (stayF o)) else i + 1 := by
  rw [List.take_succ_eq_append_getElem h, List.map_append]
  simp only [List.map_cons, List.map_nil]
  rw [manyF_snoc]
  simp [Nat.min_eq_left (Nat.le_of_lt h)]

set_option maxHeartbeats 1000000 in
set_option maxRecDepth 8000 in
theorem ref07_Drop (k g : Int) (ls : List (List Span)) (f w : Nat) (hn : ls.length < 1048576) (hl : ∀ l ∈ ls, l.length < 1048576) :
    Pure Tryz.prog 159 [(Hist.mk k g ls).av, u64 f, u64 w] (Hist.mk k g (docD (oldV f w) ls)).av := fun S => by
  refine callR_of Tryz.func159 rfl rfl (xc_ok (bitB 73787046665731968975) _ _ _ ?_)
  simp only [go_sem]
  refine alloc_intro fun c3 h3 => ?_
  simp only [go_sem]
  refine alloc_intro fun c6 h6 => ?_
  simp only [fresh_set] at h6
  simp only [go_sem, h6]
  refine alloc_intro fun c7 h7 => ?_
  simp only [fresh_set] at h7
  simp only [go_sem, h6, h7]
  refine AWP.tipB c7 2 1 (cs := [i64 k, i64 g, .nils]) (by simp only [go_sem, h7]) rfl fun kk hkk => ?_
  simp only [freshv_setr] at hkk
  simp only [List.set]
  have y3 : S (.r c3) = none := h3
  have y6 : S (.r c6) = none := h6.2
  have y7 : S (.r c7) = none := h7.2.2
  have yk : S (.v kk) = none := hkk
  obtain ⟨o, ho⟩ : ∃ o, oldV f w = o := ⟨_, rfl⟩
  obtain ⟨V, hV⟩ : ∃ V : Store, V = (S.set (.r c3) (.cells [i64 k, i64 g, .p (.sl (ls.map lvE))])).set (.r c6) (.cells [i64 0, i64 0, .nils]) := ⟨_, rfl⟩
  have v3 : V (.r c3) = some (.cells [i64 k, i64 g, .p (.sl (ls.map lvE))]) := by rw [hV]; simp only [go_sem, h6]
  have v6 : V (.r c6) = some (.cells [i64 0, i64 0, .nils]) := by rw [hV]; simp only [go_sem, h6]
  have v7 : V (.r c7) = none := by rw [hV]; simp only [go_sem, h7]; exact h7.2.2
  have vk : V (.v kk) = none := by rw [hV]; simp only [go_sem]; exact hkk
  have vS : Sub S V := by rw [hV]; exact Sub.set (Sub.set (Sub.refl _) y3 _) y6 _
  have n73 : ¬ c3 = c7 ∧ ¬ c7 = c3 := ⟨h7.2.1.2, h7.2.1.1⟩
  have n76 : ¬ c6 = c7 ∧ ¬ c7 = c6 := ⟨h7.1.2, h7.1.1⟩
  rw [ho]
  refine AWP.iterE (ι := Option Nat) (fun loc i => ⟨Env.get [(1, u64 f), (2, u64 w), (3, .sp c3 0), (6, .sp c6 0), (7, .sp c7 0), (8, i64 (manyF 0 0 ((ls.take i).map (stayF o)))), (9, i64 i)],
      (V.set (.v kk) (.tip 1 i loc)).set (.r c7) (.cells [i64 k, i64 g, .ts kk 1 loc (((ls.take i).map (stayF o)).map lvE)]), 75, []⟩) ls.length none ?_ ?_ ?_
  · refine le_of (by simp only [go_sem, List.take_zero, List.map_nil, manyF] <;> simp) ?_ rfl rfl (by simp)
    rw [hV]
    ((try dsimp only); (repeat refine sub_set ?_ ?_) <;> first | ((repeat (first | exact Sub.refl _ | refine Sub.setF ?_ (by first | assumption | simp only [*]) | refine Sub.setV ?_ (by first | assumption | simp only [*]))); done) | (simp only [go_sem, h6, h7, hkk, List.take_zero, List.map_nil]; done) | (simp only [go_sem, h6, h7, hkk, List.take_zero, List.map_nil]; rfl) | rfl)
  · clear hV h6 h7 hkk
    intro i loc hi ih
    have hlen := hl _ (List.getElem_mem hi)
    refine AWPH.step (xc_ok (bitB 73787046665731968975) _ _ _ ?_)
    simp only [go_sem, hi, ltN' hi, n73, v3, List.length_map]
    refine AWP.tip0 10 2 (by simp only [go_sem]) fun k2 hk2 => ?_
    simp only [freshv_setr, freshv_set] at hk2
    have htl : (ls.take i).length = i := by rw [List.length_take]; omega
    have htl1 : (ls.take (i + 1)).length = i + 1 := by rw [List.length_take]; omega
    have hrow : List.map lvE (List.map (stayF o) (ls.take i)) ++ [[.sl ((stayF o ls[i]).map Span.pv)]] = List.map lvE (List.map (stayF o) (ls.take (i + 1))) := by
      rw [List.take_succ_eq_append_getElem hi, List.map_append, List.map_append]; rfl
    have hsn := docD_snoc o ls i hi
    have hq : wi ((i : Int) + 1) = ((i + 1 : Nat) : Int) := wi_succ (show i < 4611686018427387904 by omega)
    refine AWP.iterE (ι := Option Nat) (fun loc2 j => ⟨Env.get [(1, u64 f), (2, u64 w), (3, .sp c3 0), (6, .sp c6 0), (7, .sp c7 0), (8, i64 (manyF 0 0 ((ls.take i).map (stayF o)))), (9, i64 i), (10, .ts k2 2 loc2 ((stayF o ((ls[i]).take j)).map Span.pv)), (11, i64 j)],
      ((V.set (.v kk) (.tip 1 i loc)).set (.r c7) (.cells [i64 k, i64 g, .ts kk 1 loc (((ls.take i).map (stayF o)).map lvE)])).set (.v k2) (.tip 2 (stayF o ((ls[i]).take j)).length loc2), 75, []⟩) (ls[i]).length none ?_ ?_ ?_
    · have h00 : stayF o [] = [] := rfl
      refine le_of (by simp only [go_sem, List.take_zero, List.map_nil, h00] <;> rfl) ?_ rfl rfl (by simp)
      ((try dsimp only); (repeat refine sub_set ?_ ?_) <;> first | ((repeat (first | exact Sub.refl _ | refine Sub.setF ?_ (by first | assumption | simp only [*]) | refine Sub.setV ?_ (by first | assumption | simp only [*]))); done) | (simp only [go_sem, hk2, List.take_zero, h00, List.length_nil]; done) | (simp only [go_sem, hk2, List.take_zero, h00, List.length_nil]; rfl) | rfl)
    · intro j loc2 hj jh
      have hqj : wi ((j : Int) + 1) = ((j + 1 : Nat) : Int) := wi_succ (show j < 4611686018427387904 by omega)
      have hsj := stayF_snoc o ls[i] j hj
      have hsl := stayF_len o ((ls[i]).take j)
      rw [List.length_take] at hsl
      refine AWPH.step (xc_ok (bitB 73787046665731968975) _ _ _ ?_)
      simp only [go_sem, hi, ltN' hi, n73, v3, List.length_map, getD_map' _ _ _ _ hi, lvE_mk, hj, ltN' hj, getD_map' _ _ _ _ hj]
      refine (ref07_Old (ls[i][j]).b f w).useA ?_
      rw [ho]
      cases hc : o (ls[i][j]).b
      · rw [hc, if_neg (by decide)] at hsj
        have hmj : (stayF o ((ls[i]).take j)).map Span.pv ++ [[.int .u64 (ls[i][j]).a, .int .u64 (ls[i][j]).b]] = (stayF o ((ls[i]).take (j + 1))).map Span.pv := by rw [hsj, List.map_append]; rfl
        have hlj : (stayF o ((ls[i]).take (j + 1))).length = (stayF o ((ls[i]).take j)).length + 1 := by rw [hsj]; simp
        simp only [go_sem, hk2, hi, ltN' hi, n73, v3, List.length_map, getD_map' _ _ _ _ hi, lvE_mk, hj, ltN' hj, getD_map' _ _ _ _ hj]
        refine ⟨by rintro el rfl; rfl, span_len, by omega, by omega, grow_intro fun loc' => ?_⟩
        simp only [go_sem, hk2, hmj]
        refine (jh loc').back ?_ (by simp) ?_
        · ((try dsimp only); (repeat refine sub_set ?_ ?_) <;> first | ((repeat (first | exact Sub.refl _ | refine Sub.setF ?_ (by first | assumption | simp only [*]) | refine Sub.setV ?_ (by first | assumption | simp only [*]))); done) | (simp only [go_sem, hk2, hmj, hlj, List.length_map]; done) | (simp only [go_sem, hk2, hmj, hlj, List.length_map]; rfl) | rfl)
        · simp only [go_sem, hqj]
      · rw [hc, if_pos rfl] at hsj
        simp only [go_sem]
        refine (jh loc2).back ?_ (by simp) ?_
        · ((try dsimp only); (repeat refine sub_set ?_ ?_) <;> first | ((repeat (first | exact Sub.refl _ | refine Sub.setF ?_ (by first | assumption | simp only [*]) | refine Sub.setV ?_ (by first | assumption | simp only [*]))); done) | (simp only [go_sem, hk2, hsj]; done) | (simp only [go_sem, hk2, hsj]; rfl) | rfl)
        · simp only [go_sem, hqj, hsj]
    · intro loc2
      refine AWPH.step (xc_ok (bitB 73787046665731968975) _ _ _ ?_)
      simp only [go_sem, hi, ltN' hi, n73, v3, vk, hk2, List.length_map, getD_map' _ _ _ _ hi, lvE_mk, List.take_length, htl, hrow]
      refine ⟨by rintro el rfl; rfl, lvE_len, by omega, by omega, grow_intro fun loc' => ?_⟩
      simp only [go_sem, n73, vk, hk2, hrow]
      by_cases he : stayF o ls[i] = []
      · rw [if_pos he] at hsn
        have hd0 : decide (0 < (stayF o ls[i]).length) = false := by rw [he]; rfl
        simp only [go_sem, hd0]
        refine (ih loc').back ?_ (by simp) ?_
        · ((try dsimp only); (repeat refine sub_set ?_ ?_) <;> first | ((repeat (first | exact Sub.refl _ | refine Sub.setF ?_ (by first | assumption | simp only [*]) | refine Sub.setV ?_ (by first | assumption | simp only [*]))); done) | (simp only [go_sem, n73, hk2, vk, htl1, hrow, List.length_map]; done) | (simp only [go_sem, n73, hk2, vk, htl1, hrow, List.length_map]; rfl) | rfl)
        · simp only [go_sem, hq, hsn]
      · rw [if_neg he] at hsn
        have hd0 : decide (0 < (stayF o ls[i]).length) = true := decide_eq_true (List.length_pos_iff.2 he)
        simp only [go_sem, hd0]
        refine (ih loc').back ?_ (by simp) ?_
        · ((try dsimp only); (repeat refine sub_set ?_ ?_) <;> first | ((repeat (first | exact Sub.refl _ | refine Sub.setF ?_ (by first | assumption | simp only [*]) | refine Sub.setV ?_ (by first | assumption | simp only [*]))); done) | (simp only [go_sem, n73, hk2, vk, htl1, hrow, List.length_map]; done) | (simp only [go_sem, n73, hk2, vk, htl1, hrow, List.length_map]; rfl) | rfl)
        · simp only [go_sem, hq, hsn]
  · intro loc
    refine AWPH.step (xc_ok (bitB 73787046665731968975) _ _ _ ?_)
    simp only [go_sem, n73, v3, n76, v6, List.take_length, List.length_map]
    refine ⟨lvE_len, by have := manyF_le (List.map (stayF o) ls) 0 0 (Nat.le_refl _); simpa using this, S, Sub.set (Sub.set (Sub.set vS yk _) y7 _) y6 _, ?_⟩
    simp [docD, List.map_take]
end Go.Sk
end

-- W14a
section
namespace Go.Sk
open Go Go.Proofs

def Skt.pv (s : Skt) : List PV := [.int .u64 s.win, .int .u64 s.b.late, .int .i64 s.b.room, .int .u64 s.b.mark, .int .u64 s.b.front, .sl (s.b.evs.map Event.pv), .int .i64 s.past.k, .int .i64 s.past.g, .sl (s.past.ls.map lvE)]
def Skt.av (s : Skt) : AV := .agg (s.pv.map .p)
attribute [go_sem] Skt.pv Skt.av
def Hist.Lo (h : Hist) : Prop := h.ls.length < 1048576 ∧ ∀ l ∈ h.ls, l.length < 1048576

theorem count_drop {T : Store} {c : Nat} (s : Skt) (hl : s.past.Lo) (hc : T (.r c) = some (.cells (s.pv.map .p))) :
    DefR Tryz.prog 136 [.sp c 0] T (fun T' => T' = T.set (.r c) (.cells ((Skt.mk s.win s.b (dropH (dropG (oldV s.b.front s.win)) s.past)).pv.map .p))) := by
  refine defR_of Tryz.func136 rfl (xc_ok (bitB 1) _ _ _ ?_)
  have hex := exp_Drop s.past.k s.past.g s.past.ls s.b.front s.win hl.1 hl.2
  simp only [Skt.pv, List.map_cons, List.map_nil] at hc
  simp only [go_sem]
  refine AWP.draw2 (bitB 1) mixed (by kernel_rfl) (fun j => (dropH (dropG (oldV s.b.front s.win)) s.past).av) ?_
  simp only [go_sem, hc]
  exact ⟨hex.draw, _, Sub.refl _, Or.inl rfl⟩
theorem Hist.Good.lo {h : Hist} (g : h.Good) : h.Lo := ⟨by have := g.len; omega, fun l hl => by have := g.sm l hl; have := g.k1; omega⟩
theorem passV_snoc (h : Hist) (out : List Event) (i : Nat) (hi : i < out.length) : passV h (out.take (i + 1)) = (addH (passV h (out.take i)) (out[i]).t (out[i]).w).1 := by
  unfold passV; rw [List.take_succ_eq_append_getElem hi, List.foldl_append]; rfl
set_option maxHeartbeats 1000000 in
set_option maxRecDepth 4000 in
theorem count_pass (s : Skt) (b : Buf) (out : List Event) (ho : out.length < 1048576) (hw : ∀ e ∈ out, e.w < 18446744073709551616) (hok : ∀ i, i ≤ out.length → (passV s.past (out.take i)).Good) :
    Pure Tryz.prog 75 [s.av, b.av, .p (evsP out)] (passK s b out).av := fun S => by
  refine callR_ofD Tryz.func75 rfl rfl ?_
  refine AWPD.seqN (xc_ok (bitB 491871) _ _ _ ?_)
  simp only [go_sem]
  refine alloc_intro fun c3 h3 => ?_
  simp only [go_sem]
  refine alloc_intro fun c4 h4 => ?_
  simp only [fresh_set] at h4
  simp only [go_sem, h4]
  refine alloc_intro fun c6 h6 => ?_
  simp only [fresh_set] at h6
  simp only [go_sem, h4, h6]
  refine AWPD.seqN (xc_ok (bitB 491871) _ _ _ ?_)
  simp only [go_sem, h4, h6]
  refine AWPD.seqR (AWPD.region rfl rfl rfl (enterable_of Tryz.func136 rfl rfl) rfl ⟨rfl, ?_⟩)
  refine xc_ok (bitB 491871) _ _ _ ?_
  simp only [go_sem, h4, h6, evsP, List.length_map]
  have y3 : S (.r c3) = none := h3
  have y4 : S (.r c4) = none := h4.2
  have y6 : S (.r c6) = none := h6.2.2
  refine AWP.iter (fun i => ⟨Env.get [(6, .sp c6 0), (15, .p (.sl (out.map Event.pv))), (16, i64 out.length), (17, i64 i)], S.set (.r c6) (.cells ((Skt.mk s.win b (passV s.past (out.take i))).pv.map .p)), 34, []⟩) out.length ?_ ?_ ?_
  · refine le_of (by simp only [go_sem] <;> simp) ?_ rfl rfl (by simp)
    simp only [Skt.pv, List.map_cons, List.map_nil]
    ((try dsimp only); (repeat refine sub_set ?_ ?_) <;> first | ((repeat (first | exact Sub.refl _ | refine Sub.setF ?_ (by first | assumption | simp only [*]) | refine Sub.setV ?_ (by first | assumption | simp only [*]))); done) | (simp only [go_sem, h4, h6, List.take_zero]; done) | (simp only [go_sem, h4, h6, List.take_zero]; rfl) | rfl)
    done
  · intro i hi ih
    refine AWPH.step (xc_ok (bitB 491871) _ _ _ ?_)
    simp only [go_sem, hi, ltN' hi, getD_map' _ _ _ _ hi]
    refine alloc_intro fun c8 h8 => ?_
    simp only [fresh_set] at h8
    simp only [go_sem, h8]
    refine (hist_addH (passV s.past (out.take i)) (hok i (by omega)).ok (out[i]).t (out[i]).w (hw _ (List.getElem_mem hi))).useA ?_
    have hs := passV_snoc s.past out i hi
    rw [← hs]
    simp only [go_sem, h8]
    refine ih.back ?_ (by simp) ?_
    · simp only [Skt.pv, List.map_cons, List.map_nil]
      ((try dsimp only); (repeat refine sub_set ?_ ?_) <;> first | ((repeat (first | exact Sub.refl _ | refine Sub.setF ?_ (by first | assumption | simp only [*]) | refine Sub.setV ?_ (by first | assumption | simp only [*]))); done) | (simp only [go_sem, h8]; done) | (simp only [go_sem, h8]; rfl) | rfl)
      done
    · simp only [go_sem, wi_succ (show i < 4611686018427387904 by omega)]
  · refine AWPH.step (xc_ok (bitB 491871) _ _ _ ?_)
    simp only [go_sem, List.take_length]
    have hfin := hok out.length (Nat.le_refl _)
    rw [List.take_length] at hfin
    refine (count_drop ⟨s.win, b, passV s.past out⟩ hfin.lo (by rw [Store.set_same]; rfl)).mono ?_
    rintro _ rfl
    simp only [go_sem, List.map_cons, List.map_nil]
    refine ⟨S, ?_, ?_⟩
    · repeat' first
        | exact Sub.refl _
        | refine Sub.set ?_ (by assumption) _
    · simp [passK]
end Go.Sk
end

-- W12e
section
namespace Go.Sk
open Go Go.Proofs

theorem event_eq (x y : Event) : (x.t == y.t && (x.k == y.k && x.w == y.w)) = decide (x = y) := by
  cases x; cases y
  rw [Bool.eq_iff_iff]; simp
theorem eq_events (a b : List Event) (ha : a.length < 1099511627776) : Pure Tryz.prog 137 [.p (evsP a), .p (evsP b)] (bl (decide (a = b))) := fun S => by
  refine callR_of Tryz.func137 rfl rfl (xc_ok (bitB 16806963) _ _ _ ?_)
  simp only [go_sem, evsP]
  by_cases hlen : a.length = b.length
  rotate_left
  · have hn : (a.length != b.length) = true := by simpa using hlen
    have hne : ¬ a = b := fun e => hlen (by rw [e])
    simp only [go_sem, hn]
    (refine ⟨S, by (repeat (first | exact Sub.refl _ | refine Sub.setF ?_ (by first | assumption | simp only [*]) | refine Sub.setV ?_ (by first | assumption | simp only [*]))), ?_⟩); simp [hne]
  · have hn : (a.length != b.length) = false := by simpa using hlen
    simp only [go_sem, hn]
    refine AWP.roam (fun i : Nat => i ≤ a.length ∧ ∀ j, j < i → ∀ (h1 : j < a.length) (h2 : j < b.length), a[j] = b[j]) (fun i => ⟨Env.get [(0, .p (.sl (a.map Event.pv))), (1, .p (.sl (b.map Event.pv))), (12, i64 a.length), (13, i64 i)], S, 26, []⟩) (fun i => a.length - i) 0 ⟨by omega, fun j h => by omega⟩ ?_ ?_
    · exact le_of (by simp only [go_sem]; simp) (Sub.refl _) rfl rfl (by simp)
    · rintro i ⟨hi, hall⟩ ih
      refine AWPH.step (xc_ok (bitB 16806963) _ _ _ ?_)
      by_cases h : i < a.length
      · have hb : i < b.length := by omega
        simp only [go_sem, h, hb, ltN' h, ltN' hb, getD_map' _ _ _ _ h, getD_map' _ _ _ _ hb]
        refine AWP.draw2 (bitB 16806963) mixed (by kernel_rfl) (fun j => bl false) ?_
        simp only [go_sem, h, hb, ltN' h, ltN' hb, getD_map' _ _ _ _ h, getD_map' _ _ _ _ hb, event_eq]
        by_cases hq : a[i] = b[i]
        · simp only [go_sem, hq, Bool.not_true]
          refine (ih (i + 1) ⟨h, all_step hall fun _ _ => hq⟩ (by omega)).back (by (repeat (first | exact Sub.refl _ | refine Sub.setF ?_ (by first | assumption | simp only [*]) | refine Sub.setV ?_ (by first | assumption | simp only [*])))) (by simp) ?_
          simp only [go_sem, wi_succ (show i < 4611686018427387904 by omega)]
        · simp only [go_sem, hq, Bool.not_false]
          (refine ⟨S, by (repeat (first | exact Sub.refl _ | refine Sub.setF ?_ (by first | assumption | simp only [*]) | refine Sub.setV ?_ (by first | assumption | simp only [*]))), ?_⟩)
          have hne : ¬ a = b := by rintro rfl; exact hq rfl
          simp [hne]
      · obtain rfl : i = a.length := by omega
        simp only [go_sem]
        (refine ⟨S, by (repeat (first | exact Sub.refl _ | refine Sub.setF ?_ (by first | assumption | simp only [*]) | refine Sub.setV ?_ (by first | assumption | simp only [*]))), ?_⟩)
        have : a = b := eq_of_all hlen fun j h1 h2 => hall j h1 h1 h2
        simp [this]

set_option maxRecDepth 16000 in
set_option maxHeartbeats 1000000 in
theorem buf_Same (a b : Buf) (ha : a.evs.length < 1099511627776) : Pure Tryz.prog 76 [a.av, b.av] (bl (decide (a = b))) := fun S => by
  obtain ⟨l1, r1, m1, f1, e1⟩ := a
  obtain ⟨l2, r2, m2, f2, e2⟩ := b
  dsimp only at ha
  refine callR_of Tryz.func76 rfl rfl (xc_ok (bitB 63) _ _ _ ?_)
  simp only [go_sem]
  refine alloc_intro fun c2 h2 => ?_
  simp only [go_sem]
  refine alloc_intro fun c3 h3 => ?_
  simp only [fresh_set] at h3
  by_cases q1 : l1 = l2
  rotate_left
  · have g1 : (l1 == l2) = false := by simpa using q1
    simp only [go_sem, h3, g1]
    (refine ⟨S, by (repeat (first | exact Sub.refl _ | refine Sub.setF ?_ (by first | assumption | simp only [*]) | refine Sub.setV ?_ (by first | assumption | simp only [*]))), ?_⟩); simp [q1]
  have g1 : (l1 == l2) = true := by simpa using q1
  by_cases q2 : m1 = m2
  rotate_left
  · have g2 : (m1 == m2) = false := by simpa using q2
    simp only [go_sem, h3, g1, g2]
    (refine ⟨S, by (repeat (first | exact Sub.refl _ | refine Sub.setF ?_ (by first | assumption | simp only [*]) | refine Sub.setV ?_ (by first | assumption | simp only [*]))), ?_⟩); simp [q2]
  have g2 : (m1 == m2) = true := by simpa using q2
  by_cases q3 : f1 = f2
  rotate_left
  · have g3 : (f1 == f2) = false := by simpa using q3
    simp only [go_sem, h3, g1, g2, g3]
    (refine ⟨S, by (repeat (first | exact Sub.refl _ | refine Sub.setF ?_ (by first | assumption | simp only [*]) | refine Sub.setV ?_ (by first | assumption | simp only [*]))), ?_⟩); simp [q3]
  have g3 : (f1 == f2) = true := by simpa using q3
  by_cases q4 : r1 = r2
  rotate_left
  · have g4 : (r1 == r2) = false := by simpa using q4
    simp only [go_sem, h3, g1, g2, g3, g4]
    (refine ⟨S, by (repeat (first | exact Sub.refl _ | refine Sub.setF ?_ (by first | assumption | simp only [*]) | refine Sub.setV ?_ (by first | assumption | simp only [*]))), ?_⟩); simp [q4]
  have g4 : (r1 == r2) = true := by simpa using q4
  simp only [go_sem, h3, g1, g2, g3, g4]
  refine (eq_events e1 e2 ha).useA ?_
  simp only [go_sem, h3]
  (refine ⟨S, by (repeat (first | exact Sub.refl _ | refine Sub.setF ?_ (by first | assumption | simp only [*]) | refine Sub.setV ?_ (by first | assumption | simp only [*]))), ?_⟩); simp [q1, q2, q3, q4]
theorem ref12_Weight (b : Buf) (hl : b.evs.length < 4611686018427387904) : Pure Tryz.prog 33 [b.av] (u64 (sumV (fun _ => true) Event.w 0 b.evs)) := fun S => by
  refine callR_of Tryz.func33 rfl rfl (xc_ok (bitB 543) _ _ _ ?_)
  simp only [go_sem]
  refine alloc_intro fun c1 h1 => ?_
  simp only [go_sem]
  refine AWP.iter (fun i => ⟨Env.get [(1, .sp c1 0), (3, u64 (sumV (fun _ => true) Event.w 0 (b.evs.take i))), (4, i64 i)], S.set (.r c1) (.cells [u64 b.late, i64 b.room, u64 b.mark, u64 b.front, .p (.sl (b.evs.map Event.pv))]), 21, []⟩) b.evs.length ?_ ?_ ?_
  · exact le_of (by simp only [go_sem, List.take_zero] <;> simp [sumV]) (Sub.refl _) rfl rfl (by simp)
  · intro i hi ih
    refine AWPH.step (xc_ok (bitB 543) _ _ _ ?_)
    simp only [go_sem, hi, ltN' hi, getD_map' _ _ _ _ hi, List.length_map]
    refine ih.back (Sub.refl _) (by simp) ?_
    simp only [go_sem, sumV_snoc _ _ 0 b.evs i hi, wi_succ (show i < 4611686018427387904 by omega)]
  · refine AWPH.step (xc_ok (bitB 543) _ _ _ ?_)
    simp only [go_sem, List.take_length, List.length_map]
    (refine ⟨S, by (repeat (first | exact Sub.refl _ | refine Sub.setF ?_ (by first | assumption | simp only [*]) | refine Sub.setV ?_ (by first | assumption | simp only [*]))), ?_⟩); simp
end Go.Sk
end

-- W12d
section
namespace Go.Sk
open Go Go.Proofs

theorem insL (l : List Event) (e : Event) : [l.take (belowN e.t l), [e], l.drop (belowN e.t l)].flatten = insE l e := by
  unfold insE; simp
theorem insL_sum (l : List Event) (e : Event) : sumL [l.take (belowN e.t l), [e], l.drop (belowN e.t l)] = l.length + 1 := by
  have := belowN_le e.t l
  simp [sumL]; omega
set_option maxHeartbeats 1000000 in
set_option maxRecDepth 4000 in
theorem buf_Push (b : Buf) (hb : b.Sz) (hn : b.evs.length < 1048576) (e : Event) : Pure Tryz.prog 72 [b.av, e.av] (.tuple [(pushB b e).1.1.av, .p (evsP (pushB b e).1.2), i64 (pushB b e).2]) := fun S => by
  have hm := hb.m
  have hr := hb.r
  refine callR_of Tryz.func72 rfl rfl (xc_ok (bitB 1083391) _ _ _ ?_)
  simp only [go_sem]
  refine alloc_intro fun c2 h2 => ?_
  simp only [go_sem]
  refine alloc_intro fun c3 h3 => ?_
  simp only [fresh_set] at h3
  simp only [go_sem, h3]
  refine alloc_intro fun c4 h4 => ?_
  simp only [fresh_set] at h4
  have y2 : S (.r c2) = none := h2
  have y3 : S (.r c3) = none := h3.2
  have y4 : S (.r c4) = none := h4.2.2
  by_cases c1 : e.w = 0
  · have q1 : (e.w == 0) = true := by simpa using c1
    simp only [go_sem, q1, h3, h4]
    (refine ⟨S, by (repeat (first | exact Sub.refl _ | refine Sub.setF ?_ (by first | assumption | simp only [*]) | refine Sub.setV ?_ (by first | assumption | simp only [*]))), ?_⟩); simp [pushB, c1, zeroB, evsP]
  have q1 : (e.w == 0) = false := by simpa using c1
  by_cases c2' : 9223372036854775807 < e.t
  · simp only [go_sem, q1, c2', h3, h4]
    (refine ⟨S, by (repeat (first | exact Sub.refl _ | refine Sub.setF ?_ (by first | assumption | simp only [*]) | refine Sub.setV ?_ (by first | assumption | simp only [*]))), ?_⟩); simp [pushB, c1, c2', zeroB, evsP]
  by_cases c3' : e.t < b.front
  · simp only [go_sem, q1, c2', c3', h3, h4]
    (refine ⟨S, by (repeat (first | exact Sub.refl _ | refine Sub.setF ?_ (by first | assumption | simp only [*]) | refine Sub.setV ?_ (by first | assumption | simp only [*]))), ?_⟩); simp [pushB, c1, c2', c3', zeroB, evsP]
  have hres : pushB b e = (settleB ⟨b.late, b.room, max b.mark e.t, b.front, insE b.evs e⟩, 0) := by unfold pushB; rw [if_neg c1, if_neg c2', if_neg c3']
  rw [hres]
  have hst := buf_settle ⟨b.late, b.room, max b.mark e.t, b.front, insE b.evs e⟩ ⟨hr, by dsimp only; omega, by
    dsimp only
    have := insL_sum b.evs e
    rw [← sumL_flat, insL] at this; omega⟩
  generalize settleB ⟨b.late, b.room, max b.mark e.t, b.front, insE b.evs e⟩ = R at *
  simp only [go_sem, q1, c2', c3', h3, h4]
  refine (below b e.t (by omega)).useA ?_
  have hle := belowN_le e.t b.evs
  simp only [go_sem, h3, h4]
  refine (latest_two b.mark e.t).useA ?_
  simp only [go_sem, h3, h4]
  have e5 : List.take (belowN e.t b.evs - 0) (List.map Event.pv b.evs) = List.map Event.pv (b.evs.take (belowN e.t b.evs)) := by rw [Nat.sub_zero, List.map_take]
  have e6 : List.take (b.evs.length - belowN e.t b.evs) (List.drop (belowN e.t b.evs) (List.map Event.pv b.evs)) = List.map Event.pv (b.evs.drop (belowN e.t b.evs)) := by
    rw [← List.map_drop]; exact List.take_of_length_le (by simp)
  have hcon := concat_ev [b.evs.take (belowN e.t b.evs), [e], b.evs.drop (belowN e.t b.evs)] (by rw [insL_sum]; omega) (by rw [insL_sum]; omega) (by simp)
  rw [insL] at hcon
  refine AWP.draw2 (bitB 1083391) mixed (by kernel_rfl) (fun j => .p (evsP (insE b.evs e))) ?_
  simp only [go_sem, h3, h4, e5, e6, List.length_map, evsP]
  refine ⟨evn_len, hle, evn_len, hle, hcon.draw, ?_⟩
  refine hst.useA ?_
  simp only [go_sem, h3, h4]
  refine alloc_intro fun c8 h8 => ?_
  simp only [fresh_set] at h8
  simp only [go_sem, h3, h4, h8]
  have y8 : S (.r c8) = none := h8.2.2.2.2
  refine ⟨S, ?_, ?_⟩
  · repeat' first
      | exact Sub.refl _
      | refine Sub.set ?_ (by assumption) _
  · simp [evsP]
set_option maxHeartbeats 1000000 in
set_option maxRecDepth 4000 in
theorem buf_Move (b : Buf) (hb : b.Sz) (t : Nat) : Pure Tryz.prog 93 [b.av, u64 t] (.tuple [(moveB b t).1.1.av, .p (evsP (moveB b t).1.2), i64 (moveB b t).2]) := fun S => by
  have hm := hb.m
  have hr := hb.r
  have hn := hb.n
  refine callR_of Tryz.func93 rfl rfl (xc_ok (bitB 1527) _ _ _ ?_)
  simp only [go_sem]
  refine alloc_intro fun c2 h2 => ?_
  simp only [go_sem]
  refine alloc_intro fun c4 h4 => ?_
  simp only [fresh_set] at h4
  have y2 : S (.r c2) = none := h2
  have y4 : S (.r c4) = none := h4.2
  by_cases c1 : 9223372036854775807 < t
  · simp only [go_sem, c1, h4]
    (refine ⟨S, by (repeat (first | exact Sub.refl _ | refine Sub.setF ?_ (by first | assumption | simp only [*]) | refine Sub.setV ?_ (by first | assumption | simp only [*]))), ?_⟩); simp [moveB, c1, zeroB, evsP]
  have hres : moveB b t = (settleB ⟨b.late, b.room, max b.mark t, b.front, b.evs⟩, 0) := by unfold moveB; rw [if_neg c1]
  rw [hres]
  have hst := buf_settle ⟨b.late, b.room, max b.mark t, b.front, b.evs⟩ ⟨hr, by dsimp only; omega, hn⟩
  generalize settleB ⟨b.late, b.room, max b.mark t, b.front, b.evs⟩ = R at *
  simp only [go_sem, c1, h4]
  refine (latest_two b.mark t).useA ?_
  simp only [go_sem, h4]
  refine (clone_ev b.evs (by omega)).useA ?_
  simp only [go_sem, h4]
  refine hst.useA ?_
  simp only [go_sem, h4]
  refine alloc_intro fun c7 h7 => ?_
  simp only [fresh_set] at h7
  simp only [go_sem, h4, h7]
  have y7 : S (.r c7) = none := h7.2.2.2
  refine ⟨S, ?_, ?_⟩
  · repeat' first
      | exact Sub.refl _
      | refine Sub.set ?_ (by assumption) _
  · simp [evsP]
end Go.Sk
end

-- W13
section
namespace Go.Sk
open Go Go.Proofs

theorem scan_within1 {S : Store} {b1 b2 : Nat} (tick span : Nat) (e : Event) (h1 : S (.r b1) = some (.cells [u64 tick])) (h2 : S (.r b2) = some (.cells [u64 span])) :
    CallR Tryz.prog 164 [e.av, .sp b1 0, .sp b2 0] S (fun r S' => r = bl (withinV tick span e) ∧ S' = S) := by
  refine callR_of Tryz.func164 rfl rfl (xc_ok (bitB 31) _ _ _ ?_)
  simp only [go_sem]
  refine alloc_intro fun b hb => ?_
  have n1 := hb.ne h1; have n2 := hb.ne h2
  simp only [go_sem, h1, h2, n1, n2]
  (first | refine dec_split (fun hc => ?_) (fun hc => ?_) | refine gdd_split (fun hc => ?_) (fun hc => ?_) | refine bool_split (fun hc => ?_) (fun hc => ?_) | refine gd_split (fun hc => ?_) (fun hc => ?_)) <;> simp only [go_sem, h1, h2, n1, n2]
  · (first | refine dec_split (fun hd => ?_) (fun hd => ?_) | refine gdd_split (fun hd => ?_) (fun hd => ?_) | refine bool_split (fun hd => ?_) (fun hd => ?_) | refine gd_split (fun hd => ?_) (fun hd => ?_)) <;> simp only [go_sem, h1, h2, n1, n2]
    · (refine ⟨S, by (repeat (first | exact Sub.refl _ | refine Sub.setF ?_ (by first | assumption | simp only [*]) | refine Sub.setV ?_ (by first | assumption | simp only [*]))), ?_⟩); simp [withinV, hc, hd]
    · (refine ⟨S, by (repeat (first | exact Sub.refl _ | refine Sub.setF ?_ (by first | assumption | simp only [*]) | refine Sub.setV ?_ (by first | assumption | simp only [*]))), ?_⟩); simp [withinV, hc, hd]
  · (refine ⟨S, by (repeat (first | exact Sub.refl _ | refine Sub.setF ?_ (by first | assumption | simp only [*]) | refine Sub.setV ?_ (by first | assumption | simp only [*]))), ?_⟩); simp [withinV, hc]

theorem scan_weight (e : Event) : Pure Tryz.prog 106 [e.av] (u64 e.w) := fun S => by
  refine callR_of Tryz.func106 rfl rfl (xc_ok (bitB 7) _ _ _ ?_)
  simp only [go_sem]
  refine alloc_intro fun b hb => ?_
  simp only [go_sem]
  (refine ⟨S, by (repeat (first | exact Sub.refl _ | refine Sub.setF ?_ (by first | assumption | simp only [*]) | refine Sub.setV ?_ (by first | assumption | simp only [*]))), ?_⟩); simp

theorem scan_within (t s : Nat) (S : Store) : CallR Tryz.prog 105 [u64 t, u64 s] S (fun r S' => ∃ b1 b2, Fresh S b1 ∧ Fresh S b2 ∧ (¬ b1 = b2 ∧ ¬ b2 = b1) ∧ r = .fn (.func 164) [] [.sp b1 0, .sp b2 0] ∧ S' = (S.set (.r b1) (.cells [u64 t])).set (.r b2) (.cells [u64 s])) := by
  refine callR_of Tryz.func105 rfl rfl (xc_ok (bitB 31) _ _ _ ?_)
  simp only [go_sem]
  refine alloc_intro fun b hb => ?_
  simp only [go_sem]
  refine alloc_intro fun b' hb' => ?_
  simp only [fresh_set] at hb'
  simp only [go_sem, hb']
  exact ⟨_, Sub.refl _, Or.inl ⟨b, b', hb, hb'.2, ⟨hb'.1.2, hb'.1.1⟩, rfl, rfl⟩⟩

theorem scan_sum {S : Store} (l : List Event) (f g : AV) (p : Event → Bool) (q : Event → Nat) (hl : l.length < 4611686018427387904) (hf : ∀ e ∈ l, PureF Tryz.prog S f [e.av] (bl (p e))) (hg : ∀ e ∈ l, PureF Tryz.prog S g [e.av] (u64 (q e))) :
    CallR Tryz.prog 104 [.p (evsP l), f, g] S (fun r S' => r = u64 (sumV p q 0 l) ∧ S' = S) := by
  refine callR_of Tryz.func104 rfl rfl (xc_ok (bitB 278215) _ _ _ ?_)
  simp only [go_sem, evsP]
  refine AWP.iter (fun i => ⟨Env.get [(1, f), (2, g), (7, u64 (sumV p q 0 (l.take i))), (10, .p (.sl (l.map Event.pv))), (11, i64 l.length), (12, i64 i)], S, 26, []⟩) l.length ?_ ?_ ?_
  · exact le_of (by simp only [go_sem]; simp [sumV]) (Sub.refl _) rfl rfl (by simp)
  · intro i hi ih
    have hm := List.getElem_mem hi
    refine AWPH.step (xc_ok (bitB 278215) _ _ _ ?_)
    simp only [go_sem, hi, ltN' hi, getD_map' _ _ _ _ hi]
    refine alloc_intro fun b hb => ?_
    simp only [go_sem]
    have hm0 := hf _ hm
    cases hp : p l[i]
    · refine hm0.useA rfl (by (repeat (first | exact KeepAll.refl _ | refine KeepAll.setF ?_ (by first | assumption | simp only [*]) | refine KeepAll.setV ?_ (by first | assumption | simp only [*])))) ?_
      simp only [go_sem, hp]
      refine ih.back (by (repeat (first | exact Sub.refl _ | refine Sub.setF ?_ (by first | assumption | simp only [*]) | refine Sub.setV ?_ (by first | assumption | simp only [*])))) (by simp) ?_
      simp only [go_sem, sumV_snoc p q 0 l i hi, hp, wi_succ (show i < 4611686018427387904 by omega)]
    · refine hm0.useA rfl (by (repeat (first | exact KeepAll.refl _ | refine KeepAll.setF ?_ (by first | assumption | simp only [*]) | refine KeepAll.setV ?_ (by first | assumption | simp only [*])))) ?_
      simp only [go_sem, hp]
      refine (hg _ hm).useA rfl (by (repeat (first | exact KeepAll.refl _ | refine KeepAll.setF ?_ (by first | assumption | simp only [*]) | refine KeepAll.setV ?_ (by first | assumption | simp only [*])))) ?_
      simp only [go_sem]
      refine ih.back (by (repeat (first | exact Sub.refl _ | refine Sub.setF ?_ (by first | assumption | simp only [*]) | refine Sub.setV ?_ (by first | assumption | simp only [*])))) (by simp) ?_
      simp only [go_sem, sumV_snoc p q 0 l i hi, hp, wi_succ (show i < 4611686018427387904 by omega)]
  · refine AWPH.step (xc_ok (bitB 278215) _ _ _ ?_)
    simp only [go_sem, List.take_length]
    (refine ⟨S, by (repeat (first | exact Sub.refl _ | refine Sub.setF ?_ (by first | assumption | simp only [*]) | refine Sub.setV ?_ (by first | assumption | simp only [*]))), ?_⟩); simp
end Go.Sk
end

-- W13w
section
namespace Go.Sk
open Go Go.Proofs

theorem ref13_Within (tick span : Nat) (e : Event) : Pure Tryz.prog 42 [e.av, u64 tick, u64 span] (bl (withinV tick span e)) := fun S => by
  refine callR_of Tryz.func42 rfl rfl (xc_ok (bitB 79) _ _ _ ?_)
  simp only [go_sem]
  refine alloc_intro fun b hb => ?_
  simp only [go_sem]
  (first | refine dec_split (fun hc => ?_) (fun hc => ?_) | refine gdd_split (fun hc => ?_) (fun hc => ?_) | refine bool_split (fun hc => ?_) (fun hc => ?_) | refine gd_split (fun hc => ?_) (fun hc => ?_)) <;> simp only [go_sem]
  · (first | refine dec_split (fun hd => ?_) (fun hd => ?_) | refine gdd_split (fun hd => ?_) (fun hd => ?_) | refine bool_split (fun hd => ?_) (fun hd => ?_) | refine gd_split (fun hd => ?_) (fun hd => ?_)) <;> simp only [go_sem]
    · (refine ⟨S, by (repeat (first | exact Sub.refl _ | refine Sub.setF ?_ (by first | assumption | simp only [*]) | refine Sub.setV ?_ (by first | assumption | simp only [*]))), ?_⟩); simp [withinV, hc, hd]
    · (refine ⟨S, by (repeat (first | exact Sub.refl _ | refine Sub.setF ?_ (by first | assumption | simp only [*]) | refine Sub.setV ?_ (by first | assumption | simp only [*]))), ?_⟩); simp [withinV, hc, hd]
  · (refine ⟨S, by (repeat (first | exact Sub.refl _ | refine Sub.setF ?_ (by first | assumption | simp only [*]) | refine Sub.setV ?_ (by first | assumption | simp only [*]))), ?_⟩); simp [withinV, hc]

end Go.Sk
end

-- W13s
section
namespace Go.Sk
open Go Go.Proofs

theorem within_pf {S : Store} {b1 b2 : Nat} (tick span : Nat) (e : Event) (h1 : S (.r b1) = some (.cells [u64 tick])) (h2 : S (.r b2) = some (.cells [u64 span])) :
    PureF Tryz.prog S (.fn (.func 164) [] [.sp b1 0, .sp b2 0]) [e.av] (bl (withinV tick span e)) :=
  fun _ hS => FunR.of_call (scan_within1 tick span e (hS.get h1) (hS.get h2))
theorem weight_pf (S : Store) (e : Event) : PureF Tryz.prog S (.fn (.func 106) [] []) [e.av] (u64 e.w) :=
  fun S' _ => FunR.of_call (scan_weight e S')

theorem scan_Sum (l : List Event) (tick span : Nat) (hl : l.length < 4611686018427387904) : Pure Tryz.prog 41 [.p (evsP l), u64 tick, u64 span] (u64 (spanV l tick span)) := fun S => by
  refine callR_of Tryz.func41 rfl rfl (xc_ok (bitB 71) _ _ _ ?_)
  simp only [go_sem]
  refine (scan_within tick span S).useA ?_
  rintro _ _ ⟨b1, b2, f1, f2, ⟨n1, n2⟩, rfl, rfl⟩
  simp only [go_sem]
  refine (scan_sum l _ _ (withinV tick span) Event.w hl (fun e _ => within_pf tick span e (b1 := b1) (b2 := b2) (by simp [Store.set, n1]) (by simp [Store.set])) (fun e _ => weight_pf _ e)).useA ?_
  rintro _ _ ⟨rfl, rfl⟩
  simp only [go_sem]
  (refine ⟨S, by (repeat (first | exact Sub.refl _ | refine Sub.setF ?_ (by first | assumption | simp only [*]) | refine Sub.setV ?_ (by first | assumption | simp only [*]))), ?_⟩); simp [spanV]

theorem ref13_Sum (l : List Event) (tick span : Nat) (hl : l.length < 4611686018427387904) : Pure Tryz.prog 14 [.p (evsP l), u64 tick, u64 span] (u64 (spanV l tick span)) := fun S => by
  refine callR_of Tryz.func14 rfl rfl (xc_ok (bitB 2101703) _ _ _ ?_)
  simp only [go_sem, evsP]
  refine AWP.iter (fun i => ⟨Env.get [(0, .p (.sl (l.map Event.pv))), (1, u64 tick), (2, u64 span), (7, u64 (spanV (l.take i) tick span)), (8, i64 i)], S, 30, []⟩) l.length ?_ ?_ ?_
  · exact le_of (by simp only [go_sem]; simp [spanV, sumV]) (Sub.refl _) rfl rfl (by simp)
  · intro i hi ih
    refine AWPH.step (xc_ok (bitB 2101703) _ _ _ ?_)
    simp only [go_sem, hi, ltN' hi, getD_map' _ _ _ _ hi]
    refine (ref13_Within tick span l[i]).useA ?_
    cases hp : withinV tick span l[i]
    · simp only [go_sem]
      refine ih.back (by (repeat (first | exact Sub.refl _ | refine Sub.setF ?_ (by first | assumption | simp only [*]) | refine Sub.setV ?_ (by first | assumption | simp only [*])))) (by simp) ?_
      simp only [go_sem, spanV, sumV_snoc _ _ 0 l i hi, hp, wi_succ (show i < 4611686018427387904 by omega)]
    · simp only [go_sem, hi, ltN' hi, getD_map' _ _ _ _ hi]
      refine ih.back (by (repeat (first | exact Sub.refl _ | refine Sub.setF ?_ (by first | assumption | simp only [*]) | refine Sub.setV ?_ (by first | assumption | simp only [*])))) (by simp) ?_
      simp only [go_sem, spanV, sumV_snoc _ _ 0 l i hi, hp, wi_succ (show i < 4611686018427387904 by omega)]
  · refine AWPH.step (xc_ok (bitB 2101703) _ _ _ ?_)
    simp only [go_sem, List.take_length]
    (refine ⟨S, by (repeat (first | exact Sub.refl _ | refine Sub.setF ?_ (by first | assumption | simp only [*]) | refine Sub.setV ?_ (by first | assumption | simp only [*]))), ?_⟩); simp

end Go.Sk
end

-- W14b
section
namespace Go.Sk
open Go Go.Proofs

theorem Skt.Good.sz {s : Skt} (hg : s.Good) : s.b.Sz ∧ s.b.evs.length < 1048576 := ⟨⟨by have := hg.r1; omega, by have := hg.mkk; omega, by have := hg.len; have := hg.r2; omega⟩, by have := hg.len; have := hg.r2; omega⟩
theorem count_rooms (l : List Nat) (hn : l.length < 1048576) : Pure Tryz.prog 29 [.p (.sl (l.map nE))] (bl (decide (l.sum ≤ 4503599627370496))) := fun S => by
  refine callR_of Tryz.func29 rfl rfl (xc_ok (bitB 17389) _ _ _ ?_)
  simp only [go_sem]
  refine AWP.roam (ι := Nat) (fun i => i ≤ l.length ∧ (l.take i).sum ≤ 4503599627370496)
    (fun i => ⟨Env.get [(3, u64 (4503599627370496 - (l.take i).sum)), (6, .p (.sl (l.map nE))), (7, i64 l.length), (8, i64 i)], S, 19, []⟩) (fun i => l.length - i) 0 ⟨Nat.zero_le _, by simp⟩ ?_ ?_
  · exact le_of (by simp only [go_sem, List.length_map] <;> simp) (Sub.refl _) rfl rfl (by simp)
  · intro i ⟨hi, hsum⟩ ih
    refine AWPH.step (xc_ok (bitB 17389) _ _ _ ?_)
    have hdr : l.sum = (l.take i).sum + (l.drop i).sum := by conv => lhs; rw [← List.take_append_drop i l, List.sum_append]
    by_cases c : i < l.length
    · have hd2 : (l.drop i).sum = l[i] + (l.drop (i + 1)).sum := by rw [List.drop_eq_getElem_cons c, List.sum_cons]
      have ht2 : (l.take (i + 1)).sum = (l.take i).sum + l[i] := by rw [List.take_succ_eq_append_getElem c, List.sum_append]; simp
      by_cases hc : 4503599627370496 - (l.take i).sum < l[i]
      · simp only [go_sem, c, ltN' c, getD_map' _ _ _ _ c, nE, List.length_map, hc]
        (refine ⟨S, by (repeat (first | exact Sub.refl _ | refine Sub.setF ?_ (by first | assumption | simp only [*]) | refine Sub.setV ?_ (by first | assumption | simp only [*]))), ?_⟩); simp; omega
      · have hsb : sub64 (4503599627370496 - (l.take i).sum) l[i] = 4503599627370496 - (l.take (i + 1)).sum := by rw [sub64_le (by omega) (by omega)]; omega
        simp only [go_sem, c, ltN' c, getD_map' _ _ _ _ c, nE, List.length_map, hc, hsb]
        refine (ih (i + 1) ⟨c, by omega⟩ (by omega)).back (Sub.refl _) (by simp) ?_
        simp only [go_sem, nE, List.length_map, wi_succ (show i < 4611686018427387904 by omega)]
    · obtain rfl : i = l.length := by omega
      rw [List.take_length] at hsum
      simp only [go_sem, c, List.length_map]
      (refine ⟨S, by (repeat (first | exact Sub.refl _ | refine Sub.setF ?_ (by first | assumption | simp only [*]) | refine Sub.setV ?_ (by first | assumption | simp only [*]))), ?_⟩); simp [hsum]
theorem count_room (a b c : Nat) (ha : a < 18446744073709551616) (hb : b < 18446744073709551616) (hc : c < 18446744073709551616) : Pure Tryz.prog 29 [.p (.sl [[.int .u64 a], [.int .u64 b], [.int .u64 c]])] (bl (decide (a + b + c ≤ 4503599627370496))) := by
  have h := count_rooms [a, b, c] (by simp)
  have e : ([a, b, c] : List Nat).sum = a + b + c := by simp; omega
  rw [e] at h
  exact h


set_option maxHeartbeats 1000000 in
set_option maxRecDepth 4000 in
theorem count_Add (s : Skt) (hg : s.Good) (e : Event) (he : e.Ok) : Pure Tryz.prog 24 [s.av, e.av] (.tuple [(addK s e).1.av, i64 (addK s e).2]) := fun S => by
  obtain ⟨hz, hn⟩ := hg.sz
  obtain ⟨w1, w2⟩ := hg.wt
  have htot := hg.tot
  refine callR_of Tryz.func24 rfl rfl (xc_ok (bitB 4325887) _ _ _ ?_)
  simp only [go_sem]
  refine alloc_intro fun c2 h2 => ?_
  simp only [go_sem]
  refine alloc_intro fun c3 h3 => ?_
  simp only [fresh_set] at h3
  simp only [go_sem, h3]
  refine alloc_intro fun c4 h4 => ?_
  simp only [fresh_set] at h4
  simp only [go_sem, h3, h4]
  refine (buf_Push s.b hz hn e).useA ?_
  have hpre := push_pre hg e
  have hres : addK s e = if (pushB s.b e).2 = 0 then (if 4503599627370496 < totN 0 s.past.ls + sumE Event.w s.b.evs + e.w then (zeroK, 5) else (passK s (pushB s.b e).1.1 (pushB s.b e).1.2, 0)) else (zeroK, (pushB s.b e).2) := rfl
  rw [hres]
  generalize pushB s.b e = R at *
  obtain ⟨⟨b', out⟩, bad⟩ := R
  dsimp only at hpre ⊢
  simp only [go_sem, h3, h4]
  refine alloc_intro fun c6 h6 => ?_
  simp only [fresh_set] at h6
  have y2 : S (.r c2) = none := h2
  have y3 : S (.r c3) = none := h3.2
  have y4 : S (.r c4) = none := h4.2.2
  have y6 : S (.r c6) = none := h6.2.2.2
  by_cases h0 : bad = 0
  rotate_left
  · have h0b : (bad != 0) = true := by simpa using h0
    simp only [go_sem, h3, h4, h6, h0b]
    refine ⟨S, ?_, ?_⟩
    · repeat' first
        | exact Sub.refl _
        | refine Sub.set ?_ (by assumption) _
    · rw [if_neg h0]; simp [zeroK, zeroB, zeroH]
  have h0b : (bad != 0) = false := by simpa using h0
  simp only [go_sem, h3, h4, h6, h0b]
  have hroom := count_room (totN 0 s.past.ls) (sumE Event.w s.b.evs) e.w (by omega) (by omega) he.w
  have hT := hist_Total s.past.k s.past.g s.past.ls (by have := hg.pg.len; omega)
  have hW := buf_Weight s.b (by omega)
  rw [w1] at hT
  rw [w2] at hW
  have zk : zeroK.av = .agg [u64 0, u64 0, i64 0, u64 0, u64 0, .p (.sl []), i64 0, i64 0, .p (.sl [])] := rfl
  by_cases hh : 4503599627370496 < totN 0 s.past.ls + sumE Event.w s.b.evs + e.w
  · rw [decide_eq_false (by omega)] at hroom
    refine AWP.draw2 (bitB 4325887) mixed (by kernel_rfl) (fun j => if j = 2 then u64 (totN 0 s.past.ls) else if j = 5 then u64 (sumE Event.w s.b.evs) else bl false) ?_
    simp only [go_sem, h3, h4, h6]
    refine ⟨hT.draw, hW.draw, hroom.draw, S, ?_, ?_⟩
    · repeat' first
        | exact Sub.refl _
        | refine Sub.set ?_ (by assumption) _
    · rw [if_pos h0, if_pos hh]; simp [zeroK, zeroB, zeroH]
  · rw [decide_eq_true (by omega)] at hroom
    have hp := hpre h0 hh
    refine AWP.draw2 (bitB 4325887) mixed (by kernel_rfl) (fun j => if j = 2 then u64 (totN 0 s.past.ls) else if j = 5 then u64 (sumE Event.w s.b.evs) else bl true) ?_
    simp only [go_sem, h3, h4, h6]
    refine ⟨hT.draw, hW.draw, hroom.draw, ?_⟩
    refine (count_pass s b' out hp.len hp.w hp.good).useA ?_
    simp only [go_sem, h3, h4, h6]
    refine ⟨S, ?_, ?_⟩
    · repeat' first
        | exact Sub.refl _
        | refine Sub.set ?_ (by assumption) _
    · rw [if_pos h0, if_neg hh]; simp
set_option maxHeartbeats 1000000 in
set_option maxRecDepth 4000 in
theorem count_MoveP (s : Skt) (hz : s.b.Sz) (t : Nat) (hpre : (moveB s.b t).2 = 0 → Pre s (moveB s.b t).1.2) : Pure Tryz.prog 32 [s.av, u64 t] (.tuple [(moveK s t).1.av, i64 (moveK s t).2]) := fun S => by
  refine callR_of Tryz.func32 rfl rfl (xc_ok (bitB 262647) _ _ _ ?_)
  simp only [go_sem]
  refine alloc_intro fun c2 h2 => ?_
  simp only [go_sem]
  refine alloc_intro fun c4 h4 => ?_
  simp only [fresh_set] at h4
  simp only [go_sem, h4]
  refine (buf_Move s.b hz t).useA ?_
  have hres : moveK s t = if (moveB s.b t).2 = 0 then (passK s (moveB s.b t).1.1 (moveB s.b t).1.2, 0) else (zeroK, (moveB s.b t).2) := rfl
  rw [hres]
  generalize moveB s.b t = R at *
  obtain ⟨⟨b', out⟩, bad⟩ := R
  dsimp only at hpre ⊢
  simp only [go_sem, h4]
  refine alloc_intro fun c6 h6 => ?_
  simp only [fresh_set] at h6
  have y2 : S (.r c2) = none := h2
  have y4 : S (.r c4) = none := h4.2
  have y6 : S (.r c6) = none := h6.2.2
  by_cases h0 : bad = 0
  rotate_left
  · have h0b : (bad != 0) = true := by simpa using h0
    simp only [go_sem, h4, h6, h0b]
    refine ⟨S, ?_, ?_⟩
    · repeat' first
        | exact Sub.refl _
        | refine Sub.set ?_ (by assumption) _
    · rw [if_neg h0]; simp [zeroK, zeroB, zeroH]
  have h0b : (bad != 0) = false := by simpa using h0
  have hp := hpre h0
  simp only [go_sem, h4, h6, h0b]
  refine (count_pass s b' out hp.len hp.w hp.good).useA ?_
  simp only [go_sem, h4, h6]
  refine ⟨S, ?_, ?_⟩
  · repeat' first
      | exact Sub.refl _
      | refine Sub.set ?_ (by assumption) _
  · rw [if_pos h0]; simp
theorem count_Query (s : Skt) (hg : s.Good) (tick span : Nat) : Pure Tryz.prog 13 [s.av, u64 tick, u64 span] (.tuple [u64 (queryK s tick span).1, i64 (queryK s tick span).2]) := fun S => by
  obtain ⟨hz, hn⟩ := hg.sz
  have hE := est_Of s.past.k s.past.g s.past.ls tick span (by have := hg.pg.len; omega) (fun l hl => by have := hg.pg.sm l hl; have := hg.pg.k1; omega)
  have hQ := scan_Sum s.b.evs tick span (by omega)
  refine callR_of Tryz.func13 rfl rfl (xc_ok (bitB 262607) _ _ _ ?_)
  simp only [go_sem]
  refine alloc_intro fun c3 h3 => ?_
  simp only [go_sem]
  by_cases q1 : tick < s.b.front
  · simp only [go_sem, q1]
    (refine ⟨S, by (repeat (first | exact Sub.refl _ | refine Sub.setF ?_ (by first | assumption | simp only [*]) | refine Sub.setV ?_ (by first | assumption | simp only [*]))), ?_⟩); simp [queryK, q1]
  by_cases q2 : 9223372036854775807 < tick
  · simp only [go_sem, q1, q2]
    (refine ⟨S, by (repeat (first | exact Sub.refl _ | refine Sub.setF ?_ (by first | assumption | simp only [*]) | refine Sub.setV ?_ (by first | assumption | simp only [*]))), ?_⟩); simp [queryK, q2]
  by_cases q3 : span = 0
  · have g3 : (span == 0) = true := by simpa using q3
    simp only [go_sem, q1, q2, g3]
    (refine ⟨S, by (repeat (first | exact Sub.refl _ | refine Sub.setF ?_ (by first | assumption | simp only [*]) | refine Sub.setV ?_ (by first | assumption | simp only [*]))), ?_⟩); simp [queryK, q1, q2, q3]
  have g3 : (span == 0) = false := by simpa using q3
  by_cases q4 : s.win < span
  · simp only [go_sem, q1, q2, g3, q4]
    (refine ⟨S, by (repeat (first | exact Sub.refl _ | refine Sub.setF ?_ (by first | assumption | simp only [*]) | refine Sub.setV ?_ (by first | assumption | simp only [*]))), ?_⟩); simp [queryK, q1, q2, q3, q4]
  simp only [go_sem, q1, q2, g3, q4]
  refine AWP.draw2 (bitB 262607) mixed (by kernel_rfl) (fun j => if j = 4 then u64 (estV s.past.ls tick span) else u64 (spanV s.b.evs tick span)) ?_
  simp only [go_sem]
  refine ⟨hE.draw, hQ.draw, ?_⟩
  (refine ⟨S, by (repeat (first | exact Sub.refl _ | refine Sub.setF ?_ (by first | assumption | simp only [*]) | refine Sub.setV ?_ (by first | assumption | simp only [*]))), ?_⟩); simp [queryK, q1, q2, q3, q4]
end Go.Sk
end

-- W14c
section
namespace Go.Sk
open Go Go.Proofs

structure Skt.Small (s : Skt) : Prop where
  e : s.b.evs.length < 1099511627776
  h : s.past.Small
theorem Skt.Good.small {s : Skt} (hg : s.Good) : s.Small := ⟨by have := hg.len; have := hg.r2; omega, hg.pg.small⟩
set_option maxHeartbeats 1000000 in
set_option maxRecDepth 8000 in
theorem count_Same (x y : Skt) (hx : x.Small) : Pure Tryz.prog 25 [x.av, y.av] (bl (decide (x = y))) := fun S => by
  have hb := buf_Same x.b y.b hx.e
  have hh := hist_Same x.past y.past hx.h
  refine callR_of Tryz.func25 rfl rfl (xc_ok (bitB 31) _ _ _ ?_)
  simp only [go_sem]
  refine alloc_intro fun c2 h2 => ?_
  simp only [go_sem]
  refine alloc_intro fun c3 h3 => ?_
  simp only [fresh_set] at h3
  have hd : x = y ↔ x.win = y.win ∧ x.b = y.b ∧ x.past = y.past := by cases x; cases y; simp
  by_cases q1 : x.win = y.win
  rotate_left
  · have g1 : (x.win == y.win) = false := by simpa using q1
    simp only [go_sem, h3, g1]
    (refine ⟨S, by (repeat (first | exact Sub.refl _ | refine Sub.setF ?_ (by first | assumption | simp only [*]) | refine Sub.setV ?_ (by first | assumption | simp only [*]))), ?_⟩); simp [hd, q1]
  have g1 : (x.win == y.win) = true := by simpa using q1
  simp only [go_sem, h3, g1]
  by_cases q2 : x.b = y.b
  rotate_left
  · rw [decide_eq_false q2] at hb
    refine hb.useA ?_
    simp only [go_sem, h3]
    (refine ⟨S, by (repeat (first | exact Sub.refl _ | refine Sub.setF ?_ (by first | assumption | simp only [*]) | refine Sub.setV ?_ (by first | assumption | simp only [*]))), ?_⟩); simp [hd, q2]
  rw [decide_eq_true q2] at hb
  refine hb.useA ?_
  simp only [go_sem, h3]
  refine hh.useA ?_
  simp only [go_sem, h3]
  (refine ⟨S, by (repeat (first | exact Sub.refl _ | refine Sub.setF ?_ (by first | assumption | simp only [*]) | refine Sub.setV ?_ (by first | assumption | simp only [*]))), ?_⟩); simp [hd, q1, q2]
set_option maxRecDepth 8000 in
theorem made14 (x : Skt) : Pure Tryz.prog 9 [x.av] x.av := fun S => by
  refine callR_of Tryz.func9 rfl rfl (xc_ok (bitB 31) _ _ _ ?_)
  simp only [go_sem]
  refine alloc_intro fun c1 h1 => ?_
  simp only [go_sem]
  refine alloc_intro fun c2 h2 => ?_
  simp only [fresh_set] at h2
  simp only [go_sem, h2]
  refine alloc_intro fun c3 h3 => ?_
  simp only [fresh_set] at h3
  simp only [go_sem, h2, h3]
  refine alloc_intro fun c4 h4 => ?_
  simp only [fresh_set] at h4
  simp only [go_sem, h2, h3, h4]
  have y1 : S (.r c1) = none := h1
  have y2 : S (.r c2) = none := h2.2
  have y3 : S (.r c3) = none := h3.2.2
  have y4 : S (.r c4) = none := h4.2.2.2
  refine ⟨S, ?_, ?_⟩
  · repeat' first
      | exact Sub.refl _
      | refine Sub.set ?_ (by assumption) _
  · simp
def confK (k : Int) (win late : Nat) (room : Int) : Bool := decide (1 ≤ win ∧ win ≤ 4611686018427387904 ∧ (2 ≤ k ∧ k ≤ 1024) ∧ late ≤ 4611686018427387904 ∧ 1 ≤ room ∧ room ≤ 1024)
theorem ref14_New (k : Int) (win late : Nat) (room : Int) : Pure Tryz.prog 26 [i64 k, u64 win, u64 late, i64 room] (newK k win late room).av := fun S => by
  refine callR_of Tryz.func26 rfl rfl (xc_ok (bitB 271) _ _ _ ?_)
  simp only [go_sem]
  refine alloc_intro fun c8 h8 => ?_
  simp only [go_sem]
  (refine ⟨S, by (repeat (first | exact Sub.refl _ | refine Sub.setF ?_ (by first | assumption | simp only [*]) | refine Sub.setV ?_ (by first | assumption | simp only [*]))), ?_⟩); simp [newK]
set_option maxHeartbeats 1000000 in
set_option maxRecDepth 8000 in
theorem count_New (k : Int) (win late : Nat) (room : Int) : Pure Tryz.prog 23 [i64 k, u64 win, u64 late, i64 room] (.tuple [if confK k win late room = true then (newK k win late room).av else zeroK.av, i64 (if confK k win late room = true then 0 else 9)]) := fun S => by
  have hH0 := hist_New k
  have hB0 := buf_New late room
  obtain ⟨X, ex, hX, hH⟩ : ∃ X ex, (k < 2 ∨ k > 1024 → ex = (9 : Int)) ∧ (¬ (k < 2 ∨ k > 1024) → ex = 0 ∧ X = Hist.mk k 0 []) ∧ Pure Tryz.prog 70 [i64 k] (.tuple [X.av, i64 ex]) := by
    by_cases c : k < 2 ∨ k > 1024
    · rw [if_pos c] at hH0; exact ⟨zeroH, 9, fun _ => rfl, fun h => absurd c h, hH0⟩
    · rw [if_neg c] at hH0; exact ⟨Hist.mk k 0 [], 0, fun h => absurd h c, fun _ => ⟨rfl, rfl⟩, hH0⟩
  obtain ⟨hX2, hH⟩ := hH
  obtain ⟨Y, ey, hY, hY2, hB⟩ : ∃ Y ey, (4611686018427387904 < late ∨ room < 1 ∨ 1024 < room → ey = (9 : Int)) ∧ (¬ (4611686018427387904 < late ∨ room < 1 ∨ 1024 < room) → ey = 0 ∧ Y = Buf.mk late room 0 0 []) ∧ Pure Tryz.prog 71 [u64 late, i64 room] (.tuple [Y.av, i64 ey]) := by
    by_cases c : 4611686018427387904 < late ∨ room < 1 ∨ 1024 < room
    · rw [if_pos c] at hB0; exact ⟨zeroB, 9, fun _ => rfl, fun h => absurd c h, hB0⟩
    · rw [if_neg c] at hB0; exact ⟨Buf.mk late room 0 0 [], 0, fun h => absurd h c, fun _ => ⟨rfl, rfl⟩, hB0⟩
  clear hH0 hB0
  refine callR_of Tryz.func23 rfl rfl (xc_ok (bitB 274877923087) _ _ _ ?_)
  simp only [go_sem]
  refine alloc_intro fun c8 h8 => ?_
  simp only [go_sem]
  refine hH.useA ?_
  simp only [go_sem]
  refine alloc_intro fun c10 h10 => ?_
  simp only [fresh_set] at h10
  simp only [go_sem, h10]
  refine hB.useA ?_
  simp only [go_sem, h10]
  refine alloc_intro fun c12 h12 => ?_
  simp only [fresh_set] at h12
  have y8 : S (.r c8) = none := h8
  have y10 : S (.r c10) = none := h10.2
  have y12 : S (.r c12) = none := h12.2.2
  by_cases q1 : k < 2 ∨ k > 1024
  · have g1 : (ex != 0) = true := by rw [hX q1]; rfl
    simp only [go_sem, h10, h12, g1]
    refine ⟨S, ?_, ?_⟩
    · repeat' first
        | exact Sub.refl _
        | refine Sub.set ?_ (by assumption) _
    · have hc : confK k win late room = false := by unfold confK; rw [decide_eq_false]; omega
      rw [hc]; simp [zeroK, zeroB, zeroH]
  obtain ⟨rfl, rfl⟩ := hX2 q1
  by_cases q2 : 4611686018427387904 < late ∨ room < 1 ∨ 1024 < room
  · have g2 : (ey != 0) = true := by rw [hY q2]; rfl
    simp only [go_sem, h10, h12, g2, bne_self_eq_false]
    refine ⟨S, ?_, ?_⟩
    · repeat' first
        | exact Sub.refl _
        | refine Sub.set ?_ (by assumption) _
    · have hc : confK k win late room = false := by unfold confK; rw [decide_eq_false]; omega
      rw [hc]; simp [zeroK, zeroB, zeroH]
  obtain ⟨rfl, rfl⟩ := hY2 q2
  by_cases q3 : win < 1
  · simp only [go_sem, h10, h12, q3, bne_self_eq_false]
    refine ⟨S, ?_, ?_⟩
    · repeat' first
        | exact Sub.refl _
        | refine Sub.set ?_ (by assumption) _
    · have hc : confK k win late room = false := by unfold confK; rw [decide_eq_false]; omega
      rw [hc]; simp [zeroK, zeroB, zeroH]
  by_cases q4 : 4611686018427387904 < win
  · simp only [go_sem, h10, h12, q3, q4, bne_self_eq_false]
    refine ⟨S, ?_, ?_⟩
    · repeat' first
        | exact Sub.refl _
        | refine Sub.set ?_ (by assumption) _
    · have hc : confK k win late room = false := by unfold confK; rw [decide_eq_false]; omega
      rw [hc]; simp [zeroK, zeroB, zeroH]
  simp only [go_sem, h10, h12, q3, q4, bne_self_eq_false]
  have hy : confK k win late room = true := by unfold confK; rw [decide_eq_true]; omega
  refine ⟨S, ?_, ?_⟩
  · repeat' first
      | exact Sub.refl _
      | refine Sub.set ?_ (by assumption) _
  · rw [hy]; simp [newK]
end Go.Sk
end

-- W14A
section
namespace Go.Sk
open Go Go.Proofs

end Go.Sk
end
