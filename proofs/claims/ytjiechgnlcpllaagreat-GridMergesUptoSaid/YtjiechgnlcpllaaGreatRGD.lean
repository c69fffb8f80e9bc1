/- Texts W15j A16 W15k W15l L15a A30 A12 A20 A14 A31 A32 A33 A19a A34 A35 A36 A37 W15u, joined. -/
import Derived.Test.YtjiechgnlcpllaaGreatRGC
import Derived.Test.YtjiechgnlcpllaaGreatRGB
import Derived.Test.YtjiechgnlcpllaaGreatRGA
import Derived.Test.YtjiechgnlcpllaaGreatSkCr
set_option linter.unusedSimpArgs false
set_option linter.unusedVariables false
set_option linter.unusedSectionVars false
-- W15j
section
namespace Go.Sk
open Go Go.Proofs

structure Conf2 where (k w : Int) (sd : List Seed)
  deriving Inhabited
def Conf2.cs (c : Conf2) : List PV := [.int .i64 c.k, .int .i64 c.w, .sl (c.sd.map Seed.pv)]
def Conf2.av (c : Conf2) : AV := .agg (c.cs.map .p)
attribute [go_sem] Conf2.cs Conf2.av
def tameE (s : Seed) : Seed := ⟨1 + s.a % 2305843009213693950, s.b % 2305843009213693951⟩
def tameS (c : Conf2) : List Seed := if (c.sd.take 4).map tameE = [] then [⟨3, 1⟩] else (c.sd.take 4).map tameE
def tameK (c : Conf2) : Int := 2 + max c.k 0 % 10
def tameW (c : Conf2) : Int := 1 + max c.w 0 % 7
def tameV (c : Conf2) : Grid := newV (tameK c) (tameW c) (tameS c)
theorem seed_more (l : List Seed) (j : Nat) (h : j < l.length) : List.map Seed.pv ((l.take j).map tameE) ++ [[.int .u64 (1 + (l[j]).a % 2305843009213693950 : Nat), .int .u64 ((l[j]).b % 2305843009213693951 : Nat)]] = List.map Seed.pv ((l.take (j + 1)).map tameE) := by
  rw [List.take_succ_eq_append_getElem h, List.map_append, List.map_append]; rfl

set_option maxHeartbeats 1000000 in
theorem ref15_Tame (c : Conf2) (hn : c.sd.length < 1099511627776) (hk : c.k < 9223372036854775808) (hw : c.w < 9223372036854775808) : Pure Tryz.prog 16 [c.av] (tameV c).av := fun S => by
  refine callR_of Tryz.func16 rfl rfl (xc_ok (bitB 137438961695) _ _ _ ?_)
  simp only [go_sem]
  refine alloc_intro fun c1 h1 => ?_
  simp only [go_sem]
  refine alloc_intro fun c2 h2 => ?_
  simp only [fresh_set] at h2
  simp only [go_sem, h2]
  have y1 : S (.r c1) = none := h1
  have y2 : S (.r c2) = none := h2.2
  refine AWP.tip0 3 2 (by simp only [go_sem]) fun k hk => ?_
  simp only [freshv_setr] at hk
  simp only [go_sem]
  refine AWP.iterE (ι := Option Nat) (fun loc j => ⟨Env.get [(1, .sp c1 0), (2, .sp c2 0), (3, .ts k 2 loc (((c.sd.take j).map tameE).map Seed.pv)), (4, i64 j)],
    ((S.set (.r c1) (.cells [i64 c.k, i64 c.w, .p (.sl (c.sd.map Seed.pv))])).set (.r c2) (.cells [i64 0, .nils, .nils, i64 0, i64 0, .nils])).set (.v k) (.tip 2 j loc), 54, []⟩) (min c.sd.length 4) none ?_ ?_ ?_
  · refine le_of (by simp only [go_sem, List.take_zero, List.map_nil] <;> rfl) ?_ rfl rfl (by simp)
    ((try dsimp only); (repeat refine sub_set ?_ ?_) <;> first | ((repeat (first | exact Sub.refl _ | refine Sub.setF ?_ (by first | assumption | simp only [*]) | refine Sub.setV ?_ (by first | assumption | simp only [*]))); done) | (simp only [go_sem, h2, hk]; done) | (simp only [go_sem, h2, hk]; rfl) | rfl)
  · intro j loc hj jh
    have hj1 : j < c.sd.length := by clear h2; omega
    have hj2 : (j : Int) < 4 := by clear h2; omega
    have hqj : wi ((j : Int) + 1) = ((j + 1 : Nat) : Int) := wi_succ (show j < 4611686018427387904 by clear h2; omega)
    have htl : ((c.sd.take j).map tameE).length = j := by rw [List.length_map]; exact take_len (by clear h2; omega)
    have htl1 : ((c.sd.take (j + 1)).map tameE).length = j + 1 := by rw [List.length_map]; exact take_len (by clear h2; omega)
    refine AWPH.step (xc_ok (bitB 137438961695) _ _ _ ?_)
    simp only [go_sem, h2, hj1, hj2, ltN' hj1, getD_map' _ _ _ _ hj1]
    refine AWP.draw2 (bitB 137438961695) mixed (by kernel_rfl) (fun j => bl false) ?_
    have em : m64 (1 + (c.sd[j]).a % 2305843009213693950) = 1 + (c.sd[j]).a % 2305843009213693950 := m64_id (by clear h2; omega)
    have htl0 : (c.sd.take j).length = j := take_len (by clear h2; omega)
    have htl2 : (c.sd.take (j + 1)).length = j + 1 := take_len (by clear h2; omega)
    simp only [go_sem, h2, hj1, hj2, ltN' hj1, getD_map' _ _ _ _ hj1, em, htl0, hk]
    refine ⟨by rintro el rfl; rfl, seed_len, by clear h2; omega, by clear h2; omega, grow_intro fun loc' => ?_⟩
    simp only [go_sem, h2, hk, hqj, seed_more c.sd j hj1]
    refine (jh loc').back ?_ (by simp) ?_
    · ((try dsimp only); (repeat refine sub_set ?_ ?_) <;> first | ((repeat (first | exact Sub.refl _ | refine Sub.setF ?_ (by first | assumption | simp only [*]) | refine Sub.setV ?_ (by first | assumption | simp only [*]))); done) | (simp only [go_sem, h2, hk, List.length_map, htl2, seed_more c.sd j hj1]; done) | (simp only [go_sem, h2, hk, List.length_map, htl2, seed_more c.sd j hj1]; rfl) | rfl)
    · simp only [go_sem, hqj]
  · intro loc
    have hmin : c.sd.take (min c.sd.length 4) = c.sd.take 4 := by
      by_cases hl : c.sd.length ≤ 4
      · rw [Nat.min_eq_left hl, List.take_length, List.take_of_length_le hl]
      · rw [Nat.min_eq_right (by clear h2; omega)]
    have hlen : (c.sd.take 4).length = min 4 c.sd.length := List.length_take
    have hlm : ((c.sd.take 4).map tameE).length = min c.sd.length 4 := by rw [List.length_map, hlen, Nat.min_comm]
    simp only [hmin]
    generalize hL : (c.sd.take 4).map tameE = L at *
    have r1 : wi (2 + (if 0 > c.k then 0 else c.k).tmod 10) = tameK c := by
      have : (if 0 > c.k then 0 else c.k) = max c.k 0 := by split <;> (clear h2; omega)
      unfold tameK
      rw [this, Int.tmod_eq_emod_of_nonneg (by clear h2; omega)]
      exact wi_id (by clear h2; omega) (by clear h2; omega)
    obtain ⟨wn, hwn⟩ : ∃ n : Nat, tameW c = n := ⟨(tameW c).toNat, by unfold tameW; clear h2; omega⟩
    have hwn2 : wn < 1048576 := by unfold tameW at hwn; clear h2; omega
    have r2 : wi (1 + (if 0 > c.w then 0 else c.w).tmod 7) = (wn : Int) := by
      have : (if 0 > c.w then 0 else c.w) = max c.w 0 := by split <;> (clear h2; omega)
      rw [this, Int.tmod_eq_emod_of_nonneg (by clear h2; omega), ← hwn]
      unfold tameW
      exact wi_id (by clear h2; omega) (by clear h2; omega)
    have hsub : Sub S (((S.set (.r c1) (.cells [i64 c.k, i64 c.w, .p (.sl (c.sd.map Seed.pv))])).set (.r c2) (.cells [i64 0, .nils, .nils, i64 0, i64 0, .nils])).set (.v k) (.tip 2 (min c.sd.length 4) loc)) := Sub.set (Sub.set (Sub.set (Sub.refl _) y1 _) y2 _) hk _
    refine AWPH.step (xc_ok (bitB 137438961695) _ _ _ ?_)
    by_cases a3 : L = []
    · have a1 : ¬ min c.sd.length 4 < c.sd.length := by rw [a3, List.length_nil] at hlm; clear h2; omega
      have hS : tameS c = [⟨3, 1⟩] := by unfold tameS; rw [hL, if_pos a3]
      have hm0 : min c.sd.length 4 = 0 := by rw [a3, List.length_nil] at hlm; exact hlm.symm
      rw [hm0] at hsub
      subst a3
      have hz : ((([] : List Seed).length : Int) == 0) = true := by simp
      simp only [hm0] at a1 ⊢
      simp only [go_sem, h2, a1, hk, List.length_map, hz, r1, r2, List.map_nil]
      refine ⟨by rintro el rfl; rfl, grow_intro fun loc' => ?_⟩
      simp only [go_sem, h2, hk, r1, r2]
      refine ⟨by decide, by decide, (ref15_New (tameK c) wn [⟨3, 1⟩] hwn2 (by decide)).useA ?_⟩
      simp only [go_sem, h2]
      have hfin : newV (tameK c) wn [⟨3, 1⟩] = tameV c := by unfold tameV; rw [hS, hwn]
      refine ⟨S, Sub.set (Sub.set (Sub.set (Sub.set (Sub.refl _) y1 _) y2 _) hk _) y2 _, ?_⟩
      simp [← hfin]
    have hS : tameS c = L := by unfold tameS; rw [hL, if_neg a3]
    have hz : (L.length == 0) = false := by simpa using a3
    have hz2 : ((L.length : Int) == 0) = false := by simpa using a3
    have hfin : newV (tameK c) wn L = tameV c := by unfold tameV; rw [hS, hwn]
    by_cases a1 : min c.sd.length 4 < c.sd.length
    · have a2 : ¬ ((min c.sd.length 4 : Nat) : Int) < 4 := by clear h2; omega
      simp only [go_sem, h2, a1, a2, hk, List.length_map, hz, hz2, r1, r2]
      refine ⟨by decide, by decide, (ref15_New (tameK c) wn L hwn2 (by clear h2; omega)).useA ?_⟩
      simp only [go_sem, h2]
      refine ⟨S, Sub.set hsub y2 _, ?_⟩
      simp [← hfin]
    · simp only [go_sem, h2, a1, hk, List.length_map, hz, hz2, r1, r2]
      refine ⟨by decide, by decide, (ref15_New (tameK c) wn L hwn2 (by clear h2; omega)).useA ?_⟩
      simp only [go_sem, h2]
      refine ⟨S, Sub.set hsub y2 _, ?_⟩
      simp [← hfin]
end Go.Sk
end

-- A16
section
namespace Go.Sk

structure Grid.Good (g : Grid) : Prop where
  w1 : 1 ≤ g.w
  w2 : g.w ≤ 256
  n : g.rows.length ≤ 8
  sd : g.sd.length = g.rows.length
  wid : ∀ r ∈ g.rows, r.length = g.w.toNat
  all : g.all.Good
  hs : ∀ r ∈ g.rows, ∀ h ∈ r, h.Good
  so : ∀ s ∈ g.sd, s.may = true
theorem Seed.ok_of_may {s : Seed} (h : s.may = true) : s.Ok := by
  unfold Seed.may at h
  simp only [Bool.and_eq_true, decide_eq_true_eq] at h
  constructor <;> omega
theorem Grid.Good.ok {g : Grid} (h : g.Good) : g.Ok :=
  ⟨h.w1, by have := h.w2; omega, by have := h.n; omega, h.sd, h.wid, h.all.ok, fun r hr x hx => (h.hs r hr x hx).ok, fun s hs => Seed.ok_of_may (h.so s hs)⟩
theorem Grid.Good.small {g : Grid} (h : g.Good) : g.Small :=
  ⟨by have := h.n; have := h.sd; omega, ⟨by have := h.n; omega, fun r hr => ⟨by have := h.wid r hr; have := h.w2; omega, fun x hx => (h.hs r hr x hx).small⟩⟩, h.all.small⟩
theorem Grid.Good.sz {g : Grid} (h : g.Good) : g.Sz := ⟨by have := h.n; omega, fun r hr => by have := h.wid r hr; have := h.w2; omega⟩

theorem emptyH_good {k : Int} (h1 : 2 ≤ k) (h2 : k ≤ 1024) : (emptyH k).Good := ⟨h1, h2, fun l hl => (by cases hl), fun l hl => (by cases hl), by simp [emptyH, totN]⟩
theorem newV_good {k w : Int} {sd : List Seed} (h1 : 2 ≤ k) (h2 : k ≤ 1024) (w1 : 1 ≤ w) (w2 : w ≤ 256) (n : sd.length ≤ 8) (so : ∀ s ∈ sd, s.may = true) : (newV k w sd).Good := by
  refine ⟨w1, w2, by simp [newV]; exact n, by simp [newV], ?_, emptyH_good h1 h2, ?_, so⟩
  · intro r hr
    rw [List.eq_of_mem_replicate hr]; simp [newV]
  · intro r hr h hh
    rw [List.eq_of_mem_replicate hr] at hh
    rw [List.eq_of_mem_replicate hh]; exact emptyH_good h1 h2
theorem tameS_may (c : Conf2) : ∀ s ∈ tameS c, s.may = true := by
  intro s hs
  unfold tameS at hs
  split at hs
  · simp only [List.mem_singleton] at hs; subst hs; decide
  · obtain ⟨x, _, rfl⟩ := List.mem_map.1 hs
    unfold tameE Seed.may
    simp only [Bool.and_eq_true, decide_eq_true_eq]
    omega
theorem tameS_len (c : Conf2) : 1 ≤ (tameS c).length ∧ (tameS c).length ≤ 4 := by
  unfold tameS
  split
  · simp
  · rename_i h
    refine ⟨?_, by rw [List.length_map, List.length_take]; exact Nat.min_le_left _ _⟩
    cases e : List.map tameE (List.take 4 c.sd) with
    | nil => exact absurd e h
    | cons a b => simp
theorem tameV_good (c : Conf2) : (tameV c).Good := by
  refine newV_good (by unfold tameK; omega) (by unfold tameK; omega) (by unfold tameW; omega) (by unfold tameW; omega) ?_ (tameS_may c)
  have := (tameS_len c).2; omega

theorem rowsV_good {g : Grid} (hg : g.Good) (e : Event) : ∀ i, i ≤ g.rows.length → (rowsV g e i).2 = 0 → (∀ r ∈ (rowsV g e i).1, r.length = g.w.toNat) ∧ ∀ r ∈ (rowsV g e i).1, ∀ h ∈ r, h.Good := by
  intro i
  induction i with
  | zero => intro _ _; exact ⟨hg.wid, hg.hs⟩
  | succ i ih =>
    intro hi h0
    have hse : rowsV g e (i + 1) = stepG g e i (rowsV g e i) := rfl
    unfold stepG at hse
    by_cases he : (rowsV g e i).2 = 0
    rotate_left
    · rw [if_neg he] at hse; rw [hse] at h0; exact absurd h0 he
    rw [if_pos he] at hse
    obtain ⟨h1, h2⟩ := ih (by omega) he
    have hlt : i < (rowsV g e i).1.length := by rw [rowsV_len]; omega
    have hm : (rowsV g e i).1.getD i [] ∈ (rowsV g e i).1 := by
      rw [List.getD_eq_getElem?_getD, List.getElem?_eq_getElem hlt]; exact List.getElem_mem hlt
    have hc : colN g e.k i < ((rowsV g e i).1.getD i []).length := by rw [h1 _ hm]; exact colN_lt g hg.w1 _ _
    rw [hse] at h0 ⊢
    have hh : (((rowsV g e i).1.getD i []).getD (colN g e.k i) zeroH).Good := by
      rw [List.getD_eq_getElem?_getD, List.getElem?_eq_getElem hc]; exact h2 _ hm _ (List.getElem_mem hc)
    have hn := (addH_good hh e.t e.w h0).1
    refine ⟨fun r hr => ?_, fun r hr h hx => ?_⟩
    · rcases List.mem_or_eq_of_mem_set hr with hr | rfl
      · exact h1 r hr
      · rw [List.length_set]; exact h1 _ hm
    · rcases List.mem_or_eq_of_mem_set hr with hr | rfl
      · exact h2 r hr h hx
      · rcases List.mem_or_eq_of_mem_set hx with hx | rfl
        · exact h2 _ hm _ hx
        · exact hn
theorem rowsV_first (g : Grid) (e : Event) : ∀ i, (rowsV g e i).2 = 0 → (addH g.all e.t e.w).2 = 0 := by
  intro i
  induction i with
  | zero => intro h; exact h
  | succ i ih =>
    intro h
    apply ih
    apply Classical.byContradiction
    intro hc
    rw [rowsV_stop g e i hc 1] at h
    exact hc h
theorem addG_ok {g : Grid} {e : Event} (h : (addG g e).2 = 0) : e.k < 2305843009213693951 ∧ (rowsV g e g.rows.length).2 = 0 ∧ addG g e = (⟨g.w, g.sd, (rowsV g e g.rows.length).1, (addH g.all e.t e.w).1⟩, 0) := by
  unfold addG at h ⊢
  split
  · rename_i c
    rw [if_pos c] at h
    split
    · rename_i c2; exact ⟨c, c2, rfl⟩
    · rename_i c2; rw [if_neg c2] at h; exact absurd h c2
  · rename_i c; rw [if_neg c] at h; simp at h
theorem addG_good {g : Grid} (hg : g.Good) (e : Event) (h : (addG g e).2 = 0) : (addG g e).1.Good := by
  obtain ⟨h1, h2, h3⟩ := addG_ok h
  rw [h3]
  obtain ⟨r1, r2⟩ := rowsV_good hg e _ (Nat.le_refl _) h2
  refine ⟨hg.w1, hg.w2, ?_, ?_, r1, (addH_good hg.all _ _ (rowsV_first g e _ h2)).1, r2, hg.so⟩
  · dsimp only; rw [rowsV_len]; exact hg.n
  · dsimp only; rw [rowsV_len]; exact hg.sd

/-- The document's grid of events, and what came. -/
noncomputable def madeGo : List Event → Nat → Grid → List Event → Grid × List Event
  | [], _, g, all => (g, all)
  | x :: r, tick, g, all => if (addG g ⟨tick + x.t % 100, x.k, x.w⟩).2 = 0 then madeGo r (tick + x.t % 100) (addG g ⟨tick + x.t % 100, x.k, x.w⟩).1 (all ++ [⟨tick + x.t % 100, x.k, x.w⟩]) else madeGo r (tick + x.t % 100) g all
noncomputable def madeV (c : Conf2) (l : List Event) : Grid × List Event := madeGo (l.take 20) 0 (tameV c) []
theorem madeGo_good : ∀ l t g all, Grid.Good g → (madeGo l t g all).1.Good := by
  intro l
  induction l with
  | nil => intro t g all h; exact h
  | cons x r ih =>
    intro t g all h
    unfold madeGo
    split
    · rename_i c; exact ih _ _ _ (addG_good h _ c)
    · exact ih _ _ _ h
theorem madeV_good (c : Conf2) (l : List Event) : (madeV c l).1.Good := madeGo_good _ _ _ _ (tameV_good c)
end Go.Sk
end

-- W15k
section
namespace Go.Sk
open Go Go.Proofs

theorem ev_len {l : List Event} : ∀ el ∈ l.map Event.pv, el.length = 3 := by
  intro el h; obtain ⟨x, _, rfl⟩ := List.mem_map.1 h; rfl

set_option maxHeartbeats 1000000 in
theorem ref15_Made (c : Conf2) (l : List Event) (hn : c.sd.length < 1099511627776) (hk : c.k < 9223372036854775808) (hw : c.w < 9223372036854775808) (hl : l.length < 1099511627776) (ho : ∀ e ∈ l, e.Ok) :
    Pure Tryz.prog 5 [c.av, .p (evsP l)] (.tuple [(madeV c l).1.av, .p (evsP (madeV c l).2)]) := fun S => by
  refine callR_of Tryz.func5 rfl rfl (xc_ok (bitB 4503599631572983) _ _ _ ?_)
  simp only [go_sem, evsP]
  refine alloc_intro fun c2 h2 => ?_
  simp only [go_sem]
  refine alloc_intro fun c4 h4 => ?_
  simp only [fresh_set] at h4
  simp only [go_sem, h4]
  refine (ref15_Tame c hn hk hw).useA ?_
  simp only [go_sem]
  refine alloc_intro fun c6 h6 => ?_
  simp only [fresh_set] at h6
  simp only [go_sem, h4, h6]
  have y2 : S (.r c2) = none := h2
  have y4 : S (.r c4) = none := h4.2
  have y6 : S (.r c6) = none := h6.2.2
  refine AWP.tip0 8 3 (by simp only [go_sem]) fun k hkk => ?_
  simp only [freshv_setr] at hkk
  simp only [go_sem]
  refine AWP.roam (ι := Nat × Nat × Grid × List Event × Option Nat) (fun y => y.1 ≤ l.length ∧ y.1 ≤ 20 ∧ y.2.1 ≤ y.1 * 100 ∧ y.2.2.1.Good ∧ y.2.2.2.1.length ≤ y.1 ∧ madeGo ((l.take 20).drop y.1) y.2.1 y.2.2.1 y.2.2.2.1 = madeV c l)
    (fun y => ⟨Env.get [(1, .p (evsP l)), (4, .sp c4 0), (6, .sp c6 0), (7, u64 y.2.1), (8, .ts k 3 y.2.2.2.2 (y.2.2.2.1.map Event.pv)), (9, i64 y.1)],
      (((S.set (.r c2) (.cells [i64 c.k, i64 c.w, .p (.sl (c.sd.map Seed.pv))])).set (.r c4) (.cells [i64 0, .nils, .nils, i64 0, i64 0, .nils])).set (.r c6) (.cells [i64 y.2.2.1.w, .p (.sl (y.2.2.1.sd.map Seed.pv)), .p (.sl (y.2.2.1.rows.map rowE)), i64 y.2.2.1.all.k, i64 y.2.2.1.all.g, .p (.sl (y.2.2.1.all.ls.map lvE))])).set (.v k) (.tip 3 y.2.2.2.1.length y.2.2.2.2), 60, []⟩)
    (fun y => l.length - y.1) (0, 0, tameV c, [], none) ⟨Nat.zero_le _, Nat.zero_le _, Nat.zero_le _, tameV_good c, Nat.le_refl _, by rw [List.drop_zero]; rfl⟩ ?_ ?_
  · refine le_of (by simp only [go_sem, evsP] <;> rfl) ?_ rfl rfl (by simp)
    ((try dsimp only); (repeat refine sub_set ?_ ?_) <;> first | ((repeat (first | exact Sub.refl _ | refine Sub.setF ?_ (by first | assumption | simp only [*]) | refine Sub.setV ?_ (by first | assumption | simp only [*]))); done) | (simp only [go_sem, h4, h6, hkk, List.map_nil, List.length_nil]; done) | (simp only [go_sem, h4, h6, hkk, List.map_nil, List.length_nil]; rfl) | rfl)
  rintro ⟨i, tick, g, all, loc⟩ ⟨hi, hi2, ht, hg, hall, hm⟩ ih
  dsimp only at hi hi2 ht hg hall hm ⊢
  refine AWPH.step (xc_ok (bitB 4503599631572983) _ _ _ ?_)
  have hlen2 : (l.take 20).length = min 20 l.length := List.length_take
  have stop : ¬ (i < l.length ∧ i < 20) → (g, all) = madeV c l := by
    intro hc
    rw [List.drop_of_length_le (by rw [hlen2]; clear h4 h6; omega)] at hm
    exact hm
  by_cases c1 : i < l.length
  rotate_left
  · simp only [go_sem, c1, h4, h6, evsP, List.length_map]
    have := stop (fun h => c1 h.1)
    refine ⟨S, ?_, ?_⟩
    · exact Sub.set (Sub.set (Sub.set (Sub.set (Sub.set (Sub.refl _) y2 _) y4 _) y6 _) hkk _) y4 _
    · rw [← this]; simp
  by_cases c2' : (i : Int) < 20
  rotate_left
  · simp only [go_sem, c1, c2', h4, h6, evsP, List.length_map]
    have := stop (fun h => c2' (by clear h4 h6; omega))
    refine ⟨S, ?_, ?_⟩
    · exact Sub.set (Sub.set (Sub.set (Sub.set (Sub.set (Sub.refl _) y2 _) y4 _) y6 _) hkk _) y4 _
    · rw [← this]; simp
  have hok : (l[i]).Ok := ho _ (List.getElem_mem c1)
  have htk : m64 (tick + (l[i]).t % 100) = tick + (l[i]).t % 100 := m64_id (by clear h4 h6; omega)
  have hq : wi ((i : Int) + 1) = ((i + 1 : Nat) : Int) := wi_succ (show i < 4611686018427387904 by clear h4 h6; omega)
  simp only [go_sem, c1, c2', evsP, ltN' c1, getD_map' _ _ _ _ c1, List.length_map, htk]
  refine AWP.draw2 (bitB 4503599631572983) mixed (by kernel_rfl) (fun j => bl false) ?_
  simp only [go_sem, c1, evsP, ltN' c1, getD_map' _ _ _ _ c1, htk]
  refine alloc_intro fun c10 h10 => ?_
  simp only [fresh_set, fresh_setv] at h10
  simp only [go_sem, h4, h6, h10]
  refine (ref15_Add g ⟨tick + (l[i]).t % 100, (l[i]).k, (l[i]).w⟩ hg.ok hok.k hok.w).useA ?_
  have hdrop : (l.take 20).drop i = l[i] :: (l.take 20).drop (i + 1) := by
    rw [List.drop_eq_getElem_cons (by rw [hlen2]; clear h4 h6 h10; omega)]
    congr 1
    rw [List.getElem_take]
  rw [hdrop] at hm
  unfold madeGo at hm
  have hgd := addG_good hg ⟨tick + (l[i]).t % 100, (l[i]).k, (l[i]).w⟩
  generalize addG g ⟨tick + (l[i]).t % 100, (l[i]).k, (l[i]).w⟩ = X at *
  simp only [go_sem, h4, h6, h10]
  refine alloc_intro fun c11 h11 => ?_
  simp only [fresh_set, fresh_setv] at h11
  by_cases ex : X.2 = 0
  · have exb : (X.2 == 0) = true := by simpa using ex
    rw [if_pos ex] at hm
    simp only [go_sem, exb, h4, h6, h10, h11, hkk]
    have e5 : List.map Event.pv all ++ [[.int .u64 (tick + (l[i]).t % 100 : Nat), .int .u64 (l[i]).k, .int .u64 (l[i]).w]] = List.map Event.pv (all ++ [⟨tick + (l[i]).t % 100, (l[i]).k, (l[i]).w⟩]) := by rw [List.map_append]; rfl
    refine ⟨by rintro el rfl; rfl, ev_len, by clear h4 h6 h10 h11; omega, by clear h4 h6 h10 h11; omega, grow_intro fun loc' => ?_⟩
    simp only [go_sem, h4, h6, h10, h11, hkk, e5, hq]
    refine (ih (i + 1, tick + (l[i]).t % 100, X.1, all ++ [⟨tick + (l[i]).t % 100, (l[i]).k, (l[i]).w⟩], loc') ⟨c1, by dsimp only; clear h4 h6 h10 h11; omega, by dsimp only; clear h4 h6 h10 h11; omega, hgd ex, by simp; clear h4 h6 h10 h11; omega, hm⟩ (by dsimp only; clear h4 h6 h10 h11; omega)).back ?_ (by simp) ?_
    · ((try dsimp only); (repeat refine sub_set ?_ ?_) <;> first | ((repeat (first | exact Sub.refl _ | refine Sub.setF ?_ (by first | assumption | simp only [*]) | refine Sub.setV ?_ (by first | assumption | simp only [*]))); done) | (simp only [go_sem, h4, h6, h10, h11, hkk, List.length_map, e5]; done) | (simp only [go_sem, h4, h6, h10, h11, hkk, List.length_map, e5]; rfl) | rfl)
    · simp only [go_sem, hq, evsP, e5]
  · have exb : (X.2 == 0) = false := by simpa using ex
    rw [if_neg ex] at hm
    simp only [go_sem, exb, h4, h6, h10, h11, hkk]
    refine (ih (i + 1, tick + (l[i]).t % 100, g, all, loc) ⟨c1, by dsimp only; clear h4 h6 h10 h11; omega, by dsimp only; clear h4 h6 h10 h11; omega, hg, by dsimp only; clear h4 h6 h10 h11; omega, hm⟩ (by dsimp only; clear h4 h6 h10 h11; omega)).back ?_ (by simp) ?_
    · ((try dsimp only); (repeat refine sub_set ?_ ?_) <;> first | ((repeat (first | exact Sub.refl _ | refine Sub.setF ?_ (by first | assumption | simp only [*]) | refine Sub.setV ?_ (by first | assumption | simp only [*]))); done) | (simp only [go_sem, h4, h6, h10, h11, hkk]; done) | (simp only [go_sem, h4, h6, h10, h11, hkk]; rfl) | rfl)
    · simp only [go_sem, hq, evsP]
end Go.Sk
end

-- W15l
section
namespace Go.Sk
open Go Go.Proofs

def g0 : Grid := newV 2 1 [⟨5, 1⟩]
def hA : Hist := ⟨2, 0, [[⟨3, 3⟩, ⟨3, 3⟩], [⟨3, 3⟩]]⟩
def gAw : Grid := ⟨1, [⟨5, 1⟩], [[hA]], hA⟩
theorem flow0 : flowV 2 3 0 [] [] 4 = [[⟨3, 3⟩, ⟨3, 3⟩], [⟨3, 3⟩]] := by
  have a1 : outsV [] (mostN 2 0) [] 4 3 = [] := by decide
  have a2 : leftV [] (mostN 2 0) [] 4 = 1 := by decide
  have a3 : stayV [] (mostN 2 0) [] 4 3 = [⟨3, 3⟩, ⟨3, 3⟩] := by decide
  have b1 : outsV [] (mostN 2 1) [] 1 3 = [] := by decide
  have b2 : leftV [] (mostN 2 1) [] 1 = 0 := by decide
  have b3 : stayV [] (mostN 2 1) [] 1 3 = [⟨3, 3⟩] := by decide
  rw [flowV_cons (by simp), List.headD_nil, List.tail_nil, a1, a2, a3, flowV_cons (by simp), List.headD_nil, List.tail_nil, b1, b2, b3, flowV_nil (by rfl)]
theorem addH0 : addH (emptyH 2) 3 4 = (hA, 0) := by
  have hl : lastV (emptyH 2).ls = (0, false) := rfl
  have ht : totN 0 (emptyH 2).ls = 0 := rfl
  unfold addH addV
  rw [if_neg (by decide), hl, if_neg (by decide), ht, if_neg (by decide)]
  have : flowV (emptyH 2).k.toNat 3 0 (emptyH 2).ls [] 4 = [[⟨3, 3⟩, ⟨3, 3⟩], [⟨3, 3⟩]] := flow0
  rw [this]; rfl
theorem col0 (g : Grid) (h : g.w = 1) (x i : Nat) : colN g x i = 0 := by
  have := colN_lt g (by rw [h]; decide) x i
  rw [h] at this
  have e : (1 : Int).toNat = 1 := rfl
  omega
theorem add0 : addG g0 ⟨3, 9, 4⟩ = (gAw, 0) := by
  have hr : rowsV g0 ⟨3, 9, 4⟩ 1 = ([[hA]], 0) := by
    show stepG g0 ⟨3, 9, 4⟩ 0 (rowsV g0 ⟨3, 9, 4⟩ 0) = _
    have h0 : rowsV g0 ⟨3, 9, 4⟩ 0 = ([[emptyH 2]], 0) := by
      show (g0.rows, (addH (emptyH 2) 3 4).2) = _
      rw [addH0]; rfl
    rw [h0]
    unfold stepG
    rw [if_pos rfl, col0 g0 rfl]
    have e1 : (([[emptyH 2]] : List (List Hist)).getD 0 []).getD 0 zeroH = emptyH 2 := rfl
    dsimp only
    rw [e1, addH0]; rfl
  unfold addG
  rw [if_pos (by decide)]
  have hn : g0.rows.length = 1 := rfl
  rw [hn, hr, if_pos rfl]
  have : (addH g0.all 3 4).1 = hA := by
    show (addH (emptyH 2) 3 4).1 = _
    rw [addH0]
  dsimp only
  rw [this]; rfl
theorem add1 : addG g0 ⟨3, 2305843009213693951, 4⟩ = (zeroG, 7) := by unfold addG; rw [if_neg (by decide)]
theorem est0 : estV hA.ls 3 1 = 4 := by
  have u0 : units 0 = 1 := by unfold units; rw [m64_id (by decide)]; rfl
  have u1 : units 1 = 2 := by unfold units; rw [m64_id (by decide)]; rfl
  have w1 : inW 3 1 3 = true := by unfold inW; rw [sub64_eq]; decide
  have m1 : m64 1 = 1 := m64_id (by decide)
  have m2 : m64 2 = 2 := m64_id (by decide)
  have m4 : m64 4 = 4 := m64_id (by decide)
  unfold estV partsV
  simp [hA, bucksF, partsF, partStep, w1, u0, u1, m1, m2, m4]
theorem row0 : rowV gAw 0 77 3 1 = 4 := by
  unfold rowV
  rw [if_pos ⟨by decide, by decide, by decide⟩, col0 gAw rfl]
  exact est0
theorem row1 : rowV gAw 1 77 3 1 = 0 := by
  unfold rowV
  rw [if_neg (by decide)]
theorem g0_good : g0.Good := newV_good (by decide) (by decide) (by decide) (by decide) (by decide) (by intro s hs; simp only [List.mem_singleton] at hs; subst hs; decide)
theorem gA_good : gAw.Good := by
  have := addG_good g0_good ⟨3, 9, 4⟩ (by rw [add0])
  rwa [add0] at this

set_option maxHeartbeats 1000000 in
set_option maxRecDepth 8000 in
theorem awake : Pure Tryz.prog 4 [] (bl true) := fun S => by
  refine callR_of Tryz.func4 rfl rfl (xc_ok (bitB 95) _ _ _ ?_)
  simp only [go_sem]
  have hc : confV 2 1 [⟨5, 1⟩] = 0 := by decide
  have hN := grid_New 2 1 [⟨5, 1⟩] (by decide)
  rw [hc, if_pos rfl] at hN
  refine hN.useA ?_
  simp only [go_sem]
  refine alloc_intro fun c1 h1 => ?_
  simp only [go_sem]
  have hA1 := grid_Add g0 ⟨3, 9, 4⟩ g0_good.ok (by decide) (by decide)
  rw [add0] at hA1
  refine hA1.useA ?_
  simp only [go_sem, h1]
  refine alloc_intro fun c3 h3 => ?_
  simp only [fresh_set] at h3
  simp only [go_sem, h3]
  have hA2 := grid_Add g0 ⟨3, 2305843009213693951, 4⟩ g0_good.ok (by decide) (by decide)
  rw [add1] at hA2
  refine hA2.useA ?_
  simp only [go_sem, h3]
  refine alloc_intro fun c5 h5 => ?_
  simp only [fresh_set] at h5
  simp only [go_sem, h3, h5]
  refine AWP.draw2 (bitB 95) mixed (by kernel_rfl) (fun j => if j = 25 then bl true else if j = 29 then u64 4 else if j = 34 then u64 0 else bl true) ?_
  have e1 : ((gAw.rows.length : Int) == 1) = true := by decide
  have e2 : ((0 : Nat) < gAw.rows.length) = True := by simp [gAw]
  have e3 : ((gAw.rows.map rowE).getD 0 []) = [.sl [hA.cs]] := rfl
  have s1 := hist_Same hA gAw.all gA_good.all.small
  rw [show decide (hA = gAw.all) = true by decide] at s1
  have s2 := grid_Row gAw gA_good.ok 0 77 3 1 (by decide)
  rw [row0] at s2
  have s3 := grid_Row gAw gA_good.ok 1 77 3 1 (by decide)
  rw [row1] at s3
  have s4 := grid_Same gAw gAw gA_good.small
  rw [decide_eq_true (rfl : gAw = gAw)] at s4
  simp only [go_sem, h3, h5, e1, e2, e3]
  refine ⟨s1.draw, s2.draw, s3.draw, s4.draw, ?_⟩
  (refine ⟨S, by (repeat (first | exact Sub.refl _ | refine Sub.setF ?_ (by first | assumption | simp only [*]) | refine Sub.setV ?_ (by first | assumption | simp only [*]))), ?_⟩); simp

end Go.Sk
end

-- L15a
section
namespace Go.Sk
open Go Go.Proofs Go.ChangeShapes Go.WideShapes Go.ChangeAt Go.RowKit

theorem fit_seeds {N : Nat} {pv : PV} (h : Fit N (.sl [.int .u64, .int .u64]) pv) : ∃ l : List Seed, pv = .sl (l.map Seed.pv) ∧ (∀ e ∈ l, e.Ok) ∧ l.length ≤ N := by
  refine fit_list (pvf := Seed.pv) (ok := Seed.Ok) h (fun l hl hf => ?_)
  obtain ⟨a, b, rfl, ha, hb⟩ := fit_two hl hf
  obtain ⟨x, hx, rfl⟩ := fit_u64 ha
  obtain ⟨y, hy, rfl⟩ := fit_u64 hb
  exact ⟨⟨x, y⟩, rfl, hx, hy⟩
structure Conf2.Ok (c : Conf2) : Prop where
  k : c.k < 9223372036854775808
  w : c.w < 9223372036854775808
  k0 : -9223372036854775808 ≤ c.k
  w0 : -9223372036854775808 ≤ c.w
  so : ∀ s ∈ c.sd, s.Ok
  n : c.sd.length ≤ 1048576
theorem shConf : shOf Tryz.prog 8 24 = some [.int .i64, .int .i64, .sl [.int .u64, .int .u64]] := by kernel_rfl
section
variable {H : Type} {enc : TypeId × Value → H}
set_option maxRecDepth 100000 in
theorem arg_conf {W : World} {base : Nat} {v : Value} {d : DataW H} {p : List MemPlace} (hok : Value.okWide Tryz.prog W .any base 24 v) (h : DataW.Trod enc Tryz.prog W 0 (fun _ => true) true 24 v d p) (hN : YtjiechgnlcpllaaGreat.Rows.uptoBulk d ≤ 1048576) :
    ∃ c : Conf2, c.Ok ∧ RepA (allD W) W v c.av := by
  obtain ⟨pvs, hl, hf, hr⟩ := arg_agg (N := 1048576) (f := 8) (bulkOk H) shConf (by rw [Tryz.underlying24]) hok h hN
  match pvs, hl with
  | [a, b, c], _ =>
    obtain ⟨x, ⟨hx0, hx⟩, e1⟩ := fit_i64 (hf 0 (by simp))
    obtain ⟨y, ⟨hy0, hy⟩, e2⟩ := fit_i64 (hf 1 (by simp))
    obtain ⟨s, e3, hs, hsn⟩ := fit_seeds (hf 2 (by simp))
    simp at e1 e2 e3
    subst e1; subst e2; subst e3
    exact ⟨⟨x, y, s⟩, ⟨hx, hy, hx0, hy0, hs, hsn⟩, hr⟩
end
end Go.Sk
end

-- A30
section
namespace Go.Sk

theorem pairUp_app (Q : List Span) : ∀ P : List Span, P.length % 2 = 0 → pairUp (P ++ Q) = pairUp P ++ pairUp Q := by
  intro P
  induction P using pairUp.induct with
  | case1 a b r ih =>
    intro h
    simp only [List.cons_append, pairUp]
    rw [ih (by simp only [List.length_cons] at h; omega)]
  | case2 l h =>
    intro he
    match l, h with
    | [], _ => rfl
    | [x], _ => simp at he
    | x :: y :: r, h => exact absurd rfl (h x y r)
/-- What stays on each level, of a stream. -/
def flowS (k : Nat) (i : Nat) (ls : List (List Span)) (c : List Span) : List (List Span) :=
  match ls with
  | l :: r => (l ++ c).drop (2 * pairsN (l ++ c).length (mostN k i)) :: flowS k (i + 1) r (pairUp ((l ++ c).take (2 * pairsN (l ++ c).length (mostN k i))))
  | [] => if _h : c.length = 0 then [] else c.drop (2 * pairsN c.length (mostN k i)) :: flowS k (i + 1) [] (pairUp (c.take (2 * pairsN c.length (mostN k i))))
termination_by (ls.length, c.length)
decreasing_by
  · exact Prod.Lex.left _ _ (by simp)
  · refine Prod.Lex.right _ ?_
    rw [pairUp_length, List.length_take]
    have := mostN_pos k i
    unfold pairsN; omega
theorem flowS_nil (k i : Nat) : flowS k i [] [] = [] := by rw [flowS, dif_pos List.length_nil]
theorem flowS_cons {k i : Nat} {ls : List (List Span)} {c : List Span} (h : ¬ (ls = [] ∧ c = [])) :
    flowS k i ls c = (ls.headD [] ++ c).drop (2 * pairsN (ls.headD [] ++ c).length (mostN k i)) :: flowS k (i + 1) ls.tail (pairUp ((ls.headD [] ++ c).take (2 * pairsN (ls.headD [] ++ c).length (mostN k i)))) := by
  cases ls with
  | cons l r => rw [flowS]; rfl
  | nil =>
    have hc : ¬ c.length = 0 := fun e => h ⟨rfl, List.eq_nil_of_length_eq_zero e⟩
    rw [flowS, dif_neg hc]; rfl
theorem flowS_eq (k tick : Nat) (ls : List (List Span)) (i : Nat) (come : List Span) (many : Nat) : flowV k tick i ls come many = flowS k i ls (come ++ List.replicate many (⟨tick, tick⟩ : Span)) := by
  refine flow_c k tick (fun i ls c out => out = flowS k i ls c) ?_ ?_ ls i come many
  · intro i; rw [flowS_nil]
  · intro i ls c out hne ih
    rw [flowS_cons hne, ih]
/-- One by one is as all at once. -/
theorem flowS_ind (k : Nat) (p : Nat → List (List Span) → List Span → Prop) (h0 : ∀ i, p i [] [])
    (h1 : ∀ i ls c, ¬ (ls = [] ∧ c = []) → p (i + 1) ls.tail (pairUp ((ls.headD [] ++ c).take (2 * pairsN (ls.headD [] ++ c).length (mostN k i)))) → p i ls c) : ∀ ls i c, p i ls c := by
  have hnil : ∀ b i (c : List Span), c.length ≤ b → p i [] c := by
    intro b
    induction b with
    | zero => intro i c h; obtain rfl := List.eq_nil_of_length_eq_zero (Nat.le_zero.1 h); exact h0 i
    | succ b ih =>
      intro i c h
      by_cases hz : c = []
      · subst hz; exact h0 i
      · refine h1 i [] c (fun e => hz e.2) (ih _ _ ?_)
        rw [pairUp_length, List.length_take]
        have := mostN_pos k i
        have : 0 < c.length := List.length_pos_iff.2 hz
        unfold pairsN; simp only [List.headD_nil, List.nil_append]; omega
  intro ls
  induction ls with
  | nil => intro i c; exact hnil _ i c (Nat.le_refl _)
  | cons l r ih => intro i c; exact h1 i (l :: r) c (by simp) (ih _ _)
theorem flowS_ne {k i : Nat} {ls : List (List Span)} {c : List Span} (h : ¬ (ls = [] ∧ c = [])) : flowS k i ls c ≠ [] := by rw [flowS_cons h]; simp
theorem flowS_two (k : Nat) : ∀ ls i (c d : List Span), flowS k i (flowS k i ls c) d = flowS k i ls (c ++ d) := by
  intro ls i c
  refine flowS_ind k (fun i ls c => ∀ d, flowS k i (flowS k i ls c) d = flowS k i ls (c ++ d)) ?_ ?_ ls i c
  · intro i d; rw [flowS_nil, List.nil_append]
  · intro i ls c hne ih d
    have hne2 : ¬ (ls = [] ∧ c ++ d = []) := fun e => hne ⟨e.1, (List.append_eq_nil_iff.1 e.2).1⟩
    rw [flowS_cons (ls := flowS k i ls c) (fun e => flowS_ne hne e.1), flowS_cons hne, flowS_cons hne2]
    simp only [List.headD_cons, List.tail_cons]
    have e1 : ls.headD [] ++ (c ++ d) = (ls.headD [] ++ c) ++ d := (List.append_assoc _ _ _).symm
    rw [e1]
    generalize ls.headD [] ++ c = L at *
    have hm := mostN_pos k i
    have hp1 : 2 * pairsN L.length (mostN k i) ≤ L.length := by unfold pairsN; omega
    have hn : (L.drop (2 * pairsN L.length (mostN k i)) ++ d).length = L.length - 2 * pairsN L.length (mostN k i) + d.length := by simp
    have hp : pairsN (L ++ d).length (mostN k i) = pairsN L.length (mostN k i) + pairsN (L.drop (2 * pairsN L.length (mostN k i)) ++ d).length (mostN k i) := by
      rw [hn, List.length_append]; unfold pairsN; omega
    rw [hp]
    generalize pairsN (L.drop (2 * pairsN L.length (mostN k i)) ++ d).length (mostN k i) = p2
    generalize pairsN L.length (mostN k i) = p1 at *
    have ed : (L ++ d).drop (2 * (p1 + p2)) = (L.drop (2 * p1) ++ d).drop (2 * p2) := by
      rw [Nat.mul_add, ← List.drop_drop, List.drop_append_of_le_length hp1]
    have et : (L ++ d).take (2 * (p1 + p2)) = L.take (2 * p1) ++ (L.drop (2 * p1) ++ d).take (2 * p2) := by
      rw [Nat.mul_add, List.take_add, List.take_append_of_le_length hp1, List.drop_append_of_le_length hp1]
    rw [ed, et, pairUp_app _ _ (by rw [List.length_take]; omega), ih]
/-- Each level has at most so many. -/
def Most (k : Nat) : Nat → List (List Span) → Prop
  | _, [] => True
  | i, l :: r => l.length ≤ mostN k i ∧ Most k (i + 1) r
theorem flowS_most (k : Nat) : ∀ ls i (c : List Span), Most k i (flowS k i ls c) := by
  refine flowS_ind k (fun i ls c => Most k i (flowS k i ls c)) ?_ ?_
  · intro i; rw [flowS_nil]; exact True.intro
  · intro i ls c hne ih
    rw [flowS_cons hne]
    refine ⟨?_, ih⟩
    rw [List.length_drop]; unfold pairsN; omega
theorem most_mem {k : Nat} : ∀ (ls : List (List Span)) (i : Nat), Most k i ls → ∀ l ∈ ls, ∃ j, i ≤ j ∧ l.length ≤ mostN k j := by
  intro ls
  induction ls with
  | nil => intro i _ l hl; cases hl
  | cons x r ih =>
    intro i h l hl
    rcases List.mem_cons.1 hl with rfl | hl
    · exact ⟨i, Nat.le_refl _, h.1⟩
    · obtain ⟨j, h1, h2⟩ := ih (i + 1) h.2 l hl
      exact ⟨j, by omega, h2⟩
/-- Units of lumps. -/
def unitsE (l : List (Nat × Nat)) : List Span := l.flatMap fun x => List.replicate x.2 ⟨x.1, x.1⟩
theorem unitsE_cons (x : Nat × Nat) (l : List (Nat × Nat)) : unitsE (x :: l) = List.replicate x.2 ⟨x.1, x.1⟩ ++ unitsE l := rfl
theorem unitsE_perm {l m : List (Nat × Nat)} (h : l.Perm m) : (unitsE l).Perm (unitsE m) := List.Perm.flatMap_right _ h
def Ord (l : List (Nat × Nat)) : Prop := l.Pairwise (fun x y => x.1 ≤ y.1)
theorem unitsE_srt {l : List (Nat × Nat)} (h : Ord l) : (unitsE l).Pairwise (fun x y => x.a ≤ y.a) := by
  induction l with
  | nil => exact List.Pairwise.nil
  | cons x r ih =>
    unfold Ord at h
    rw [List.pairwise_cons] at h
    rw [unitsE_cons]
    refine List.pairwise_append.2 ⟨List.pairwise_replicate.2 (Or.inr (Nat.le_refl _)), ih h.2, fun a ha b hb => ?_⟩
    rw [List.eq_of_mem_replicate ha]
    obtain ⟨y, hy, hb⟩ := List.mem_flatMap.1 hb
    rw [List.eq_of_mem_replicate hb]
    exact h.1 y hy
theorem unitsE_one {l : List (Nat × Nat)} : ∀ s ∈ unitsE l, s.a = s.b := by
  intro s hs
  obtain ⟨y, _, hb⟩ := List.mem_flatMap.1 hs
  rw [List.eq_of_mem_replicate hb]
/-- In whatever turn lumps of one tick stand. -/
theorem unitsE_same {l m : List (Nat × Nat)} (h : l.Perm m) (hl : Ord l) (hm : Ord m) : unitsE l = unitsE m := by
  refine List.Perm.eq_of_pairwise (le := fun x y : Span => x.a ≤ y.a) (fun a b ha hb h1 h2 => ?_) (unitsE_srt hl) (unitsE_srt hm) (unitsE_perm h)
  have e1 := unitsE_one a ha
  have e2 := unitsE_one b hb
  cases a; cases b
  simp only at *
  simp only [Span.mk.injEq]
  omega
end Go.Sk
end

-- A12
section
namespace Go.Sk

structure Buf where (late : Nat) (room : Int) (mark : Nat) (front : Nat) (evs : List Event)
  deriving DecidableEq
def zeroB : Buf := ⟨0, 0, 0, 0, []⟩
/-- How many, at the head, are of ticks up to one. -/
def belowN (f : Nat) : List Event → Nat
  | [] => 0
  | e :: l => if e.t ≤ f then belowN f l + 1 else 0
theorem belowN_cons (f : Nat) (e : Event) (l : List Event) : belowN f (e :: l) = if e.t ≤ f then belowN f l + 1 else 0 := rfl
theorem belowN_le (f : Nat) (l : List Event) : belowN f l ≤ l.length := by
  induction l with
  | nil => exact Nat.le_refl _
  | cons e l ih => rw [belowN_cons]; split <;> simp <;> omega
theorem belowN_lt (f : Nat) : ∀ (l : List Event) (i : Nat) (h : i < l.length), i < belowN f l → (l[i]).t ≤ f := by
  intro l
  induction l with
  | nil => intro i h; simp at h
  | cons e l ih =>
    intro i h hi
    rw [belowN_cons] at hi
    split at hi
    · rename_i c
      cases i with
      | zero => exact c
      | succ i => exact ih i (by simpa using h) (by omega)
    · omega
theorem belowN_at (f : Nat) : ∀ (l : List Event) (h : belowN f l < l.length), f < (l[belowN f l]).t := by
  intro l
  induction l with
  | nil => intro h; simp at h
  | cons e l ih =>
    intro h
    by_cases c : e.t ≤ f
    · have e1 : belowN f (e :: l) = belowN f l + 1 := by rw [belowN_cons, if_pos c]
      have h2 : belowN f l < l.length := by rw [e1] at h; simpa using h
      simp only [e1, List.getElem_cons_succ]
      exact ih h2
    · have e1 : belowN f (e :: l) = 0 := by rw [belowN_cons, if_neg c]
      simp only [e1, List.getElem_cons_zero]; omega
/-- One by one: i of them are. -/
theorem belowN_step (f : Nat) (l : List Event) (i : Nat) (h : i < l.length) (hi : i ≤ belowN f l) : ((l[i]).t ≤ f → i + 1 ≤ belowN f l) ∧ (f < (l[i]).t → i = belowN f l) := by
  refine ⟨fun hb => ?_, fun hb => ?_⟩
  · apply Classical.byContradiction
    intro hc
    obtain rfl : i = belowN f l := by omega
    have := belowN_at f l h; omega
  · apply Classical.byContradiction
    intro hc
    have := belowN_lt f l i h (by omega); omega
theorem belowN_ge (f : Nat) : ∀ (l : List Event) (n : Nat), n ≤ l.length → (∀ i (h : i < l.length), i < n → (l[i]).t ≤ f) → n ≤ belowN f l := by
  intro l n hn h
  apply Classical.byContradiction
  intro hc
  have hlt : belowN f l < l.length := by omega
  have h1 := belowN_at f l hlt
  have h2 := h _ hlt (by omega)
  omega
theorem belowN_more (f : Nat) (l : List Event) (h : belowN f l < l.length) : belowN f l < belowN (l[belowN f l]).t l := by
  refine belowN_ge _ _ _ (by omega) fun i hi hlt => ?_
  by_cases c : i < belowN f l
  · have h1 := belowN_lt f l i hi c
    have h2 := belowN_at f l h
    omega
  · have : i = belowN f l := by omega
    subst this
    exact Nat.le_refl _
/-- The front, and how many go out. -/
def settleN (room : Nat) (l : List Event) (f : Nat) : Nat × Nat :=
  if h : room < l.length - belowN f l then settleN room l (l[belowN f l]'(by omega)).t else (f, belowN f l)
termination_by l.length - belowN f l
decreasing_by
  have := belowN_more f l (by omega)
  omega
theorem settleN_go {room : Nat} {l : List Event} {f : Nat} (h : room < l.length - belowN f l) : settleN room l f = settleN room l (l[belowN f l]'(by omega)).t := by
  rw [settleN, dif_pos h]
theorem settleN_end {room : Nat} {l : List Event} {f : Nat} (h : ¬ room < l.length - belowN f l) : settleN room l f = (f, belowN f l) := by
  rw [settleN, dif_neg h]
theorem settle_ind (room : Nat) (l : List Event) (p : Nat → Nat × Nat → Prop) (h0 : ∀ f, ¬ room < l.length - belowN f l → p f (f, belowN f l))
    (h1 : ∀ f r, (h : room < l.length - belowN f l) → p (l[belowN f l]'(by omega)).t r → p f r) : ∀ f, p f (settleN room l f) := by
  have key : ∀ n f, l.length - belowN f l ≤ n → p f (settleN room l f) := by
    intro n
    induction n with
    | zero => intro f hn; rw [settleN_end (by omega)]; exact h0 f (by omega)
    | succ n ih =>
      intro f hn
      by_cases c : room < l.length - belowN f l
      · rw [settleN_go c]
        have := belowN_more f l (by omega)
        exact h1 f _ c (ih _ (by omega))
      · rw [settleN_end c]; exact h0 f c
  exact fun f => key _ f (Nat.le_refl _)
theorem settle_facts (room : Nat) (l : List Event) : ∀ f, f ≤ (settleN room l f).1 ∧ (settleN room l f).2 = belowN (settleN room l f).1 l ∧ l.length - (settleN room l f).2 ≤ room ∧ (∀ m, f ≤ m → (∀ e ∈ l, e.t ≤ m) → (settleN room l f).1 ≤ m) := by
  refine settle_ind room l (fun f r => f ≤ r.1 ∧ r.2 = belowN r.1 l ∧ l.length - r.2 ≤ room ∧ (∀ m, f ≤ m → (∀ e ∈ l, e.t ≤ m) → r.1 ≤ m)) ?_ ?_
  · intro f h; exact ⟨Nat.le_refl _, rfl, by dsimp only; omega, fun m hm _ => hm⟩
  · intro f r h ⟨i1, i2, i3, i4⟩
    have := belowN_at f l (by omega)
    exact ⟨by omega, i2, i3, fun m hm hl => i4 m (hl _ (List.getElem_mem _)) hl⟩

/-- A buffer settled, and what goes out. -/
def settleB (b : Buf) : Buf × List Event :=
  (⟨b.late, b.room, b.mark, (settleN b.room.toNat b.evs (max b.front (b.mark - b.late))).1, b.evs.drop (settleN b.room.toNat b.evs (max b.front (b.mark - b.late))).2⟩, b.evs.take (settleN b.room.toNat b.evs (max b.front (b.mark - b.late))).2)
def insE (l : List Event) (e : Event) : List Event := l.take (belowN e.t l) ++ [e] ++ l.drop (belowN e.t l)
/-- An event comes. -/
def pushB (b : Buf) (e : Event) : (Buf × List Event) × Int :=
  if e.w = 0 then ((zeroB, []), 1) else if 9223372036854775807 < e.t then ((zeroB, []), 6) else if e.t < b.front then ((zeroB, []), 4)
  else (settleB ⟨b.late, b.room, max b.mark e.t, b.front, insE b.evs e⟩, 0)
/-- Time goes on. -/
def moveB (b : Buf) (t : Nat) : (Buf × List Event) × Int :=
  if 9223372036854775807 < t then ((zeroB, []), 6) else (settleB ⟨b.late, b.room, max b.mark t, b.front, b.evs⟩, 0)

/-! By the document. -/
def splO (f : Nat) (l : List Event) : List Event := l.filter (fun e => decide (e.t ≤ f))
def splS (f : Nat) (l : List Event) : List Event := l.filter (fun e => !decide (e.t ≤ f))
theorem splS_head (e : Event) (l : List Event) : (splS e.t (e :: l)).length < (e :: l).length := by
  unfold splS
  rw [List.filter_cons_of_neg (by simp)]
  have := List.length_filter_le (fun x => !decide (x.t ≤ e.t)) l
  simp only [List.length_cons]; omega
def docS (room f : Nat) (out stay : List Event) : Nat × List Event × List Event :=
  match stay with
  | [] => (f, out, [])
  | e :: l => if room < (e :: l).length then docS room e.t (out ++ splO e.t (e :: l)) (splS e.t (e :: l)) else (f, out, e :: l)
termination_by stay.length
decreasing_by exact splS_head e l
def Srt (l : List Event) : Prop := l.Pairwise (fun x y => x.t ≤ y.t)
theorem spl_eq (f : Nat) : ∀ l, Srt l → splO f l = l.take (belowN f l) ∧ splS f l = l.drop (belowN f l) := by
  intro l
  induction l with
  | nil => intro _; exact ⟨rfl, rfl⟩
  | cons e l ih =>
    intro h
    unfold Srt at h
    rw [List.pairwise_cons] at h
    obtain ⟨i1, i2⟩ := ih h.2
    unfold splO splS at *
    rw [belowN_cons]
    by_cases c : e.t ≤ f
    · rw [if_pos c, List.take_succ_cons, List.drop_succ_cons, List.filter_cons_of_pos (by simpa using c), List.filter_cons_of_neg (by simp; exact c), i1, i2]
      exact ⟨rfl, rfl⟩
    · rw [if_neg c, List.take_zero, List.drop_zero]
      have hall : ∀ x ∈ e :: l, ¬ x.t ≤ f := by
        intro x hx
        rcases List.mem_cons.1 hx with rfl | hx
        · exact c
        · have := h.1 x hx; omega
      refine ⟨List.filter_eq_nil_iff.2 fun x hx => by simpa using hall x hx, List.filter_eq_self.2 fun x hx => by simpa using hall x hx⟩
theorem Srt.drop {l : List Event} (h : Srt l) (n : Nat) : Srt (l.drop n) := List.Pairwise.sublist (List.drop_sublist n l) h
theorem Srt.take {l : List Event} (h : Srt l) (n : Nat) : Srt (l.take n) := List.Pairwise.sublist (List.take_sublist n l) h
theorem belowN_drop (f : Nat) : ∀ (l : List Event) (n : Nat), n ≤ belowN f l → belowN f (l.drop n) = belowN f l - n := by
  intro l
  induction l with
  | nil => intro n h; simp [belowN] at h ⊢
  | cons e l ih =>
    intro n h
    cases n with
    | zero => rfl
    | succ n =>
      rw [belowN_cons] at h ⊢
      split at h
      · rename_i c; rw [List.drop_succ_cons, ih n (by omega), if_pos c]; omega
      · omega
theorem docS_eq (room : Nat) (l : List Event) (hs : Srt l) : ∀ f, docS room f (l.take (belowN f l)) (l.drop (belowN f l)) = ((settleN room l f).1, l.take (settleN room l f).2, l.drop (settleN room l f).2) := by
  refine settle_ind room l (fun f r => docS room f (l.take (belowN f l)) (l.drop (belowN f l)) = (r.1, l.take r.2, l.drop r.2)) ?_ ?_
  · intro f h
    have hl : ¬ room < (l.drop (belowN f l)).length := by rw [List.length_drop]; exact h
    cases hd : l.drop (belowN f l) with
    | nil => rw [docS]
    | cons e r => rw [docS]; rw [hd] at hl; rw [if_neg hl]
  · intro f r h ih
    have hlt : belowN f l < l.length := by omega
    have hm := belowN_more f l hlt
    rw [List.drop_eq_getElem_cons hlt, docS]
    rw [if_pos (by simp only [List.length_cons, List.length_drop]; omega), ← List.drop_eq_getElem_cons hlt]
    obtain ⟨s1, s2⟩ := spl_eq (l[belowN f l]).t _ (hs.drop (belowN f l))
    rw [s1, s2, belowN_drop _ _ _ (by omega), List.drop_drop, ← List.take_add, show belowN f l + (belowN (l[belowN f l]).t l - belowN f l) = belowN (l[belowN f l]).t l by omega]
    exact ih
end Go.Sk
end

-- A20
section
namespace Go.Sk

/-- Is a tick too old? -/
noncomputable def oldV (f w t : Nat) : Bool := decide (w ≤ f) && decide (t ≤ sub64 f w)
def Anti (o : Nat → Bool) : Prop := ∀ x y, x ≤ y → o y = true → o x = true
theorem oldV_anti (f w : Nat) : Anti (oldV f w) := by
  intro x y h hy
  unfold oldV at *
  simp only [Bool.and_eq_true, decide_eq_true_eq] at *
  exact ⟨hy.1, by omega⟩
/-- How many at the head of a level are too old. -/
def oldN (o : Nat → Bool) : List Span → Nat
  | [] => 0
  | s :: l => if o s.b = true then oldN o l + 1 else 0
/-- What is left: level by level, as long as there is something. -/
def dropG (o : Nat → Bool) : List (List Span) → List (List Span)
  | [] => []
  | l :: r => if oldN o l < l.length then l.drop (oldN o l) :: dropG o r else []
theorem oldN_cons (o : Nat → Bool) (s : Span) (l : List Span) : oldN o (s :: l) = if o s.b = true then oldN o l + 1 else 0 := rfl
theorem oldN_le (o : Nat → Bool) (l : List Span) : oldN o l ≤ l.length := by
  induction l with
  | nil => exact Nat.le_refl _
  | cons s l ih => unfold oldN; split <;> simp <;> omega
theorem oldN_lt (o : Nat → Bool) : ∀ (l : List Span) (i : Nat) (h : i < l.length), i < oldN o l → o (l[i]).b = true := by
  intro l
  induction l with
  | nil => intro i h; simp at h
  | cons s l ih =>
    intro i h hi
    unfold oldN at hi
    split at hi
    · rename_i c
      cases i with
      | zero => exact c
      | succ i => exact ih i (by simpa using h) (by omega)
    · omega
theorem oldN_at (o : Nat → Bool) : ∀ (l : List Span) (h : oldN o l < l.length), o (l[oldN o l]).b = false := by
  intro l
  induction l with
  | nil => intro h; simp at h
  | cons s l ih =>
    intro h
    by_cases c : o s.b = true
    · have e : oldN o (s :: l) = oldN o l + 1 := by rw [oldN_cons, if_pos c]
      have h2 : oldN o l < l.length := by rw [e] at h; simpa using h
      simp only [e, List.getElem_cons_succ]
      exact ih h2
    · have e : oldN o (s :: l) = 0 := by rw [oldN_cons, if_neg c]
      simp only [e, List.getElem_cons_zero]
      simpa using c
/-- One by one: i of a level are too old. -/
theorem oldN_step (o : Nat → Bool) (l : List Span) (i : Nat) (h : i < l.length) (hi : i ≤ oldN o l) : (o (l[i]).b = true → i + 1 ≤ oldN o l) ∧ (o (l[i]).b = false → i = oldN o l) := by
  refine ⟨fun hb => ?_, fun hb => ?_⟩
  · apply Classical.byContradiction
    intro hc
    obtain rfl : i = oldN o l := by omega
    rw [oldN_at o l h] at hb; cases hb
  · apply Classical.byContradiction
    intro hc
    rw [oldN_lt o l i h (by omega)] at hb; cases hb

def stayF (o : Nat → Bool) (l : List Span) : List Span := l.filter (fun s => !o s.b)
def manyF : Nat → Nat → List (List Span) → Nat
  | _, n, [] => n
  | i, n, l :: r => manyF (i + 1) (if l = [] then n else i + 1) r
def dropH (D : List (List Span) → List (List Span)) (h : Hist) : Hist := ⟨h.k, h.g, D h.ls⟩
/-- By the document. -/
def docD (o : Nat → Bool) (ls : List (List Span)) : List (List Span) := (ls.map (stayF o)).take (manyF 0 0 (ls.map (stayF o)))
theorem manyF_snoc (l : List Span) : ∀ (r : List (List Span)) (i n : Nat), manyF i n (r ++ [l]) = if l = [] then manyF i n r else i + r.length + 1 := by
  intro r
  induction r with
  | nil => intro i n; simp [manyF]
  | cons x r ih => intro i n; simp only [List.cons_append, manyF, ih, List.length_cons]; split <;> omega
theorem manyF_all : ∀ (r : List (List Span)) (i n : Nat), (∀ l ∈ r, l = []) → manyF i n r = n := by
  intro r
  induction r with
  | nil => intro i n _; rfl
  | cons x r ih => intro i n h; unfold manyF; rw [if_pos (h x (by simp)), ih _ _ (fun l hl => h l (by simp [hl]))]
theorem manyF_ge : ∀ (r : List (List Span)) (i n : Nat), n ≤ i → manyF i n r = n ∨ i < manyF i n r := by
  intro r
  induction r with
  | nil => intro i n _; exact Or.inl rfl
  | cons x r ih =>
    intro i n h
    unfold manyF
    split
    · rcases ih (i + 1) n (by omega) with e | e
      · exact Or.inl e
      · exact Or.inr (by omega)
    · rcases ih (i + 1) (i + 1) (by omega) with e | e
      · exact Or.inr (by omega)
      · exact Or.inr (by omega)
theorem manyF_le : ∀ (r : List (List Span)) (i n : Nat), n ≤ i → manyF i n r ≤ i + r.length := by
  intro r
  induction r with
  | nil => intro i n h; simpa [manyF] using h
  | cons x r ih =>
    intro i n h
    unfold manyF
    rw [List.length_cons]
    split
    · have := ih (i + 1) n (by omega); omega
    · have := ih (i + 1) (i + 1) (by omega); omega
/-- Of a sorted level, what stays is its end. -/
theorem stay_drop {o : Nat → Bool} (ho : Anti o) : ∀ l : List Span, l.Pairwise Bef → (∀ s ∈ l, s.a ≤ s.b) → stayF o l = l.drop (oldN o l) := by
  intro l
  induction l with
  | nil => intro _ _; rfl
  | cons s l ih =>
    intro h hv
    rw [List.pairwise_cons] at h
    have hvs := fun x hx => hv x (List.mem_cons_of_mem _ hx)
    unfold stayF at *
    rw [oldN_cons]
    by_cases c : o s.b = true
    · rw [if_pos c, List.drop_succ_cons, List.filter_cons_of_neg (by simp [c])]
      exact ih h.2 hvs
    · rw [if_neg c, List.drop_zero, List.filter_eq_self]
      intro x hx
      rcases List.mem_cons.1 hx with rfl | hx
      · simpa using c
      · have h1 : s.b ≤ x.b := Nat.le_trans (h.1 x hx) (hvs x hx)
        cases hb : o x.b with
        | false => rfl
        | true => exact absurd (ho _ _ h1 hb) c
theorem doc_go_aux {o : Nat → Bool} (ho : Anti o) : ∀ (ls : List (List Span)) (i : Nat), (flat ls).Pairwise Bef → (∀ s ∈ flat ls, s.a ≤ s.b) → (∀ l ∈ ls, l ≠ []) →
    (ls.map (stayF o)).take (manyF i i (ls.map (stayF o)) - i) = dropG o ls := by
  intro ls
  induction ls with
  | nil => intro i _ _ _; simp [dropG]
  | cons l r ih =>
    intro i hs hv hne
    obtain ⟨s1, s2, s3⟩ := List.pairwise_append.1 (show (flat r ++ l).Pairwise Bef from hs)
    have hvl : ∀ s ∈ l, s.a ≤ s.b := fun s h => hv s (List.mem_append_right _ h)
    have hvr : ∀ s ∈ flat r, s.a ≤ s.b := fun s h => hv s (List.mem_append_left _ h)
    have hst := stay_drop ho l s2 hvl
    have hle := oldN_le o l
    unfold dropG
    by_cases c : oldN o l < l.length
    · rw [if_pos c]
      have hn : stayF o l ≠ [] := by rw [hst]; intro e; have := congrArg List.length e; simp at this; omega
      have ihr := ih (i + 1) s1 hvr (fun x hx => hne x (by simp [hx]))
      simp only [List.map_cons, manyF]
      rw [if_neg hn]
      have hge : i + 1 ≤ manyF (i + 1) (i + 1) (r.map (stayF o)) := by
        rcases manyF_ge (r.map (stayF o)) (i + 1) (i + 1) (Nat.le_refl _) with e | e <;> omega
      rw [show manyF (i + 1) (i + 1) (r.map (stayF o)) - i = (manyF (i + 1) (i + 1) (r.map (stayF o)) - (i + 1)) + 1 by omega, List.take_succ_cons, ihr, hst]
    · rw [if_neg c]
      have hz : stayF o l = [] := by rw [hst]; exact List.drop_of_length_le (by omega)
      have hl0 : 0 < l.length := List.length_pos_iff.2 (hne l (by simp))
      have hold : o (l[0]).b = true := oldN_lt o l 0 hl0 (by omega)
      have hall : ∀ x ∈ flat r, o x.b = true := fun x hx => by
        have h1 := s3 x hx l[0] (List.getElem_mem hl0)
        exact ho _ _ (Nat.le_trans h1 (hvl _ (List.getElem_mem hl0))) hold
      have hmem : ∀ (r : List (List Span)), ∀ m ∈ r, ∀ x ∈ m, x ∈ flat r := by
        intro r
        induction r with
        | nil => intro m hm; cases hm
        | cons y r ih2 =>
          intro m hm x hx
          rcases List.mem_cons.1 hm with rfl | hm
          · exact List.mem_append_right _ hx
          · exact List.mem_append_left _ (ih2 m hm x hx)
      have he : ∀ m ∈ r.map (stayF o), m = [] := by
        intro m hm
        obtain ⟨y, hy, rfl⟩ := List.mem_map.1 hm
        unfold stayF
        rw [List.filter_eq_nil_iff]
        intro x hx
        rw [hall x (hmem r y hy x hx)]; simp
      simp only [List.map_cons, manyF]
      rw [if_pos hz, manyF_all _ _ _ he, Nat.sub_self, List.take_zero]
/-- Both leave the same. -/
theorem docD_eq {o : Nat → Bool} (ho : Anti o) {k : Nat} {ls : List (List Span)} (h : Tidy k ls) (hne : ∀ l ∈ ls, l ≠ []) : docD o ls = dropG o ls := by
  have := doc_go_aux ho ls 0 h.srt h.val hne
  rw [Nat.sub_zero] at this
  exact this
end Go.Sk
end

-- A14
section
namespace Go.Sk

/-! Adding that is let in. -/
theorem last_mem {ls : List (List Span)} (h : (lastV ls).2 = true) : ∃ x ∈ flat ls, (lastV ls).1 = x.b := by
  unfold lastV at *
  cases ls with
  | nil => simp at h
  | cons l r =>
    dsimp only at h ⊢
    cases hl : l.getLast? with
    | none => rw [hl] at h; simp at h
    | some s => exact ⟨s, List.mem_append_right _ (List.mem_of_getLast? hl), rfl⟩
theorem addH_let {h : Hist} (hT : Tidy h.k.toNat h.ls) {t w : Nat} (ht : t ≤ 9223372036854775807) (hw : 1 ≤ w) (hb : ∀ x ∈ flat h.ls, x.b ≤ t) (htot : totN 0 h.ls + w ≤ 4503599627370496) :
    (addH h t w).2 = 0 ∧ ∀ x ∈ flat (addH h t w).1.ls, x.b ≤ t := by
  have hc : ¬ (9223372036854775807 < t ∨ ((lastV h.ls).2 = true ∧ t < (lastV h.ls).1)) := by
    rintro (c | ⟨c1, c2⟩)
    · omega
    · obtain ⟨x, hx, e⟩ := last_mem c1
      have := hb x hx; omega
  have he : addH h t w = (⟨h.k.toNat, h.g, flowV h.k.toNat t 0 h.ls [] w⟩, 0) := by
    unfold addH addV
    rw [if_neg (by omega), if_neg hc, if_neg (by omega)]
  rw [he]
  refine ⟨rfl, ?_⟩
  have hs : (flat h.ls ++ ([] ++ List.replicate w (⟨t, t⟩ : Span))).Pairwise Bef := by
    refine List.pairwise_append.2 ⟨hT.srt, ?_, ?_⟩
    · rw [List.nil_append]; exact List.pairwise_replicate.2 (Or.inr (Nat.le_refl t))
    · intro x hx y hy
      rw [List.nil_append] at hy
      rw [List.eq_of_mem_replicate hy]; exact hb x hx
  have hv : ∀ s ∈ flat h.ls ++ ([] ++ List.replicate w (⟨t, t⟩ : Span)), s.a ≤ s.b := by
    intro s hs
    rcases List.mem_append.1 hs with hs | hs
    · exact hT.val s hs
    · rw [List.nil_append] at hs; rw [List.eq_of_mem_replicate hs]; exact Nat.le_refl _
  exact (flow_tidy h.k.toNat t h.ls 0 [] w hs hv).2.2.1 t (fun s hs => by
    rcases List.mem_append.1 hs with hs | hs
    · exact hb s hs
    · rw [List.nil_append] at hs; rw [List.eq_of_mem_replicate hs]; exact Nat.le_refl _)

/-! Sums over events. -/
def sumE (f : Event → Nat) (l : List Event) : Nat := (l.map f).sum
theorem sumE_app (f : Event → Nat) (l m : List Event) : sumE f (l ++ m) = sumE f l + sumE f m := by unfold sumE; rw [List.map_append, List.sum_append]
theorem sumE_cons (f : Event → Nat) (e : Event) (l : List Event) : sumE f (e :: l) = f e + sumE f l := by unfold sumE; simp
theorem sumE_nil (f : Event → Nat) : sumE f [] = 0 := rfl
theorem sumE_le {f g : Event → Nat} (h : ∀ e, f e ≤ g e) (l : List Event) : sumE f l ≤ sumE g l := by
  induction l with
  | nil => exact Nat.le_refl _
  | cons e l ih => rw [sumE_cons, sumE_cons]; have := h e; omega
theorem sumE_ins (f : Event → Nat) (l : List Event) (e : Event) : sumE f (insE l e) = sumE f l + f e := by
  unfold insE
  rw [sumE_app, sumE_app, sumE_cons, sumE_nil]
  have := sumE_app f (l.take (belowN e.t l)) (l.drop (belowN e.t l))
  rw [List.take_append_drop] at this; omega
theorem sumE_split (f : Event → Nat) (l : List Event) (n : Nat) : sumE f l = sumE f (l.take n) + sumE f (l.drop n) := by
  rw [← sumE_app, List.take_append_drop]
def wt (W : Nat → Bool) (e : Event) : Nat := if W e.t = true then e.w else 0

/-- Events passed on. -/
noncomputable def passV (h : Hist) (out : List Event) : Hist := out.foldl (fun h e => (addH h e.t e.w).1) h
theorem pass_ok : ∀ (out : List Event) (h : Hist) (f : Nat), h.Good → Tidy h.k.toNat h.ls → (∀ x ∈ flat h.ls, x.b ≤ f) → Srt out → (∀ e ∈ out, f ≤ e.t ∧ e.t ≤ 9223372036854775807 ∧ 1 ≤ e.w) → totN 0 h.ls + sumE Event.w out ≤ 4503599627370496 →
    (passV h out).Good ∧ Tidy (passV h out).k.toNat (passV h out).ls ∧ (passV h out).k = h.k ∧ (passV h out).g = h.g ∧ totN 0 (passV h out).ls = totN 0 h.ls + sumE Event.w out ∧
    (∀ m, f ≤ m → (∀ e ∈ out, e.t ≤ m) → ∀ x ∈ flat (passV h out).ls, x.b ≤ m) ∧
    ∀ W, Mono W → loL W 0 (passV h out).ls ≤ loL W 0 h.ls + sumE (wt W) out ∧ hiL W 0 h.ls + sumE (wt W) out ≤ hiL W 0 (passV h out).ls := by
  intro out
  induction out with
  | nil =>
    intro h f hg hT hb _ _ _
    refine ⟨hg, hT, rfl, rfl, rfl, fun m hm _ x hx => Nat.le_trans (hb x hx) hm, fun W _ => ⟨Nat.le_refl _, Nat.le_refl _⟩⟩
  | cons e l ih =>
    intro h f hg hT hb hs he ht
    unfold Srt at hs
    rw [List.pairwise_cons] at hs
    obtain ⟨e1, e2, e3⟩ := he e (by simp)
    rw [sumE_cons] at ht
    obtain ⟨a1, a2⟩ := addH_let hT e2 e3 (fun x hx => Nat.le_trans (hb x hx) e1) (by omega)
    obtain ⟨b1, b2, b3, b4⟩ := addH_good hg e.t e.w a1
    obtain ⟨c1, c2⟩ := addH_tidy hg hT e.t e.w a1
    have hk : (addH h e.t e.w).1.k.toNat = h.k.toNat := by rw [b2]
    obtain ⟨i1, i2, i3, i4, i5, i6, i7⟩ := ih (addH h e.t e.w).1 e.t b1 (by rw [hk]; exact c1) a2 hs.2 (fun x hx => ⟨hs.1 x hx, (he x (by simp [hx])).2⟩) (by omega)
    show (passV (addH h e.t e.w).1 l).Good ∧ _
    refine ⟨i1, i2, i3.trans b2, i4.trans b3, ?_, ?_, ?_⟩
    · show totN 0 (passV (addH h e.t e.w).1 l).ls = _
      rw [i5, sumE_cons]; omega
    · intro m hm hx
      exact i6 m (hx e (by simp)) (fun x hx2 => hx x (by simp [hx2]))
    · intro W hW
      obtain ⟨j1, j2⟩ := i7 W hW
      obtain ⟨k1, k2⟩ := c2 W hW
      rw [sumE_cons]
      have hwt : wt W e = if W e.t = true then e.w else 0 := rfl
      rw [← hwt] at k1 k2
      refine ⟨?_, ?_⟩
      · show loL W 0 (passV (addH h e.t e.w).1 l).ls ≤ _
        omega
      · show _ ≤ hiL W 0 (passV (addH h e.t e.w).1 l).ls
        omega

/-! What is too old. -/
theorem dropG_sub (o : Nat → Bool) : ∀ ls : List (List Span), (flat (dropG o ls)).Sublist (flat ls) := by
  intro ls
  induction ls with
  | nil => exact List.Sublist.refl _
  | cons l r ih =>
    unfold dropG
    split
    · exact List.Sublist.append ih (List.drop_sublist _ _)
    · exact List.nil_sublist _
theorem dropG_old {o : Nat → Bool} (ho : Anti o) {l : List Span} {r : List (List Span)} (hs : (flat (l :: r)).Pairwise Bef) (hv : ∀ s ∈ flat (l :: r), s.a ≤ s.b) (h : 0 < oldN o l) : (∀ x ∈ flat r, o x.b = true) := by
  obtain ⟨s1, s2, s3⟩ := List.pairwise_append.1 (show (flat r ++ l).Pairwise Bef from hs)
  have hl := oldN_le o l
  intro x hx
  have h0 : 0 < l.length := by omega
  have h1 := s3 x hx l[0] (List.getElem_mem h0)
  exact ho _ _ (Nat.le_trans h1 (hv _ (List.mem_append_right _ (List.getElem_mem h0)))) (oldN_lt o l 0 h0 h)
theorem dropG_nil {o : Nat → Bool} : ∀ {r : List (List Span)}, (∀ x ∈ flat r, o x.b = true) → dropG o r = [] := by
  intro r
  cases r with
  | nil => intro _; rfl
  | cons l r =>
    intro h
    unfold dropG
    rw [if_neg]
    intro hc
    have := oldN_at o l hc
    rw [h _ (List.mem_append_right _ (List.getElem_mem hc))] at this; cases this
theorem dropG_full {o : Nat → Bool} (ho : Anti o) (k : Nat) : ∀ (ls : List (List Span)) (i : Nat), (flat ls).Pairwise Bef → (∀ s ∈ flat ls, s.a ≤ s.b) → Full k i ls → Full k i (dropG o ls) := by
  intro ls
  induction ls with
  | nil => intro i _ _ _; trivial
  | cons l r ih =>
    intro i hs hv hf
    obtain ⟨s1, s2, s3⟩ := List.pairwise_append.1 (show (flat r ++ l).Pairwise Bef from hs)
    unfold dropG
    split
    · refine ⟨fun hne => ?_, ih (i + 1) s1 (fun s h => hv s (List.mem_append_left _ h)) hf.2⟩
      by_cases h0 : 0 < oldN o l
      · exact absurd (dropG_nil (dropG_old ho hs hv h0)) hne
      · have hr : r ≠ [] := by rintro rfl; exact hne rfl
        have := hf.1 hr
        rw [List.length_drop]; omega
    · trivial
theorem dropG_tidy {o : Nat → Bool} (ho : Anti o) {k : Nat} {ls : List (List Span)} (h : Tidy k ls) : Tidy k (dropG o ls) := by
  refine ⟨h.srt.sublist (dropG_sub o ls), fun s hs => h.val s ((dropG_sub o ls).subset hs), fun s hs => ?_, dropG_full ho k ls 0 h.srt h.val h.full⟩
  cases ls with
  | nil => cases hs
  | cons l r =>
    unfold dropG at hs
    split at hs
    · exact h.low s (List.mem_of_mem_drop hs)
    · cases hs
theorem dropG_lvl (o : Nat → Bool) : ∀ (ls : List (List Span)), ∀ l ∈ dropG o ls, l ≠ [] ∧ ∃ m ∈ ls, l.length ≤ m.length := by
  intro ls
  induction ls with
  | nil => intro l hl; cases hl
  | cons l r ih =>
    intro x hx
    unfold dropG at hx
    split at hx
    · rename_i c
      rcases List.mem_cons.1 hx with rfl | hx
      · refine ⟨fun e => ?_, l, by simp, by simp⟩
        have := congrArg List.length e
        simp at this; omega
      · obtain ⟨h1, m, hm, hle⟩ := ih x hx
        exact ⟨h1, m, by simp [hm], hle⟩
    · cases hx
theorem dropG_tot (o : Nat → Bool) : ∀ (ls : List (List Span)) (i : Nat), totN i (dropG o ls) ≤ totN i ls := by
  intro ls
  induction ls with
  | nil => intro i; exact Nat.le_refl _
  | cons l r ih =>
    intro i
    unfold dropG
    split
    · unfold totN
      have h1 : (l.drop (oldN o l)).length * 2 ^ i ≤ l.length * 2 ^ i := Nat.mul_le_mul_right _ (by rw [List.length_drop]; omega)
      have := ih (i + 1)
      show (l.drop (oldN o l)).length * 2 ^ i + totN (i + 1) (dropG o r) ≤ l.length * 2 ^ i + totN (i + 1) r
      omega
    · exact Nat.zero_le _
theorem dropH_good {o : Nat → Bool} {h : Hist} (g : h.Good) : (dropH (dropG o) h).Good :=
  ⟨g.k0, g.k1, fun l hl => (dropG_lvl o h.ls l hl).1, fun l hl => by obtain ⟨_, m, hm, hle⟩ := dropG_lvl o h.ls l hl; have := g.sm m hm; unfold dropH; dsimp only; omega, Nat.le_trans (dropG_tot o h.ls 0) g.tot⟩
/-- Where nothing that is too old is within, dropping it changes nothing. -/
theorem dropG_lo {o : Nat → Bool} (ho : Anti o) {W : Nat → Bool} (hW : Mono W) (hk : ∀ x, o x = true → W x = false) : ∀ (ls : List (List Span)) (i : Nat), (∀ l ∈ ls, l ≠ []) → (flat ls).Pairwise Bef → (∀ s ∈ flat ls, s.a ≤ s.b) →
    loL W i (dropG o ls) = loL W i ls ∧ hiL W i (dropG o ls) = hiL W i ls := by
  have zero : ∀ (ls : List (List Span)) (i : Nat), (∀ s ∈ flat ls, s.a ≤ s.b) → (∀ s ∈ flat ls, o s.b = true) → loL W i ls = 0 ∧ hiL W i ls = 0 := by
    intro ls
    induction ls with
    | nil => intro i _ _; exact ⟨rfl, rfl⟩
    | cons l r ih =>
      intro i hv h
      obtain ⟨i1, i2⟩ := ih (i + 1) (fun s hs => hv s (List.mem_append_left _ hs)) (fun s hs => h s (List.mem_append_left _ hs))
      have hb : ∀ s ∈ l, W s.b = false := fun s hs => hk _ (h s (List.mem_append_right _ hs))
      have ha : ∀ s ∈ l, W s.a = false := fun s hs => by
        cases hc : W s.a with
        | false => rfl
        | true => have := hW _ _ (hv s (List.mem_append_right _ hs)) hc; rw [hb s hs] at this; cases this
      have h1 : lo W l = 0 := by unfold lo; rw [List.countP_eq_zero]; intro s hs; rw [ha s hs]; simp
      have h2 : hi W l = 0 := by unfold hi; rw [List.countP_eq_zero]; intro s hs; rw [hb s hs]; simp
      unfold loL hiL
      rw [h1, h2, i1, i2]; simp
  intro ls
  induction ls with
  | nil => intro i _ _ _; exact ⟨rfl, rfl⟩
  | cons l r ih =>
    intro i hne hs hv
    obtain ⟨s1, s2, s3⟩ := List.pairwise_append.1 (show (flat r ++ l).Pairwise Bef from hs)
    have hvr : ∀ s ∈ flat r, s.a ≤ s.b := fun s h => hv s (List.mem_append_left _ h)
    obtain ⟨i1, i2⟩ := ih (i + 1) (fun l hl => hne l (by simp [hl])) s1 hvr
    have hbt : ∀ s ∈ l.take (oldN o l), W s.b = false := fun s hs => by
      obtain ⟨j, hj, rfl⟩ := List.mem_iff_getElem.1 hs
      rw [List.length_take] at hj
      rw [List.getElem_take]
      exact hk _ (oldN_lt o l j (by omega) (by omega))
    have hat : ∀ s ∈ l.take (oldN o l), W s.a = false := fun s hs => by
      cases hc : W s.a with
      | false => rfl
      | true => have := hW _ _ (hv s (List.mem_append_right _ (List.mem_of_mem_take hs))) hc; rw [hbt s hs] at this; cases this
    have e1 : lo W l = lo W (l.drop (oldN o l)) := by
      have := lo_app W (l.take (oldN o l)) (l.drop (oldN o l))
      rw [List.take_append_drop] at this
      have h0 : lo W (l.take (oldN o l)) = 0 := by unfold lo; rw [List.countP_eq_zero]; intro s hs; rw [hat s hs]; simp
      omega
    have e2 : hi W l = hi W (l.drop (oldN o l)) := by
      have := hi_app W (l.take (oldN o l)) (l.drop (oldN o l))
      rw [List.take_append_drop] at this
      have h0 : hi W (l.take (oldN o l)) = 0 := by unfold hi; rw [List.countP_eq_zero]; intro s hs; rw [hbt s hs]; simp
      omega
    unfold dropG
    split
    · constructor
      · show lo W (l.drop (oldN o l)) * 2 ^ i + loL W (i + 1) (dropG o r) = lo W l * 2 ^ i + loL W (i + 1) r
        rw [i1, e1]
      · show hi W (l.drop (oldN o l)) * 2 ^ i + hiL W (i + 1) (dropG o r) = hi W l * 2 ^ i + hiL W (i + 1) r
        rw [i2, e2]
    · rename_i c
      have hln := oldN_le o l
      have hd : l.drop (oldN o l) = [] := List.drop_of_length_le (by omega)
      rw [hd] at e1 e2
      by_cases h0 : 0 < oldN o l
      · obtain ⟨z1, z2⟩ := zero r (i + 1) hvr (dropG_old ho hs hv h0)
        constructor
        · show 0 = lo W l * 2 ^ i + loL W (i + 1) r
          rw [e1, z1]; simp [lo]
        · show 0 = hi W l * 2 ^ i + hiL W (i + 1) r
          rw [e2, z2]; simp [hi]
      · exact absurd (List.eq_nil_of_length_eq_zero (by omega)) (hne l (by simp))
end Go.Sk
end

-- A31
section
namespace Go.Sk

def sumW (l : List (Nat × Nat)) : Nat := (l.map Prod.snd).sum
theorem sumW_cons (x : Nat × Nat) (l : List (Nat × Nat)) : sumW (x :: l) = x.2 + sumW l := by unfold sumW; simp
theorem sumW_app (l m : List (Nat × Nat)) : sumW (l ++ m) = sumW l + sumW m := by unfold sumW; rw [List.map_append, List.sum_append]
theorem sumW_perm {l m : List (Nat × Nat)} (h : l.Perm m) : sumW l = sumW m := by unfold sumW; exact (h.map _).sum_nat
theorem units_len (l : List (Nat × Nat)) : (unitsE l).length = sumW l := by
  induction l with
  | nil => rfl
  | cons x r ih => rw [unitsE_cons, List.length_append, List.length_replicate, ih, sumW_cons]
theorem addH_val {h : Hist} (hT : Tidy h.k.toNat h.ls) {t w : Nat} (ht : t ≤ 9223372036854775807) (hw : 1 ≤ w) (hb : ∀ x ∈ flat h.ls, x.b ≤ t) (htot : totN 0 h.ls + w ≤ 4503599627370496) :
    addH h t w = (⟨h.k.toNat, h.g, flowS h.k.toNat 0 h.ls (List.replicate w ⟨t, t⟩)⟩, 0) := by
  have hc : ¬ (9223372036854775807 < t ∨ ((lastV h.ls).2 = true ∧ t < (lastV h.ls).1)) := by
    rintro (c | ⟨c1, c2⟩)
    · omega
    · obtain ⟨x, hx, e⟩ := last_mem c1
      have := hb x hx; omega
  unfold addH addV
  rw [if_neg (by omega), if_neg hc, if_neg (by omega), flowS_eq, List.nil_append]
noncomputable def foldH (h : Hist) (l : List (Nat × Nat)) : Hist := l.foldl (fun h x => (addH h x.1 x.2).1) h
/-- Lumps, in turn. -/
theorem fold_ok : ∀ (l : List (Nat × Nat)) (h : Hist) (s : List Span) (f : Nat), h.Good → h.ls = flowS h.k.toNat 0 [] s → Tidy h.k.toNat h.ls → (∀ x ∈ flat h.ls, x.b ≤ f) → Ord l → (∀ x ∈ l, f ≤ x.1 ∧ x.1 ≤ 9223372036854775807 ∧ 1 ≤ x.2) → totN 0 h.ls + sumW l ≤ 4503599627370496 →
    foldH h l = ⟨h.k, h.g, flowS h.k.toNat 0 [] (s ++ unitsE l)⟩ ∧ (foldH h l).Good ∧ Tidy h.k.toNat (foldH h l).ls ∧ totN 0 (foldH h l).ls = totN 0 h.ls + sumW l ∧ (∀ m, f ≤ m → (∀ y ∈ l, y.1 ≤ m) → ∀ x ∈ flat (foldH h l).ls, x.b ≤ m) ∧
    ∀ W, Mono W → loL W 0 (foldH h l).ls ≤ loL W 0 h.ls + lo W (unitsE l) ∧ hiL W 0 h.ls + hi W (unitsE l) ≤ hiL W 0 (foldH h l).ls := by
  intro l
  induction l with
  | nil =>
    intro h s f hg hs hT hb _ _ _
    refine ⟨?_, hg, hT, rfl, fun m hm _ x hx => Nat.le_trans (hb x hx) hm, fun W _ => ⟨Nat.le_refl _, Nat.le_refl _⟩⟩
    show h = ⟨h.k, h.g, flowS h.k.toNat 0 [] (s ++ [])⟩
    rw [List.append_nil, ← hs]
  | cons x r ih =>
    intro h s f hg hs hT hb ho he ht
    unfold Ord at ho
    rw [List.pairwise_cons] at ho
    obtain ⟨e1, e2, e3⟩ := he x (by simp)
    rw [sumW_cons] at ht
    obtain ⟨a1, a2⟩ := addH_let hT e2 e3 (fun y hy => Nat.le_trans (hb y hy) e1) (by omega)
    have av := addH_val hT e2 e3 (fun y hy => Nat.le_trans (hb y hy) e1) (by omega)
    obtain ⟨b1, b2, b3, b4⟩ := addH_good hg x.1 x.2 a1
    obtain ⟨c1, c2⟩ := addH_tidy hg hT x.1 x.2 a1
    have hk : (addH h x.1 x.2).1.k.toNat = h.k.toNat := by rw [b2]
    have hls : (addH h x.1 x.2).1.ls = flowS h.k.toNat 0 [] (s ++ List.replicate x.2 ⟨x.1, x.1⟩) := by rw [av, hs, flowS_two]
    obtain ⟨i1, i2, i3, i4, i5, i6⟩ := ih (addH h x.1 x.2).1 (s ++ List.replicate x.2 ⟨x.1, x.1⟩) x.1 b1 (by rw [hk]; exact hls) (by rw [hk]; exact c1) a2 ho.2 (fun y hy => ⟨ho.1 y hy, (he y (by simp [hy])).2⟩) (by omega)
    rw [hk, b2, b3] at i1
    rw [hk] at i3
    show foldH (addH h x.1 x.2).1 r = _ ∧ _
    refine ⟨?_, i2, i3, ?_, ?_, ?_⟩
    · rw [i1, unitsE_cons, List.append_assoc]
    · show totN 0 (foldH (addH h x.1 x.2).1 r).ls = _
      rw [i4, sumW_cons]; omega
    · intro m hm hx
      exact i5 m (hx x (by simp)) (fun y hy => hx y (by simp [hy]))
    · intro W hW
      obtain ⟨j1, j2⟩ := i6 W hW
      obtain ⟨k1, k2⟩ := c2 W hW
      rw [unitsE_cons, lo_app, hi_app, lo_rep, hi_rep]
      refine ⟨?_, ?_⟩
      · show loL W 0 (foldH (addH h x.1 x.2).1 r).ls ≤ _
        omega
      · show _ ≤ hiL W 0 (foldH (addH h x.1 x.2).1 r).ls
        omega
/-- Lumps come to nothing: in turn. -/
theorem fold_new {k : Int} (h1 : 2 ≤ k) (h2 : k ≤ 1024) {l : List (Nat × Nat)} (ho : Ord l) (he : ∀ x ∈ l, x.1 ≤ 9223372036854775807 ∧ 1 ≤ x.2) (ht : sumW l ≤ 4503599627370496) :
    foldH ⟨k, 0, []⟩ l = ⟨k, 0, flowS k.toNat 0 [] (unitsE l)⟩ ∧ (foldH ⟨k, 0, []⟩ l).Good ∧ Tidy k.toNat (foldH ⟨k, 0, []⟩ l).ls ∧ totN 0 (foldH ⟨k, 0, []⟩ l).ls = sumW l ∧ (∀ m, (∀ y ∈ l, y.1 ≤ m) → ∀ x ∈ flat (foldH ⟨k, 0, []⟩ l).ls, x.b ≤ m) ∧
    ∀ W, Mono W → loL W 0 (foldH ⟨k, 0, []⟩ l).ls ≤ lo W (unitsE l) ∧ hi W (unitsE l) ≤ hiL W 0 (foldH ⟨k, 0, []⟩ l).ls := by
  obtain ⟨a, b, c, d, e, f⟩ := fold_ok l ⟨k, 0, []⟩ [] 0 ⟨h1, h2, fun l hl => (by cases hl), fun l hl => (by cases hl), Nat.zero_le _⟩ (flowS_nil _ _).symm (empty_tidy _) (fun x hx => by cases hx) ho (fun x hx => ⟨Nat.zero_le _, he x hx⟩) (by show 0 + _ ≤ _; omega)
  refine ⟨a, b, c, by rw [d]; show 0 + _ = _; omega, fun m hm => e m (Nat.zero_le _) hm, fun W hW => ?_⟩
  obtain ⟨j1, j2⟩ := f W hW
  have z1 : loL W 0 (Hist.mk k 0 []).ls = 0 := rfl
  have z2 : hiL W 0 (Hist.mk k 0 []).ls = 0 := rfl
  omega
/-- In whatever turn. -/
theorem fold_same {k : Int} (h1 : 2 ≤ k) (h2 : k ≤ 1024) {l m : List (Nat × Nat)} (hp : l.Perm m) (ho : Ord l) (hm : Ord m) (he : ∀ x ∈ l, x.1 ≤ 9223372036854775807 ∧ 1 ≤ x.2) (ht : sumW l ≤ 4503599627370496) : foldH ⟨k, 0, []⟩ l = foldH ⟨k, 0, []⟩ m := by
  rw [(fold_new h1 h2 ho he ht).1, (fold_new h1 h2 hm (fun x hx => he x (hp.mem_iff.2 hx)) (by rw [← sumW_perm hp]; exact ht)).1, unitsE_same hp ho hm]
end Go.Sk
end

-- A32
section
namespace Go.Sk

def lumpsA : Nat → List (List Span) → List (Nat × Nat)
  | _, [] => []
  | i, l :: r => l.map (fun s => (s.b, 2 ^ i)) ++ lumpsA (i + 1) r
def lumpsD : Nat → List (List Span) → List (Nat × Nat)
  | _, [] => []
  | i, l :: r => lumpsD (i + 1) r ++ l.map (fun s => (s.b, 2 ^ i))
theorem lumps_perm : ∀ (ls : List (List Span)) i, (lumpsD i ls).Perm (lumpsA i ls) := by
  intro ls
  induction ls with
  | nil => intro i; exact List.Perm.refl _
  | cons l r ih => intro i; exact List.perm_append_comm.trans (List.Perm.append_left _ (ih (i + 1)))
theorem sumW_level (l : List Span) (c : Nat) : sumW (l.map (fun s => (s.b, c))) = l.length * c := by
  induction l with
  | nil => simp [sumW]
  | cons x r ih => rw [List.map_cons, sumW_cons, ih, List.length_cons, Nat.add_mul]; dsimp only; omega
theorem lumps_sum : ∀ (ls : List (List Span)) i, sumW (lumpsA i ls) = totN i ls := by
  intro ls
  induction ls with
  | nil => intro i; rfl
  | cons l r ih => intro i; show sumW (_ ++ _) = _; rw [sumW_app, sumW_level, ih]; rfl
theorem unitsE_app (l m : List (Nat × Nat)) : unitsE (l ++ m) = unitsE l ++ unitsE m := by unfold unitsE; rw [List.flatMap_append]
theorem hi_level (W : Nat → Bool) (l : List Span) (c : Nat) : hi W (unitsE (l.map (fun s => (s.b, c)))) = hi W l * c := by
  induction l with
  | nil => simp [unitsE, hi]
  | cons x r ih =>
    rw [List.map_cons, unitsE_cons, hi_app, ih, hi_rep]
    have : hi W (x :: r) = hi W r + if W x.b = true then 1 else 0 := by unfold hi; rw [List.countP_cons]
    rw [this, Nat.add_mul]
    split <;> simp <;> omega
theorem lumps_hi (W : Nat → Bool) : ∀ (ls : List (List Span)) i, hi W (unitsE (lumpsA i ls)) = hiL W i ls := by
  intro ls
  induction ls with
  | nil => intro i; simp [lumpsA, unitsE, hi, hiL]
  | cons l r ih =>
    intro i
    show hi W (unitsE (_ ++ _)) = _
    rw [unitsE_app, hi_app, hi_level, ih]; rfl
theorem lo_units (W : Nat → Bool) (l : List (Nat × Nat)) : lo W (unitsE l) = hi W (unitsE l) := by
  unfold lo hi
  apply List.countP_congr
  intro s hs
  rw [unitsE_one s hs]
theorem lumps_mem : ∀ (ls : List (List Span)) i, ∀ x ∈ lumpsA i ls, (∃ s ∈ flat ls, x.1 = s.b) ∧ 1 ≤ x.2 := by
  intro ls
  induction ls with
  | nil => intro i x h; cases h
  | cons l r ih =>
    intro i x h
    rcases List.mem_append.1 (show x ∈ l.map (fun s => (s.b, 2 ^ i)) ++ lumpsA (i + 1) r from h) with h | h
    · obtain ⟨s, hs, rfl⟩ := List.mem_map.1 h
      exact ⟨⟨s, List.mem_append_right _ hs, rfl⟩, Nat.pow_pos (by decide)⟩
    · obtain ⟨⟨s, hs, e⟩, h2⟩ := ih (i + 1) x h
      exact ⟨⟨s, List.mem_append_left _ hs, e⟩, h2⟩

def evL (evs : List Event) : List (Nat × Nat) := evs.map fun e => (e.t, e.w)
def lumpsP (l : List Hist) : List (Nat × Nat) := l.flatMap fun h => lumpsA 0 h.ls
def lumpsR (l : List Hist) : List (Nat × Nat) := l.flatMap fun h => lumpsD 0 h.ls
theorem lumpsR_perm (l : List Hist) : (lumpsR l).Perm (lumpsP l) := by
  induction l with
  | nil => exact List.Perm.refl _
  | cons h r ih => exact List.Perm.append (lumps_perm h.ls 0) ih
def sumT (l : List Hist) : Nat := (l.map fun h => totN 0 h.ls).sum
theorem sumT_cons (h : Hist) (l : List Hist) : sumT (h :: l) = totN 0 h.ls + sumT l := by unfold sumT; simp
theorem lumpsP_sum (l : List Hist) : sumW (lumpsP l) = sumT l := by
  induction l with
  | nil => rfl
  | cons h r ih =>
    have e : lumpsP (h :: r) = lumpsA 0 h.ls ++ lumpsP r := by unfold lumpsP; rw [List.flatMap_cons]
    rw [e, sumW_app, lumps_sum, sumT_cons, ih]
theorem evL_sum (evs : List Event) : sumW (evL evs) = sumE Event.w evs := by unfold sumW evL sumE; rw [List.map_map]; rfl
def leL (x y : Nat × Nat) : Bool := decide (x.1 ≤ y.1)
def sortL (l : List (Nat × Nat)) : List (Nat × Nat) := l.mergeSort leL
theorem sortL_perm (l : List (Nat × Nat)) : (sortL l).Perm l := List.mergeSort_perm l leL
theorem sortL_ord (l : List (Nat × Nat)) : Ord (sortL l) := by
  have h := List.pairwise_mergeSort (le := leL) (fun a b c h1 h2 => by unfold leL at *; simp only [decide_eq_true_eq] at *; omega) (fun a b => by unfold leL; simp only [Bool.or_eq_true, decide_eq_true_eq]; omega) l
  unfold Ord sortL
  refine h.imp (fun h => ?_)
  unfold leL at h; simpa using h
def maxG (l : List Hist) : Int := l.foldl (fun g h => max g h.g) 0
/-- Some as one. -/
noncomputable def withV (evs : List Event) (l : List Hist) : Hist × Int :=
  if l = [] ∨ evs.any (fun e => e.w == 0) = true then (zeroH, 1)
  else if l.any (fun h => h.k != (l.headD zeroH).k) = true then (zeroH, 9)
  else if 4 ≤ maxG l then (zeroH, 10)
  else if evs.any (fun e => decide (9223372036854775807 < e.t)) = true then (zeroH, 6)
  else if 4503599627370496 < sumT l + sumE Event.w evs then (zeroH, 5)
  else (⟨(l.headD zeroH).k, maxG l + 1, (foldH ⟨(l.headD zeroH).k, 0, []⟩ (sortL (lumpsP l ++ evL evs))).ls⟩, 0)
end Go.Sk
end

-- A33
section
namespace Go.Sk

structure Hist.Fine (h : Hist) : Prop where
  good : h.Good
  tidy : Tidy h.k.toNat h.ls
  far : ∀ x ∈ flat h.ls, x.b ≤ 9223372036854775807
  g0 : 0 ≤ h.g
  most : Most h.k.toNat 0 h.ls
def hiS (W : Nat → Bool) (l : List Hist) : Nat := (l.map fun h => hiL W 0 h.ls).sum
theorem hiS_cons (W : Nat → Bool) (h : Hist) (l : List Hist) : hiS W (h :: l) = hiL W 0 h.ls + hiS W l := by unfold hiS; simp
theorem lumpsP_cons (h : Hist) (r : List Hist) : lumpsP (h :: r) = lumpsA 0 h.ls ++ lumpsP r := by unfold lumpsP; rw [List.flatMap_cons]
theorem lumpsP_hi (W : Nat → Bool) (l : List Hist) : hi W (unitsE (lumpsP l)) = hiS W l := by
  induction l with
  | nil => rfl
  | cons h r ih => rw [lumpsP_cons, unitsE_app, hi_app, lumps_hi, ih, hiS_cons]
theorem evL_hi (W : Nat → Bool) (evs : List Event) : hi W (unitsE (evL evs)) = sumE (wt W) evs := by
  induction evs with
  | nil => rfl
  | cons e r ih =>
    have : evL (e :: r) = (e.t, e.w) :: evL r := rfl
    rw [this, unitsE_cons, hi_app, hi_rep, ih, sumE_cons]; rfl
theorem hi_perm {W : Nat → Bool} {l m : List (Nat × Nat)} (h : l.Perm m) : hi W (unitsE l) = hi W (unitsE m) := by
  unfold hi; exact (unitsE_perm h).countP_eq _
theorem lumpsP_mem {l : List Hist} : ∀ x ∈ lumpsP l, (∃ h ∈ l, ∃ s ∈ flat h.ls, x.1 = s.b) ∧ 1 ≤ x.2 := by
  intro x hx
  obtain ⟨h, hh, hx⟩ := List.mem_flatMap.1 hx
  obtain ⟨⟨s, hs, e⟩, h2⟩ := lumps_mem _ _ x hx
  exact ⟨⟨h, hh, s, hs, e⟩, h2⟩
/-- What lumps come to. -/
structure Came (l : List Hist) (evs : List Event) : Prop where
  ne : l ≠ []
  k : ∀ h ∈ l, h.k = (l.headD zeroH).k
  fine : ∀ h ∈ l, h.Fine
  g : maxG l < 4
  w : ∀ e ∈ evs, 1 ≤ e.w ∧ e.t ≤ 9223372036854775807
  tot : sumT l + sumE Event.w evs ≤ 4503599627370496
theorem maxG_ge (l : List Hist) : 0 ≤ maxG l ∧ ∀ h ∈ l, h.g ≤ maxG l := by
  have key : ∀ (l : List Hist) (g : Int), g ≤ l.foldl (fun g h => max g h.g) g ∧ ∀ h ∈ l, h.g ≤ l.foldl (fun g h => max g h.g) g := by
    intro l
    induction l with
    | nil => intro g; exact ⟨Int.le_refl _, fun h hh => by cases hh⟩
    | cons x r ih =>
      intro g
      obtain ⟨i1, i2⟩ := ih (max g x.g)
      refine ⟨by simp only [List.foldl_cons]; omega, fun h hh => ?_⟩
      rcases List.mem_cons.1 hh with rfl | hh
      · simp only [List.foldl_cons]; omega
      · exact i2 h hh
  exact key l 0
theorem with_val {l : List Hist} {evs : List Event} (c : Came l evs) : withV evs l = (⟨(l.headD zeroH).k, maxG l + 1, (foldH ⟨(l.headD zeroH).k, 0, []⟩ (sortL (lumpsP l ++ evL evs))).ls⟩, 0) := by
  unfold withV
  have h1 : ¬ (l = [] ∨ evs.any (fun e => e.w == 0) = true) := by
    rintro (h | h)
    · exact c.ne h
    · obtain ⟨e, he, h⟩ := List.any_eq_true.1 h
      have := (c.w e he).1
      simp at h; omega
  have h2 : ¬ l.any (fun h => h.k != (l.headD zeroH).k) = true := by
    intro h
    obtain ⟨x, hx, h⟩ := List.any_eq_true.1 h
    have := c.k x hx
    simp [this] at h
  have h3 := c.g
  have h4 : ¬ evs.any (fun e => decide (9223372036854775807 < e.t)) = true := by
    intro h
    obtain ⟨e, he, h⟩ := List.any_eq_true.1 h
    have := (c.w e he).2
    simp at h; omega
  have h5 := c.tot
  rw [if_neg h1, if_neg h2, if_neg (by omega), if_neg h4, if_neg (by omega)]
theorem head_mem {l : List Hist} (h : l ≠ []) : l.headD zeroH ∈ l := by
  cases l with
  | nil => exact absurd rfl h
  | cons x r => simp
/-- All lumps. -/
theorem came_lumps {l : List Hist} {evs : List Event} (c : Came l evs) : (∀ x ∈ lumpsP l ++ evL evs, x.1 ≤ 9223372036854775807 ∧ 1 ≤ x.2) ∧ sumW (lumpsP l ++ evL evs) = sumT l + sumE Event.w evs := by
  refine ⟨fun x hx => ?_, by rw [sumW_app, lumpsP_sum, evL_sum]⟩
  rcases List.mem_append.1 hx with hx | hx
  · obtain ⟨⟨h, hh, s, hs, e⟩, h2⟩ := lumpsP_mem x hx
    exact ⟨by rw [e]; exact (c.fine h hh).far s hs, h2⟩
  · obtain ⟨e, he, rfl⟩ := List.mem_map.1 hx
    have := c.w e he
    exact ⟨this.2, this.1⟩
theorem with_ok {l : List Hist} {evs : List Event} (c : Came l evs) : (withV evs l).2 = 0 ∧ (withV evs l).1.Fine ∧ (withV evs l).1.k = (l.headD zeroH).k ∧ (withV evs l).1.g = maxG l + 1 ∧ totN 0 (withV evs l).1.ls = sumT l + sumE Event.w evs ∧
    (withV evs l).1.ls = flowS (l.headD zeroH).k.toNat 0 [] (unitsE (sortL (lumpsP l ++ evL evs))) ∧
    ∀ W, Mono W → loL W 0 (withV evs l).1.ls ≤ hiS W l + sumE (wt W) evs ∧ hiS W l + sumE (wt W) evs ≤ hiL W 0 (withV evs l).1.ls := by
  have hf := (c.fine _ (head_mem c.ne)).good
  obtain ⟨hl, hs⟩ := came_lumps c
  have hp := sortL_perm (lumpsP l ++ evL evs)
  obtain ⟨a1, a2, a3, a4, a5, a6⟩ := fold_new hf.k0 hf.k1 (sortL_ord (lumpsP l ++ evL evs)) (fun x hx => hl x (hp.mem_iff.1 hx)) (by rw [sumW_perm hp, hs]; exact c.tot)
  rw [with_val c]
  have e : (foldH ⟨(l.headD zeroH).k, 0, []⟩ (sortL (lumpsP l ++ evL evs))).ls = flowS (l.headD zeroH).k.toNat 0 [] (unitsE (sortL (lumpsP l ++ evL evs))) := by rw [a1]
  refine ⟨rfl, ⟨⟨hf.k0, hf.k1, a2.ne, fun x hx => ?_, a2.tot⟩, a3, fun x hx => a5 _ (fun y hy => (hl y (hp.mem_iff.1 hy)).1) x hx, ?_, by show Most (l.headD zeroH).k.toNat 0 _; rw [e]; exact flowS_most _ _ _ _⟩, rfl, rfl, ?_, e, fun W hW => ?_⟩
  · have := a2.sm x hx
    rw [a1] at this; exact this
  · have := (maxG_ge l).1; show 0 ≤ maxG l + 1; omega
  · show totN 0 (foldH _ _).ls = _
    rw [a4, sumW_perm hp, hs]
  · obtain ⟨b1, b2⟩ := a6 W hW
    rw [lo_units] at b1
    rw [hi_perm hp, unitsE_app, hi_app, lumpsP_hi, evL_hi] at b1 b2
    exact ⟨b1, b2⟩
/-- In whatever turn. -/
theorem with_turn {l m : List Hist} {evs : List Event} (c : Came l evs) (hp : l.Perm m) : withV evs m = withV evs l := by
  have hk : ∀ h ∈ m, h.k = (l.headD zeroH).k := fun h hh => c.k h (hp.mem_iff.2 hh)
  have hmne : m ≠ [] := fun e => c.ne (by rw [e] at hp; exact hp.eq_nil)
  have hmk : (m.headD zeroH).k = (l.headD zeroH).k := hk _ (head_mem hmne)
  have hg : maxG m = maxG l := by
    have h1 := maxG_ge l
    have h2 := maxG_ge m
    have key : ∀ (l : List Hist), maxG l = 0 ∨ ∃ h ∈ l, maxG l = h.g := by
      intro l
      have : ∀ (l : List Hist) (g : Int), l.foldl (fun g h => max g h.g) g = g ∨ ∃ h ∈ l, l.foldl (fun g h => max g h.g) g = h.g := by
        intro l
        induction l with
        | nil => intro g; exact Or.inl rfl
        | cons x r ih =>
          intro g
          rcases ih (max g x.g) with h | ⟨h, hh, e⟩
          · by_cases c : g ≤ x.g
            · exact Or.inr ⟨x, by simp, by simp only [List.foldl_cons]; omega⟩
            · exact Or.inl (by simp only [List.foldl_cons]; omega)
          · exact Or.inr ⟨h, by simp [hh], e⟩
      exact this l 0
    have a : maxG m ≤ maxG l := by
      rcases key m with h | ⟨h, hh, e⟩
      · omega
      · rw [e]; exact h1.2 h (hp.mem_iff.2 hh)
    have b : maxG l ≤ maxG m := by
      rcases key l with h | ⟨h, hh, e⟩
      · omega
      · rw [e]; exact h2.2 h (hp.mem_iff.1 hh)
    omega
  have ht : sumT m = sumT l := by unfold sumT; exact (hp.symm.map _).sum_nat
  have c' : Came m evs := ⟨hmne, fun h hh => by rw [hmk]; exact hk h hh, fun h hh => c.fine h (hp.mem_iff.2 hh), by rw [hg]; exact c.g, c.w, by rw [ht]; exact c.tot⟩
  rw [with_val c, with_val c', hmk, hg]
  have hf := (c.fine _ (head_mem c.ne)).good
  obtain ⟨hl, hs⟩ := came_lumps c
  have hlp : (lumpsP m ++ evL evs).Perm (lumpsP l ++ evL evs) := List.Perm.append_right _ (List.Perm.flatMap_right _ hp.symm)
  have p1 := sortL_perm (lumpsP l ++ evL evs)
  have p2 := sortL_perm (lumpsP m ++ evL evs)
  rw [fold_same hf.k0 hf.k1 (p2.trans (hlp.trans p1.symm)) (sortL_ord _) (sortL_ord _) (fun x hx => hl x (hlp.mem_iff.1 (p2.mem_iff.1 hx))) (by rw [sumW_perm p2, sumW_perm hlp, hs]; exact c.tot)]
end Go.Sk
end

-- A19a
section
namespace Go.Sk

theorem inW_mono (tick span : Nat) : Mono (inW tick span) := by
  intro x y h hx
  unfold inW at *
  simp only [Bool.or_eq_true, decide_eq_true_eq] at *
  omega
theorem lo_le_hi {W : Nat → Bool} (hW : Mono W) {l : List Span} (hv : ∀ s ∈ l, s.a ≤ s.b) : lo W l ≤ hi W l :=
  List.countP_mono_left (fun s hs h => hW _ _ (hv s hs) h)
theorem loL_le_hiL {W : Nat → Bool} (hW : Mono W) : ∀ (ls : List (List Span)) (i : Nat), (∀ s ∈ flat ls, s.a ≤ s.b) → loL W i ls ≤ hiL W i ls := by
  intro ls
  induction ls with
  | nil => intro i _; exact Nat.le_refl _
  | cons l r ih =>
    intro i hv
    have h1 := Nat.mul_le_mul_right (2 ^ i) (lo_le_hi hW (l := l) (fun s hs => hv s (List.mem_append_right _ hs)))
    have h2 := ih (i + 1) (fun s hs => hv s (List.mem_append_left _ hs))
    unfold loL hiL; omega
theorem hiL_le_tot (W : Nat → Bool) : ∀ (ls : List (List Span)) (i : Nat), hiL W i ls ≤ totN i ls := by
  intro ls
  induction ls with
  | nil => intro i; exact Nat.le_refl _
  | cons l r ih =>
    intro i
    have h1 : hi W l * 2 ^ i ≤ l.length * 2 ^ i := Nat.mul_le_mul_right _ List.countP_le_length
    have h2 := ih (i + 1)
    unfold hiL totN; omega
theorem part_level (tick span i : Nat) (hi64 : i < 64) : ∀ (l : List Span), (∀ s ∈ l, s.a ≤ s.b) → ∀ p : Nat × Nat, p.1 + p.2 + l.length * 2 ^ i < 18446744073709551616 →
    partsF tick span p (l.map (fun s => (s, i))) = (p.1 + lo (inW tick span) l * 2 ^ i, p.2 + (hi (inW tick span) l - lo (inW tick span) l) * 2 ^ i) := by
  have hpow : (2 : Nat) ^ i < 18446744073709551616 := by
    have h1 : (2 : Nat) ^ i < 2 ^ 64 := Nat.pow_lt_pow_right (by decide) hi64
    have e : (2 : Nat) ^ 64 = 18446744073709551616 := by decide
    omega
  have hu : units i = 2 ^ i := by unfold units; rw [Nat.min_eq_left (by omega), Nat.one_mul, m64_id hpow]
  intro l
  induction l with
  | nil => intro _ p _; simp [partsF, lo, hi]
  | cons s t ih =>
    intro hv p hp
    have hvs := hv s (by simp)
    have hvt : ∀ s ∈ t, s.a ≤ s.b := fun s hs => hv s (by simp [hs])
    have hlh := lo_le_hi (inW_mono tick span) hvt
    rw [List.length_cons, Nat.add_mul, Nat.one_mul] at hp
    show partsF tick span (partStep tick span p (s, i)) (t.map (fun s => (s, i))) = _
    unfold partStep
    dsimp only
    rw [hu]
    unfold lo hi at ih hlh ⊢
    simp only [List.countP_cons]
    cases ha : inW tick span s.a with
    | true =>
      have hb := inW_mono tick span s.a s.b hvs ha
      rw [if_pos rfl, m64_id (by omega), ih hvt _ (by dsimp only; omega)]
      rw [hb]
      simp only [if_true, Nat.add_sub_add_right, Nat.add_mul, Nat.one_mul]
      congr 1; omega
    | false =>
      cases hb : inW tick span s.b with
      | true =>
        simp only [Bool.false_eq_true, if_false, if_true]
        rw [m64_id (by omega), ih hvt _ (by dsimp only; omega)]
        rw [Nat.add_zero, show ∀ a b : Nat, b ≤ a → a + 1 - b = (a - b) + 1 from fun a b h => by omega]
        · rw [Nat.add_mul, Nat.one_mul]; congr 1; omega
        · exact hlh
      | false =>
        simp only [Bool.false_eq_true, if_false, Nat.add_zero]
        exact ih hvt _ (by omega)
theorem parts_eq (tick span : Nat) : ∀ (ls : List (List Span)) (i : Nat), i + ls.length ≤ 64 → (∀ s ∈ flat ls, s.a ≤ s.b) → ∀ p : Nat × Nat, p.1 + p.2 + totN i ls < 18446744073709551616 →
    partsF tick span p (bucksF i ls) = (p.1 + loL (inW tick span) i ls, p.2 + (hiL (inW tick span) i ls - loL (inW tick span) i ls)) := by
  intro ls
  induction ls with
  | nil => intro i _ _ p _; simp [partsF, bucksF, loL, hiL]
  | cons l r ih =>
    intro i hi64 hv p hp
    have hvl : ∀ s ∈ l, s.a ≤ s.b := fun s hs => hv s (List.mem_append_right _ hs)
    have hvr : ∀ s ∈ flat r, s.a ≤ s.b := fun s hs => hv s (List.mem_append_left _ hs)
    rw [List.length_cons] at hi64
    unfold totN at hp
    have e : partsF tick span p (bucksF i (l :: r)) = partsF tick span (partsF tick span p (l.map (fun s => (s, i)))) (bucksF (i + 1) r) := by
      unfold partsF; rw [← List.foldl_append]; rfl
    have hlo := lo_le_hi (inW_mono tick span) hvl
    have hloL := loL_le_hiL (inW_mono tick span) r (i + 1) hvr
    have m1 : lo (inW tick span) l * 2 ^ i ≤ hi (inW tick span) l * 2 ^ i := Nat.mul_le_mul_right _ hlo
    have m2 : hi (inW tick span) l * 2 ^ i ≤ l.length * 2 ^ i := Nat.mul_le_mul_right _ List.countP_le_length
    rw [e, part_level tick span i (by omega) l hvl p (by omega), Nat.sub_mul, ih (i + 1) (by omega) hvr _ (by dsimp only; omega)]
    dsimp only
    rw [show loL (inW tick span) i (l :: r) = lo (inW tick span) l * 2 ^ i + loL (inW tick span) (i + 1) r from rfl, show hiL (inW tick span) i (l :: r) = hi (inW tick span) l * 2 ^ i + hiL (inW tick span) (i + 1) r from rfl]
    congr 1 <;> omega
/-- The estimate, in plain numbers. -/
theorem est_eq {ls : List (List Span)} (hv : ∀ s ∈ flat ls, s.a ≤ s.b) (hl : ls.length ≤ 64) (ht : totN 0 ls ≤ 4503599627370496) (tick span : Nat) :
    estV ls tick span = loL (inW tick span) 0 ls + (hiL (inW tick span) 0 ls - loL (inW tick span) 0 ls) / 2 ∧ hiL (inW tick span) 0 ls ≤ 4503599627370496 ∧ loL (inW tick span) 0 ls ≤ hiL (inW tick span) 0 ls := by
  have h1 := hiL_le_tot (inW tick span) ls 0
  have h2 := loL_le_hiL (inW_mono tick span) ls 0 hv
  refine ⟨?_, by omega, h2⟩
  unfold estV partsV
  rw [parts_eq tick span ls 0 (by omega) hv (0, 0) (by dsimp only; omega)]
  dsimp only
  rw [Nat.zero_add, Nat.zero_add, m64_id (by omega)]

end Go.Sk
end

-- A34
section
namespace Go.Sk

theorem hi_lo {k : Nat} {ls : List (List Span)} (hT : Tidy k ls) (W : Nat → Bool) (hW : Mono W) : k * hiL W 0 ls ≤ (k + 2) * loL W 0 ls := by
  rcases cut_all k W hW ls 0 hT.srt hT.val (fun _ => hT.low) hT.full with e | ⟨j, _, _, e, hb⟩
  · rw [e]; exact Nat.mul_le_mul_right _ (by omega)
  · rw [if_pos rfl, Nat.add_zero] at hb
    rw [e, Nat.mul_add, Nat.add_mul]; omega
/-- Merged so often, of so much. -/
structure Deep (g : Nat) (h : Hist) (n : (Nat → Bool) → Nat) : Prop where
  fine : h.Fine
  gen : h.g = g
  b : ∀ W, Mono W → n W ≤ hiL W 0 h.ls ∧ h.k.toNat ^ g * loL W 0 h.ls ≤ (h.k.toNat + 2) ^ g * n W
  all : ∀ W, (∀ x, W x = true) → n W = totN 0 h.ls
theorem deep_side {k g G lo hi n : Nat} (hg : g ≤ G) (h1 : k * hi ≤ (k + 2) * lo) (h2 : k ^ g * lo ≤ (k + 2) ^ g * n) : k ^ (G + 1) * hi ≤ (k + 2) ^ (G + 1) * n := by
  obtain ⟨d, rfl⟩ : ∃ d, G = g + d := ⟨G - g, by omega⟩
  have a1 : k ^ (g + d + 1) * hi = k ^ d * (k ^ g * (k * hi)) := by rw [Nat.pow_succ, Nat.pow_add]; simp only [Nat.mul_comm, Nat.mul_left_comm, Nat.mul_assoc]
  have a2 : (k + 2) ^ (g + d + 1) * n = (k + 2) ^ d * ((k + 2) * ((k + 2) ^ g * n)) := by rw [Nat.pow_succ, Nat.pow_add]; simp only [Nat.mul_comm, Nat.mul_left_comm, Nat.mul_assoc]
  have a3 : k ^ g * (k * hi) ≤ (k + 2) * ((k + 2) ^ g * n) := by
    refine Nat.le_trans (Nat.mul_le_mul_left _ h1) ?_
    have : k ^ g * ((k + 2) * lo) = (k + 2) * (k ^ g * lo) := Nat.mul_left_comm _ _ _
    rw [this]; exact Nat.mul_le_mul_left _ h2
  rw [a1, a2]
  exact Nat.mul_le_mul (Nat.pow_le_pow_left (by omega) d) a3
theorem deep_two {g1 g2 : Nat} {x y : Hist} {n1 n2 : (Nat → Bool) → Nat} (hx : Deep g1 x n1) (hy : Deep g2 y n2) (hk : y.k = x.k) (hg : max g1 g2 < 4) (ht : totN 0 x.ls + totN 0 y.ls ≤ 4503599627370496) :
    (withV [] [x, y]).2 = 0 ∧ Deep (max g1 g2 + 1) (withV [] [x, y]).1 (fun W => n1 W + n2 W) ∧ (withV [] [x, y]).1.k = x.k ∧ totN 0 (withV [] [x, y]).1.ls = totN 0 x.ls + totN 0 y.ls := by
  have hG : maxG [x, y] = ((max g1 g2 : Nat) : Int) := by
    show max (max 0 x.g) y.g = _
    rw [hx.gen, hy.gen]; omega
  have c : Came [x, y] [] := ⟨by simp, fun h hh => by
      simp only [List.mem_cons, List.not_mem_nil, or_false] at hh
      rcases hh with rfl | rfl
      · rfl
      · exact hk, fun h hh => by
      simp only [List.mem_cons, List.not_mem_nil, or_false] at hh
      rcases hh with rfl | rfl
      · exact hx.fine
      · exact hy.fine, by rw [hG]; omega, fun e he => (by cases he), by
      show totN 0 x.ls + (totN 0 y.ls + 0) + 0 ≤ _; omega⟩
  obtain ⟨a1, a2, a3, a4, a5, _, a6⟩ := with_ok c
  have e3 : (withV [] [x, y]).1.k = x.k := a3
  refine ⟨a1, ⟨a2, by rw [a4, hG]; omega, fun W hW => ?_, fun W hW => by rw [hx.all W hW, hy.all W hW, a5]; show _ = totN 0 x.ls + (totN 0 y.ls + 0) + 0; omega⟩, e3, by rw [a5]; show totN 0 x.ls + (totN 0 y.ls + 0) + 0 = _; omega⟩
  obtain ⟨b1, b2⟩ := a6 W hW
  have eS : hiS W [x, y] + sumE (wt W) [] = hiL W 0 x.ls + hiL W 0 y.ls := by show hiL W 0 x.ls + (hiL W 0 y.ls + 0) + 0 = _; omega
  rw [eS] at b1 b2
  obtain ⟨x1, x2⟩ := hx.b W hW
  obtain ⟨y1, y2⟩ := hy.b W hW
  rw [hk] at y2
  rw [e3]
  refine ⟨by omega, ?_⟩
  have p1 := deep_side (G := max g1 g2) (by omega) (hi_lo hx.fine.tidy W hW) x2
  have hly := hi_lo hy.fine.tidy W hW
  rw [hk] at hly
  have p2 := deep_side (G := max g1 g2) (by omega) hly y2
  have p3 : x.k.toNat ^ (max g1 g2 + 1) * loL W 0 (withV [] [x, y]).1.ls ≤ x.k.toNat ^ (max g1 g2 + 1) * (hiL W 0 x.ls + hiL W 0 y.ls) := Nat.mul_le_mul_left _ b1
  rw [Nat.mul_add] at p3
  rw [Nat.mul_add]
  omega
/-- The bounds. -/
theorem deep_est {g : Nat} {h : Hist} {n : (Nat → Bool) → Nat} (d : Deep g h n) (tick span : Nat) : ∃ E R, estV h.ls tick span = E ∧ n (inW tick span) = R ∧ E ≤ 4503599627370496 ∧ R ≤ 4503599627370496 ∧
    (h.k.toNat - 1) * R ≤ h.k.toNat * E ∧ h.k.toNat ^ (g + 1) * E ≤ (h.k.toNat + 1) * ((h.k.toNat + 2) ^ g * R) ∧ R ≤ hiL (inW tick span) 0 h.ls ∧ (R = 0 → E = 0) := by
  have hk : 2 ≤ h.k.toNat := by have := d.fine.good.k0; omega
  obtain ⟨e1, e2, e3⟩ := est_eq d.fine.tidy.val (by have := d.fine.good.len; omega) d.fine.good.tot tick span
  have hW := inW_mono tick span
  obtain ⟨b1, b2⟩ := d.b _ hW
  have hlh : loL (inW tick span) 0 h.ls ≤ hiL (inW tick span) 0 h.ls := by
    rcases cut_all h.k.toNat _ hW h.ls 0 d.fine.tidy.srt d.fine.tidy.val (fun _ => d.fine.tidy.low) d.fine.tidy.full with e | ⟨j, _, _, e, _⟩ <;> omega
  obtain ⟨u1, u2⟩ := est_bound hk d.fine.tidy _ hW (Nat.le_refl _) hlh
  rw [← e1] at u1 u2
  refine ⟨_, _, rfl, rfl, by omega, by omega, ?_, ?_, b1, fun h0 => ?_⟩
  · by_cases c : n (inW tick span) ≤ loL (inW tick span) 0 h.ls
    · exact Nat.le_trans (Nat.mul_le_mul_left _ c) u1
    · obtain ⟨v1, _⟩ := est_bound hk d.fine.tidy _ hW (R := n (inW tick span)) (by omega) b1
      rw [← e1] at v1; exact v1
  · have a1 : h.k.toNat ^ (g + 1) * estV h.ls tick span = h.k.toNat ^ g * (h.k.toNat * estV h.ls tick span) := by rw [Nat.pow_succ, Nat.mul_assoc]
    rw [a1]
    refine Nat.le_trans (Nat.mul_le_mul_left _ u2) ?_
    rw [Nat.mul_left_comm]
    exact Nat.mul_le_mul_left _ b2
  · rw [h0, Nat.mul_zero] at b2
    have hlo : loL (inW tick span) 0 h.ls = 0 := by
      rcases Nat.mul_eq_zero.1 (Nat.le_zero.1 b2) with q | q
      · have := Nat.pow_pos (n := g) (show 0 < h.k.toNat by omega); omega
      · exact q
    have hh := hi_lo d.fine.tidy _ hW
    rw [hlo, Nat.mul_zero] at hh
    rcases Nat.mul_eq_zero.1 (Nat.le_zero.1 hh) with q | q
    · omega
    · rw [e1, hlo, q]
end Go.Sk
end

-- A35
section
namespace Go.Sk

/-- Weight that comes: so many ticks later, so much. -/
structure Deed where
  gap : Nat
  w : Nat
noncomputable def madeS (s : Hist × Nat) (d : Deed) : Hist × Nat :=
  (if (addH s.1 (s.2 + d.gap % 1000) d.w).2 = 0 then (addH s.1 (s.2 + d.gap % 1000) d.w).1 else s.1, s.2 + d.gap % 1000)
noncomputable def madeF (s : Hist × Nat) (l : List Deed) : Hist × Nat := l.foldl madeS s
def newM (k : Int) : Hist := ⟨2 + max k 0 % 30, 0, []⟩
noncomputable def madeD (k : Int) (l : List Deed) : Hist := (madeF (newM k, 0) (l.take 30)).1
noncomputable def cameS (W : Nat → Bool) (s : (Hist × Nat) × Nat) (d : Deed) : (Hist × Nat) × Nat :=
  (madeS s.1 d, if (addH s.1.1 (s.1.2 + d.gap % 1000) d.w).2 = 0 then (s.2 + if W (s.1.2 + d.gap % 1000) = true then d.w else 0) else s.2)
noncomputable def cameF (W : Nat → Bool) (s : (Hist × Nat) × Nat) (l : List Deed) : (Hist × Nat) × Nat := l.foldl (cameS W) s
noncomputable def cameD (k : Int) (l : List Deed) (W : Nat → Bool) : Nat := (cameF W ((newM k, 0), 0) (l.take 30)).2
theorem madeF_snoc (s : Hist × Nat) (l : List Deed) (i : Nat) (hi : i < l.length) : madeF s (l.take (i + 1)) = madeS (madeF s (l.take i)) l[i] := by
  unfold madeF; rw [List.take_succ_eq_append_getElem hi, List.foldl_append]; rfl
theorem cameF_snoc (W : Nat → Bool) (s : (Hist × Nat) × Nat) (l : List Deed) (i : Nat) (hi : i < l.length) : cameF W s (l.take (i + 1)) = cameS W (cameF W s (l.take i)) l[i] := by
  unfold cameF; rw [List.take_succ_eq_append_getElem hi, List.foldl_append]; rfl
theorem cameF_fst (W : Nat → Bool) (l : List Deed) : ∀ s, (cameF W s l).1 = madeF s.1 l := by
  induction l with
  | nil => intro s; rfl
  | cons d r ih => intro s; show (cameF W (cameS W s d) r).1 = madeF (madeS s.1 d) r; rw [ih]; rfl

theorem addH_w {h : Hist} {t w : Nat} (e : (addH h t w).2 = 0) : 1 ≤ w ∧ totN 0 h.ls + w ≤ 4503599627370496 ∨ totN 0 h.ls > 4503599627370496 := by
  unfold addH addV at e
  by_cases h1 : w = 0
  · rw [if_pos h1] at e; simp at e
  rw [if_neg h1] at e
  by_cases h2 : 9223372036854775807 < t ∨ ((lastV h.ls).2 = true ∧ t < (lastV h.ls).1)
  · rw [if_pos h2] at e; simp at e
  rw [if_neg h2] at e
  by_cases h3 : 4503599627370496 - totN 0 h.ls < w
  · rw [if_pos h3] at e; simp at e
  omega
/-- What is so of a histogram to which weight came. -/
structure MadeOk (k : Int) (s : (Hist × Nat) × Nat) (W : Nat → Bool) : Prop where
  fine : s.1.1.Fine
  k : s.1.1.k = 2 + max k 0 % 30
  g : s.1.1.g = 0
  at_ : ∀ x ∈ flat s.1.1.ls, x.b ≤ s.1.2
  bd : Mono W → loL W 0 s.1.1.ls ≤ s.2 ∧ s.2 ≤ hiL W 0 s.1.1.ls
  all : (∀ t, W t = true) → s.2 = totN 0 s.1.1.ls
  le : s.2 ≤ totN 0 s.1.1.ls
theorem newM_ok (k : Int) (W : Nat → Bool) : MadeOk k ((newM k, 0), 0) W :=
  ⟨⟨⟨by show 2 ≤ 2 + max k 0 % 30; omega, by show 2 + max k 0 % 30 ≤ 1024; omega, fun l hl => (by cases hl), fun l hl => (by cases hl), Nat.zero_le _⟩, empty_tidy _, fun x hx => (by cases hx), Int.le_refl _, True.intro⟩, rfl, rfl, fun x hx => (by cases hx), fun _ => ⟨Nat.le_refl _, Nat.le_refl _⟩, fun _ => rfl, Nat.le_refl _⟩
theorem cameS_ok {k : Int} {s : (Hist × Nat) × Nat} {W : Nat → Bool} (m : MadeOk k s W) (ht : s.1.2 ≤ 1000000) (d : Deed) : MadeOk k (cameS W s d) W ∧ (cameS W s d).1.2 ≤ s.1.2 + 999 := by
  obtain ⟨T, hT⟩ : ∃ T, s.1.2 + d.gap % 1000 = T := ⟨_, rfl⟩
  refine ⟨?_, by show s.1.2 + d.gap % 1000 ≤ _; omega⟩
  unfold cameS madeS
  rw [hT]
  by_cases e : (addH s.1.1 T d.w).2 = 0
  · rw [if_pos e, if_pos e]
    have hg := m.fine.good
    have ho := addH_w e
    have := hg.tot
    obtain ⟨a1, a2⟩ := addH_let m.fine.tidy (t := T) (w := d.w) (by omega) (by omega) (fun x hx => by have := m.at_ x hx; omega) (by omega)
    obtain ⟨b1, b2, b3, b4⟩ := addH_good hg T d.w e
    obtain ⟨c1, c2⟩ := addH_tidy hg m.fine.tidy T d.w e
    refine ⟨⟨b1, by rw [b2]; exact c1, fun x hx => by have := a2 x hx; omega, by rw [b3]; exact m.fine.g0, by rw [b2, addH_val m.fine.tidy (t := T) (w := d.w) (by omega) (by omega) (fun x hx => by have := m.at_ x hx; omega) (by omega)]; exact flowS_most _ _ _ _⟩, by rw [b2]; exact m.k, by rw [b3]; exact m.g, a2, fun hW => ?_, fun hW => ?_, ?_⟩
    · obtain ⟨p, q⟩ := m.bd hW
      obtain ⟨p2, q2⟩ := c2 W hW
      dsimp only
      omega
    · dsimp only
      rw [b4, m.all hW, hW T, if_pos rfl]
    · dsimp only
      rw [b4]; have := m.le; split <;> omega
  · rw [if_neg e, if_neg e]
    exact ⟨m.fine, m.k, m.g, fun x hx => by have := m.at_ x hx; dsimp only; omega, m.bd, m.all, m.le⟩
theorem cameF_ok {k : Int} {W : Nat → Bool} : ∀ (l : List Deed) (s : (Hist × Nat) × Nat), MadeOk k s W → s.1.2 + l.length * 999 ≤ 1000000 → MadeOk k (cameF W s l) W ∧ (cameF W s l).1.2 ≤ s.1.2 + l.length * 999 := by
  intro l
  induction l with
  | nil => intro s m _; exact ⟨m, Nat.le_refl _⟩
  | cons d r ih =>
    intro s m h
    rw [List.length_cons] at h
    obtain ⟨a, b⟩ := cameS_ok m (by omega) d
    obtain ⟨c, e⟩ := ih (cameS W s d) a (by omega)
    exact ⟨c, by rw [List.length_cons]; show (cameF W (cameS W s d) r).1.2 ≤ _; omega⟩
theorem cameF_at {k : Int} (W : Nat → Bool) (l : List Deed) (i : Nat) : MadeOk k (cameF W ((newM k, 0), 0) ((l.take 30).take i)) W ∧ (cameF W ((newM k, 0), 0) ((l.take 30).take i)).1.2 ≤ 30000 := by
  have hl : ((l.take 30).take i).length ≤ 30 := by simp only [List.length_take]; omega
  obtain ⟨a, b⟩ := cameF_ok (W := W) ((l.take 30).take i) ((newM k, 0), 0) (newM_ok k W) (by dsimp only; omega)
  exact ⟨a, by dsimp only at b; omega⟩
theorem madeF_at {k : Int} (l : List Deed) (i : Nat) : (madeF (newM k, 0) ((l.take 30).take i)).1.Fine ∧ (madeF (newM k, 0) ((l.take 30).take i)).2 ≤ 30000 ∧ (madeF (newM k, 0) ((l.take 30).take i)).1.k = 2 + max k 0 % 30 ∧ (madeF (newM k, 0) ((l.take 30).take i)).1.g = 0 := by
  obtain ⟨a, b⟩ := cameF_at (k := k) (fun _ => true) l i
  have e := cameF_fst (fun _ => true) ((l.take 30).take i) ((newM k, 0), 0)
  have f := a.fine; have g := a.g; have kk := a.k
  rw [e] at f b g kk
  exact ⟨f, b, kk, g⟩
theorem made_came (k : Int) (l : List Deed) (W : Nat → Bool) : MadeOk k (cameF W ((newM k, 0), 0) (l.take 30)) W := by
  have := (cameF_at (k := k) W l 30).1
  rwa [List.take_of_length_le (by simp only [List.length_take]; omega)] at this
theorem made_all (k : Int) (l : List Deed) {W : Nat → Bool} (hW : ∀ t, W t = true) : cameD k l W = totN 0 (madeD k l).ls := by
  have key : (cameF W ((newM k, 0), 0) (l.take 30)).1.1 = madeD k l := by rw [cameF_fst]; rfl
  have := (made_came k l W).all hW
  rw [key] at this; exact this
theorem made_deep (k : Int) (l : List Deed) : Deep 0 (madeD k l) (cameD k l) ∧ (madeD k l).k = 2 + max k 0 % 30 := by
  have key : ∀ W, (cameF W ((newM k, 0), 0) (l.take 30)).1.1 = madeD k l := fun W => by rw [cameF_fst]; rfl
  have m := made_came k l (fun _ => true)
  refine ⟨⟨by rw [← key (fun _ => true)]; exact m.fine, by rw [← key (fun _ => true), m.g]; rfl, fun W hW => ?_, fun W hW => made_all k l hW⟩, by rw [← key (fun _ => true)]; exact m.k⟩
  have b := (made_came k l W).bd hW
  rw [key W] at b
  refine ⟨b.2, ?_⟩
  rw [Nat.pow_zero, Nat.pow_zero, Nat.one_mul, Nat.one_mul]; exact b.1
theorem came_le (k : Int) (l : List Deed) (W : Nat → Bool) : cameD k l W ≤ totN 0 (madeD k l).ls := by
  have key : (cameF W ((newM k, 0), 0) (l.take 30)).1.1 = madeD k l := by rw [cameF_fst]; rfl
  have := (made_came k l W).le
  rw [key] at this; exact this
/-- How much weight there may be. -/
theorem came_sum {c : Nat} : ∀ (l : List Deed) (s : (Hist × Nat) × Nat), (∀ d ∈ l, d.w ≤ c) → (cameF (fun _ => true) s l).2 ≤ s.2 + l.length * c := by
  intro l
  induction l with
  | nil => intro s _; show s.2 ≤ _; omega
  | cons d r ih =>
    intro s h
    have h1 := h d (by simp)
    have h3 := ih (cameS (fun _ => true) s d) (fun x hx => h x (by simp [hx]))
    have h2 : (cameS (fun _ => true) s d).2 ≤ s.2 + c := by
      show (if _ then (s.2 + if true = true then d.w else 0) else s.2) ≤ _
      split
      · rw [if_pos rfl]; exact Nat.add_le_add_left h1 _
      · exact Nat.le_add_right _ _
    have e : cameF (fun _ => true) s (d :: r) = cameF (fun _ => true) (cameS (fun _ => true) s d) r := rfl
    rw [e, List.length_cons, Nat.add_mul, Nat.one_mul]
    generalize cameS (fun _ => true) s d = s1 at *
    generalize cameF (fun _ => true) s1 r = s2 at *
    omega
theorem made_sum (k : Int) (l : List Deed) {c : Nat} (h : ∀ d ∈ l, d.w ≤ c) : totN 0 (madeD k l).ls ≤ 30 * c := by
  rw [← made_all k l (W := fun _ => true) (fun _ => rfl)]
  have := came_sum (c := c) (l.take 30) ((newM k, 0), 0) (fun d hd => h d (List.mem_of_mem_take hd))
  have h2 : (l.take 30).length * c ≤ 30 * c := Nat.mul_le_mul_right _ (by rw [List.length_take]; omega)
  unfold cameD
  dsimp only at this
  omega
end Go.Sk
end

-- A36
section
namespace Go.Sk

structure Tree where
  k : Int
  l0 : List Deed
  l1 : List Deed
  l2 : List Deed
  l3 : List Deed
  deep : Nat
noncomputable def mrg (l : List Hist) : Hist := (withV [] l).1
noncomputable def againV (h x : Hist) : Nat → Hist
  | 0 => x
  | n + 1 => mrg [againV h x n, h]
noncomputable def baseV (t : Tree) : Hist :=
  if t.deep % 5 = 0 then madeD t.k t.l0
  else if t.deep % 5 = 1 then mrg [madeD t.k t.l0, madeD t.k t.l1]
  else mrg [mrg [madeD t.k t.l0, madeD t.k t.l1], mrg [madeD t.k t.l2, madeD t.k t.l3]]
noncomputable def buildV (t : Tree) : Hist := againV (madeD t.k t.l0) (baseV t) (t.deep % 5 - 2)
def timesV (d : Nat) : Nat × Nat × Nat × Nat := if d = 0 then (1, 0, 0, 0) else if d = 1 then (1, 1, 0, 0) else (d - 1, 1, 1, 1)
noncomputable def realW (t : Tree) (W : Nat → Bool) : Nat :=
  (timesV (t.deep % 5)).1 * cameD t.k t.l0 W + (timesV (t.deep % 5)).2.1 * cameD t.k t.l1 W + (timesV (t.deep % 5)).2.2.1 * cameD t.k t.l2 W + (timesV (t.deep % 5)).2.2.2 * cameD t.k t.l3 W
structure Tree.Light (t : Tree) : Prop where
  l0 : ∀ d ∈ t.l0, d.w ≤ 1099511627776
  l1 : ∀ d ∈ t.l1, d.w ≤ 1099511627776
  l2 : ∀ d ∈ t.l2, d.w ≤ 1099511627776
  l3 : ∀ d ∈ t.l3, d.w ≤ 1099511627776
theorem Deep.eqn {g g' : Nat} {h : Hist} {n n' : (Nat → Bool) → Nat} (d : Deep g h n) (hg : g = g') (hn : ∀ W, n W = n' W) : Deep g' h n' := by
  subst hg
  exact ⟨d.fine, d.gen, fun W hW => by rw [← hn]; exact d.b W hW, fun W hW => by rw [← hn]; exact d.all W hW⟩
/-- Sizes of the four. -/
structure Tree.Sz (t : Tree) (c : Nat) : Prop where
  a0 : totN 0 (madeD t.k t.l0).ls ≤ c
  a1 : totN 0 (madeD t.k t.l1).ls ≤ c
  a2 : totN 0 (madeD t.k t.l2).ls ≤ c
  a3 : totN 0 (madeD t.k t.l3).ls ≤ c
theorem Tree.Light.sz {t : Tree} (l : t.Light) : t.Sz 32985348833280 :=
  ⟨made_sum _ _ l.l0, made_sum _ _ l.l1, made_sum _ _ l.l2, made_sum _ _ l.l3⟩
theorem base_deep {t : Tree} (l : t.Light) : ∃ g, g = min (t.deep % 5) 2 ∧ Deep g (baseV t) (fun W => cameD t.k t.l0 W + (if t.deep % 5 = 0 then 0 else cameD t.k t.l1 W) + (if t.deep % 5 < 2 then 0 else cameD t.k t.l2 W + cameD t.k t.l3 W)) ∧ (baseV t).k = 2 + max t.k 0 % 30 ∧ totN 0 (baseV t).ls ≤ 4 * 32985348833280 := by
  refine ⟨_, rfl, ?_⟩
  obtain ⟨a0, a1, a2, a3⟩ := l.sz
  obtain ⟨d0, k0⟩ := made_deep t.k t.l0
  obtain ⟨d1, k1⟩ := made_deep t.k t.l1
  obtain ⟨d2, k2⟩ := made_deep t.k t.l2
  obtain ⟨d3, k3⟩ := made_deep t.k t.l3
  unfold baseV
  by_cases h0 : t.deep % 5 = 0
  · rw [if_pos h0]
    exact ⟨d0.eqn (by omega) (fun W => by rw [if_pos h0, if_pos (by omega)]; omega), k0, by omega⟩
  rw [if_neg h0]
  obtain ⟨p1, p2, p3, p4⟩ := deep_two d0 d1 (by rw [k0, k1]) (by omega) (by omega)
  by_cases h1 : t.deep % 5 = 1
  · rw [if_pos h1]
    exact ⟨p2.eqn (by omega) (fun W => by rw [if_neg h0, if_pos (by omega)]; omega), by unfold mrg; rw [p3, k0], by unfold mrg; rw [p4]; omega⟩
  rw [if_neg h1]
  obtain ⟨q1, q2, q3, q4⟩ := deep_two d2 d3 (by rw [k2, k3]) (by omega) (by omega)
  obtain ⟨r1, r2, r3, r4⟩ := deep_two p2 q2 (by rw [p3, q3, k0, k2]) (by omega) (by rw [p4, q4]; omega)
  exact ⟨r2.eqn (by omega) (fun W => by rw [if_neg h0, if_neg (by omega)]), by unfold mrg; rw [r3, p3, k0], by unfold mrg; rw [r4, p4, q4]; omega⟩
theorem again_deep {t : Tree} (l : t.Light) (hd : 2 ≤ t.deep % 5) : ∀ j, j ≤ 2 → Deep (2 + j) (againV (madeD t.k t.l0) (baseV t) j) (fun W => (j + 1) * cameD t.k t.l0 W + cameD t.k t.l1 W + cameD t.k t.l2 W + cameD t.k t.l3 W) ∧ (againV (madeD t.k t.l0) (baseV t) j).k = 2 + max t.k 0 % 30 ∧
    totN 0 (againV (madeD t.k t.l0) (baseV t) j).ls ≤ (4 + j) * 32985348833280 := by
  intro j
  induction j with
  | zero =>
    intro _
    obtain ⟨g, hg, d, k, s⟩ := base_deep l
    exact ⟨d.eqn (by omega) (fun W => by rw [if_neg (by omega), if_neg (by omega)]; omega), k, s⟩
  | succ j ih =>
    intro hj
    obtain ⟨d, k, s⟩ := ih (by omega)
    obtain ⟨a0, _, _, _⟩ := l.sz
    obtain ⟨d0, k0⟩ := made_deep t.k t.l0
    obtain ⟨p1, p2, p3, p4⟩ := deep_two d d0 (by rw [k0, k]) (by omega) (by omega)
    exact ⟨p2.eqn (by omega) (fun W => by rw [Nat.add_mul (j + 1) 1]; omega), by show (mrg _).k = _; unfold mrg; rw [p3, k], by show totN 0 (mrg _).ls ≤ _; unfold mrg; rw [p4]; omega⟩
theorem build_deep {t : Tree} (l : t.Light) : Deep (t.deep % 5) (buildV t) (realW t) ∧ (buildV t).k = 2 + max t.k 0 % 30 ∧ totN 0 (buildV t).ls ≤ 6 * 32985348833280 := by
  unfold buildV
  by_cases h : 2 ≤ t.deep % 5
  · obtain ⟨d, k, s⟩ := again_deep l h (t.deep % 5 - 2) (by omega)
    refine ⟨d.eqn (by omega) (fun W => ?_), k, Nat.le_trans s (Nat.mul_le_mul_right _ (by omega))⟩
    unfold realW timesV
    rw [if_neg (by omega), if_neg (by omega)]
    dsimp only
    rw [show t.deep % 5 - 2 + 1 = t.deep % 5 - 1 by omega]; omega
  · obtain ⟨g, hg, d, k, s⟩ := base_deep l
    rw [show t.deep % 5 - 2 = 0 by omega]
    refine ⟨d.eqn (by omega) (fun W => ?_), k, by show totN 0 (baseV t).ls ≤ _; omega⟩
    unfold realW timesV
    by_cases h0 : t.deep % 5 = 0
    · rw [if_pos h0, if_pos h0, if_pos (by omega)]; dsimp only; omega
    · rw [if_neg h0, if_neg h0, if_pos (show t.deep % 5 = 1 by omega), if_pos (show t.deep % 5 < 2 by omega)]; dsimp only; omega
theorem real_all {t : Tree} (l : t.Light) {W : Nat → Bool} (hW : ∀ x, W x = true) : realW t W = totN 0 (buildV t).ls := (build_deep l).1.all W hW
theorem real_le {t : Tree} (l : t.Light) (W : Nat → Bool) (hW : Mono W) : realW t W ≤ 6 * 32985348833280 := by
  obtain ⟨d, _, h⟩ := build_deep l
  have := (d.b W hW).1
  have e1 := hiL_le_tot W (buildV t).ls 0
  omega
end Go.Sk
end

-- A37
section
namespace Go.Sk

def digV (n : Nat) : Nat := if _h : n = 0 then 0 else 1 + digV (n / 2)
termination_by n
decreasing_by omega
theorem digV_zero : digV 0 = 0 := by rw [digV, dif_pos rfl]
theorem digV_pos {n : Nat} (h : n ≠ 0) : digV n = 1 + digV (n / 2) := by rw [digV, dif_neg h]
theorem dig_le : ∀ (c n : Nat), 2 ^ c ≤ n + 1 → c ≤ digV n := by
  intro c
  induction c with
  | zero => intro n _; omega
  | succ c ih =>
    intro n h
    have h1 := Nat.pow_pos (n := c) (show 0 < 2 by decide)
    rw [Nat.pow_succ] at h
    have hn : n ≠ 0 := by omega
    rw [digV_pos hn]
    have := ih (n / 2) (by omega)
    omega
theorem dig_small : ∀ (c n : Nat), n < 2 ^ c → digV n ≤ c := by
  intro c
  induction c with
  | zero => intro n h; have : n = 0 := by simpa using h
            subst this; rw [digV_zero]; omega
  | succ c ih =>
    intro n h
    rw [Nat.pow_succ] at h
    by_cases hn : n = 0
    · subst hn; rw [digV_zero]; omega
    · rw [digV_pos hn]; have := ih (n / 2) (by omega); omega
def bksN (ls : List (List Span)) : Nat := (ls.map List.length).sum
theorem bks_le {c : Nat} : ∀ (ls : List (List Span)), (∀ l ∈ ls, l.length ≤ c) → bksN ls ≤ c * ls.length := by
  intro ls
  induction ls with
  | nil => intro _; exact Nat.zero_le _
  | cons l r ih =>
    intro h
    have h1 := h l (by simp)
    have h2 := ih (fun x hx => h x (by simp [hx]))
    unfold bksN at *
    rw [List.map_cons, List.sum_cons, List.length_cons, Nat.mul_add, Nat.mul_one]; omega
noncomputable def boundB (k g : Int) (n : Nat) : Int := if n = 0 ∨ ¬ (2 ≤ k ∧ k ≤ 1024) ∨ g < 0 ∨ 4 < g then 0 else (k + 1) * ((digV n : Int) + g)
theorem few_ok {h : Hist} (f : h.Fine) (hg : h.g ≤ 4) : (bksN h.ls : Int) ≤ boundB h.k h.g (totN 0 h.ls) := by
  have hk := f.good.k0
  have hk1 := f.good.k1
  have h0 := f.g0
  have hl := tot_levels h.ls 0 f.good.ne
  rw [Nat.zero_add, Nat.pow_zero] at hl
  have hd := dig_le _ _ hl
  have hb := bks_le (c := h.k.toNat + 1) h.ls (fun l hl => by
    obtain ⟨j, _, e⟩ := most_mem h.ls 0 f.most l hl
    refine Nat.le_trans e ?_
    unfold mostN; split <;> omega)
  unfold boundB
  by_cases hz : totN 0 h.ls = 0
  · rw [if_pos (Or.inl hz)]
    rw [hz, digV_zero] at hd
    have : h.ls.length = 0 := by omega
    rw [this] at hb; omega
  · rw [if_neg (by omega)]
    have h1 : (h.k.toNat + 1) * h.ls.length ≤ (h.k.toNat + 1) * digV (totN 0 h.ls) := Nat.mul_le_mul_left _ hd
    have h2 : (bksN h.ls : Int) ≤ (((h.k.toNat + 1) * digV (totN 0 h.ls) : Nat) : Int) := by omega
    have e : (((h.k.toNat + 1) * digV (totN 0 h.ls) : Nat) : Int) = (h.k + 1) * (digV (totN 0 h.ls) : Int) := by
      rw [Int.natCast_mul, show ((h.k.toNat + 1 : Nat) : Int) = h.k + 1 by omega]
    rw [e] at h2
    refine Int.le_trans h2 ?_
    exact Int.mul_le_mul_of_nonneg_left (by omega) (by omega)
end Go.Sk
end

-- W15u
section
namespace Go.Sk
open Go Go.Proofs

theorem zeroG_small : zeroG.Small := ⟨by decide, ⟨by decide, fun r hr => by cases hr⟩, ⟨by decide, fun l hl => by cases hl⟩⟩
theorem zeroG_sz : zeroG.Sz := ⟨by decide, fun r hr => by cases hr⟩
theorem addG_small {g : Grid} (hg : g.Good) (e : Event) : (addG g e).1.Small ∧ (addG g e).1.Sz := by
  by_cases h : (addG g e).2 = 0
  · exact ⟨(addG_good hg e h).small, (addG_good hg e h).sz⟩
  · have : (addG g e).1 = zeroG := by
      unfold addG at h ⊢
      split
      · rename_i c; rw [if_pos c] at h
        split
        · rename_i c2; rw [if_pos c2] at h; exact absurd rfl h
        · rfl
      · rfl
    rw [this]; exact ⟨zeroG_small, zeroG_sz⟩
theorem conf_good {k w : Int} {sd : List Seed} (h : confV k w sd = 0) : (newV k w sd).Good := by
  unfold confV at h
  split at h
  · simp at h
  · rename_i c
    split at h
    · rename_i c2
      exact newV_good (by omega) (by omega) (by omega) (by omega) (by omega) (fun s hs => List.all_eq_true.1 c2 s hs)
    · simp at h

end Go.Sk
end
