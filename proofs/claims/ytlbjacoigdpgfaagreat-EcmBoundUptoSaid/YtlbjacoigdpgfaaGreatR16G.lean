/- Texts W15k W16f W12f W12g W12h W16g W16j W16k, joined. -/
import Derived.Test.YtlbjacoigdpgfaaGreatR16D
import Derived.Test.YtlbjacoigdpgfaaGreatR16E
import Derived.Test.YtlbjacoigdpgfaaGreatR16F
set_option linter.unusedSimpArgs false
set_option linter.unusedVariables false
set_option linter.unusedSectionVars false
-- W15k
section
namespace Go.Sk
open Go Go.Proofs

theorem ev_len {l : List Event} : ∀ el ∈ l.map Event.pv, el.length = 3 := by
  intro el h; obtain ⟨x, _, rfl⟩ := List.mem_map.1 h; rfl

end Go.Sk
end

-- W16f
section
namespace Go.Sk
open Go Go.Proofs

def capN (x : Nat) : Nat := min x 4503599627370497
theorem ref16_plus (a b : Nat) : Pure Tryz.prog 141 [u64 (capN a), u64 b] (u64 (capN (a + b))) := fun S => by
  have h1 : capN a ≤ 4503599627370497 := Nat.min_le_right _ _
  have e1 : (if 4503599627370497 < b then ((4503599627370497 : Nat) : Int) else ((b : Nat) : Int)) = ((capN b : Nat) : Int) := by unfold capN; split <;> omega
  have e2 : m64 (capN a + capN b) = capN a + capN b := m64_id (by unfold capN; omega)
  have e3 : (if 4503599627370497 < capN a + capN b then ((4503599627370497 : Nat) : Int) else ((capN a + capN b : Nat) : Int)) = ((capN (a + b) : Nat) : Int) := by unfold capN; split <;> omega
  refine callR_of Tryz.func141 rfl rfl (xc_ok (bitB 19) _ _ _ ?_)
  simp only [go_sem, e1, e2, e3]
  exact ⟨S, Sub.refl _, by simp⟩
theorem sumE_take (f : Event → Nat) (l : List Event) (j : Nat) (h : j < l.length) : sumE f (l.take (j + 1)) = sumE f (l.take j) + f l[j] := by
  rw [List.take_succ_eq_append_getElem h, sumE_app, sumE_cons, sumE_nil, Nat.add_zero]
theorem allV_iff {n : Nat} {f : Nat → Bool} : allV n f = true ↔ ∀ i, i < n → f i = true := by
  unfold allV; simp only [List.all_eq_true, List.mem_range]
theorem capN_over (x : Nat) : decide (4503599627370496 < capN x) = !decide (x ≤ 4503599627370496) := by
  unfold capN
  by_cases h : x ≤ 4503599627370496
  · rw [decide_eq_true h, decide_eq_false (by omega)]; rfl
  · rw [decide_eq_false h, decide_eq_true (by omega)]; rfl

set_option maxHeartbeats 1000000 in
set_option maxRecDepth 8000 in
theorem weigh_all (l : List Event) (g : Grid) (hg : g.Good) (hl : l.length < 1048576) :
    Pure Tryz.prog 118 [.p (.sl [g.pv]), .p (evsP l), i64 (-1), i64 0] (u64 (capN (totN 0 g.all.ls + sumE Event.w l))) := fun S => by
  have k1 : decide (wi ((0 : Int) + 1) < ((1 : Nat) : Int)) = false := by rw [wi_id (by decide) (by decide)]; decide
  have hT := ref06_Total g.all.k g.all.g g.all.ls (by have := hg.all.len; omega)
  have ht0 := hg.all.tot
  rw [totV_eq (by omega)] at hT
  have hP := ref16_plus 0 (totN 0 g.all.ls)
  rw [show capN 0 = 0 from rfl, Nat.zero_add] at hP
  refine callR_of Tryz.func118 rfl rfl (xc_ok (bitB 590295827950925324047) _ _ _ ?_)
  simp only [go_sem, evsP]
  refine AWP.head (AWPH.step (xc_ok (bitB 590295827950925324047) _ _ _ ?_))
  simp only [go_sem]
  refine alloc_intro fun c11 h11 => ?_
  have y11 : S (.r c11) = none := h11
  have k0 : decide ((-1 : Int) ≥ 0) = false := by decide
  have k2 : decide ((-1 : Int) < 0) = true := by decide
  simp only [go_sem, k0]
  refine hT.useA ?_
  simp only [go_sem]
  refine hP.useA ?_
  simp only [go_sem]
  refine AWPH.step (xc_ok (bitB 590295827950925324047) _ _ _ ?_)
  simp only [go_sem, k1]
  refine AWP.iter (fun j => ⟨Env.get [(0, .p (.sl [g.pv])), (1, .p (.sl (l.map Event.pv))), (2, i64 (-1)), (3, i64 0), (9, u64 (capN (totN 0 g.all.ls + sumE Event.w (l.take j)))), (12, i64 j)], S, 78, []⟩) l.length ?_ ?_ ?_
  · refine le_of (by simp only [go_sem, List.take_zero, sumE_nil, Nat.add_zero] <;> rfl) ?_ rfl rfl (by simp)
    repeat' first | exact Sub.refl _ | refine Sub.set ?_ (by assumption) _
  · intro j hj ih
    have hqj : wi ((j : Int) + 1) = ((j + 1 : Nat) : Int) := wi_succ (show j < 4611686018427387904 by omega)
    have hP2 := ref16_plus (totN 0 g.all.ls + sumE Event.w (l.take j)) (l[j]).w
    rw [Nat.add_assoc, ← sumE_take Event.w l j hj] at hP2
    refine AWPH.step (xc_ok (bitB 590295827950925324047) _ _ _ ?_)
    simp only [go_sem, hj, ltN' hj, getD_map' _ _ _ _ hj, List.length_map]
    refine AWP.draw2 (bitB 590295827950925324047) mixed (by kernel_rfl) (fun q => bl false) ?_
    simp only [go_sem, k2, hj, ltN' hj, getD_map' _ _ _ _ hj]
    refine hP2.useA ?_
    simp only [go_sem]
    refine ih.back (Sub.refl _) (by simp) ?_
    simp only [go_sem, hqj]
  · refine AWPH.step (xc_ok (bitB 590295827950925324047) _ _ _ ?_)
    simp only [go_sem, List.take_length, List.length_map]
    exact ⟨S, Sub.refl _, by simp⟩
set_option maxHeartbeats 1000000 in
set_option maxRecDepth 8000 in
theorem weigh_cell (l : List Event) (g : Grid) (hg : g.Good) (i c : Nat) (hi : i < g.rows.length) (hc : c < g.w.toNat) (ho : ∀ e ∈ l, e.Ok) (hl : l.length < 1048576) :
    Pure Tryz.prog 118 [.p (.sl [g.pv]), .p (evsP l), i64 i, i64 c] (u64 (capN (cellW g l i c))) := fun S => by
  have k1 : decide (wi ((0 : Int) + 1) < ((1 : Nat) : Int)) = false := by rw [wi_id (by decide) (by decide)]; decide
  have hn := hg.n
  have hw2 := hg.w2
  obtain ⟨hcl, hce⟩ := cell_get hg.wid hi hc
  have hgc := hg.hs _ (List.getElem_mem hi) _ (List.getElem_mem hcl)
  have hct := hgc.tot
  have hT := ref06_Total ((g.rows[i])[c]).k ((g.rows[i])[c]).g ((g.rows[i])[c]).ls (by have := hgc.len; omega)
  rw [totV_eq (by omega)] at hT
  have hP := ref16_plus 0 (totN 0 ((g.rows[i])[c]).ls)
  rw [show capN 0 = 0 from rfl, Nat.zero_add] at hP
  have hsi : i < g.sd.length := by rw [hg.sd]; exact hi
  have hso := Seed.ok_of_may (hg.so _ (List.getElem_mem hsi))
  have hsd : g.sd.getD i default = g.sd[i] := by simp [List.getD_eq_getElem?_getD, hsi]
  refine callR_of Tryz.func118 rfl rfl (xc_ok (bitB 590295827950925324047) _ _ _ ?_)
  simp only [go_sem, evsP]
  refine AWP.head (AWPH.step (xc_ok (bitB 590295827950925324047) _ _ _ ?_))
  simp only [go_sem]
  refine alloc_intro fun c11 h11 => ?_
  have y11 : S (.r c11) = none := h11
  have k0 : decide ((i : Int) ≥ 0) = true := by simp
  have k2 : decide ((i : Int) < 0) = false := by simp
  simp only [go_sem, k0, hi, ltN' hi, getD_map' _ _ _ _ hi, rowE_mk, rowP, hcl, ltN' hcl, getD_map' _ _ _ _ hcl, List.length_map]
  refine hT.useA ?_
  simp only [go_sem]
  refine hP.useA ?_
  simp only [go_sem]
  refine AWPH.step (xc_ok (bitB 590295827950925324047) _ _ _ ?_)
  simp only [go_sem, k1]
  refine AWP.iter (fun j => ⟨Env.get [(0, .p (.sl [g.pv])), (1, .p (.sl (l.map Event.pv))), (2, i64 i), (3, i64 c), (9, u64 (capN (totN 0 ((g.rows[i])[c]).ls + sumE Event.w ((l.take j).filter (inC g i c))))), (12, i64 j)], S, 78, []⟩) l.length ?_ ?_ ?_
  · refine le_of (by simp only [go_sem, List.take_zero, List.filter_nil, sumE_nil, Nat.add_zero] <;> rfl) ?_ rfl rfl (by simp)
    repeat' first | exact Sub.refl _ | refine Sub.set ?_ (by assumption) _
  · intro j hj ih
    have hqj : wi ((j : Int) + 1) = ((j + 1 : Nat) : Int) := wi_succ (show j < 4611686018427387904 by omega)
    have hft := filter_take (inC g i c) l j hj
    have hci := col_in g i c l[j]
    rw [hsd] at hci
    have hC := ref04_Column g.sd[i] (l[j]).k g.w hso (ho _ (List.getElem_mem hj)).k (by omega)
    have hP2 := ref16_plus (totN 0 ((g.rows[i])[c]).ls + sumE Event.w ((l.take j).filter (inC g i c))) (l[j]).w
    refine AWPH.step (xc_ok (bitB 590295827950925324047) _ _ _ ?_)
    simp only [go_sem, hj, ltN' hj, getD_map' _ _ _ _ hj, List.length_map]
    refine AWP.draw2 (bitB 590295827950925324047) mixed (by kernel_rfl) (fun q => i64 (colV g.sd[i] (l[j]).k g.w)) ?_
    simp only [go_sem, k2, hj, ltN' hj, getD_map' _ _ _ _ hj, ltN' hsi, getD_map' _ _ _ _ hsi]
    refine ⟨hC.draw, ?_⟩
    cases hp : inC g i c l[j]
    · rw [hp] at hci hft
      have hb : (colV g.sd[i] (l[j]).k g.w == (c : Int)) = false := by simpa using hci
      rw [if_neg (by simp), List.append_nil] at hft
      simp only [go_sem, hb]
      refine ih.back (Sub.refl _) (by simp) ?_
      simp only [go_sem, hqj, hft]
    · rw [hp] at hci hft
      have hb : (colV g.sd[i] (l[j]).k g.w == (c : Int)) = true := by simpa using hci
      rw [if_pos rfl] at hft
      have hs : totN 0 ((g.rows[i])[c]).ls + sumE Event.w ((l.take j).filter (inC g i c)) + (l[j]).w = totN 0 ((g.rows[i])[c]).ls + sumE Event.w ((l.take (j + 1)).filter (inC g i c)) := by
        rw [hft, sumE_app, sumE_cons, sumE_nil]; omega
      rw [hs] at hP2
      simp only [go_sem, hb, hj, ltN' hj, getD_map' _ _ _ _ hj]
      refine hP2.useA ?_
      simp only [go_sem]
      refine ih.back (Sub.refl _) (by simp) ?_
      simp only [go_sem, hqj]
  · refine AWPH.step (xc_ok (bitB 590295827950925324047) _ _ _ ?_)
    simp only [go_sem, List.take_length, List.length_map]
    exact ⟨S, Sub.refl _, by unfold cellW; rw [hce]; simp⟩

set_option maxHeartbeats 1000000 in
set_option maxRecDepth 8000 in
theorem ref16_Heavy (l : List Event) (g : Grid) (hg : g.Good) (ho : ∀ e ∈ l, e.Ok) (hl : l.length < 1048576) :
    Pure Tryz.prog 83 [.p (.sl [g.pv]), .p (evsP l)] (bl (!lightG g l)) := fun S => by
  have hn := hg.n
  have hw2 := hg.w2
  have hw1 := hg.w1
  obtain ⟨w, hw⟩ : ∃ w : Nat, g.w = w := ⟨g.w.toNat, by omega⟩
  have hwn : g.w.toNat = w := by omega
  have hA := weigh_all l g hg hl
  have ho1 := capN_over (totN 0 g.all.ls + sumE Event.w l)
  rw [lightG_eq]
  refine callR_of Tryz.func83 rfl rfl (xc_ok (bitB 8623621235) _ _ _ ?_)
  simp only [go_sem, evsP]
  refine hA.useA ?_
  simp only [go_sem, ho1]
  cases hT : topL g l
  · have hT' : decide (totN 0 g.all.ls + sumE Event.w l ≤ 4503599627370496) = false := hT
    simp only [go_sem, hT']
    exact ⟨S, Sub.refl _, by simp⟩
  have hT' : decide (totN 0 g.all.ls + sumE Event.w l ≤ 4503599627370496) = true := hT
  simp only [go_sem, hT']
  refine AWP.roam (ι := Nat) (fun i => i ≤ g.rows.length ∧ ∀ a, a < i → allV g.w.toNat (cellL g l a) = true) (fun i => ⟨Env.get [(0, .p (.sl [g.pv])), (1, .p (.sl (l.map Event.pv))), (4, bl false), (5, i64 i)], S, 34, []⟩) (fun i => g.rows.length - i) 0 ⟨Nat.zero_le _, fun a h => by omega⟩ ?_ ?_
  · exact le_of (by simp only [go_sem] <;> simp) (Sub.refl _) rfl rfl (by simp)
  intro i ⟨hi, hall⟩ ih
  have hqi : wi ((i : Int) + 1) = ((i + 1 : Nat) : Int) := wi_succ (show i < 4611686018427387904 by omega)
  refine AWPH.step (xc_ok (bitB 8623621235) _ _ _ ?_)
  by_cases ci : i < g.rows.length
  rotate_left
  · simp only [go_sem, ci, hg.sd, List.length_map]
    have : (allV g.rows.length fun i => allV g.w.toNat (cellL g l i)) = true := allV_iff.2 fun a ha => hall a (by omega)
    exact ⟨S, Sub.refl _, by simp [this]⟩
  simp only [go_sem, ci, hg.sd, List.length_map]
  refine AWP.roam (ι := Nat) (fun c => c ≤ w ∧ ∀ a, a < c → cellL g l i a = true) (fun c => ⟨Env.get [(0, .p (.sl [g.pv])), (1, .p (.sl (l.map Event.pv))), (4, bl false), (5, i64 i), (6, i64 c)], S, 34, []⟩) (fun c => w - c) 0 ⟨Nat.zero_le _, fun a h => by omega⟩ ?_ ?_
  · exact le_of (by simp only [go_sem] <;> simp) (Sub.refl _) rfl rfl (by simp)
  intro c ⟨hc, hcall⟩ ic
  have hqc : wi ((c : Int) + 1) = ((c + 1 : Nat) : Int) := wi_succ (show c < 4611686018427387904 by omega)
  refine AWPH.step (xc_ok (bitB 8623621235) _ _ _ ?_)
  by_cases cc : c < w
  rotate_left
  · have hd : decide ((c : Int) < g.w) = false := by rw [decide_eq_false_iff_not]; omega
    simp only [go_sem, hd]
    refine (ih (i + 1) ⟨ci, fun a ha => ?_⟩ (by omega)).back (Sub.refl _) (by simp) ?_
    · by_cases e : a = i
      · subst e; rw [allV_iff]; intro b hb; exact hcall b (by omega)
      · exact hall a (by omega)
    · simp only [go_sem, hqi]
  have hd : decide ((c : Int) < g.w) = true := by rw [decide_eq_true_iff]; omega
  simp only [go_sem, hd]
  have hW := weigh_cell l g hg i c ci (by omega) ho hl
  have ho2 := capN_over (cellW g l i c)
  refine hW.useA ?_
  simp only [go_sem, ho2]
  cases hL : cellL g l i c
  · have hL' : decide (cellW g l i c ≤ 4503599627370496) = false := hL
    simp only [go_sem, hL']
    have : (allV g.rows.length fun i => allV g.w.toNat (cellL g l i)) = false := by
      rw [Bool.eq_false_iff]
      intro h
      have := allV_iff.1 (allV_iff.1 h i ci) c (by omega)
      rw [hL] at this; cases this
    exact ⟨S, Sub.refl _, by simp [this]⟩
  · have hL' : decide (cellW g l i c ≤ 4503599627370496) = true := hL
    simp only [go_sem, hL']
    refine (ic (c + 1) ⟨cc, fun a ha => ?_⟩ (by omega)).back (Sub.refl _) (by simp) ?_
    · by_cases e : a = c
      · subst e; exact hL
      · exact hcall a (by omega)
    · simp only [go_sem, hqc]
end Go.Sk
end

-- W12f
section
namespace Go.Sk
open Go Go.Proofs

theorem splO_snoc (f : Nat) (l : List Event) (i : Nat) (h : i < l.length) : splO f (l.take (i + 1)) = if (l[i]).t ≤ f then splO f (l.take i) ++ [l[i]] else splO f (l.take i) := by
  unfold splO
  rw [List.take_succ_eq_append_getElem h, List.filter_append]
  by_cases c : (l[i]).t ≤ f
  · rw [if_pos c]; simp [c]
  · rw [if_neg c]; simp [c]
theorem splS_snoc (f : Nat) (l : List Event) (i : Nat) (h : i < l.length) : splS f (l.take (i + 1)) = if (l[i]).t ≤ f then splS f (l.take i) else splS f (l.take i) ++ [l[i]] := by
  unfold splS
  rw [List.take_succ_eq_append_getElem h, List.filter_append]
  by_cases c : (l[i]).t ≤ f
  · rw [if_pos c]; simp [c]
  · rw [if_neg c]; simp [c]
theorem splO_len (f : Nat) (l : List Event) : (splO f l).length ≤ l.length := List.length_filter_le _ _
theorem splS_len (f : Nat) (l : List Event) : (splS f l).length ≤ l.length := List.length_filter_le _ _
set_option maxHeartbeats 1000000 in
set_option maxRecDepth 4000 in
theorem ref12_split (l : List Event) (f : Nat) (hl : l.length < 1073741824) (S : Store) : CallR Tryz.prog 117 [.p (evsP l), u64 f] S
    (fun r S' => ∃ k1 k2 loc1 loc2, FreshV S k1 ∧ FreshV S k2 ∧ (¬ k2 = k1 ∧ ¬ k1 = k2) ∧ r = .tuple [.ts k1 3 loc1 ((splO f l).map Event.pv), .ts k2 3 loc2 ((splS f l).map Event.pv)] ∧
      S' = (S.set (.v k1) (.tip 3 (splO f l).length loc1)).set (.v k2) (.tip 3 (splS f l).length loc2)) := by
  refine callR_of Tryz.func117 rfl rfl (xc_ok (bitB 2101747) _ _ _ ?_)
  simp only [go_sem, evsP]
  refine AWP.tip0 6 3 (by simp only [go_sem]) fun k1 hk1 => ?_
  simp only [go_sem]
  refine AWP.tip0 7 3 (by simp only [go_sem]) fun k2 hk2 => ?_
  simp only [freshv_set] at hk2
  simp only [go_sem]
  refine AWP.iterE (ι := Option Nat × Option Nat) (fun x i => ⟨Env.get [(0, .p (.sl (l.map Event.pv))), (1, u64 f), (6, .ts k1 3 x.1 ((splO f (l.take i)).map Event.pv)), (7, .ts k2 3 x.2 ((splS f (l.take i)).map Event.pv)), (8, i64 i)],
      (S.set (.v k1) (.tip 3 (splO f (l.take i)).length x.1)).set (.v k2) (.tip 3 (splS f (l.take i)).length x.2), 38, []⟩) l.length (none, none) ?_ ?_ ?_
  · have h1 : splO f [] = [] := rfl
    have h2 : splS f [] = [] := rfl
    refine le_of (by simp only [go_sem, List.take_zero, List.map_nil, h1, h2] <;> rfl) ?_ rfl rfl (by simp)
    ((try dsimp only); (repeat refine sub_set ?_ ?_) <;> first | ((repeat (first | exact Sub.refl _ | refine Sub.setF ?_ (by first | assumption | simp only [*]) | refine Sub.setV ?_ (by first | assumption | simp only [*]))); done) | (simp only [go_sem, hk2, List.take_zero, h1, h2, List.length_nil]; done) | (simp only [go_sem, hk2, List.take_zero, h1, h2, List.length_nil]; rfl) | rfl)
  · rintro i ⟨loc1, loc2⟩ hi ih
    have q := wi_succ (show i < 4611686018427387904 by omega)
    have n1 := splO_len f (l.take i)
    have n2 := splS_len f (l.take i)
    rw [List.length_take] at n1 n2
    have s1 := splO_snoc f l i hi
    have s2 := splS_snoc f l i hi
    refine AWPH.step (xc_ok (bitB 2101747) _ _ _ ?_)
    by_cases c : (l[i]).t ≤ f
    · rw [if_pos c] at s1 s2
      have hm : (splO f (l.take i)).map Event.pv ++ [[.int .u64 (l[i]).t, .int .u64 (l[i]).k, .int .u64 (l[i]).w]] = (splO f (l.take (i + 1))).map Event.pv := by rw [s1, List.map_append]; rfl
      have hn : (splO f (l.take (i + 1))).length = (splO f (l.take i)).length + 1 := by rw [s1]; simp
      simp only [go_sem, hi, ltN' hi, getD_map' _ _ _ _ hi, c, hk2]
      refine ⟨by rintro el rfl; rfl, evn_len, by omega, by omega, grow_intro fun loc' => ?_⟩
      simp only [go_sem, hk2, hm]
      refine (ih (loc', loc2)).back ?_ (by simp) ?_
      · ((try dsimp only); (repeat refine sub_set ?_ ?_) <;> first | ((repeat (first | exact Sub.refl _ | refine Sub.setF ?_ (by first | assumption | simp only [*]) | refine Sub.setV ?_ (by first | assumption | simp only [*]))); done) | (simp only [go_sem, hk2, hm, hn, s2, List.length_map]; done) | (simp only [go_sem, hk2, hm, hn, s2, List.length_map]; rfl) | rfl)
      · simp only [go_sem, q, s2, hm]
    · rw [if_neg c] at s1 s2
      have hm : (splS f (l.take i)).map Event.pv ++ [[.int .u64 (l[i]).t, .int .u64 (l[i]).k, .int .u64 (l[i]).w]] = (splS f (l.take (i + 1))).map Event.pv := by rw [s2, List.map_append]; rfl
      have hn : (splS f (l.take (i + 1))).length = (splS f (l.take i)).length + 1 := by rw [s2]; simp
      simp only [go_sem, hi, ltN' hi, getD_map' _ _ _ _ hi, c, hk2]
      refine ⟨by rintro el rfl; rfl, evn_len, by omega, by omega, grow_intro fun loc' => ?_⟩
      simp only [go_sem, hk2, hm]
      refine (ih (loc1, loc')).back ?_ (by simp) ?_
      · ((try dsimp only); (repeat refine sub_set ?_ ?_) <;> first | ((repeat (first | exact Sub.refl _ | refine Sub.setF ?_ (by first | assumption | simp only [*]) | refine Sub.setV ?_ (by first | assumption | simp only [*]))); done) | (simp only [go_sem, hk2, hm, hn, s1, List.length_map]; done) | (simp only [go_sem, hk2, hm, hn, s1, List.length_map]; rfl) | rfl)
      · simp only [go_sem, q, s1, hm]
  · rintro ⟨loc1, loc2⟩
    refine AWPH.step (xc_ok (bitB 2101747) _ _ _ ?_)
    simp only [go_sem, List.take_length]
    exact ⟨_, Sub.refl _, Or.inr ⟨k1, k2, loc1, loc2, hk1, hk2.2, ⟨hk2.1.1, hk2.1.2⟩, rfl, rfl⟩⟩
end Go.Sk
end

-- W12g
section
namespace Go.Sk
open Go Go.Proofs

theorem docS_stop {room f : Nat} {out stay : List Event} (h : ¬ room < stay.length) : docS room f out stay = (f, out, stay) := by
  cases stay with
  | nil => rw [docS]
  | cons e l => rw [docS, if_neg h]
theorem docS_go {room f : Nat} {out l : List Event} {e : Event} (h : room < (e :: l).length) : docS room f out (e :: l) = docS room e.t (out ++ splO e.t (e :: l)) (splS e.t (e :: l)) := by
  rw [docS, if_pos h]
theorem spl_len (f : Nat) (l : List Event) : (splO f l).length + (splS f l).length = l.length := by
  induction l with
  | nil => rfl
  | cons e l ih =>
    unfold splO splS at *
    by_cases c : e.t ≤ f
    · rw [List.filter_cons_of_pos (by simpa using c), List.filter_cons_of_neg (by simp; exact c)]; simp only [List.length_cons]; omega
    · rw [List.filter_cons_of_neg (by simpa using c), List.filter_cons_of_pos (by simp; omega)]; simp only [List.length_cons]; omega
set_option maxHeartbeats 2000000 in
set_option maxRecDepth 8000 in
theorem ref12_settle (b : Buf) (hb : b.Sz) (hs : Srt b.evs) : Pure Tryz.prog 114 [b.av] (.tuple [(settleB b).1.av, .p (evsP (settleB b).2)]) := fun S => by
  obtain ⟨late, rm, mark, front, evs⟩ := b
  have hn := hb.n
  have hr := hb.r
  have hm := hb.m
  dsimp only at hn hr hm hs
  clear hb
  obtain ⟨room, rfl⟩ : ∃ room : Nat, rm = room := ⟨rm.toNat, by omega⟩
  refine callR_of Tryz.func114 rfl rfl (xc_ok (bitB 2199027450111) _ _ _ ?_)
  simp only [go_sem]
  refine alloc_intro fun c1 h1 => ?_
  simp only [go_sem]
  refine alloc_intro fun c2 h2 => ?_
  simp only [fresh_set] at h2
  have y1 : S (.r c1) = none := h1
  have y2 : S (.r c2) = none := h2.2
  have n21 : ¬ c2 = c1 ∧ ¬ c1 = c2 := h2.1
  obtain ⟨f0, hf0⟩ : ∃ f0, max front (mark - late) = f0 := ⟨_, rfl⟩
  obtain ⟨p1, p2⟩ := spl_eq f0 evs hs
  have hdoc := docS_eq room evs hs f0
  rw [← p1, ← p2] at hdoc
  have hpl := spl_len f0 evs
  have hres : settleB ⟨late, room, mark, front, evs⟩ = (⟨late, room, mark, (settleN room evs f0).1, evs.drop (settleN room evs f0).2⟩, evs.take (settleN room evs f0).2) := by
    unfold settleB; dsimp only; rw [hf0, Int.toNat_natCast]
  rw [hres]
  generalize settleN room evs f0 = R at *
  clear hres p1 p2
  by_cases cm : late ≤ mark
  have e1 : sub64 mark late = mark - late := sub64_le hm cm
  by_cases cf : front < mark - late
  have e0 : f0 = mark - late := by omega
  simp only [go_sem, cm, h2, e1, cf]
  rw [← e0]
  refine (ref12_split evs f0 hn _).useA ?_
  rotate_left
  have e0 : f0 = front := by omega
  simp only [go_sem, cm, h2, e1, cf]
  rw [← e0]
  refine (ref12_split evs f0 hn _).useA ?_
  rotate_left
  have e0 : f0 = front := by omega
  simp only [go_sem, cm, h2]
  rw [← e0]
  refine (ref12_split evs f0 hn _).useA ?_
  all_goals
    rintro _ _ ⟨k1, k2, loc1, loc2, hk1, hk2, hkk, rfl, rfl⟩
    simp only [freshv_setr] at hk1 hk2
    simp only [go_sem, n21, hkk]
    have z1 : S (.v k1) = none := hk1
    have z2 : S (.v k2) = none := hk2
    refine AWP.roam (ι := Nat × List Event × List Event × Nat × Option Nat × Option Nat) (fun x => docS room x.1 x.2.1 x.2.2.1 = (R.1, evs.take R.2, evs.drop R.2) ∧ (¬ x.2.2.2.1 = k1 ∧ ¬ k1 = x.2.2.2.1) ∧ S (.v x.2.2.2.1) = none ∧ x.2.1.length + x.2.2.1.length ≤ evs.length)
      (fun x => ⟨Env.get [(1, .sp c1 0), (2, .sp c2 0), (4, .ts k1 3 x.2.2.2.2.1 (x.2.1.map Event.pv)), (5, .ts x.2.2.2.1 3 x.2.2.2.2.2 (x.2.2.1.map Event.pv))],
        (((S.set (.r c1) (.cells [u64 late, i64 room, u64 mark, u64 x.1, .p (.sl (evs.map Event.pv))])).set (.r c2) (.cells [u64 0, i64 0, u64 0, u64 0, .nils])).set (.v k1) (.tip 3 x.2.1.length x.2.2.2.2.1)).set (.v x.2.2.2.1) (.tip 3 x.2.2.1.length x.2.2.2.2.2), 62, []⟩)
      (fun x => x.2.2.1.length) (f0, splO f0 evs, splS f0 evs, k2, loc1, loc2) ⟨hdoc, ⟨hkk.1, hkk.2⟩, z2, by dsimp only; omega⟩ ?_ ?_
    · refine le_of (by simp only [go_sem] <;> rfl) ?_ rfl rfl (by simp)
      ((try dsimp only); (repeat refine sub_set ?_ ?_) <;> first | ((repeat (first | exact Sub.refl _ | refine Sub.setF ?_ (by first | assumption | simp only [*]) | refine Sub.setV ?_ (by first | assumption | simp only [*]))); done) | (simp only [go_sem, n21, hkk]; done) | (simp only [go_sem, n21, hkk]; rfl) | rfl)
    rintro ⟨f, out, stay, k2', loc1', loc2'⟩ ⟨hd, hne, z2', hln⟩ ih
    dsimp only at hd hne z2' hln ⊢
    refine AWPH.step (xc_ok (bitB 2199027450111) _ _ _ ?_)
    by_cases c : room < stay.length
    rotate_left
    · have hst := docS_stop (f := f) (out := out) c
      rw [hst] at hd
      injection hd with d1 d2
      injection d2 with d2 d3
      simp only [go_sem, n21, hne, c, List.length_map]
      refine ⟨S, ?_, ?_⟩
      · repeat' first
          | exact Sub.refl _
          | refine Sub.set ?_ (by assumption) _
      · simp [evsP, d1, d2, d3]
    · cases stay with
      | nil => simp at c
      | cons e l =>
        have hgo := docS_go (f := f) (out := out) c
        rw [hgo] at hd
        have c' : room < l.length + 1 := by simpa using c
        have hsl := spl_len e.t (e :: l)
        have hsh := splS_head e l
        simp only [go_sem, n21, hne, c', List.length_map, List.length_cons, List.map_cons]
        refine (ref12_split (e :: l) e.t (by omega) _).useA ?_
        rintro _ _ ⟨k3, k4, loc3, loc4, hk3, hk4, h34, rfl, rfl⟩
        simp only [freshv_setr, freshv_set] at hk3 hk4
        obtain ⟨O, hO⟩ : ∃ O, splO e.t (e :: l) = O := ⟨_, rfl⟩
        obtain ⟨T, hT⟩ : ∃ T, splS e.t (e :: l) = T := ⟨_, rfl⟩
        rw [hO, hT] at hsl hd
        rw [hT] at hsh
        simp only [hO, hT]
        simp only [go_sem, n21, hne, hk3, hk4, h34]
        refine ⟨evn_len, evn_len, by simp only [List.length_map, List.length_cons] at *; omega, by simp only [List.length_map, List.length_cons] at *; omega, grow_intro fun loc' => ?_⟩
        have hap : out.map Event.pv ++ O.map Event.pv = (out ++ O).map Event.pv := by rw [List.map_append]
        simp only [go_sem, n21, hne, hk3, hk4, h34, hap]
        refine (ih (e.t, out ++ O, T, k4, loc', loc4) ⟨hd, ⟨hk4.2.1.1, hk4.2.1.2⟩, hk4.2.2, by simp only [List.length_append, List.length_cons] at *; omega⟩ hsh).back ?_ (by simp) ?_
        · ((try dsimp only); (repeat refine sub_set ?_ ?_) <;> first | ((repeat (first | exact Sub.refl _ | refine Sub.setF ?_ (by first | assumption | simp only [*]) | refine Sub.setV ?_ (by first | assumption | simp only [*]))); done) | (simp only [go_sem, n21, hne, hk3, hk4, h34, hap, List.length_map]; done) | (simp only [go_sem, n21, hne, hk3, hk4, h34, hap, List.length_map]; rfl) | rfl)
        · simp only [go_sem] <;> rfl
end Go.Sk
end

-- W12h
section
namespace Go.Sk
open Go Go.Proofs

set_option maxHeartbeats 1000000 in
set_option maxRecDepth 4000 in
theorem ref12_Push (b : Buf) (hb : b.Sz) (hn : b.evs.length < 1048576) (hs : Srt b.evs) (e : Event) : Pure Tryz.prog 82 [b.av, e.av] (.tuple [(pushB b e).1.1.av, .p (evsP (pushB b e).1.2), i64 (pushB b e).2]) := fun S => by
  have hm := hb.m
  have hr := hb.r
  refine callR_of Tryz.func82 rfl rfl (xc_ok (bitB 4333567) _ _ _ ?_)
  simp only [go_sem]
  refine alloc_intro fun c2 h2 => ?_
  simp only [go_sem]
  refine alloc_intro fun c3 h3 => ?_
  simp only [fresh_set] at h3
  simp only [go_sem, h3]
  refine alloc_intro fun c4 h4 => ?_
  simp only [fresh_set] at h4
  have y2 : S (.r c2) = none := h2
  have y3 : S (.r c3) = none := h3.2
  have y4 : S (.r c4) = none := h4.2.2
  by_cases c1 : e.w = 0
  · have q1 : (e.w == 0) = true := by simpa using c1
    simp only [go_sem, q1, h3, h4]
    (refine ⟨S, by (repeat (first | exact Sub.refl _ | refine Sub.setF ?_ (by first | assumption | simp only [*]) | refine Sub.setV ?_ (by first | assumption | simp only [*]))), ?_⟩); simp [pushB, c1, zeroB, evsP]
  have q1 : (e.w == 0) = false := by simpa using c1
  by_cases c2' : 9223372036854775807 < e.t
  · simp only [go_sem, q1, c2', h3, h4]
    (refine ⟨S, by (repeat (first | exact Sub.refl _ | refine Sub.setF ?_ (by first | assumption | simp only [*]) | refine Sub.setV ?_ (by first | assumption | simp only [*]))), ?_⟩); simp [pushB, c1, c2', zeroB, evsP]
  by_cases c3' : e.t < b.front
  · simp only [go_sem, q1, c2', c3', h3, h4]
    (refine ⟨S, by (repeat (first | exact Sub.refl _ | refine Sub.setF ?_ (by first | assumption | simp only [*]) | refine Sub.setV ?_ (by first | assumption | simp only [*]))), ?_⟩); simp [pushB, c1, c2', c3', zeroB, evsP]
  have hres : pushB b e = (settleB ⟨b.late, b.room, max b.mark e.t, b.front, insE b.evs e⟩, 0) := by unfold pushB; rw [if_neg c1, if_neg c2', if_neg c3']
  rw [hres]
  have hst := ref12_settle ⟨b.late, b.room, max b.mark e.t, b.front, insE b.evs e⟩ ⟨hr, by dsimp only; omega, by dsimp only; rw [insE_len]; omega⟩ (insE_srt hs e)
  have hil := insE_len b.evs e
  obtain ⟨p1, p2⟩ := spl_eq e.t b.evs hs
  have hie : splO e.t b.evs ++ [e] ++ splS e.t b.evs = insE b.evs e := by rw [p1, p2]; rfl
  have hpl := spl_len e.t b.evs
  generalize settleB ⟨b.late, b.room, max b.mark e.t, b.front, insE b.evs e⟩ = R at *
  have hmx : (if b.mark < e.t then ((e.t : Nat) : Int) else ((b.mark : Nat) : Int)) = ((max b.mark e.t : Nat) : Int) := by split <;> omega
  simp only [go_sem, q1, c2', c3', h3, h4]
  simp only [hmx]
  refine (ref12_split b.evs e.t (by omega) _).useA ?_
  rintro _ _ ⟨k1, k2, loc1, loc2, hk1, hk2, hkk, rfl, rfl⟩
  simp only [freshv_setr] at hk1 hk2
  have z1 : S (.v k1) = none := hk1
  have z2 : S (.v k2) = none := hk2
  obtain ⟨O, hO⟩ : ∃ O, splO e.t b.evs = O := ⟨_, rfl⟩
  obtain ⟨T, hT⟩ : ∃ T, splS e.t b.evs = T := ⟨_, rfl⟩
  rw [hO, hT] at hpl hie
  simp only [hO, hT]
  simp only [go_sem, h3, h4, hkk]
  refine ⟨evn_len, by omega, by omega, tip_intro fun k3 loc3 hk3 => ?_⟩
  simp only [freshv_setr, freshv_set] at hk3
  have z3 : S (.v k3) = none := hk3.2.2
  simp only [go_sem, h3, h4, hkk, hk3, List.length_map]
  refine ⟨by rintro el rfl; rfl, evn_len, by omega, by omega, grow_intro fun loc4 => ?_⟩
  have ha1 : O.map Event.pv ++ [[.int .u64 e.t, .int .u64 e.k, .int .u64 e.w]] = (O ++ [e]).map Event.pv := by rw [List.map_append]; rfl
  have ha2 : (O ++ [e]).map Event.pv ++ T.map Event.pv = (insE b.evs e).map Event.pv := by rw [← hie, ← List.map_append]
  simp only [go_sem, h3, h4, hkk, hk3, ha1]
  refine ⟨evn_len, evn_len, by simp only [List.length_append, List.length_singleton]; omega, by simp only [List.length_append, List.length_singleton]; omega, grow_intro fun loc5 => ?_⟩
  simp only [go_sem, h3, h4, hkk, hk3, ha2]
  refine hst.useA ?_
  simp only [go_sem, h3, h4, hkk, hk3]
  refine alloc_intro fun c10 h10 => ?_
  simp only [fresh_set, fresh_setv] at h10
  simp only [go_sem, h3, h4, h10]
  have y10 : S (.r c10) = none := h10.2.2.2.2.2
  refine ⟨S, ?_, ?_⟩
  · repeat' first
      | exact Sub.refl _
      | refine Sub.set ?_ (by assumption) _
  · simp [evsP]
set_option maxHeartbeats 1000000 in
set_option maxRecDepth 4000 in
theorem ref12_Move (b : Buf) (hb : b.Sz) (hs : Srt b.evs) (t : Nat) : Pure Tryz.prog 80 [b.av, u64 t] (.tuple [(moveB b t).1.1.av, .p (evsP (moveB b t).1.2), i64 (moveB b t).2]) := fun S => by
  have hm := hb.m
  have hr := hb.r
  have hn := hb.n
  refine callR_of Tryz.func80 rfl rfl (xc_ok (bitB 1527) _ _ _ ?_)
  simp only [go_sem]
  refine alloc_intro fun c2 h2 => ?_
  simp only [go_sem]
  refine alloc_intro fun c4 h4 => ?_
  simp only [fresh_set] at h4
  have y2 : S (.r c2) = none := h2
  have y4 : S (.r c4) = none := h4.2
  by_cases c1 : 9223372036854775807 < t
  · simp only [go_sem, c1, h4]
    (refine ⟨S, by (repeat (first | exact Sub.refl _ | refine Sub.setF ?_ (by first | assumption | simp only [*]) | refine Sub.setV ?_ (by first | assumption | simp only [*]))), ?_⟩); simp [moveB, c1, zeroB, evsP]
  have hres : moveB b t = (settleB ⟨b.late, b.room, max b.mark t, b.front, b.evs⟩, 0) := by unfold moveB; rw [if_neg c1]
  rw [hres]
  have hst := ref12_settle ⟨b.late, b.room, max b.mark t, b.front, b.evs⟩ ⟨hr, by dsimp only; omega, hn⟩ hs
  have hmx : (if b.mark < t then ((t : Nat) : Int) else ((b.mark : Nat) : Int)) = ((max b.mark t : Nat) : Int) := by split <;> omega
  generalize settleB ⟨b.late, b.room, max b.mark t, b.front, b.evs⟩ = R at *
  simp only [go_sem, c1, h4]
  simp only [hmx]
  refine hst.useA ?_
  simp only [go_sem, h4]
  refine alloc_intro fun c7 h7 => ?_
  simp only [fresh_set] at h7
  simp only [go_sem, h4, h7]
  have y7 : S (.r c7) = none := h7.2.2.2
  refine ⟨S, ?_, ?_⟩
  · repeat' first
      | exact Sub.refl _
      | refine Sub.set ?_ (by assumption) _
  · simp [evsP]
end Go.Sk
end

-- W16g
section
namespace Go.Sk
open Go Go.Proofs

set_option maxHeartbeats 1000000 in
set_option maxRecDepth 8000 in
theorem ref16_pass (s : Ecm) (b : Buf) (out : List Event) (hp : PassOk s out) : Pure Tryz.prog 81 [s.av, b.av, .p (evsP out)] (passE s b out).av := fun S => by
  have hn := hp.len
  refine callR_of Tryz.func81 rfl rfl (xc_ok (bitB 66527) _ _ _ ?_)
  simp only [go_sem, evsP]
  refine alloc_intro fun c3 h3 => ?_
  simp only [go_sem]
  refine alloc_intro fun c4 h4 => ?_
  simp only [fresh_set] at h4
  simp only [go_sem, h4]
  refine alloc_intro fun c6 h6 => ?_
  simp only [fresh_set] at h6
  simp only [go_sem, h4, h6]
  refine alloc_intro fun c7 h7 => ?_
  simp only [fresh_set] at h7
  simp only [go_sem, h4, h6, h7]
  have y3 : S (.r c3) = none := h3
  have y4 : S (.r c4) = none := h4.2
  have y6 : S (.r c6) = none := h6.2.2
  have y7 : S (.r c7) = none := h7.2.2.2
  refine AWP.iter (fun i => ⟨Env.get [(2, .p (.sl (out.map Event.pv))), (3, .sp c3 0), (4, .sp c4 0), (6, .sp c6 0), (7, .sp c7 0), (8, i64 i)],
    (((S.set (.r c3) (.cells (s.pv.map .p))).set (.r c4) (.cells (b.pv.map .p))).set (.r c6) (.cells [u64 0, u64 0, i64 0, u64 0, u64 0, .nils, i64 0, .nils, .nils, i64 0, i64 0, .nils])).set (.r c7) (.cells ((passG s.past (out.take i)).pv.map .p)), 39, []⟩) out.length ?_ ?_ ?_
  · refine le_of (by simp only [go_sem, List.length_map] <;> simp) ?_ rfl rfl (by simp)
    simp only [Ecm.pv, Buf.pv, Grid.pv, List.map_cons, List.map_nil]
    ((try dsimp only); (repeat refine sub_set ?_ ?_) <;> first | ((repeat (first | exact Sub.refl _ | refine Sub.setF ?_ (by first | assumption | simp only [*]) | refine Sub.setV ?_ (by first | assumption | simp only [*]))); done) | (simp only [go_sem, h4, h6, h7, List.take_zero]; done) | (simp only [go_sem, h4, h6, h7, List.take_zero]; rfl) | rfl)
    done
  · intro i hi ih
    have hgd := (hp.pre i).1
    have hok := hp.ok _ (List.getElem_mem hi)
    have hA := ref15_Add (passG s.past (out.take i)) out[i] hgd.ok hok.k hok.w
    have hs := passG_snoc s.past out i hi
    rw [← hs] at hA
    generalize (addG (passG s.past (out.take i)) out[i]).2 = code at hA
    refine AWPH.step (xc_ok (bitB 66527) _ _ _ ?_)
    simp only [go_sem, hi, ltN' hi, getD_map' _ _ _ _ hi, List.length_map]
    refine AWP.draw2 (bitB 66527) mixed (by kernel_rfl) (fun j => .tuple [(passG s.past (out.take (i + 1))).av, i64 code]) ?_
    simp only [go_sem, h4, h6, h7, hi, ltN' hi, getD_map' _ _ _ _ hi, List.length_map]
    refine ⟨hA.draw, ?_⟩
    refine alloc_intro fun c9 h9 => ?_
    simp only [fresh_set] at h9
    simp only [go_sem, h4, h6, h7, h9]
    refine ih.back ?_ (by simp) ?_
    · simp only [Ecm.pv, Buf.pv, Grid.pv, List.map_cons, List.map_nil]
      ((try dsimp only); (repeat refine sub_set ?_ ?_) <;> first | ((repeat (first | exact Sub.refl _ | refine Sub.setF ?_ (by first | assumption | simp only [*]) | refine Sub.setV ?_ (by first | assumption | simp only [*]))); done) | (simp only [go_sem, h4, h6, h7, h9]; done) | (simp only [go_sem, h4, h6, h7, h9]; rfl) | rfl)
      done
    · simp only [go_sem, wi_succ (show i < 4611686018427387904 by omega), List.length_map]
  · refine AWPH.step (xc_ok (bitB 66527) _ _ _ ?_)
    simp only [go_sem, List.take_length, List.length_map]
    obtain ⟨hgd, hne⟩ := hp.pre out.length
    rw [List.take_length] at hgd hne
    have hD := ref15_Drop (passG s.past out) hgd.lo b.front s.win
    rw [drops_eq hgd hne (oldV_anti b.front s.win)] at hD
    refine AWP.draw2 (bitB 66527) mixed (by kernel_rfl) (fun j => (dropGr (dropG (oldV b.front s.win)) (passG s.past out)).av) ?_
    simp only [go_sem, h4, h6, h7]
    refine ⟨hD.draw, S, ?_, ?_⟩
    · repeat' first | exact Sub.refl _ | refine Sub.set ?_ (by assumption) _
    · simp [passE]
set_option maxHeartbeats 1000000 in
set_option maxRecDepth 8000 in
theorem ref16_Move (s : Ecm) (hg : s.Good) (t : Nat) : Pure Tryz.prog 47 [s.av, u64 t] (.tuple [(moveE s t).1.av, i64 (moveE s t).2]) := fun S => by
  obtain ⟨hz, hn⟩ := hg.bsz
  have hT := hg.top
  refine callR_of Tryz.func47 rfl rfl (xc_ok (bitB 262647) _ _ _ ?_)
  simp only [go_sem]
  refine alloc_intro fun c2 h2 => ?_
  simp only [go_sem]
  refine alloc_intro fun c4 h4 => ?_
  simp only [fresh_set] at h4
  simp only [go_sem, h4]
  refine (ref12_Move s.b hz hT.sr t).useA ?_
  have hpre := move_passOk hg t
  have hres : moveE s t = if (moveB s.b t).2 = 0 then (passE s (moveB s.b t).1.1 (moveB s.b t).1.2, 0) else (zeroE, (moveB s.b t).2) := rfl
  rw [hres]
  generalize moveB s.b t = R at *
  obtain ⟨⟨b', out⟩, bad⟩ := R
  dsimp only at hpre ⊢
  simp only [go_sem, h4]
  refine alloc_intro fun c6 h6 => ?_
  simp only [fresh_set] at h6
  have y2 : S (.r c2) = none := h2
  have y4 : S (.r c4) = none := h4.2
  have y6 : S (.r c6) = none := h6.2.2
  by_cases h0 : bad = 0
  rotate_left
  · have h0b : (bad != 0) = true := by simpa using h0
    simp only [go_sem, h4, h6, h0b]
    refine ⟨S, ?_, ?_⟩
    · repeat' first | exact Sub.refl _ | refine Sub.set ?_ (by assumption) _
    · rw [if_neg h0]; simp [zeroE, zeroB, zeroG, zeroH]
  have h0b : (bad != 0) = false := by simpa using h0
  simp only [go_sem, h4, h6, h0b]
  refine (ref16_pass s b' out (hpre h0)).useA ?_
  simp only [go_sem, h4, h6]
  refine ⟨S, ?_, ?_⟩
  · repeat' first | exact Sub.refl _ | refine Sub.set ?_ (by assumption) _
  · rw [if_pos h0]; simp
set_option maxHeartbeats 1000000 in
set_option maxRecDepth 8000 in
theorem ref16_Add (s : Ecm) (hg : s.Good) (e : Event) (he : e.Ok) : Pure Tryz.prog 48 [s.av, e.av] (.tuple [(addE s e).1.av, i64 (addE s e).2]) := fun S => by
  obtain ⟨hz, hn⟩ := hg.bsz
  have hl := hg.evLen
  have hTp := hg.top
  have hK := ref04_Key e.k
  have hres : addE s e = if e.k < 2305843009213693951 then
      (if (pushB s.b e).2 = 0 then (if lightG s.past (s.b.evs ++ [e]) = true then (passE s (pushB s.b e).1.1 (pushB s.b e).1.2, 0) else (zeroE, 5)) else (zeroE, (pushB s.b e).2)) else (zeroE, 7) := rfl
  refine callR_of Tryz.func48 rfl rfl (xc_ok (bitB 1099528414207) _ _ _ ?_)
  simp only [go_sem]
  refine alloc_intro fun c2 h2 => ?_
  simp only [go_sem]
  refine alloc_intro fun c3 h3 => ?_
  simp only [fresh_set] at h3
  simp only [go_sem, h3]
  refine alloc_intro fun c4 h4 => ?_
  simp only [fresh_set] at h4
  simp only [go_sem, h3, h4]
  refine hK.useA ?_
  have y2 : S (.r c2) = none := h2
  have y3 : S (.r c3) = none := h3.2
  have y4 : S (.r c4) = none := h4.2.2
  by_cases hk : e.k < 2305843009213693951
  rotate_left
  · simp only [go_sem, h3, h4, hk]
    refine ⟨S, ?_, ?_⟩
    · repeat' first | exact Sub.refl _ | refine Sub.set ?_ (by assumption) _
    · rw [hres, if_neg hk]; simp [zeroE, zeroB, zeroG, zeroH]
  simp only [go_sem, h3, h4, hk]
  refine (ref12_Push s.b hz hn hTp.sr e).useA ?_
  have hpre := add_passOk hg e he hk
  rw [hres, if_pos hk]
  generalize pushB s.b e = R at *
  obtain ⟨⟨b', out⟩, bad⟩ := R
  dsimp only at hpre ⊢
  simp only [go_sem, h3, h4]
  refine alloc_intro fun c6 h6 => ?_
  simp only [fresh_set] at h6
  have y6 : S (.r c6) = none := h6.2.2.2
  by_cases h0 : bad = 0
  rotate_left
  · have h0b : (bad != 0) = true := by simpa using h0
    simp only [go_sem, h3, h4, h6, h0b]
    refine ⟨S, ?_, ?_⟩
    · repeat' first | exact Sub.refl _ | refine Sub.set ?_ (by assumption) _
    · rw [if_neg h0]; simp [zeroE, zeroB, zeroG, zeroH]
  have h0b : (bad != 0) = false := by simpa using h0
  simp only [go_sem, h3, h4, h6, h0b]
  have hH := ref16_Heavy (s.b.evs ++ [e]) s.past hg.pg (fun x hx => by
    rcases List.mem_append.1 hx with hx | hx
    · exact hg.evOk x hx
    · simp only [List.mem_singleton] at hx; subst hx; exact he) (by simp; omega)
  refine ⟨evn_len, by clear h3 h4 h6; omega, by clear h3 h4 h6; omega, tip_intro fun v loc hv => ?_⟩
  simp only [freshv_setr] at hv
  have yv : S (.v v) = none := hv
  simp only [go_sem, h3, h4, h6, hv, List.length_map]
  refine ⟨by rintro el rfl; rfl, evn_len, by clear h3 h4 h6; omega, by clear h3 h4 h6; omega, grow_intro fun loc' => ?_⟩
  have e5 : List.map Event.pv s.b.evs ++ [[.int .u64 e.t, .int .u64 e.k, .int .u64 e.w]] = List.map Event.pv (s.b.evs ++ [e]) := by rw [List.map_append]; rfl
  simp only [go_sem, h3, h4, h6, hv, e5]
  refine hH.useA ?_
  cases hh : lightG s.past (s.b.evs ++ [e])
  · simp only [go_sem, h3, h4, h6]
    refine ⟨S, ?_, ?_⟩
    · repeat' first | exact Sub.refl _ | refine Sub.set ?_ (by assumption) _
    · rw [if_pos h0]; simp [zeroE, zeroB, zeroG, zeroH]
  · simp only [go_sem, h3, h4, h6]
    refine (ref16_pass s b' out (hpre h0 hh)).useA ?_
    simp only [go_sem, h3, h4, h6]
    refine ⟨S, ?_, ?_⟩
    · repeat' first | exact Sub.refl _ | refine Sub.set ?_ (by assumption) _
    · rw [if_pos h0]; simp
theorem ref16_One (s : Ecm) (hg : s.Good) (e : Event) (he : e.Ok) : Pure Tryz.prog 19 [s.av, e.av] (.tuple [(oneE s e).1.av, i64 (oneE s e).2]) := fun S => by
  refine callR_of Tryz.func19 rfl rfl (xc_ok (bitB 319) _ _ _ ?_)
  simp only [go_sem]
  refine alloc_intro fun c2 h2 => ?_
  simp only [go_sem]
  refine alloc_intro fun c3 h3 => ?_
  simp only [fresh_set] at h3
  simp only [go_sem, h3]
  refine alloc_intro fun c4 h4 => ?_
  simp only [fresh_set] at h4
  have y2 : S (.r c2) = none := h2
  have y3 : S (.r c3) = none := h3.2
  have y4 : S (.r c4) = none := h4.2.2
  by_cases c : e.w = 0
  · have g : (e.w == 0) = true := by simpa using c
    have h1 : oneE s e = moveE s e.t := by unfold oneE; rw [if_pos c]
    rw [h1]
    simp only [go_sem, h3, h4, g]
    refine (ref16_Move s hg e.t).useA ?_
    simp only [go_sem, h3, h4]
    refine ⟨S, ?_, ?_⟩
    · repeat' first | exact Sub.refl _ | refine Sub.set ?_ (by assumption) _
    · simp
  · have g : (e.w == 0) = false := by simpa using c
    have h1 : oneE s e = addE s e := by unfold oneE; rw [if_neg c]
    rw [h1]
    simp only [go_sem, h3, h4, g]
    refine (ref16_Add s hg e he).useA ?_
    simp only [go_sem, h3, h4]
    refine ⟨S, ?_, ?_⟩
    · repeat' first | exact Sub.refl _ | refine Sub.set ?_ (by assumption) _
    · simp
end Go.Sk
end

-- W16j
section
namespace Go.Sk
open Go Go.Proofs

set_option maxHeartbeats 1000000 in
set_option maxRecDepth 8000 in
theorem ref16_Point (s : Ecm) (hg : s.Good) (x tick span : Nat) (hx : x < 18446744073709551616) : Pure Tryz.prog 14 [s.av, u64 x, u64 tick, u64 span] (.tuple [u64 (pointE s x tick span).1, i64 (pointE s x tick span).2]) := fun S => by
  have hK := ref04_Key x
  have hA := ref14_Asked s.b s.win tick span
  have hn := hg.pg.n
  have hsdl := hg.pg.sd
  have hw2 := hg.pg.w2
  have hel := hg.evLen
  refine callR_of Tryz.func14 rfl rfl (xc_ok (bitB 302231454903665950883615) _ _ _ ?_)
  simp only [go_sem]
  refine alloc_intro fun c4 h4 => ?_
  have y4 : S (.r c4) = none := h4
  simp only [go_sem]
  refine hK.useA ?_
  by_cases hk : x < 2305843009213693951
  rotate_left
  · simp only [go_sem, hk]
    (refine ⟨S, by (repeat (first | exact Sub.refl _ | refine Sub.setF ?_ (by first | assumption | simp only [*]) | refine Sub.setV ?_ (by first | assumption | simp only [*]))), ?_⟩); simp [pointE, hk]
  simp only [go_sem, hk]
  refine hA.useA ?_
  by_cases q1 : tick < s.b.front ∨ 9223372036854775807 < tick
  · rw [if_pos q1]
    have g : ((6 : Int) != 0) = true := by decide
    simp only [go_sem, g]
    (refine ⟨S, by (repeat (first | exact Sub.refl _ | refine Sub.setF ?_ (by first | assumption | simp only [*]) | refine Sub.setV ?_ (by first | assumption | simp only [*]))), ?_⟩); simp [pointE, hk, q1]
  rw [if_neg q1]
  by_cases q2 : span = 0 ∨ s.win < span
  · rw [if_pos q2]
    have g : ((8 : Int) != 0) = true := by decide
    simp only [go_sem, g]
    (refine ⟨S, by (repeat (first | exact Sub.refl _ | refine Sub.setF ?_ (by first | assumption | simp only [*]) | refine Sub.setV ?_ (by first | assumption | simp only [*]))), ?_⟩); simp [pointE, hk, q1, q2]
  rw [if_neg q2]
  simp only [go_sem, bne_self_eq_false]
  refine AWP.iter (fun i => ⟨Env.get [(1, u64 x), (2, u64 tick), (3, u64 span), (4, .sp c4 0), (11, u64 (lowV (cellQ s x tick span) i)), (12, i64 i)], S.set (.r c4) (.cells (s.pv.map .p)), 81, []⟩) s.past.rows.length ?_ ?_ ?_
  · refine le_of (by simp only [go_sem] <;> simp [lowV]) ?_ rfl rfl (by simp)
    ((try dsimp only); (repeat refine sub_set ?_ ?_) <;> first | ((repeat (first | exact Sub.refl _ | refine Sub.setF ?_ (by first | assumption | simp only [*]) | refine Sub.setV ?_ (by first | assumption | simp only [*]))); done) | (simp only [go_sem]; done) | (simp only [go_sem]; rfl) | rfl)
  · intro j hj ih
    have hsi : j < s.past.sd.length := by rw [hsdl]; exact hj
    have hso := Seed.ok_of_may (hg.pg.so _ (List.getElem_mem hsi))
    have hsd : s.past.sd.getD j default = s.past.sd[j] := by simp [List.getD_eq_getElem?_getD, hsi]
    have hC := ref04_Column s.past.sd[j] x s.past.w hso hx (by omega)
    have hI := ref13_In s.b.evs tick span ⟨s.past.sd[j], s.past.w, colV s.past.sd[j] x s.past.w⟩ (by omega) hg.evOk hso (by dsimp only; omega)
    dsimp only at hI
    have hR := ref15_Row s.past hg.pg.ok j x tick span hx
    have hcq : m64 (rowV s.past j x tick span + colSumV s.b.evs tick span s.past.sd[j] s.past.w (colV s.past.sd[j] x s.past.w)) = cellQ s x tick span j := by unfold cellQ; rw [hsd]
    have hq : wi ((j : Int) + 1) = ((j + 1 : Nat) : Int) := wi_succ (show j < 4611686018427387904 by omega)
    refine AWPH.step (xc_ok (bitB 302231454903665950883615) _ _ _ ?_)
    simp only [go_sem, hj, hsi, List.length_map]
    refine AWP.draw2 (bitB 302231454903665950883615) mixed (by kernel_rfl) (fun q => i64 (colV s.past.sd[j] x s.past.w)) ?_
    simp only [go_sem, hsi, ltN' hsi, getD_map' _ _ _ _ hsi]
    refine ⟨hC.draw, ?_⟩
    refine alloc_intro fun c13 h13 => ?_
    simp only [fresh_set] at h13
    simp only [go_sem, h13]
    refine AWP.draw2 (bitB 302231454903665950883615) mixed (by kernel_rfl) (fun q => if q = 6 then u64 (rowV s.past j x tick span) else u64 (colSumV s.b.evs tick span s.past.sd[j] s.past.w (colV s.past.sd[j] x s.past.w))) ?_
    simp only [go_sem, h13, hcq]
    refine ⟨hR.draw, hI.draw, ?_⟩
    by_cases h0 : j = 0
    · have g0 : (j == 0) = true := by simpa using h0
      have el : lowV (cellQ s x tick span) (j + 1) = cellQ s x tick span j := by rw [lowV, if_pos h0, h0]
      simp only [go_sem, g0]
      refine ih.back ?_ (by simp) ?_
      · ((try dsimp only); (repeat refine sub_set ?_ ?_) <;> first | ((repeat (first | exact Sub.refl _ | refine Sub.setF ?_ (by first | assumption | simp only [*]) | refine Sub.setV ?_ (by first | assumption | simp only [*]))); done) | (simp only [go_sem, h13]; done) | (simp only [go_sem, h13]; rfl) | rfl)
      · simp only [go_sem, hq, el]
    have g0 : (j == 0) = false := by simpa using h0
    by_cases hlt : cellQ s x tick span j < lowV (cellQ s x tick span) j
    · have el : lowV (cellQ s x tick span) (j + 1) = cellQ s x tick span j := by rw [lowV, if_neg h0]; omega
      simp only [go_sem, g0, hlt]
      refine ih.back ?_ (by simp) ?_
      · ((try dsimp only); (repeat refine sub_set ?_ ?_) <;> first | ((repeat (first | exact Sub.refl _ | refine Sub.setF ?_ (by first | assumption | simp only [*]) | refine Sub.setV ?_ (by first | assumption | simp only [*]))); done) | (simp only [go_sem, h13]; done) | (simp only [go_sem, h13]; rfl) | rfl)
      · simp only [go_sem, hq, el]
    · have el : lowV (cellQ s x tick span) (j + 1) = lowV (cellQ s x tick span) j := by rw [lowV, if_neg h0]; omega
      simp only [go_sem, g0, hlt]
      refine ih.back ?_ (by simp) ?_
      · ((try dsimp only); (repeat refine sub_set ?_ ?_) <;> first | ((repeat (first | exact Sub.refl _ | refine Sub.setF ?_ (by first | assumption | simp only [*]) | refine Sub.setV ?_ (by first | assumption | simp only [*]))); done) | (simp only [go_sem, h13]; done) | (simp only [go_sem, h13]; rfl) | rfl)
      · simp only [go_sem, hq, el]
  · refine AWPH.step (xc_ok (bitB 302231454903665950883615) _ _ _ ?_)
    simp only [go_sem, hsdl, List.length_map]
    (refine ⟨S, by (repeat (first | exact Sub.refl _ | refine Sub.setF ?_ (by first | assumption | simp only [*]) | refine Sub.setV ?_ (by first | assumption | simp only [*]))), ?_⟩); simp [pointE, hk, q1, q2]

noncomputable def madeE (c : ConfE) (l : List Event) : Ecm × List Event := madeEo (l.take 15) (tameE' c).new []
theorem tame_good (c : ConfE) : (tameE' c).new.Good ∧ (tameE' c).new.Led [] := by
  have hT := tameV_good c.two
  unfold tameV at hT
  have hl := tameS_len c.two
  unfold ConfE.new tameE'
  dsimp only
  exact newE_good hT hl.1 (by unfold tameK; omega) (by unfold tameK; omega) (by omega) (by omega) (by omega) (by omega) (by omega)
set_option maxHeartbeats 1000000 in
set_option maxRecDepth 8000 in
theorem ref16_Made (c : ConfE) (l : List Event) (hn : c.sd.length < 1099511627776) (hk : c.k < 9223372036854775808) (hw : c.w < 9223372036854775808) (hl : l.length < 1099511627776) (ho : ∀ e ∈ l, e.Ok) :
    Pure Tryz.prog 11 [c.av, .p (evsP l)] (.tuple [(madeE c l).1.av, .p (evsP (madeE c l).2)]) := fun S => by
  have hT := ref16_Tame c hn hk hw
  have hsl := (tameS_len c.two).2
  have hN := ref16_New (tameE' c) (by show (tameS c.two).length < _; omega) (by show tameW c.two < _; unfold tameW; omega) (by show 0 ≤ tameW c.two; unfold tameW; omega)
  have hnew := (tame_good c).1
  have hm0 : madeEo ((l.take 15).drop 0) (tameE' c).new [] = madeE c l := by rw [List.drop_zero]; rfl
  generalize (tameE' c).new = s0 at hN hnew hm0
  generalize tameE' c = c' at hT hN
  refine callR_of Tryz.func11 rfl rfl (xc_ok (bitB 8830454859767) _ _ _ ?_)
  simp only [go_sem, evsP]
  refine alloc_intro fun c2 h2 => ?_
  simp only [go_sem]
  refine alloc_intro fun c4 h4 => ?_
  simp only [fresh_set] at h4
  simp only [go_sem, h4]
  refine hT.useA ?_
  simp only [go_sem, h4]
  refine hN.useA ?_
  simp only [go_sem, h4]
  refine alloc_intro fun c6 h6 => ?_
  simp only [fresh_set] at h6
  simp only [go_sem, h4, h6]
  have y2 : S (.r c2) = none := h2
  have y4 : S (.r c4) = none := h4.2
  have y6 : S (.r c6) = none := h6.2.2
  clear hN hT
  refine AWP.tip0 7 3 (by simp only [go_sem]) fun v hv => ?_
  simp only [freshv_setr] at hv
  simp only [go_sem]
  refine AWP.roam (ι := Nat × Ecm × List Event × Option Nat) (fun y => y.1 ≤ l.length ∧ y.1 ≤ 15 ∧ y.2.1.Good ∧ y.2.2.1.length ≤ y.1 ∧ madeEo ((l.take 15).drop y.1) y.2.1 y.2.2.1 = madeE c l)
    (fun y => ⟨Env.get [(1, .p (evsP l)), (4, .sp c4 0), (6, .sp c6 0), (7, .ts v 3 y.2.2.2 (y.2.2.1.map Event.pv)), (8, i64 y.1)],
      ((S.set (.r c4) (.cells [u64 0, u64 0, i64 0, u64 0, u64 0, .nils, i64 0, .nils, .nils, i64 0, i64 0, .nils])).set (.r c6) (.cells (y.2.1.pv.map .p))).set (.v v) (.tip 3 y.2.2.1.length y.2.2.2), 54, []⟩)
    (fun y => l.length - y.1) (0, s0, [], none) ⟨Nat.zero_le _, Nat.zero_le _, hnew, Nat.le_refl _, hm0⟩ ?_ ?_
  · refine le_of (by simp only [go_sem, evsP] <;> rfl) ?_ rfl rfl (by simp)
    ((try dsimp only); (repeat refine sub_set ?_ ?_) <;> first | ((repeat (first | exact Sub.refl _ | refine Sub.setF ?_ (by first | assumption | simp only [*]) | refine Sub.setV ?_ (by first | assumption | simp only [*]))); done) | (simp only [go_sem, h4, h6, hv, List.map_nil, List.length_nil]; done) | (simp only [go_sem, h4, h6, hv, List.map_nil, List.length_nil]; rfl) | rfl)
  rintro ⟨i, s, all, loc⟩ ⟨hi, hi2, hg, hall, hm⟩ ih
  dsimp only at hi hi2 hg hall hm ⊢
  refine AWPH.step (xc_ok (bitB 8830454859767) _ _ _ ?_)
  have hlen2 : (l.take 15).length = min 15 l.length := List.length_take
  have stop : ¬ (i < l.length ∧ i < 15) → (s, all) = madeE c l := by
    intro hc
    rw [List.drop_of_length_le (by rw [hlen2]; clear h4 h6; omega)] at hm
    exact hm
  by_cases c1 : i < l.length
  rotate_left
  · simp only [go_sem, c1, h4, h6, evsP, List.length_map]
    have := stop (fun h => c1 h.1)
    refine ⟨S, ?_, ?_⟩
    · repeat' first | exact Sub.refl _ | refine Sub.set ?_ (by assumption) _
    · rw [← this]; simp
  by_cases c2' : (i : Int) < 15
  rotate_left
  · simp only [go_sem, c1, c2', h4, h6, evsP, List.length_map]
    have := stop (fun h => c2' (by clear h4 h6; omega))
    refine ⟨S, ?_, ?_⟩
    · repeat' first | exact Sub.refl _ | refine Sub.set ?_ (by assumption) _
    · rw [← this]; simp
  have hok : (l[i]).Ok := ho _ (List.getElem_mem c1)
  have hq : wi ((i : Int) + 1) = ((i + 1 : Nat) : Int) := wi_succ (show i < 4611686018427387904 by clear h4 h6; omega)
  simp only [go_sem, c1, c2', h4, h6, evsP, ltN' c1, getD_map' _ _ _ _ c1, List.length_map]
  refine AWP.draw2 (bitB 8830454859767) mixed (by kernel_rfl) (fun j => .tuple [(oneE s (l[i])).1.av, i64 (oneE s (l[i])).2]) ?_
  simp only [go_sem, c1, h4, h6, evsP, ltN' c1, getD_map' _ _ _ _ c1]
  refine ⟨(ref16_One s hg (l[i]) hok).draw, ?_⟩
  have hdrop : (l.take 15).drop i = l[i] :: (l.take 15).drop (i + 1) := by
    rw [List.drop_eq_getElem_cons (by rw [hlen2]; clear h4 h6; omega)]
    congr 1
    rw [List.getElem_take]
  rw [hdrop] at hm
  unfold madeEo at hm
  have hgd := oneE_ok hg (l[i])
  generalize oneE s (l[i]) = X at *
  refine alloc_intro fun c9 h9 => ?_
  simp only [fresh_set, fresh_setv] at h9
  simp only [go_sem, h4, h6, h9]
  by_cases ex : X.2 = 0
  rotate_left
  · have exb : (X.2 == 0) = false := by simpa using ex
    rw [if_neg ex] at hm
    simp only [go_sem, exb, h4, h6, h9, hv]
    refine (ih (i + 1, s, all, loc) ⟨c1, by dsimp only; clear h4 h6 h9; omega, hg, by dsimp only; clear h4 h6 h9; omega, hm⟩ (by dsimp only; clear h4 h6 h9; omega)).back ?_ (by simp) ?_
    · ((try dsimp only); (repeat refine sub_set ?_ ?_) <;> first | ((repeat (first | exact Sub.refl _ | refine Sub.setF ?_ (by first | assumption | simp only [*]) | refine Sub.setV ?_ (by first | assumption | simp only [*]))); done) | (simp only [go_sem, h4, h6, h9, hv]; done) | (simp only [go_sem, h4, h6, h9, hv]; rfl) | rfl)
    · simp only [go_sem, hq, evsP]
  have exb : (X.2 == 0) = true := by simpa using ex
  rw [if_pos ex] at hm
  simp only [go_sem, exb, h4, h6, h9, hv, ltN' c1, getD_map' _ _ _ _ c1]
  by_cases ew : 0 < (l[i]).w
  rotate_left
  · rw [if_neg ew] at hm
    simp only [go_sem, ew, h4, h6, h9, hv]
    refine (ih (i + 1, X.1, all, loc) ⟨c1, by dsimp only; clear h4 h6 h9; omega, (hgd ex).1, by dsimp only; clear h4 h6 h9; omega, hm⟩ (by dsimp only; clear h4 h6 h9; omega)).back ?_ (by simp) ?_
    · ((try dsimp only); (repeat refine sub_set ?_ ?_) <;> first | ((repeat (first | exact Sub.refl _ | refine Sub.setF ?_ (by first | assumption | simp only [*]) | refine Sub.setV ?_ (by first | assumption | simp only [*]))); done) | (simp only [go_sem, h4, h6, h9, hv]; done) | (simp only [go_sem, h4, h6, h9, hv]; rfl) | rfl)
    · simp only [go_sem, hq, evsP]
  rw [if_pos ew] at hm
  simp only [go_sem, ew, h4, h6, h9, hv, ltN' c1, getD_map' _ _ _ _ c1]
  have e5 : List.map Event.pv all ++ [[.int .u64 (l[i]).t, .int .u64 (l[i]).k, .int .u64 (l[i]).w]] = List.map Event.pv (all ++ [l[i]]) := by rw [List.map_append]; rfl
  refine ⟨by rintro el rfl; rfl, evn_len, by clear h4 h6 h9; omega, by clear h4 h6 h9; omega, grow_intro fun loc' => ?_⟩
  simp only [go_sem, h4, h6, h9, hv, e5, hq]
  refine (ih (i + 1, X.1, all ++ [l[i]], loc') ⟨c1, by dsimp only; clear h4 h6 h9; omega, (hgd ex).1, by simp; clear h4 h6 h9; omega, hm⟩ (by dsimp only; clear h4 h6 h9; omega)).back ?_ (by simp) ?_
  · ((try dsimp only); (repeat refine sub_set ?_ ?_) <;> first | ((repeat (first | exact Sub.refl _ | refine Sub.setF ?_ (by first | assumption | simp only [*]) | refine Sub.setV ?_ (by first | assumption | simp only [*]))); done) | (simp only [go_sem, h4, h6, h9, hv, List.length_map, e5]; done) | (simp only [go_sem, h4, h6, h9, hv, List.length_map, e5]; rfl) | rfl)
  · simp only [go_sem, hq, evsP, e5]
end Go.Sk
end

-- W16k
section
namespace Go.Sk
open Go Go.Proofs

set_option maxRecDepth 8000 in
theorem made16 (x : Ecm) (hz : x.past.Sz) : Pure Tryz.prog 13 [x.av] x.av := fun S => by
  have hL := laid x.past hz
  refine callR_of Tryz.func13 rfl rfl (xc_ok (bitB 15) _ _ _ ?_)
  simp only [go_sem]
  refine alloc_intro fun c1 h1 => ?_
  simp only [go_sem]
  refine alloc_intro fun c2 h2 => ?_
  simp only [fresh_set] at h2
  simp only [go_sem, h2]
  refine alloc_intro fun c3 h3 => ?_
  simp only [fresh_set] at h3
  simp only [go_sem, h2, h3]
  refine AWP.draw2 (bitB 15) mixed (by kernel_rfl) (fun j => x.past.av) ?_
  simp only [go_sem, h2, h3]
  have y1 : S (.r c1) = none := h1
  have y2 : S (.r c2) = none := h2.2
  have y3 : S (.r c3) = none := h3.2.2
  refine ⟨hL.draw, S, ?_, ?_⟩
  · repeat' first | exact Sub.refl _ | refine Sub.set ?_ (by assumption) _
  · simp
set_option maxRecDepth 8000 in
theorem same16 (x y : Ecm) (hx : x.Small) (hz : x.past.Sz) : Pure Tryz.prog 9 [x.av, y.av] (bl (decide (x = y))) := fun S => by
  have hL := back x.past hz
  refine callR_of Tryz.func9 rfl rfl (xc_ok (bitB 127) _ _ _ ?_)
  simp only [go_sem]
  refine alloc_intro fun c1 h1 => ?_
  simp only [go_sem]
  refine alloc_intro fun c2 h2 => ?_
  simp only [fresh_set] at h2
  simp only [go_sem, h2]
  refine alloc_intro fun c3 h3 => ?_
  simp only [fresh_set] at h3
  simp only [go_sem, h2, h3]
  refine AWP.draw2 (bitB 127) mixed (by kernel_rfl) (fun j => x.past.av) ?_
  simp only [go_sem, h2, h3]
  refine ⟨hL.draw, ?_⟩
  refine alloc_intro fun c4 h4 => ?_
  simp only [fresh_set] at h4
  simp only [go_sem, h2, h3, h4]
  refine (ref16_Same x y hx).useA ?_
  simp only [go_sem]
  have y1 : S (.r c1) = none := h1
  have y2 : S (.r c2) = none := h2.2
  have y3 : S (.r c3) = none := h3.2.2
  have y4 : S (.r c4) = none := h4.2.2.2
  refine ⟨S, ?_, ?_⟩
  · repeat' first | exact Sub.refl _ | refine Sub.set ?_ (by assumption) _
  · simp

def c16 : ConfE := ⟨0, 2, 10, 2, 9, 1, [⟨1, 0⟩], 0, 0⟩
def e16 : Event := ⟨5, 7, 3⟩
def s16 : Ecm := ⟨10, ⟨2, 9, 5, 3, [e16]⟩, newV 2 1 [⟨1, 0⟩]⟩
theorem push16 : pushB ⟨2, 9, 0, 0, []⟩ e16 = ((⟨2, 9, 5, 3, [e16]⟩, []), 0) := by
  have h : settleN 9 [e16] 3 = (3, 0) := by rw [settleN_end (by decide)]; rfl
  unfold pushB
  rw [if_neg (by decide), if_neg (by decide), if_neg (by decide)]
  unfold settleB
  show ((Buf.mk _ _ _ (settleN 9 [e16] 3).1 (List.drop (settleN 9 [e16] 3).2 _), List.take (settleN 9 [e16] 3).2 _), (0 : Int)) = _
  rw [h]; rfl
theorem col16 (x i : Nat) : colN (newV 2 1 [⟨1, 0⟩]) x i = 0 := by
  have := colN_lt (newV 2 1 [⟨1, 0⟩]) (by decide) x i
  have e : (newV 2 1 [⟨1, 0⟩]).w.toNat = 1 := rfl
  omega
theorem light16 : lightG (newV 2 1 [⟨1, 0⟩]) ([] ++ [e16]) = true := by
  rw [light_iff]
  intro p h ha
  rw [newV_at ha]
  have h1 : sumE Event.w (([] ++ [e16]).filter p) ≤ sumE Event.w [e16] := sumE_sub _ List.filter_sublist
  have h2 : sumE Event.w [e16] = 3 := rfl
  have h3 : totN 0 (emptyH 2).ls = 0 := rfl
  omega
theorem add16 : addE c16.new e16 = (s16, 0) := by
  unfold addE ConfE.new newE c16
  dsimp only
  rw [if_pos (by decide), push16, if_pos rfl, light16, if_pos rfl]
  rfl
theorem g16 : c16.new.Good := (newE_good (newV_good (by decide) (by decide) (by decide) (by decide) (by decide) (by intro s hs; have h := List.mem_singleton.1 (show s ∈ [(⟨1, 0⟩ : Seed)] from hs); subst h; decide)) (by decide) (by decide) (by decide) (by decide) (by decide) (by decide) (by decide) (by decide)).1
theorem gs16 : s16.Good := by
  have h : oneE c16.new e16 = (s16, 0) := by unfold oneE; rw [if_neg (by decide)]; exact add16
  have := (oneE_ok g16 e16 (by rw [h])).1
  rw [h] at this; exact this
theorem span16 : spanV [e16] 5 10 = 3 := by
  show (if withinV 5 10 e16 = true then m64 (0 + 3) else 0) = 3
  rw [if_pos (by unfold withinV; decide), m64_id (by decide)]
theorem est16 : estV ([] : List (List Span)) 5 10 = 0 := by
  show m64 (0 + 0 / 2) = 0
  exact m64_id (by decide)
theorem all16 : allE s16 5 10 = (3, 0) := by
  unfold allE s16
  dsimp only
  rw [if_neg (by decide), if_neg (by decide), span16, show (newV 2 1 [⟨1, 0⟩]).all.ls = [] from rfl, est16, m64_id (by decide)]
theorem point16 : pointE s16 8 5 10 = (3, 0) := by
  unfold pointE
  rw [if_pos (by decide), if_neg (by decide), if_neg (by decide)]
  have hl : s16.past.rows.length = 1 := rfl
  rw [hl]
  show ((if (0 : Nat) = 0 then cellQ s16 8 5 10 0 else _), (0 : Int)) = (3, 0)
  rw [if_pos rfl]
  have hc : ∀ x, colV (s16.past.sd.getD 0 default) x s16.past.w = 0 := fun x => by
    have h1 := col16 x 0
    have h2 := colV_nn (s16.past.sd.getD 0 default) x s16.past.w
    unfold colN at h1
    have h3 : (colV (s16.past.sd.getD 0 default) x s16.past.w).toNat = 0 := h1
    omega
  have h1 : rowV s16.past ((0 : Nat) : Int) 8 5 10 = 0 := by
    unfold rowV
    rw [if_pos (by decide)]
    have : colN s16.past 8 0 = 0 := col16 8 0
    show estV ((s16.past.rows.getD 0 []).getD (colN s16.past 8 0) zeroH).ls 5 10 = 0
    rw [this]
    exact est16
  have h2 : colSumV s16.b.evs 5 10 (s16.past.sd.getD 0 default) s16.past.w (colV (s16.past.sd.getD 0 default) 8 s16.past.w) = 3 := by
    rw [hc 8]
    show (if inV 5 10 (s16.past.sd.getD 0 default) s16.past.w 0 e16 = true then m64 (0 + 3) else 0) = 3
    rw [if_pos (by unfold inV; rw [hc, Bool.and_eq_true]; exact ⟨by unfold withinV; decide, by decide⟩), m64_id (by decide)]
  unfold cellQ
  rw [h1, h2, m64_id (by decide)]
theorem point16' : pointE s16 2305843009213693951 5 10 = (0, 7) := by
  unfold pointE
  rw [if_neg (by decide)]
set_option maxHeartbeats 1000000 in
set_option maxRecDepth 8000 in
theorem awake16 : Pure Tryz.prog 6 [] (bl true) := fun S => by
  have hc : confE c16 = 0 := by decide
  have hN := ecm_New c16 (by decide)
  rw [hc, if_pos rfl] at hN
  have hA := ecm_Add c16.new g16 e16 (by constructor <;> decide)
  rw [add16] at hA
  have hP := ecm_Point s16 gs16 8 5 10 (by decide)
  rw [point16] at hP
  have hQ := ecm_All s16 gs16 5 10
  rw [all16] at hQ
  have hR := ecm_Point s16 gs16 2305843009213693951 5 10 (by decide)
  rw [point16'] at hR
  have hS := ecm_Same s16 s16 gs16.small
  rw [decide_eq_true (rfl : s16 = s16)] at hS
  have hD := ecm_Same c16.new s16 g16.small
  rw [decide_eq_false (by decide)] at hD
  refine callR_of Tryz.func6 rfl rfl (xc_ok (bitB 1535) _ _ _ ?_)
  simp only [go_sem]
  refine hN.useA ?_
  simp only [go_sem]
  refine alloc_intro fun c1 h1 => ?_
  simp only [go_sem]
  refine hA.useA ?_
  simp only [go_sem]
  refine alloc_intro fun c3 h3 => ?_
  simp only [fresh_set] at h3
  simp only [go_sem, h3]
  refine hP.useA ?_
  simp only [go_sem, h3]
  refine hQ.useA ?_
  simp only [go_sem, h3]
  refine hR.useA ?_
  simp only [go_sem, h3, beq_self_eq_true]
  refine hS.useA ?_
  simp only [go_sem, h3]
  refine hD.useA ?_
  simp only [go_sem, h3]
  have y1 : S (.r c1) = none := h1
  have y3 : S (.r c3) = none := h3.2
  exact ⟨S, by repeat' first | exact Sub.refl _ | refine Sub.set ?_ (by assumption) _, Or.inl rfl⟩
end Go.Sk
end
