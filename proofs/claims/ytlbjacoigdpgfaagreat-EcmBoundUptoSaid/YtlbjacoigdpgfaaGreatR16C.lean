/- Texts W4c W6c W15a W6h, joined. -/
import Derived.Test.YtlbjacoigdpgfaaGreatW2
import Derived.Test.YtlbjacoigdpgfaaGreatSkRg
import Derived.Test.YtlbjacoigdpgfaaGreatR16B
import Derived.Test.YtlbjacoigdpgfaaGreatW6d
import Derived.Test.YtlbjacoigdpgfaaGreatW6b
set_option linter.unusedSimpArgs false
set_option linter.unusedVariables false
set_option linter.unusedSectionVars false
-- W4c
section
namespace Go.Sk
open Go Go.Proofs

def colE (c : Int) : List PV := [.int .i64 c]
def colsL (sd : List Seed) (x : Nat) (w : Int) : List Int := sd.map fun s => colV s x w
def itemsI (l : List Int) : Nat → List AV := fun k => [i64 (l.getD k 0)]
theorem seed_len {l : List Seed} : ∀ el ∈ l.map Seed.pv, el.length = 2 := by
  intro el h; obtain ⟨x, _, rfl⟩ := List.mem_map.1 h; rfl
theorem col_len {l : List Int} : ∀ el ∈ l.map colE, el.length = 1 := by
  intro el h; obtain ⟨x, _, rfl⟩ := List.mem_map.1 h; rfl

set_option maxRecDepth 4000 in
theorem hash_columns1 (sd : List Seed) (x : Nat) (w : Int) (hn : sd.length < 1099511627776) (hs : ∀ s ∈ sd, s.Ok) (hx : x < 18446744073709551616) (hw : w < 9223372036854775808) {T0 : Store} {b1 b2 b3 : Nat}
    (h1 : T0 (.r b1) = some (.cells [.p (.sl (sd.map Seed.pv))])) (h2 : T0 (.r b2) = some (.cells [u64 x])) (h3 : T0 (.r b3) = some (.cells [i64 w])) :
    SeqR Tryz.prog 131 [] [.sp b1 0, .sp b2 0, .sp b3 0] T0 (colsL sd x w).length (itemsI (colsL sd x w)) := by
  intro l J Jx hy E hd h0
  simp only [List.nil_append, List.singleton_append]
  have hlen : (colsL sd x w).length = sd.length := by simp [colsL]
  rw [hlen] at hy ⊢
  refine callR_of Tryz.func131 rfl rfl (xc_ok (bitB 526287) _ _ _ ?_)
  simp only [go_sem, h1]
  refine AWP.roam (ι := Nat × Store) (fun y => y.1 ≤ sd.length ∧ Disj T0 y.2 ∧ J y.1 y.2)
    (fun y => ⟨Env.get [(0, .fn (.yield l) [] []), (1, .sp b1 0), (2, .sp b2 0), (3, .sp b3 0), (7, .p (.sl (sd.map Seed.pv))), (8, i64 sd.length), (9, i64 y.1)], Store.join y.2 T0, 21, []⟩) (fun y => sd.length - y.1) (0, E) ⟨by simp, hd, h0⟩ ?_ ?_
  · exact le_of (by simp only [go_sem] <;> rfl) (Sub.refl _) rfl rfl (by simp)
  · rintro ⟨i, E⟩ ⟨hi, hd, hJ⟩ ih
    dsimp only at hi hd hJ ⊢
    refine AWPH.step (xc_ok (bitB 526287) _ _ _ ?_)
    by_cases c : i < sd.length
    rotate_left
    · obtain rfl : i = sd.length := by omega
      simp only [go_sem]
      exact ⟨_, Sub.refl _, Or.inl ⟨E, rfl, hd, Or.inl hJ⟩⟩
    have hq : wi ((i : Int) + 1) = ((i + 1 : Nat) : Int) := wi_succ (show i < 4611686018427387904 by omega)
    simp only [go_sem, c, ltN' c, getD_map' _ _ _ _ c]
    refine alloc_intro fun d hfd => ?_
    have hfd' := join_none hfd
    have n1 : ¬ b1 = d ∧ ¬ d = b1 := by constructor <;> rintro rfl <;> (have := hfd'.2; rw [h1] at this; cases this)
    have n2 : ¬ b2 = d ∧ ¬ d = b2 := by constructor <;> rintro rfl <;> (have := hfd'.2; rw [h2] at this; cases this)
    have n3 : ¬ b3 = d ∧ ¬ d = b3 := by constructor <;> rintro rfl <;> (have := hfd'.2; rw [h3] at this; cases this)
    simp only [go_sem, h1, h2, h3, n1, n2, n3]
    refine (hash_Column sd[i] x w (hs _ (List.getElem_mem c)) hx hw).useA ?_
    simp only [go_sem]
    have hyi := hy i c E (T0.set (.r d) (.cells [u64 (sd[i]).a, u64 (sd[i]).b])) ((Sub.refl T0).set hfd'.2 _) (hd.setT hfd'.1 _) hJ
    have hgi : (colsL sd x w).getD i 0 = colV sd[i] x w := by simp [colsL, List.getD_eq_getElem?_getD, c]
    simp only [itemsI, hgi] at hyi
    rw [← join_set] at hyi
    refine hyi.useA rfl ?_
    rintro r S' ⟨E', rfl, hd2, ⟨rfl, hJ2⟩ | ⟨rfl, hJ2⟩⟩
    · obtain ⟨hd3, hed⟩ := hd2.unsetT hfd'.2
      simp only [go_sem]
      refine (ih (i + 1, E') ⟨c, hd3, hJ2⟩ (by dsimp only; clear n1 n2 n3; omega)).back (sub_join_set hfd'.2 hed) (by simp) ?_
      simp only [go_sem, hq]
    · obtain ⟨hd3, hed⟩ := hd2.unsetT hfd'.2
      simp only [go_sem]
      exact ⟨_, sub_join_set hfd'.2 hed, Or.inl ⟨E', rfl, hd3, Or.inr hJ2⟩⟩

theorem hash_columns (sd : List Seed) (x : Nat) (w : Int) (S : Store) : CallR Tryz.prog 105 [.p (.sl (sd.map Seed.pv)), u64 x, i64 w] S
    (fun r S' => ∃ b1 b2 b3, Fresh S b1 ∧ Fresh S b2 ∧ Fresh S b3 ∧ ((¬ b2 = b1 ∧ ¬ b1 = b2) ∧ (¬ b3 = b2 ∧ ¬ b2 = b3) ∧ (¬ b3 = b1 ∧ ¬ b1 = b3)) ∧ r = .fn (.func 131) [] [.sp b1 0, .sp b2 0, .sp b3 0] ∧
      S' = ((S.set (.r b1) (.cells [.p (.sl (sd.map Seed.pv))])).set (.r b2) (.cells [u64 x])).set (.r b3) (.cells [i64 w])) := by
  refine callR_of Tryz.func105 rfl rfl (xc_ok (bitB 127) _ _ _ ?_)
  simp only [go_sem]
  refine alloc_intro fun b1 h1 => ?_
  simp only [go_sem]
  refine alloc_intro fun b2 h2 => ?_
  simp only [fresh_set] at h2
  simp only [go_sem, h2]
  refine alloc_intro fun b3 h3 => ?_
  simp only [fresh_set] at h3
  simp only [go_sem, h2, h3]
  exact ⟨_, Sub.refl _, Or.inl ⟨b1, b2, b3, h1, h2.2, h3.2.2, ⟨h2.1, h3.1, h3.2.1⟩, rfl, rfl⟩⟩

set_option maxHeartbeats 1000000 in
set_option maxRecDepth 4000 in
theorem hash_Columns (sd : List Seed) (x : Nat) (w : Int) (hn : sd.length < 1099511627776) (hs : ∀ s ∈ sd, s.Ok) (hx : x < 18446744073709551616) (hw : w < 9223372036854775808) :
    Pure Tryz.prog 68 [.p (.sl (sd.map Seed.pv)), u64 x, i64 w] (.p (.sl ((colsL sd x w).map colE))) := fun S => by
  refine callR_of Tryz.func68 rfl rfl (xc_ok (bitB 12743) _ _ _ ?_)
  simp only [go_sem]
  refine alloc_intro fun c7 h7 => ?_
  simp only [go_sem]
  refine (hash_columns sd x w _).useA ?_
  rintro _ _ ⟨b1, b2, b3, f1, f2, f3, hne, rfl, rfl⟩
  simp only [fresh_set] at f1 f2 f3
  simp only [go_sem, f1, f2, f3, hne]
  refine AWP.tipB c7 0 1 (cs := [.nils]) (by simp only [go_sem, f1, f2, f3, hne]) rfl fun kk hkk => ?_
  simp only [freshv_setr] at hkk
  simp only [List.set]
  have hseq := hash_columns1 sd x w hn hs hx hw (T0 := ((eS.set (.r b1) (.cells [.p (.sl (sd.map Seed.pv))])).set (.r b2) (.cells [u64 x])).set (.r b3) (.cells [i64 w])) (b1 := b1) (b2 := b2) (b3 := b3) (by simp only [go_sem, hne]) (by simp only [go_sem, hne]) (by simp only [go_sem, hne])
  have hcl : (colsL sd x w).length = sd.length := by simp [colsL]
  obtain ⟨L, hL⟩ : ∃ L, colsL sd x w = L := ⟨_, rfl⟩
  rw [hL] at hseq hcl ⊢
  have g1 : S (.r b1) = none := f1.2
  have g2 : S (.r b2) = none := f2.2
  have g3 : S (.r b3) = none := f3.2
  have g7 : S (.r c7) = none := h7
  refine AWP.rangeE (ι := Option Nat) (f := 131) (first := []) (caps := [.sp b1 0, .sp b2 0, .sp b3 0]) (by simp only [go_sem]) _
    (fun j loc => (S.set (.r c7) (.cells [.ts kk 1 loc ((L.take j).map colE)])).set (.v kk) (.tip 1 (L.take j).length loc)) none
    ?_ ?_ hseq (enterable_of Tryz.func131 rfl rfl) (fun _ _ => False) (fun _ _ => rfl) (by simp) ?_ ?_ ?_
  · refine sub_joinT (sub_joinT (sub_joinT (sub_join0 ?_) ?_ ?_) ?_ ?_) ?_ ?_
    · ((try dsimp only); (repeat refine sub_set ?_ ?_) <;> first | ((repeat (first | exact Sub.refl _ | refine Sub.setF ?_ (by first | assumption | simp only [*]) | refine Sub.setV ?_ (by first | assumption | simp only [*]))); done) | (simp only [go_sem, f1, f2, f3, hne, hkk, List.take_zero, List.map_nil, List.length_nil]; done) | (simp only [go_sem, f1, f2, f3, hne, hkk, List.take_zero, List.map_nil, List.length_nil]; rfl) | rfl)
    all_goals simp only [go_sem, f1, f2, f3, hne, hkk, g1, g2, g3]
  · refine (((Disj.nil _).setT ?_ _).setT ?_ _).setT ?_ _
    all_goals simp only [go_sem, f1, f2, f3, hne, hkk, g1, g2, g3]
  · intro j loc l hj T hT hdT
    refine xc_ok (bitB 12743) _ _ _ ?_
    simp only [go_sem, itemsI]
    refine ⟨_, Sub.refl _, hdT, fun T' hT' hdT' => ?_⟩
    refine xc_ok (bitB 12743) _ _ _ ?_
    simp only [go_sem, hkk]
    have hle : (List.take j L).length ≤ j := by rw [List.length_take]; exact Nat.min_le_left _ _
    refine ⟨by rintro el rfl; rfl, col_len, (by clear hne f1 f2 f3 hdT hdT'; omega), (by clear hne f1 f2 f3 hdT hdT'; omega), grow_intro fun loc' => ?_⟩
    simp only [go_sem, hkk]
    have e5 : List.map colE (List.take j L) ++ [([.int .i64 (L.getD j 0)] : List PV)] = List.map colE (L.take (j + 1)) := by
      rw [List.take_succ_eq_append_getElem hj, List.map_append]
      simp [List.getD_eq_getElem?_getD, hj, colE]
    have hdq := (hdT'.setE (k := .v kk) (y := .tip 1 (L.take j).length loc) (by simp only [go_sem]) (.tip 1 (List.map colE (List.take j L) ++ [([.int .i64 (L.getD j 0)] : List PV)]).length loc')).setE (k := .r c7) (y := .cells [.ts kk 1 loc ((L.take j).map colE)]) (by simp only [go_sem])
      (.cells [.ts kk 1 loc' (List.map colE (List.take j L) ++ [([.int .i64 (L.getD j 0)] : List PV)])])
    refine ⟨loc', ?_, ?_⟩
    · rw [join_set, join_set]
      refine Sub.joinD ?_ hdq
      ((try dsimp only); (repeat refine sub_set ?_ ?_) <;> first | ((repeat (first | exact Sub.refl _ | refine Sub.setF ?_ (by first | assumption | simp only [*]) | refine Sub.setV ?_ (by first | assumption | simp only [*]))); done) | (simp only [go_sem, hkk, e5, List.length_map, g7]; done) | (simp only [go_sem, hkk, e5, List.length_map, g7]; rfl) | rfl)
    · (intro q; refine (hdT' q).elim (fun e => Or.inl ?_) (fun e => Or.inr e); simp only [set_none_iff] at e ⊢; simp only [e, not_false_eq_true, and_self])
  · intro loc d hd
    have hjd := join_none hd
    have n7 : ¬ c7 = d ∧ ¬ d = c7 := by constructor <;> rintro rfl <;> simp [Store.set] at hjd
    have gd : S (.r d) = none := by have := hjd.2; simpa [Store.set, n7] using this
    simp only [go_sem, List.take_length, hkk, n7]
    refine ⟨S, Sub.set (Sub.joinL (Sub.set (Sub.set (Sub.refl _) g7 _) hkk _)) gd _, fun r hr => hr ▸ gd, by simp⟩
  · intro e E' d _ h; exact h.elim

/-! Seeds. -/
theorem clone_seeds (sd : List Seed) (hn : sd.length < 1099511627776) : Pure Tryz.prog 60 [.p (.sl (sd.map Seed.pv))] (.p (.sl (sd.map Seed.pv))) := fun S => by
  refine callR_of Tryz.func60 rfl rfl (xc_ok (bitB 21) _ _ _ ?_)
  simp only [go_sem]
  refine ⟨fun h => ⟨S, Sub.refl _, by rw [h], rfl⟩, seed_len, by omega, by omega, tip_intro fun k loc hk => ?_⟩
  simp only [go_sem]
  (refine ⟨S, by (repeat (first | exact Sub.refl _ | refine Sub.setF ?_ (by first | assumption | simp only [*]) | refine Sub.setV ?_ (by first | assumption | simp only [*]))), ?_⟩); simp
theorem new1 (s : Seed) : Pure Tryz.prog 58 [s.av] (bl (!s.may)) := fun S => by
  refine callR_of Tryz.func58 rfl rfl (xc_ok (bitB 7) _ _ _ ?_)
  simp only [go_sem]
  refine alloc_intro fun b hb => ?_
  simp only [go_sem]
  refine (hash_May s).useA ?_
  simp only [go_sem]
  (refine ⟨S, by (repeat (first | exact Sub.refl _ | refine Sub.setF ?_ (by first | assumption | simp only [*]) | refine Sub.setV ?_ (by first | assumption | simp only [*]))), ?_⟩); simp

/-- The place of the first odd seed; -1: none. -/
def oddAt (sd : List Seed) : Int := if sd.all Seed.may then -1 else (sd.takeWhile Seed.may).length
theorem tw_step (sd : List Seed) (i : Nat) (hi : i < sd.length) (hall : ∀ j (h : j < i) (h2 : j < sd.length), (sd[j]).may = true) (ho : (sd[i]).may = false) : oddAt sd = (i : Int) := by
  have h1 : sd.all Seed.may = false := by
    rw [Bool.eq_false_iff]; intro h
    have := List.all_eq_true.1 h _ (List.getElem_mem hi)
    rw [ho] at this; cases this
  have h2 : (sd.takeWhile Seed.may).length = i := by
    have e : sd = sd.take i ++ sd[i] :: sd.drop (i + 1) := by rw [← List.drop_eq_getElem_cons hi, List.take_append_drop]
    have h3 : ∀ s ∈ sd.take i, s.may = true := by
      intro s hs
      obtain ⟨j, hj, rfl⟩ := List.getElem_of_mem hs
      rw [List.length_take] at hj
      rw [List.getElem_take]
      exact hall j (by omega) (by omega)
    have : sd.takeWhile Seed.may = sd.take i := by
      conv => lhs; rw [e]
      rw [List.takeWhile_append_of_pos h3, List.takeWhile_cons, ho]; simp
    rw [this, List.length_take]; omega
  unfold oddAt
  rw [h1, h2]; simp
theorem index_odd (sd : List Seed) (hn : sd.length < 1099511627776) : Pure Tryz.prog 100 [.p (.sl (sd.map Seed.pv)), .fn (.func 58) [] []] (i64 (oddAt sd)) := fun S => by
  refine callR_of Tryz.func100 rfl rfl (xc_ok (bitB 66483) _ _ _ ?_)
  simp only [go_sem]
  refine AWP.roam (ι := Nat) (fun i => i ≤ sd.length ∧ ∀ j (h : j < i) (h2 : j < sd.length), (sd[j]).may = true)
    (fun i => ⟨Env.get [(0, .p (.sl (sd.map Seed.pv))), (1, .fn (.func 58) [] []), (7, i64 sd.length), (8, i64 i)], S, 19, []⟩) (fun i => sd.length - i) 0 ⟨by simp, fun j h => by omega⟩ ?_ ?_
  · exact le_of (by simp only [go_sem] <;> rfl) (Sub.refl _) rfl rfl (by simp)
  · rintro i ⟨hi, hall⟩ ih
    refine AWPH.step (xc_ok (bitB 66483) _ _ _ ?_)
    by_cases c : i < sd.length
    · simp only [go_sem, c, ltN' c, getD_map' _ _ _ _ c]
      refine Pure.useF (first := []) (caps := []) (args := [(sd[i]).av]) (a2 := [(sd[i]).av]) (new1 sd[i]) rfl ?_
      cases ho : (sd[i]).may
      · simp only [go_sem, Bool.not_false]
        (refine ⟨S, by (repeat (first | exact Sub.refl _ | refine Sub.setF ?_ (by first | assumption | simp only [*]) | refine Sub.setV ?_ (by first | assumption | simp only [*]))), ?_⟩); simp [tw_step sd i c hall ho]
      · simp only [go_sem, Bool.not_true]
        refine (ih (i + 1) ⟨c, fun j h h2 => ?_⟩ (by omega)).back (by (repeat (first | exact Sub.refl _ | refine Sub.setF ?_ (by first | assumption | simp only [*]) | refine Sub.setV ?_ (by first | assumption | simp only [*])))) (by simp) ?_
        · rcases Nat.lt_or_ge j i with hj | hj
          · exact hall j hj h2
          · obtain rfl : j = i := by omega
            exact ho
        · simp only [go_sem, wi_succ (show i < 4611686018427387904 by omega)]
    · obtain rfl : i = sd.length := by omega
      simp only [go_sem]
      have : sd.all Seed.may = true := List.all_eq_true.2 fun s hs => by
        obtain ⟨j, hj, rfl⟩ := List.getElem_of_mem hs
        exact hall j hj hj
      (refine ⟨S, by (repeat (first | exact Sub.refl _ | refine Sub.setF ?_ (by first | assumption | simp only [*]) | refine Sub.setV ?_ (by first | assumption | simp only [*]))), ?_⟩); simp [oddAt, this]
theorem contains_odd (sd : List Seed) (hn : sd.length < 1099511627776) : Pure Tryz.prog 57 [.p (.sl (sd.map Seed.pv)), .fn (.func 58) [] []] (bl (!sd.all Seed.may)) := fun S => by
  refine callR_of Tryz.func57 rfl rfl (xc_ok (bitB 19) _ _ _ ?_)
  simp only [go_sem]
  refine (index_odd sd hn).useA ?_
  simp only [go_sem]
  have e : decide (oddAt sd ≥ 0) = !sd.all Seed.may := by
    unfold oddAt
    cases sd.all Seed.may <;> simp
  simp only [go_sem, e]
  (refine ⟨S, by (repeat (first | exact Sub.refl _ | refine Sub.setF ?_ (by first | assumption | simp only [*]) | refine Sub.setV ?_ (by first | assumption | simp only [*]))), ?_⟩); simp
end Go.Sk
end

-- W6c
section
namespace Go.Sk
open Go Go.Proofs

theorem eq_of_all {α : Type} {a b : List α} (hlen : a.length = b.length) (h : ∀ j (h1 : j < a.length) (h2 : j < b.length), a[j] = b[j]) : a = b := List.ext_getElem hlen h
theorem all_step {α : Type} {a b : List α} {i : Nat} (hall : ∀ j, j < i → ∀ (h1 : j < a.length) (h2 : j < b.length), a[j] = b[j]) (he : ∀ (h1 : i < a.length) (h2 : i < b.length), a[i] = b[i]) :
    ∀ j, j < i + 1 → ∀ (h1 : j < a.length) (h2 : j < b.length), a[j] = b[j] := by
  intro j h h1 h2
  rcases Nat.lt_or_ge j i with hj | hj
  · exact hall j hj h1 h2
  · obtain rfl : j = i := by omega
    exact he h1 h2
theorem span_eq (x y : Span) : (x.a == y.a && x.b == y.b) = decide (x = y) := by
  cases x; cases y
  rw [Bool.eq_iff_iff]; simp

theorem eq_spans (a b : List Span) (ha : a.length < 1099511627776) : Pure Tryz.prog 149 [.p (lvP a), .p (lvP b)] (bl (decide (a = b))) := fun S => by
  refine callR_of Tryz.func149 rfl rfl (xc_ok (bitB 16806963) _ _ _ ?_)
  simp only [go_sem, lvP]
  by_cases hlen : a.length = b.length
  rotate_left
  · have hn : (a.length != b.length) = true := by simpa using hlen
    have hne : ¬ a = b := fun e => hlen (by rw [e])
    simp only [go_sem, hn]
    (refine ⟨S, by (repeat (first | exact Sub.refl _ | refine Sub.setF ?_ (by first | assumption | simp only [*]) | refine Sub.setV ?_ (by first | assumption | simp only [*]))), ?_⟩); simp [hne]
  · have hn : (a.length != b.length) = false := by simpa using hlen
    simp only [go_sem, hn]
    refine AWP.roam (fun i : Nat => i ≤ a.length ∧ ∀ j, j < i → ∀ (h1 : j < a.length) (h2 : j < b.length), a[j] = b[j]) (fun i => ⟨Env.get [(0, .p (.sl (a.map Span.pv))), (1, .p (.sl (b.map Span.pv))), (12, i64 a.length), (13, i64 i)], S, 26, []⟩) (fun i => a.length - i) 0 ⟨by omega, fun j h => by omega⟩ ?_ ?_
    · exact le_of (by simp only [go_sem]; simp) (Sub.refl _) rfl rfl (by simp)
    · rintro i ⟨hi, hall⟩ ih
      refine AWPH.step (xc_ok (bitB 16806963) _ _ _ ?_)
      by_cases h : i < a.length
      · have hb : i < b.length := by omega
        simp only [go_sem, h, hb, ltN' h, ltN' hb, getD_map' _ _ _ _ h, getD_map' _ _ _ _ hb]
        refine AWP.draw2 (bitB 16806963) mixed (by kernel_rfl) (fun j => bl false) ?_
        simp only [go_sem, h, hb, ltN' h, ltN' hb, getD_map' _ _ _ _ h, getD_map' _ _ _ _ hb, span_eq]
        by_cases hq : a[i] = b[i]
        · simp only [go_sem, hq, Bool.not_true]
          refine (ih (i + 1) ⟨h, all_step hall fun _ _ => hq⟩ (by omega)).back (by (repeat (first | exact Sub.refl _ | refine Sub.setF ?_ (by first | assumption | simp only [*]) | refine Sub.setV ?_ (by first | assumption | simp only [*])))) (by simp) ?_
          simp only [go_sem, wi_succ (show i < 4611686018427387904 by omega)]
        · simp only [go_sem, hq, Bool.not_false]
          (refine ⟨S, by (repeat (first | exact Sub.refl _ | refine Sub.setF ?_ (by first | assumption | simp only [*]) | refine Sub.setV ?_ (by first | assumption | simp only [*]))), ?_⟩)
          have hne : ¬ a = b := by rintro rfl; exact hq rfl
          simp [hne]
      · obtain rfl : i = a.length := by omega
        simp only [go_sem]
        (refine ⟨S, by (repeat (first | exact Sub.refl _ | refine Sub.setF ?_ (by first | assumption | simp only [*]) | refine Sub.setV ?_ (by first | assumption | simp only [*]))), ?_⟩)
        have : a = b := eq_of_all hlen fun j h1 h2 => hall j h1 h1 h2
        simp [this]

theorem ref05_Same (a b : List Span) (ha : a.length < 1099511627776) : Pure Tryz.prog 130 [.p (lvP a), .p (lvP b)] (bl (decide (a = b))) := fun S => by
  refine callR_of Tryz.func130 rfl rfl (xc_ok (bitB 33571891) _ _ _ ?_)
  simp only [go_sem, lvP]
  by_cases hlen : a.length = b.length
  rotate_left
  · have hn : (a.length != b.length) = true := by simpa using hlen
    have hne : ¬ a = b := fun e => hlen (by rw [e])
    simp only [go_sem, hn]
    (refine ⟨S, by (repeat (first | exact Sub.refl _ | refine Sub.setF ?_ (by first | assumption | simp only [*]) | refine Sub.setV ?_ (by first | assumption | simp only [*]))), ?_⟩); simp [hne]
  · have hn : (a.length != b.length) = false := by simpa using hlen
    simp only [go_sem, hn]
    refine AWP.roam (fun i : Nat => i ≤ a.length ∧ ∀ j, j < i → ∀ (h1 : j < a.length) (h2 : j < b.length), a[j] = b[j]) (fun i => ⟨Env.get [(0, .p (.sl (a.map Span.pv))), (1, .p (.sl (b.map Span.pv))), (5, i64 i)], S, 26, []⟩) (fun i => a.length - i) 0 ⟨by omega, fun j h => by omega⟩ ?_ ?_
    · exact le_of (by simp only [go_sem]; simp) (Sub.refl _) rfl rfl (by simp)
    · rintro i ⟨hi, hall⟩ ih
      refine AWPH.step (xc_ok (bitB 33571891) _ _ _ ?_)
      by_cases h : i < a.length
      · have hb : i < b.length := by omega
        simp only [go_sem, h, hb, ltN' h, ltN' hb, getD_map' _ _ _ _ h, getD_map' _ _ _ _ hb]
        refine AWP.draw2 (bitB 33571891) mixed (by kernel_rfl) (fun j => bl false) ?_
        simp only [go_sem, h, hb, ltN' h, ltN' hb, getD_map' _ _ _ _ h, getD_map' _ _ _ _ hb, span_eq]
        by_cases hq : a[i] = b[i]
        · simp only [go_sem, hq, Bool.not_true]
          refine (ih (i + 1) ⟨h, all_step hall fun _ _ => hq⟩ (by omega)).back (by (repeat (first | exact Sub.refl _ | refine Sub.setF ?_ (by first | assumption | simp only [*]) | refine Sub.setV ?_ (by first | assumption | simp only [*])))) (by simp) ?_
          simp only [go_sem, wi_succ (show i < 4611686018427387904 by omega)]
        · simp only [go_sem, hq, Bool.not_false]
          (refine ⟨S, by (repeat (first | exact Sub.refl _ | refine Sub.setF ?_ (by first | assumption | simp only [*]) | refine Sub.setV ?_ (by first | assumption | simp only [*]))), ?_⟩)
          have hne : ¬ a = b := by rintro rfl; exact hq rfl
          simp [hne]
      · obtain rfl : i = a.length := by omega
        simp only [go_sem]
        (refine ⟨S, by (repeat (first | exact Sub.refl _ | refine Sub.setF ?_ (by first | assumption | simp only [*]) | refine Sub.setV ?_ (by first | assumption | simp only [*]))), ?_⟩)
        have : a = b := eq_of_all hlen fun j h1 h2 => hall j h1 h1 h2
        simp [this]

theorem eq_levels (a b : List (List Span)) (ha : a.length < 1099511627776) (hl : ∀ l ∈ a, l.length < 1099511627776) :
    Pure Tryz.prog 148 [.p (.sl (a.map lvE)), .p (.sl (b.map lvE)), .fn (.func 149) [] []] (bl (decide (a = b))) := fun S => by
  refine callR_of Tryz.func148 rfl rfl (xc_ok (bitB 1074250695) _ _ _ ?_)
  simp only [go_sem, lvP]
  by_cases hlen : a.length = b.length
  rotate_left
  · have hn : (a.length != b.length) = true := by simpa using hlen
    have hne : ¬ a = b := fun e => hlen (by rw [e])
    simp only [go_sem, hn]
    (refine ⟨S, by (repeat (first | exact Sub.refl _ | refine Sub.setF ?_ (by first | assumption | simp only [*]) | refine Sub.setV ?_ (by first | assumption | simp only [*]))), ?_⟩); simp [hne]
  · have hn : (a.length != b.length) = false := by simpa using hlen
    simp only [go_sem, hn]
    refine AWP.roam (fun i : Nat => i ≤ a.length ∧ ∀ j, j < i → ∀ (h1 : j < a.length) (h2 : j < b.length), a[j] = b[j]) (fun i => ⟨Env.get [(1, .p (.sl (b.map lvE))), (2, .fn (.func 149) [] []), (15, .p (.sl (a.map lvE))), (16, i64 a.length), (17, i64 i)], S, 32, []⟩) (fun i => a.length - i) 0 ⟨by omega, fun j h => by omega⟩ ?_ ?_
    · exact le_of (by simp only [go_sem]; simp) (Sub.refl _) rfl rfl (by simp)
    · rintro i ⟨hi, hall⟩ ih
      refine AWPH.step (xc_ok (bitB 1074250695) _ _ _ ?_)
      by_cases h : i < a.length
      · have hb : i < b.length := by omega
        simp only [go_sem, h, hb, ltN' h, ltN' hb, getD_map' _ _ _ _ h, getD_map' _ _ _ _ hb, lvE_mk]
        refine Pure.useF (first := []) (caps := []) (args := [.p (lvP a[i]), .p (lvP b[i])]) (a2 := [.p (lvP a[i]), .p (lvP b[i])]) (eq_spans a[i] b[i] (hl _ (List.getElem_mem h))) rfl ?_
        by_cases hq : a[i] = b[i]
        · simp only [go_sem, hq, Bool.not_true]
          refine (ih (i + 1) ⟨h, all_step hall fun _ _ => hq⟩ (by omega)).back (by (repeat (first | exact Sub.refl _ | refine Sub.setF ?_ (by first | assumption | simp only [*]) | refine Sub.setV ?_ (by first | assumption | simp only [*])))) (by simp) ?_
          simp only [go_sem, wi_succ (show i < 4611686018427387904 by omega)]
        · simp only [go_sem, hq, Bool.not_false]
          (refine ⟨S, by (repeat (first | exact Sub.refl _ | refine Sub.setF ?_ (by first | assumption | simp only [*]) | refine Sub.setV ?_ (by first | assumption | simp only [*]))), ?_⟩)
          have hne : ¬ a = b := by rintro rfl; exact hq rfl
          simp [hne]
      · obtain rfl : i = a.length := by omega
        simp only [go_sem]
        (refine ⟨S, by (repeat (first | exact Sub.refl _ | refine Sub.setF ?_ (by first | assumption | simp only [*]) | refine Sub.setV ?_ (by first | assumption | simp only [*]))), ?_⟩)
        have : a = b := eq_of_all hlen fun j h1 h2 => hall j h1 h1 h2
        simp [this]

theorem hist_equal (k g : Int) (a b : List (List Span)) (ha : a.length < 1099511627776) (hl : ∀ l ∈ a, l.length < 1099511627776) :
    Pure Tryz.prog 126 [(Hist.mk k g a).av, .p (.sl (b.map lvE))] (bl (decide (a = b))) := fun S => by
  refine callR_of Tryz.func126 rfl rfl (xc_ok (bitB 23) _ _ _ ?_)
  simp only [go_sem]
  refine alloc_intro fun c hc => ?_
  simp only [go_sem]
  refine (eq_levels a b ha hl).useA ?_
  simp only [go_sem]
  (refine ⟨S, by (repeat (first | exact Sub.refl _ | refine Sub.setF ?_ (by first | assumption | simp only [*]) | refine Sub.setV ?_ (by first | assumption | simp only [*]))), ?_⟩); simp

def Hist.Small (h : Hist) : Prop := h.ls.length < 1099511627776 ∧ ∀ l ∈ h.ls, l.length < 1099511627776
theorem hist_Same (a b : Hist) (h : a.Small) : Pure Tryz.prog 98 [a.av, b.av] (bl (decide (a = b))) := fun S => by
  obtain ⟨k, g, ls⟩ := a
  obtain ⟨k', g', ls'⟩ := b
  refine callR_of Tryz.func98 rfl rfl (xc_ok (bitB 63) _ _ _ ?_)
  simp only [go_sem]
  refine alloc_intro fun c hc => ?_
  simp only [go_sem]
  refine alloc_intro fun d hd => ?_
  simp only [fresh_set] at hd
  simp only [go_sem, hd]
  by_cases h1 : k = k'
  rotate_left
  · have e1 : (k == k') = false := by simpa using h1
    simp only [go_sem, e1]
    (refine ⟨S, by (repeat (first | exact Sub.refl _ | refine Sub.setF ?_ (by first | assumption | simp only [*]) | refine Sub.setV ?_ (by first | assumption | simp only [*]))), ?_⟩); simp [h1]
  subst h1
  simp only [go_sem, hd, beq_self_eq_true]
  by_cases h2 : g = g'
  rotate_left
  · have e1 : (g == g') = false := by simpa using h2
    simp only [go_sem, e1]
    (refine ⟨S, by (repeat (first | exact Sub.refl _ | refine Sub.setF ?_ (by first | assumption | simp only [*]) | refine Sub.setV ?_ (by first | assumption | simp only [*]))), ?_⟩); simp [h2]
  subst h2
  simp only [go_sem, hd, beq_self_eq_true]
  refine Pure.useF (first := [(Hist.mk k g ls).av]) (caps := []) (args := [.p (.sl (ls'.map lvE))]) (a2 := [.p (.sl (ls'.map lvE))]) (hist_equal k g ls ls' h.1 h.2) rfl ?_
  simp only [go_sem]
  (refine ⟨S, by (repeat (first | exact Sub.refl _ | refine Sub.setF ?_ (by first | assumption | simp only [*]) | refine Sub.setV ?_ (by first | assumption | simp only [*]))), ?_⟩); simp

theorem ref06_Same (a b : Hist) (h : a.Small) : Pure Tryz.prog 104 [a.av, b.av] (bl (decide (a = b))) := fun S => by
  obtain ⟨k, g, ls⟩ := a
  obtain ⟨k', g', ls'⟩ := b
  refine callR_of Tryz.func104 rfl rfl (xc_ok (bitB 35186586681407) _ _ _ ?_)
  simp only [go_sem]
  refine alloc_intro fun c hc => ?_
  simp only [go_sem]
  refine alloc_intro fun d hd => ?_
  simp only [fresh_set] at hd
  simp only [go_sem, hd]
  by_cases h1 : k = k'
  rotate_left
  · have e1 : (k != k') = true := by simpa using h1
    simp only [go_sem, e1]
    (refine ⟨S, by (repeat (first | exact Sub.refl _ | refine Sub.setF ?_ (by first | assumption | simp only [*]) | refine Sub.setV ?_ (by first | assumption | simp only [*]))), ?_⟩); simp [h1]
  subst h1
  simp only [go_sem, hd, bne_self_eq_false]
  by_cases h2 : g = g'
  rotate_left
  · have e1 : (g != g') = true := by simpa using h2
    simp only [go_sem, e1]
    (refine ⟨S, by (repeat (first | exact Sub.refl _ | refine Sub.setF ?_ (by first | assumption | simp only [*]) | refine Sub.setV ?_ (by first | assumption | simp only [*]))), ?_⟩); simp [h2]
  subst h2
  simp only [go_sem, hd, bne_self_eq_false]
  by_cases hlen : ls.length = ls'.length
  rotate_left
  · have hn : (ls.length != ls'.length) = true := by simpa using hlen
    have hne : ¬ ls = ls' := fun e => hlen (by rw [e])
    simp only [go_sem, hn]
    (refine ⟨S, by (repeat (first | exact Sub.refl _ | refine Sub.setF ?_ (by first | assumption | simp only [*]) | refine Sub.setV ?_ (by first | assumption | simp only [*]))), ?_⟩); simp [hne]
  have hn : (ls.length != ls'.length) = false := by simpa using hlen
  simp only [go_sem, hn]
  refine AWP.roam (fun i : Nat => i ≤ ls.length ∧ ∀ j, j < i → ∀ (h1 : j < ls.length) (h2 : j < ls'.length), ls[j] = ls'[j]) (fun i => ⟨Env.get [(2, .sp c 0), (3, .sp d 0), (5, i64 i)],
    (S.set (.r c) (.cells [i64 k, i64 g, .p (.sl (ls.map lvE))])).set (.r d) (.cells [i64 k, i64 g, .p (.sl (ls'.map lvE))]), 46, []⟩) (fun i => ls.length - i) 0 ⟨by omega, fun j h => by omega⟩ ?_ ?_
  · exact le_of (by simp only [go_sem]; simp) (Sub.refl _) rfl rfl (by simp)
  · rintro i ⟨hi, hall⟩ ih
    refine AWPH.step (xc_ok (bitB 35186586681407) _ _ _ ?_)
    by_cases hx : i < ls.length
    · have hb : i < ls'.length := by omega
      simp only [go_sem, hd, hx, hb, ltN' hx, ltN' hb, getD_map' _ _ _ _ hx, getD_map' _ _ _ _ hb, lvE_mk]
      refine AWP.draw2 (bitB 35186586681407) mixed (by kernel_rfl) (fun j => bl (decide (ls[i] = ls'[i]))) ?_
      simp only [go_sem, hd, hx, hb, ltN' hx, ltN' hb, getD_map' _ _ _ _ hx, getD_map' _ _ _ _ hb, lvE_mk]
      refine ⟨(ref05_Same ls[i] ls'[i] (h.2 _ (List.getElem_mem hx))).draw, ?_⟩
      by_cases hq : ls[i] = ls'[i]
      · simp only [go_sem, hq, Bool.not_true]
        refine (ih (i + 1) ⟨hx, all_step hall fun _ _ => hq⟩ (by omega)).back (by (repeat (first | exact Sub.refl _ | refine Sub.setF ?_ (by first | assumption | simp only [*]) | refine Sub.setV ?_ (by first | assumption | simp only [*])))) (by simp) ?_
        simp only [go_sem, wi_succ (show i < 4611686018427387904 by have := h.1; dsimp only at this; omega)]
      · simp only [go_sem, hq, Bool.not_false]
        (refine ⟨S, by (repeat (first | exact Sub.refl _ | refine Sub.setF ?_ (by first | assumption | simp only [*]) | refine Sub.setV ?_ (by first | assumption | simp only [*]))), ?_⟩)
        have hne : ¬ ls = ls' := by rintro rfl; exact hq rfl
        simp [hne]
    · obtain rfl : i = ls.length := by omega
      simp only [go_sem, hd]
      (refine ⟨S, by (repeat (first | exact Sub.refl _ | refine Sub.setF ?_ (by first | assumption | simp only [*]) | refine Sub.setV ?_ (by first | assumption | simp only [*]))), ?_⟩)
      have : ls = ls' := eq_of_all hlen fun j h1 h2 => hall j h1 h1 h2
      simp [this]
end Go.Sk
end

-- W15a
section
namespace Go.Sk
open Go Go.Proofs

def rowP (r : List Hist) : PV := .sl (r.map Hist.cs)
def rowE (r : List Hist) : List PV := [rowP r]
structure Grid where (w : Int) (sd : List Seed) (rows : List (List Hist)) (all : Hist)
  deriving DecidableEq
def Grid.pv (g : Grid) : List PV := [.int .i64 g.w, .sl (g.sd.map Seed.pv), .sl (g.rows.map rowE), .int .i64 g.all.k, .int .i64 g.all.g, .sl (g.all.ls.map lvE)]
def Grid.av (g : Grid) : AV := .agg (g.pv.map .p)
attribute [go_sem] Grid.pv Grid.av
theorem hist_len {l : List Hist} : ∀ el ∈ l.map Hist.cs, el.length = 3 := by
  intro el h; obtain ⟨x, _, rfl⟩ := List.mem_map.1 h; rfl
theorem row_len {l : List (List Hist)} : ∀ el ∈ l.map rowE, el.length = 1 := by
  intro el h; obtain ⟨x, _, rfl⟩ := List.mem_map.1 h; rfl

set_option maxRecDepth 8000 in
theorem bits_Mul64 (x y : Nat) (hx : x < 4294967296) (hy : y < 4294967296) : Pure Tryz.prog 129 [u64 x, u64 y] (.tuple [u64 0, u64 (x * y)]) := fun S => by
  have a1 : and64 x 4294967295 = x := by rw [and64_32 (by omega)]; omega
  have a2 : and64 y 4294967295 = y := by rw [and64_32 (by omega)]; omega
  have b1 : x / 4294967296 = 0 := by omega
  have b2 : y / 4294967296 = 0 := by omega
  have hxy : x * y ≤ 4294967295 * 4294967295 := Nat.mul_le_mul (by omega) (by omega)
  have c1 : m64 (x * y) = x * y := m64_id (by omega)
  have c5 : m64 (x * y / 4294967296) = x * y / 4294967296 := m64_id (by omega)
  have c2 : m64 (m64 (0 * y) + x * y / 4294967296) = x * y / 4294967296 := by rw [Nat.zero_mul, m64_id (show 0 < 18446744073709551616 by decide), Nat.zero_add]; exact m64_id (by omega)
  have c3 : and64 (x * y / 4294967296) 4294967295 = x * y / 4294967296 := by rw [and64_32 (by omega)]; omega
  have d2 : x * y / 4294967296 / 4294967296 = 0 := by omega
  have z0 : m64 0 = 0 := m64_id (by decide)
  have c4 : m64 (x * y / 4294967296 + 0) = x * y / 4294967296 := by rw [Nat.add_zero]; exact m64_id (by omega)
  refine callR_of Tryz.func129 rfl rfl (xc_ok (bitB 16371) _ _ _ ?_)
  simp only [go_sem, a1, a2, b1, b2, c1, c5, c2, c3, d2, Nat.mul_zero, Nat.zero_mul, z0, c4, Nat.add_zero, Nat.zero_add]
  (refine ⟨S, by (repeat (first | exact Sub.refl _ | refine Sub.setF ?_ (by first | assumption | simp only [*]) | refine Sub.setV ?_ (by first | assumption | simp only [*]))), ?_⟩); simp
theorem bits_Mul (x y : Nat) (hx : x < 4294967296) (hy : y < 4294967296) : Pure Tryz.prog 101 [u64 x, u64 y] (.tuple [u64 0, u64 (x * y)]) := fun S => by
  refine callR_of Tryz.func101 rfl rfl (xc_ok (bitB 1011) _ _ _ ?_)
  simp only [go_sem]
  refine (bits_Mul64 x y hx hy).useA ?_
  simp only [go_sem]
  (refine ⟨S, by (repeat (first | exact Sub.refl _ | refine Sub.setF ?_ (by first | assumption | simp only [*]) | refine Sub.setV ?_ (by first | assumption | simp only [*]))), ?_⟩); simp

def zero3 : List AV := [.p (.int .i64 0), .p (.int .i64 0), .nils]
theorem rep_flat {c : List PV} (hc : c.length = 3) (n : Nat) : (flatA (List.replicate n c)).length = n * 3 := by
  rw [flatA_length (sz := 3) (by intro el he; rw [List.eq_of_mem_replicate he]; exact hc)]; simp
theorem zcs3_len (n : Nat) : (zcs zero3 n).length = n * 3 := by rw [zcs_length]; rfl
theorem zcs_add (z : List AV) (a b : Nat) : zcs z (a + b) = zcs z a ++ zcs z b := by unfold zcs; rw [← List.replicate_append_replicate, List.flatten_append]
theorem rep_add (c : List PV) (a b : Nat) : flatA (List.replicate (a + b) c) = flatA (List.replicate a c) ++ flatA (List.replicate b c) := by unfold flatA; rw [← List.replicate_append_replicate, List.flatMap_append]
/-- Copied over, once more. -/
theorem rep_more {c : List PV} (hc : c.length = 3) (w n m : Nat) (hn : n + m ≤ w) (hm : m ≤ n) :
    splice (flatA (List.replicate n c) ++ zcs zero3 (w - n)) (n * 3) ((((flatA (List.replicate n c) ++ zcs zero3 (w - n)).drop 0).take (n * 3)).take (m * 3)) = flatA (List.replicate (n + m) c) ++ zcs zero3 (w - (n + m)) := by
  rw [List.drop_zero, List.take_append_of_le_length (by rw [rep_flat hc]; exact Nat.le_refl _), List.take_of_length_le (i := n * 3) (by rw [rep_flat hc]; exact Nat.le_refl _)]
  have e1 : (flatA (List.replicate n c)).take (m * 3) = flatA (List.replicate m c) := by
    rw [show n = m + (n - m) from by omega, rep_add, List.take_append_of_le_length (by rw [rep_flat hc]; exact Nat.le_refl _), List.take_of_length_le (by rw [rep_flat hc]; exact Nat.le_refl _)]
  rw [e1]
  have e2 : w - n = m + (w - (n + m)) := by omega
  rw [e2, zcs_add]
  unfold splice
  rw [List.take_append_of_le_length (by rw [rep_flat hc]; exact Nat.le_refl _), List.take_of_length_le (by rw [rep_flat hc]; exact Nat.le_refl _), rep_flat hc, List.drop_append, rep_flat hc,
    List.drop_of_length_le (by rw [rep_flat hc]; omega), List.nil_append, show n * 3 + m * 3 - n * 3 = m * 3 from by omega, List.drop_append_of_le_length (by rw [zcs3_len]; exact Nat.le_refl _),
    List.drop_of_length_le (by rw [zcs3_len]; exact Nat.le_refl _), List.nil_append, rep_add]

set_option maxHeartbeats 1000000 in
set_option maxRecDepth 4000 in
theorem repeat_hist (c : List PV) (hc : c.length = 3) (w : Nat) (hw1 : 1 ≤ w) (hw2 : w < 1048576) (S : Store) : CallR Tryz.prog 61 [.p (.sl [c]), i64 w] S (fun r S' => r = .p (.sl (List.replicate w c)) ∧ S' = S) := by
  refine CallR.frz (R := fun r S' => ∃ b, Fresh S b ∧ r = .ms b 3 0 w w ∧ S' = S.set (.r b) (.cells (flatA (List.replicate w c)))) ?_ ?_
  rotate_left
  · rintro r S' ⟨b, hb, rfl, rfl⟩
    refine ⟨.p (.sl (List.replicate w c)), S, Frz.freeze (b := b) (m := w * 3) (Store.set_same _ _ _) (by rw [rep_flat hc]; exact Nat.le_refl _) (fun k y hk => ?_) (Or.inl (Or.inl (Or.inr (Or.inr ⟨3, 0, w, w, List.replicate w c, rfl, ?_⟩)))), rfl, rfl⟩
    · have hne : k ≠ .r b := by rintro rfl; rw [hb] at hk; cases hk
      exact ⟨hne, Or.inl (by rw [Store.set_other _ _ hne]; exact hk)⟩
    · refine ⟨by omega, rfl, by simp, fun el he => by rw [List.eq_of_mem_replicate he]; exact hc, ?_⟩
      rw [List.drop_zero, List.take_of_length_le (by rw [rep_flat hc]; exact Nat.le_refl _)]
  refine callR_of Tryz.func61 rfl rfl (xc_ok (bitB 137506063859) _ _ _ ?_)
  have h0 : ¬ (w : Int) < 0 := by omega
  have e1 : m64 1 = 1 := m64_id (by decide)
  have e2 : m64 w = w := m64_id (by omega)
  simp only [go_sem, h0, e1, e2]
  refine (bits_Mul 1 w (by omega) (by omega)).useA ?_
  have h1 : ¬ 9223372036854775807 < w := by omega
  simp only [go_sem, Nat.one_mul, h1]
  have ewi : wi (w : Int) = (w : Int) := wi_id (by omega) (by omega)
  rw [ewi, Int.toNat_natCast]
  refine ⟨by omega, by omega, by omega, make_intro fun b hb => ?_⟩
  have hz : zcs [AV.p (PV.int IntKind.i64 0), AV.p (PV.int IntKind.i64 0), AV.nils] w = zcs zero3 w := rfl
  rw [hz]
  have hmin : min 1 w = 1 := by omega
  have hcs1 : flatA [c] = flatA (List.replicate 1 c) := rfl
  have hsp1 : splice (zcs zero3 w) (0 + 0 * 3) ((flatA [c]).take (min 1 w * 3)) = flatA (List.replicate 1 c) ++ zcs zero3 (w - 1) := by
    rw [hmin, hcs1, List.take_of_length_le (by rw [rep_flat hc]; exact Nat.le_refl _)]
    have : w = 1 + (w - 1) := by omega
    conv => lhs; rw [this, zcs_add]
    unfold splice
    rw [rep_flat hc, Nat.zero_mul, Nat.zero_add, List.take_zero, List.nil_append, Nat.zero_add, List.drop_append_of_le_length (by rw [zcs3_len]; exact Nat.le_refl _), List.drop_of_length_le (by rw [zcs3_len]; exact Nat.le_refl _), List.nil_append]
  have hsc : ((flatA [c]).take (min 1 w * 3)).all scalar = true := by
    rw [hmin, List.take_of_length_le (by have := rep_flat hc 1; rw [← hcs1] at this; omega)]
    unfold flatA; simp [scalar]
  simp only [go_sem]
  refine ⟨by rintro el rfl; exact hc, by rw [zcs3_len]; omega, hsc, ?_⟩
  have hst : (flatA [c]).take (min 1 w * 3) ++ (zcs zero3 w).drop ((flatA [c]).take (min 1 w * 3)).length = flatA (List.replicate 1 c) ++ zcs zero3 (w - 1) := by
    rw [← hsp1]; unfold splice; simp
  simp only [hst]
  simp only [hmin]
  refine AWP.roam (ι := Nat) (fun n => 1 ≤ n ∧ n ≤ w) (fun n => ⟨Env.get [(7, .ms b 3 0 w w), (8, i64 n)], S.set (.r b) (.cells (flatA (List.replicate n c) ++ zcs zero3 (w - n))), 48, []⟩) (fun n => w - n) 1 ⟨by omega, by omega⟩ ?_ ?_
  · exact le_of (by simp only [go_sem] <;> rfl) (Sub.refl _) rfl rfl (by simp)
  · rintro n ⟨hn1, hn2⟩ ih
    refine AWPH.step (xc_ok (bitB 137506063859) _ _ _ ?_)
    by_cases hnw : n < w
    · simp only [go_sem, ltN' hnw]
      refine AWP.draw2 (bitB 137506063859) mixed (by kernel_rfl) (fun i => bl false) ?_
      simp only [go_sem, ltN' hnw]
      have hmore := rep_more hc w n (min n (w - n)) (by omega) (by omega)
      rw [List.drop_zero] at hmore
      unfold splice at hmore
      have hall : ∀ k k', (List.take k (List.take k' (flatA (List.replicate n c) ++ zcs zero3 (w - n)))).all scalar = true := by
        intro k k'
        rw [List.all_eq_true]
        intro x hx
        rcases List.mem_append.1 (List.mem_of_mem_take (List.mem_of_mem_take hx)) with h | h
        · unfold flatA at h
          simp only [List.mem_flatMap, List.mem_map] at h
          obtain ⟨_, _, _, _, rfl⟩ := h
          rfl
        · unfold zcs at h
          simp only [List.mem_flatten, List.mem_replicate] at h
          obtain ⟨l, ⟨_, rfl⟩, hx⟩ := h
          simp only [zero3, List.mem_cons, List.not_mem_nil, or_false] at hx
          rcases hx with rfl | rfl | rfl <;> rfl
      have hlen : (flatA (List.replicate n c) ++ zcs zero3 (w - n)).length = w * 3 := by
        rw [List.length_append, rep_flat hc, zcs3_len]; omega
      have hq : wi ((n : Int) + ((min n (w - n) : Nat) : Int)) = ((n + min n (w - n) : Nat) : Int) := by rw [wi_id (by omega) (by omega)]; omega
      simp only [Nat.sub_zero, hlen, hmore]
      refine ⟨by omega, by omega, by omega, by omega, hall _ _, ?_⟩
      refine (ih (n + min n (w - n)) ⟨by omega, by omega⟩ (by omega)).back (Sub.refl _) (by simp) ?_
      simp only [go_sem, hq]
    · obtain rfl : n = w := by omega
      simp only [go_sem]
      have hz0 : zcs zero3 (n - n) = [] := by rw [Nat.sub_self]; rfl
      rw [hz0, List.append_nil]
      exact ⟨_, Sub.refl _, Or.inl ⟨b, hb, rfl, rfl⟩⟩
end Go.Sk
end

-- W6h
section
namespace Go.Sk
open Go Go.Proofs

noncomputable def addH (h : Hist) (t w : Nat) : Hist × Int := addV h.k.toNat h.g h.ls t w
structure Hist.Ok (h : Hist) : Prop where
  k0 : 0 ≤ h.k
  k1 : h.k < 1073741824
  ls : h.ls.length < 1073741824
  ll : ∀ l ∈ h.ls, l.length < 1073741824
  tot : totN 0 h.ls ≤ 4503599627370496
theorem hist_addH (h : Hist) (ok : h.Ok) (t w : Nat) (hw : w < 18446744073709551616) : Pure Tryz.prog 144 [h.av, u64 t, u64 w] (.tuple [(addH h t w).1.av, i64 (addH h t w).2]) := by
  obtain ⟨k, g, ls⟩ := h
  obtain ⟨h1, h2, h3, h4, h5⟩ := ok
  dsimp only at h1 h2 h3 h4 h5
  obtain ⟨k, rfl⟩ : ∃ k' : Nat, k = k' := ⟨k.toNat, by omega⟩
  have := hist_Add k g ls t w (by omega) hw h3 h4 h5
  unfold addH; simpa using this
theorem ref06_addH (h : Hist) (ok : h.Ok) (t w : Nat) (hw : w < 18446744073709551616) : Pure Tryz.prog 139 [h.av, u64 t, u64 w] (.tuple [(addH h t w).1.av, i64 (addH h t w).2]) := by
  obtain ⟨k, g, ls⟩ := h
  obtain ⟨h1, h2, h3, h4, h5⟩ := ok
  dsimp only at h1 h2 h3 h4 h5
  obtain ⟨k, rfl⟩ : ∃ k' : Nat, k = k' := ⟨k.toNat, by omega⟩
  have := ref06_Add k g ls t w (by omega) hw h3 h4 h5
  unfold addH; simpa using this

end Go.Sk
end
