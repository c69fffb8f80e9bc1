/- Walks: columns of several rows; lists of seeds. -/
import Derived.Test.YtjiechgnlcpllaaW2
import Derived.Test.YtjiechgnlcpllaaSkRg
set_option linter.unusedSimpArgs false
set_option linter.unusedVariables false
set_option linter.unusedSectionVars false
namespace Go.Sk
open Go Go.Proofs

def colE (c : Int) : List PV := [.int .i64 c]
def colsL (sd : List Seed) (x : Nat) (w : Int) : List Int := sd.map fun s => colV s x w
def itemsI (l : List Int) : Nat → List AV := fun k => [i64 (l.getD k 0)]
theorem seed_len {l : List Seed} : ∀ el ∈ l.map Seed.pv, el.length = 2 := by
  intro el h; obtain ⟨x, _, rfl⟩ := List.mem_map.1 h; rfl
theorem col_len {l : List Int} : ∀ el ∈ l.map colE, el.length = 1 := by
  intro el h; obtain ⟨x, _, rfl⟩ := List.mem_map.1 h; rfl

set_option maxRecDepth 4000 in
theorem hash_columns1 (sd : List Seed) (x : Nat) (w : Int) (hn : sd.length < 1099511627776) (hs : ∀ s ∈ sd, s.Ok) (hx : x < 18446744073709551616) (hw : w < 9223372036854775808) {T0 : Store} {b1 b2 b3 : Nat}
    (h1 : T0 (.r b1) = some (.cells [.p (.sl (sd.map Seed.pv))])) (h2 : T0 (.r b2) = some (.cells [u64 x])) (h3 : T0 (.r b3) = some (.cells [i64 w])) :
    SeqR Try.prog 87 [] [.sp b1 0, .sp b2 0, .sp b3 0] T0 (colsL sd x w).length (itemsI (colsL sd x w)) := by
  intro l J Jx hy E hd h0
  simp only [List.nil_append, List.singleton_append]
  have hlen : (colsL sd x w).length = sd.length := by simp [colsL]
  rw [hlen] at hy ⊢
  refine callR_of Try.func87 rfl rfl (xc_ok (bitB 526287) _ _ _ ?_)
  simp only [go_sem, decide_true, decide_false, Nat.lt_irrefl, h1]
  refine AWP.roam (ι := Nat × Store) (fun y => y.1 ≤ sd.length ∧ Disj T0 y.2 ∧ J y.1 y.2)
    (fun y => ⟨Env.get [(0, .fn (.yield l) [] []), (1, .sp b1 0), (2, .sp b2 0), (3, .sp b3 0), (7, .p (.sl (sd.map Seed.pv))), (8, i64 sd.length), (9, i64 y.1)], Store.join y.2 T0, 21, []⟩) (fun y => sd.length - y.1) (0, E) ⟨by simp, hd, h0⟩ ?_ ?_
  · exact le_of (by simp only [go_sem, decide_true, decide_false, Nat.lt_irrefl] <;> rfl) (Sub.refl _) rfl rfl (by simp)
  · rintro ⟨i, E⟩ ⟨hi, hd, hJ⟩ ih
    dsimp only at hi hd hJ ⊢
    refine AWPH.step (xc_ok (bitB 526287) _ _ _ ?_)
    by_cases c : i < sd.length
    rotate_left
    · obtain rfl : i = sd.length := by omega
      simp only [go_sem, decide_true, decide_false, Nat.lt_irrefl]
      exact ⟨_, Sub.refl _, Or.inl ⟨E, rfl, hd, Or.inl hJ⟩⟩
    have hq : wi ((i : Int) + 1) = ((i + 1 : Nat) : Int) := wi_succ (show i < 4611686018427387904 by omega)
    simp only [go_sem, decide_true, decide_false, Nat.lt_irrefl, c, ltN' c, getD_map' _ _ _ _ c]
    refine alloc_intro fun d hfd => ?_
    have hfd' := join_none hfd
    have n1 : ¬ b1 = d ∧ ¬ d = b1 := by constructor <;> rintro rfl <;> (have := hfd'.2; rw [h1] at this; cases this)
    have n2 : ¬ b2 = d ∧ ¬ d = b2 := by constructor <;> rintro rfl <;> (have := hfd'.2; rw [h2] at this; cases this)
    have n3 : ¬ b3 = d ∧ ¬ d = b3 := by constructor <;> rintro rfl <;> (have := hfd'.2; rw [h3] at this; cases this)
    simp only [go_sem, decide_true, decide_false, Nat.lt_irrefl, h1, h2, h3, n1, n2, n3]
    refine (hash_Column sd[i] x w (hs _ (List.getElem_mem c)) hx hw).useA ?_
    simp only [go_sem, decide_true, decide_false, Nat.lt_irrefl]
    have hyi := hy i c E (T0.set (.r d) (.cells [u64 (sd[i]).a, u64 (sd[i]).b])) ((Sub.refl T0).set hfd'.2 _) (hd.setT hfd'.1 _) hJ
    have hgi : (colsL sd x w).getD i 0 = colV sd[i] x w := by simp [colsL, List.getD_eq_getElem?_getD, c]
    simp only [itemsI, hgi] at hyi
    rw [← join_set] at hyi
    refine hyi.useA rfl ?_
    rintro r S' ⟨E', rfl, hd2, ⟨rfl, hJ2⟩ | ⟨rfl, hJ2⟩⟩
    · obtain ⟨hd3, hed⟩ := hd2.unsetT hfd'.2
      simp only [go_sem, decide_true, decide_false, Nat.lt_irrefl]
      refine (ih (i + 1, E') ⟨c, hd3, hJ2⟩ (by dsimp only; clear n1 n2 n3; omega)).back (sub_join_set hfd'.2 hed) (by simp) ?_
      simp only [go_sem, decide_true, decide_false, Nat.lt_irrefl, hq]
    · obtain ⟨hd3, hed⟩ := hd2.unsetT hfd'.2
      simp only [go_sem, decide_true, decide_false, Nat.lt_irrefl]
      exact ⟨_, sub_join_set hfd'.2 hed, Or.inl ⟨E', rfl, hd3, Or.inr hJ2⟩⟩

theorem hash_columns (sd : List Seed) (x : Nat) (w : Int) (S : Store) : CallR Try.prog 64 [.p (.sl (sd.map Seed.pv)), u64 x, i64 w] S
    (fun r S' => ∃ b1 b2 b3, Fresh S b1 ∧ Fresh S b2 ∧ Fresh S b3 ∧ ((¬ b2 = b1 ∧ ¬ b1 = b2) ∧ (¬ b3 = b2 ∧ ¬ b2 = b3) ∧ (¬ b3 = b1 ∧ ¬ b1 = b3)) ∧ r = .fn (.func 87) [] [.sp b1 0, .sp b2 0, .sp b3 0] ∧
      S' = ((S.set (.r b1) (.cells [.p (.sl (sd.map Seed.pv))])).set (.r b2) (.cells [u64 x])).set (.r b3) (.cells [i64 w])) := by
  refine callR_of Try.func64 rfl rfl (xc_ok (bitB 127) _ _ _ ?_)
  simp only [go_sem, decide_true, decide_false, Nat.lt_irrefl]
  refine alloc_intro fun b1 h1 => ?_
  simp only [go_sem, decide_true, decide_false, Nat.lt_irrefl]
  refine alloc_intro fun b2 h2 => ?_
  simp only [fresh_set] at h2
  simp only [go_sem, decide_true, decide_false, Nat.lt_irrefl, h2]
  refine alloc_intro fun b3 h3 => ?_
  simp only [fresh_set] at h3
  simp only [go_sem, decide_true, decide_false, Nat.lt_irrefl, h2, h3]
  exact ⟨_, Sub.refl _, Or.inl ⟨b1, b2, b3, h1, h2.2, h3.2.2, ⟨h2.1, h3.1, h3.2.1⟩, rfl, rfl⟩⟩

set_option maxHeartbeats 1000000 in
set_option maxRecDepth 4000 in
theorem hash_Columns (sd : List Seed) (x : Nat) (w : Int) (hn : sd.length < 1099511627776) (hs : ∀ s ∈ sd, s.Ok) (hx : x < 18446744073709551616) (hw : w < 9223372036854775808) :
    Pure Try.prog 43 [.p (.sl (sd.map Seed.pv)), u64 x, i64 w] (.p (.sl ((colsL sd x w).map colE))) := fun S => by
  refine callR_of Try.func43 rfl rfl (xc_ok (bitB 12743) _ _ _ ?_)
  simp only [go_sem, decide_true, decide_false, Nat.lt_irrefl]
  refine alloc_intro fun c7 h7 => ?_
  simp only [go_sem, decide_true, decide_false, Nat.lt_irrefl]
  refine (hash_columns sd x w _).useA ?_
  rintro _ _ ⟨b1, b2, b3, f1, f2, f3, hne, rfl, rfl⟩
  simp only [fresh_set] at f1 f2 f3
  simp only [go_sem, decide_true, decide_false, Nat.lt_irrefl, f1, f2, f3, hne]
  refine AWP.tipB c7 0 1 (cs := [.nils]) (by simp only [go_sem, decide_true, decide_false, Nat.lt_irrefl, f1, f2, f3, hne]) rfl fun kk hkk => ?_
  simp only [freshv_setr] at hkk
  simp only [List.set]
  have hseq := hash_columns1 sd x w hn hs hx hw (T0 := ((eS.set (.r b1) (.cells [.p (.sl (sd.map Seed.pv))])).set (.r b2) (.cells [u64 x])).set (.r b3) (.cells [i64 w])) (b1 := b1) (b2 := b2) (b3 := b3) (by simp only [go_sem, decide_true, decide_false, Nat.lt_irrefl, hne]) (by simp only [go_sem, decide_true, decide_false, Nat.lt_irrefl, hne]) (by simp only [go_sem, decide_true, decide_false, Nat.lt_irrefl, hne])
  have hcl : (colsL sd x w).length = sd.length := by simp [colsL]
  obtain ⟨L, hL⟩ : ∃ L, colsL sd x w = L := ⟨_, rfl⟩
  rw [hL] at hseq hcl ⊢
  have g1 : S (.r b1) = none := f1.2
  have g2 : S (.r b2) = none := f2.2
  have g3 : S (.r b3) = none := f3.2
  have g7 : S (.r c7) = none := h7
  refine AWP.rangeE (ι := Option Nat) (f := 87) (first := []) (caps := [.sp b1 0, .sp b2 0, .sp b3 0]) (by simp only [go_sem, decide_true, decide_false, Nat.lt_irrefl]) _
    (fun j loc => (S.set (.r c7) (.cells [.ts kk 1 loc ((L.take j).map colE)])).set (.v kk) (.tip 1 (L.take j).length loc)) none
    ?_ ?_ hseq (enterable_of Try.func87 rfl rfl) (fun _ _ => False) (fun _ _ => rfl) (by simp) ?_ ?_ ?_
  · refine sub_joinT (sub_joinT (sub_joinT (sub_join0 ?_) ?_ ?_) ?_ ?_) ?_ ?_
    · ((try dsimp only); (repeat refine sub_set ?_ ?_) <;> first | ((repeat (first | exact Sub.refl _ | refine Sub.setF ?_ (by first | assumption | exact And.right (by assumption) | exact And.right (And.right (by assumption)) | exact And.right (And.right (And.right (by assumption))) | exact And.right (And.right (And.right (And.right (by assumption)))) | exact And.right (And.right (And.right (And.right (And.right (by assumption))))) | exact And.right (And.right (And.right (And.right (And.right (And.right (by assumption)))))) | exact And.right (And.right (And.right (And.right (And.right (And.right (And.right (by assumption))))))) | exact And.right (And.right (And.right (And.right (And.right (And.right (And.right (And.right (by assumption)))))))) | exact And.right (And.right (And.right (And.right (And.right (And.right (And.right (And.right (And.right (by assumption)))))))))) | refine Sub.setV ?_ (by first | assumption | exact And.right (by assumption) | exact And.right (And.right (by assumption)) | exact And.right (And.right (And.right (by assumption))) | exact And.right (And.right (And.right (And.right (by assumption)))) | exact And.right (And.right (And.right (And.right (And.right (by assumption))))) | exact And.right (And.right (And.right (And.right (And.right (And.right (by assumption)))))) | exact And.right (And.right (And.right (And.right (And.right (And.right (And.right (by assumption))))))) | exact And.right (And.right (And.right (And.right (And.right (And.right (And.right (And.right (by assumption)))))))) | exact And.right (And.right (And.right (And.right (And.right (And.right (And.right (And.right (And.right (by assumption)))))))))))); done) | (simp only [go_sem, decide_true, decide_false, Nat.lt_irrefl, f1, f2, f3, hne, hkk, List.take_zero, List.map_nil, List.length_nil]; done) | (simp only [go_sem, decide_true, decide_false, Nat.lt_irrefl, f1, f2, f3, hne, hkk, List.take_zero, List.map_nil, List.length_nil]; rfl) | rfl)
    all_goals simp only [go_sem, decide_true, decide_false, Nat.lt_irrefl, f1, f2, f3, hne, hkk, g1, g2, g3]
  · refine (((Disj.nil _).setT ?_ _).setT ?_ _).setT ?_ _
    all_goals simp only [go_sem, decide_true, decide_false, Nat.lt_irrefl, f1, f2, f3, hne, hkk, g1, g2, g3]
  · intro j loc l hj T hT hdT
    refine xc_ok (bitB 12743) _ _ _ ?_
    simp only [go_sem, decide_true, decide_false, Nat.lt_irrefl, itemsI]
    refine ⟨_, Sub.refl _, hdT, fun T' hT' hdT' => ?_⟩
    refine xc_ok (bitB 12743) _ _ _ ?_
    simp only [go_sem, decide_true, decide_false, Nat.lt_irrefl, hkk]
    have hle : (List.take j L).length ≤ j := by rw [List.length_take]; exact Nat.min_le_left _ _
    refine ⟨by rintro el rfl; rfl, col_len, (by clear hne f1 f2 f3 hdT hdT'; omega), (by clear hne f1 f2 f3 hdT hdT'; omega), grow_intro fun loc' => ?_⟩
    simp only [go_sem, decide_true, decide_false, Nat.lt_irrefl, hkk]
    have e5 : List.map colE (List.take j L) ++ [([.int .i64 (L.getD j 0)] : List PV)] = List.map colE (L.take (j + 1)) := by
      rw [List.take_succ_eq_append_getElem hj, List.map_append]
      simp [List.getD_eq_getElem?_getD, hj, colE]
    have hdq := (hdT'.setE (k := .v kk) (y := .tip 1 (L.take j).length loc) (by simp only [go_sem, decide_true, decide_false, Nat.lt_irrefl]) (.tip 1 (List.map colE (List.take j L) ++ [([.int .i64 (L.getD j 0)] : List PV)]).length loc')).setE (k := .r c7) (y := .cells [.ts kk 1 loc ((L.take j).map colE)]) (by simp only [go_sem, decide_true, decide_false, Nat.lt_irrefl])
      (.cells [.ts kk 1 loc' (List.map colE (List.take j L) ++ [([.int .i64 (L.getD j 0)] : List PV)])])
    refine ⟨loc', ?_, ?_⟩
    · rw [join_set, join_set]
      refine Sub.joinD ?_ hdq
      ((try dsimp only); (repeat refine sub_set ?_ ?_) <;> first | ((repeat (first | exact Sub.refl _ | refine Sub.setF ?_ (by first | assumption | exact And.right (by assumption) | exact And.right (And.right (by assumption)) | exact And.right (And.right (And.right (by assumption))) | exact And.right (And.right (And.right (And.right (by assumption)))) | exact And.right (And.right (And.right (And.right (And.right (by assumption))))) | exact And.right (And.right (And.right (And.right (And.right (And.right (by assumption)))))) | exact And.right (And.right (And.right (And.right (And.right (And.right (And.right (by assumption))))))) | exact And.right (And.right (And.right (And.right (And.right (And.right (And.right (And.right (by assumption)))))))) | exact And.right (And.right (And.right (And.right (And.right (And.right (And.right (And.right (And.right (by assumption)))))))))) | refine Sub.setV ?_ (by first | assumption | exact And.right (by assumption) | exact And.right (And.right (by assumption)) | exact And.right (And.right (And.right (by assumption))) | exact And.right (And.right (And.right (And.right (by assumption)))) | exact And.right (And.right (And.right (And.right (And.right (by assumption))))) | exact And.right (And.right (And.right (And.right (And.right (And.right (by assumption)))))) | exact And.right (And.right (And.right (And.right (And.right (And.right (And.right (by assumption))))))) | exact And.right (And.right (And.right (And.right (And.right (And.right (And.right (And.right (by assumption)))))))) | exact And.right (And.right (And.right (And.right (And.right (And.right (And.right (And.right (And.right (by assumption)))))))))))); done) | (simp only [go_sem, decide_true, decide_false, Nat.lt_irrefl, hkk, e5, List.length_map, g7]; done) | (simp only [go_sem, decide_true, decide_false, Nat.lt_irrefl, hkk, e5, List.length_map, g7]; rfl) | rfl)
    · (intro q; refine (hdT' q).elim (fun e => Or.inl ?_) (fun e => Or.inr e); simp only [set_none_iff] at e ⊢; simp only [e, not_false_eq_true, and_self])
  · intro loc d hd
    have hjd := join_none hd
    have n7 : ¬ c7 = d ∧ ¬ d = c7 := by constructor <;> rintro rfl <;> simp [Store.set] at hjd
    have gd : S (.r d) = none := by have := hjd.2; simpa [Store.set, n7] using this
    simp only [go_sem, decide_true, decide_false, Nat.lt_irrefl, List.take_length, hkk, n7]
    refine ⟨S, Sub.set (Sub.joinL (Sub.set (Sub.set (Sub.refl _) g7 _) hkk _)) gd _, fun r hr => hr ▸ gd, by simp⟩
  · intro e E' d _ h; exact h.elim

/-! Seeds. -/
theorem clone_seeds (sd : List Seed) (hn : sd.length < 1099511627776) : Pure Try.prog 33 [.p (.sl (sd.map Seed.pv))] (.p (.sl (sd.map Seed.pv))) := fun S => by
  refine callR_of Try.func33 rfl rfl (xc_ok (bitB 21) _ _ _ ?_)
  simp only [go_sem, decide_true, decide_false, Nat.lt_irrefl]
  refine ⟨fun h => ⟨S, Sub.refl _, by rw [h], rfl⟩, seed_len, by omega, by omega, tip_intro fun k loc hk => ?_⟩
  simp only [go_sem, decide_true, decide_false, Nat.lt_irrefl]
  (refine ⟨S, by (repeat (first | exact Sub.refl _ | refine Sub.setF ?_ (by first | assumption | exact And.right (by assumption) | exact And.right (And.right (by assumption)) | exact And.right (And.right (And.right (by assumption))) | exact And.right (And.right (And.right (And.right (by assumption)))) | exact And.right (And.right (And.right (And.right (And.right (by assumption))))) | exact And.right (And.right (And.right (And.right (And.right (And.right (by assumption)))))) | exact And.right (And.right (And.right (And.right (And.right (And.right (And.right (by assumption))))))) | exact And.right (And.right (And.right (And.right (And.right (And.right (And.right (And.right (by assumption)))))))) | exact And.right (And.right (And.right (And.right (And.right (And.right (And.right (And.right (And.right (by assumption)))))))))) | refine Sub.setV ?_ (by first | assumption | exact And.right (by assumption) | exact And.right (And.right (by assumption)) | exact And.right (And.right (And.right (by assumption))) | exact And.right (And.right (And.right (And.right (by assumption)))) | exact And.right (And.right (And.right (And.right (And.right (by assumption))))) | exact And.right (And.right (And.right (And.right (And.right (And.right (by assumption)))))) | exact And.right (And.right (And.right (And.right (And.right (And.right (And.right (by assumption))))))) | exact And.right (And.right (And.right (And.right (And.right (And.right (And.right (And.right (by assumption)))))))) | exact And.right (And.right (And.right (And.right (And.right (And.right (And.right (And.right (And.right (by assumption)))))))))))), ?_⟩); simp
theorem new1 (s : Seed) : Pure Try.prog 31 [s.av] (bl (!s.may)) := fun S => by
  refine callR_of Try.func31 rfl rfl (xc_ok (bitB 7) _ _ _ ?_)
  simp only [go_sem, decide_true, decide_false, Nat.lt_irrefl]
  refine alloc_intro fun b hb => ?_
  simp only [go_sem, decide_true, decide_false, Nat.lt_irrefl]
  refine (hash_May s).useA ?_
  simp only [go_sem, decide_true, decide_false, Nat.lt_irrefl]
  (refine ⟨S, by (repeat (first | exact Sub.refl _ | refine Sub.setF ?_ (by first | assumption | exact And.right (by assumption) | exact And.right (And.right (by assumption)) | exact And.right (And.right (And.right (by assumption))) | exact And.right (And.right (And.right (And.right (by assumption)))) | exact And.right (And.right (And.right (And.right (And.right (by assumption))))) | exact And.right (And.right (And.right (And.right (And.right (And.right (by assumption)))))) | exact And.right (And.right (And.right (And.right (And.right (And.right (And.right (by assumption))))))) | exact And.right (And.right (And.right (And.right (And.right (And.right (And.right (And.right (by assumption)))))))) | exact And.right (And.right (And.right (And.right (And.right (And.right (And.right (And.right (And.right (by assumption)))))))))) | refine Sub.setV ?_ (by first | assumption | exact And.right (by assumption) | exact And.right (And.right (by assumption)) | exact And.right (And.right (And.right (by assumption))) | exact And.right (And.right (And.right (And.right (by assumption)))) | exact And.right (And.right (And.right (And.right (And.right (by assumption))))) | exact And.right (And.right (And.right (And.right (And.right (And.right (by assumption)))))) | exact And.right (And.right (And.right (And.right (And.right (And.right (And.right (by assumption))))))) | exact And.right (And.right (And.right (And.right (And.right (And.right (And.right (And.right (by assumption)))))))) | exact And.right (And.right (And.right (And.right (And.right (And.right (And.right (And.right (And.right (by assumption)))))))))))), ?_⟩); simp

/-- The place of the first odd seed; -1: none. -/
def oddAt (sd : List Seed) : Int := if sd.all Seed.may then -1 else (sd.takeWhile Seed.may).length
theorem tw_step (sd : List Seed) (i : Nat) (hi : i < sd.length) (hall : ∀ j (h : j < i) (h2 : j < sd.length), (sd[j]).may = true) (ho : (sd[i]).may = false) : oddAt sd = (i : Int) := by
  have h1 : sd.all Seed.may = false := by
    rw [Bool.eq_false_iff]; intro h
    have := List.all_eq_true.1 h _ (List.getElem_mem hi)
    rw [ho] at this; cases this
  have h2 : (sd.takeWhile Seed.may).length = i := by
    have e : sd = sd.take i ++ sd[i] :: sd.drop (i + 1) := by rw [← List.drop_eq_getElem_cons hi, List.take_append_drop]
    have h3 : ∀ s ∈ sd.take i, s.may = true := by
      intro s hs
      obtain ⟨j, hj, rfl⟩ := List.getElem_of_mem hs
      rw [List.length_take] at hj
      rw [List.getElem_take]
      exact hall j (by omega) (by omega)
    have : sd.takeWhile Seed.may = sd.take i := by
      conv => lhs; rw [e]
      rw [List.takeWhile_append_of_pos h3, List.takeWhile_cons, ho]; simp
    rw [this, List.length_take]; omega
  unfold oddAt
  rw [h1, h2]; simp
theorem index_odd (sd : List Seed) (hn : sd.length < 1099511627776) : Pure Try.prog 59 [.p (.sl (sd.map Seed.pv)), .fn (.func 31) [] []] (i64 (oddAt sd)) := fun S => by
  refine callR_of Try.func59 rfl rfl (xc_ok (bitB 66483) _ _ _ ?_)
  simp only [go_sem, decide_true, decide_false, Nat.lt_irrefl]
  refine AWP.roam (ι := Nat) (fun i => i ≤ sd.length ∧ ∀ j (h : j < i) (h2 : j < sd.length), (sd[j]).may = true)
    (fun i => ⟨Env.get [(0, .p (.sl (sd.map Seed.pv))), (1, .fn (.func 31) [] []), (7, i64 sd.length), (8, i64 i)], S, 19, []⟩) (fun i => sd.length - i) 0 ⟨by simp, fun j h => by omega⟩ ?_ ?_
  · exact le_of (by simp only [go_sem, decide_true, decide_false, Nat.lt_irrefl] <;> rfl) (Sub.refl _) rfl rfl (by simp)
  · rintro i ⟨hi, hall⟩ ih
    refine AWPH.step (xc_ok (bitB 66483) _ _ _ ?_)
    by_cases c : i < sd.length
    · simp only [go_sem, decide_true, decide_false, Nat.lt_irrefl, c, ltN' c, getD_map' _ _ _ _ c]
      refine Pure.useF (first := []) (caps := []) (args := [(sd[i]).av]) (a2 := [(sd[i]).av]) (new1 sd[i]) rfl ?_
      cases ho : (sd[i]).may
      · simp only [go_sem, decide_true, decide_false, Nat.lt_irrefl, Bool.not_false]
        (refine ⟨S, by (repeat (first | exact Sub.refl _ | refine Sub.setF ?_ (by first | assumption | exact And.right (by assumption) | exact And.right (And.right (by assumption)) | exact And.right (And.right (And.right (by assumption))) | exact And.right (And.right (And.right (And.right (by assumption)))) | exact And.right (And.right (And.right (And.right (And.right (by assumption))))) | exact And.right (And.right (And.right (And.right (And.right (And.right (by assumption)))))) | exact And.right (And.right (And.right (And.right (And.right (And.right (And.right (by assumption))))))) | exact And.right (And.right (And.right (And.right (And.right (And.right (And.right (And.right (by assumption)))))))) | exact And.right (And.right (And.right (And.right (And.right (And.right (And.right (And.right (And.right (by assumption)))))))))) | refine Sub.setV ?_ (by first | assumption | exact And.right (by assumption) | exact And.right (And.right (by assumption)) | exact And.right (And.right (And.right (by assumption))) | exact And.right (And.right (And.right (And.right (by assumption)))) | exact And.right (And.right (And.right (And.right (And.right (by assumption))))) | exact And.right (And.right (And.right (And.right (And.right (And.right (by assumption)))))) | exact And.right (And.right (And.right (And.right (And.right (And.right (And.right (by assumption))))))) | exact And.right (And.right (And.right (And.right (And.right (And.right (And.right (And.right (by assumption)))))))) | exact And.right (And.right (And.right (And.right (And.right (And.right (And.right (And.right (And.right (by assumption)))))))))))), ?_⟩); simp [tw_step sd i c hall ho]
      · simp only [go_sem, decide_true, decide_false, Nat.lt_irrefl, Bool.not_true]
        refine (ih (i + 1) ⟨c, fun j h h2 => ?_⟩ (by omega)).back (by (repeat (first | exact Sub.refl _ | refine Sub.setF ?_ (by first | assumption | exact And.right (by assumption) | exact And.right (And.right (by assumption)) | exact And.right (And.right (And.right (by assumption))) | exact And.right (And.right (And.right (And.right (by assumption)))) | exact And.right (And.right (And.right (And.right (And.right (by assumption))))) | exact And.right (And.right (And.right (And.right (And.right (And.right (by assumption)))))) | exact And.right (And.right (And.right (And.right (And.right (And.right (And.right (by assumption))))))) | exact And.right (And.right (And.right (And.right (And.right (And.right (And.right (And.right (by assumption)))))))) | exact And.right (And.right (And.right (And.right (And.right (And.right (And.right (And.right (And.right (by assumption)))))))))) | refine Sub.setV ?_ (by first | assumption | exact And.right (by assumption) | exact And.right (And.right (by assumption)) | exact And.right (And.right (And.right (by assumption))) | exact And.right (And.right (And.right (And.right (by assumption)))) | exact And.right (And.right (And.right (And.right (And.right (by assumption))))) | exact And.right (And.right (And.right (And.right (And.right (And.right (by assumption)))))) | exact And.right (And.right (And.right (And.right (And.right (And.right (And.right (by assumption))))))) | exact And.right (And.right (And.right (And.right (And.right (And.right (And.right (And.right (by assumption)))))))) | exact And.right (And.right (And.right (And.right (And.right (And.right (And.right (And.right (And.right (by assumption))))))))))))) (by simp) ?_
        · rcases Nat.lt_or_ge j i with hj | hj
          · exact hall j hj h2
          · obtain rfl : j = i := by omega
            exact ho
        · simp only [go_sem, decide_true, decide_false, Nat.lt_irrefl, wi_succ (show i < 4611686018427387904 by omega)]
    · obtain rfl : i = sd.length := by omega
      simp only [go_sem, decide_true, decide_false, Nat.lt_irrefl]
      have : sd.all Seed.may = true := List.all_eq_true.2 fun s hs => by
        obtain ⟨j, hj, rfl⟩ := List.getElem_of_mem hs
        exact hall j hj hj
      (refine ⟨S, by (repeat (first | exact Sub.refl _ | refine Sub.setF ?_ (by first | assumption | exact And.right (by assumption) | exact And.right (And.right (by assumption)) | exact And.right (And.right (And.right (by assumption))) | exact And.right (And.right (And.right (And.right (by assumption)))) | exact And.right (And.right (And.right (And.right (And.right (by assumption))))) | exact And.right (And.right (And.right (And.right (And.right (And.right (by assumption)))))) | exact And.right (And.right (And.right (And.right (And.right (And.right (And.right (by assumption))))))) | exact And.right (And.right (And.right (And.right (And.right (And.right (And.right (And.right (by assumption)))))))) | exact And.right (And.right (And.right (And.right (And.right (And.right (And.right (And.right (And.right (by assumption)))))))))) | refine Sub.setV ?_ (by first | assumption | exact And.right (by assumption) | exact And.right (And.right (by assumption)) | exact And.right (And.right (And.right (by assumption))) | exact And.right (And.right (And.right (And.right (by assumption)))) | exact And.right (And.right (And.right (And.right (And.right (by assumption))))) | exact And.right (And.right (And.right (And.right (And.right (And.right (by assumption)))))) | exact And.right (And.right (And.right (And.right (And.right (And.right (And.right (by assumption))))))) | exact And.right (And.right (And.right (And.right (And.right (And.right (And.right (And.right (by assumption)))))))) | exact And.right (And.right (And.right (And.right (And.right (And.right (And.right (And.right (And.right (by assumption)))))))))))), ?_⟩); simp [oddAt, this]
theorem contains_odd (sd : List Seed) (hn : sd.length < 1099511627776) : Pure Try.prog 30 [.p (.sl (sd.map Seed.pv)), .fn (.func 31) [] []] (bl (!sd.all Seed.may)) := fun S => by
  refine callR_of Try.func30 rfl rfl (xc_ok (bitB 19) _ _ _ ?_)
  simp only [go_sem, decide_true, decide_false, Nat.lt_irrefl]
  refine (index_odd sd hn).useA ?_
  simp only [go_sem, decide_true, decide_false, Nat.lt_irrefl]
  have e : decide (oddAt sd ≥ 0) = !sd.all Seed.may := by
    unfold oddAt
    cases sd.all Seed.may <;> simp
  simp only [go_sem, decide_true, decide_false, Nat.lt_irrefl, e]
  (refine ⟨S, by (repeat (first | exact Sub.refl _ | refine Sub.setF ?_ (by first | assumption | exact And.right (by assumption) | exact And.right (And.right (by assumption)) | exact And.right (And.right (And.right (by assumption))) | exact And.right (And.right (And.right (And.right (by assumption)))) | exact And.right (And.right (And.right (And.right (And.right (by assumption))))) | exact And.right (And.right (And.right (And.right (And.right (And.right (by assumption)))))) | exact And.right (And.right (And.right (And.right (And.right (And.right (And.right (by assumption))))))) | exact And.right (And.right (And.right (And.right (And.right (And.right (And.right (And.right (by assumption)))))))) | exact And.right (And.right (And.right (And.right (And.right (And.right (And.right (And.right (And.right (by assumption)))))))))) | refine Sub.setV ?_ (by first | assumption | exact And.right (by assumption) | exact And.right (And.right (by assumption)) | exact And.right (And.right (And.right (by assumption))) | exact And.right (And.right (And.right (And.right (by assumption)))) | exact And.right (And.right (And.right (And.right (And.right (by assumption))))) | exact And.right (And.right (And.right (And.right (And.right (And.right (by assumption)))))) | exact And.right (And.right (And.right (And.right (And.right (And.right (And.right (by assumption))))))) | exact And.right (And.right (And.right (And.right (And.right (And.right (And.right (And.right (by assumption)))))))) | exact And.right (And.right (And.right (And.right (And.right (And.right (And.right (And.right (And.right (by assumption)))))))))))), ?_⟩); simp
end Go.Sk
