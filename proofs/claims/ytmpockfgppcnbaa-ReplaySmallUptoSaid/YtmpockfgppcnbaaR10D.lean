/- Texts W8 A19a A34 A35 A36 A37 A38 A39, joined. -/
import Derived.Test.YtmpockfgppcnbaaR10B
import Derived.Test.YtmpockfgppcnbaaSkRg
import Derived.Test.YtmpockfgppcnbaaR10A
import Derived.Test.YtmpockfgppcnbaaR10C
set_option linter.unusedSimpArgs false
set_option linter.unusedVariables false
set_option linter.unusedSectionVars false
-- W8
section
namespace Go.Sk
open Go Go.Proofs

/-- Is a tick within? -/
noncomputable def inW (tick span t : Nat) : Bool := decide (tick < span) || decide (sub64 tick span < t)
/-- All buckets, in turn, and their units. -/
def bucksF : Nat → List (List Span) → List (Span × Nat)
  | _, [] => []
  | i, l :: r => l.map (fun s => (s, i)) ++ bucksF (i + 1) r
noncomputable def units (i : Nat) : Nat := m64 (1 * 2 ^ min i 64)
noncomputable def partStep (tick span : Nat) (p : Nat × Nat) (x : Span × Nat) : Nat × Nat :=
  if inW tick span x.1.a = true then (m64 (p.1 + units x.2), p.2) else if inW tick span x.1.b = true then (p.1, m64 (p.2 + units x.2)) else p
noncomputable def partsF (tick span : Nat) (p : Nat × Nat) (l : List (Span × Nat)) : Nat × Nat := l.foldl (partStep tick span) p
noncomputable def partsV (ls : List (List Span)) (tick span : Nat) : Nat × Nat := partsF tick span (0, 0) (bucksF 0 ls)
noncomputable def estV (ls : List (List Span)) (tick span : Nat) : Nat := m64 ((partsV ls tick span).1 + (partsV ls tick span).2 / 2)
theorem partsF_lt (tick span : Nat) (l : List (Span × Nat)) : ∀ p : Nat × Nat, p.1 < 18446744073709551616 → p.2 < 18446744073709551616 → (partsF tick span p l).1 < 18446744073709551616 ∧ (partsF tick span p l).2 < 18446744073709551616 := by
  induction l with
  | nil => intro p h1 h2; exact ⟨h1, h2⟩
  | cons x r ih =>
    intro p h1 h2
    show (partsF tick span (partStep tick span p x) r).1 < _ ∧ _
    refine ih _ ?_ ?_ <;> (unfold partStep; repeat' split) <;> first | assumption | (rw [m64_eq]; exact Nat.mod_lt _ (by decide))
theorem partsV_lt (ls : List (List Span)) (tick span : Nat) : (partsV ls tick span).1 < 18446744073709551616 ∧ (partsV ls tick span).2 < 18446744073709551616 := partsF_lt _ _ _ _ (by decide) (by decide)

theorem ref08_Within (t tick span : Nat) : Pure Try.prog 64 [u64 t, u64 tick, u64 span] (bl (inW tick span t)) := fun S => by
  refine callR_of Try.func64 rfl rfl (xc_ok (bitB 71) _ _ _ ?_)
  simp only [go_sem]
  by_cases h1 : tick < span
  · simp only [go_sem, h1]
    (refine ⟨S, by (repeat (first | exact Sub.refl _ | refine Sub.setF ?_ (by first | assumption | simp only [*]) | refine Sub.setV ?_ (by first | assumption | simp only [*]))), ?_⟩); simp [inW, h1]
  · simp only [go_sem, h1]
    (refine ⟨S, by (repeat (first | exact Sub.refl _ | refine Sub.setF ?_ (by first | assumption | simp only [*]) | refine Sub.setV ?_ (by first | assumption | simp only [*]))), ?_⟩); simp [inW, h1]

theorem parts_within {S : Store} {b1 b2 : Nat} (t tick span : Nat) (h1 : S (.r b1) = some (.cells [u64 span])) (h2 : S (.r b2) = some (.cells [u64 tick])) :
    CallR Try.prog 40 [u64 t, .sp b1 0, .sp b2 0] S (fun r S' => r = bl (inW tick span t) ∧ S' = S) := by
  refine callR_of Try.func40 rfl rfl (xc_ok (bitB 23) _ _ _ ?_)
  simp only [go_sem, h1, h2]
  by_cases hc : tick < span
  · simp only [go_sem, h1, h2, hc]
    (refine ⟨S, by (repeat (first | exact Sub.refl _ | refine Sub.setF ?_ (by first | assumption | simp only [*]) | refine Sub.setV ?_ (by first | assumption | simp only [*]))), ?_⟩); simp [inW, hc]
  · simp only [go_sem, h1, h2, hc]
    (refine ⟨S, by (repeat (first | exact Sub.refl _ | refine Sub.setF ?_ (by first | assumption | simp only [*]) | refine Sub.setV ?_ (by first | assumption | simp only [*]))), ?_⟩); simp [inW, hc]

theorem bucks_app : ∀ (ls m : List (List Span)) (i : Nat), bucksF i (ls ++ m) = bucksF i ls ++ bucksF (i + ls.length) m := by
  intro ls
  induction ls with
  | nil => intro m i; simp [bucksF]
  | cons l r ih => intro m i; simp only [List.cons_append, bucksF, ih, List.append_assoc, List.length_cons]; rw [show i + 1 + r.length = i + (r.length + 1) from by omega]
/-- The buckets ahead of the j-th one of level i. -/
theorem bucks_at (ls : List (List Span)) (i : Nat) (hi : i < ls.length) (j : Nat) (hj : j < ls[i].length) :
    bucksF 0 (ls.take i) ++ (ls[i].take (j + 1)).map (fun s => (s, i)) = (bucksF 0 (ls.take i) ++ (ls[i].take j).map (fun s => (s, i))) ++ [(ls[i][j], i)] := by
  rw [List.take_succ_eq_append_getElem hj, List.map_append, List.append_assoc]; rfl
theorem bucks_next (ls : List (List Span)) (i : Nat) (hi : i < ls.length) : bucksF 0 (ls.take (i + 1)) = bucksF 0 (ls.take i) ++ ls[i].map (fun s => (s, i)) := by
  rw [List.take_succ_eq_append_getElem hi, bucks_app]
  simp [bucksF, Nat.min_eq_left (Nat.le_of_lt hi)]
theorem bucks_get (ls : List (List Span)) (i : Nat) (hi : i < ls.length) (j : Nat) (hj : j < ls[i].length) :
    (bucksF 0 (ls.take i)).length + j < (bucksF 0 ls).length ∧ (bucksF 0 ls).getD ((bucksF 0 (ls.take i)).length + j) default = (ls[i][j], i) := by
  have e : bucksF 0 ls = bucksF 0 (ls.take i) ++ (ls[i].map (fun s => (s, i)) ++ bucksF (i + 1) (ls.drop (i + 1))) := by
    have h1 : ls = ls.take i ++ ls[i] :: ls.drop (i + 1) := by rw [← List.drop_eq_getElem_cons hi, List.take_append_drop]
    have h2 := bucks_app (ls.take i) (ls[i] :: ls.drop (i + 1)) 0
    rw [← h1] at h2
    rw [h2]
    simp [bucksF, Nat.min_eq_left (Nat.le_of_lt hi)]
  have hlt : (bucksF 0 (ls.take i)).length + j < (bucksF 0 ls).length := by rw [e]; simp; omega
  refine ⟨hlt, ?_⟩
  rw [List.getD_eq_getElem?_getD, e, List.getElem?_append_right (by omega), Nat.add_sub_cancel_left, List.getElem?_append_left (by simpa using hj)]
  simp [hj]
theorem parts_snoc (tick span : Nat) (p : Nat × Nat) (l : List (Span × Nat)) (x : Span × Nat) : partsF tick span p (l ++ [x]) = partStep tick span (partsF tick span p l) x := by
  unfold partsF; rw [List.foldl_append]; rfl

noncomputable def itemsB (l : List (Span × Nat)) : Nat → List AV := fun k => [(l.getD k default).1.av, u64 (units (l.getD k default).2)]

set_option maxHeartbeats 1000000 in
set_option maxRecDepth 4000 in
theorem est_buckets1 (k g : Int) (ls : List (List Span)) (hn : ls.length < 1099511627776) (hl : ∀ l ∈ ls, l.length < 1099511627776) {T0 : Store} {b : Nat} (h1 : T0 (.r b) = some (.cells [i64 k, i64 g, .p (.sl (ls.map lvE))])) :
    SeqR Try.prog 65 [] [.sp b 0] T0 (bucksF 0 ls).length (itemsB (bucksF 0 ls)) := by
  intro l J Jx hy E hd h0
  simp only [List.nil_append, List.singleton_append]
  refine callR_of Try.func65 rfl rfl (xc_ok (bitB 67604315) _ _ _ ?_)
  simp only [go_sem, h1]
  refine AWP.roam (ι := Nat × Store) (fun x => x.1 ≤ ls.length ∧ Disj T0 x.2 ∧ J (bucksF 0 (ls.take x.1)).length x.2)
    (fun x => ⟨Env.get [(0, .fn (.yield l) [] []), (1, .sp b 0), (8, .p (.sl (ls.map lvE))), (9, i64 ls.length), (10, i64 x.1)], Store.join x.2 T0, 29, []⟩) (fun x => ls.length - x.1) (0, E) ⟨by simp, hd, h0⟩ ?_ ?_
  · exact le_of (by simp only [go_sem] <;> rfl) (Sub.refl _) rfl rfl (by simp)
  · rintro ⟨i, E⟩ ⟨hi, hd, hJ⟩ ih
    dsimp only at hi hd hJ ⊢
    refine AWPH.step (xc_ok (bitB 67604315) _ _ _ ?_)
    by_cases c : i < ls.length
    rotate_left
    · obtain rfl : i = ls.length := by omega
      rw [List.take_length] at hJ
      simp only [go_sem]
      exact ⟨_, Sub.refl _, Or.inl ⟨E, rfl, hd, Or.inl hJ⟩⟩
    have hll := hl _ (List.getElem_mem c)
    simp only [go_sem, c, ltN' c, getD_map' _ _ _ _ c, lvE_mk]
    refine AWP.roam (ι := Nat × Store) (fun x => x.1 ≤ ls[i].length ∧ Disj T0 x.2 ∧ J ((bucksF 0 (ls.take i)).length + x.1) x.2)
      (fun x => ⟨Env.get [(0, .fn (.yield l) [] []), (1, .sp b 0), (3, i64 i), (8, .p (.sl (ls.map lvE))), (9, i64 ls.length), (10, i64 i), (15, .p (lvP ls[i])), (16, i64 ls[i].length), (17, i64 x.1)], Store.join x.2 T0, 29, []⟩) (fun x => ls[i].length - x.1) (0, E) ⟨by simp, hd, hJ⟩ ?_ ?_
    · exact le_of (by simp only [go_sem, lvP] <;> simp) (Sub.refl _) rfl rfl (by simp)
    · rintro ⟨j, E⟩ ⟨hj, hd, hJ⟩ jh
      dsimp only at hj hd hJ ⊢
      refine AWPH.step (xc_ok (bitB 67604315) _ _ _ ?_)
      by_cases cj : j < ls[i].length
      rotate_left
      · obtain rfl : j = ls[i].length := by omega
        simp only [go_sem, lvP]
        refine (ih (i + 1, E) ⟨c, hd, by rw [bucks_next ls i c]; simpa using hJ⟩ (by dsimp only; omega)).back (Sub.refl _) (by simp) ?_
        simp only [go_sem, wi_succ (show i < 4611686018427387904 by omega)]
      have hget := bucks_get ls i c j cj
      simp only [go_sem, lvP, cj, ltN' cj, getD_map' _ _ _ _ cj]
      refine alloc_intro fun d hfd => ?_
      have hfd' := join_none hfd
      simp only [go_sem]
      rw [join_set]
      have hyi := hy _ hget.1 E (T0.set (.r d) (.cells [u64 (ls[i][j]).a, u64 (ls[i][j]).b])) ((Sub.refl T0).set hfd'.2 _) (hd.setT hfd'.1 _) hJ
      simp only [itemsB, hget.2] at hyi
      have hjs : wi ((j : Int) + 1) = ((j + 1 : Nat) : Int) := wi_succ (show j < 4611686018427387904 by omega)
      refine AWP.orders (bitB 67604315) mixed [[0,1,2,3,4,5],[0,2,1,3,4,5],[0,2,3,1,4,5],[1,0,2,3,4,5],[1,2,0,3,4,5],[1,2,3,0,4,5],[2,0,1,3,4,5],[2,0,3,1,4,5],[2,1,0,3,4,5],[2,1,3,0,4,5],[2,3,0,1,4,5],[2,3,1,0,4,5]] (by kernel_rfl) ?_
      simp only [List.forall_mem_cons, List.not_mem_nil, false_implies, implies_true, and_true, opsAt, List.getElem?_cons_zero, List.getElem?_cons_succ]
      refine ⟨?_, ?_, ?_, ?_, ?_, ?_, ?_, ?_, ?_, ?_, ?_, ?_⟩
      all_goals
        simp only [go_sem]
        refine hyi.useA rfl ?_
        rintro r S' ⟨E', rfl, hd2, ⟨rfl, hJ2⟩ | ⟨rfl, hJ2⟩⟩
        · obtain ⟨hd3, hed⟩ := hd2.unsetT hfd'.2
          simp only [go_sem]
          refine (jh (j + 1, E') ⟨cj, hd3, by rw [← Nat.add_assoc]; exact hJ2⟩ (by dsimp only; omega)).back (sub_join_set hfd'.2 hed) (by simp) ?_
          simp only [go_sem, hjs, lvP]
        · obtain ⟨hd3, hed⟩ := hd2.unsetT hfd'.2
          simp only [go_sem]
          exact ⟨_, sub_join_set hfd'.2 hed, Or.inl ⟨E', rfl, hd3, Or.inr hJ2⟩⟩

theorem est_buckets (k g : Int) (ls : List (List Span)) (S : Store) : CallR Try.prog 41 [(Hist.mk k g ls).av] S
    (fun r S' => ∃ b, Fresh S b ∧ r = .fn (.func 65) [] [.sp b 0] ∧ S' = S.set (.r b) (.cells [i64 k, i64 g, .p (.sl (ls.map lvE))])) := by
  refine callR_of Try.func41 rfl rfl (xc_ok (bitB 7) _ _ _ ?_)
  simp only [go_sem]
  refine alloc_intro fun b hb => ?_
  simp only [go_sem]
  exact ⟨_, Sub.refl _, Or.inl ⟨b, hb, rfl, rfl⟩⟩

set_option maxHeartbeats 1000000 in
set_option maxRecDepth 4000 in
theorem est_Parts (k g : Int) (ls : List (List Span)) (tick span : Nat) (hn : ls.length < 1099511627776) (hl : ∀ l ∈ ls, l.length < 1099511627776) :
    Pure Try.prog 23 [(Hist.mk k g ls).av, u64 tick, u64 span] (.tuple [u64 (partsV ls tick span).1, u64 (partsV ls tick span).2]) := fun S => by
  refine callR_of Try.func23 rfl rfl (xc_ok (bitB 67608575) _ _ _ ?_)
  simp only [go_sem]
  refine alloc_intro fun c3 h3 => ?_
  simp only [go_sem]
  refine alloc_intro fun c4 h4 => ?_
  simp only [fresh_set] at h4
  simp only [go_sem, h4]
  refine alloc_intro fun c5 h5 => ?_
  simp only [fresh_set] at h5
  simp only [go_sem, h4, h5]
  refine alloc_intro fun c8 h8 => ?_
  simp only [fresh_set] at h8
  simp only [go_sem, h4, h5, h8]
  refine alloc_intro fun c9 h9 => ?_
  simp only [fresh_set] at h9
  simp only [go_sem, h4, h5, h8, h9]
  refine alloc_intro fun c10 h10 => ?_
  simp only [fresh_set] at h10
  simp only [go_sem, h4, h5, h8, h9, h10]
  refine (est_buckets k g ls _).useA ?_
  rintro _ _ ⟨b, hb, rfl, rfl⟩
  simp only [fresh_set] at hb
  simp only [go_sem, h4, h5, h8, h9, h10, hb]
  obtain ⟨L, hL⟩ : ∃ L, bucksF 0 ls = L := ⟨_, rfl⟩
  have hseq := est_buckets1 k g ls hn hl (T0 := eS.set (.r b) (.cells [i64 k, i64 g, .p (.sl (ls.map lvE))])) (b := b) (by simp only [go_sem])
  have hpv : partsV ls tick span = partsF tick span (0, 0) L := by unfold partsV; rw [hL]
  rw [hL] at hseq
  rw [hpv]
  have g4 : S (.r c4) = none := h4.2
  have g5 : S (.r c5) = none := h5.2.2
  have g8 : S (.r c8) = none := h8.2.2.2
  have g9 : S (.r c9) = none := h9.2.2.2.2
  have g10 : S (.r c10) = none := h10.2.2.2.2.2
  have gb : S (.r b) = none := hb.2.2.2.2.2.2.2.2
  refine AWP.rangeE (ι := Unit) (f := 65) (first := []) (caps := [.sp b 0]) (by simp only [go_sem]) _
    (fun j _ => ((((S.set (.r c4) (.cells [u64 tick])).set (.r c5) (.cells [u64 span])).set (.r c8) (.cells [.fn (.func 40) [] [.sp c5 0, .sp c4 0]])).set (.r c9) (.cells [u64 (partsF tick span (0, 0) (L.take j)).1])).set (.r c10) (.cells [u64 (partsF tick span (0, 0) (L.take j)).2])) ()
    ?_ ?_ hseq (enterable_of Try.func65 rfl rfl) (fun _ _ => False) (fun _ _ => rfl) (by simp) ?_ ?_ ?_
  · refine sub_joinT (sub_join0 ?_) ?_ ?_
    · ((try dsimp only); (repeat refine sub_set ?_ ?_) <;> first | ((repeat (first | exact Sub.refl _ | refine Sub.setF ?_ (by first | assumption | simp only [*]) | refine Sub.setV ?_ (by first | assumption | simp only [*]))); done) | (simp only [go_sem, h4, h5, h8, h9, h10, hb, List.take_zero, partsF, List.foldl_nil]; done) | (simp only [go_sem, h4, h5, h8, h9, h10, hb, List.take_zero, partsF, List.foldl_nil]; rfl) | rfl)
    all_goals simp only [go_sem, h4, h5, h8, h9, h10, hb, gb]
  · refine (Disj.nil _).setT ?_ _
    simp only [go_sem, h4, h5, h8, h9, h10, hb, gb]
  · intro j _ l hj T hT hdT
    refine xc_ok (bitB 67608575) _ _ _ ?_
    simp only [go_sem, itemsB]
    refine alloc_intro fun e he => ?_
    have hje := join_none he
    obtain ⟨x, hx⟩ : ∃ x, L.getD j default = x := ⟨_, rfl⟩
    have hsn : partsF tick span (0, 0) (L.take (j + 1)) = partStep tick span (partsF tick span (0, 0) (L.take j)) x := by
      rw [List.take_succ_eq_append_getElem hj, parts_snoc, ← hx]; simp [List.getD_eq_getElem?_getD, hj]
    simp only [hx]
    simp only [go_sem]
    refine ⟨_, by rw [join_set]; exact Sub.refl _, hdT.set hje.1 _, fun T' hT' hdT' => ?_⟩
    refine xc_ok (bitB 67608575) _ _ _ ?_
    have n4 : ¬ c4 = e ∧ ¬ e = c4 := by constructor <;> rintro rfl <;> simp [Store.set, h5, h8, h9, h10] at hje
    have n5 : ¬ c5 = e ∧ ¬ e = c5 := by constructor <;> rintro rfl <;> simp [Store.set, h8, h9, h10] at hje
    have n8 : ¬ c8 = e ∧ ¬ e = c8 := by constructor <;> rintro rfl <;> simp [Store.set, h9, h10] at hje
    have n9 : ¬ c9 = e ∧ ¬ e = c9 := by constructor <;> rintro rfl <;> simp [Store.set, h10] at hje
    have n10 : ¬ c10 = e ∧ ¬ e = c10 := by constructor <;> rintro rfl <;> simp [Store.set] at hje
    have ge : S (.r e) = none := by have := hje.2; simpa [Store.set, n4, n5, n8, n9, n10] using this
    simp only [go_sem, h4, h5, h8, h9, h10, n4, n5, n8, n9, n10]
    refine (parts_within x.1.a tick span ?_ ?_).useA ?_
    · simp only [go_sem, h4, h5, h8, h9, h10, n4, n5, n8, n9, n10]
    · simp only [go_sem, h4, h5, h8, h9, h10, n4, n5, n8, n9, n10]
    rintro _ _ ⟨rfl, rfl⟩
    cases q1 : inW tick span x.1.a
    · simp only [go_sem, h4, h5, h8, h9, h10, n4, n5, n8, n9, n10]
      refine (parts_within x.1.b tick span ?_ ?_).useA ?_
      · simp only [go_sem, h4, h5, h8, h9, h10, n4, n5, n8, n9, n10]
      · simp only [go_sem, h4, h5, h8, h9, h10, n4, n5, n8, n9, n10]
      rintro _ _ ⟨rfl, rfl⟩
      cases q2 : inW tick span x.1.b
      · simp only [go_sem, h4, h5, h8, h9, h10, n4, n5, n8, n9, n10]
        have hps : partsF tick span (0, 0) (L.take (j + 1)) = partsF tick span (0, 0) (L.take j) := by rw [hsn]; simp [partStep, q1, q2]
        simp only [hps]
        refine ⟨(), ?_, ?_⟩
        · refine Sub.joinD ?_ hdT'
          ((try dsimp only); (repeat refine sub_set ?_ ?_) <;> first | ((repeat (first | exact Sub.refl _ | refine Sub.setF ?_ (by first | assumption | simp only [*]) | refine Sub.setV ?_ (by first | assumption | simp only [*]))); done) | (simp only [go_sem, h4, h5, h8, h9, h10, n4, n5, n8, n9, n10, g4, g5, g8, g9, g10]; done) | (simp only [go_sem, h4, h5, h8, h9, h10, n4, n5, n8, n9, n10, g4, g5, g8, g9, g10]; rfl) | rfl)
        · (intro q; refine (hdT' q).elim (fun e => Or.inl ?_) (fun e => Or.inr e); simp only [set_none_iff] at e ⊢; simp only [e, not_false_eq_true, and_self])
      · simp only [go_sem, h4, h5, h8, h9, h10, n4, n5, n8, n9, n10]
        have hps : partsF tick span (0, 0) (L.take (j + 1)) = ((partsF tick span (0, 0) (L.take j)).1, m64 ((partsF tick span (0, 0) (L.take j)).2 + units x.2)) := by rw [hsn]; simp [partStep, q1, q2]
        simp only [hps]
        refine ⟨(), ?_, ?_⟩
        · rw [join_set]
          refine Sub.joinD ?_ (hdT'.setE (y := .cells [u64 (partsF tick span (0, 0) (L.take j)).2]) (by simp only [go_sem, h4, h5, h8, h9, h10, n4, n5, n8, n9, n10]) _)
          ((try dsimp only); (repeat refine sub_set ?_ ?_) <;> first | ((repeat (first | exact Sub.refl _ | refine Sub.setF ?_ (by first | assumption | simp only [*]) | refine Sub.setV ?_ (by first | assumption | simp only [*]))); done) | (simp only [go_sem, h4, h5, h8, h9, h10, n4, n5, n8, n9, n10, g4, g5, g8, g9, g10]; done) | (simp only [go_sem, h4, h5, h8, h9, h10, n4, n5, n8, n9, n10, g4, g5, g8, g9, g10]; rfl) | rfl)
        · (intro q; refine (hdT' q).elim (fun e => Or.inl ?_) (fun e => Or.inr e); simp only [set_none_iff] at e ⊢; simp only [e, not_false_eq_true, and_self])
    · simp only [go_sem, h4, h5, h8, h9, h10, n4, n5, n8, n9, n10]
      have hps : partsF tick span (0, 0) (L.take (j + 1)) = (m64 ((partsF tick span (0, 0) (L.take j)).1 + units x.2), (partsF tick span (0, 0) (L.take j)).2) := by rw [hsn]; simp [partStep, q1]
      simp only [hps]
      refine ⟨(), ?_, ?_⟩
      · rw [join_set]
        refine Sub.joinD ?_ (hdT'.setE (y := .cells [u64 (partsF tick span (0, 0) (L.take j)).1]) (by simp only [go_sem, h4, h5, h8, h9, h10, n4, n5, n8, n9, n10]) _)
        ((try dsimp only); (repeat refine sub_set ?_ ?_) <;> first | ((repeat (first | exact Sub.refl _ | refine Sub.setF ?_ (by first | assumption | simp only [*]) | refine Sub.setV ?_ (by first | assumption | simp only [*]))); done) | (simp only [go_sem, h4, h5, h8, h9, h10, n4, n5, n8, n9, n10, g4, g5, g8, g9, g10]; done) | (simp only [go_sem, h4, h5, h8, h9, h10, n4, n5, n8, n9, n10, g4, g5, g8, g9, g10]; rfl) | rfl)
      · (intro q; refine (hdT' q).elim (fun e => Or.inl ?_) (fun e => Or.inr e); simp only [set_none_iff] at e ⊢; simp only [e, not_false_eq_true, and_self])
  · intro _ d hd
    have hjd := join_none hd
    have n9 : ¬ c9 = d ∧ ¬ d = c9 := by constructor <;> rintro rfl <;> simp [Store.set, h10] at hjd
    have n10 : ¬ c10 = d ∧ ¬ d = c10 := by constructor <;> rintro rfl <;> simp [Store.set] at hjd
    simp only [go_sem, List.take_length, h4, h5, h8, h9, h10, n9, n10]
    refine AWP.draw2 (bitB 67608575) mixed (by kernel_rfl) (fun i => bl false) ?_
    simp only [go_sem, h4, h5, h8, h9, h10, n9, n10]
    have n4 : ¬ c4 = d ∧ ¬ d = c4 := by constructor <;> rintro rfl <;> simp [Store.set, h5, h8, h9, h10] at hjd
    have n5 : ¬ c5 = d ∧ ¬ d = c5 := by constructor <;> rintro rfl <;> simp [Store.set, h8, h9, h10] at hjd
    have n8 : ¬ c8 = d ∧ ¬ d = c8 := by constructor <;> rintro rfl <;> simp [Store.set, h9, h10] at hjd
    have gd : S (.r d) = none := by have := hjd.2; simpa [Store.set, n4, n5, n8, n9, n10] using this
    refine ⟨S, Sub.set (Sub.joinL ?_) gd _, fun r hr => hr ▸ gd, by simp⟩
    (repeat (first | exact Sub.refl _ | refine Sub.setF ?_ (by first | assumption | simp only [*]) | refine Sub.setV ?_ (by first | assumption | simp only [*])))
  · intro e E' d _ h; exact h.elim

theorem est_Of (k g : Int) (ls : List (List Span)) (tick span : Nat) (hn : ls.length < 1099511627776) (hl : ∀ l ∈ ls, l.length < 1099511627776) :
    Pure Try.prog 21 [(Hist.mk k g ls).av, u64 tick, u64 span] (u64 (estV ls tick span)) := fun S => by
  refine callR_of Try.func21 rfl rfl (xc_ok (bitB 463) _ _ _ ?_)
  simp only [go_sem]
  refine alloc_intro fun b hb => ?_
  simp only [go_sem]
  refine (est_Parts k g ls tick span hn hl).useA ?_
  simp only [go_sem]
  (refine ⟨S, by (repeat (first | exact Sub.refl _ | refine Sub.setF ?_ (by first | assumption | simp only [*]) | refine Sub.setV ?_ (by first | assumption | simp only [*]))), ?_⟩); simp [estV]
end Go.Sk
end

-- A19a
section
namespace Go.Sk

theorem inW_mono (tick span : Nat) : Mono (inW tick span) := by
  intro x y h hx
  unfold inW at *
  simp only [Bool.or_eq_true, decide_eq_true_eq] at *
  omega
theorem lo_le_hi {W : Nat → Bool} (hW : Mono W) {l : List Span} (hv : ∀ s ∈ l, s.a ≤ s.b) : lo W l ≤ hi W l :=
  List.countP_mono_left (fun s hs h => hW _ _ (hv s hs) h)
theorem loL_le_hiL {W : Nat → Bool} (hW : Mono W) : ∀ (ls : List (List Span)) (i : Nat), (∀ s ∈ flat ls, s.a ≤ s.b) → loL W i ls ≤ hiL W i ls := by
  intro ls
  induction ls with
  | nil => intro i _; exact Nat.le_refl _
  | cons l r ih =>
    intro i hv
    have h1 := Nat.mul_le_mul_right (2 ^ i) (lo_le_hi hW (l := l) (fun s hs => hv s (List.mem_append_right _ hs)))
    have h2 := ih (i + 1) (fun s hs => hv s (List.mem_append_left _ hs))
    unfold loL hiL; omega
theorem hiL_le_tot (W : Nat → Bool) : ∀ (ls : List (List Span)) (i : Nat), hiL W i ls ≤ totN i ls := by
  intro ls
  induction ls with
  | nil => intro i; exact Nat.le_refl _
  | cons l r ih =>
    intro i
    have h1 : hi W l * 2 ^ i ≤ l.length * 2 ^ i := Nat.mul_le_mul_right _ List.countP_le_length
    have h2 := ih (i + 1)
    unfold hiL totN; omega
theorem part_level (tick span i : Nat) (hi64 : i < 64) : ∀ (l : List Span), (∀ s ∈ l, s.a ≤ s.b) → ∀ p : Nat × Nat, p.1 + p.2 + l.length * 2 ^ i < 18446744073709551616 →
    partsF tick span p (l.map (fun s => (s, i))) = (p.1 + lo (inW tick span) l * 2 ^ i, p.2 + (hi (inW tick span) l - lo (inW tick span) l) * 2 ^ i) := by
  have hpow : (2 : Nat) ^ i < 18446744073709551616 := by
    have h1 : (2 : Nat) ^ i < 2 ^ 64 := Nat.pow_lt_pow_right (by decide) hi64
    have e : (2 : Nat) ^ 64 = 18446744073709551616 := by decide
    omega
  have hu : units i = 2 ^ i := by unfold units; rw [Nat.min_eq_left (by omega), Nat.one_mul, m64_id hpow]
  intro l
  induction l with
  | nil => intro _ p _; simp [partsF, lo, hi]
  | cons s t ih =>
    intro hv p hp
    have hvs := hv s (by simp)
    have hvt : ∀ s ∈ t, s.a ≤ s.b := fun s hs => hv s (by simp [hs])
    have hlh := lo_le_hi (inW_mono tick span) hvt
    rw [List.length_cons, Nat.add_mul, Nat.one_mul] at hp
    show partsF tick span (partStep tick span p (s, i)) (t.map (fun s => (s, i))) = _
    unfold partStep
    dsimp only
    rw [hu]
    unfold lo hi at ih hlh ⊢
    simp only [List.countP_cons]
    cases ha : inW tick span s.a with
    | true =>
      have hb := inW_mono tick span s.a s.b hvs ha
      rw [if_pos rfl, m64_id (by omega), ih hvt _ (by dsimp only; omega)]
      rw [hb]
      simp only [if_true, Nat.add_sub_add_right, Nat.add_mul, Nat.one_mul]
      congr 1; omega
    | false =>
      cases hb : inW tick span s.b with
      | true =>
        simp only [Bool.false_eq_true, if_false, if_true]
        rw [m64_id (by omega), ih hvt _ (by dsimp only; omega)]
        rw [Nat.add_zero, show ∀ a b : Nat, b ≤ a → a + 1 - b = (a - b) + 1 from fun a b h => by omega]
        · rw [Nat.add_mul, Nat.one_mul]; congr 1; omega
        · exact hlh
      | false =>
        simp only [Bool.false_eq_true, if_false, Nat.add_zero]
        exact ih hvt _ (by omega)
theorem parts_eq (tick span : Nat) : ∀ (ls : List (List Span)) (i : Nat), i + ls.length ≤ 64 → (∀ s ∈ flat ls, s.a ≤ s.b) → ∀ p : Nat × Nat, p.1 + p.2 + totN i ls < 18446744073709551616 →
    partsF tick span p (bucksF i ls) = (p.1 + loL (inW tick span) i ls, p.2 + (hiL (inW tick span) i ls - loL (inW tick span) i ls)) := by
  intro ls
  induction ls with
  | nil => intro i _ _ p _; simp [partsF, bucksF, loL, hiL]
  | cons l r ih =>
    intro i hi64 hv p hp
    have hvl : ∀ s ∈ l, s.a ≤ s.b := fun s hs => hv s (List.mem_append_right _ hs)
    have hvr : ∀ s ∈ flat r, s.a ≤ s.b := fun s hs => hv s (List.mem_append_left _ hs)
    rw [List.length_cons] at hi64
    unfold totN at hp
    have e : partsF tick span p (bucksF i (l :: r)) = partsF tick span (partsF tick span p (l.map (fun s => (s, i)))) (bucksF (i + 1) r) := by
      unfold partsF; rw [← List.foldl_append]; rfl
    have hlo := lo_le_hi (inW_mono tick span) hvl
    have hloL := loL_le_hiL (inW_mono tick span) r (i + 1) hvr
    have m1 : lo (inW tick span) l * 2 ^ i ≤ hi (inW tick span) l * 2 ^ i := Nat.mul_le_mul_right _ hlo
    have m2 : hi (inW tick span) l * 2 ^ i ≤ l.length * 2 ^ i := Nat.mul_le_mul_right _ List.countP_le_length
    rw [e, part_level tick span i (by omega) l hvl p (by omega), Nat.sub_mul, ih (i + 1) (by omega) hvr _ (by dsimp only; omega)]
    dsimp only
    rw [show loL (inW tick span) i (l :: r) = lo (inW tick span) l * 2 ^ i + loL (inW tick span) (i + 1) r from rfl, show hiL (inW tick span) i (l :: r) = hi (inW tick span) l * 2 ^ i + hiL (inW tick span) (i + 1) r from rfl]
    congr 1 <;> omega
/-- The estimate, in plain numbers. -/
theorem est_eq {ls : List (List Span)} (hv : ∀ s ∈ flat ls, s.a ≤ s.b) (hl : ls.length ≤ 64) (ht : totN 0 ls ≤ 4503599627370496) (tick span : Nat) :
    estV ls tick span = loL (inW tick span) 0 ls + (hiL (inW tick span) 0 ls - loL (inW tick span) 0 ls) / 2 ∧ hiL (inW tick span) 0 ls ≤ 4503599627370496 ∧ loL (inW tick span) 0 ls ≤ hiL (inW tick span) 0 ls := by
  have h1 := hiL_le_tot (inW tick span) ls 0
  have h2 := loL_le_hiL (inW_mono tick span) ls 0 hv
  refine ⟨?_, by omega, h2⟩
  unfold estV partsV
  rw [parts_eq tick span ls 0 (by omega) hv (0, 0) (by dsimp only; omega)]
  dsimp only
  rw [Nat.zero_add, Nat.zero_add, m64_id (by omega)]

end Go.Sk
end

-- A34
section
namespace Go.Sk

theorem hi_lo {k : Nat} {ls : List (List Span)} (hT : Tidy k ls) (W : Nat → Bool) (hW : Mono W) : k * hiL W 0 ls ≤ (k + 2) * loL W 0 ls := by
  rcases cut_all k W hW ls 0 hT.srt hT.val (fun _ => hT.low) hT.full with e | ⟨j, _, _, e, hb⟩
  · rw [e]; exact Nat.mul_le_mul_right _ (by omega)
  · rw [if_pos rfl, Nat.add_zero] at hb
    rw [e, Nat.mul_add, Nat.add_mul]; omega
/-- Merged so often, of so much. -/
structure Deep (g : Nat) (h : Hist) (n : (Nat → Bool) → Nat) : Prop where
  fine : h.Fine
  gen : h.g = g
  b : ∀ W, Mono W → n W ≤ hiL W 0 h.ls ∧ h.k.toNat ^ g * loL W 0 h.ls ≤ (h.k.toNat + 2) ^ g * n W
  all : ∀ W, (∀ x, W x = true) → n W = totN 0 h.ls
theorem deep_side {k g G lo hi n : Nat} (hg : g ≤ G) (h1 : k * hi ≤ (k + 2) * lo) (h2 : k ^ g * lo ≤ (k + 2) ^ g * n) : k ^ (G + 1) * hi ≤ (k + 2) ^ (G + 1) * n := by
  obtain ⟨d, rfl⟩ : ∃ d, G = g + d := ⟨G - g, by omega⟩
  have a1 : k ^ (g + d + 1) * hi = k ^ d * (k ^ g * (k * hi)) := by rw [Nat.pow_succ, Nat.pow_add]; simp only [Nat.mul_comm, Nat.mul_left_comm, Nat.mul_assoc]
  have a2 : (k + 2) ^ (g + d + 1) * n = (k + 2) ^ d * ((k + 2) * ((k + 2) ^ g * n)) := by rw [Nat.pow_succ, Nat.pow_add]; simp only [Nat.mul_comm, Nat.mul_left_comm, Nat.mul_assoc]
  have a3 : k ^ g * (k * hi) ≤ (k + 2) * ((k + 2) ^ g * n) := by
    refine Nat.le_trans (Nat.mul_le_mul_left _ h1) ?_
    have : k ^ g * ((k + 2) * lo) = (k + 2) * (k ^ g * lo) := Nat.mul_left_comm _ _ _
    rw [this]; exact Nat.mul_le_mul_left _ h2
  rw [a1, a2]
  exact Nat.mul_le_mul (Nat.pow_le_pow_left (by omega) d) a3
theorem deep_two {g1 g2 : Nat} {x y : Hist} {n1 n2 : (Nat → Bool) → Nat} (hx : Deep g1 x n1) (hy : Deep g2 y n2) (hk : y.k = x.k) (hg : max g1 g2 < 4) (ht : totN 0 x.ls + totN 0 y.ls ≤ 4503599627370496) :
    (withV [] [x, y]).2 = 0 ∧ Deep (max g1 g2 + 1) (withV [] [x, y]).1 (fun W => n1 W + n2 W) ∧ (withV [] [x, y]).1.k = x.k ∧ totN 0 (withV [] [x, y]).1.ls = totN 0 x.ls + totN 0 y.ls := by
  have hG : maxG [x, y] = ((max g1 g2 : Nat) : Int) := by
    show max (max 0 x.g) y.g = _
    rw [hx.gen, hy.gen]; omega
  have c : Came [x, y] [] := ⟨by simp, fun h hh => by
      simp only [List.mem_cons, List.not_mem_nil, or_false] at hh
      rcases hh with rfl | rfl
      · rfl
      · exact hk, fun h hh => by
      simp only [List.mem_cons, List.not_mem_nil, or_false] at hh
      rcases hh with rfl | rfl
      · exact hx.fine
      · exact hy.fine, by rw [hG]; omega, fun e he => (by cases he), by
      show totN 0 x.ls + (totN 0 y.ls + 0) + 0 ≤ _; omega⟩
  obtain ⟨a1, a2, a3, a4, a5, _, a6⟩ := with_ok c
  have e3 : (withV [] [x, y]).1.k = x.k := a3
  refine ⟨a1, ⟨a2, by rw [a4, hG]; omega, fun W hW => ?_, fun W hW => by rw [hx.all W hW, hy.all W hW, a5]; show _ = totN 0 x.ls + (totN 0 y.ls + 0) + 0; omega⟩, e3, by rw [a5]; show totN 0 x.ls + (totN 0 y.ls + 0) + 0 = _; omega⟩
  obtain ⟨b1, b2⟩ := a6 W hW
  have eS : hiS W [x, y] + sumE (wt W) [] = hiL W 0 x.ls + hiL W 0 y.ls := by show hiL W 0 x.ls + (hiL W 0 y.ls + 0) + 0 = _; omega
  rw [eS] at b1 b2
  obtain ⟨x1, x2⟩ := hx.b W hW
  obtain ⟨y1, y2⟩ := hy.b W hW
  rw [hk] at y2
  rw [e3]
  refine ⟨by omega, ?_⟩
  have p1 := deep_side (G := max g1 g2) (by omega) (hi_lo hx.fine.tidy W hW) x2
  have hly := hi_lo hy.fine.tidy W hW
  rw [hk] at hly
  have p2 := deep_side (G := max g1 g2) (by omega) hly y2
  have p3 : x.k.toNat ^ (max g1 g2 + 1) * loL W 0 (withV [] [x, y]).1.ls ≤ x.k.toNat ^ (max g1 g2 + 1) * (hiL W 0 x.ls + hiL W 0 y.ls) := Nat.mul_le_mul_left _ b1
  rw [Nat.mul_add] at p3
  rw [Nat.mul_add]
  omega
/-- The bounds. -/
theorem deep_est {g : Nat} {h : Hist} {n : (Nat → Bool) → Nat} (d : Deep g h n) (tick span : Nat) : ∃ E R, estV h.ls tick span = E ∧ n (inW tick span) = R ∧ E ≤ 4503599627370496 ∧ R ≤ 4503599627370496 ∧
    (h.k.toNat - 1) * R ≤ h.k.toNat * E ∧ h.k.toNat ^ (g + 1) * E ≤ (h.k.toNat + 1) * ((h.k.toNat + 2) ^ g * R) ∧ R ≤ hiL (inW tick span) 0 h.ls ∧ (R = 0 → E = 0) := by
  have hk : 2 ≤ h.k.toNat := by have := d.fine.good.k0; omega
  obtain ⟨e1, e2, e3⟩ := est_eq d.fine.tidy.val (by have := d.fine.good.len; omega) d.fine.good.tot tick span
  have hW := inW_mono tick span
  obtain ⟨b1, b2⟩ := d.b _ hW
  have hlh : loL (inW tick span) 0 h.ls ≤ hiL (inW tick span) 0 h.ls := by
    rcases cut_all h.k.toNat _ hW h.ls 0 d.fine.tidy.srt d.fine.tidy.val (fun _ => d.fine.tidy.low) d.fine.tidy.full with e | ⟨j, _, _, e, _⟩ <;> omega
  obtain ⟨u1, u2⟩ := est_bound hk d.fine.tidy _ hW (Nat.le_refl _) hlh
  rw [← e1] at u1 u2
  refine ⟨_, _, rfl, rfl, by omega, by omega, ?_, ?_, b1, fun h0 => ?_⟩
  · by_cases c : n (inW tick span) ≤ loL (inW tick span) 0 h.ls
    · exact Nat.le_trans (Nat.mul_le_mul_left _ c) u1
    · obtain ⟨v1, _⟩ := est_bound hk d.fine.tidy _ hW (R := n (inW tick span)) (by omega) b1
      rw [← e1] at v1; exact v1
  · have a1 : h.k.toNat ^ (g + 1) * estV h.ls tick span = h.k.toNat ^ g * (h.k.toNat * estV h.ls tick span) := by rw [Nat.pow_succ, Nat.mul_assoc]
    rw [a1]
    refine Nat.le_trans (Nat.mul_le_mul_left _ u2) ?_
    rw [Nat.mul_left_comm]
    exact Nat.mul_le_mul_left _ b2
  · rw [h0, Nat.mul_zero] at b2
    have hlo : loL (inW tick span) 0 h.ls = 0 := by
      rcases Nat.mul_eq_zero.1 (Nat.le_zero.1 b2) with q | q
      · have := Nat.pow_pos (n := g) (show 0 < h.k.toNat by omega); omega
      · exact q
    have hh := hi_lo d.fine.tidy _ hW
    rw [hlo, Nat.mul_zero] at hh
    rcases Nat.mul_eq_zero.1 (Nat.le_zero.1 hh) with q | q
    · omega
    · rw [e1, hlo, q]
end Go.Sk
end

-- A35
section
namespace Go.Sk

/-- Weight that comes: so many ticks later, so much. -/
structure Deed where
  gap : Nat
  w : Nat
noncomputable def madeS (s : Hist × Nat) (d : Deed) : Hist × Nat :=
  (if (addH s.1 (s.2 + d.gap % 1000) d.w).2 = 0 then (addH s.1 (s.2 + d.gap % 1000) d.w).1 else s.1, s.2 + d.gap % 1000)
noncomputable def madeF (s : Hist × Nat) (l : List Deed) : Hist × Nat := l.foldl madeS s
def newM (k : Int) : Hist := ⟨2 + max k 0 % 30, 0, []⟩
noncomputable def madeD (k : Int) (l : List Deed) : Hist := (madeF (newM k, 0) (l.take 30)).1
noncomputable def cameS (W : Nat → Bool) (s : (Hist × Nat) × Nat) (d : Deed) : (Hist × Nat) × Nat :=
  (madeS s.1 d, if (addH s.1.1 (s.1.2 + d.gap % 1000) d.w).2 = 0 then (s.2 + if W (s.1.2 + d.gap % 1000) = true then d.w else 0) else s.2)
noncomputable def cameF (W : Nat → Bool) (s : (Hist × Nat) × Nat) (l : List Deed) : (Hist × Nat) × Nat := l.foldl (cameS W) s
noncomputable def cameD (k : Int) (l : List Deed) (W : Nat → Bool) : Nat := (cameF W ((newM k, 0), 0) (l.take 30)).2
theorem madeF_snoc (s : Hist × Nat) (l : List Deed) (i : Nat) (hi : i < l.length) : madeF s (l.take (i + 1)) = madeS (madeF s (l.take i)) l[i] := by
  unfold madeF; rw [List.take_succ_eq_append_getElem hi, List.foldl_append]; rfl
theorem cameF_snoc (W : Nat → Bool) (s : (Hist × Nat) × Nat) (l : List Deed) (i : Nat) (hi : i < l.length) : cameF W s (l.take (i + 1)) = cameS W (cameF W s (l.take i)) l[i] := by
  unfold cameF; rw [List.take_succ_eq_append_getElem hi, List.foldl_append]; rfl
theorem cameF_fst (W : Nat → Bool) (l : List Deed) : ∀ s, (cameF W s l).1 = madeF s.1 l := by
  induction l with
  | nil => intro s; rfl
  | cons d r ih => intro s; show (cameF W (cameS W s d) r).1 = madeF (madeS s.1 d) r; rw [ih]; rfl

theorem addH_w {h : Hist} {t w : Nat} (e : (addH h t w).2 = 0) : 1 ≤ w ∧ totN 0 h.ls + w ≤ 4503599627370496 ∨ totN 0 h.ls > 4503599627370496 := by
  unfold addH addV at e
  by_cases h1 : w = 0
  · rw [if_pos h1] at e; simp at e
  rw [if_neg h1] at e
  by_cases h2 : 9223372036854775807 < t ∨ ((lastV h.ls).2 = true ∧ t < (lastV h.ls).1)
  · rw [if_pos h2] at e; simp at e
  rw [if_neg h2] at e
  by_cases h3 : 4503599627370496 - totN 0 h.ls < w
  · rw [if_pos h3] at e; simp at e
  omega
/-- What is so of a histogram to which weight came. -/
structure MadeOk (k : Int) (s : (Hist × Nat) × Nat) (W : Nat → Bool) : Prop where
  fine : s.1.1.Fine
  k : s.1.1.k = 2 + max k 0 % 30
  g : s.1.1.g = 0
  at_ : ∀ x ∈ flat s.1.1.ls, x.b ≤ s.1.2
  bd : Mono W → loL W 0 s.1.1.ls ≤ s.2 ∧ s.2 ≤ hiL W 0 s.1.1.ls
  all : (∀ t, W t = true) → s.2 = totN 0 s.1.1.ls
  le : s.2 ≤ totN 0 s.1.1.ls
theorem newM_ok (k : Int) (W : Nat → Bool) : MadeOk k ((newM k, 0), 0) W :=
  ⟨⟨⟨by show 2 ≤ 2 + max k 0 % 30; omega, by show 2 + max k 0 % 30 ≤ 1024; omega, fun l hl => (by cases hl), fun l hl => (by cases hl), Nat.zero_le _⟩, empty_tidy _, fun x hx => (by cases hx), Int.le_refl _, True.intro⟩, rfl, rfl, fun x hx => (by cases hx), fun _ => ⟨Nat.le_refl _, Nat.le_refl _⟩, fun _ => rfl, Nat.le_refl _⟩
theorem cameS_ok {k : Int} {s : (Hist × Nat) × Nat} {W : Nat → Bool} (m : MadeOk k s W) (ht : s.1.2 ≤ 1000000) (d : Deed) : MadeOk k (cameS W s d) W ∧ (cameS W s d).1.2 ≤ s.1.2 + 999 := by
  obtain ⟨T, hT⟩ : ∃ T, s.1.2 + d.gap % 1000 = T := ⟨_, rfl⟩
  refine ⟨?_, by show s.1.2 + d.gap % 1000 ≤ _; omega⟩
  unfold cameS madeS
  rw [hT]
  by_cases e : (addH s.1.1 T d.w).2 = 0
  · rw [if_pos e, if_pos e]
    have hg := m.fine.good
    have ho := addH_w e
    have := hg.tot
    obtain ⟨a1, a2⟩ := addH_let m.fine.tidy (t := T) (w := d.w) (by omega) (by omega) (fun x hx => by have := m.at_ x hx; omega) (by omega)
    obtain ⟨b1, b2, b3, b4⟩ := addH_good hg T d.w e
    obtain ⟨c1, c2⟩ := addH_tidy hg m.fine.tidy T d.w e
    refine ⟨⟨b1, by rw [b2]; exact c1, fun x hx => by have := a2 x hx; omega, by rw [b3]; exact m.fine.g0, by rw [b2, addH_val m.fine.tidy (t := T) (w := d.w) (by omega) (by omega) (fun x hx => by have := m.at_ x hx; omega) (by omega)]; exact flowS_most _ _ _ _⟩, by rw [b2]; exact m.k, by rw [b3]; exact m.g, a2, fun hW => ?_, fun hW => ?_, ?_⟩
    · obtain ⟨p, q⟩ := m.bd hW
      obtain ⟨p2, q2⟩ := c2 W hW
      dsimp only
      omega
    · dsimp only
      rw [b4, m.all hW, hW T, if_pos rfl]
    · dsimp only
      rw [b4]; have := m.le; split <;> omega
  · rw [if_neg e, if_neg e]
    exact ⟨m.fine, m.k, m.g, fun x hx => by have := m.at_ x hx; dsimp only; omega, m.bd, m.all, m.le⟩
theorem cameF_ok {k : Int} {W : Nat → Bool} : ∀ (l : List Deed) (s : (Hist × Nat) × Nat), MadeOk k s W → s.1.2 + l.length * 999 ≤ 1000000 → MadeOk k (cameF W s l) W ∧ (cameF W s l).1.2 ≤ s.1.2 + l.length * 999 := by
  intro l
  induction l with
  | nil => intro s m _; exact ⟨m, Nat.le_refl _⟩
  | cons d r ih =>
    intro s m h
    rw [List.length_cons] at h
    obtain ⟨a, b⟩ := cameS_ok m (by omega) d
    obtain ⟨c, e⟩ := ih (cameS W s d) a (by omega)
    exact ⟨c, by rw [List.length_cons]; show (cameF W (cameS W s d) r).1.2 ≤ _; omega⟩
theorem cameF_at {k : Int} (W : Nat → Bool) (l : List Deed) (i : Nat) : MadeOk k (cameF W ((newM k, 0), 0) ((l.take 30).take i)) W ∧ (cameF W ((newM k, 0), 0) ((l.take 30).take i)).1.2 ≤ 30000 := by
  have hl : ((l.take 30).take i).length ≤ 30 := by simp only [List.length_take]; omega
  obtain ⟨a, b⟩ := cameF_ok (W := W) ((l.take 30).take i) ((newM k, 0), 0) (newM_ok k W) (by dsimp only; omega)
  exact ⟨a, by dsimp only at b; omega⟩
theorem madeF_at {k : Int} (l : List Deed) (i : Nat) : (madeF (newM k, 0) ((l.take 30).take i)).1.Fine ∧ (madeF (newM k, 0) ((l.take 30).take i)).2 ≤ 30000 ∧ (madeF (newM k, 0) ((l.take 30).take i)).1.k = 2 + max k 0 % 30 ∧ (madeF (newM k, 0) ((l.take 30).take i)).1.g = 0 := by
  obtain ⟨a, b⟩ := cameF_at (k := k) (fun _ => true) l i
  have e := cameF_fst (fun _ => true) ((l.take 30).take i) ((newM k, 0), 0)
  have f := a.fine; have g := a.g; have kk := a.k
  rw [e] at f b g kk
  exact ⟨f, b, kk, g⟩
theorem made_came (k : Int) (l : List Deed) (W : Nat → Bool) : MadeOk k (cameF W ((newM k, 0), 0) (l.take 30)) W := by
  have := (cameF_at (k := k) W l 30).1
  rwa [List.take_of_length_le (by simp only [List.length_take]; omega)] at this
theorem made_all (k : Int) (l : List Deed) {W : Nat → Bool} (hW : ∀ t, W t = true) : cameD k l W = totN 0 (madeD k l).ls := by
  have key : (cameF W ((newM k, 0), 0) (l.take 30)).1.1 = madeD k l := by rw [cameF_fst]; rfl
  have := (made_came k l W).all hW
  rw [key] at this; exact this
theorem made_deep (k : Int) (l : List Deed) : Deep 0 (madeD k l) (cameD k l) ∧ (madeD k l).k = 2 + max k 0 % 30 := by
  have key : ∀ W, (cameF W ((newM k, 0), 0) (l.take 30)).1.1 = madeD k l := fun W => by rw [cameF_fst]; rfl
  have m := made_came k l (fun _ => true)
  refine ⟨⟨by rw [← key (fun _ => true)]; exact m.fine, by rw [← key (fun _ => true), m.g]; rfl, fun W hW => ?_, fun W hW => made_all k l hW⟩, by rw [← key (fun _ => true)]; exact m.k⟩
  have b := (made_came k l W).bd hW
  rw [key W] at b
  refine ⟨b.2, ?_⟩
  rw [Nat.pow_zero, Nat.pow_zero, Nat.one_mul, Nat.one_mul]; exact b.1
theorem came_le (k : Int) (l : List Deed) (W : Nat → Bool) : cameD k l W ≤ totN 0 (madeD k l).ls := by
  have key : (cameF W ((newM k, 0), 0) (l.take 30)).1.1 = madeD k l := by rw [cameF_fst]; rfl
  have := (made_came k l W).le
  rw [key] at this; exact this
/-- How much weight there may be. -/
theorem came_sum {c : Nat} : ∀ (l : List Deed) (s : (Hist × Nat) × Nat), (∀ d ∈ l, d.w ≤ c) → (cameF (fun _ => true) s l).2 ≤ s.2 + l.length * c := by
  intro l
  induction l with
  | nil => intro s _; show s.2 ≤ _; omega
  | cons d r ih =>
    intro s h
    have h1 := h d (by simp)
    have h3 := ih (cameS (fun _ => true) s d) (fun x hx => h x (by simp [hx]))
    have h2 : (cameS (fun _ => true) s d).2 ≤ s.2 + c := by
      show (if _ then (s.2 + if true = true then d.w else 0) else s.2) ≤ _
      split
      · rw [if_pos rfl]; exact Nat.add_le_add_left h1 _
      · exact Nat.le_add_right _ _
    have e : cameF (fun _ => true) s (d :: r) = cameF (fun _ => true) (cameS (fun _ => true) s d) r := rfl
    rw [e, List.length_cons, Nat.add_mul, Nat.one_mul]
    generalize cameS (fun _ => true) s d = s1 at *
    generalize cameF (fun _ => true) s1 r = s2 at *
    omega
theorem made_sum (k : Int) (l : List Deed) {c : Nat} (h : ∀ d ∈ l, d.w ≤ c) : totN 0 (madeD k l).ls ≤ 30 * c := by
  rw [← made_all k l (W := fun _ => true) (fun _ => rfl)]
  have := came_sum (c := c) (l.take 30) ((newM k, 0), 0) (fun d hd => h d (List.mem_of_mem_take hd))
  have h2 : (l.take 30).length * c ≤ 30 * c := Nat.mul_le_mul_right _ (by rw [List.length_take]; omega)
  unfold cameD
  dsimp only at this
  omega
end Go.Sk
end

-- A36
section
namespace Go.Sk

structure Tree where
  k : Int
  l0 : List Deed
  l1 : List Deed
  l2 : List Deed
  l3 : List Deed
  deep : Nat
noncomputable def mrg (l : List Hist) : Hist := (withV [] l).1
noncomputable def againV (h x : Hist) : Nat → Hist
  | 0 => x
  | n + 1 => mrg [againV h x n, h]
noncomputable def baseV (t : Tree) : Hist :=
  if t.deep % 5 = 0 then madeD t.k t.l0
  else if t.deep % 5 = 1 then mrg [madeD t.k t.l0, madeD t.k t.l1]
  else mrg [mrg [madeD t.k t.l0, madeD t.k t.l1], mrg [madeD t.k t.l2, madeD t.k t.l3]]
noncomputable def buildV (t : Tree) : Hist := againV (madeD t.k t.l0) (baseV t) (t.deep % 5 - 2)
def timesV (d : Nat) : Nat × Nat × Nat × Nat := if d = 0 then (1, 0, 0, 0) else if d = 1 then (1, 1, 0, 0) else (d - 1, 1, 1, 1)
noncomputable def realW (t : Tree) (W : Nat → Bool) : Nat :=
  (timesV (t.deep % 5)).1 * cameD t.k t.l0 W + (timesV (t.deep % 5)).2.1 * cameD t.k t.l1 W + (timesV (t.deep % 5)).2.2.1 * cameD t.k t.l2 W + (timesV (t.deep % 5)).2.2.2 * cameD t.k t.l3 W
structure Tree.Light (t : Tree) : Prop where
  l0 : ∀ d ∈ t.l0, d.w ≤ 1099511627776
  l1 : ∀ d ∈ t.l1, d.w ≤ 1099511627776
  l2 : ∀ d ∈ t.l2, d.w ≤ 1099511627776
  l3 : ∀ d ∈ t.l3, d.w ≤ 1099511627776
theorem Deep.eqn {g g' : Nat} {h : Hist} {n n' : (Nat → Bool) → Nat} (d : Deep g h n) (hg : g = g') (hn : ∀ W, n W = n' W) : Deep g' h n' := by
  subst hg
  exact ⟨d.fine, d.gen, fun W hW => by rw [← hn]; exact d.b W hW, fun W hW => by rw [← hn]; exact d.all W hW⟩
/-- Sizes of the four. -/
structure Tree.Sz (t : Tree) (c : Nat) : Prop where
  a0 : totN 0 (madeD t.k t.l0).ls ≤ c
  a1 : totN 0 (madeD t.k t.l1).ls ≤ c
  a2 : totN 0 (madeD t.k t.l2).ls ≤ c
  a3 : totN 0 (madeD t.k t.l3).ls ≤ c
theorem Tree.Light.sz {t : Tree} (l : t.Light) : t.Sz 32985348833280 :=
  ⟨made_sum _ _ l.l0, made_sum _ _ l.l1, made_sum _ _ l.l2, made_sum _ _ l.l3⟩
theorem base_deep {t : Tree} (l : t.Light) : ∃ g, g = min (t.deep % 5) 2 ∧ Deep g (baseV t) (fun W => cameD t.k t.l0 W + (if t.deep % 5 = 0 then 0 else cameD t.k t.l1 W) + (if t.deep % 5 < 2 then 0 else cameD t.k t.l2 W + cameD t.k t.l3 W)) ∧ (baseV t).k = 2 + max t.k 0 % 30 ∧ totN 0 (baseV t).ls ≤ 4 * 32985348833280 := by
  refine ⟨_, rfl, ?_⟩
  obtain ⟨a0, a1, a2, a3⟩ := l.sz
  obtain ⟨d0, k0⟩ := made_deep t.k t.l0
  obtain ⟨d1, k1⟩ := made_deep t.k t.l1
  obtain ⟨d2, k2⟩ := made_deep t.k t.l2
  obtain ⟨d3, k3⟩ := made_deep t.k t.l3
  unfold baseV
  by_cases h0 : t.deep % 5 = 0
  · rw [if_pos h0]
    exact ⟨d0.eqn (by omega) (fun W => by rw [if_pos h0, if_pos (by omega)]; omega), k0, by omega⟩
  rw [if_neg h0]
  obtain ⟨p1, p2, p3, p4⟩ := deep_two d0 d1 (by rw [k0, k1]) (by omega) (by omega)
  by_cases h1 : t.deep % 5 = 1
  · rw [if_pos h1]
    exact ⟨p2.eqn (by omega) (fun W => by rw [if_neg h0, if_pos (by omega)]; omega), by unfold mrg; rw [p3, k0], by unfold mrg; rw [p4]; omega⟩
  rw [if_neg h1]
  obtain ⟨q1, q2, q3, q4⟩ := deep_two d2 d3 (by rw [k2, k3]) (by omega) (by omega)
  obtain ⟨r1, r2, r3, r4⟩ := deep_two p2 q2 (by rw [p3, q3, k0, k2]) (by omega) (by rw [p4, q4]; omega)
  exact ⟨r2.eqn (by omega) (fun W => by rw [if_neg h0, if_neg (by omega)]), by unfold mrg; rw [r3, p3, k0], by unfold mrg; rw [r4, p4, q4]; omega⟩
theorem again_deep {t : Tree} (l : t.Light) (hd : 2 ≤ t.deep % 5) : ∀ j, j ≤ 2 → Deep (2 + j) (againV (madeD t.k t.l0) (baseV t) j) (fun W => (j + 1) * cameD t.k t.l0 W + cameD t.k t.l1 W + cameD t.k t.l2 W + cameD t.k t.l3 W) ∧ (againV (madeD t.k t.l0) (baseV t) j).k = 2 + max t.k 0 % 30 ∧
    totN 0 (againV (madeD t.k t.l0) (baseV t) j).ls ≤ (4 + j) * 32985348833280 := by
  intro j
  induction j with
  | zero =>
    intro _
    obtain ⟨g, hg, d, k, s⟩ := base_deep l
    exact ⟨d.eqn (by omega) (fun W => by rw [if_neg (by omega), if_neg (by omega)]; omega), k, s⟩
  | succ j ih =>
    intro hj
    obtain ⟨d, k, s⟩ := ih (by omega)
    obtain ⟨a0, _, _, _⟩ := l.sz
    obtain ⟨d0, k0⟩ := made_deep t.k t.l0
    obtain ⟨p1, p2, p3, p4⟩ := deep_two d d0 (by rw [k0, k]) (by omega) (by omega)
    exact ⟨p2.eqn (by omega) (fun W => by rw [Nat.add_mul (j + 1) 1]; omega), by show (mrg _).k = _; unfold mrg; rw [p3, k], by show totN 0 (mrg _).ls ≤ _; unfold mrg; rw [p4]; omega⟩
theorem build_deep {t : Tree} (l : t.Light) : Deep (t.deep % 5) (buildV t) (realW t) ∧ (buildV t).k = 2 + max t.k 0 % 30 ∧ totN 0 (buildV t).ls ≤ 6 * 32985348833280 := by
  unfold buildV
  by_cases h : 2 ≤ t.deep % 5
  · obtain ⟨d, k, s⟩ := again_deep l h (t.deep % 5 - 2) (by omega)
    refine ⟨d.eqn (by omega) (fun W => ?_), k, Nat.le_trans s (Nat.mul_le_mul_right _ (by omega))⟩
    unfold realW timesV
    rw [if_neg (by omega), if_neg (by omega)]
    dsimp only
    rw [show t.deep % 5 - 2 + 1 = t.deep % 5 - 1 by omega]; omega
  · obtain ⟨g, hg, d, k, s⟩ := base_deep l
    rw [show t.deep % 5 - 2 = 0 by omega]
    refine ⟨d.eqn (by omega) (fun W => ?_), k, by show totN 0 (baseV t).ls ≤ _; omega⟩
    unfold realW timesV
    by_cases h0 : t.deep % 5 = 0
    · rw [if_pos h0, if_pos h0, if_pos (by omega)]; dsimp only; omega
    · rw [if_neg h0, if_neg h0, if_pos (show t.deep % 5 = 1 by omega), if_pos (show t.deep % 5 < 2 by omega)]; dsimp only; omega
theorem real_all {t : Tree} (l : t.Light) {W : Nat → Bool} (hW : ∀ x, W x = true) : realW t W = totN 0 (buildV t).ls := (build_deep l).1.all W hW
theorem real_le {t : Tree} (l : t.Light) (W : Nat → Bool) (hW : Mono W) : realW t W ≤ 6 * 32985348833280 := by
  obtain ⟨d, _, h⟩ := build_deep l
  have := (d.b W hW).1
  have e1 := hiL_le_tot W (buildV t).ls 0
  omega
end Go.Sk
end

-- A37
section
namespace Go.Sk

def digV (n : Nat) : Nat := if _h : n = 0 then 0 else 1 + digV (n / 2)
termination_by n
decreasing_by omega
theorem digV_zero : digV 0 = 0 := by rw [digV, dif_pos rfl]
theorem digV_pos {n : Nat} (h : n ≠ 0) : digV n = 1 + digV (n / 2) := by rw [digV, dif_neg h]
theorem dig_le : ∀ (c n : Nat), 2 ^ c ≤ n + 1 → c ≤ digV n := by
  intro c
  induction c with
  | zero => intro n _; omega
  | succ c ih =>
    intro n h
    have h1 := Nat.pow_pos (n := c) (show 0 < 2 by decide)
    rw [Nat.pow_succ] at h
    have hn : n ≠ 0 := by omega
    rw [digV_pos hn]
    have := ih (n / 2) (by omega)
    omega
theorem dig_small : ∀ (c n : Nat), n < 2 ^ c → digV n ≤ c := by
  intro c
  induction c with
  | zero => intro n h; have : n = 0 := by simpa using h
            subst this; rw [digV_zero]; omega
  | succ c ih =>
    intro n h
    rw [Nat.pow_succ] at h
    by_cases hn : n = 0
    · subst hn; rw [digV_zero]; omega
    · rw [digV_pos hn]; have := ih (n / 2) (by omega); omega
def bksN (ls : List (List Span)) : Nat := (ls.map List.length).sum
theorem bks_le {c : Nat} : ∀ (ls : List (List Span)), (∀ l ∈ ls, l.length ≤ c) → bksN ls ≤ c * ls.length := by
  intro ls
  induction ls with
  | nil => intro _; exact Nat.zero_le _
  | cons l r ih =>
    intro h
    have h1 := h l (by simp)
    have h2 := ih (fun x hx => h x (by simp [hx]))
    unfold bksN at *
    rw [List.map_cons, List.sum_cons, List.length_cons, Nat.mul_add, Nat.mul_one]; omega
noncomputable def boundB (k g : Int) (n : Nat) : Int := if n = 0 ∨ ¬ (2 ≤ k ∧ k ≤ 1024) ∨ g < 0 ∨ 4 < g then 0 else (k + 1) * ((digV n : Int) + g)
theorem few_ok {h : Hist} (f : h.Fine) (hg : h.g ≤ 4) : (bksN h.ls : Int) ≤ boundB h.k h.g (totN 0 h.ls) := by
  have hk := f.good.k0
  have hk1 := f.good.k1
  have h0 := f.g0
  have hl := tot_levels h.ls 0 f.good.ne
  rw [Nat.zero_add, Nat.pow_zero] at hl
  have hd := dig_le _ _ hl
  have hb := bks_le (c := h.k.toNat + 1) h.ls (fun l hl => by
    obtain ⟨j, _, e⟩ := most_mem h.ls 0 f.most l hl
    refine Nat.le_trans e ?_
    unfold mostN; split <;> omega)
  unfold boundB
  by_cases hz : totN 0 h.ls = 0
  · rw [if_pos (Or.inl hz)]
    rw [hz, digV_zero] at hd
    have : h.ls.length = 0 := by omega
    rw [this] at hb; omega
  · rw [if_neg (by omega)]
    have h1 : (h.k.toNat + 1) * h.ls.length ≤ (h.k.toNat + 1) * digV (totN 0 h.ls) := Nat.mul_le_mul_left _ hd
    have h2 : (bksN h.ls : Int) ≤ (((h.k.toNat + 1) * digV (totN 0 h.ls) : Nat) : Int) := by omega
    have e : (((h.k.toNat + 1) * digV (totN 0 h.ls) : Nat) : Int) = (h.k + 1) * (digV (totN 0 h.ls) : Int) := by
      rw [Int.natCast_mul, show ((h.k.toNat + 1 : Nat) : Int) = h.k + 1 by omega]
    rw [e] at h2
    refine Int.le_trans h2 ?_
    exact Int.mul_le_mul_of_nonneg_left (by omega) (by omega)
end Go.Sk
end

-- A38
section
namespace Go.Sk

theorem flowS_at (k t : Nat) : ∀ ls i (c : List Span), (∀ s ∈ flat ls, s.b = t) → (∀ s ∈ c, s.b = t) → ∀ s ∈ flat (flowS k i ls c), s.b = t := by
  refine flowS_ind k (fun i ls c => (∀ s ∈ flat ls, s.b = t) → (∀ s ∈ c, s.b = t) → ∀ s ∈ flat (flowS k i ls c), s.b = t) ?_ ?_
  · intro i _ _ s hs; rw [flowS_nil] at hs; cases hs
  · intro i ls c hne ih h1 h2 s hs
    rw [flowS_cons hne] at hs
    rw [flat_tail] at h1
    have hall : ∀ s ∈ ls.headD [] ++ c, s.b = t := fun s hs => by
      rcases List.mem_append.1 hs with hs | hs
      · exact h1 s (List.mem_append_right _ hs)
      · exact h2 s hs
    rcases List.mem_append.1 hs with hs | hs
    · refine ih (fun s hs => h1 s (List.mem_append_left _ hs)) (fun s hs => ?_) s hs
      obtain ⟨x, _, y, hy, rfl⟩ := pairUp_mem _ s hs
      exact hall y (List.mem_of_mem_take hy)
    · exact hall s (List.mem_of_mem_drop hs)
theorem units_const (t : Nat) : ∀ (l : List (Nat × Nat)), (∀ x ∈ l, x.1 = t) → unitsE l = List.replicate (sumW l) ⟨t, t⟩ := by
  intro l
  induction l with
  | nil => intro _; rfl
  | cons x r ih =>
    intro h
    rw [unitsE_cons, ih (fun y hy => h y (by simp [hy])), sumW_cons, h x (by simp), List.replicate_append_replicate]
/-- One of an event alone. -/
theorem one_val {k : Int} (h1 : 2 ≤ k) {t w : Nat} (ht : t ≤ 9223372036854775807) (hw : 1 ≤ w) (hw2 : w ≤ 4503599627370496) :
    addH ⟨k, 0, []⟩ t w = (⟨k, 0, flowS k.toNat 0 [] (List.replicate w ⟨t, t⟩)⟩, 0) := by
  have := addH_val (h := ⟨k, 0, []⟩) (empty_tidy _) ht hw (fun x hx => by cases hx) (by show 0 + w ≤ _; omega)
  rw [this]
  show ((⟨(k.toNat : Int), _, _⟩ : Hist), (0 : Int)) = _
  rw [Int.toNat_of_nonneg (by omega)]
theorem one_fine {k : Int} (h1 : 2 ≤ k) (h2 : k ≤ 1024) {t w : Nat} (ht : t ≤ 9223372036854775807) (hw : 1 ≤ w) (hw2 : w ≤ 4503599627370496) :
    (addH ⟨k, 0, []⟩ t w).1.Fine ∧ totN 0 (addH ⟨k, 0, []⟩ t w).1.ls = w ∧ (addH ⟨k, 0, []⟩ t w).1.k = k ∧ (addH ⟨k, 0, []⟩ t w).1.g = 0 ∧ unitsE (lumpsA 0 (addH ⟨k, 0, []⟩ t w).1.ls) = List.replicate w ⟨t, t⟩ := by
  have hv := one_val h1 ht hw hw2
  have hg : (⟨k, 0, []⟩ : Hist).Good := ⟨h1, h2, fun l hl => (by cases hl), fun l hl => (by cases hl), Nat.zero_le _⟩
  have e : (addH ⟨k, 0, []⟩ t w).2 = 0 := by rw [hv]
  obtain ⟨b1, b2, b3, b4⟩ := addH_good hg t w e
  obtain ⟨c1, _⟩ := addH_tidy hg (empty_tidy _) t w e
  obtain ⟨_, a2⟩ := addH_let (h := ⟨k, 0, []⟩) (empty_tidy _) ht hw (fun x hx => by cases hx) (by show 0 + w ≤ _; omega)
  have hls : (addH ⟨k, 0, []⟩ t w).1.ls = flowS k.toNat 0 [] (List.replicate w ⟨t, t⟩) := by rw [hv]
  have htot : totN 0 (addH ⟨k, 0, []⟩ t w).1.ls = w := by rw [b4]; show 0 + w = w; omega
  refine ⟨⟨b1, by rw [b2]; exact c1, fun x hx => by have := a2 x hx; omega, by rw [b3]; exact Int.le_refl _, by rw [b2, hls]; exact flowS_most _ _ _ _⟩, htot, b2, b3, ?_⟩
  rw [units_const t _ (fun x hx => ?_), lumps_sum, htot]
  obtain ⟨⟨s, hs, e⟩, _⟩ := lumps_mem _ _ x hx
  rw [hls] at hs
  rw [e]
  refine flowS_at k.toNat t [] 0 _ (fun s hs => by cases hs) (fun s hs => ?_) s hs
  rw [List.eq_of_mem_replicate hs]
theorem maxG_app (l : List Hist) (h : Hist) : maxG (l ++ [h]) = max (maxG l) h.g := by unfold maxG; rw [List.foldl_append]; rfl
/-- In whatever way the same units come. -/
theorem fold_units {k : Int} (h1 : 2 ≤ k) (h2 : k ≤ 1024) {l m : List (Nat × Nat)} (hp : (unitsE l).Perm (unitsE m)) (ho : Ord l) (hm : Ord m) (he : ∀ x ∈ l, x.1 ≤ 9223372036854775807 ∧ 1 ≤ x.2) (he2 : ∀ x ∈ m, x.1 ≤ 9223372036854775807 ∧ 1 ≤ x.2) (ht : sumW l ≤ 4503599627370496) : foldH ⟨k, 0, []⟩ l = foldH ⟨k, 0, []⟩ m := by
  have hs : sumW m = sumW l := by rw [← units_len, ← units_len]; exact hp.length_eq.symm
  have e : unitsE l = unitsE m := by
    refine List.Perm.eq_of_pairwise (le := fun x y : Span => x.a ≤ y.a) (fun a b ha hb h1 h2 => ?_) (unitsE_srt ho) (unitsE_srt hm) hp
    have e1 := unitsE_one a ha
    have e2 := unitsE_one b hb
    cases a; cases b
    simp only at *
    simp only [Span.mk.injEq]
    omega
  rw [(fold_new h1 h2 ho he ht).1, (fold_new h1 h2 hm he2 (by omega)).1, e]
theorem with_one {l : List Hist} {ev : Event} (c : Came l [ev]) :
    (withV [] (l ++ [(addH ⟨(l.headD zeroH).k, 0, []⟩ ev.t ev.w).1])).2 = 0 ∧ withV [] (l ++ [(addH ⟨(l.headD zeroH).k, 0, []⟩ ev.t ev.w).1]) = withV [ev] l ∧ Came (l ++ [(addH ⟨(l.headD zeroH).k, 0, []⟩ ev.t ev.w).1]) [] := by
  have hf := (c.fine _ (head_mem c.ne)).good
  obtain ⟨w1, w2⟩ := c.w ev (by simp)
  have hct := c.tot
  have hs1 : sumE Event.w [ev] = ev.w := by rw [sumE_cons, sumE_nil]; omega
  rw [hs1] at hct
  obtain ⟨o1, o2, o3, o4, o5⟩ := one_fine hf.k0 hf.k1 (t := ev.t) (w := ev.w) w2 w1 (by omega)
  generalize (addH ⟨(l.headD zeroH).k, 0, []⟩ ev.t ev.w).1 = one at *
  have hhd : (l ++ [one]).headD zeroH = l.headD zeroH := by
    cases l with
    | nil => exact absurd rfl c.ne
    | cons x r => rfl
  have hmg : maxG (l ++ [one]) = maxG l := by rw [maxG_app, o4]; have := (maxG_ge l).1; omega
  have hst : sumT (l ++ [one]) = sumT l + ev.w := by unfold sumT; rw [List.map_append, List.sum_append]; simp [o2]
  have c' : Came (l ++ [one]) [] := ⟨by simp, fun h hh => by
      rw [hhd]
      rcases List.mem_append.1 hh with hh | hh
      · exact c.k h hh
      · obtain rfl := List.mem_singleton.1 hh; exact o3, fun h hh => by
      rcases List.mem_append.1 hh with hh | hh
      · exact c.fine h hh
      · obtain rfl := List.mem_singleton.1 hh; exact o1, by rw [hmg]; exact c.g, fun e he => (by cases he), by rw [hst]; show sumT l + ev.w + 0 ≤ _; omega⟩
  have e : withV [] (l ++ [one]) = withV [ev] l := by
    rw [with_val c, with_val c', hhd, hmg]
    obtain ⟨hl, hs⟩ := came_lumps c
    obtain ⟨hl', hs'⟩ := came_lumps c'
    have p1 := sortL_perm (lumpsP l ++ evL [ev])
    have p2 := sortL_perm (lumpsP (l ++ [one]) ++ evL [])
    have e2 : lumpsP (l ++ [one]) ++ evL [] = lumpsP l ++ lumpsA 0 one.ls := by unfold lumpsP; rw [List.flatMap_append]; simp [evL]
    have hu : (unitsE (sortL (lumpsP (l ++ [one]) ++ evL []))).Perm (unitsE (sortL (lumpsP l ++ evL [ev]))) := by
      refine (unitsE_perm p2).trans (List.Perm.trans ?_ (unitsE_perm p1).symm)
      rw [e2, unitsE_app, unitsE_app, o5]
      have : unitsE (evL [ev]) = List.replicate ev.w ⟨ev.t, ev.t⟩ := by
        show List.replicate ev.w (⟨ev.t, ev.t⟩ : Span) ++ [] = _
        rw [List.append_nil]
      rw [this]
    rw [fold_units hf.k0 hf.k1 hu (sortL_ord _) (sortL_ord _) (fun x hx => hl' x (p2.mem_iff.1 hx)) (fun x hx => hl x (p1.mem_iff.1 hx)) (by rw [sumW_perm p2, hs', hst]; show sumT l + ev.w + 0 ≤ _; omega)]
  exact ⟨by rw [e]; exact (with_ok c).1, e, c'⟩
end Go.Sk
end

-- A39
section
namespace Go.Sk

theorem fold_newG {k : Int} (h1 : 2 ≤ k) (h2 : k ≤ 1024) (g : Int) {l : List (Nat × Nat)} (ho : Ord l) (he : ∀ x ∈ l, x.1 ≤ 9223372036854775807 ∧ 1 ≤ x.2) (ht : sumW l ≤ 4503599627370496) :
    foldH ⟨k, g, []⟩ l = ⟨k, g, (foldH ⟨k, 0, []⟩ l).ls⟩ := by
  obtain ⟨a, _, _, _, _, _⟩ := fold_ok l ⟨k, g, []⟩ [] 0 ⟨h1, h2, fun l hl => (by cases hl), fun l hl => (by cases hl), Nat.zero_le _⟩ (flowS_nil _ _).symm (empty_tidy _) (fun x hx => by cases hx) ho (fun x hx => ⟨Nat.zero_le _, he x hx⟩) (by show 0 + _ ≤ _; omega)
  rw [a, (fold_new h1 h2 ho he ht).1]; rfl
theorem foldH_snoc (h : Hist) (l : List (Nat × Nat)) (x : Nat × Nat) : foldH h (l ++ [x]) = (addH (foldH h l) x.1 x.2).1 := by unfold foldH; rw [List.foldl_append]; rfl
theorem Ord.take {l : List (Nat × Nat)} (h : Ord l) (i : Nat) : Ord (l.take i) := List.Pairwise.sublist (List.take_sublist i l) h
theorem sumW_take (l : List (Nat × Nat)) (i : Nat) : sumW (l.take i) ≤ sumW l := by
  have := sumW_app (l.take i) (l.drop i)
  rw [List.take_append_drop] at this; omega
/-- On the way. -/
theorem fold_good {k : Int} (h1 : 2 ≤ k) (h2 : k ≤ 1024) (g : Int) {l : List (Nat × Nat)} (ho : Ord l) (he : ∀ x ∈ l, x.1 ≤ 9223372036854775807 ∧ 1 ≤ x.2) (ht : sumW l ≤ 4503599627370496) : (foldH ⟨k, g, []⟩ l).Good := by
  exact (fold_ok l ⟨k, g, []⟩ [] 0 ⟨h1, h2, fun l hl => (by cases hl), fun l hl => (by cases hl), Nat.zero_le _⟩ (flowS_nil _ _).symm (empty_tidy _) (fun x hx => by cases hx) ho (fun x hx => ⟨Nat.zero_le _, he x hx⟩) (by show 0 + _ ≤ _; omega)).2.1
/-- However lumps were put in turn. -/
theorem with_any {l : List Hist} {evs : List Event} (c : Came l evs) {m : List (Nat × Nat)} (hp : m.Perm (lumpsP l ++ evL evs)) (ho : Ord m) (g : Int) :
    foldH ⟨(l.headD zeroH).k, g, []⟩ m = ⟨(l.headD zeroH).k, g, (withV evs l).1.ls⟩ ∧ ∀ i, (foldH ⟨(l.headD zeroH).k, g, []⟩ (m.take i)).Good := by
  have hf := (c.fine _ (head_mem c.ne)).good
  obtain ⟨hl, hs⟩ := came_lumps c
  have p1 := sortL_perm (lumpsP l ++ evL evs)
  have hm : ∀ x ∈ m, x.1 ≤ 9223372036854775807 ∧ 1 ≤ x.2 := fun x hx => hl x (hp.mem_iff.1 hx)
  have ht : sumW m ≤ 4503599627370496 := by rw [sumW_perm hp, hs]; exact c.tot
  refine ⟨?_, fun i => fold_good hf.k0 hf.k1 g (ho.take i) (fun x hx => hm x (List.mem_of_mem_take hx)) (Nat.le_trans (sumW_take m i) ht)⟩
  rw [fold_newG hf.k0 hf.k1 g ho hm ht, with_val c]
  congr 1
  rw [fold_same hf.k0 hf.k1 (hp.trans p1.symm) ho (sortL_ord _) hm ht]
/-- How it is shaped. -/
theorem full_at {k : Nat} : ∀ (ls : List (List Span)) (i : Nat), Full k i ls → ∀ j (h : j < ls.length), j + 1 < ls.length → mostN k (i + j) ≤ (ls[j]).length + 1 := by
  intro ls
  induction ls with
  | nil => intro i _ j h; cases h
  | cons l r ih =>
    intro i hF j h h2
    cases j with
    | zero => exact hF.1 (by intro e; subst e; simp at h2)
    | succ j =>
      have := ih (i + 1) hF.2 j (by simpa using h) (by simpa using h2)
      rw [show i + (j + 1) = i + 1 + j by omega]; exact this
theorem most_at {k : Nat} : ∀ (ls : List (List Span)) (i : Nat), Most k i ls → ∀ j (h : j < ls.length), (ls[j]).length ≤ mostN k (i + j) := by
  intro ls
  induction ls with
  | nil => intro i _ j h; cases h
  | cons l r ih =>
    intro i hF j h
    cases j with
    | zero => exact hF.1
    | succ j =>
      have := ih (i + 1) hF.2 j (by simpa using h)
      rw [show i + (j + 1) = i + 1 + j by omega]; exact this
theorem len_small {h : Hist} (f : h.Fine) (c : Nat) (ht : totN 0 h.ls + 1 < 2 ^ (c + 1)) : h.ls.length ≤ c := by
  have hl := tot_levels h.ls 0 f.good.ne
  rw [Nat.zero_add, Nat.pow_zero] at hl
  apply Classical.byContradiction
  intro hc
  have : (2 : Nat) ^ (c + 1) ≤ 2 ^ h.ls.length := Nat.pow_le_pow_right (by decide) (by omega)
  omega
/-- Buckets from the highest level down. -/
theorem flat_drop (ls : List (List Span)) : ∀ i, i < ls.length → ∀ h : i < ls.length, flat (ls.drop i) = flat (ls.drop (i + 1)) ++ ls[i] := by
  intro i hi h
  rw [List.drop_eq_getElem_cons h]; rfl
theorem flat_sub (ls : List (List Span)) : ∀ i, ∃ r, flat ls = flat (ls.drop i) ++ r := by
  induction ls with
  | nil => intro i; exact ⟨[], by simp [flat]⟩
  | cons l r ih =>
    intro i
    cases i with
    | zero => exact ⟨[], by simp⟩
    | succ i =>
      obtain ⟨q, hq⟩ := ih i
      exact ⟨q ++ l, by show flat r ++ l = _; rw [hq, List.drop_succ_cons, List.append_assoc]⟩
end Go.Sk
end
