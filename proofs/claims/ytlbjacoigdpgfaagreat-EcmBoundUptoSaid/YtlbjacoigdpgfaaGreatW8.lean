/- Walks: about how much weight came. -/
import Derived.Test.YtlbjacoigdpgfaaGreatR16B
import Derived.Test.YtlbjacoigdpgfaaGreatSkRg
set_option linter.unusedSimpArgs false
set_option linter.unusedVariables false
set_option linter.unusedSectionVars false
namespace Go.Sk
open Go Go.Proofs

/-- Is a tick within? -/
noncomputable def inW (tick span t : Nat) : Bool := decide (tick < span) || decide (sub64 tick span < t)
/-- All buckets, in turn, and their units. -/
def bucksF : Nat → List (List Span) → List (Span × Nat)
  | _, [] => []
  | i, l :: r => l.map (fun s => (s, i)) ++ bucksF (i + 1) r
noncomputable def units (i : Nat) : Nat := m64 (1 * 2 ^ min i 64)
noncomputable def partStep (tick span : Nat) (p : Nat × Nat) (x : Span × Nat) : Nat × Nat :=
  if inW tick span x.1.a = true then (m64 (p.1 + units x.2), p.2) else if inW tick span x.1.b = true then (p.1, m64 (p.2 + units x.2)) else p
noncomputable def partsF (tick span : Nat) (p : Nat × Nat) (l : List (Span × Nat)) : Nat × Nat := l.foldl (partStep tick span) p
noncomputable def partsV (ls : List (List Span)) (tick span : Nat) : Nat × Nat := partsF tick span (0, 0) (bucksF 0 ls)
noncomputable def estV (ls : List (List Span)) (tick span : Nat) : Nat := m64 ((partsV ls tick span).1 + (partsV ls tick span).2 / 2)
theorem partsF_lt (tick span : Nat) (l : List (Span × Nat)) : ∀ p : Nat × Nat, p.1 < 18446744073709551616 → p.2 < 18446744073709551616 → (partsF tick span p l).1 < 18446744073709551616 ∧ (partsF tick span p l).2 < 18446744073709551616 := by
  induction l with
  | nil => intro p h1 h2; exact ⟨h1, h2⟩
  | cons x r ih =>
    intro p h1 h2
    show (partsF tick span (partStep tick span p x) r).1 < _ ∧ _
    refine ih _ ?_ ?_ <;> (unfold partStep; repeat' split) <;> first | assumption | (rw [m64_eq]; exact Nat.mod_lt _ (by decide))
theorem partsV_lt (ls : List (List Span)) (tick span : Nat) : (partsV ls tick span).1 < 18446744073709551616 ∧ (partsV ls tick span).2 < 18446744073709551616 := partsF_lt _ _ _ _ (by decide) (by decide)

theorem ref08_Within (t tick span : Nat) : Pure Tryz.prog 113 [u64 t, u64 tick, u64 span] (bl (inW tick span t)) := fun S => by
  refine callR_of Tryz.func113 rfl rfl (xc_ok (bitB 71) _ _ _ ?_)
  simp only [go_sem]
  by_cases h1 : tick < span
  · simp only [go_sem, h1]
    (refine ⟨S, by (repeat (first | exact Sub.refl _ | refine Sub.setF ?_ (by first | assumption | simp only [*]) | refine Sub.setV ?_ (by first | assumption | simp only [*]))), ?_⟩); simp [inW, h1]
  · simp only [go_sem, h1]
    (refine ⟨S, by (repeat (first | exact Sub.refl _ | refine Sub.setF ?_ (by first | assumption | simp only [*]) | refine Sub.setV ?_ (by first | assumption | simp only [*]))), ?_⟩); simp [inW, h1]

theorem parts_within {S : Store} {b1 b2 : Nat} (t tick span : Nat) (h1 : S (.r b1) = some (.cells [u64 span])) (h2 : S (.r b2) = some (.cells [u64 tick])) :
    CallR Tryz.prog 111 [u64 t, .sp b1 0, .sp b2 0] S (fun r S' => r = bl (inW tick span t) ∧ S' = S) := by
  refine callR_of Tryz.func111 rfl rfl (xc_ok (bitB 23) _ _ _ ?_)
  simp only [go_sem, h1, h2]
  by_cases hc : tick < span
  · simp only [go_sem, h1, h2, hc]
    (refine ⟨S, by (repeat (first | exact Sub.refl _ | refine Sub.setF ?_ (by first | assumption | simp only [*]) | refine Sub.setV ?_ (by first | assumption | simp only [*]))), ?_⟩); simp [inW, hc]
  · simp only [go_sem, h1, h2, hc]
    (refine ⟨S, by (repeat (first | exact Sub.refl _ | refine Sub.setF ?_ (by first | assumption | simp only [*]) | refine Sub.setV ?_ (by first | assumption | simp only [*]))), ?_⟩); simp [inW, hc]

theorem bucks_app : ∀ (ls m : List (List Span)) (i : Nat), bucksF i (ls ++ m) = bucksF i ls ++ bucksF (i + ls.length) m := by
  intro ls
  induction ls with
  | nil => intro m i; simp [bucksF]
  | cons l r ih => intro m i; simp only [List.cons_append, bucksF, ih, List.append_assoc, List.length_cons]; rw [show i + 1 + r.length = i + (r.length + 1) from by omega]
/-- The buckets ahead of the j-th one of level i. -/
theorem bucks_at (ls : List (List Span)) (i : Nat) (hi : i < ls.length) (j : Nat) (hj : j < ls[i].length) :
    bucksF 0 (ls.take i) ++ (ls[i].take (j + 1)).map (fun s => (s, i)) = (bucksF 0 (ls.take i) ++ (ls[i].take j).map (fun s => (s, i))) ++ [(ls[i][j], i)] := by
  rw [List.take_succ_eq_append_getElem hj, List.map_append, List.append_assoc]; rfl
theorem bucks_next (ls : List (List Span)) (i : Nat) (hi : i < ls.length) : bucksF 0 (ls.take (i + 1)) = bucksF 0 (ls.take i) ++ ls[i].map (fun s => (s, i)) := by
  rw [List.take_succ_eq_append_getElem hi, bucks_app]
  simp [bucksF, Nat.min_eq_left (Nat.le_of_lt hi)]
theorem bucks_get (ls : List (List Span)) (i : Nat) (hi : i < ls.length) (j : Nat) (hj : j < ls[i].length) :
    (bucksF 0 (ls.take i)).length + j < (bucksF 0 ls).length ∧ (bucksF 0 ls).getD ((bucksF 0 (ls.take i)).length + j) default = (ls[i][j], i) := by
  have e : bucksF 0 ls = bucksF 0 (ls.take i) ++ (ls[i].map (fun s => (s, i)) ++ bucksF (i + 1) (ls.drop (i + 1))) := by
    have h1 : ls = ls.take i ++ ls[i] :: ls.drop (i + 1) := by rw [← List.drop_eq_getElem_cons hi, List.take_append_drop]
    have h2 := bucks_app (ls.take i) (ls[i] :: ls.drop (i + 1)) 0
    rw [← h1] at h2
    rw [h2]
    simp [bucksF, Nat.min_eq_left (Nat.le_of_lt hi)]
  have hlt : (bucksF 0 (ls.take i)).length + j < (bucksF 0 ls).length := by rw [e]; simp; omega
  refine ⟨hlt, ?_⟩
  rw [List.getD_eq_getElem?_getD, e, List.getElem?_append_right (by omega), Nat.add_sub_cancel_left, List.getElem?_append_left (by simpa using hj)]
  simp [hj]
theorem parts_snoc (tick span : Nat) (p : Nat × Nat) (l : List (Span × Nat)) (x : Span × Nat) : partsF tick span p (l ++ [x]) = partStep tick span (partsF tick span p l) x := by
  unfold partsF; rw [List.foldl_append]; rfl

set_option maxRecDepth 4000 in
theorem ref08_Parts (k g : Int) (ls : List (List Span)) (tick span : Nat) (hn : ls.length < 1099511627776) (hl : ∀ l ∈ ls, l.length < 1099511627776) :
    Pure Tryz.prog 79 [(Hist.mk k g ls).av, u64 tick, u64 span] (.tuple [u64 (partsV ls tick span).1, u64 (partsV ls tick span).2]) := fun S => by
  refine callR_of Tryz.func79 rfl rfl (xc_ok (bitB 2256197994553295) _ _ _ ?_)
  simp only [go_sem]
  refine alloc_intro fun b hb => ?_
  simp only [go_sem]
  refine AWP.iter (fun i => ⟨Env.get [(1, u64 tick), (2, u64 span), (3, .sp b 0), (8, u64 (partsF tick span (0, 0) (bucksF 0 (ls.take i))).1), (9, u64 (partsF tick span (0, 0) (bucksF 0 (ls.take i))).2), (10, i64 i)],
    S.set (.r b) (.cells [i64 k, i64 g, .p (.sl (ls.map lvE))]), 58, []⟩) ls.length ?_ ?_ ?_
  · exact le_of (by simp only [go_sem]; simp [partsF, bucksF]) (Sub.refl _) rfl rfl (by simp)
  · intro i hi ih
    have hll := hl _ (List.getElem_mem hi)
    refine AWPH.step (xc_ok (bitB 2256197994553295) _ _ _ ?_)
    simp only [go_sem, hi, ltN' hi]
    refine AWP.iter (fun j => ⟨Env.get [(1, u64 tick), (2, u64 span), (3, .sp b 0), (8, u64 (partsF tick span (0, 0) (bucksF 0 (ls.take i) ++ (ls[i].take j).map (fun s => (s, i)))).1), (9, u64 (partsF tick span (0, 0) (bucksF 0 (ls.take i) ++ (ls[i].take j).map (fun s => (s, i)))).2), (10, i64 i), (11, i64 j)],
      S.set (.r b) (.cells [i64 k, i64 g, .p (.sl (ls.map lvE))]), 58, []⟩) ls[i].length ?_ ?_ ?_
    · exact le_of (by simp only [go_sem, List.take_zero, List.map_nil, List.append_nil] <;> simp) (Sub.refl _) rfl rfl (by simp)
    · intro j hj jh
      have hsn := bucks_at ls i hi j hj
      refine AWPH.step (xc_ok (bitB 2256197994553295) _ _ _ ?_)
      simp only [go_sem, hi, ltN' hi, getD_map' _ _ _ _ hi, lvE_mk, hj, ltN' hj, getD_map' _ _ _ _ hj]
      refine alloc_intro fun c hc => ?_
      simp only [fresh_set] at hc
      simp only [go_sem, hc]
      refine (ref08_Within _ _ _).useA ?_
      cases h1 : inW tick span ls[i][j].a
      · simp only [go_sem, hc]
        refine (ref08_Within _ _ _).useA ?_
        cases h2 : inW tick span ls[i][j].b
        · simp only [go_sem]
          refine jh.back (by ((try dsimp only); (repeat refine sub_set ?_ ?_) <;> first | ((repeat (first | exact Sub.refl _ | refine Sub.setF ?_ (by first | assumption | simp only [*]) | refine Sub.setV ?_ (by first | assumption | simp only [*]))); done) | (simp only [go_sem, hc]; done) | (simp only [go_sem, hc]; rfl) | rfl)) (by simp) ?_
          simp only [go_sem, hsn, parts_snoc, partStep, h1, h2, Bool.false_eq_true, if_false, wi_succ (show j < 4611686018427387904 by omega)]
        · simp only [go_sem]
          refine jh.back (by ((try dsimp only); (repeat refine sub_set ?_ ?_) <;> first | ((repeat (first | exact Sub.refl _ | refine Sub.setF ?_ (by first | assumption | simp only [*]) | refine Sub.setV ?_ (by first | assumption | simp only [*]))); done) | (simp only [go_sem, hc]; done) | (simp only [go_sem, hc]; rfl) | rfl)) (by simp) ?_
          simp only [go_sem, hsn, parts_snoc, partStep, h1, h2, Bool.false_eq_true, if_false, if_true, wi_succ (show j < 4611686018427387904 by omega)] <;> simp [units]
      · simp only [go_sem, hc]
        refine jh.back (by ((try dsimp only); (repeat refine sub_set ?_ ?_) <;> first | ((repeat (first | exact Sub.refl _ | refine Sub.setF ?_ (by first | assumption | simp only [*]) | refine Sub.setV ?_ (by first | assumption | simp only [*]))); done) | (simp only [go_sem, hc]; done) | (simp only [go_sem, hc]; rfl) | rfl)) (by simp) ?_
        simp only [go_sem, hsn, parts_snoc, partStep, h1, if_true, wi_succ (show j < 4611686018427387904 by omega)] <;> simp [units]
    · refine AWPH.step (xc_ok (bitB 2256197994553295) _ _ _ ?_)
      simp only [go_sem, hi, ltN' hi, getD_map' _ _ _ _ hi, lvE_mk, List.take_length]
      refine ih.back (by (repeat (first | exact Sub.refl _ | refine Sub.setF ?_ (by first | assumption | simp only [*]) | refine Sub.setV ?_ (by first | assumption | simp only [*])))) (by simp) ?_
      simp only [go_sem, bucks_next ls i hi, wi_succ (show i < 4611686018427387904 by omega)]
  · refine AWPH.step (xc_ok (bitB 2256197994553295) _ _ _ ?_)
    simp only [go_sem, List.take_length]
    (refine ⟨S, by (repeat (first | exact Sub.refl _ | refine Sub.setF ?_ (by first | assumption | simp only [*]) | refine Sub.setV ?_ (by first | assumption | simp only [*]))), ?_⟩); simp [partsV]
theorem ref08_Of (k g : Int) (ls : List (List Span)) (tick span : Nat) (hn : ls.length < 1099511627776) (hl : ∀ l ∈ ls, l.length < 1099511627776) :
    Pure Tryz.prog 44 [(Hist.mk k g ls).av, u64 tick, u64 span] (u64 (estV ls tick span)) := fun S => by
  refine callR_of Tryz.func44 rfl rfl (xc_ok (bitB 463) _ _ _ ?_)
  simp only [go_sem]
  refine alloc_intro fun b hb => ?_
  simp only [go_sem]
  refine (ref08_Parts k g ls tick span hn hl).useA ?_
  have e : m64 ((partsV ls tick span).2 / 2) = (partsV ls tick span).2 / 2 := m64_id (by have := (partsV_lt ls tick span).2; omega)
  simp only [go_sem, e]
  (refine ⟨S, by (repeat (first | exact Sub.refl _ | refine Sub.setF ?_ (by first | assumption | simp only [*]) | refine Sub.setV ?_ (by first | assumption | simp only [*]))), ?_⟩); simp [estV]

noncomputable def itemsB (l : List (Span × Nat)) : Nat → List AV := fun k => [(l.getD k default).1.av, u64 (units (l.getD k default).2)]

set_option maxHeartbeats 1000000 in
set_option maxRecDepth 4000 in
theorem est_buckets1 (k g : Int) (ls : List (List Span)) (hn : ls.length < 1099511627776) (hl : ∀ l ∈ ls, l.length < 1099511627776) {T0 : Store} {b : Nat} (h1 : T0 (.r b) = some (.cells [i64 k, i64 g, .p (.sl (ls.map lvE))])) :
    SeqR Tryz.prog 138 [] [.sp b 0] T0 (bucksF 0 ls).length (itemsB (bucksF 0 ls)) := by
  intro l J Jx hy E hd h0
  simp only [List.nil_append, List.singleton_append]
  refine callR_of Tryz.func138 rfl rfl (xc_ok (bitB 67604315) _ _ _ ?_)
  simp only [go_sem, h1]
  refine AWP.roam (ι := Nat × Store) (fun x => x.1 ≤ ls.length ∧ Disj T0 x.2 ∧ J (bucksF 0 (ls.take x.1)).length x.2)
    (fun x => ⟨Env.get [(0, .fn (.yield l) [] []), (1, .sp b 0), (8, .p (.sl (ls.map lvE))), (9, i64 ls.length), (10, i64 x.1)], Store.join x.2 T0, 29, []⟩) (fun x => ls.length - x.1) (0, E) ⟨by simp, hd, h0⟩ ?_ ?_
  · exact le_of (by simp only [go_sem] <;> rfl) (Sub.refl _) rfl rfl (by simp)
  · rintro ⟨i, E⟩ ⟨hi, hd, hJ⟩ ih
    dsimp only at hi hd hJ ⊢
    refine AWPH.step (xc_ok (bitB 67604315) _ _ _ ?_)
    by_cases c : i < ls.length
    rotate_left
    · obtain rfl : i = ls.length := by omega
      rw [List.take_length] at hJ
      simp only [go_sem]
      exact ⟨_, Sub.refl _, Or.inl ⟨E, rfl, hd, Or.inl hJ⟩⟩
    have hll := hl _ (List.getElem_mem c)
    simp only [go_sem, c, ltN' c, getD_map' _ _ _ _ c, lvE_mk]
    refine AWP.roam (ι := Nat × Store) (fun x => x.1 ≤ ls[i].length ∧ Disj T0 x.2 ∧ J ((bucksF 0 (ls.take i)).length + x.1) x.2)
      (fun x => ⟨Env.get [(0, .fn (.yield l) [] []), (1, .sp b 0), (3, i64 i), (8, .p (.sl (ls.map lvE))), (9, i64 ls.length), (10, i64 i), (15, .p (lvP ls[i])), (16, i64 ls[i].length), (17, i64 x.1)], Store.join x.2 T0, 29, []⟩) (fun x => ls[i].length - x.1) (0, E) ⟨by simp, hd, hJ⟩ ?_ ?_
    · exact le_of (by simp only [go_sem, lvP] <;> simp) (Sub.refl _) rfl rfl (by simp)
    · rintro ⟨j, E⟩ ⟨hj, hd, hJ⟩ jh
      dsimp only at hj hd hJ ⊢
      refine AWPH.step (xc_ok (bitB 67604315) _ _ _ ?_)
      by_cases cj : j < ls[i].length
      rotate_left
      · obtain rfl : j = ls[i].length := by omega
        simp only [go_sem, lvP]
        refine (ih (i + 1, E) ⟨c, hd, by rw [bucks_next ls i c]; simpa using hJ⟩ (by dsimp only; omega)).back (Sub.refl _) (by simp) ?_
        simp only [go_sem, wi_succ (show i < 4611686018427387904 by omega)]
      have hget := bucks_get ls i c j cj
      simp only [go_sem, lvP, cj, ltN' cj, getD_map' _ _ _ _ cj]
      refine alloc_intro fun d hfd => ?_
      have hfd' := join_none hfd
      simp only [go_sem]
      rw [join_set]
      have hyi := hy _ hget.1 E (T0.set (.r d) (.cells [u64 (ls[i][j]).a, u64 (ls[i][j]).b])) ((Sub.refl T0).set hfd'.2 _) (hd.setT hfd'.1 _) hJ
      simp only [itemsB, hget.2] at hyi
      have hjs : wi ((j : Int) + 1) = ((j + 1 : Nat) : Int) := wi_succ (show j < 4611686018427387904 by omega)
      refine AWP.orders (bitB 67604315) mixed [[0,1,2,3,4,5],[0,2,1,3,4,5],[0,2,3,1,4,5],[1,0,2,3,4,5],[1,2,0,3,4,5],[1,2,3,0,4,5],[2,0,1,3,4,5],[2,0,3,1,4,5],[2,1,0,3,4,5],[2,1,3,0,4,5],[2,3,0,1,4,5],[2,3,1,0,4,5]] (by kernel_rfl) ?_
      simp only [List.forall_mem_cons, List.not_mem_nil, false_implies, implies_true, and_true, opsAt, List.getElem?_cons_zero, List.getElem?_cons_succ]
      refine ⟨?_, ?_, ?_, ?_, ?_, ?_, ?_, ?_, ?_, ?_, ?_, ?_⟩
      all_goals
        simp only [go_sem]
        refine hyi.useA rfl ?_
        rintro r S' ⟨E', rfl, hd2, ⟨rfl, hJ2⟩ | ⟨rfl, hJ2⟩⟩
        · obtain ⟨hd3, hed⟩ := hd2.unsetT hfd'.2
          simp only [go_sem]
          refine (jh (j + 1, E') ⟨cj, hd3, by rw [← Nat.add_assoc]; exact hJ2⟩ (by dsimp only; omega)).back (sub_join_set hfd'.2 hed) (by simp) ?_
          simp only [go_sem, hjs, lvP]
        · obtain ⟨hd3, hed⟩ := hd2.unsetT hfd'.2
          simp only [go_sem]
          exact ⟨_, sub_join_set hfd'.2 hed, Or.inl ⟨E', rfl, hd3, Or.inr hJ2⟩⟩

theorem est_buckets (k g : Int) (ls : List (List Span)) (S : Store) : CallR Tryz.prog 112 [(Hist.mk k g ls).av] S
    (fun r S' => ∃ b, Fresh S b ∧ r = .fn (.func 138) [] [.sp b 0] ∧ S' = S.set (.r b) (.cells [i64 k, i64 g, .p (.sl (ls.map lvE))])) := by
  refine callR_of Tryz.func112 rfl rfl (xc_ok (bitB 7) _ _ _ ?_)
  simp only [go_sem]
  refine alloc_intro fun b hb => ?_
  simp only [go_sem]
  exact ⟨_, Sub.refl _, Or.inl ⟨b, hb, rfl, rfl⟩⟩

set_option maxHeartbeats 1000000 in
set_option maxRecDepth 4000 in
theorem est_Parts (k g : Int) (ls : List (List Span)) (tick span : Nat) (hn : ls.length < 1099511627776) (hl : ∀ l ∈ ls, l.length < 1099511627776) :
    Pure Tryz.prog 78 [(Hist.mk k g ls).av, u64 tick, u64 span] (.tuple [u64 (partsV ls tick span).1, u64 (partsV ls tick span).2]) := fun S => by
  refine callR_of Tryz.func78 rfl rfl (xc_ok (bitB 67608575) _ _ _ ?_)
  simp only [go_sem]
  refine alloc_intro fun c3 h3 => ?_
  simp only [go_sem]
  refine alloc_intro fun c4 h4 => ?_
  simp only [fresh_set] at h4
  simp only [go_sem, h4]
  refine alloc_intro fun c5 h5 => ?_
  simp only [fresh_set] at h5
  simp only [go_sem, h4, h5]
  refine alloc_intro fun c8 h8 => ?_
  simp only [fresh_set] at h8
  simp only [go_sem, h4, h5, h8]
  refine alloc_intro fun c9 h9 => ?_
  simp only [fresh_set] at h9
  simp only [go_sem, h4, h5, h8, h9]
  refine alloc_intro fun c10 h10 => ?_
  simp only [fresh_set] at h10
  simp only [go_sem, h4, h5, h8, h9, h10]
  refine (est_buckets k g ls _).useA ?_
  rintro _ _ ⟨b, hb, rfl, rfl⟩
  simp only [fresh_set] at hb
  simp only [go_sem, h4, h5, h8, h9, h10, hb]
  obtain ⟨L, hL⟩ : ∃ L, bucksF 0 ls = L := ⟨_, rfl⟩
  have hseq := est_buckets1 k g ls hn hl (T0 := eS.set (.r b) (.cells [i64 k, i64 g, .p (.sl (ls.map lvE))])) (b := b) (by simp only [go_sem])
  have hpv : partsV ls tick span = partsF tick span (0, 0) L := by unfold partsV; rw [hL]
  rw [hL] at hseq
  rw [hpv]
  have g4 : S (.r c4) = none := h4.2
  have g5 : S (.r c5) = none := h5.2.2
  have g8 : S (.r c8) = none := h8.2.2.2
  have g9 : S (.r c9) = none := h9.2.2.2.2
  have g10 : S (.r c10) = none := h10.2.2.2.2.2
  have gb : S (.r b) = none := hb.2.2.2.2.2.2.2.2
  refine AWP.rangeE (ι := Unit) (f := 138) (first := []) (caps := [.sp b 0]) (by simp only [go_sem]) _
    (fun j _ => ((((S.set (.r c4) (.cells [u64 tick])).set (.r c5) (.cells [u64 span])).set (.r c8) (.cells [.fn (.func 111) [] [.sp c5 0, .sp c4 0]])).set (.r c9) (.cells [u64 (partsF tick span (0, 0) (L.take j)).1])).set (.r c10) (.cells [u64 (partsF tick span (0, 0) (L.take j)).2])) ()
    ?_ ?_ hseq (enterable_of Tryz.func138 rfl rfl) (fun _ _ => False) (fun _ _ => rfl) (by simp) ?_ ?_ ?_
  · refine sub_joinT (sub_join0 ?_) ?_ ?_
    · ((try dsimp only); (repeat refine sub_set ?_ ?_) <;> first | ((repeat (first | exact Sub.refl _ | refine Sub.setF ?_ (by first | assumption | simp only [*]) | refine Sub.setV ?_ (by first | assumption | simp only [*]))); done) | (simp only [go_sem, h4, h5, h8, h9, h10, hb, List.take_zero, partsF, List.foldl_nil]; done) | (simp only [go_sem, h4, h5, h8, h9, h10, hb, List.take_zero, partsF, List.foldl_nil]; rfl) | rfl)
    all_goals simp only [go_sem, h4, h5, h8, h9, h10, hb, gb]
  · refine (Disj.nil _).setT ?_ _
    simp only [go_sem, h4, h5, h8, h9, h10, hb, gb]
  · intro j _ l hj T hT hdT
    refine xc_ok (bitB 67608575) _ _ _ ?_
    simp only [go_sem, itemsB]
    refine alloc_intro fun e he => ?_
    have hje := join_none he
    obtain ⟨x, hx⟩ : ∃ x, L.getD j default = x := ⟨_, rfl⟩
    have hsn : partsF tick span (0, 0) (L.take (j + 1)) = partStep tick span (partsF tick span (0, 0) (L.take j)) x := by
      rw [List.take_succ_eq_append_getElem hj, parts_snoc, ← hx]; simp [List.getD_eq_getElem?_getD, hj]
    simp only [hx]
    simp only [go_sem]
    refine ⟨_, by rw [join_set]; exact Sub.refl _, hdT.set hje.1 _, fun T' hT' hdT' => ?_⟩
    refine xc_ok (bitB 67608575) _ _ _ ?_
    have n4 : ¬ c4 = e ∧ ¬ e = c4 := by constructor <;> rintro rfl <;> simp [Store.set, h5, h8, h9, h10] at hje
    have n5 : ¬ c5 = e ∧ ¬ e = c5 := by constructor <;> rintro rfl <;> simp [Store.set, h8, h9, h10] at hje
    have n8 : ¬ c8 = e ∧ ¬ e = c8 := by constructor <;> rintro rfl <;> simp [Store.set, h9, h10] at hje
    have n9 : ¬ c9 = e ∧ ¬ e = c9 := by constructor <;> rintro rfl <;> simp [Store.set, h10] at hje
    have n10 : ¬ c10 = e ∧ ¬ e = c10 := by constructor <;> rintro rfl <;> simp [Store.set] at hje
    have ge : S (.r e) = none := by have := hje.2; simpa [Store.set, n4, n5, n8, n9, n10] using this
    simp only [go_sem, h4, h5, h8, h9, h10, n4, n5, n8, n9, n10]
    refine (parts_within x.1.a tick span ?_ ?_).useA ?_
    · simp only [go_sem, h4, h5, h8, h9, h10, n4, n5, n8, n9, n10]
    · simp only [go_sem, h4, h5, h8, h9, h10, n4, n5, n8, n9, n10]
    rintro _ _ ⟨rfl, rfl⟩
    cases q1 : inW tick span x.1.a
    · simp only [go_sem, h4, h5, h8, h9, h10, n4, n5, n8, n9, n10]
      refine (parts_within x.1.b tick span ?_ ?_).useA ?_
      · simp only [go_sem, h4, h5, h8, h9, h10, n4, n5, n8, n9, n10]
      · simp only [go_sem, h4, h5, h8, h9, h10, n4, n5, n8, n9, n10]
      rintro _ _ ⟨rfl, rfl⟩
      cases q2 : inW tick span x.1.b
      · simp only [go_sem, h4, h5, h8, h9, h10, n4, n5, n8, n9, n10]
        have hps : partsF tick span (0, 0) (L.take (j + 1)) = partsF tick span (0, 0) (L.take j) := by rw [hsn]; simp [partStep, q1, q2]
        simp only [hps]
        refine ⟨(), ?_, ?_⟩
        · refine Sub.joinD ?_ hdT'
          ((try dsimp only); (repeat refine sub_set ?_ ?_) <;> first | ((repeat (first | exact Sub.refl _ | refine Sub.setF ?_ (by first | assumption | simp only [*]) | refine Sub.setV ?_ (by first | assumption | simp only [*]))); done) | (simp only [go_sem, h4, h5, h8, h9, h10, n4, n5, n8, n9, n10, g4, g5, g8, g9, g10]; done) | (simp only [go_sem, h4, h5, h8, h9, h10, n4, n5, n8, n9, n10, g4, g5, g8, g9, g10]; rfl) | rfl)
        · (intro q; refine (hdT' q).elim (fun e => Or.inl ?_) (fun e => Or.inr e); simp only [set_none_iff] at e ⊢; simp only [e, not_false_eq_true, and_self])
      · simp only [go_sem, h4, h5, h8, h9, h10, n4, n5, n8, n9, n10]
        have hps : partsF tick span (0, 0) (L.take (j + 1)) = ((partsF tick span (0, 0) (L.take j)).1, m64 ((partsF tick span (0, 0) (L.take j)).2 + units x.2)) := by rw [hsn]; simp [partStep, q1, q2]
        simp only [hps]
        refine ⟨(), ?_, ?_⟩
        · rw [join_set]
          refine Sub.joinD ?_ (hdT'.setE (y := .cells [u64 (partsF tick span (0, 0) (L.take j)).2]) (by simp only [go_sem, h4, h5, h8, h9, h10, n4, n5, n8, n9, n10]) _)
          ((try dsimp only); (repeat refine sub_set ?_ ?_) <;> first | ((repeat (first | exact Sub.refl _ | refine Sub.setF ?_ (by first | assumption | simp only [*]) | refine Sub.setV ?_ (by first | assumption | simp only [*]))); done) | (simp only [go_sem, h4, h5, h8, h9, h10, n4, n5, n8, n9, n10, g4, g5, g8, g9, g10]; done) | (simp only [go_sem, h4, h5, h8, h9, h10, n4, n5, n8, n9, n10, g4, g5, g8, g9, g10]; rfl) | rfl)
        · (intro q; refine (hdT' q).elim (fun e => Or.inl ?_) (fun e => Or.inr e); simp only [set_none_iff] at e ⊢; simp only [e, not_false_eq_true, and_self])
    · simp only [go_sem, h4, h5, h8, h9, h10, n4, n5, n8, n9, n10]
      have hps : partsF tick span (0, 0) (L.take (j + 1)) = (m64 ((partsF tick span (0, 0) (L.take j)).1 + units x.2), (partsF tick span (0, 0) (L.take j)).2) := by rw [hsn]; simp [partStep, q1]
      simp only [hps]
      refine ⟨(), ?_, ?_⟩
      · rw [join_set]
        refine Sub.joinD ?_ (hdT'.setE (y := .cells [u64 (partsF tick span (0, 0) (L.take j)).1]) (by simp only [go_sem, h4, h5, h8, h9, h10, n4, n5, n8, n9, n10]) _)
        ((try dsimp only); (repeat refine sub_set ?_ ?_) <;> first | ((repeat (first | exact Sub.refl _ | refine Sub.setF ?_ (by first | assumption | simp only [*]) | refine Sub.setV ?_ (by first | assumption | simp only [*]))); done) | (simp only [go_sem, h4, h5, h8, h9, h10, n4, n5, n8, n9, n10, g4, g5, g8, g9, g10]; done) | (simp only [go_sem, h4, h5, h8, h9, h10, n4, n5, n8, n9, n10, g4, g5, g8, g9, g10]; rfl) | rfl)
      · (intro q; refine (hdT' q).elim (fun e => Or.inl ?_) (fun e => Or.inr e); simp only [set_none_iff] at e ⊢; simp only [e, not_false_eq_true, and_self])
  · intro _ d hd
    have hjd := join_none hd
    have n9 : ¬ c9 = d ∧ ¬ d = c9 := by constructor <;> rintro rfl <;> simp [Store.set, h10] at hjd
    have n10 : ¬ c10 = d ∧ ¬ d = c10 := by constructor <;> rintro rfl <;> simp [Store.set] at hjd
    simp only [go_sem, List.take_length, h4, h5, h8, h9, h10, n9, n10]
    refine AWP.draw2 (bitB 67608575) mixed (by kernel_rfl) (fun i => bl false) ?_
    simp only [go_sem, h4, h5, h8, h9, h10, n9, n10]
    have n4 : ¬ c4 = d ∧ ¬ d = c4 := by constructor <;> rintro rfl <;> simp [Store.set, h5, h8, h9, h10] at hjd
    have n5 : ¬ c5 = d ∧ ¬ d = c5 := by constructor <;> rintro rfl <;> simp [Store.set, h8, h9, h10] at hjd
    have n8 : ¬ c8 = d ∧ ¬ d = c8 := by constructor <;> rintro rfl <;> simp [Store.set, h9, h10] at hjd
    have gd : S (.r d) = none := by have := hjd.2; simpa [Store.set, n4, n5, n8, n9, n10] using this
    refine ⟨S, Sub.set (Sub.joinL ?_) gd _, fun r hr => hr ▸ gd, by simp⟩
    (repeat (first | exact Sub.refl _ | refine Sub.setF ?_ (by first | assumption | simp only [*]) | refine Sub.setV ?_ (by first | assumption | simp only [*])))
  · intro e E' d _ h; exact h.elim

theorem est_Of (k g : Int) (ls : List (List Span)) (tick span : Nat) (hn : ls.length < 1099511627776) (hl : ∀ l ∈ ls, l.length < 1099511627776) :
    Pure Tryz.prog 42 [(Hist.mk k g ls).av, u64 tick, u64 span] (u64 (estV ls tick span)) := fun S => by
  refine callR_of Tryz.func42 rfl rfl (xc_ok (bitB 463) _ _ _ ?_)
  simp only [go_sem]
  refine alloc_intro fun b hb => ?_
  simp only [go_sem]
  refine (est_Parts k g ls tick span hn hl).useA ?_
  simp only [go_sem]
  (refine ⟨S, by (repeat (first | exact Sub.refl _ | refine Sub.setF ?_ (by first | assumption | simp only [*]) | refine Sub.setV ?_ (by first | assumption | simp only [*]))), ?_⟩); simp [estV]
end Go.Sk
