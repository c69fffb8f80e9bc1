/- Walk: grid.Add. -/
import Derived.Test.YtjiechgnlcpllaaW15f
set_option linter.unusedSimpArgs false
set_option linter.unusedVariables false
set_option linter.unusedSectionVars false
namespace Go.Sk
open Go Go.Proofs

set_option maxHeartbeats 1000000 in
theorem grid_Add0 (g : Grid) (e : Event) (hg : g.Ok) (hk : e.k < 18446744073709551616) (hw : e.w < 18446744073709551616) (S : Store) : CallR Try.prog 15 [g.av, e.av] S
    (fun r S' => (r = .tuple [zeroG.av, i64 (addG g e).2] ∧ ¬ (addG g e).2 = 0 ∧ addG g e = (zeroG, (addG g e).2) ∧ Sub S S') ∨ ∃ bo rb, (addG g e).2 = 0 ∧ r = .tuple [.agg (gridM (addG g e).1 bo rb.length), i64 0] ∧ Rows S bo g.w.toNat rb (addG g e).1.rows 0 S') := by
  refine callR_of Try.func15 rfl rfl (xc_ok (bitB 562953979957759) _ _ _ ?_)
  simp only [go_sem, decide_true, decide_false, Nat.lt_irrefl]
  refine alloc_intro fun c2 h2 => ?_
  simp only [go_sem, decide_true, decide_false, Nat.lt_irrefl]
  refine alloc_intro fun c3 h3 => ?_
  simp only [fresh_set] at h3
  simp only [go_sem, decide_true, decide_false, Nat.lt_irrefl, h3]
  refine alloc_intro fun c4 h4 => ?_
  simp only [fresh_set] at h4
  simp only [go_sem, decide_true, decide_false, Nat.lt_irrefl, h3, h4]
  refine (hash_Key e.k).useA ?_
  by_cases ck : e.k < 2305843009213693951
  rotate_left
  · simp only [go_sem, decide_true, decide_false, Nat.lt_irrefl, ck, Bool.not_false, h4]
    have ha : addG g e = (zeroG, 7) := by unfold addG; rw [if_neg ck]
    refine ⟨S, by (repeat (first | exact Sub.refl _ | refine Sub.setF ?_ (by first | assumption | exact And.right (by assumption) | exact And.right (And.right (by assumption)) | exact And.right (And.right (And.right (by assumption))) | exact And.right (And.right (And.right (And.right (by assumption)))) | exact And.right (And.right (And.right (And.right (And.right (by assumption))))) | exact And.right (And.right (And.right (And.right (And.right (And.right (by assumption)))))) | exact And.right (And.right (And.right (And.right (And.right (And.right (And.right (by assumption))))))) | exact And.right (And.right (And.right (And.right (And.right (And.right (And.right (And.right (by assumption)))))))) | exact And.right (And.right (And.right (And.right (And.right (And.right (And.right (And.right (And.right (by assumption)))))))))) | refine Sub.setV ?_ (by first | assumption | exact And.right (by assumption) | exact And.right (And.right (by assumption)) | exact And.right (And.right (And.right (by assumption))) | exact And.right (And.right (And.right (And.right (by assumption)))) | exact And.right (And.right (And.right (And.right (And.right (by assumption))))) | exact And.right (And.right (And.right (And.right (And.right (And.right (by assumption)))))) | exact And.right (And.right (And.right (And.right (And.right (And.right (And.right (by assumption))))))) | exact And.right (And.right (And.right (And.right (And.right (And.right (And.right (And.right (by assumption)))))))) | exact And.right (And.right (And.right (And.right (And.right (And.right (And.right (And.right (And.right (by assumption)))))))))))), Or.inl (Or.inl ⟨?_, ?_, ?_, Sub.refl _⟩)⟩ <;> rw [ha]
    · simp [zeroG, zeroH]
    · decide
  simp only [go_sem, decide_true, decide_false, Nat.lt_irrefl, ck, Bool.not_true, h3, h4]
  have hwt : ((g.w.toNat : Nat) : Int) = g.w := by have := hg.w1; clear h3 h4; omega
  have hwt1 : 1 ≤ g.w.toNat := by have := hg.w1; clear h3 h4; omega
  have hwt2 : g.w.toNat < 1048576 := by have := hg.w2; clear h3 h4; omega
  have hnn := hg.n
  have hsdn := hg.sd
  refine (copied g g.w.toNat hwt1 hwt2 hnn (by clear h3 h4; omega) hg.wid _).useA ?_
  rintro _ U ⟨bo, rb, rfl, hR⟩
  have k2 := hR.sub (.r c2) (.cells [i64 g.w, .p (.sl (g.sd.map Seed.pv)), .p (.sl (g.rows.map rowE)), i64 g.all.k, i64 g.all.g, .p (.sl (g.all.ls.map lvE))]) (by simp only [go_sem, decide_true, decide_false, Nat.lt_irrefl, h3, h4])
  have k3 := hR.sub (.r c3) (.cells [u64 e.t, u64 e.k, u64 e.w]) (by simp only [go_sem, decide_true, decide_false, Nat.lt_irrefl, h3, h4])
  have k4 := hR.sub (.r c4) (.cells [i64 0, .nils, .nils, i64 0, i64 0, .nils]) (by simp only [go_sem, decide_true, decide_false, Nat.lt_irrefl, h3, h4])
  have n32 : ¬ c3 = c2 ∧ ¬ c2 = c3 := h3.1
  have n43 : ¬ c4 = c3 ∧ ¬ c3 = c4 := h4.1
  have n42 : ¬ c4 = c2 ∧ ¬ c2 = c4 := h4.2.1
  have gs : ∀ i, i < rb.length → ∃ h : i < g.rows.length, True := fun i h => ⟨by rw [← hR.len]; exact h, trivial⟩
  simp only [go_sem, decide_true, decide_false, Nat.lt_irrefl, k2, k3, k4, n32, n43, n42, gridM]
  refine alloc_intro fun c18 h18 => ?_
  simp only [fresh_set] at h18
  have n2 : ¬ c18 = c2 ∧ ¬ c2 = c18 := h18.1
  have u18 : U (.r c18) = none := h18.2
  have n3 : ¬ c18 = c3 ∧ ¬ c3 = c18 := by constructor <;> rintro rfl <;> (rw [u18] at k3; cases k3)
  have n4 : ¬ c18 = c4 ∧ ¬ c4 = c18 := by constructor <;> rintro rfl <;> (rw [u18] at k4; cases k4)
  simp only [go_sem, decide_true, decide_false, Nat.lt_irrefl, k2, k3, k4, n32, n43, n42, n2, n3, n4]
  refine (change_to c18 c2 3 e.t e.k e.w 0 [i64 g.w, .p (.sl (g.sd.map Seed.pv)), .ms bo 1 0 g.rows.length g.rows.length, i64 g.all.k, i64 g.all.g, .p (.sl (g.all.ls.map lvE))] g.all _ (by simp only [go_sem, decide_true, decide_false, Nat.lt_irrefl, n2]) (by simp only [go_sem, decide_true, decide_false, Nat.lt_irrefl, n2]) ⟨n2.2, n2.1⟩ rfl (by simp) hg.all hw).useA ?_
  rintro _ V ⟨hV0, _⟩
  have hV := hV0 rfl
  clear ‹¬ (0 : Int) = 0 → _›
  have y2 : S (.r c2) = none := h2
  have y3 : S (.r c3) = none := h3.2
  have y4 : S (.r c4) = none := h4.2.2
  have z18 : S (.r c18) = none := none_of_sub ((Sub.set (Sub.set (Sub.set (Sub.refl _) y2 _) y3 _) y4 _).trans hR.sub) u18
  have T0 : ∃ T, T (.r c2) = some (.cells [i64 g.w, .p (.sl (g.sd.map Seed.pv)), .ms bo 1 0 g.rows.length g.rows.length, i64 (addH g.all e.t e.w).1.k, i64 (addH g.all e.t e.w).1.g, .p (.sl ((addH g.all e.t e.w).1.ls.map lvE))]) ∧
      T (.r c3) = some (.cells [u64 e.t, u64 e.k, u64 e.w]) ∧ T (.r c4) = some (.cells [i64 0, .nils, .nils, i64 0, i64 0, .nils]) ∧
      T (.r c18) = some (.cells [u64 e.t, u64 e.k, u64 e.w, i64 (addH g.all e.t e.w).2]) ∧ Sub S T ∧ Rows T bo g.w.toNat rb g.rows 0 V := by
    have hRT := (((hR.known (q := .r c2) (y := .cells [i64 g.w, .p (.sl (g.sd.map Seed.pv)), .p (.sl (g.rows.map rowE)), i64 g.all.k, i64 g.all.g, .p (.sl (g.all.ls.map lvE))]) (by simp only [go_sem, decide_true, decide_false, Nat.lt_irrefl, n42, n32]) (.cells [i64 g.w, .p (.sl (g.sd.map Seed.pv)), .ms bo 1 0 g.rows.length g.rows.length, i64 g.all.k, i64 g.all.g, .p (.sl (g.all.ls.map lvE))])).fresh (q := .r c18) (by simp only [go_sem, decide_true, decide_false, Nat.lt_irrefl, n2]; exact u18) (.cells [u64 e.t, u64 e.k, u64 e.w, i64 0])).known (q := .r c2)
      (y := .cells [i64 g.w, .p (.sl (g.sd.map Seed.pv)), .ms bo 1 0 g.rows.length g.rows.length, i64 g.all.k, i64 g.all.g, .p (.sl (g.all.ls.map lvE))]) (by simp only [go_sem, decide_true, decide_false, Nat.lt_irrefl, n2]) (.cells (splice [i64 g.w, .p (.sl (g.sd.map Seed.pv)), .ms bo 1 0 g.rows.length g.rows.length, i64 g.all.k, i64 g.all.g, .p (.sl (g.all.ls.map lvE))] 3 ((addH g.all e.t e.w).1.cs.map .p)))).known (q := .r c18)
      (y := .cells [u64 e.t, u64 e.k, u64 e.w, i64 0]) (by simp only [go_sem, decide_true, decide_false, Nat.lt_irrefl, n2]) (.cells [u64 e.t, u64 e.k, u64 e.w, i64 (addH g.all e.t e.w).2])
    rw [← hV] at hRT
    refine ⟨_, ?_, ?_, ?_, ?_, ?_, hRT⟩
    · simp only [go_sem, decide_true, decide_false, Nat.lt_irrefl, n2] <;> rfl
    · simp only [go_sem, decide_true, decide_false, Nat.lt_irrefl, n2, n3, n32, n43]
    · simp only [go_sem, decide_true, decide_false, Nat.lt_irrefl, n2, n3, n4, n32, n43, n42]
    · simp only [go_sem, decide_true, decide_false, Nat.lt_irrefl]
    · have z2 : S (.r c2) = none := h2
      have z3 : S (.r c3) = none := h3.2
      have z4 : S (.r c4) = none := h4.2.2
      exact Sub.set (Sub.set (Sub.set (Sub.set (Sub.set (Sub.set (Sub.set (Sub.refl _) z2 _) z3 _) z4 _) z2 _) z18 _) z2 _) z18 _
  obtain ⟨T, t2, t3, t4, t18, tS, hR2⟩ := T0
  clear hV hV0 hR k2 k3 k4
  have v2 := hR2.sub _ _ t2
  have v3 := hR2.sub _ _ t3
  have v4 := hR2.sub _ _ t4
  have v18 := hR2.sub _ _ t18
  simp only [go_sem, decide_true, decide_false, Nat.lt_irrefl, v2, v3]
  refine (hash_Columns g.sd e.k g.w (by clear h3 h4 h18 n2 n3 n4 n32 n43 n42; omega) hg.so hk (by have := hg.w2; clear h3 h4 h18 n2 n3 n4 n32 n43 n42; omega)).useA ?_
  have hcl : (colsL g.sd e.k g.w).length = g.rows.length := by rw [← hsdn]; simp [colsL]
  simp only [go_sem, decide_true, decide_false, Nat.lt_irrefl, List.length_map, hcl]
  refine AWP.roam (ι := Nat × Store) (fun y => y.1 ≤ g.rows.length ∧ ∃ T, T (.r c2) = some (.cells [i64 g.w, .p (.sl (g.sd.map Seed.pv)), .ms bo 1 0 g.rows.length g.rows.length, i64 (addH g.all e.t e.w).1.k, i64 (addH g.all e.t e.w).1.g, .p (.sl ((addH g.all e.t e.w).1.ls.map lvE))]) ∧
      T (.r c4) = some (.cells [i64 0, .nils, .nils, i64 0, i64 0, .nils]) ∧
      T (.r c18) = some (.cells [u64 e.t, u64 e.k, u64 e.w, i64 (rowsV g e y.1).2]) ∧ Sub S T ∧ Rows T bo g.w.toNat rb (rowsV g e y.1).1 0 y.2)
    (fun y => ⟨Env.get [(2, .sp c2 0), (4, .sp c4 0), (6, .sp c18 0), (28, .p (.sl ((colsL g.sd e.k g.w).map colE))), (29, i64 g.rows.length), (30, i64 y.1)], y.2, 56, []⟩) (fun y => g.rows.length - y.1) (0, V) ⟨Nat.zero_le _, T, t2, t4, t18, tS, hR2⟩ ?_ ?_
  · exact le_of (by simp only [go_sem, decide_true, decide_false, Nat.lt_irrefl] <;> rfl) (Sub.refl _) rfl rfl (by simp)
  clear hR2 v2 v3 v4 v18 t2 t3 t4 t18 tS T V
  rintro ⟨i, V⟩ ⟨hi, T, t2, t4, t18, tS, hR⟩ ih
  dsimp only at hi t2 t4 t18 tS hR ⊢
  have v2 := hR.sub _ _ t2
  have v4 := hR.sub _ _ t4
  have v18 := hR.sub _ _ t18
  have hrl : rb.length = g.rows.length := by rw [hR.len, rowsV_len]
  refine AWPH.step (xc_ok (bitB 562953979957759) _ _ _ ?_)
  by_cases c : i < g.rows.length
  rotate_left
  · obtain rfl : i = g.rows.length := by clear h3 h4 h18 n2 n3 n4 n32 n43 n42; omega
    simp only [go_sem, decide_true, decide_false, Nat.lt_irrefl, v2, v18]
    by_cases er : (rowsV g e g.rows.length).2 = 0
    · have eb : ((rowsV g e g.rows.length).2 != 0) = false := by simpa using er
      have ha : addG g e = (⟨g.w, g.sd, (rowsV g e g.rows.length).1, (addH g.all e.t e.w).1⟩, 0) := by unfold addG; rw [if_pos ck, if_pos er]
      simp only [go_sem, decide_true, decide_false, Nat.lt_irrefl, eb, v2, v4]
      have z4 : S (.r c4) = none := h4.2.2
      refine ⟨_, Sub.refl _, Or.inl (Or.inr ⟨bo, rb, by rw [ha], by rw [ha, hrl], ?_⟩)⟩
      rw [ha]; exact (hR.known t4 _).base (Sub.set tS z4 _)
    · have eb : ((rowsV g e g.rows.length).2 != 0) = true := by simpa using er
      have ha : addG g e = (zeroG, (rowsV g e g.rows.length).2) := by unfold addG; rw [if_pos ck, if_neg er]
      simp only [go_sem, decide_true, decide_false, Nat.lt_irrefl, eb]
      refine AWP.orders (bitB 562953979957759) mixed [[0,1,2,3,4,5,6],[0,1,2,3,5,4,6],[0,1,2,5,3,4,6],[0,1,5,2,3,4,6],[0,5,1,2,3,4,6],[1,0,2,3,4,5,6],[1,0,2,3,5,4,6],[1,0,2,5,3,4,6],[1,0,5,2,3,4,6],[1,2,0,3,4,5,6],[1,2,0,3,5,4,6],[1,2,0,5,3,4,6],[1,2,3,0,4,5,6],[1,2,3,0,5,4,6],[1,2,3,4,0,5,6]] (by kernel_rfl) ?_
      have z4 : S (.r c4) = none := h4.2.2
      simp only [List.forall_mem_cons, List.not_mem_nil, false_implies, implies_true, and_true, opsAt, List.getElem?_cons_zero, List.getElem?_cons_succ]
      refine ⟨?_, ?_, ?_, ?_, ?_, ?_, ?_, ?_, ?_, ?_, ?_, ?_, ?_, ?_, ?_⟩
      all_goals
        simp only [go_sem, decide_true, decide_false, Nat.lt_irrefl, v2, v4, v18, n4]
        refine ⟨_, Sub.refl _, Or.inl (Or.inl ⟨?_, ?_, ?_, Sub.set (tS.trans hR.sub) z4 _⟩)⟩ <;> rw [ha]
        · simp [zeroG, zeroH]
        · exact er
  have hci : (colsL g.sd e.k g.w)[i]'(by rw [hcl]; exact c) = ((colN g e.k i : Nat) : Int) := by
    have hcs : i < g.sd.length := by rw [hsdn]; exact c
    unfold colN
    simp only [colsL, List.getElem_map]
    rw [show g.sd.getD i default = g.sd[i] by simp [List.getD_eq_getElem?_getD, hcs], Int.toNat_of_nonneg (colV_nn _ _ _)]
  have hcb : colN g e.k i < g.w.toNat := colN_lt g hg.w1 e.k i
  have hir : i < rb.length := by rw [hrl]; exact c
  have vo := hR.outer
  obtain ⟨vr, _, vne, vcap⟩ := hR.row i hir
  have hget : (List.map (rowM g.w.toNat) rb ++ zcs [AV.nils] 0).getD (i * 1) .top = .ms (rb[i]).1 3 0 g.w.toNat (rb[i]).2 := by
    rw [Nat.mul_one]; simp [List.getD_eq_getElem?_getD, List.getElem?_append_left, hir, rowM]
  simp only [go_sem, decide_true, decide_false, Nat.lt_irrefl, c, ltN' c, getD_map' _ _ _ _ (show i < (colsL g.sd e.k g.w).length by rw [hcl]; exact c), colE, hci, v2, vo, hget]
  have hri : (rowsV g e i).1.getD i [] = g.rows[i] := by rw [rowsV_later g e i i (Nat.le_refl _)]; simp [List.getD_eq_getElem?_getD, c]
  have hrw : g.rows[i].length = g.w.toNat := hg.wid _ (List.getElem_mem c)
  have hcr : colN g e.k i < g.rows[i].length := by rw [hrw]; exact hcb
  have hok : (g.rows[i][colN g e.k i]).Ok := hg.hs _ (List.getElem_mem c) _ (List.getElem_mem hcr)
  have hzd : (g.rows[i]).getD (colN g e.k i) zeroH = g.rows[i][colN g e.k i] := by simp [List.getD_eq_getElem?_getD, hcr]
  have trb : T (.r (rb[i]).1) = none := (hR.row i hir).2.1
  have nrb : ¬ (rb[i]).1 = c18 ∧ ¬ c18 = (rb[i]).1 := by constructor <;> (intro e; first | (rw [e] at trb; rw [trb] at t18; cases t18) | (rw [← e] at trb; rw [trb] at t18; cases t18))
  rw [hri] at vr
  have hse : rowsV g e (i + 1) = stepG g e i (rowsV g e i) := rfl
  unfold stepG at hse
  rw [hri, hzd] at hse
  refine ⟨by rw [hcl]; exact c, by rw [List.length_append, List.length_map]; clear h3 h4 h18 n2 n3 n4 n32 n43 n42 nrb vne; omega, hcb, ?_⟩
  refine (change_to c18 (rb[i]).1 (colN g e.k i * 3) e.t e.k e.w (rowsV g e i).2 _ g.rows[i][colN g e.k i] V v18 vr nrb (flat_cut _ _ _ hcr) (by rw [List.length_append, hflat_len]; clear h3 h4 h18 n2 n3 n4 n32 n43 n42 nrb vne; omega) hok hw).useA ?_
  rintro _ V' ⟨hV1, hV2⟩
  have hq : wi ((i : Int) + 1) = ((i + 1 : Nat) : Int) := wi_succ (show i < 4611686018427387904 by clear h3 h4 h18 n2 n3 n4 n32 n43 n42 nrb vne; omega)
  have hT : ∃ T, T (.r c2) = some (.cells [i64 g.w, .p (.sl (g.sd.map Seed.pv)), .ms bo 1 0 g.rows.length g.rows.length, i64 (addH g.all e.t e.w).1.k, i64 (addH g.all e.t e.w).1.g, .p (.sl ((addH g.all e.t e.w).1.ls.map lvE))]) ∧
      T (.r c4) = some (.cells [i64 0, .nils, .nils, i64 0, i64 0, .nils]) ∧
      T (.r c18) = some (.cells [u64 e.t, u64 e.k, u64 e.w, i64 (rowsV g e (i + 1)).2]) ∧ Sub S T ∧ Rows T bo g.w.toNat rb (rowsV g e (i + 1)).1 0 V' := by
    by_cases er : (rowsV g e i).2 = 0
    · rw [if_pos er] at hse
      rw [hV1 er, hse, flat_put _ _ _ _ hcr]
      refine ⟨_, ?_, ?_, ?_, ?_, (hR.setRow hir (by rw [List.length_set]; exact hrw)).known t18 _⟩
      · rw [Store.set_other _ _ (rkey_ne n2.2)]; exact t2
      · rw [Store.set_other _ _ (rkey_ne n4.2)]; exact t4
      · rw [Store.set_same]
      · exact Sub.set tS z18 _
    · rw [if_neg er] at hse
      rw [hV2 er, hse]
      exact ⟨T, t2, t4, t18, tS, hR⟩
  simp only [go_sem, decide_true, decide_false, Nat.lt_irrefl]
  refine (ih (i + 1, V') ⟨c, hT⟩ (by dsimp only; clear h3 h4 h18 n2 n3 n4 n32 n43 n42 nrb vne; omega)).back ?_ (by simp) ?_
  · exact Sub.refl _
  · simp only [go_sem, decide_true, decide_false, Nat.lt_irrefl, hq]
end Go.Sk
