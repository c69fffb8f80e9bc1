/- Texts W10b W10c WSort W10d W10f W10e W14d W10g W10h W14e W14f, joined. -/
import Derived.Test.YthpfcfacofakoaaGreatRKC
import Derived.Test.YthpfcfacofakoaaGreatRKB
import Derived.Test.YthpfcfacofakoaaGreatSkTp
import Derived.Test.YthpfcfacofakoaaGreatSkRg
import Derived.Shelf.SlSortCmp.WholeK
import Derived.Test.YthpfcfacofakoaaGreatProg
import Derived.Test.YthpfcfacofakoaaGreatSkS
import Derived.Test.YthpfcfacofakoaaGreatRKD
set_option linter.unusedSimpArgs false
set_option linter.unusedVariables false
set_option linter.unusedSectionVars false
-- W10b
section
namespace Go.Sk
open Go Go.Proofs

/-- All buckets of some. -/
def bucksH (l : List Hist) : List (Span × Nat) := l.flatMap fun h => bucksF 0 h.ls
theorem bucksH_next (l : List Hist) (a : Nat) (ha : a < l.length) : bucksH (l.take (a + 1)) = bucksH (l.take a) ++ bucksF 0 (l[a]).ls := by
  unfold bucksH; rw [List.take_succ_eq_append_getElem ha, List.flatMap_append]; simp
theorem bucksH_get (l : List Hist) (a : Nat) (ha : a < l.length) (q : Nat) (hq : q < (bucksF 0 (l[a]).ls).length) :
    (bucksH (l.take a)).length + q < (bucksH l).length ∧ (bucksH l).getD ((bucksH (l.take a)).length + q) default = (bucksF 0 (l[a]).ls).getD q default := by
  have e : bucksH l = bucksH (l.take a) ++ (bucksF 0 (l[a]).ls ++ bucksH (l.drop (a + 1))) := by
    have h1 : l = l.take a ++ l[a] :: l.drop (a + 1) := by rw [← List.drop_eq_getElem_cons ha, List.take_append_drop]
    have : bucksH (l.take a ++ l[a] :: l.drop (a + 1)) = bucksH (l.take a) ++ (bucksF 0 (l[a]).ls ++ bucksH (l.drop (a + 1))) := by
      unfold bucksH; rw [List.flatMap_append, List.flatMap_cons]
    rw [← h1] at this; exact this
  refine ⟨by rw [e]; simp only [List.length_append]; omega, ?_⟩
  rw [List.getD_eq_getElem?_getD, e, List.getElem?_append_right (by omega), Nat.add_sub_cancel_left, List.getElem?_append_left hq, List.getD_eq_getElem?_getD]
noncomputable def itemsH (L : List (Span × Nat)) : Nat → List AV := fun k => [.agg [u64 (L.getD k default).1.b, u64 (units (L.getD k default).2)]]
set_option maxHeartbeats 2000000 in
set_option maxRecDepth 4000 in
theorem lumps1 (l : List Hist) (hn : l.length < 1048576) (hs : ∀ h ∈ l, h.ls.length < 1099511627776 ∧ ∀ x ∈ h.ls, x.length < 1099511627776) {T0 : Store} {b : Nat} (h1 : T0 (.r b) = some (.cells [.p (.sl (l.map Hist.cs))])) :
    SeqR Tryz.prog 147 [] [.sp b 0] T0 (bucksH l).length (itemsH (bucksH l)) := by
  intro ll J Jx hy E hd h0
  simp only [List.nil_append, List.singleton_append]
  refine callR_of Tryz.func147 rfl rfl (xc_ok (bitB 68846296947) _ _ _ ?_)
  simp only [go_sem, h1]
  refine AWP.roam (ι := Nat × Store) (fun x => x.1 ≤ l.length ∧ Disj T0 x.2 ∧ J (bucksH (l.take x.1)).length x.2)
    (fun x => ⟨Env.get [(0, .fn (.yield ll) [] []), (1, .sp b 0), (9, .p (.sl (l.map Hist.cs))), (10, i64 l.length), (11, i64 x.1)], Store.join x.2 T0, 40, []⟩) (fun x => l.length - x.1) (0, E) ⟨by simp, hd, h0⟩ ?_ ?_
  · exact le_of (by simp only [go_sem, List.length_map] <;> rfl) (Sub.refl _) rfl rfl (by simp)
  · rintro ⟨a, E⟩ ⟨ha, hd, hJ⟩ kh
    dsimp only at ha hd hJ ⊢
    refine AWPH.step (xc_ok (bitB 68846296947) _ _ _ ?_)
    by_cases ca : a < l.length
    rotate_left
    · obtain rfl : a = l.length := by omega
      rw [List.take_length] at hJ
      simp only [go_sem]
      exact ⟨_, Sub.refl _, Or.inl ⟨E, rfl, hd, Or.inl hJ⟩⟩
    obtain ⟨hsa, hsb⟩ := hs _ (List.getElem_mem ca)
    have hnext := bucksH_next l a ca
    have hgetH := bucksH_get l a ca
    simp only [go_sem, ca, ltN' ca, getD_map' _ _ _ _ ca, List.length_map]
    generalize l[a] = hh at *
    obtain ⟨hk, hg, ls⟩ := hh
    dsimp only at hsa hsb hnext hgetH
    refine alloc_intro fun e hfe => ?_
    have hfe' := join_none hfe
    simp only [go_sem]
    rw [join_set]
    refine AWP.roam (ι := Nat × Store) (fun x => x.1 ≤ ls.length ∧ Disj T0 x.2 ∧ J ((bucksH (l.take a)).length + (bucksF 0 (ls.take x.1)).length) x.2)
      (fun x => ⟨Env.get [(0, .fn (.yield ll) [] []), (1, .sp b 0), (9, .p (.sl (l.map Hist.cs))), (10, i64 l.length), (11, i64 a), (16, .p (.sl (ls.map lvE))), (17, i64 ls.length), (18, i64 x.1)], Store.join x.2 T0, 40, []⟩) (fun x => ls.length - x.1) (0, E) ⟨by simp, hd, by simpa [bucksF] using hJ⟩ ?_ ?_
    · refine le_of (by simp only [go_sem, List.length_map] <;> simp) ?_ rfl rfl (by simp)
      exact sub_join_set hfe'.2 hfe'.1
    · rintro ⟨i, E⟩ ⟨hi, hd, hJ⟩ ih
      dsimp only at hi hd hJ ⊢
      refine AWPH.step (xc_ok (bitB 68846296947) _ _ _ ?_)
      by_cases c : i < ls.length
      rotate_left
      · obtain rfl : i = ls.length := by omega
        rw [List.take_length] at hJ
        simp only [go_sem]
        refine (kh (a + 1, E) ⟨ca, hd, by rw [hnext, List.length_append]; exact hJ⟩ (by dsimp only; omega)).back (Sub.refl _) (by simp) ?_
        simp only [go_sem, wi_succ (show a < 4611686018427387904 by omega)]
      have hll := hsb _ (List.getElem_mem c)
      simp only [go_sem, c, ltN' c, getD_map' _ _ _ _ c, lvE_mk]
      refine AWP.roam (ι := Nat × Store) (fun x => x.1 ≤ ls[i].length ∧ Disj T0 x.2 ∧ J ((bucksH (l.take a)).length + ((bucksF 0 (ls.take i)).length + x.1)) x.2)
        (fun x => ⟨Env.get [(0, .fn (.yield ll) [] []), (1, .sp b 0), (5, i64 i), (9, .p (.sl (l.map Hist.cs))), (10, i64 l.length), (11, i64 a), (16, .p (.sl (ls.map lvE))), (17, i64 ls.length), (18, i64 i), (23, .p (lvP ls[i])), (24, i64 ls[i].length), (25, i64 x.1)], Store.join x.2 T0, 40, []⟩) (fun x => ls[i].length - x.1) (0, E) ⟨by simp, hd, hJ⟩ ?_ ?_
      · exact le_of (by simp only [go_sem, lvP] <;> simp) (Sub.refl _) rfl rfl (by simp)
      · rintro ⟨j, E⟩ ⟨hj, hd, hJ⟩ jh
        dsimp only at hj hd hJ ⊢
        refine AWPH.step (xc_ok (bitB 68846296947) _ _ _ ?_)
        by_cases cj : j < ls[i].length
        rotate_left
        · obtain rfl : j = ls[i].length := by omega
          simp only [go_sem, lvP]
          refine (ih (i + 1, E) ⟨c, hd, by rw [bucks_next ls i c]; simpa using hJ⟩ (by dsimp only; omega)).back (Sub.refl _) (by simp) ?_
          simp only [go_sem, wi_succ (show i < 4611686018427387904 by omega)]
        have hget0 := bucks_get ls i c j cj
        have hget := hgetH _ hget0.1
        rw [hget0.2] at hget
        simp only [go_sem, lvP, cj, ltN' cj, getD_map' _ _ _ _ cj]
        refine alloc_intro fun d hfd => ?_
        have hfd' := join_none hfd
        simp only [go_sem]
        rw [join_set]
        have hyi := hy _ hget.1 E (T0.set (.r d) (.cells [u64 (ls[i][j]).a, u64 (ls[i][j]).b])) ((Sub.refl T0).set hfd'.2 _) (hd.setT hfd'.1 _) hJ
        simp only [itemsH, hget.2] at hyi
        have hjs : wi ((j : Int) + 1) = ((j + 1 : Nat) : Int) := wi_succ (show j < 4611686018427387904 by omega)
        refine AWP.orders (bitB 68846296947) mixed [[0,1,2,3,4,5,6,7],[0,1,3,2,4,5,6,7],[0,1,3,4,2,5,6,7],[0,3,1,2,4,5,6,7],[0,3,1,4,2,5,6,7],[0,3,4,1,2,5,6,7],[1,0,2,3,4,5,6,7],[1,0,3,2,4,5,6,7],[1,0,3,4,2,5,6,7],[1,2,0,3,4,5,6,7],[1,2,3,0,4,5,6,7],[1,2,3,4,0,5,6,7],[1,2,3,4,5,0,6,7],[1,3,0,2,4,5,6,7],[1,3,0,4,2,5,6,7],[1,3,2,0,4,5,6,7],[1,3,2,4,0,5,6,7],[1,3,2,4,5,0,6,7],[1,3,4,0,2,5,6,7],[1,3,4,2,0,5,6,7],[1,3,4,2,5,0,6,7],[3,0,1,2,4,5,6,7],[3,0,1,4,2,5,6,7],[3,0,4,1,2,5,6,7],[3,1,0,2,4,5,6,7],[3,1,0,4,2,5,6,7],[3,1,2,0,4,5,6,7],[3,1,2,4,0,5,6,7],[3,1,2,4,5,0,6,7],[3,1,4,0,2,5,6,7],[3,1,4,2,0,5,6,7],[3,1,4,2,5,0,6,7],[3,4,0,1,2,5,6,7],[3,4,1,0,2,5,6,7],[3,4,1,2,0,5,6,7],[3,4,1,2,5,0,6,7]] (by kernel_rfl) ?_
        simp only [List.forall_mem_cons, List.not_mem_nil, false_implies, implies_true, and_true, opsAt, List.getElem?_cons_zero, List.getElem?_cons_succ]
        repeat' (with_reducible refine And.intro ?_ ?_)
        all_goals
          simp only [go_sem]
          refine hyi.useA rfl ?_
          rintro r S' ⟨E', rfl, hd2, ⟨rfl, hJ2⟩ | ⟨rfl, hJ2⟩⟩
          · obtain ⟨hd3, hed⟩ := hd2.unsetT hfd'.2
            simp only [go_sem]
            refine (jh (j + 1, E') ⟨cj, hd3, by rw [← Nat.add_assoc, ← Nat.add_assoc]; rw [← Nat.add_assoc] at hJ2; exact hJ2⟩ (by dsimp only; omega)).back (sub_join_set hfd'.2 hed) (by simp) ?_
            simp only [go_sem, hjs, lvP]
          · obtain ⟨hd3, hed⟩ := hd2.unsetT hfd'.2
            simp only [go_sem]
            exact ⟨_, sub_join_set hfd'.2 hed, Or.inl ⟨E', rfl, hd3, Or.inr hJ2⟩⟩
theorem lumps_it (l : List Hist) (S : Store) : CallR Tryz.prog 89 [.p (.sl (l.map Hist.cs))] S
    (fun r S' => ∃ b, Fresh S b ∧ r = .fn (.func 147) [] [.sp b 0] ∧ S' = S.set (.r b) (.cells [.p (.sl (l.map Hist.cs))])) := by
  refine callR_of Tryz.func89 rfl rfl (xc_ok (bitB 7) _ _ _ ?_)
  simp only [go_sem]
  refine alloc_intro fun b hb => ?_
  simp only [go_sem]
  exact ⟨_, Sub.refl _, Or.inl ⟨b, hb, rfl, rfl⟩⟩
end Go.Sk
end

-- W10c
section
namespace Go.Sk
open Go Go.Proofs

def lumE (x : Nat × Nat) : List PV := [.int .u64 x.1, .int .u64 x.2]
theorem lum_len {l : List (Nat × Nat)} : ∀ el ∈ l.map lumE, el.length = 2 := by
  intro el h; obtain ⟨x, _, rfl⟩ := List.mem_map.1 h; rfl
theorem lumpsD_len : ∀ (ls : List (List Span)) i, (lumpsD i ls).length = bksN ls := by
  intro ls
  induction ls with
  | nil => intro i; rfl
  | cons l r ih => intro i; show (lumpsD (i + 1) r ++ l.map (fun s : Span => (s.b, 2 ^ i))).length = _; rw [List.length_append, ih, List.length_map]; unfold bksN; rw [List.map_cons, List.sum_cons]; omega
theorem good_bks {h : Hist} (g : h.Good) : bksN h.ls ≤ 60000 := by
  have h1 := bks_le (c := h.k.toNat + 2) h.ls g.sm
  have h2 := g.len
  have h3 := g.k1
  have h4 : (h.k.toNat + 2) * h.ls.length ≤ 1026 * 53 := Nat.mul_le_mul (by omega) h2
  omega
theorem lumpsR_len : ∀ (l : List Hist), (∀ h ∈ l, h.Good) → (lumpsR l).length ≤ l.length * 60000 := by
  intro l
  induction l with
  | nil => intro _; exact Nat.le_refl _
  | cons h r ih =>
    intro hg
    have h1 := good_bks (hg h (by simp))
    have h2 := ih (fun x hx => hg x (by simp [hx]))
    have e : lumpsR (h :: r) = lumpsD 0 h.ls ++ lumpsR r := by unfold lumpsR; rw [List.flatMap_cons]
    rw [e, List.length_append, lumpsD_len, List.length_cons]; omega
theorem lumpsR_next (l : List Hist) (i : Nat) (hi : i < l.length) : lumpsR (l.take (i + 1)) = lumpsR (l.take i) ++ lumpsD 0 (l[i]).ls := by
  unfold lumpsR; rw [List.take_succ_eq_append_getElem hi, List.flatMap_append]; simp
theorem lumpsD_drop (ls : List (List Span)) (m : Nat) (hm : m < ls.length) : lumpsD m (ls.drop m) = lumpsD (m + 1) (ls.drop (m + 1)) ++ (ls[m]).map (fun s : Span => (s.b, 2 ^ m)) := by
  rw [List.drop_eq_getElem_cons hm]; rfl
theorem units_two {i : Nat} (h : i < 64) : units i = 2 ^ i := by
  have h1 : (2 : Nat) ^ i < 2 ^ 64 := Nat.pow_lt_pow_right (by decide) h
  have e : (2 : Nat) ^ 64 = 18446744073709551616 := by decide
  unfold units; rw [Nat.min_eq_left (by omega), Nat.one_mul, m64_id (by omega)]

set_option maxHeartbeats 2000000 in
set_option maxRecDepth 4000 in
theorem ref10_lumps (l : List Hist) (hn : l.length < 1048576) (hg : ∀ h ∈ l, h.Good) (S : Store) : CallR Tryz.prog 96 [.p (.sl (l.map Hist.cs))] S
    (fun r S' => ∃ v loc, FreshV S v ∧ r = .ts v 2 loc ((lumpsR l).map lumE) ∧ S' = S.set (.v v) (.tip 2 (lumpsR l).length loc)) := by
  refine callR_of Tryz.func96 rfl rfl (xc_ok (bitB 17181967485) _ _ _ ?_)
  simp only [go_sem]
  refine AWP.tip0 3 2 (by simp only [go_sem]) fun v hv => ?_
  simp only [go_sem]
  have hbig := lumpsR_len l hg
  refine AWP.iterE (ι := Option Nat) (fun loc i => ⟨Env.get [(0, .p (.sl (l.map Hist.cs))), (3, .ts v 2 loc ((lumpsR (l.take i)).map lumE)), (4, i64 i)], S.set (.v v) (.tip 2 (lumpsR (l.take i)).length loc), 56, []⟩) l.length none ?_ ?_ ?_
  · refine le_of (by simp only [go_sem, List.take_zero, lumpsR, List.flatMap_nil, List.map_nil] <;> rfl) ?_ rfl rfl (by simp)
    ((try dsimp only); (repeat refine sub_set ?_ ?_) <;> first | ((repeat (first | exact Sub.refl _ | refine Sub.setF ?_ (by first | assumption | simp only [*]) | refine Sub.setV ?_ (by first | assumption | simp only [*]))); done) | (simp only [go_sem, hv, List.take_zero, lumpsR, List.flatMap_nil, List.length_nil]; done) | (simp only [go_sem, hv, List.take_zero, lumpsR, List.flatMap_nil, List.length_nil]; rfl) | rfl)
  · intro i loc hi ih
    have hgi := hg _ (List.getElem_mem hi)
    have hln := hgi.len
    have hnx := lumpsR_next l i hi
    have hlen0 : (lumpsR (l.take (i + 1))).length ≤ 62914560000 := by
      have := lumpsR_len (l.take (i + 1)) (fun h hh => hg h (List.mem_of_mem_take hh))
      rw [List.length_take] at this
      have h3 : min (i + 1) l.length * 60000 ≤ 1048576 * 60000 := Nat.mul_le_mul_right _ (by omega)
      omega
    have hsm := hgi.sm
    have hk1 := hgi.k1
    have hqi : wi ((i : Int) + 1) = ((i + 1 : Nat) : Int) := wi_succ (show i < 4611686018427387904 by omega)
    refine AWPH.step (xc_ok (bitB 17181967485) _ _ _ ?_)
    obtain ⟨H, hH⟩ : ∃ H, l[i] = H := ⟨_, rfl⟩
    rw [hH] at hln hnx hsm hk1
    have hget : (l.map Hist.cs).getD i [] = [.int .i64 H.k, .int .i64 H.g, .sl (H.ls.map lvE)] := by
      rw [getD_map' _ _ _ _ hi, hH]; rfl
    simp only [go_sem, hi, ltN' hi, hget, List.length_map]
    refine AWP.iterE (ι := Option Nat) (fun loc d => ⟨Env.get [(0, .p (.sl (l.map Hist.cs))), (3, .ts v 2 loc ((lumpsR (l.take i) ++ lumpsD (H.ls.length - d) (H.ls.drop (H.ls.length - d))).map lumE)), (4, i64 i), (5, i64 ((H.ls.length : Int) - 1 - (d : Int)))],
      S.set (.v v) (.tip 2 (lumpsR (l.take i) ++ lumpsD (H.ls.length - d) (H.ls.drop (H.ls.length - d))).length loc), 56, []⟩) H.ls.length loc ?_ ?_ ?_
    · have e0 : wi ((H.ls.length : Int) - 1) = (H.ls.length : Int) - 1 := wi_id (by omega) (by omega)
      refine le_of (by simp only [go_sem, e0] <;> simp [lumpsD]) ?_ rfl rfl (by simp)
      ((try dsimp only); (repeat refine sub_set ?_ ?_) <;> first | ((repeat (first | exact Sub.refl _ | refine Sub.setF ?_ (by first | assumption | simp only [*]) | refine Sub.setV ?_ (by first | assumption | simp only [*]))); done) | (simp only [go_sem, hv, Nat.sub_zero, List.drop_length, lumpsD, List.append_nil]; done) | (simp only [go_sem, hv, Nat.sub_zero, List.drop_length, lumpsD, List.append_nil]; rfl) | rfl)
    · intro d loc hd dh
      obtain ⟨m, hm⟩ : ∃ m, H.ls.length = m + 1 + d := ⟨H.ls.length - 1 - d, by omega⟩
      have hml : m < H.ls.length := by omega
      have e1 : ((H.ls.length : Int) - 1 - (d : Int)) = ((m : Nat) : Int) := by omega
      have e2 : H.ls.length - d = m + 1 := by omega
      have e3 : H.ls.length - (d + 1) = m := by omega
      have e4 : ((H.ls.length : Int) - 1 - ((d + 1 : Nat) : Int)) = (m : Int) - 1 := by omega
      have e5 : wi ((m : Int) - 1) = (m : Int) - 1 := wi_id (by omega) (by omega)
      have hu := units_two (i := m) (by omega)
      have hdr := lumpsD_drop H.ls m hml
      simp only [e3, e4] at dh
      rw [e2, e1]
      refine AWPH.step (xc_ok (bitB 17181967485) _ _ _ ?_)
      have e6 : decide ((m : Int) ≥ 0) = true := decide_eq_true (by omega)
      simp only [go_sem, e6, hget]
      refine AWP.iterE (ι := Option Nat) (fun loc q => ⟨Env.get [(0, .p (.sl (l.map Hist.cs))), (3, .ts v 2 loc ((lumpsR (l.take i) ++ (lumpsD (m + 1) (H.ls.drop (m + 1)) ++ ((H.ls[m]).take q).map (fun s : Span => (s.b, 2 ^ m)))).map lumE)), (4, i64 i), (5, i64 m), (6, i64 q)],
        S.set (.v v) (.tip 2 (lumpsR (l.take i) ++ (lumpsD (m + 1) (H.ls.drop (m + 1)) ++ ((H.ls[m]).take q).map (fun s : Span => (s.b, 2 ^ m)))).length loc), 56, []⟩) (H.ls[m]).length loc ?_ ?_ ?_
      · refine le_of (by simp only [go_sem, List.take_zero, List.map_nil, List.append_nil] <;> simp) ?_ rfl rfl (by simp)
        ((try dsimp only); (repeat refine sub_set ?_ ?_) <;> first | ((repeat (first | exact Sub.refl _ | refine Sub.setF ?_ (by first | assumption | simp only [*]) | refine Sub.setV ?_ (by first | assumption | simp only [*]))); done) | (simp only [go_sem, hv, List.take_zero, List.map_nil, List.append_nil]; done) | (simp only [go_sem, hv, List.take_zero, List.map_nil, List.append_nil]; rfl) | rfl)
      · intro q loc hq qh
        have hqq : wi ((q : Int) + 1) = ((q + 1 : Nat) : Int) := wi_succ (show q < 4611686018427387904 by have := hsm _ (List.getElem_mem hml); omega)
        refine AWPH.step (xc_ok (bitB 17181967485) _ _ _ ?_)
        simp only [go_sem, hi, ltN' hi, hget, List.length_map, hml, ltN' hml, getD_map' _ _ _ _ hml, lvE_mk, lvP, hq, ltN' hq]
        have hb2 : (lumpsR (l.take i) ++ (lumpsD (m + 1) (H.ls.drop (m + 1)) ++ ((H.ls[m]).take q).map (fun s : Span => (s.b, 2 ^ m)))).length + 1 ≤ 62914560000 := by
          have h1 : ((H.ls[m]).take q).length + 1 ≤ (H.ls[m]).length := by rw [List.length_take]; omega
          have h2 : (lumpsD m (H.ls.drop m)).length ≤ (lumpsD 0 H.ls).length := by
            rw [lumpsD_len, lumpsD_len]
            have := List.take_append_drop m H.ls
            have e : bksN H.ls = bksN (H.ls.take m) + bksN (H.ls.drop m) := by rw [← this]; unfold bksN; rw [List.map_append, List.sum_append]; simp
            omega
          rw [hdr, List.length_append, List.length_map] at h2
          rw [hnx, List.length_append] at hlen0
          simp only [List.length_append, List.length_map]
          omega
        have e7 : List.map lumE (lumpsR (l.take i) ++ (lumpsD (m + 1) (H.ls.drop (m + 1)) ++ ((H.ls[m]).take q).map (fun s : Span => (s.b, 2 ^ m)))) ++ [[.int .u64 ((H.ls[m])[q]).b, .int .u64 ((2 ^ m : Nat) : Int)]] =
            List.map lumE (lumpsR (l.take i) ++ (lumpsD (m + 1) (H.ls.drop (m + 1)) ++ ((H.ls[m]).take (q + 1)).map (fun s : Span => (s.b, 2 ^ m)))) := by
          rw [List.take_succ_eq_append_getElem hq]
          simp only [List.map_append, List.append_assoc]; rfl
        refine AWP.draw2 (bitB 17181967485) mixed (by kernel_rfl) (fun j => bl false) ?_
        simp only [go_sem, hi, ltN' hi, hget, List.length_map, hml, ltN' hml, getD_map' _ _ _ _ hml, lvE_mk, lvP, hq, ltN' hq, getD_map' _ _ _ _ hq, hv]
        have hu2 : m64 (1 * 2 ^ min m 64) = 2 ^ m := hu
        have hlm : (List.map lumE (lumpsR (l.take i) ++ (lumpsD (m + 1) (H.ls.drop (m + 1)) ++ ((H.ls[m]).take q).map (fun s : Span => (s.b, 2 ^ m))))).length = (lumpsR (l.take i) ++ (lumpsD (m + 1) (H.ls.drop (m + 1)) ++ ((H.ls[m]).take q).map (fun s : Span => (s.b, 2 ^ m)))).length := List.length_map _
        rw [hu2]
        refine ⟨by rintro el rfl; rfl, lum_len, by omega, by omega, grow_intro fun loc' => ?_⟩
        have hlq : (lumpsR (l.take i) ++ (lumpsD (m + 1) (H.ls.drop (m + 1)) ++ ((H.ls[m]).take (q + 1)).map (fun s : Span => (s.b, 2 ^ m)))).length = (lumpsR (l.take i) ++ (lumpsD (m + 1) (H.ls.drop (m + 1)) ++ ((H.ls[m]).take q).map (fun s : Span => (s.b, 2 ^ m)))).length + 1 := by
          have := congrArg List.length e7
          rw [List.length_append, List.length_map, List.length_map] at this
          rw [← this]; rfl
        simp only [go_sem, hv, hqq, e7]
        refine (qh loc').back ?_ (by simp) ?_
        · rw [hlq]
          ((try dsimp only); (repeat refine sub_set ?_ ?_) <;> first | ((repeat (first | exact Sub.refl _ | refine Sub.setF ?_ (by first | assumption | simp only [*]) | refine Sub.setV ?_ (by first | assumption | simp only [*]))); done) | (simp only [go_sem, hv, e7]; done) | (simp only [go_sem, hv, e7]; rfl) | rfl)
        · simp only [go_sem, hqq]
      · intro loc
        refine AWPH.step (xc_ok (bitB 17181967485) _ _ _ ?_)
        simp only [go_sem, hi, ltN' hi, hget, List.length_map, hml, ltN' hml, getD_map' _ _ _ _ hml, lvE_mk, lvP, List.take_length]
        rw [← hdr]
        refine (dh loc).back ?_ (by simp) ?_
        · ((try dsimp only); (repeat refine sub_set ?_ ?_) <;> first | ((repeat (first | exact Sub.refl _ | refine Sub.setF ?_ (by first | assumption | simp only [*]) | refine Sub.setV ?_ (by first | assumption | simp only [*]))); done) | (simp only [go_sem, hv]; done) | (simp only [go_sem, hv]; rfl) | rfl)
        · simp only [go_sem, e5]
    · intro loc
      refine AWPH.step (xc_ok (bitB 17181967485) _ _ _ ?_)
      have e1 : ((H.ls.length : Int) - 1 - ((H.ls.length : Nat) : Int)) = -1 := by omega
      have e0 : decide ((-1 : Int) ≥ 0) = false := by decide
      simp only [go_sem, e1, e0, Nat.sub_self, List.drop_zero]
      rw [← hnx]
      refine (ih loc).back ?_ (by simp) ?_
      · ((try dsimp only); (repeat refine sub_set ?_ ?_) <;> first | ((repeat (first | exact Sub.refl _ | refine Sub.setF ?_ (by first | assumption | simp only [*]) | refine Sub.setV ?_ (by first | assumption | simp only [*]))); done) | (simp only [go_sem, hv]; done) | (simp only [go_sem, hv]; rfl) | rfl)
      · simp only [go_sem, hqi]
  · intro loc
    refine AWPH.step (xc_ok (bitB 17181967485) _ _ _ ?_)
    simp only [go_sem, hv, List.take_length, List.length_map]
    refine ⟨S.set (.v v) (.tip 2 (lumpsR l).length loc), Sub.refl _, Or.inr ⟨v, loc, hv, rfl, rfl⟩⟩
end Go.Sk
end

-- WSort
section
namespace Go.Proofs
open Go.Shelf
def Tryz.sortLump_ren : Go.Shelf.Ren := ⟨fun | 6 => 90 | 15 => 149 | 14 => 148 | 28 => 200 | 29 => 201 | 20 => 192 | 21 => 193 | 22 => 194 | 23 => 195 | 24 => 196 | 25 => 197 | 26 => 198 | 27 => 199 | 46 => 221 | 47 => 222 | 48 => 223 | 49 => 224 | 50 => 225 | 57 => 238 | n => n, fun | 22 => 179 | 24 => 184 | 25 => 186 | 3 => 3 | 39 => 206 | 0 => 0 | 53 => 297 | 55 => 23 | 4 => 4 | 46 => 290 | 45 => 289 | 50 => 294 | 5 => 5 | 9 => 9 | 66 => 316 | 70 => 320 | 76 => 332 | 77 => 333 | n => n, fun | n => n⟩
theorem Tryz.sortLump : Go.Proofs.SlLaysF0.n6 Tryz.prog Tryz.sortLump_ren where
  mixed := by kernel_rfl
  f6 := ⟨"slices.SortFunc[[]skylight/replay.lump,skylight/replay.lump]", by decide, Tryz.func90.trans (congrArg some (by kernel_rfl))⟩
  f14 := ⟨"slices.pdqsortCmpFunc[skylight/replay.lump]", by decide, Tryz.func148.trans (congrArg some (by kernel_rfl))⟩
  f15 := Tryz.func149.trans (congrArg some (by kernel_rfl))
  f20 := ⟨"slices.insertionSortCmpFunc[skylight/replay.lump]", by decide, Tryz.func192.trans (congrArg some (by kernel_rfl))⟩
  f21 := ⟨"slices.heapSortCmpFunc[skylight/replay.lump]", by decide, Tryz.func193.trans (congrArg some (by kernel_rfl))⟩
  f22 := ⟨"slices.breakPatternsCmpFunc[skylight/replay.lump]", by decide, Tryz.func194.trans (congrArg some (by kernel_rfl))⟩
  f23 := ⟨"slices.choosePivotCmpFunc[skylight/replay.lump]", by decide, Tryz.func195.trans (congrArg some (by kernel_rfl))⟩
  f24 := ⟨"slices.reverseRangeCmpFunc[skylight/replay.lump]", by decide, Tryz.func196.trans (congrArg some (by kernel_rfl))⟩
  f25 := ⟨"slices.partialInsertionSortCmpFunc[skylight/replay.lump]", by decide, Tryz.func197.trans (congrArg some (by kernel_rfl))⟩
  f26 := ⟨"slices.partitionEqualCmpFunc[skylight/replay.lump]", by decide, Tryz.func198.trans (congrArg some (by kernel_rfl))⟩
  f27 := ⟨"slices.partitionCmpFunc[skylight/replay.lump]", by decide, Tryz.func199.trans (congrArg some (by kernel_rfl))⟩
  f28 := Tryz.func200.trans (congrArg some (by kernel_rfl))
  f29 := Tryz.func201.trans (congrArg some (by kernel_rfl))
  f46 := ⟨"slices.siftDownCmpFunc[skylight/replay.lump]", by decide, Tryz.func221.trans (congrArg some (by kernel_rfl))⟩
  f47 := Tryz.func222.trans (congrArg some (by kernel_rfl))
  f48 := Tryz.func223.trans (congrArg some (by kernel_rfl))
  f49 := ⟨"slices.medianAdjacentCmpFunc[skylight/replay.lump]", by decide, Tryz.func224.trans (congrArg some (by kernel_rfl))⟩
  f50 := ⟨"slices.medianCmpFunc[skylight/replay.lump]", by decide, Tryz.func225.trans (congrArg some (by kernel_rfl))⟩
  f57 := ⟨"slices.order2CmpFunc[skylight/replay.lump]", by decide, Tryz.func238.trans (congrArg some (by kernel_rfl))⟩
  t0 := Tryz.underlying0
  a0 := Tryz.isAgg0
  z0 := Tryz.sizeOf0
  v0 := Tryz.zeroValue0
  t3 := Tryz.underlying3
  a3 := Tryz.isAgg3
  z3 := Tryz.sizeOf3
  v3 := Tryz.zeroValue3
  t4 := Tryz.underlying4
  a4 := Tryz.isAgg4
  z4 := Tryz.sizeOf4
  v4 := Tryz.zeroValue4
  t5 := Tryz.underlying5
  a5 := Tryz.isAgg5
  z5 := Tryz.sizeOf5
  v5 := Tryz.zeroValue5
  t9 := Tryz.underlying9
  a9 := Tryz.isAgg9
  z9 := Tryz.sizeOf9
  v9 := Tryz.zeroValue9
  t22 := Tryz.underlying179
  a22 := Tryz.isAgg179
  z22 := Tryz.sizeOf179
  v22 := Tryz.zeroValue179
  t25 := Tryz.underlying186
  a25 := Tryz.isAgg186
  z25 := Tryz.sizeOf186
  v25 := Tryz.zeroValue186
  t39 := Tryz.underlying206
  a39 := Tryz.isAgg206
  z39 := Tryz.sizeOf206
  v39 := Tryz.zeroValue206
  t45 := Tryz.underlying289
  a45 := Tryz.isAgg289
  z45 := Tryz.sizeOf289
  v45 := Tryz.zeroValue289
  t46 := Tryz.underlying290
  a46 := Tryz.isAgg290
  z46 := Tryz.sizeOf290
  v46 := Tryz.zeroValue290
  t50 := Tryz.underlying294
  a50 := Tryz.isAgg294
  z50 := Tryz.sizeOf294
  v50 := Tryz.zeroValue294
  t53 := Tryz.underlying297
  a53 := Tryz.isAgg297
  z53 := Tryz.sizeOf297
  v53 := Tryz.zeroValue297
  t55 := Tryz.underlying23
  a55 := Tryz.isAgg23
  z55 := Tryz.sizeOf23
  v55 := Tryz.zeroValue23
  t66 := Tryz.underlying316
  a66 := Tryz.isAgg316
  z66 := Tryz.sizeOf316
  v66 := Tryz.zeroValue316
  t70 := Tryz.underlying320
  a70 := Tryz.isAgg320
  z70 := Tryz.sizeOf320
  v70 := Tryz.zeroValue320
  t76 := Tryz.underlying332
  a76 := Tryz.isAgg332
  z76 := Tryz.sizeOf332
  v76 := Tryz.zeroValue332
  t77 := Tryz.underlying333
  a77 := Tryz.isAgg333
  z77 := Tryz.sizeOf333
  v77 := Tryz.zeroValue333
end Go.Proofs
end

-- W10d
section
namespace Go.Sk
open Go Go.Proofs Go.Sort

def cmpN (x y : Nat) : Int := if x < y then -1 else if y < x then 1 else 0
theorem isNaN_u (n : Nat) : Pure Tryz.prog 144 [u64 n] (bl false) := fun S => by
  refine callR_of Tryz.func144 rfl rfl (xc_ok (bitB 5) _ _ _ ?_)
  simp only [go_sem]
  (refine ⟨S, by (repeat (first | exact Sub.refl _ | refine Sub.setF ?_ (by first | assumption | simp only [*]) | refine Sub.setV ?_ (by first | assumption | simp only [*]))), ?_⟩); simp
theorem cmp_u64 (x y : Nat) : Pure Tryz.prog 83 [u64 x, u64 y] (i64 (cmpN x y)) := fun S => by
  refine callR_of Tryz.func83 rfl rfl (xc_ok (bitB 604275) _ _ _ ?_)
  simp only [go_sem]
  refine (isNaN_u x).useA ?_
  simp only [go_sem]
  refine (isNaN_u y).useA ?_
  by_cases h1 : x < y
  · simp only [go_sem, h1]
    (refine ⟨S, by (repeat (first | exact Sub.refl _ | refine Sub.setF ?_ (by first | assumption | simp only [*]) | refine Sub.setV ?_ (by first | assumption | simp only [*]))), ?_⟩); simp [cmpN, h1]
  · by_cases h2 : y < x
    · simp only [go_sem, h1, h2]
      (refine ⟨S, by (repeat (first | exact Sub.refl _ | refine Sub.setF ?_ (by first | assumption | simp only [*]) | refine Sub.setV ?_ (by first | assumption | simp only [*]))), ?_⟩); simp [cmpN, h1, h2]
    · simp only [go_sem, h1, h2]
      (refine ⟨S, by (repeat (first | exact Sub.refl _ | refine Sub.setF ?_ (by first | assumption | simp only [*]) | refine Sub.setV ?_ (by first | assumption | simp only [*]))), ?_⟩); simp [cmpN, h1, h2]
theorem with_cmp (x y : Nat × Nat) (S : Store) : CallsR Tryz.prog 91 [.agg ((lumE x).map .p), .agg ((lumE y).map .p)] S (fun r _ => r = i64 (cmpN x.1 y.1)) := by
  refine callsR_of Tryz.func91 rfl (xc_ok (bitB 31) _ _ _ ?_)
  simp only [go_sem, lumE]
  refine alloc_intro fun b hb => ?_
  simp only [go_sem]
  refine alloc_intro fun b' hb' => ?_
  simp only [fresh_set] at hb'
  simp only [go_sem, hb']
  refine (cmp_u64 x.1 y.1).useA ?_
  simp only [go_sem]
  exact ⟨_, Sub.refl _⟩
def luE (x : Nat × Nat) : List (IntKind × Int) := [(.u64, (x.1 : Int)), (.u64, (x.2 : Int))]
theorem cmpN_neg (x y : Nat) : cmpN x y < 0 ↔ x < y := by
  unfold cmpN
  repeat' split
  all_goals omega
theorem swo_lu : SWO (ltOf fun x y : Nat × Nat => cmpN x.1 y.1) where
  irrefl := fun x => by simp [ltOf, cmpN_neg]
  trans := fun x y z h1 h2 => by simp only [ltOf, cmpN_neg, decide_eq_true_eq] at *; omega
  ntrans := fun x y z h1 h2 => by simp only [ltOf, cmpN_neg, decide_eq_false_iff_not] at *; omega
/-- A row of lumps that is written, with room. -/
def rowL (m : List (Nat × Nat)) (c : Nat) : Blk := .cells (flatA (m.map lumE) ++ List.replicate ((c - m.length) * 2) .top)
theorem rowL_len (m : List (Nat × Nat)) : (flatA (m.map lumE)).length = m.length * 2 := by
  rw [flatA_length (sz := 2) (by intro el h; obtain ⟨x, _, rfl⟩ := List.mem_map.1 h; rfl)]; simp
theorem ord_of {m : List (Nat × Nat)} (h : ∀ i j, i < j → ∀ hj : j < m.length, ∀ hi : i < m.length, (m[i]).1 ≤ (m[j]).1) : Ord m := by
  unfold Ord
  rw [List.pairwise_iff_getElem]
  intro i j hi hj hij
  exact h i j hij hj hi
theorem sort_lu {S : Store} {b c n : Nat} (m : List (Nat × Nat)) (hn : m.length = n) (hb : S (.r b) = some (rowL m c)) (hm : m ≠ []) (hl : m.length < 4611686018427387904) {R : AV → Store → Prop}
    (hR : ∀ m' : List (Nat × Nat), m'.Perm m → Ord m' → R (.tuple []) (S.set (.r b) (rowL m' c))) :
    CallR Tryz.prog 90 [.ms b 2 0 n c, .fn (.func 91) [] []] S R := by
  subst hn
  have hen : Enterable Tryz.prog 91 := enterable_of Tryz.func91 rfl rfl
  have hen2 : Enterable Tryz.prog 90 := enterable_of Tryz.func90 rfl rfl
  have hmap : ∀ l : List (Nat × Nat), l.map (encP luE) = l.map lumE := fun l => rfl
  refine sort_call luE Tryz.sortLump (k := 2) Tryz.isAgg184 Tryz.sizeOf184 (fun _ => rfl) (fun x y : Nat × Nat => cmpN x.1 y.1) swo_lu hen hen2 (fun x y w => cmp_of luE (with_cmp x y noS) w) hb m hm (by omega) ?_ ?_
  · rw [List.drop_zero, hmap, List.take_append_of_le_length (by rw [rowL_len]; exact Nat.le_refl _), List.take_of_length_le (by rw [rowL_len]; exact Nat.le_refl _)]
  · intro m' hp hs
    have hlen := hp.length_eq
    have := hR m' hp (ord_of fun i j hij hj hi => by
      have := hs i j hij hj
      rw [cmpN_neg] at this
      simp only [getElem!_pos, hi, hj] at this; omega)
    have e : splice (flatA (m.map lumE) ++ List.replicate ((c - m.length) * 2) AV.top) 0 (flatA (m'.map (encP luE))) = flatA (m'.map lumE) ++ List.replicate ((c - m'.length) * 2) .top := by
      unfold splice
      rw [hmap, List.take_zero, List.nil_append, Nat.zero_add, rowL_len, hlen]
      congr 1
      rw [List.drop_append_of_le_length (by rw [rowL_len]; exact Nat.le_refl _), List.drop_of_length_le (by rw [rowL_len]; exact Nat.le_refl _), List.nil_append]
    rw [e]; exact this
end Go.Sk
end

-- W10f
section
namespace Go.Sk
open Go Go.Proofs

noncomputable def lumpU (x : Span × Nat) : Nat × Nat := (x.1.b, units x.2)
/-- A row of lumps in a box. -/
def rowS (S0 : Store) (c : Nat) (m : List (Nat × Nat)) (y : Nat × Nat) : Store :=
  match m with
  | [] => S0.set (.r c) (.cells [.nils])
  | x :: r => (S0.set (.r y.1) (rowL (x :: r) ((x :: r).length + y.2))).set (.r c) (.cells [.ms y.1 2 0 (x :: r).length ((x :: r).length + y.2)])
theorem rowS_nil (S0 : Store) (c : Nat) (y : Nat × Nat) : rowS S0 c [] y = S0.set (.r c) (.cells [.nils]) := rfl
theorem rowS_ne {S0 : Store} {c : Nat} {m : List (Nat × Nat)} (h : m ≠ []) (y : Nat × Nat) : rowS S0 c m y = (S0.set (.r y.1) (rowL m (m.length + y.2))).set (.r c) (.cells [.ms y.1 2 0 m.length (m.length + y.2)]) := by
  cases m with
  | nil => exact absurd rfl h
  | cons x r => rfl
theorem lflat_app (l m : List (List PV)) : flatA (l ++ m) = flatA l ++ flatA m := by simp [flatA]
theorem rowL_in (m : List (Nat × Nat)) (x : Nat × Nat) (c : Nat) (hc : m.length + 1 ≤ c) :
    rowL (m ++ [x]) c = .cells (splice (flatA (m.map lumE) ++ List.replicate ((c - m.length) * 2) AV.top) (0 + m.length * 2) (flatA [lumE x])) := by
  have hA := rowL_len m
  unfold rowL splice
  congr 1
  rw [List.map_append, lflat_app, Nat.zero_add, List.take_append_of_le_length (by rw [hA]; exact Nat.le_refl _), List.take_of_length_le (by rw [hA]; exact Nat.le_refl _)]
  have e2 : flatA ([x].map lumE) = flatA [lumE x] := rfl
  rw [e2]
  congr 1
  rw [List.drop_append, hA]
  have e3 : (flatA [lumE x]).length = 2 := rfl
  rw [e3, List.drop_of_length_le (by rw [hA]; omega), List.nil_append, List.drop_replicate]
  congr 1
  simp; omega
theorem rowL_out (m : List (Nat × Nat)) (x : Nat × Nat) (c c' : Nat) :
    rowL (m ++ [x]) c' = .cells (((flatA (m.map lumE) ++ List.replicate ((c - m.length) * 2) AV.top).drop 0).take (m.length * 2) ++ flatA [lumE x] ++ List.replicate ((c' - (m.length + 1)) * 2) .top) := by
  have hA := rowL_len m
  unfold rowL
  congr 1
  rw [List.map_append, lflat_app, List.drop_zero, List.take_append_of_le_length (by rw [hA]; exact Nat.le_refl _), List.take_of_length_le (by rw [hA]; exact Nat.le_refl _)]
  have e2 : flatA ([x].map lumE) = flatA [lumE x] := rfl
  rw [e2]
  congr 2
  simp
theorem rowL_one (x : Nat × Nat) (c : Nat) : rowL [x] c = .cells (flatA [lumE x] ++ List.replicate ((c - 1) * 2) .top) := rfl
theorem bucksF_lum : ∀ (ls : List (List Span)) (i : Nat), i + ls.length ≤ 64 → (bucksF i ls).map lumpU = lumpsA i ls := by
  intro ls
  induction ls with
  | nil => intro i _; rfl
  | cons l r ih =>
    intro i h
    rw [List.length_cons] at h
    have hu := units_two (i := i) (by omega)
    show (l.map (fun s => (s, i)) ++ bucksF (i + 1) r).map lumpU = l.map (fun s => (s.b, 2 ^ i)) ++ lumpsA (i + 1) r
    rw [List.map_append, ih (i + 1) (by omega), List.map_map]
    congr 1
    apply List.map_congr_left
    intro s _
    show (s.b, units i) = _
    rw [hu]
theorem lumpU_eq : ∀ (l : List Hist), (∀ h ∈ l, h.ls.length ≤ 53) → (bucksH l).map lumpU = lumpsP l := by
  intro l
  induction l with
  | nil => intro _; rfl
  | cons h r ih =>
    intro hh
    have e1 : bucksH (h :: r) = bucksF 0 h.ls ++ bucksH r := by unfold bucksH; rw [List.flatMap_cons]
    rw [e1, List.map_append, ih (fun x hx => hh x (by simp [hx])), lumpsP_cons, bucksF_lum h.ls 0 (by have := hh h (by simp); omega)]
theorem lumpsP_len (l : List Hist) (hg : ∀ h ∈ l, h.Good) : (lumpsP l).length ≤ l.length * 60000 := by
  rw [← (lumpsR_perm l).length_eq]; exact lumpsR_len l hg
theorem Disj.sub {T A B : Store} (h : Disj T A) (hs : Sub B A) : Disj T B := fun q => by
  cases hb : B q with
  | none => exact Or.inl rfl
  | some y =>
    rcases h q with e | e
    · rw [hs _ _ hb] at e; cases e
    · exact Or.inr e
theorem Disj.at {T E : Store} {k : Key} {y : Blk} (h : Disj T E) (hk : E k = some y) : T k = none := by
  rcases h k with e | e
  · rw [hk] at e; cases e
  · exact e
theorem flat_at : ∀ (m : List (Nat × Nat)) (i : Nat) (hi : i < m.length) (R : List AV), ((flatA (m.map lumE) ++ R).drop (i * 2)).take 2 = [u64 (m[i]).1, u64 (m[i]).2] := by
  intro m
  induction m with
  | nil => intro i hi; cases hi
  | cons x r ih =>
    intro i hi R
    have e : flatA ((x :: r).map lumE) ++ R = u64 x.1 :: u64 x.2 :: (flatA (r.map lumE) ++ R) := by
      rw [List.map_cons]; rfl
    rw [e]
    cases i with
    | zero => rfl
    | succ i =>
      rw [show (i + 1) * 2 = i * 2 + 1 + 1 by omega, List.drop_succ_cons, List.drop_succ_cons, ih i (by simpa using hi)]
      rfl
theorem sumW_mem {l : List (Nat × Nat)} : ∀ x ∈ l, x.2 ≤ sumW l := by
  induction l with
  | nil => intro x hx; cases hx
  | cons y r ih =>
    intro x hx
    rw [sumW_cons]
    rcases List.mem_cons.1 hx with rfl | hx
    · omega
    · have := ih x hx; omega
end Go.Sk
end

-- W10e
section
namespace Go.Sk
open Go Go.Proofs

set_option maxHeartbeats 2000000 in
set_option maxRecDepth 8000 in
theorem replay_With (evs : List Event) (l : List Hist) (hn : l.length < 1048576) (hne : evs.length < 1048576) (hoe : ∀ e ∈ evs, e.Ok) (hf : ∀ h ∈ l, h.Fine) (hg4 : ∀ h ∈ l, h.g ≤ 4) :
    Pure Tryz.prog 31 [.p (evsP evs), .p (.sl (l.map Hist.cs))] (.tuple [(withV evs l).1.av, i64 (withV evs l).2]) := fun S => by
  refine callR_of Tryz.func31 rfl rfl (xc_ok (bitB 38942524475571453149370480702712819) _ _ _ ?_)
  simp only [go_sem]
  refine alloc_intro fun c4 h4 => ?_
  have y4 : S (.r c4) = none := h4
  simp only [go_sem]
  by_cases hl0 : l = []
  · subst hl0
    simp only [go_sem, List.map_nil]
    (refine ⟨S, by (repeat (first | exact Sub.refl _ | refine Sub.setF ?_ (by first | assumption | simp only [*]) | refine Sub.setV ?_ (by first | assumption | simp only [*]))), ?_⟩); simp [withV, zeroH]
  have hlen : 0 < l.length := List.length_pos_iff.2 hl0
  have q0 : (l.length == 0) = false := by simpa using hl0
  simp only [go_sem, q0, List.length_map]
  refine (contains_any _ _ with_empty evs (by omega)).useA ?_
  cases hem : evs.any (fun e => e.w == 0)
  rotate_left
  · simp only [go_sem]
    (refine ⟨S, by (repeat (first | exact Sub.refl _ | refine Sub.setF ?_ (by first | assumption | simp only [*]) | refine Sub.setV ?_ (by first | assumption | simp only [*]))), ?_⟩); simp [withV, zeroH, hem]
  obtain ⟨k0, hk0⟩ : ∃ k0, (l.headD zeroH).k = k0 := ⟨_, rfl⟩
  have hk0' : (l[0]).k = k0 := by rw [← hk0]; cases l with | nil => exact absurd rfl hl0 | cons a r => rfl
  simp only [go_sem, hlen, ltN' hlen, getD_map' _ _ _ _ hlen, hk0', List.length_map]
  refine alloc_intro fun c8 h8 => ?_
  simp only [fresh_set] at h8
  have y8 : S (.r c8) = none := h8.2
  simp only [go_sem, h8]
  refine alloc_intro fun c9 h9 => ?_
  simp only [fresh_set] at h9
  have y9 : S (.r c9) = none := h9.2.2
  simp only [go_sem, h8, h9]
  have hsl : ∀ h ∈ l, h.ls.length ≤ 53 ∧ totN 0 h.ls ≤ 4503599627370496 := fun h hh => ⟨(hf h hh).good.len, (hf h hh).good.tot⟩
  refine AWP.roam (ι := Nat) (fun i => i ≤ l.length ∧ ∀ j (h : j < i) (h2 : j < l.length), (l[j]).k = k0)
    (fun i => ⟨Env.get [(0, .p (evsP evs)), (1, .p (.sl (l.map Hist.cs))), (4, .sp c4 0), (6, .fn (.func 85) [] []), (7, .fn (.func 86) [] []), (8, .sp c8 0), (9, .sp c9 0), (36, .p (.sl (l.map Hist.cs))), (37, i64 l.length), (38, i64 i)],
      ((S.set (.r c4) (.cells [i64 0, i64 0, .nils])).set (.r c8) (.cells [i64 k0, i64 (gA (l.take i)), .nils])).set (.r c9) (.cells (scaleC (layN (4503599627370496, false) (totsL (l.take i))))), 128, []⟩) (fun i => l.length - i) 0 ⟨Nat.zero_le _, fun j h => by omega⟩ ?_ ?_
  · refine le_of (by simp only [go_sem, List.length_map] <;> rfl) ?_ rfl rfl (by simp)
    ((try dsimp only); (repeat refine sub_set ?_ ?_) <;> first | ((repeat (first | exact Sub.refl _ | refine Sub.setF ?_ (by first | assumption | simp only [*]) | refine Sub.setV ?_ (by first | assumption | simp only [*]))); done) | (simp only [go_sem, h8, h9, List.take_zero, gA, totsL, layN, scaleC, List.foldl_nil, List.map_nil]; done) | (simp only [go_sem, h8, h9, List.take_zero, gA, totsL, layN, scaleC, List.foldl_nil, List.map_nil]; rfl) | rfl)
  · rintro i ⟨hi, hall⟩ ih
    refine AWPH.step (xc_ok (bitB 38942524475571453149370480702712819) _ _ _ ?_)
    by_cases c : i < l.length
    · have hsi := hsl _ (List.getElem_mem c)
      have hgi := hg4 _ (List.getElem_mem c)
      have hgi0 := (hf _ (List.getElem_mem c)).g0
      have hsn := gA_snoc l i c
      have htn := totsL_snoc l i c
      have hgt := gA_le (l := l.take i) (fun h hh => hg4 h (List.mem_of_mem_take hh))
      have hln := layN_snoc (4503599627370496, false) (totsL (l.take i)) (totN 0 (l[i]).ls)
      have hll := layN_lt (totsL (l.take i)) (4503599627370496, false)
      have hkk : (l[i]).k ≠ k0 → (l.any fun h => h.k != (l.headD zeroH).k) = true := fun h => List.any_eq_true.2 ⟨_, List.getElem_mem c, by rw [hk0]; simpa using h⟩
      have hget : (l.map Hist.cs).getD i [] = [.int .i64 (l[i]).k, .int .i64 (l[i]).g, .sl ((l[i]).ls.map lvE)] := by
        rw [getD_map' _ _ _ _ c]; rfl
      simp only [go_sem, c, ltN' c, hget, List.length_map]
      refine alloc_intro fun c11 h11 => ?_
      simp only [fresh_set] at h11
      simp only [go_sem, h8, h9, h11]
      by_cases hk : (l[i]).k = k0
      · have e1 : ((l[i]).k != k0) = false := by simpa using hk
        simp only [go_sem, e1, h8, h9, h11]
        have htv : totV (l[i]).ls = totN 0 (l[i]).ls := totV_eq (by omega)
        have ew : wi ((l[i]).g + 1) = (l[i]).g + 1 := wi_id (by omega) (by omega)
        have emax : (if (l[i]).g + 1 > gA (l.take i) then (l[i]).g + 1 else gA (l.take i)) = gA (l.take (i + 1)) := by rw [hsn]; split <;> omega
        refine (hist_Total (l[i]).k (l[i]).g (l[i]).ls (by omega)).useA ?_
        rw [htv, ew, emax]
        simp only [go_sem, h8, h9, h11]
        refine (lay_in (layN (4503599627370496, false) (totsL (l.take i))) (totN 0 (l[i]).ls) (by dsimp only at hll; omega) (by simp only [go_sem, h8, h9, h11])).useA ?_
        rintro _ _ ⟨rfl, rfl⟩
        rw [← hln, ← htn]
        simp only [go_sem, h8, h9, h11]
        refine (ih (i + 1) ⟨c, fun j h h2 => ?_⟩ (by omega)).back ?_ (by simp) ?_
        · rcases Nat.lt_or_ge j i with hj | hj
          · exact hall j hj h2
          · obtain rfl : j = i := by omega
            exact hk
        · ((try dsimp only); (repeat refine sub_set ?_ ?_) <;> first | ((repeat (first | exact Sub.refl _ | refine Sub.setF ?_ (by first | assumption | simp only [*]) | refine Sub.setV ?_ (by first | assumption | simp only [*]))); done) | (simp only [go_sem, h8, h9, h11]; done) | (simp only [go_sem, h8, h9, h11]; rfl) | rfl)
        · simp only [go_sem, wi_succ (show i < 4611686018427387904 by omega)]
      · have e1 : ((l[i]).k != k0) = true := by simpa using hk
        simp only [go_sem, e1, h8, h9, h11]
        rw [withV_k hl0 hem (hkk hk)]
        (refine ⟨S, by (repeat (first | exact Sub.refl _ | refine Sub.setF ?_ (by first | assumption | simp only [*]) | refine Sub.setV ?_ (by first | assumption | simp only [*]))), ?_⟩); simp [zeroH]
    · obtain rfl : i = l.length := by omega
      have hnk : l.any (fun h => h.k != (l.headD zeroH).k) = false := by
        rw [List.any_eq_false]
        intro h hh
        obtain ⟨j, hj, rfl⟩ := List.getElem_of_mem hh
        rw [hk0, hall j hj hj]; simp
      have hgl := gA_le (l := l) hg4
      have hge := gA_eq hl0 (fun h hh => (hf h hh).g0)
      have hTl : (totsL l).sum = sumT l := rfl
      simp only [go_sem, List.take_length, evsP, List.length_map]
      have hll := layN_lt (totsL l) (4503599627370496, false)
      obtain ⟨s0, hs0⟩ : ∃ s0, layN (4503599627370496, false) (totsL l) = s0 := ⟨_, rfl⟩
      rw [hs0] at hll ⊢
      dsimp only at hll
      refine AWP.iter (fun i => ⟨Env.get [(0, .p (evsP evs)), (1, .p (.sl (l.map Hist.cs))), (4, .sp c4 0), (7, .fn (.func 86) [] []), (8, .sp c8 0), (9, .sp c9 0), (60, .p (evsP evs)), (61, i64 evs.length), (62, i64 i)],
        ((S.set (.r c4) (.cells [i64 0, i64 0, .nils])).set (.r c8) (.cells [i64 k0, i64 (gA l), .nils])).set (.r c9) (.cells (scaleC (layN s0 ((evs.take i).map Event.w)))), 128, []⟩) evs.length ?_ ?_ ?_
      · refine le_of (by simp only [go_sem, evsP, List.length_map] <;> rfl) ?_ rfl rfl (by simp)
        ((try dsimp only); (repeat refine sub_set ?_ ?_) <;> first | ((repeat (first | exact Sub.refl _ | refine Sub.setF ?_ (by first | assumption | simp only [*]) | refine Sub.setV ?_ (by first | assumption | simp only [*]))); done) | (simp only [go_sem, h8, h9, List.take_zero, List.map_nil, layN, List.foldl_nil]; done) | (simp only [go_sem, h8, h9, List.take_zero, List.map_nil, layN, List.foldl_nil]; rfl) | rfl)
      · intro i hi ih
        have hli := layN_lt ((evs.take i).map Event.w) s0
        have hwi := (hoe _ (List.getElem_mem hi)).w
        refine AWPH.step (xc_ok (bitB 38942524475571453149370480702712819) _ _ _ ?_)
        simp only [go_sem, evsP, hi, ltN' hi, getD_map' _ _ _ _ hi, List.length_map]
        refine alloc_intro fun c13 h13 => ?_
        simp only [fresh_set] at h13
        simp only [go_sem, h8, h9, h13]
        refine (lay_in (layN s0 ((evs.take i).map Event.w)) (evs[i]).w (by omega) (by simp only [go_sem, h8, h9, h13])).useA ?_
        rintro _ _ ⟨rfl, rfl⟩
        rw [← layN_snoc, ← evW_snoc _ _ hi]
        simp only [go_sem, h8, h9, h13]
        refine ih.back ?_ (by simp) ?_
        · ((try dsimp only); (repeat refine sub_set ?_ ?_) <;> first | ((repeat (first | exact Sub.refl _ | refine Sub.setF ?_ (by first | assumption | simp only [*]) | refine Sub.setV ?_ (by first | assumption | simp only [*]))); done) | (simp only [go_sem, h8, h9, h13]; done) | (simp only [go_sem, h8, h9, h13]; rfl) | rfl)
        · simp only [go_sem, evsP, wi_succ (show i < 4611686018427387904 by omega)]
      · refine AWPH.step (xc_ok (bitB 38942524475571453149370480702712819) _ _ _ ?_)
        have hov := over_eq l evs
        rw [hs0] at hov
        simp only [go_sem, h8, h9, evsP, List.take_length, List.length_map]
        by_cases t1 : gA l > 4
        · simp only [go_sem, t1, h8, h9]
          rw [withV_g hl0 hem hnk (by omega)]
          (refine ⟨S, by (repeat (first | exact Sub.refl _ | refine Sub.setF ?_ (by first | assumption | simp only [*]) | refine Sub.setV ?_ (by first | assumption | simp only [*]))), ?_⟩); simp [zeroH]
        simp only [go_sem, t1, h8, h9]
        refine (contains_any _ _ with_far evs (by omega)).useA ?_
        cases hfr : evs.any (fun e => decide (9223372036854775807 < e.t))
        rotate_left
        · simp only [go_sem, h8, h9]
          rw [withV_t hl0 hem hnk (by omega) hfr]
          (refine ⟨S, by (repeat (first | exact Sub.refl _ | refine Sub.setF ?_ (by first | assumption | simp only [*]) | refine Sub.setV ?_ (by first | assumption | simp only [*]))), ?_⟩); simp [zeroH]
        simp only [go_sem, h8, h9, scaleC, hov]
        by_cases t2 : 4503599627370496 < sumT l + sumE Event.w evs
        · simp only [go_sem, t2, h8, h9]
          rw [withV_o hl0 hem hnk (by omega) hfr t2]
          (refine ⟨S, by (repeat (first | exact Sub.refl _ | refine Sub.setF ?_ (by first | assumption | simp only [*]) | refine Sub.setV ?_ (by first | assumption | simp only [*]))), ?_⟩); simp [zeroH]
        simp only [go_sem, t2, h8, h9]
        have hcm := came_of hf hl0 hem hnk (by omega) hfr t2
        refine alloc_intro fun c14 h14 => ?_
        simp only [fresh_set] at h14
        have y14 : S (.r c14) = none := h14.2.2.2
        simp only [go_sem, h8, h9, h14]
        refine (lumps_it l _).useA ?_
        rintro _ _ ⟨b, hb, rfl, rfl⟩
        simp only [fresh_set] at hb
        have yb : S (.r b) = none := hb.2.2.2.2
        simp only [go_sem, h8, h9, h14, hb]
        obtain ⟨L, hL⟩ : ∃ L, (bucksH l).map lumpU = L := ⟨_, rfl⟩
        have hLl : L.length = (bucksH l).length := by rw [← hL, List.length_map]
        have hseq := lumps1 l (by omega) (fun h hh => ⟨by have := (hsl h hh).1; omega, fun x hx => by have := (hf h hh).good.sm x hx; have := (hf h hh).good.k1; omega⟩) (T0 := eS.set (.r b) (.cells [.p (.sl (l.map Hist.cs))])) (b := b) (by simp only [go_sem])
        have hitem : ∀ j, j < L.length → itemsH (bucksH l) j = [.agg ((lumE (L.getD j default)).map .p)] := fun j hj => by
          rw [hLl] at hj
          unfold itemsH
          rw [← hL, getD_map' _ _ _ _ hj]
          simp [List.getD_eq_getElem?_getD, hj, lumE, lumpU]
        rw [← hLl] at hseq
        generalize itemsH (bucksH l) = IT at *
        have hLP : L = lumpsP l := by rw [← hL]; exact lumpU_eq l (fun h hh => (hsl h hh).1)
        have hLbig : L.length ≤ 62914560000 := by
          rw [hLP]
          have := lumpsP_len l (fun h hh => (hf h hh).good)
          have h3 : l.length * 60000 ≤ 1048576 * 60000 := Nat.mul_le_mul_right _ (by omega)
          omega
        refine AWP.rangeE (ι := {y : Nat × Nat // (¬ y.1 = c4 ∧ ¬ c4 = y.1) ∧ (¬ y.1 = c8 ∧ ¬ c8 = y.1) ∧ (¬ y.1 = c14 ∧ ¬ c14 = y.1) ∧ S (.r y.1) = none}) (f := 147) (first := []) (caps := [.sp b 0]) (by simp only [go_sem]) _
          (fun j y => rowS ((S.set (.r c4) (.cells [i64 0, i64 0, .nils])).set (.r c8) (.cells [i64 k0, i64 (gA l), .nils])) c14 (L.take j) y.1) ⟨(b, 0), hb.2.2.2.1, hb.2.2.1, hb.1, yb⟩
          ?_ ?_ hseq (enterable_of Tryz.func147 rfl rfl) (fun _ _ => False) (fun j hj => by rw [hitem j hj]; rfl) (by simp) ?_ ?_ ?_
        · refine sub_joinT (sub_join0 ?_) ?_ ?_
          · rw [List.take_zero, rowS_nil]
            ((try dsimp only); (repeat refine sub_set ?_ ?_) <;> first | ((repeat (first | exact Sub.refl _ | refine Sub.setF ?_ (by first | assumption | simp only [*]) | refine Sub.setV ?_ (by first | assumption | simp only [*]))); done) | (simp only [go_sem, h8, h9, h14, hb]; done) | (simp only [go_sem, h8, h9, h14, hb]; rfl) | rfl)
          all_goals simp only [go_sem, h8, h9, h14, hb, yb, rowS_nil, List.take_zero]
        · rw [List.take_zero, rowS_nil]
          refine (Disj.nil _).setT ?_ _
          simp only [go_sem, h8, h9, h14, hb, yb]
        · rintro j ⟨⟨b1, r1⟩, z4, z8, z14, zS⟩ ll hj T hT hdT
          dsimp only at z4 z8 z14 zS hdT ⊢
          refine xc_ok (bitB 38942524475571453149370480702712819) _ _ _ ?_
          rw [hitem j hj]
          simp only [go_sem]
          refine alloc_intro fun e he => ?_
          have hje := join_none he
          obtain ⟨M, hM⟩ : ∃ M, L.take j = M := ⟨_, rfl⟩
          obtain ⟨x, hx⟩ : ∃ x, L.getD j default = x := ⟨_, rfl⟩
          have hnext : L.take (j + 1) = M ++ [x] := by rw [List.take_succ_eq_append_getElem hj, hM, ← hx]; simp [List.getD_eq_getElem?_getD, hj]
          have hMl : M.length = j := by rw [← hM, List.length_take]; exact Nat.min_eq_left (Nat.le_of_lt hj)
          rw [hM] at hje hdT ⊢
          rw [hx, hnext]
          clear he
          by_cases hM0 : M = []
          · rw [hM0] at hje hdT ⊢
            rw [rowS_nil] at hje hdT ⊢
            have n4 : ¬ c4 = e ∧ ¬ e = c4 := by constructor <;> rintro rfl <;> simp [Store.set, h8, h14] at hje
            have n8 : ¬ c8 = e ∧ ¬ e = c8 := by constructor <;> rintro rfl <;> simp [Store.set, h14] at hje
            have n14 : ¬ c14 = e ∧ ¬ e = c14 := by constructor <;> rintro rfl <;> simp [Store.set] at hje
            have ge : S (.r e) = none := by have := hje.2; simpa [Store.set, n4, n8, n14] using this
            simp only [go_sem, lumE]
            refine ⟨_, by rw [join_set]; exact Sub.refl _, hdT.set hje.1 _, fun T' hT' hdT' => ?_⟩
            refine xc_ok (bitB 38942524475571453149370480702712819) _ _ _ ?_
            simp only [go_sem, h8, h14, n4, n8, n14, lumE]
            refine ⟨by rintro el rfl; rfl, own_intro (by simp) fun b2 cc hb2 hcc => ?_⟩
            have hjb := join_none hb2
            have m4 : ¬ c4 = b2 ∧ ¬ b2 = c4 := by constructor <;> rintro rfl <;> simp [Store.set, h8, h14, n4] at hjb
            have m8 : ¬ c8 = b2 ∧ ¬ b2 = c8 := by constructor <;> rintro rfl <;> simp [Store.set, h14, n8] at hjb
            have m14 : ¬ c14 = b2 ∧ ¬ b2 = c14 := by constructor <;> rintro rfl <;> simp [Store.set, n14] at hjb
            have me : ¬ e = b2 ∧ ¬ b2 = e := by constructor <;> rintro rfl <;> simp [Store.set] at hjb
            have gb : S (.r b2) = none := by have := hjb.2; simpa [Store.set, m4, m8, m14, me] using this
            have hcc' : 1 ≤ cc := by simpa using hcc
            have hc1 : 1 + (cc - 1) = cc := by omega
            simp only [go_sem, h8, h14, n4, n8, n14, m4, m8, m14, me]
            have t14 : T' (.r c14) = none := hdT'.at (y := .cells [.nils]) (by simp only [go_sem, n14])
            rw [join_set, join_set]
            have hF := fun x1 x2 => (hdT'.set hjb.1 x1).set t14 x2
            refine ⟨⟨(b2, cc - 1), ⟨m4.2, m4.1⟩, ⟨m8.2, m8.1⟩, ⟨m14.2, m14.1⟩, gb⟩, (fun hS => ⟨Sub.joinD hS (hF _ _), (hF _ _).sub hS⟩ : Sub _ _ → _ ∧ _) ?_⟩
            rw [rowS_ne (by simp)]
            dsimp only
            rw [show [x].length + (cc - 1) = cc from hc1, rowL_one]
            ((try dsimp only); (repeat refine sub_set ?_ ?_) <;> first | ((repeat (first | exact Sub.refl _ | refine Sub.setF ?_ (by first | assumption | simp only [*]) | refine Sub.setV ?_ (by first | assumption | simp only [*]))); done) | (simp only [go_sem, h8, h14, n4, n8, n14, m4, m8, m14, me, ge, gb, lumE, List.length_cons, List.length_nil]; done) | (simp only [go_sem, h8, h14, n4, n8, n14, m4, m8, m14, me, ge, gb, lumE, List.length_cons, List.length_nil]; rfl) | rfl)
          · rw [rowS_ne hM0] at hje hdT ⊢
            dsimp only at hje hdT ⊢
            have n4 : ¬ c4 = e ∧ ¬ e = c4 := by constructor <;> rintro rfl <;> simp [Store.set, h8, h14, z4] at hje
            have n8 : ¬ c8 = e ∧ ¬ e = c8 := by constructor <;> rintro rfl <;> simp [Store.set, h14, z8] at hje
            have n14 : ¬ c14 = e ∧ ¬ e = c14 := by constructor <;> rintro rfl <;> simp [Store.set] at hje
            have n1 : ¬ b1 = e ∧ ¬ e = b1 := by constructor <;> rintro rfl <;> simp [Store.set, z14] at hje
            have ge : S (.r e) = none := by have := hje.2; simpa [Store.set, n4, n8, n14, n1] using this
            have hA := rowL_len M
            simp only [go_sem, lumE]
            refine ⟨_, by rw [join_set]; exact Sub.refl _, hdT.set hje.1 _, fun T' hT' hdT' => ?_⟩
            refine xc_ok (bitB 38942524475571453149370480702712819) _ _ _ ?_
            simp only [go_sem, h8, h14, n4, n8, n14, n1, z4, z8, z14, rowL]
            have t14 : T' (.r c14) = none := hdT'.at (y := .cells [.ms b1 2 0 M.length (M.length + r1)]) (by simp only [go_sem, n14])
            have tb1 : T' (.r b1) = none := hdT'.at (y := rowL M (M.length + r1)) (by simp only [go_sem, n14, n1, z14])
            have hlx : (M ++ [x]).length = M.length + 1 := by rw [List.length_append]; rfl
            have hlA : (flatA (List.map lumE M) ++ List.replicate ((M.length + r1 - M.length) * 2) AV.top).length = (M.length + r1) * 2 := by
              rw [List.length_append, hA, List.length_replicate]; omega
            refine ⟨by rintro el rfl; rfl, by rw [hlA]; omega, rfl, more_two (by omega) (by omega) (fun hin => ⟨by rw [hlA]; omega, ?_⟩) (fun hout b2 cc hb2 hcc => ?_)⟩
            · simp only [go_sem, h8, h14, n4, n8, n14, n1, z4, z8, z14]
              rw [join_set, join_set]
              have hF := fun x1 x2 => (hdT'.set tb1 x1).set t14 x2
              refine ⟨⟨(b1, r1 - 1), z4, z8, z14, zS⟩, (fun hS => ⟨Sub.joinD hS (hF _ _), (hF _ _).sub hS⟩ : Sub _ _ → _ ∧ _) ?_⟩
              rw [rowS_ne (by simp)]
              dsimp only
              have hin' := rowL_in M x (M.length + r1) hin
              simp only [splice, Nat.zero_add] at hin'
              rw [hlx, show M.length + 1 + (r1 - 1) = M.length + r1 by omega, hin']
              ((try dsimp only); (repeat refine sub_set ?_ ?_) <;> first | ((repeat (first | exact Sub.refl _ | refine Sub.setF ?_ (by first | assumption | simp only [*]) | refine Sub.setV ?_ (by first | assumption | simp only [*]))); done) | (simp only [go_sem, h8, h14, n4, n8, n14, n1, z4, z8, z14, ge, zS, lumE]; done) | (simp only [go_sem, h8, h14, n4, n8, n14, n1, z4, z8, z14, ge, zS, lumE]; rfl) | rfl)
            · have hjb := join_none hb2
              have m4 : ¬ c4 = b2 ∧ ¬ b2 = c4 := by constructor <;> rintro rfl <;> simp [Store.set, h8, h14, n4, z4] at hjb
              have m8 : ¬ c8 = b2 ∧ ¬ b2 = c8 := by constructor <;> rintro rfl <;> simp [Store.set, h14, n8, z8] at hjb
              have m14 : ¬ c14 = b2 ∧ ¬ b2 = c14 := by constructor <;> rintro rfl <;> simp [Store.set, n14] at hjb
              have m1 : ¬ b1 = b2 ∧ ¬ b2 = b1 := by constructor <;> rintro rfl <;> simp [Store.set, n1, z14] at hjb
              have me : ¬ e = b2 ∧ ¬ b2 = e := by constructor <;> rintro rfl <;> simp [Store.set] at hjb
              have gb : S (.r b2) = none := by have := hjb.2; simpa [Store.set, m4, m8, m14, m1, me] using this
              simp only [go_sem, h8, h14, n4, n8, n14, n1, z4, z8, z14, m4, m8, m14, m1, me]
              rw [join_set, join_set]
              have hF := fun x1 x2 => (hdT'.set hjb.1 x1).set t14 x2
              refine ⟨⟨(b2, cc - (M.length + 1)), ⟨m4.2, m4.1⟩, ⟨m8.2, m8.1⟩, ⟨m14.2, m14.1⟩, gb⟩, (fun hS => ⟨Sub.joinD hS (hF _ _), (hF _ _).sub hS⟩ : Sub _ _ → _ ∧ _) ?_⟩
              rw [rowS_ne (by simp)]
              dsimp only
              rw [hlx, show M.length + 1 + (cc - (M.length + 1)) = cc by omega, rowL_out M x (M.length + r1) cc]
              ((try dsimp only); (repeat refine sub_set ?_ ?_) <;> first | ((repeat (first | exact Sub.refl _ | refine Sub.setF ?_ (by first | assumption | simp only [*]) | refine Sub.setV ?_ (by first | assumption | simp only [*]))); done) | (simp only [go_sem, h8, h14, n4, n8, n14, n1, z4, z8, z14, m4, m8, m14, m1, me, ge, gb, zS, lumE]; done) | (simp only [go_sem, h8, h14, n4, n8, n14, n1, z4, z8, z14, m4, m8, m14, m1, me, ge, gb, zS, lumE]; rfl) | rfl)
        · rintro ⟨⟨b1, r1⟩, z4, z8, z14, zS⟩ d hd
          dsimp only at z4 z8 z14 zS hd ⊢
          have hjd := join_none hd
          rw [List.take_length] at hjd ⊢
          have db : ¬ b = d ∧ ¬ d = b := by constructor <;> rintro rfl <;> simp [Store.set] at hjd
          obtain ⟨y, hy⟩ : ∃ y : {y : Nat × Nat // (¬ y.1 = c4 ∧ ¬ c4 = y.1) ∧ (¬ y.1 = c8 ∧ ¬ c8 = y.1) ∧ (¬ y.1 = c14 ∧ ¬ c14 = y.1) ∧ (¬ y.1 = d ∧ ¬ d = y.1) ∧ S (.r y.1) = none},
              rowS ((S.set (.r c4) (.cells [i64 0, i64 0, .nils])).set (.r c8) (.cells [i64 k0, i64 (gA l), .nils])) c14 L (b1, r1) = rowS ((S.set (.r c4) (.cells [i64 0, i64 0, .nils])).set (.r c8) (.cells [i64 k0, i64 (gA l), .nils])) c14 L y.1 := by
            by_cases hL0 : L = []
            · refine ⟨⟨(b, 0), hb.2.2.2.1, hb.2.2.1, hb.1, db, yb⟩, ?_⟩
              rw [hL0, rowS_nil, rowS_nil]
            · have d1 : ¬ b1 = d ∧ ¬ d = b1 := by
                rw [rowS_ne hL0] at hjd
                constructor <;> rintro rfl <;> simp [Store.set, z14] at hjd
              exact ⟨⟨(b1, r1), z4, z8, z14, d1, zS⟩, rfl⟩
          rw [hy] at hjd ⊢
          have d14 : ¬ c14 = d ∧ ¬ d = c14 := by
            have := hjd.2
            unfold rowS at this
            constructor <;> rintro rfl <;> (split at this <;> simp [Store.set] at this)
          have hrow : ∀ k, rowS ((S.set (.r c4) (.cells [i64 0, i64 0, .nils])).set (.r c8) (.cells [i64 k0, i64 (gA l), .nils])) c14 L y.1 k = none → ((S.set (.r c4) (.cells [i64 0, i64 0, .nils])).set (.r c8) (.cells [i64 k0, i64 (gA l), .nils])) k = none := by
            intro k hk
            unfold rowS at hk
            split at hk <;> (simp only [Store.set] at hk ⊢; (repeat' split at hk) <;> simp_all)
          have hjd2 := hrow _ hjd.2
          have d4 : ¬ c4 = d ∧ ¬ d = c4 := by constructor <;> rintro rfl <;> simp [Store.set, h8] at hjd2
          have d8 : ¬ c8 = d ∧ ¬ d = c8 := by constructor <;> rintro rfl <;> simp [Store.set] at hjd2
          have gd : S (.r d) = none := by simpa [Store.set, d4, d8] using hjd2
          have hMbig : ∀ i, (L ++ evL (evs.take i)).length ≤ 62915608576 := fun i => by
            have : (evL (evs.take i)).length ≤ evs.length := by unfold evL; rw [List.length_map, List.length_take]; omega
            rw [List.length_append]; omega
          simp only [go_sem]
          refine AWP.iterE (ι := {y : Nat × Nat // (¬ y.1 = c4 ∧ ¬ c4 = y.1) ∧ (¬ y.1 = c8 ∧ ¬ c8 = y.1) ∧ (¬ y.1 = c14 ∧ ¬ c14 = y.1) ∧ (¬ y.1 = d ∧ ¬ d = y.1) ∧ S (.r y.1) = none})
            (fun y i => ⟨Env.get [(4, .sp c4 0), (8, .sp c8 0), (14, .sp c14 0), (94, .p (evsP evs)), (95, i64 evs.length), (96, i64 i)],
              (rowS ((S.set (.r c4) (.cells [i64 0, i64 0, .nils])).set (.r c8) (.cells [i64 k0, i64 (gA l), .nils])) c14 (L ++ evL (evs.take i)) y.1).set (.r d) mark0, 128, [d]⟩) evs.length y ?_ ?_ ?_
          · refine le_of (by simp only [go_sem, evsP, List.length_map] <;> rfl) ?_ rfl rfl (fun r hr => by rw [List.mem_singleton.1 hr, Store.set_same])
            rw [List.take_zero, show L ++ evL [] = L from List.append_nil L]
            exact Sub.both (Sub.joinL (Sub.refl _)) _ _
          · rintro i ⟨⟨b1, r1⟩, z4, z8, z14, zd, zS⟩ hi ih
            dsimp only at z4 z8 z14 zd zS ih ⊢
            have hqi : wi ((i : Int) + 1) = ((i + 1 : Nat) : Int) := wi_succ (show i < 4611686018427387904 by clear h8 h9 h14 hb; omega)
            have hMb := hMbig i
            have hnext : L ++ evL (evs.take (i + 1)) = (L ++ evL (evs.take i)) ++ [((evs[i]).t, (evs[i]).w)] := by
              unfold evL
              rw [List.take_succ_eq_append_getElem hi, List.map_append, List.append_assoc]; rfl
            rw [hnext] at ih
            generalize L ++ evL (evs.take i) = M at *
            refine AWPH.step (xc_ok (bitB 38942524475571453149370480702712819) _ _ _ ?_)
            by_cases hM0 : M = []
            · rw [hM0, List.nil_append] at ih
              rw [hM0, rowS_nil]
              simp only [go_sem, evsP, hi, ltN' hi, getD_map' _ _ _ _ hi, List.length_map]
              refine alloc_intro fun e he => ?_
              simp only [fresh_set] at he
              simp only [go_sem, he, h8, h14, d14]
              refine ⟨by rintro el rfl; rfl, own_intro (by simp) fun b2 cc hb2 hcc => ?_⟩
              simp only [fresh_set] at hb2
              have hcc' : 1 ≤ cc := by simpa using hcc
              have hc1 : 1 + (cc - 1) = cc := by clear h8 h9 h14 hb he hb2; omega
              simp only [go_sem, he, hb2, h8, h14, d14]
              refine (ih ⟨(b2, cc - 1), hb2.2.2.2.2.1, hb2.2.2.2.1, hb2.2.2.1, hb2.2.1, hb2.2.2.2.2.2⟩).back ?_ (fun r hr => by rw [List.mem_singleton.1 hr, Store.set_same]) ?_
              · rw [rowS_ne (by simp)]
                dsimp only
                rw [show [((evs[i]).t, (evs[i]).w)].length + (cc - 1) = cc from hc1, rowL_one]
                ((try dsimp only); (repeat refine sub_set ?_ ?_) <;> first | ((repeat (first | exact Sub.refl _ | refine Sub.setF ?_ (by first | assumption | simp only [*]) | refine Sub.setV ?_ (by first | assumption | simp only [*]))); done) | (simp only [go_sem, he, hb2, h8, h14, d14, d8, d4, lumE, List.length_cons, List.length_nil]; done) | (simp only [go_sem, he, hb2, h8, h14, d14, d8, d4, lumE, List.length_cons, List.length_nil]; rfl) | rfl)
              · simp only [go_sem, evsP, hqi]
            · rw [rowS_ne hM0]
              dsimp only
              have hA := rowL_len M
              have hlA : (flatA (List.map lumE M) ++ List.replicate ((M.length + r1 - M.length) * 2) AV.top).length = (M.length + r1) * 2 := by
                rw [List.length_append, hA, List.length_replicate]; clear h8 h9 h14 hb; omega
              have hlx : (M ++ [((evs[i]).t, (evs[i]).w)]).length = M.length + 1 := by rw [List.length_append]; rfl
              simp only [go_sem, evsP, hi, ltN' hi, getD_map' _ _ _ _ hi, List.length_map]
              refine alloc_intro fun e he => ?_
              simp only [fresh_set] at he
              simp only [go_sem, he, h8, h14, d14, z14, zd, rowL]
              refine ⟨by rintro el rfl; rfl, by rw [hlA]; clear h8 h9 h14 hb he; omega, rfl, more_two (by clear h8 h9 h14 hb he; omega) (by clear h8 h9 h14 hb he; omega) (fun hin => ⟨by rw [hlA]; clear h8 h9 h14 hb he; omega, ?_⟩) (fun hout b2 cc hb2 hcc => ?_)⟩
              · simp only [go_sem, he, h8, h14, d14, z14, zd]
                refine (ih ⟨(b1, r1 - 1), z4, z8, z14, zd, zS⟩).back ?_ (fun r hr => by rw [List.mem_singleton.1 hr, Store.set_same]) ?_
                · rw [rowS_ne (by simp)]
                  dsimp only
                  have hin' := rowL_in M ((evs[i]).t, (evs[i]).w) (M.length + r1) hin
                  simp only [splice, Nat.zero_add] at hin'
                  rw [hlx, show M.length + 1 + (r1 - 1) = M.length + r1 by clear h8 h9 h14 hb he; omega, hin']
                  ((try dsimp only); (repeat refine sub_set ?_ ?_) <;> first | ((repeat (first | exact Sub.refl _ | refine Sub.setF ?_ (by first | assumption | simp only [*]) | refine Sub.setV ?_ (by first | assumption | simp only [*]))); done) | (simp only [go_sem, he, h8, h14, d14, d8, d4, z14, z8, z4, zd, lumE]; done) | (simp only [go_sem, he, h8, h14, d14, d8, d4, z14, z8, z4, zd, lumE]; rfl) | rfl)
                · simp only [go_sem, evsP, hqi]
              · simp only [fresh_set] at hb2
                simp only [go_sem, he, hb2, h8, h14, d14, z14, zd]
                refine (ih ⟨(b2, cc - (M.length + 1)), hb2.2.2.2.2.2.1, hb2.2.2.2.2.1, hb2.2.2.1, hb2.2.1, hb2.2.2.2.2.2.2⟩).back ?_ (fun r hr => by rw [List.mem_singleton.1 hr, Store.set_same]) ?_
                · rw [rowS_ne (by simp)]
                  dsimp only
                  rw [hlx, show M.length + 1 + (cc - (M.length + 1)) = cc by clear h8 h9 h14 hb he hb2; omega, rowL_out M ((evs[i]).t, (evs[i]).w) (M.length + r1) cc]
                  ((try dsimp only); (repeat refine sub_set ?_ ?_) <;> first | ((repeat (first | exact Sub.refl _ | refine Sub.setF ?_ (by first | assumption | simp only [*]) | refine Sub.setV ?_ (by first | assumption | simp only [*]))); done) | (simp only [go_sem, he, hb2, h8, h14, d14, d8, d4, z14, z8, z4, zd, lumE]; done) | (simp only [go_sem, he, hb2, h8, h14, d14, d8, d4, z14, z8, z4, zd, lumE]; rfl) | rfl)
                · simp only [go_sem, evsP, hqi]
          · rintro ⟨⟨b1, r1⟩, z4, z8, z14, zd, zS⟩
            dsimp only at z4 z8 z14 zd zS ⊢
            refine AWPH.step (xc_ok (bitB 38942524475571453149370480702712819) _ _ _ ?_)
            have hMb := hMbig evs.length
            rw [List.take_length] at hMb ⊢
            obtain ⟨M, hM⟩ : ∃ M, L ++ evL evs = M := ⟨_, rfl⟩
            rw [hM] at hMb ⊢
            have hres : ∀ m' : List (Nat × Nat), m'.Perm M → Ord m' → (withV evs l).1 = foldH ⟨k0, gA l, []⟩ m' ∧ ∀ i, (foldH ⟨k0, gA l, []⟩ (m'.take i)).Good := fun m' hp ho => by
              rw [← hM, hLP] at hp
              obtain ⟨a1, a2⟩ := with_any hcm hp ho (gA l)
              rw [hk0] at a1 a2
              refine ⟨?_, a2⟩
              rw [a1, hge]
              obtain ⟨_, _, b3, b4, _⟩ := with_ok hcm
              rw [← hk0, ← b3, ← b4]
            have hok2 : (withV evs l).2 = 0 := (with_ok hcm).1
            rw [hok2]
            by_cases hM0 : M = []
            · rw [hM0, rowS_nil]
              have hr0 := (hres [] (by rw [hM0]) List.Pairwise.nil).1
              rw [hr0]
              simp only [go_sem, h8, h14, d14, List.length_map]
              refine Or.inr (sort_none Tryz.sortLump (enterable_of Tryz.func90 rfl rfl) ?_)
              simp only [go_sem, h8, h14, d14]
              refine ⟨fun r hr => by subst hr; rw [if_pos rfl], ?_⟩
              refine AWP.head (AWPH.step (xc_ok (bitB 38942524475571453149370480702712819) _ _ _ ?_))
              simp only [go_sem, h8, h14, d14, d8, d4]
              change boolK (.p (.bool false)) _
              simp only [go_sem, h8, h14, d14, d8, d4]
              refine ⟨S, Sub.set (Sub.set (Sub.set (Sub.set (Sub.set (Sub.refl _) y4 _) y8 _) y14 _) gd _) y4 _, fun r hr => hr ▸ gd, ?_⟩
              simp [foldH]
            · rw [rowS_ne hM0]
              dsimp only
              simp only [go_sem, h8, h14, d14, z14, zd, List.length_map]
              refine Or.inr (sort_lu M rfl (by simp only [go_sem, h8, h14, d14, z14, zd]) hM0 (by clear h8 h9 h14 hb; omega) fun m' hp ho => ?_)
              obtain ⟨hr1, hr2⟩ := hres m' hp ho
              rw [hr1]
              have hl' := hp.length_eq
              simp only [go_sem, h8, h14, d14, z14, zd]
              refine ⟨fun r hr => by subst hr; rw [if_neg zd.2, if_pos rfl], ?_⟩
              have hmw : ∀ x ∈ m', x.2 < 18446744073709551616 := fun x hx => by
                have := (came_lumps hcm)
                rw [← hLP, hM] at this
                have h2 := (sumW_perm hp)
                have h3 : x.2 ≤ sumW m' := sumW_mem x hx
                have h5 := hcm.tot
                clear h8 h9 h14 hb; omega
              obtain ⟨F, hF⟩ : ∃ F : Nat → Hist, (fun i => foldH ⟨k0, gA l, []⟩ (m'.take i)) = F := ⟨_, rfl⟩
              have hFi : ∀ i, foldH ⟨k0, gA l, []⟩ (m'.take i) = F i := fun i => by rw [← hF]
              have hFs : ∀ i (h : i < m'.length), F (i + 1) = (addH (F i) (m'[i]).1 (m'[i]).2).1 := fun i h => by
                rw [← hFi, ← hFi, List.take_succ_eq_append_getElem h, foldH_snoc]
              have hFk : ∀ i, i ≤ m'.length → (F i).Good := fun i _ => by rw [← hFi]; exact hr2 i
              have hF0 : F 0 = ⟨k0, gA l, []⟩ := by rw [← hFi]; rfl
              refine AWP.iter (fun i => ⟨Env.get [(4, .sp c4 0), (8, .sp c8 0), (111, .ms b1 2 0 M.length (M.length + r1)), (112, i64 m'.length), (113, i64 i)],
                (((S.set (.r c4) (.cells [i64 0, i64 0, .nils])).set (.r c8) (.cells [i64 (F i).k, i64 (F i).g, if i = 0 then .nils else .p (.sl ((F i).ls.map lvE))])).set (.r b1) (rowL m' (M.length + r1))).set (.r d) mark0, 128, [d]⟩) m'.length ?_ ?_ ?_
              · refine le_of (by simp only [go_sem, hl'] <;> rfl) ?_ rfl rfl (fun r hr => by rw [List.mem_singleton.1 hr, Store.set_same])
                rw [hF0]
                ((try dsimp only); (repeat refine sub_set ?_ ?_) <;> first | ((repeat (first | exact Sub.refl _ | refine Sub.setF ?_ (by first | assumption | simp only [*]) | refine Sub.setV ?_ (by first | assumption | simp only [*]))); done) | (simp only [go_sem, h8, h14, d14, d8, d4, z14, z8, z4, zd]; done) | (simp only [go_sem, h8, h14, d14, d8, d4, z14, z8, z4, zd]; rfl) | rfl)
              · intro i hi ih
                have hqi : wi ((i : Int) + 1) = ((i + 1 : Nat) : Int) := wi_succ (show i < 4611686018427387904 by clear h8 h9 h14 hb; omega)
                refine AWPH.step (xc_ok (bitB 38942524475571453149370480702712819) _ _ _ ?_)
                have hA := rowL_len m'
                have hfa := flat_at m' i hi (List.replicate ((M.length + r1 - m'.length) * 2) AV.top)
                simp only [go_sem, h8, h14, d14, d8, d4, z14, z8, z4, zd, hi, ltN' hi, rowL]
                refine ⟨by clear h8 h9 h14 hb; omega, by rw [List.length_append, hA]; clear h8 h9 h14 hb; omega, alloc_intro fun e he => ?_⟩
                simp only [fresh_set] at he
                have hcall := hist_addH (F i) (hFk i (Nat.le_of_lt hi)).ok (m'[i]).1 (m'[i]).2 (hmw _ (List.getElem_mem hi))
                have hi1 : (i + 1 = 0) = False := by simp
                by_cases hi0 : i = 0
                · subst hi0
                  rw [hF0] at hcall
                  rw [Nat.zero_mul, List.drop_zero] at hfa
                  simp only [go_sem, he, hfa, hF0, h8, h14, d14, d8, d4, z14, z8, z4, zd, if_true]
                  refine hcall.useA ?_
                  have hF1 : (addH ⟨k0, gA l, []⟩ (m'[0]).1 (m'[0]).2).1 = F (0 + 1) := by rw [hFs 0 hi, hF0]
                  rw [hF1]
                  simp only [go_sem, he, h8, h14, d14, d8, d4, z14, z8, z4, zd]
                  refine ⟨fun r hr => by subst hr; rw [if_neg he.1.2, if_pos rfl], ?_⟩
                  refine ih.back ?_ (fun r hr => by rw [List.mem_singleton.1 hr, Store.set_same]) ?_
                  · ((try dsimp only); (repeat refine sub_set ?_ ?_) <;> first | ((repeat (first | exact Sub.refl _ | refine Sub.setF ?_ (by first | assumption | simp only [*]) | refine Sub.setV ?_ (by first | assumption | simp only [*]))); done) | (simp only [go_sem, he, h8, h14, d14, d8, d4, z14, z8, z4, zd, hi1, if_false, rowL]; done) | (simp only [go_sem, he, h8, h14, d14, d8, d4, z14, z8, z4, zd, hi1, if_false, rowL]; rfl) | rfl)
                  · simp only [go_sem, hqi]
                · simp only [go_sem, he, hfa, h8, h14, d14, d8, d4, z14, z8, z4, zd, hi0, if_false]
                  refine hcall.useA ?_
                  rw [← hFs i hi]
                  simp only [go_sem, he, h8, h14, d14, d8, d4, z14, z8, z4, zd]
                  refine ⟨fun r hr => by subst hr; rw [if_neg he.1.2, if_pos rfl], ?_⟩
                  refine ih.back ?_ (fun r hr => by rw [List.mem_singleton.1 hr, Store.set_same]) ?_
                  · ((try dsimp only); (repeat refine sub_set ?_ ?_) <;> first | ((repeat (first | exact Sub.refl _ | refine Sub.setF ?_ (by first | assumption | simp only [*]) | refine Sub.setV ?_ (by first | assumption | simp only [*]))); done) | (simp only [go_sem, he, h8, h14, d14, d8, d4, z14, z8, z4, zd, hi1, if_false, rowL]; done) | (simp only [go_sem, he, h8, h14, d14, d8, d4, z14, z8, z4, zd, hi1, if_false, rowL]; rfl) | rfl)
                  · simp only [go_sem, hqi]
              · refine AWPH.step (xc_ok (bitB 38942524475571453149370480702712819) _ _ _ ?_)
                have hm0 : m'.length ≠ 0 := fun h => hM0 (List.eq_nil_of_length_eq_zero (by rw [← hl', h]))
                simp only [go_sem, h8, h14, d14, d8, d4, z14, z8, z4, zd, hm0, if_false]
                have hFl : foldH ⟨k0, gA l, []⟩ m' = F m'.length := by rw [← hFi, List.take_length]
                refine ⟨S, Sub.set (Sub.set (Sub.set (Sub.set (Sub.set (Sub.refl _) y4 _) y8 _) zS _) gd _) y4 _, fun r hr => hr ▸ gd, ?_⟩
                rw [hFl]
                exact Or.inr ⟨rfl, rfl⟩
        · intro e E' d _ h; exact h.elim
end Go.Sk
end

-- W14d
section
namespace Go.Sk
open Go Go.Proofs

theorem Hist.Ok.lo {h : Hist} (g : h.Good) : h.Lo := g.lo
set_option maxHeartbeats 1000000 in
set_option maxRecDepth 4000 in
theorem ref14_pass (s : Skt) (b : Buf) (out : List Event) (hp : Pre s out) : Pure Tryz.prog 100 [(Skt.mk s.win b s.past).av, .p (evsP out)] (passK s b out).av := fun S => by
  have hn := hp.len
  refine callR_of Tryz.func100 rfl rfl (xc_ok (bitB 2167) _ _ _ ?_)
  simp only [go_sem]
  refine alloc_intro fun c2 h2 => ?_
  simp only [go_sem]
  refine alloc_intro fun c4 h4 => ?_
  simp only [fresh_set] at h4
  simp only [go_sem, h4]
  have y2 : S (.r c2) = none := h2
  have y4 : S (.r c4) = none := h4.2
  have n42 : ¬ c4 = c2 ∧ ¬ c2 = c4 := h4.1
  refine AWP.iter (fun i => ⟨Env.get [(1, .p (evsP out)), (2, .sp c2 0), (4, .sp c4 0), (5, i64 i)], (S.set (.r c2) (.cells [u64 s.win, u64 b.late, i64 b.room, u64 b.mark, u64 b.front, .p (.sl (b.evs.map Event.pv)), i64 (passV s.past (out.take i)).k, i64 (passV s.past (out.take i)).g, .p (.sl ((passV s.past (out.take i)).ls.map lvE))])).set (.r c4) (.cells [u64 0, u64 0, i64 0, u64 0, u64 0, .nils, i64 0, i64 0, .nils]), 42, []⟩) out.length ?_ ?_ ?_
  · refine le_of (by simp only [go_sem] <;> simp) ?_ rfl rfl (by simp)
    have h0 : passV s.past [] = s.past := rfl
    ((try dsimp only); (repeat refine sub_set ?_ ?_) <;> first | ((repeat (first | exact Sub.refl _ | refine Sub.setF ?_ (by first | assumption | simp only [*]) | refine Sub.setV ?_ (by first | assumption | simp only [*]))); done) | (simp only [go_sem, n42, List.take_zero, h0]; done) | (simp only [go_sem, n42, List.take_zero, h0]; rfl) | rfl)
  · intro i hi ih
    have hgo := hp.good i (by omega)
    refine AWPH.step (xc_ok (bitB 2167) _ _ _ ?_)
    simp only [go_sem, evsP, hi, ltN' hi, List.length_map]
    refine AWP.draw2 (bitB 2167) mixed (by kernel_rfl) (fun j => .tuple [(addH (passV s.past (out.take i)) (out[i]).t (out[i]).w).1.av, i64 (addH (passV s.past (out.take i)) (out[i]).t (out[i]).w).2]) ?_
    simp only [go_sem, evsP, n42, hi, ltN' hi, getD_map' _ _ _ _ hi]
    refine ⟨(ref06_addH (passV s.past (out.take i)) hgo.ok (out[i]).t (out[i]).w (hp.w _ (List.getElem_mem hi))).draw, alloc_intro fun c6 h6 => ?_⟩
    simp only [fresh_set] at h6
    have hs := passV_snoc s.past out i hi
    rw [← hs]
    simp only [go_sem, n42, h6]
    refine ih.back ?_ (by simp) ?_
    · ((try dsimp only); (repeat refine sub_set ?_ ?_) <;> first | ((repeat (first | exact Sub.refl _ | refine Sub.setF ?_ (by first | assumption | simp only [*]) | refine Sub.setV ?_ (by first | assumption | simp only [*]))); done) | (simp only [go_sem, n42, h6]; done) | (simp only [go_sem, n42, h6]; rfl) | rfl)
    · simp only [go_sem, evsP, wi_succ (show i < 4611686018427387904 by omega)]
  · refine AWPH.step (xc_ok (bitB 2167) _ _ _ ?_)
    have hfin := hp.good out.length (Nat.le_refl _)
    have htd := hp.tidy
    rw [List.take_length] at hfin
    have hD := ref07_Drop (passV s.past out).k (passV s.past out).g (passV s.past out).ls b.front s.win hfin.lo.1 hfin.lo.2
    rw [docD_eq (oldV_anti b.front s.win) htd hfin.ne] at hD
    simp only [go_sem, evsP, n42, List.length_map, List.take_length]
    refine hD.useA ?_
    simp only [go_sem, n42]
    refine ⟨S, ?_, ?_⟩
    · repeat' first
        | exact Sub.refl _
        | refine Sub.set ?_ (by assumption) _
    · simp [passK, dropH]
theorem ref14_heavy (a c : Nat) (ha : a ≤ 4503599627370496) : Pure Tryz.prog 140 [u64 a, u64 c] (bl (decide (4503599627370496 < a + c))) := fun S => by
  refine callR_of Tryz.func140 rfl rfl (xc_ok (bitB 19) _ _ _ ?_)
  simp only [go_sem]
  by_cases q1 : 4503599627370496 < c
  · simp only [go_sem, q1]
    (refine ⟨S, by (repeat (first | exact Sub.refl _ | refine Sub.setF ?_ (by first | assumption | simp only [*]) | refine Sub.setV ?_ (by first | assumption | simp only [*]))), ?_⟩); simp; omega
  · have hm : m64 (a + c) = a + c := m64_id (by omega)
    simp only [go_sem, q1, hm]
    (refine ⟨S, by (repeat (first | exact Sub.refl _ | refine Sub.setF ?_ (by first | assumption | simp only [*]) | refine Sub.setV ?_ (by first | assumption | simp only [*]))), ?_⟩); simp
set_option maxHeartbeats 1000000 in
set_option maxRecDepth 4000 in
theorem ref14_Add (s : Skt) (hg : s.Good) (e : Event) (he : e.Ok) : Pure Tryz.prog 78 [s.av, e.av] (.tuple [(addK s e).1.av, i64 (addK s e).2]) := fun S => by
  obtain ⟨hz, hn⟩ := hg.sz
  obtain ⟨w1, w2⟩ := hg.wt
  have htot := hg.tot
  refine callR_of Tryz.func78 rfl rfl (xc_ok (bitB 1074004479) _ _ _ ?_)
  simp only [go_sem]
  refine alloc_intro fun c2 h2 => ?_
  simp only [go_sem]
  refine alloc_intro fun c3 h3 => ?_
  simp only [fresh_set] at h3
  simp only [go_sem, h3]
  refine alloc_intro fun c4 h4 => ?_
  simp only [fresh_set] at h4
  simp only [go_sem, h3, h4]
  refine (ref12_Push s.b hz hn hg.sr e).useA ?_
  have hpre := push_pre hg e
  have hres : addK s e = if (pushB s.b e).2 = 0 then (if 4503599627370496 < totN 0 s.past.ls + sumE Event.w s.b.evs + e.w then (zeroK, 5) else (passK s (pushB s.b e).1.1 (pushB s.b e).1.2, 0)) else (zeroK, (pushB s.b e).2) := rfl
  rw [hres]
  generalize pushB s.b e = R at *
  obtain ⟨⟨b', out⟩, bad⟩ := R
  dsimp only at hpre ⊢
  simp only [go_sem, h3, h4]
  refine alloc_intro fun c6 h6 => ?_
  simp only [fresh_set] at h6
  have y2 : S (.r c2) = none := h2
  have y3 : S (.r c3) = none := h3.2
  have y4 : S (.r c4) = none := h4.2.2
  have y6 : S (.r c6) = none := h6.2.2.2
  by_cases h0 : bad = 0
  rotate_left
  · have h0b : (bad != 0) = true := by simpa using h0
    simp only [go_sem, h3, h4, h6, h0b]
    refine ⟨S, ?_, ?_⟩
    · repeat' first
        | exact Sub.refl _
        | refine Sub.set ?_ (by assumption) _
    · rw [if_neg h0]; simp [zeroK, zeroB, zeroH]
  have h0b : (bad != 0) = false := by simpa using h0
  simp only [go_sem, h3, h4, h6, h0b]
  have hT := ref06_Total s.past.k s.past.g s.past.ls (by have := hg.pg.len; omega)
  have hW := ref12_Weight s.b (by omega)
  rw [w1] at hT
  rw [w2] at hW
  have hH := ref14_heavy (totN 0 s.past.ls + sumE Event.w s.b.evs) e.w htot
  have hm : m64 (totN 0 s.past.ls + sumE Event.w s.b.evs) = totN 0 s.past.ls + sumE Event.w s.b.evs := m64_id (by omega)
  by_cases hh : 4503599627370496 < totN 0 s.past.ls + sumE Event.w s.b.evs + e.w
  · rw [decide_eq_true hh] at hH
    refine AWP.draw2 (bitB 1074004479) mixed (by kernel_rfl) (fun j => if j = 2 then u64 (totN 0 s.past.ls) else if j = 5 then u64 (sumE Event.w s.b.evs) else bl true) ?_
    simp only [go_sem, h3, h4, h6, hm]
    refine ⟨hT.draw, hW.draw, hH.draw, S, ?_, ?_⟩
    · repeat' first
        | exact Sub.refl _
        | refine Sub.set ?_ (by assumption) _
    · rw [if_pos h0, if_pos hh]; simp [zeroK, zeroB, zeroH]
  · rw [decide_eq_false hh] at hH
    have hp := hpre h0 hh
    refine AWP.draw2 (bitB 1074004479) mixed (by kernel_rfl) (fun j => if j = 2 then u64 (totN 0 s.past.ls) else if j = 5 then u64 (sumE Event.w s.b.evs) else bl false) ?_
    simp only [go_sem, h3, h4, h6, hm]
    refine ⟨hT.draw, hW.draw, hH.draw, ?_⟩
    refine (ref14_pass s b' out hp).useA ?_
    simp only [go_sem, h3, h4, h6]
    refine ⟨S, ?_, ?_⟩
    · repeat' first
        | exact Sub.refl _
        | refine Sub.set ?_ (by assumption) _
    · rw [if_pos h0, if_neg hh]; simp
set_option maxHeartbeats 1000000 in
set_option maxRecDepth 4000 in
theorem ref14_MoveP (s : Skt) (hz : s.b.Sz) (hsr : Srt s.b.evs) (t : Nat) (hpre : (moveB s.b t).2 = 0 → Pre s (moveB s.b t).1.2) : Pure Tryz.prog 38 [s.av, u64 t] (.tuple [(moveK s t).1.av, i64 (moveK s t).2]) := fun S => by
  refine callR_of Tryz.func38 rfl rfl (xc_ok (bitB 262647) _ _ _ ?_)
  simp only [go_sem]
  refine alloc_intro fun c2 h2 => ?_
  simp only [go_sem]
  refine alloc_intro fun c4 h4 => ?_
  simp only [fresh_set] at h4
  simp only [go_sem, h4]
  refine (ref12_Move s.b hz hsr t).useA ?_
  have hres : moveK s t = if (moveB s.b t).2 = 0 then (passK s (moveB s.b t).1.1 (moveB s.b t).1.2, 0) else (zeroK, (moveB s.b t).2) := rfl
  rw [hres]
  generalize moveB s.b t = R at *
  obtain ⟨⟨b', out⟩, bad⟩ := R
  dsimp only at hpre ⊢
  simp only [go_sem, h4]
  refine alloc_intro fun c6 h6 => ?_
  simp only [fresh_set] at h6
  have y2 : S (.r c2) = none := h2
  have y4 : S (.r c4) = none := h4.2
  have y6 : S (.r c6) = none := h6.2.2
  by_cases h0 : bad = 0
  rotate_left
  · have h0b : (bad != 0) = true := by simpa using h0
    simp only [go_sem, h4, h6, h0b]
    refine ⟨S, ?_, ?_⟩
    · repeat' first
        | exact Sub.refl _
        | refine Sub.set ?_ (by assumption) _
    · rw [if_neg h0]; simp [zeroK, zeroB, zeroH]
  have h0b : (bad != 0) = false := by simpa using h0
  have hp := hpre h0
  simp only [go_sem, h4, h6, h0b]
  refine (ref14_pass s b' out hp).useA ?_
  simp only [go_sem, h4, h6]
  refine ⟨S, ?_, ?_⟩
  · repeat' first
      | exact Sub.refl _
      | refine Sub.set ?_ (by assumption) _
  · rw [if_pos h0]; simp
theorem ref14_Move (s : Skt) (hg : s.Good) (t : Nat) : Pure Tryz.prog 38 [s.av, u64 t] (.tuple [(moveK s t).1.av, i64 (moveK s t).2]) := ref14_MoveP s hg.sz.1 hg.sr t (move_pre hg t)
theorem ref14_One (s : Skt) (hg : s.Good) (e : Event) (he : e.Ok) : Pure Tryz.prog 27 [s.av, e.av] (.tuple [(oneK s e).1.av, i64 (oneK s e).2]) := fun S => by
  refine callR_of Tryz.func27 rfl rfl (xc_ok (bitB 319) _ _ _ ?_)
  simp only [go_sem]
  refine alloc_intro fun c2 h2 => ?_
  simp only [go_sem]
  refine alloc_intro fun c3 h3 => ?_
  simp only [fresh_set] at h3
  simp only [go_sem, h3]
  refine alloc_intro fun c4 h4 => ?_
  simp only [fresh_set] at h4
  have y2 : S (.r c2) = none := h2
  have y3 : S (.r c3) = none := h3.2
  have y4 : S (.r c4) = none := h4.2.2
  by_cases c : e.w = 0
  · have g : (e.w == 0) = true := by simpa using c
    have h1 : oneK s e = moveK s e.t := by unfold oneK; rw [if_pos c]
    rw [h1]
    simp only [go_sem, h3, h4, g]
    refine (ref14_Move s hg e.t).useA ?_
    simp only [go_sem, h3, h4]
    refine ⟨S, ?_, ?_⟩
    · repeat' first
        | exact Sub.refl _
        | refine Sub.set ?_ (by assumption) _
    · simp
  · have g : (e.w == 0) = false := by simpa using c
    have h1 : oneK s e = addK s e := by unfold oneK; rw [if_neg c]
    rw [h1]
    simp only [go_sem, h3, h4, g]
    refine (ref14_Add s hg e he).useA ?_
    simp only [go_sem, h3, h4]
    refine ⟨S, ?_, ?_⟩
    · repeat' first
        | exact Sub.refl _
        | refine Sub.set ?_ (by assumption) _
    · simp
end Go.Sk
end

-- W10g
section
namespace Go.Sk
open Go Go.Proofs

def wgtS (s : (Bool × Bool) × Nat) (e : Event) : (Bool × Bool) × Nat :=
  ((s.1.1 && decide (0 < e.w), s.1.2 && decide (e.t ≤ 9223372036854775807)), min (s.2 + min e.w 4503599627370497) 4503599627370497)
def wgtF (l : List Event) : (Bool × Bool) × Nat := l.foldl wgtS ((true, true), 0)
theorem wgtF_snoc (l : List Event) (i : Nat) (hi : i < l.length) : wgtF (l.take (i + 1)) = wgtS (wgtF (l.take i)) l[i] := by
  unfold wgtF; rw [List.take_succ_eq_append_getElem hi, List.foldl_append]; rfl
theorem wgtF_eq (l : List Event) : wgtF l = ((!l.any (fun e => e.w == 0), !l.any (fun e => decide (9223372036854775807 < e.t))), min (sumE Event.w l) 4503599627370497) := by
  have key : ∀ (l : List Event) (a b : Bool) (n : Nat), n ≤ 4503599627370497 → l.foldl wgtS ((a, b), n) = ((a && !l.any (fun e => e.w == 0), b && !l.any (fun e => decide (9223372036854775807 < e.t))), min (n + sumE Event.w l) 4503599627370497) := by
    intro l
    induction l with
    | nil => intro a b n h; simp [sumE_nil]; omega
    | cons e r ih =>
      intro a b n h
      rw [List.foldl_cons]
      have e0 : wgtS ((a, b), n) e = ((a && decide (0 < e.w), b && decide (e.t ≤ 9223372036854775807)), min (n + min e.w 4503599627370497) 4503599627370497) := rfl
      rw [e0, ih _ _ _ (Nat.min_le_right _ _), sumE_cons]
      refine Prod.ext (Prod.ext ?_ ?_) ?_
      · have e1 : decide (0 < e.w) = !(e.w == 0) := by
          by_cases h0 : e.w = 0
          · simp [h0]
          · have : 0 < e.w := by omega
            simp [h0, this]
        simp only [List.any_cons, e1, Bool.not_or, Bool.and_assoc]
      · have e1 : decide (e.t ≤ 9223372036854775807) = !decide (9223372036854775807 < e.t) := by
          by_cases h0 : 9223372036854775807 < e.t
          · have : ¬ e.t ≤ 9223372036854775807 := by omega
            simp [h0, this]
          · have : e.t ≤ 9223372036854775807 := by omega
            simp [h0, this]
        simp only [List.any_cons, e1, Bool.not_or, Bool.and_assoc]
      · show min (min (n + min e.w 4503599627370497) 4503599627370497 + sumE Event.w r) 4503599627370497 = min (n + (e.w + sumE Event.w r)) 4503599627370497
        omega
  have := key l true true 0 (by omega)
  simpa [wgtF] using this
set_option maxHeartbeats 1000000 in
set_option maxRecDepth 8000 in
theorem ref10_weighed (l : List Event) (hn : l.length < 1048576) (ho : ∀ e ∈ l, e.Ok) : Pure Tryz.prog 153 [.p (evsP l)] (.tuple [bl (wgtF l).1.1, bl (wgtF l).1.2, u64 (wgtF l).2]) := fun S => by
  refine callR_of Tryz.func153 rfl rfl (xc_ok (bitB 4605) _ _ _ ?_)
  simp only [go_sem, evsP]
  refine AWP.iter (fun i => ⟨Env.get [(0, .p (evsP l)), (5, bl (wgtF (l.take i)).1.1), (6, bl (wgtF (l.take i)).1.2), (7, u64 (wgtF (l.take i)).2), (8, i64 i)], S, 45, []⟩) l.length ?_ ?_ ?_
  · exact le_of (by simp only [go_sem, evsP]; simp [wgtF]) (Sub.refl _) rfl rfl (by simp)
  · intro i hi ih
    have hs := wgtF_snoc l i hi
    have hb : (wgtF (l.take i)).2 ≤ 4503599627370497 := by rw [wgtF_eq]; exact Nat.min_le_right _ _
    have hqi : wi ((i : Int) + 1) = ((i + 1 : Nat) : Int) := wi_succ (show i < 4611686018427387904 by omega)
    refine AWPH.step (xc_ok (bitB 4605) _ _ _ ?_)
    rw [hs] at ih
    obtain ⟨⟨⟨a, b⟩, n⟩, hst⟩ : ∃ s, wgtF (l.take i) = s := ⟨_, rfl⟩
    rw [hst] at ih hb ⊢
    unfold wgtS at ih
    dsimp only at ih hb ⊢
    have hwi := (ho _ (List.getElem_mem hi)).w
    obtain ⟨w, hw⟩ : ∃ w, (l[i]).w = w := ⟨_, rfl⟩
    obtain ⟨t, ht⟩ : ∃ t, (l[i]).t = t := ⟨_, rfl⟩
    rw [hw, ht] at ih
    rw [hw] at hwi
    have hpv : (l.map Event.pv).getD i [] = [.int .u64 t, .int .u64 (l[i]).k, .int .u64 w] := by rw [getD_map' _ _ _ _ hi, ← hw, ← ht]; rfl
    by_cases c1 : 4503599627370497 < w
    · have em : m64 (n + 4503599627370497) = n + 4503599627370497 := m64_id (by omega)
      have e1 : min w 4503599627370497 = 4503599627370497 := Nat.min_eq_right (Nat.le_of_lt c1)
      rw [e1] at ih
      by_cases c2 : 4503599627370497 < n + 4503599627370497
      · have e2 : min (n + 4503599627370497) 4503599627370497 = 4503599627370497 := Nat.min_eq_right (Nat.le_of_lt c2)
        rw [e2] at ih
        cases a <;> cases b
        all_goals
          simp only [go_sem, evsP, hi, ltN' hi, hpv, List.length_map, c1, em, c2]
          refine ih.back (by (repeat (first | exact Sub.refl _ | refine Sub.setF ?_ (by first | assumption | simp only [*]) | refine Sub.setV ?_ (by first | assumption | simp only [*])))) (by simp) ?_
          simp only [go_sem, evsP, hqi, Bool.false_and, Bool.true_and]
      · have e2 : min (n + 4503599627370497) 4503599627370497 = n + 4503599627370497 := Nat.min_eq_left (Nat.le_of_not_lt c2)
        rw [e2] at ih
        cases a <;> cases b
        all_goals
          simp only [go_sem, evsP, hi, ltN' hi, hpv, List.length_map, c1, em, c2]
          refine ih.back (by (repeat (first | exact Sub.refl _ | refine Sub.setF ?_ (by first | assumption | simp only [*]) | refine Sub.setV ?_ (by first | assumption | simp only [*])))) (by simp) ?_
          simp only [go_sem, evsP, hqi, Bool.false_and, Bool.true_and]
    · have em : m64 (n + w) = n + w := m64_id (by omega)
      have e1 : min w 4503599627370497 = w := Nat.min_eq_left (Nat.le_of_not_lt c1)
      rw [e1] at ih
      by_cases c2 : 4503599627370497 < n + w
      · have e2 : min (n + w) 4503599627370497 = 4503599627370497 := Nat.min_eq_right (Nat.le_of_lt c2)
        rw [e2] at ih
        cases a <;> cases b
        all_goals
          simp only [go_sem, evsP, hi, ltN' hi, hpv, List.length_map, c1, em, c2]
          refine ih.back (by (repeat (first | exact Sub.refl _ | refine Sub.setF ?_ (by first | assumption | simp only [*]) | refine Sub.setV ?_ (by first | assumption | simp only [*])))) (by simp) ?_
          simp only [go_sem, evsP, hqi, Bool.false_and, Bool.true_and]
      · have e2 : min (n + w) 4503599627370497 = n + w := Nat.min_eq_left (Nat.le_of_not_lt c2)
        rw [e2] at ih
        cases a <;> cases b
        all_goals
          simp only [go_sem, evsP, hi, ltN' hi, hpv, List.length_map, c1, em, c2]
          refine ih.back (by (repeat (first | exact Sub.refl _ | refine Sub.setF ?_ (by first | assumption | simp only [*]) | refine Sub.setV ?_ (by first | assumption | simp only [*])))) (by simp) ?_
          simp only [go_sem, evsP, hqi, Bool.false_and, Bool.true_and]
  · refine AWPH.step (xc_ok (bitB 4605) _ _ _ ?_)
    simp only [go_sem, evsP, List.take_length, List.length_map]
    (refine ⟨S, by (repeat (first | exact Sub.refl _ | refine Sub.setF ?_ (by first | assumption | simp only [*]) | refine Sub.setV ?_ (by first | assumption | simp only [*]))), ?_⟩); simp
end Go.Sk
end

-- W10h
section
namespace Go.Sk
open Go Go.Proofs

theorem sumT_snoc (l : List Hist) (i : Nat) (hi : i < l.length) : sumT (l.take (i + 1)) = sumT (l.take i) + totN 0 (l[i]).ls := by
  unfold sumT; rw [List.take_succ_eq_append_getElem hi, List.map_append, List.sum_append]; simp
theorem sumT_le (l : List Hist) (hg : ∀ h ∈ l, totN 0 h.ls ≤ 4503599627370496) : sumT l ≤ l.length * 4503599627370496 := by
  induction l with
  | nil => exact Nat.le_refl _
  | cons h r ih =>
    rw [sumT_cons, List.length_cons, Nat.add_mul, Nat.one_mul]
    have h1 := hg h (by simp)
    have h2 := ih (fun x hx => hg x (by simp [hx]))
    omega
theorem withV_e {evs : List Event} {l : List Hist} (h : l = [] ∨ evs.any (fun e => e.w == 0) = true) : withV evs l = (zeroH, 1) := by unfold withV; rw [if_pos h]
theorem withV_ok {evs : List Event} {l : List Hist} (c : Came l evs) : (withV evs l).2 = 0 := by rw [with_val c]
set_option maxHeartbeats 2000000 in
set_option maxRecDepth 8000 in
theorem ref10_bad (evs : List Event) (l : List Hist) (hn : l.length ≤ 1000) (hne : evs.length < 1048576) (hoe : ∀ e ∈ evs, e.Ok) (hf : ∀ h ∈ l, h.Fine) (hg4 : ∀ h ∈ l, h.g ≤ 4) :
    Pure Tryz.prog 95 [.p (evsP evs), .p (.sl (l.map Hist.cs))] (i64 (withV evs l).2) := fun S => by
  refine callR_of Tryz.func95 rfl rfl (xc_ok (bitB 239807681756481458163) _ _ _ ?_)
  simp only [go_sem]
  refine (ref10_weighed evs hne hoe).useA ?_
  rw [wgtF_eq]
  dsimp only
  obtain ⟨A, hA⟩ : ∃ A, min (sumE Event.w evs) 4503599627370497 = A := ⟨_, rfl⟩
  have hA1 : A ≤ 4503599627370497 := by rw [← hA]; exact Nat.min_le_right _ _
  have hA2 : 4503599627370496 < A ↔ 4503599627370496 < sumE Event.w evs := by rw [← hA]; omega
  have hA3 : ¬ 4503599627370496 < A → A = sumE Event.w evs := fun h => by rw [← hA] at h ⊢; omega
  rw [hA]
  by_cases hl0 : l = []
  · subst hl0
    simp only [go_sem, List.map_nil]
    rw [withV_e (Or.inl rfl)]
    (refine ⟨S, by (repeat (first | exact Sub.refl _ | refine Sub.setF ?_ (by first | assumption | simp only [*]) | refine Sub.setV ?_ (by first | assumption | simp only [*]))), ?_⟩); simp
  have hlen : 0 < l.length := List.length_pos_iff.2 hl0
  have q0 : (l.length == 0) = false := by simpa using hl0
  cases hem : evs.any (fun e => e.w == 0)
  rotate_left
  · simp only [go_sem, q0, List.length_map, Bool.not_true]
    rw [withV_e (Or.inr hem)]
    (refine ⟨S, by (repeat (first | exact Sub.refl _ | refine Sub.setF ?_ (by first | assumption | simp only [*]) | refine Sub.setV ?_ (by first | assumption | simp only [*]))), ?_⟩); simp
  obtain ⟨k0, hk0⟩ : ∃ k0, (l.headD zeroH).k = k0 := ⟨_, rfl⟩
  have hk0' : (l[0]).k = k0 := by rw [← hk0]; cases l with | nil => exact absurd rfl hl0 | cons a r => rfl
  have hsl : ∀ h ∈ l, h.ls.length ≤ 53 ∧ totN 0 h.ls ≤ 4503599627370496 := fun h hh => ⟨(hf h hh).good.len, (hf h hh).good.tot⟩
  have hget0 : (l.map Hist.cs).getD 0 [] = [.int .i64 k0, .int .i64 (l[0]).g, .sl ((l[0]).ls.map lvE)] := by
    rw [getD_map' _ _ _ _ hlen, ← hk0']; rfl
  simp only [go_sem, q0, List.length_map, Bool.not_false, Bool.not_true]
  refine AWP.roam (ι := Nat) (fun i => i ≤ l.length ∧ ∀ j (h : j < i) (h2 : j < l.length), (l[j]).k = k0)
    (fun i => ⟨Env.get [(1, .p (.sl (l.map Hist.cs))), (6, bl (!evs.any fun e => decide (9223372036854775807 < e.t))), (8, i64 (maxG (l.take i))), (9, u64 (A + sumT (l.take i))), (10, bl (decide (4503599627370496 < A + sumT (l.take i)))), (11, i64 i)], S, 68, []⟩) (fun i => l.length - i) 0 ⟨Nat.zero_le _, fun j h => by omega⟩ ?_ ?_
  · refine le_of (by simp only [go_sem, List.length_map] <;> simp [maxG, sumT]) (Sub.refl _) rfl rfl (by simp)
  · rintro i ⟨hi, hall⟩ ih
    refine AWPH.step (xc_ok (bitB 239807681756481458163) _ _ _ ?_)
    by_cases c : i < l.length
    · have hsi := hsl _ (List.getElem_mem c)
      have hsn := maxG_snoc l i c
      have htn := sumT_snoc l i c
      have hst := sumT_le (l.take i) (fun h hh => (hsl h (List.mem_of_mem_take hh)).2)
      have hst2 : (l.take i).length * 4503599627370496 ≤ 1000 * 4503599627370496 := Nat.mul_le_mul_right _ (by rw [List.length_take]; omega)
      have hqi : wi ((i : Int) + 1) = ((i + 1 : Nat) : Int) := wi_succ (show i < 4611686018427387904 by omega)
      have hkk : (l[i]).k ≠ k0 → (l.any fun h => h.k != (l.headD zeroH).k) = true := fun h => List.any_eq_true.2 ⟨_, List.getElem_mem c, by rw [hk0]; simpa using h⟩
      have hget : (l.map Hist.cs).getD i [] = [.int .i64 (l[i]).k, .int .i64 (l[i]).g, .sl ((l[i]).ls.map lvE)] := by
        rw [getD_map' _ _ _ _ c]; rfl
      simp only [go_sem, c, ltN' c, List.length_map]
      refine AWP.draw2 (bitB 239807681756481458163) mixed (by kernel_rfl) (fun j => bl false) ?_
      simp only [go_sem, c, ltN' c, hget, hlen, ltN' hlen, hget0, List.length_map]
      by_cases hk : (l[i]).k = k0
      rotate_left
      · have e1 : ((l[i]).k != k0) = true := by simpa using hk
        simp only [go_sem, e1]
        rw [withV_k hl0 hem (hkk hk)]
        (refine ⟨S, by (repeat (first | exact Sub.refl _ | refine Sub.setF ?_ (by first | assumption | simp only [*]) | refine Sub.setV ?_ (by first | assumption | simp only [*]))), ?_⟩); simp
      have e1 : ((l[i]).k != k0) = false := by simpa using hk
      have emax : (if (l[i]).g > maxG (l.take i) then (l[i]).g else maxG (l.take i)) = maxG (l.take (i + 1)) := by rw [hsn]; split <;> omega
      simp only [go_sem, e1, c, ltN' c, hget, List.length_map, emax]
      have htv : totV (l[i]).ls = totN 0 (l[i]).ls := totV_eq (by omega)
      refine (ref06_Total (l[i]).k (l[i]).g (l[i]).ls (by omega)).useA ?_
      rw [htv]
      have em : m64 (A + sumT (l.take i) + totN 0 (l[i]).ls) = A + sumT (l.take (i + 1)) := by rw [m64_id (by omega), htn]; omega
      have hinv : i + 1 ≤ l.length ∧ ∀ j (h : j < i + 1) (h2 : j < l.length), (l[j]).k = k0 := ⟨c, fun j h h2 => by
        rcases Nat.lt_or_ge j i with hj | hj
        · exact hall j hj h2
        · obtain rfl : j = i := by omega
          exact hk⟩
      by_cases o1 : 4503599627370496 < A + sumT (l.take i)
      · have o2 : 4503599627370496 < A + sumT (l.take (i + 1)) := by omega
        simp only [go_sem, em, o1]
        refine (ih (i + 1) hinv (by omega)).back (by (repeat (first | exact Sub.refl _ | refine Sub.setF ?_ (by first | assumption | simp only [*]) | refine Sub.setV ?_ (by first | assumption | simp only [*])))) (by simp) ?_
        simp only [go_sem, hqi, o2]
      · simp only [go_sem, em, o1]
        refine (ih (i + 1) hinv (by omega)).back (by (repeat (first | exact Sub.refl _ | refine Sub.setF ?_ (by first | assumption | simp only [*]) | refine Sub.setV ?_ (by first | assumption | simp only [*])))) (by simp) ?_
        simp only [go_sem, hqi]
    · obtain rfl : i = l.length := by omega
      have hnk : l.any (fun h => h.k != (l.headD zeroH).k) = false := by
        rw [List.any_eq_false]
        intro h hh
        obtain ⟨j, hj, rfl⟩ := List.getElem_of_mem hh
        rw [hk0, hall j hj hj]; simp
      have hov : (4503599627370496 < A + sumT l) ↔ (4503599627370496 < sumT l + sumE Event.w evs) := by
        by_cases q : 4503599627370496 < A
        · have := hA2.1 q; constructor <;> intro _ <;> omega
        · rw [hA3 q]; omega
      simp only [go_sem, c, List.take_length, List.length_map]
      by_cases t1 : maxG l ≥ 4
      · simp only [go_sem, t1]
        rw [withV_g hl0 hem hnk (by omega)]
        (refine ⟨S, by (repeat (first | exact Sub.refl _ | refine Sub.setF ?_ (by first | assumption | simp only [*]) | refine Sub.setV ?_ (by first | assumption | simp only [*]))), ?_⟩); simp
      simp only [go_sem, t1]
      cases hfr : evs.any (fun e => decide (9223372036854775807 < e.t))
      rotate_left
      · simp only [go_sem, Bool.not_true, Bool.not_false]
        rw [withV_t hl0 hem hnk (by omega) hfr]
        (refine ⟨S, by (repeat (first | exact Sub.refl _ | refine Sub.setF ?_ (by first | assumption | simp only [*]) | refine Sub.setV ?_ (by first | assumption | simp only [*]))), ?_⟩); simp
      simp only [go_sem, Bool.not_true, Bool.not_false]
      by_cases t2 : 4503599627370496 < A + sumT l
      · simp only [go_sem, t2]
        rw [withV_o hl0 hem hnk (by omega) hfr (hov.1 t2)]
        (refine ⟨S, by (repeat (first | exact Sub.refl _ | refine Sub.setF ?_ (by first | assumption | simp only [*]) | refine Sub.setV ?_ (by first | assumption | simp only [*]))), ?_⟩); simp
      · simp only [go_sem, t2]
        rw [withV_ok (came_of hf hl0 hem hnk (by omega) hfr (fun h => t2 (hov.2 h)))]
        (refine ⟨S, by (repeat (first | exact Sub.refl _ | refine Sub.setF ?_ (by first | assumption | simp only [*]) | refine Sub.setV ?_ (by first | assumption | simp only [*]))), ?_⟩); simp
end Go.Sk
end

-- W14e
section
namespace Go.Sk
open Go Go.Proofs

set_option maxHeartbeats 2000000 in
set_option maxRecDepth 8000 in
theorem ref14_Made (k : Int) (n0 n1 : Nat) (l : List Event) (hk0 : -9223372036854775808 ≤ k) (hk : k < 9223372036854775808) (b0 : n0 < 18446744073709551616) (b1 : n1 < 18446744073709551616) (hl : l.length < 1099511627776) (ho : ∀ e ∈ l, e.Ok) :
    Pure Tryz.prog 8 [i64 k, u64 n0, u64 n1, .p (evsP l)] (.tuple [(madeK k n0 n1 l).1.av, .p (evsP (madeK k n0 n1 l).2)]) := fun S => by
  refine callR_of Tryz.func8 rfl rfl (xc_ok (bitB 289356344778063631) _ _ _ ?_)
  simp only [go_sem, evsP]
  refine alloc_intro fun c8 h8 => ?_
  simp only [go_sem]
  have q1 : wi (max k 0 % 30) = max k 0 % 30 := wi_id (by omega) (by omega)
  have q2 : wi (2 + max k 0 % 30) = 2 + max k 0 % 30 := wi_id (by omega) (by omega)
  have q3 : m64 (1 + n0 % 1000) = 1 + n0 % 1000 := m64_id (by omega)
  have q4 : wi ((n1 % 7 : Nat) : Int) = ((n1 % 7 : Nat) : Int) := wi_id (by omega) (by omega)
  have q5 : wi (1 + ((n1 % 7 : Nat) : Int)) = 1 + ((n1 % 7 : Nat) : Int) := wi_id (by omega) (by omega)
  have q0 : (if (0 : Int) > k then 0 else k).tmod 30 = max k 0 % 30 := by
    have : (if (0 : Int) > k then 0 else k) = max k 0 := by split <;> omega
    rw [this, Int.tmod_eq_emod_of_nonneg (by omega)]
  simp only [go_sem, q0, q1, q2, q3]
  refine ⟨by decide, ?_⟩
  have hN := ref14_New (2 + max k 0 % 30) (1 + n0 % 1000) (n1 % 100) (1 + (n1 % 7 : Nat))
  simp only [go_sem, q0, q1, q2, q3, q4, q5]
  refine hN.useA ?_
  simp only [go_sem, q0, q1, q2, q3, q4, q5]
  refine alloc_intro fun c10 h10 => ?_
  simp only [fresh_set] at h10
  simp only [go_sem, h10]
  have y8 : S (.r c8) = none := h8
  have y10 : S (.r c10) = none := h10.2
  have hnew := (newK_good (k := 2 + max k 0 % 30) (win := 1 + n0 % 1000) (late := n1 % 100) (room := 1 + (n1 % 7 : Nat)) (by omega) (by omega) (by omega) (by omega) (by omega) (by omega) (by omega)).1
  have hm0 : madeKo ((l.take 30).drop 0) (newK (2 + max k 0 % 30) (1 + n0 % 1000) (n1 % 100) (1 + (n1 % 7 : Nat))) [] = madeK k n0 n1 l := by rw [List.drop_zero]; rfl
  generalize newK (2 + max k 0 % 30) (1 + n0 % 1000) (n1 % 100) (1 + (n1 % 7 : Nat)) = s0 at hN hnew hm0 ⊢
  clear hN q0 q1 q2 q3 q4 q5
  refine AWP.tip0 11 3 (by simp only [go_sem]) fun v hv => ?_
  simp only [freshv_setr] at hv
  simp only [go_sem]
  refine AWP.roam (ι := Nat × Skt × List Event × Option Nat) (fun y => y.1 ≤ l.length ∧ y.1 ≤ 30 ∧ y.2.1.Good ∧ y.2.2.1.length ≤ y.1 ∧ madeKo ((l.take 30).drop y.1) y.2.1 y.2.2.1 = madeK k n0 n1 l)
    (fun y => ⟨Env.get [(3, .p (evsP l)), (8, .sp c8 0), (10, .sp c10 0), (11, .ts v 3 y.2.2.2 (y.2.2.1.map Event.pv)), (12, i64 y.1)],
      ((S.set (.r c8) (.cells [u64 0, u64 0, i64 0, u64 0, u64 0, .nils, i64 0, i64 0, .nils])).set (.r c10) (.cells [u64 y.2.1.win, u64 y.2.1.b.late, i64 y.2.1.b.room, u64 y.2.1.b.mark, u64 y.2.1.b.front, .p (.sl (y.2.1.b.evs.map Event.pv)), i64 y.2.1.past.k, i64 y.2.1.past.g, .p (.sl (y.2.1.past.ls.map lvE))])).set (.v v) (.tip 3 y.2.2.1.length y.2.2.2), 69, []⟩)
    (fun y => l.length - y.1) (0, s0, [], none) ⟨Nat.zero_le _, Nat.zero_le _, hnew, Nat.le_refl _, hm0⟩ ?_ ?_
  · refine le_of (by simp only [go_sem, evsP] <;> rfl) ?_ rfl rfl (by simp)
    ((try dsimp only); (repeat refine sub_set ?_ ?_) <;> first | ((repeat (first | exact Sub.refl _ | refine Sub.setF ?_ (by first | assumption | simp only [*]) | refine Sub.setV ?_ (by first | assumption | simp only [*]))); done) | (simp only [go_sem, h10, hv, List.map_nil, List.length_nil]; done) | (simp only [go_sem, h10, hv, List.map_nil, List.length_nil]; rfl) | rfl)
  rintro ⟨i, s, all, loc⟩ ⟨hi, hi2, hg, hall, hm⟩ ih
  dsimp only at hi hi2 hg hall hm ⊢
  refine AWPH.step (xc_ok (bitB 289356344778063631) _ _ _ ?_)
  have hlen2 : (l.take 30).length = min 30 l.length := List.length_take
  have stop : ¬ (i < l.length ∧ i < 30) → (s, all) = madeK k n0 n1 l := by
    intro hc
    rw [List.drop_of_length_le (by rw [hlen2]; clear h10; omega)] at hm
    exact hm
  by_cases c1 : i < l.length
  rotate_left
  · simp only [go_sem, c1, h10, evsP, List.length_map]
    have := stop (fun h => c1 h.1)
    refine ⟨S, ?_, ?_⟩
    · repeat' first | exact Sub.refl _ | refine Sub.set ?_ (by assumption) _
    · rw [← this]; simp
  by_cases c2' : (i : Int) < 30
  rotate_left
  · simp only [go_sem, c1, c2', h10, evsP, List.length_map]
    have := stop (fun h => c2' (by clear h10; omega))
    refine ⟨S, ?_, ?_⟩
    · repeat' first | exact Sub.refl _ | refine Sub.set ?_ (by assumption) _
    · rw [← this]; simp
  have hok : (l[i]).Ok := ho _ (List.getElem_mem c1)
  have hq : wi ((i : Int) + 1) = ((i + 1 : Nat) : Int) := wi_succ (show i < 4611686018427387904 by clear h10; omega)
  simp only [go_sem, c1, c2', h10, evsP, ltN' c1, getD_map' _ _ _ _ c1, List.length_map]
  refine AWP.draw2 (bitB 289356344778063631) mixed (by kernel_rfl) (fun j => .tuple [(oneK s (l[i])).1.av, i64 (oneK s (l[i])).2]) ?_
  simp only [go_sem, c1, h10, evsP, ltN' c1, getD_map' _ _ _ _ c1]
  refine ⟨(ref14_One s hg (l[i]) hok).draw, ?_⟩
  have hdrop : (l.take 30).drop i = l[i] :: (l.take 30).drop (i + 1) := by
    rw [List.drop_eq_getElem_cons (by rw [hlen2]; clear h10; omega)]
    congr 1
    rw [List.getElem_take]
  rw [hdrop] at hm
  unfold madeKo at hm
  have hgd := oneK_ok hg (l[i])
  generalize oneK s (l[i]) = X at *
  refine alloc_intro fun c13 h13 => ?_
  simp only [fresh_set, fresh_setv] at h13
  by_cases ex : X.2 = 0
  rotate_left
  · have exb : (X.2 == 0) = false := by simpa using ex
    rw [if_neg ex] at hm
    simp only [go_sem, exb, h10, h13, hv]
    refine (ih (i + 1, s, all, loc) ⟨c1, by dsimp only; clear h10 h13; omega, hg, by dsimp only; clear h10 h13; omega, hm⟩ (by dsimp only; clear h10 h13; omega)).back ?_ (by simp) ?_
    · ((try dsimp only); (repeat refine sub_set ?_ ?_) <;> first | ((repeat (first | exact Sub.refl _ | refine Sub.setF ?_ (by first | assumption | simp only [*]) | refine Sub.setV ?_ (by first | assumption | simp only [*]))); done) | (simp only [go_sem, h10, h13, hv]; done) | (simp only [go_sem, h10, h13, hv]; rfl) | rfl)
    · simp only [go_sem, hq, evsP]
  have exb : (X.2 == 0) = true := by simpa using ex
  rw [if_pos ex] at hm
  simp only [go_sem, exb, h10, h13, hv, ltN' c1, getD_map' _ _ _ _ c1]
  by_cases ew : 0 < (l[i]).w
  rotate_left
  · rw [if_neg ew] at hm
    simp only [go_sem, ew, h10, h13, hv]
    refine (ih (i + 1, X.1, all, loc) ⟨c1, by dsimp only; clear h10 h13; omega, (hgd ex).1, by dsimp only; clear h10 h13; omega, hm⟩ (by dsimp only; clear h10 h13; omega)).back ?_ (by simp) ?_
    · ((try dsimp only); (repeat refine sub_set ?_ ?_) <;> first | ((repeat (first | exact Sub.refl _ | refine Sub.setF ?_ (by first | assumption | simp only [*]) | refine Sub.setV ?_ (by first | assumption | simp only [*]))); done) | (simp only [go_sem, h10, h13, hv]; done) | (simp only [go_sem, h10, h13, hv]; rfl) | rfl)
    · simp only [go_sem, hq, evsP]
  rw [if_pos ew] at hm
  simp only [go_sem, ew, h10, h13, hv, ltN' c1, getD_map' _ _ _ _ c1]
  have e5 : List.map Event.pv all ++ [[.int .u64 (l[i]).t, .int .u64 (l[i]).k, .int .u64 (l[i]).w]] = List.map Event.pv (all ++ [l[i]]) := by rw [List.map_append]; rfl
  refine ⟨by rintro el rfl; rfl, evn_len, by clear h10 h13; omega, by clear h10 h13; omega, grow_intro fun loc' => ?_⟩
  simp only [go_sem, h10, h13, hv, e5, hq]
  refine (ih (i + 1, X.1, all ++ [l[i]], loc') ⟨c1, by dsimp only; clear h10 h13; omega, (hgd ex).1, by simp; clear h10 h13; omega, hm⟩ (by dsimp only; clear h10 h13; omega)).back ?_ (by simp) ?_
  · ((try dsimp only); (repeat refine sub_set ?_ ?_) <;> first | ((repeat (first | exact Sub.refl _ | refine Sub.setF ?_ (by first | assumption | simp only [*]) | refine Sub.setV ?_ (by first | assumption | simp only [*]))); done) | (simp only [go_sem, h10, h13, hv, List.length_map, e5]; done) | (simp only [go_sem, h10, h13, hv, List.length_map, e5]; rfl) | rfl)
  · simp only [go_sem, hq, evsP, e5]
end Go.Sk
end

-- W14f
section
namespace Go.Sk
open Go Go.Proofs

def s14 : Skt := ⟨10, ⟨2, 9, 5, 3, [⟨5, 0, 3⟩]⟩, ⟨2, 0, []⟩⟩
theorem push14 : pushB ⟨2, 9, 0, 0, []⟩ ⟨5, 0, 3⟩ = ((⟨2, 9, 5, 3, [⟨5, 0, 3⟩]⟩, []), 0) := by
  have h : settleN 9 [⟨5, 0, 3⟩] 3 = (3, 0) := by rw [settleN_end (by decide)]; rfl
  unfold pushB
  rw [if_neg (by decide), if_neg (by decide), if_neg (by decide)]
  unfold settleB
  show ((Buf.mk _ _ _ (settleN 9 [⟨5, 0, 3⟩] 3).1 (List.drop (settleN 9 [⟨5, 0, 3⟩] 3).2 _), List.take (settleN 9 [⟨5, 0, 3⟩] 3).2 _), (0 : Int)) = _
  rw [h]; rfl
theorem add14 : addK (newK 2 10 2 9) ⟨5, 0, 3⟩ = (s14, 0) := by
  unfold addK newK
  dsimp only
  rw [push14, if_pos rfl, if_neg (by decide)]
  rfl
theorem qa14 : queryK s14 5 10 = (3, 0) := by
  have h1 : estV ([] : List (List Span)) 5 10 = 0 := by
    show m64 (0 + 0 / 2) = 0
    exact m64_id (by decide)
  have h2 : spanV [⟨5, 0, 3⟩] 5 10 = 3 := by
    show (if withinV 5 10 ⟨5, 0, 3⟩ = true then m64 (0 + 3) else 0) = 3
    rw [if_pos (by unfold withinV; decide), m64_id (by decide)]
  unfold queryK s14
  dsimp only
  rw [if_neg (by decide), if_neg (by decide), h1, h2, m64_id (by decide)]
theorem qb14 : queryK s14 2 10 = (0, 6) := by
  unfold queryK
  rw [if_pos (by decide)]
theorem g14 : (newK 2 10 2 9).Good := (newK_good (by decide) (by decide) (by decide) (by decide) (by decide) (by decide) (by decide)).1
theorem gs14 : s14.Good := by
  have h : (oneK (newK 2 10 2 9) ⟨5, 0, 3⟩) = (s14, 0) := by unfold oneK; rw [if_neg (by decide)]; exact add14
  have := (oneK_ok g14 ⟨5, 0, 3⟩ (by rw [h])).1
  rw [h] at this; exact this
set_option maxHeartbeats 1000000 in
set_option maxRecDepth 8000 in
theorem awake14 : Pure Tryz.prog 7 [] (bl true) := fun S => by
  have hN := count_New 2 10 2 9
  have hc : confK 2 10 2 9 = true := by decide
  rw [hc] at hN
  simp only [if_true] at hN
  have hA := count_Add (newK 2 10 2 9) g14 ⟨5, 0, 3⟩ ⟨by decide, by decide, by decide⟩
  rw [add14] at hA
  have hQ := count_Query s14 gs14 5 10
  rw [qa14] at hQ
  have hR := count_Query s14 gs14 2 10
  rw [qb14] at hR
  have hS := count_Same s14 s14 gs14.small
  rw [decide_eq_true (rfl : s14 = s14)] at hS
  have hD := count_Same (newK 2 10 2 9) s14 g14.small
  rw [decide_eq_false (by decide)] at hD
  refine callR_of Tryz.func7 rfl rfl (xc_ok (bitB 383) _ _ _ ?_)
  simp only [go_sem]
  refine hN.useA ?_
  simp only [go_sem]
  refine alloc_intro fun c1 h1 => ?_
  simp only [go_sem]
  refine hA.useA ?_
  simp only [go_sem]
  refine alloc_intro fun c3 h3 => ?_
  simp only [fresh_set] at h3
  simp only [go_sem, h3]
  refine hQ.useA ?_
  simp only [go_sem, h3]
  refine hR.useA ?_
  simp only [go_sem, h3, beq_self_eq_true]
  refine hS.useA ?_
  simp only [go_sem, h3]
  refine hD.useA ?_
  simp only [go_sem, h3]
  have y1 : S (.r c1) = none := h1
  have y3 : S (.r c3) = none := h3.2
  exact ⟨S, by repeat' first | exact Sub.refl _ | refine Sub.set ?_ (by assumption) _, Or.inl rfl⟩
end Go.Sk
end
