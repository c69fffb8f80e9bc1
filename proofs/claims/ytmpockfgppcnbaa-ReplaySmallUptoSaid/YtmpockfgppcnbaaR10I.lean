/- Texts W10m W10n W10o W10p, joined. -/
import Derived.Test.YtmpockfgppcnbaaR10F
import Derived.Test.YtmpockfgppcnbaaR10H
import Derived.Test.YtmpockfgppcnbaaR10D
import Derived.Test.YtmpockfgppcnbaaR10B
import Derived.Test.YtmpockfgppcnbaaR10E
import Derived.Test.YtmpockfgppcnbaaR10C
set_option linter.unusedSimpArgs false
set_option linter.unusedVariables false
set_option linter.unusedSectionVars false
-- W10m
section
namespace Go.Sk
open Go Go.Proofs

def Tree.ls (t : Tree) : List (List Deed) := [t.l0, t.l1, t.l2, t.l3]
def lightL (l : List Deed) : Bool := decide (l.length ≤ 20) && l.all fun d => decide (d.w ≤ 1099511627776)
def Tree.lightB (t : Tree) : Bool := t.ls.all lightL
theorem Tree.lightB_ok {t : Tree} (h : t.lightB = true) : t.Light := by
  unfold Tree.lightB at h
  rw [List.all_eq_true] at h
  have key : ∀ l ∈ t.ls, ∀ d ∈ l, d.w ≤ 1099511627776 := fun l hl d hd => by
    have := h l hl
    unfold lightL at this
    rw [Bool.and_eq_true, List.all_eq_true] at this
    simpa using this.2 d hd
  exact ⟨key _ (by simp [Tree.ls]), key _ (by simp [Tree.ls]), key _ (by simp [Tree.ls]), key _ (by simp [Tree.ls])⟩
def Tree.cells (t : Tree) : List AV := [i64 t.k, .p (.sl (t.l0.map Deed.pv)), .p (.sl (t.l1.map Deed.pv)), .p (.sl (t.l2.map Deed.pv)), .p (.sl (t.l3.map Deed.pv)), .p (.int .u8 t.deep)]
theorem Tree.cell (t : Tree) (i : Nat) (h : i < t.ls.length) : t.cells.getD (1 + i * 1) .top = .p (.sl ((t.ls[i]).map Deed.pv)) := by
  have h' : i < 4 := h
  rcases (by omega : i = 0 ∨ i = 1 ∨ i = 2 ∨ i = 3) with rfl | rfl | rfl | rfl <;> rfl
theorem Tree.Ok.mem {t : Tree} (o : t.Ok) (i : Nat) (h : i < t.ls.length) : (∀ d ∈ t.ls[i], d.Ok) ∧ (t.ls[i]).length ≤ 1048576 := by
  have h' : i < 4 := h
  rcases (by omega : i = 0 ∨ i = 1 ∨ i = 2 ∨ i = 3) with rfl | rfl | rfl | rfl
  · exact o.o0
  · exact o.o1
  · exact o.o2
  · exact o.o3
set_option maxHeartbeats 1000000 in
set_option maxRecDepth 4000 in
theorem ref10_Light (t : Tree) (ho : t.Ok) : Pure Try.prog 12 [t.av] (bl t.lightB) := fun S => by
  refine callR_of Try.func12 rfl rfl (xc_ok (bitB 4297080927) _ _ _ ?_)
  simp only [go_sem, Tree.av, Tree.pv]
  refine alloc_intro fun c1 h1 => ?_
  have y1 : S (.r c1) = none := h1
  simp only [go_sem]
  have hcs : (Blk.cells [.p (.int .i64 t.k), .p (.sl (t.l0.map Deed.pv)), .p (.sl (t.l1.map Deed.pv)), .p (.sl (t.l2.map Deed.pv)), .p (.sl (t.l3.map Deed.pv)), .p (.int .u8 t.deep)]) = .cells t.cells := rfl
  refine AWP.roam (ι := Nat) (fun i => i ≤ 4 ∧ ∀ j (h : j < i) (h2 : j < t.ls.length), lightL t.ls[j] = true)
    (fun i => ⟨Env.get [(1, .sp c1 0), (3, i64 i)], S.set (.r c1) (.cells t.cells), 33, []⟩) (fun i => 4 - i) 0 ⟨by omega, fun j h => by omega⟩ ?_ ?_
  · refine le_of (by simp only [go_sem] <;> rfl) ?_ rfl rfl (by simp)
    exact Sub.refl _
  · rintro i ⟨hi, hall⟩ ih
    have hqi : wi ((i : Int) + 1) = ((i + 1 : Nat) : Int) := wi_succ (show i < 4611686018427387904 by omega)
    refine AWPH.step (xc_ok (bitB 4297080927) _ _ _ ?_)
    by_cases hc : i < 4
    rotate_left
    · obtain rfl : i = 4 := by omega
      have e4 : decide (((4 : Nat) : Int) < 4) = false := by decide
      have hl : t.lightB = true := by
        unfold Tree.lightB
        rw [List.all_eq_true]
        intro l hl
        obtain ⟨j, hj, rfl⟩ := List.getElem_of_mem hl
        exact hall j hj hj
      simp only [go_sem, e4]
      exact ⟨S, Sub.set (Sub.refl _) y1 _, Or.inl ⟨by rw [hl], rfl⟩⟩
    have hti : i < t.ls.length := hc
    have hcell := t.cell i hti
    have hc2 : (i : Int) < 4 := by omega
    obtain ⟨hok, hlen⟩ := ho.mem i hti
    have hbad : lightL t.ls[i] = false → t.lightB = false := fun h => by
      unfold Tree.lightB
      rw [List.all_eq_false]
      exact ⟨_, List.getElem_mem hti, by rw [h]; simp⟩
    generalize hLe : t.ls[i] = L at *
    have hbT : (1 + i * 1 + 1 ≤ t.cells.length) = True := eq_true (by show 1 + i * 1 + 1 ≤ 6; omega)
    by_cases c20 : (L.length : Int) > 20
    · simp only [go_sem, hc, hc2, ltN' hc, hcell, hbT, true_and, List.length_map, c20]
      have hf : lightL L = false := by
        unfold lightL
        rw [decide_eq_false (by omega)]; rfl
      exact ⟨S, Sub.set (Sub.refl _) y1 _, Or.inl ⟨by rw [hbad hf], rfl⟩⟩
    simp only [go_sem, hc, hc2, ltN' hc, hcell, hbT, true_and, List.length_map, c20]
    refine AWP.roam (ι := Nat) (fun j => j ≤ L.length ∧ ∀ q (h : q < j) (h2 : q < L.length), (L[q]).w ≤ 1099511627776)
      (fun j => ⟨Env.get [(1, .sp c1 0), (3, i64 i), (4, i64 j)], S.set (.r c1) (.cells t.cells), 33, []⟩) (fun j => L.length - j) 0 ⟨Nat.zero_le _, fun j h => by omega⟩ ?_ ?_
    · exact le_of (by simp only [go_sem] <;> rfl) (Sub.refl _) rfl rfl (by simp)
    · rintro j ⟨hj, hq⟩ jh
      have hqj : wi ((j : Int) + 1) = ((j + 1 : Nat) : Int) := wi_succ (show j < 4611686018427387904 by omega)
      refine AWPH.step (xc_ok (bitB 4297080927) _ _ _ ?_)
      by_cases cj : j < L.length
      · have hpv : (L.map Deed.pv).getD j [] = [.int .u64 (L[j]).gap, .int .u64 (L[j]).w] := by rw [getD_map' _ _ _ _ cj]; rfl
        simp only [go_sem, hc, hc2, ltN' hc, hcell, hbT, true_and, List.length_map, cj, ltN' cj, hpv]
        by_cases cw : 1099511627776 < (L[j]).w
        · simp only [go_sem, cw]
          have hf : lightL L = false := by
            unfold lightL
            rw [Bool.and_eq_false_iff]
            refine Or.inr (List.all_eq_false.2 ⟨_, List.getElem_mem cj, ?_⟩)
            simp; omega
          exact ⟨S, Sub.set (Sub.refl _) y1 _, Or.inl ⟨by rw [hbad hf], rfl⟩⟩
        · simp only [go_sem, cw]
          refine (jh (j + 1) ⟨cj, fun q h h2 => ?_⟩ (by omega)).back (Sub.refl _) (by simp) ?_
          · rcases Nat.lt_or_ge q j with hh | hh
            · exact hq q hh h2
            · obtain rfl : q = j := by omega
              omega
          · simp only [go_sem, hqj]
      · obtain rfl : j = L.length := by omega
        simp only [go_sem, hc, hc2, ltN' hc, hcell, hbT, true_and, List.length_map]
        have hlL : lightL L = true := by
          unfold lightL
          rw [Bool.and_eq_true, List.all_eq_true]
          refine ⟨decide_eq_true (by omega), fun d hd => ?_⟩
          obtain ⟨q, hq2, rfl⟩ := List.getElem_of_mem hd
          exact decide_eq_true (hq q hq2 hq2)
        refine (ih (i + 1) ⟨by omega, fun q h h2 => ?_⟩ (by omega)).back (Sub.refl _) (by simp) ?_
        · rcases Nat.lt_or_ge q i with hh | hh
          · exact hall q hh h2
          · obtain rfl : q = i := by omega
            rw [hLe]; exact hlL
        · simp only [go_sem, hqi]
end Go.Sk
end

-- W10n
section
namespace Go.Sk
open Go Go.Proofs

def timesA (d : Nat) : AV := .agg [u64 (timesV d).1, u64 (timesV d).2.1, u64 (timesV d).2.2.1, u64 (timesV d).2.2.2]
set_option maxRecDepth 4000 in
theorem ref10_Times (t : Tree) (ho : t.Ok) : Pure Try.prog 33 [t.av] (timesA (t.deep % 5)) := fun S => by
  have hd := ho.d
  refine callR_of Try.func33 rfl rfl (xc_ok (bitB 4879) _ _ _ ?_)
  simp only [go_sem, Tree.av, Tree.pv]
  refine alloc_intro fun c1 h1 => ?_
  have y1 : S (.r c1) = none := h1
  simp only [go_sem]
  refine alloc_intro fun c2 h2 => ?_
  simp only [fresh_set] at h2
  have y2 : S (.r c2) = none := h2.2
  simp only [go_sem, h2]
  have em : m64 (t.deep % 5) = t.deep % 5 := m64_id (by omega)
  rw [em]
  obtain ⟨d, hdd⟩ : ∃ d, t.deep % 5 = d := ⟨_, rfl⟩
  have hd5 : d < 5 := by omega
  rw [hdd]
  by_cases d0 : d = 0
  · subst d0
    simp only [go_sem, h2]
    refine ⟨S, Sub.set (Sub.set (Sub.refl _) y1 _) y2 _, ?_⟩
    simp [timesA, timesV]
  · have e0 : (d == 0) = false := by simpa using d0
    by_cases d1 : d = 1
    · subst d1
      simp only [go_sem, h2, e0]
      refine ⟨S, Sub.set (Sub.set (Sub.refl _) y1 _) y2 _, ?_⟩
      simp [timesA, timesV]
    · have e1 : (d == 1) = false := by simpa using d1
      have e2 : sub64 d 1 = d - 1 := sub64_le (by omega) (by omega)
      simp only [go_sem, h2, e0, e1, e2]
      refine ⟨S, Sub.set (Sub.set (Sub.refl _) y1 _) y2 _, ?_⟩
      simp [timesA, timesV, d0, d1]
/-- Two histograms as one, on the way. -/
theorem mrg_fine {a b : Hist} {ga gb : Nat} {na nb : (Nat → Bool) → Nat} (ha : Deep ga a na) (hb : Deep gb b nb) (hga : ga ≤ 4) (hgb : gb ≤ 4) :
    (∀ h ∈ [a, b], h.Fine) ∧ ∀ h ∈ [a, b], h.g ≤ 4 := by
  constructor
  · intro h hh
    simp only [List.mem_cons, List.not_mem_nil, or_false] at hh
    rcases hh with rfl | rfl
    · exact ha.fine
    · exact hb.fine
  · intro h hh
    simp only [List.mem_cons, List.not_mem_nil, or_false] at hh
    rcases hh with rfl | rfl
    · rw [ha.gen]; omega
    · rw [hb.gen]; omega
theorem ref10_two (a b : Hist) (hf : ∀ h ∈ [a, b], h.Fine) (hg4 : ∀ h ∈ [a, b], h.g ≤ 4) :
    Pure Try.prog 32 [.p (.sl [a.cs, b.cs])] (.tuple [(mrg [a, b]).av, i64 (withV [] [a, b]).2]) := ref10_Merge [a, b] (by simp) hf hg4
set_option maxHeartbeats 2000000 in
set_option maxRecDepth 8000 in
theorem ref10_Build (t : Tree) (ho : t.Ok) (hl : t.Light) : Pure Try.prog 13 [t.av] (buildV t).av := fun S => by
  have hd := ho.d
  refine callR_of Try.func13 rfl rfl (xc_ok (bitB 604462910933489372736255) _ _ _ ?_)
  simp only [go_sem, Tree.av, Tree.pv]
  refine alloc_intro fun c1 h1 => ?_
  have y1 : S (.r c1) = none := h1
  simp only [go_sem]
  refine alloc_intro fun c2 h2 => ?_
  simp only [fresh_set] at h2
  have y2 : S (.r c2) = none := h2.2
  simp only [go_sem, h2]
  refine alloc_intro fun c3 h3 => ?_
  simp only [fresh_set] at h3
  have y3 : S (.r c3) = none := h3.2.2
  simp only [go_sem, h2, h3]
  have hm0 := ref06_Made t.k t.l0 ho.k1 (by have := ho.o0.2; omega) ho.o0.1
  have hm1 := ref06_Made t.k t.l1 ho.k1 (by have := ho.o1.2; omega) ho.o1.1
  have hm2 := ref06_Made t.k t.l2 ho.k1 (by have := ho.o2.2; omega) ho.o2.1
  have hm3 := ref06_Made t.k t.l3 ho.k1 (by have := ho.o3.2; omega) ho.o3.1
  have d0 : decide ((0 : Int) < 4) = true := by decide
  have d1 : decide ((1 : Int) < 4) = true := by decide
  have d2 : decide ((2 : Int) < 4) = true := by decide
  have d3 : decide ((3 : Int) < 4) = true := by decide
  have d4 : decide ((4 : Int) < 4) = false := by decide
  have w0 : wi ((0 : Int) + 1) = 1 := wi_id (by decide) (by decide)
  have w1 : wi ((1 : Int) + 1) = 2 := wi_id (by decide) (by decide)
  have w2 : wi ((2 : Int) + 1) = 3 := wi_id (by decide) (by decide)
  have w3 : wi ((3 : Int) + 1) = 4 := wi_id (by decide) (by decide)
  refine AWP.head (AWPH.step (xc_ok (bitB 604462910933489372736255) _ _ _ ?_))
  simp only [go_sem, h2, h3, d0]
  refine AWP.draw2 (bitB 604462910933489372736255) mixed (by kernel_rfl) (fun j => (madeD t.k t.l0).av) ?_
  simp only [go_sem, h2, h3, w0]
  refine ⟨hm0.draw, ?_⟩
  refine AWPH.step (xc_ok (bitB 604462910933489372736255) _ _ _ ?_)
  simp only [go_sem, h2, h3, d1]
  refine AWP.draw2 (bitB 604462910933489372736255) mixed (by kernel_rfl) (fun j => (madeD t.k t.l1).av) ?_
  simp only [go_sem, h2, h3, w1]
  repeat first | refine ⟨by decide, ?_⟩ | refine ⟨hm1.draw, ?_⟩
  refine AWPH.step (xc_ok (bitB 604462910933489372736255) _ _ _ ?_)
  simp only [go_sem, h2, h3, d2]
  refine AWP.draw2 (bitB 604462910933489372736255) mixed (by kernel_rfl) (fun j => (madeD t.k t.l2).av) ?_
  simp only [go_sem, h2, h3, w2]
  repeat first | refine ⟨by decide, ?_⟩ | refine ⟨hm2.draw, ?_⟩
  refine AWPH.step (xc_ok (bitB 604462910933489372736255) _ _ _ ?_)
  simp only [go_sem, h2, h3, d3]
  refine AWP.draw2 (bitB 604462910933489372736255) mixed (by kernel_rfl) (fun j => (madeD t.k t.l3).av) ?_
  simp only [go_sem, h2, h3, w3]
  repeat first | refine ⟨by decide, ?_⟩ | refine ⟨hm3.draw, ?_⟩
  refine AWPH.step (xc_ok (bitB 604462910933489372736255) _ _ _ ?_)
  obtain ⟨a, ha⟩ : ∃ a, madeD t.k t.l0 = a := ⟨_, rfl⟩
  obtain ⟨b, hb⟩ : ∃ b, madeD t.k t.l1 = b := ⟨_, rfl⟩
  obtain ⟨c, hc⟩ : ∃ c, madeD t.k t.l2 = c := ⟨_, rfl⟩
  obtain ⟨e, he⟩ : ∃ e, madeD t.k t.l3 = e := ⟨_, rfl⟩
  rw [ha, hb, hc, he]
  simp only [go_sem, h2, h3, d4]
  refine alloc_intro fun c5 h5 => ?_
  simp only [fresh_set] at h5
  have y5 : S (.r c5) = none := h5.2.2.2
  simp only [go_sem, h2, h3, h5]
  obtain ⟨d, hdd⟩ : ∃ d, t.deep % 5 = d := ⟨_, rfl⟩
  have hd5 : d < 5 := by omega
  have em : wi ((d : Nat) : Int) = d := wi_id (by omega) (by omega)
  obtain ⟨D0, k0⟩ := made_deep t.k t.l0
  obtain ⟨D1, k1⟩ := made_deep t.k t.l1
  obtain ⟨D2, k2⟩ := made_deep t.k t.l2
  obtain ⟨D3, k3⟩ := made_deep t.k t.l3
  obtain ⟨z0, z1, z2, z3⟩ := hl.sz
  rw [ha] at D0 k0 z0
  rw [hb] at D1 k1 z1
  rw [hc] at D2 k2 z2
  rw [he] at D3 k3 z3
  rw [hdd, em]
  by_cases q0 : d = 0
  · have hB : buildV t = a := by
      unfold buildV baseV
      rw [hdd, q0, if_pos rfl, ha]; rfl
    rw [hB, q0]
    have r0 : (((0 : Nat) : Int) == 1) = false := by decide
    have r1 : decide (((0 : Nat) : Int) > 1) = false := by decide
    have r2 : decide ((2 : Int) < ((0 : Nat) : Int)) = false := by decide
    simp only [go_sem, h2, h3, h5, r0, r1]
    refine AWP.head (AWPH.step (xc_ok (bitB 604462910933489372736255) _ _ _ ?_))
    simp only [go_sem, h2, h3, h5, r2]
    refine ⟨S, Sub.set (Sub.set (Sub.set (Sub.set (Sub.set (Sub.refl _) y1 _) y2 _) y3 _) y5 _) y2 _, ?_⟩
    simp
  have hf01 := mrg_fine D0 D1 (by omega) (by omega)
  obtain ⟨p1, p2, p3, p4⟩ := deep_two D0 D1 (by rw [k0, k1]) (by omega) (by omega)
  obtain ⟨m01, hm01⟩ : ∃ m01, mrg [a, b] = m01 := ⟨_, rfl⟩
  have hM01 := ref10_two a b hf01.1 hf01.2
  rw [hm01] at hM01
  by_cases q1 : d = 1
  · have hB : buildV t = m01 := by
      unfold buildV baseV
      rw [hdd, q1, if_neg (by decide), if_pos rfl, ha, hb, hm01]; rfl
    rw [hB, q1]
    have r0 : (((1 : Nat) : Int) == 1) = true := by decide
    have r1 : decide (((1 : Nat) : Int) > 1) = false := by decide
    have r2 : decide ((2 : Int) < ((1 : Nat) : Int)) = false := by decide
    simp only [go_sem, h2, h3, h5, r0, r1]
    refine ⟨by decide, by decide, hM01.useA ?_⟩
    simp only [go_sem, h2, h3, h5]
    refine alloc_intro fun c7 h7 => ?_
    simp only [fresh_set] at h7
    have y7 : S (.r c7) = none := h7.2.2.2.2
    simp only [go_sem, h2, h3, h5, h7, r1]
    refine AWP.head (AWPH.step (xc_ok (bitB 604462910933489372736255) _ _ _ ?_))
    simp only [go_sem, h2, h3, h5, h7, r2]
    refine ⟨S, Sub.set (Sub.set (Sub.set (Sub.set (Sub.set (Sub.set (Sub.set (Sub.refl _) y1 _) y2 _) y3 _) y5 _) y7 _) y5 _) y2 _, ?_⟩
    simp
  have q2 : 2 ≤ d := by omega
  have hf23 := mrg_fine D2 D3 (by omega) (by omega)
  obtain ⟨u1, u2, u3, u4⟩ := deep_two D2 D3 (by rw [k2, k3]) (by omega) (by omega)
  obtain ⟨m23, hm23⟩ : ∃ m23, mrg [c, e] = m23 := ⟨_, rfl⟩
  have hM23 := ref10_two c e hf23.1 hf23.2
  rw [hm23] at hM23
  have hm01' : (withV [] [a, b]).1 = m01 := hm01
  have hm23' : (withV [] [c, e]).1 = m23 := hm23
  rw [hm01'] at p2 p3 p4
  rw [hm23'] at u2 u3 u4
  have hfM := mrg_fine p2 u2 (by omega) (by omega)
  obtain ⟨mm, hmm⟩ : ∃ mm, mrg [m01, m23] = mm := ⟨_, rfl⟩
  have hMM := ref10_two m01 m23 hfM.1 hfM.2
  rw [hmm] at hMM
  have hbase : baseV t = mm := by
    unfold baseV
    rw [hdd, if_neg q0, if_neg q1, ha, hb, hc, he, hm01, hm23, hmm]
  obtain ⟨G, hG⟩ : ∃ G : Nat → Hist, (fun j => againV a mm j) = G := ⟨_, rfl⟩
  have hGi : ∀ j, againV a mm j = G j := fun j => by rw [← hG]
  have hG0 : G 0 = mm := by rw [← hGi]; rfl
  have hGs : ∀ j, G (j + 1) = mrg [G j, a] := fun j => by rw [← hGi, ← hGi]; rfl
  have hB : buildV t = G (d - 2) := by
    unfold buildV
    rw [hdd, hbase, ha, hGi]
  have hGd : ∀ j, j ≤ 2 → (∀ h ∈ [G j, a], h.Fine) ∧ ∀ h ∈ [G j, a], h.g ≤ 4 := fun j hj => by
    obtain ⟨x1, _, _⟩ := again_deep hl (by rw [hdd]; exact q2) j hj
    rw [ha, hbase, hGi] at x1
    exact mrg_fine x1 D0 (by omega) (by omega)
  have r0 : ((d : Int) == 1) = false := by
    have : (d : Int) ≠ 1 := by omega
    simpa using this
  have r1 : (d : Int) > 1 := by omega
  simp only [go_sem, h2, h3, h5, r0, r1]
  refine ⟨by decide, by decide, hM01.useA ?_⟩
  simp only [go_sem, h2, h3, h5]
  refine alloc_intro fun c9 h9 => ?_
  simp only [fresh_set] at h9
  have y9 : S (.r c9) = none := h9.2.2.2.2
  simp only [go_sem, h2, h3, h5, h9]
  refine ⟨by decide, by decide, by decide, by decide, hM23.useA ?_⟩
  simp only [go_sem, h2, h3, h5, h9]
  refine alloc_intro fun c11 h11 => ?_
  simp only [fresh_set] at h11
  have y11 : S (.r c11) = none := h11.2.2.2.2.2
  simp only [go_sem, h2, h3, h5, h9, h11]
  refine hMM.useA ?_
  simp only [go_sem, h2, h3, h5, h9, h11]
  refine alloc_intro fun c13 h13 => ?_
  simp only [fresh_set] at h13
  have y13 : S (.r c13) = none := h13.2.2.2.2.2.2
  simp only [go_sem, h2, h3, h5, h9, h11, h13]
  refine AWP.iter (fun j => ⟨Env.get [(2, .sp c2 0), (3, .sp c3 0), (5, .sp c5 0), (6, i64 d), (15, i64 ((j : Int) + 2))],
    ((S.set (.r c2) (.cells [i64 0, i64 0, .nils])).set (.r c3) (.cells [i64 a.k, i64 a.g, .p (.sl (a.ls.map lvE)), i64 b.k, i64 b.g, .p (.sl (b.ls.map lvE)), i64 c.k, i64 c.g, .p (.sl (c.ls.map lvE)), i64 e.k, i64 e.g, .p (.sl (e.ls.map lvE))])).set (.r c5) (.cells [i64 (G j).k, i64 (G j).g, .p (.sl ((G j).ls.map lvE))]), 92, []⟩) (d - 2) ?_ ?_ ?_
  · refine le_of (by simp only [go_sem] <;> rfl) ?_ rfl rfl (by simp)
    rw [hG0]
    ((try dsimp only); (repeat refine sub_set ?_ ?_) <;> first | ((repeat (first | exact Sub.refl _ | refine Sub.setF ?_ (by first | assumption | simp only [*]) | refine Sub.setV ?_ (by first | assumption | simp only [*]))); done) | (simp only [go_sem, h2, h3, h5, h9, h11, h13]; done) | (simp only [go_sem, h2, h3, h5, h9, h11, h13]; rfl) | rfl)
  · intro j hj ih
    have hcall := ref10_two (G j) a (hGd j (by omega)).1 (hGd j (by omega)).2
    rw [← hGs] at hcall
    have v0 : ((j : Int) + 2) < (d : Int) := by omega
    have v1 : wi ((j : Int) + 2 + 1) = ((j + 1 : Nat) : Int) + 2 := by rw [wi_id (by omega) (by omega)]; omega
    refine AWPH.step (xc_ok (bitB 604462910933489372736255) _ _ _ ?_)
    simp only [go_sem, h2, h3, h5, v0]
    refine hcall.useA ?_
    simp only [go_sem, h2, h3, h5]
    refine alloc_intro fun c16 h16 => ?_
    simp only [fresh_set] at h16
    simp only [go_sem, h2, h3, h5, h16]
    refine ih.back ?_ (by simp) ?_
    · ((try dsimp only); (repeat refine sub_set ?_ ?_) <;> first | ((repeat (first | exact Sub.refl _ | refine Sub.setF ?_ (by first | assumption | simp only [*]) | refine Sub.setV ?_ (by first | assumption | simp only [*]))); done) | (simp only [go_sem, h2, h3, h5, h16]; done) | (simp only [go_sem, h2, h3, h5, h16]; rfl) | rfl)
    · simp only [go_sem, v1]
  · refine AWPH.step (xc_ok (bitB 604462910933489372736255) _ _ _ ?_)
    have v0 : ¬ (((d - 2 : Nat) : Int) + 2) < (d : Int) := by omega
    rw [hB]
    simp only [go_sem, h2, h3, h5, v0]
    refine ⟨S, Sub.set (Sub.set (Sub.set (Sub.set (Sub.refl _) y2 _) y3 _) y5 _) y2 _, ?_⟩
    simp
end Go.Sk
end

-- W10o
section
namespace Go.Sk
open Go Go.Proofs

theorem ref05_Least0 (k : Nat) (hk : k < 1099511627776) : Pure Try.prog 20 [i64 k, i64 0] (i64 k) := fun S => by
  refine callR_of Try.func20 rfl rfl (xc_ok (bitB 19) _ _ _ ?_)
  simp only [go_sem]
  have h := ref05_Most k 0 hk
  have e0 : ((0 : Nat) : Int) = 0 := rfl
  rw [e0] at h
  refine h.useA ?_
  have e : ((mostN k 0 : Nat) : Int) = (k : Int) + 1 := by unfold mostN; rw [if_pos rfl]; omega
  have w : wi ((k : Int) + 1 - 1) = k := by rw [wi_id (by omega) (by omega)]; omega
  rw [e]
  simp only [go_sem, w]
  (refine ⟨S, by (repeat (first | exact Sub.refl _ | refine Sub.setF ?_ (by first | assumption | simp only [*]) | refine Sub.setV ?_ (by first | assumption | simp only [*]))), ?_⟩); simp
theorem bksN_snoc (ls : List (List Span)) (i : Nat) (h : i < ls.length) : bksN (ls.take (i + 1)) = bksN (ls.take i) + (ls[i]).length := by
  unfold bksN; rw [List.take_succ_eq_append_getElem h, List.map_append, List.sum_append]; simp
theorem check_Buckets (h : Hist) (g : h.Good) : Pure Try.prog 15 [h.av] (i64 (bksN h.ls : Nat)) := fun S => by
  obtain ⟨hk, hg, ls⟩ := h
  have hb1 := bks_le (c := hk.toNat + 2) ls g.sm
  have hln := g.len
  have hk1 := g.k1
  have h4 : (hk.toNat + 2) * ls.length ≤ 1026 * 53 := Nat.mul_le_mul (by dsimp only at hk1; omega) hln
  have hbi : ∀ i, bksN (ls.take i) ≤ 54378 := fun i => by
    have := bks_le (c := hk.toNat + 2) (ls.take i) (fun l hl => g.sm l (List.mem_of_mem_take hl))
    have h5 : (hk.toNat + 2) * (ls.take i).length ≤ 1026 * 53 := Nat.mul_le_mul (by dsimp only at hk1; omega) (by rw [List.length_take]; dsimp only at hln; omega)
    omega
  refine callR_of Try.func15 rfl rfl (xc_ok (bitB 1967) _ _ _ ?_)
  simp only [go_sem]
  refine alloc_intro fun c1 h1 => ?_
  have y1 : S (.r c1) = none := h1
  simp only [go_sem]
  refine AWP.iter (fun i => ⟨Env.get [(3, i64 (bksN (ls.take i) : Nat)), (7, .p (.sl (ls.map lvE))), (8, i64 ls.length), (9, i64 i)], S, 19, []⟩) ls.length ?_ ?_ ?_
  · refine le_of (by simp only [go_sem] <;> simp [bksN]) ?_ rfl rfl (by simp)
    exact Sub.set (Sub.refl _) y1 _
  · intro i hi ih
    dsimp only at hln
    have hqi : wi ((i : Int) + 1) = ((i + 1 : Nat) : Int) := wi_succ (show i < 4611686018427387904 by omega)
    have hs := bksN_snoc ls i hi
    have hb2 := hbi (i + 1)
    have hw : wi (((bksN (ls.take i) : Nat) : Int) + ((ls[i]).length : Int)) = ((bksN (ls.take (i + 1)) : Nat) : Int) := by
      rw [wi_id (by omega) (by omega)]; omega
    refine AWPH.step (xc_ok (bitB 1967) _ _ _ ?_)
    simp only [go_sem, hi, ltN' hi, getD_map' _ _ _ _ hi, lvE_mk, lvP, List.length_map, hw]
    refine ih.back (by (repeat (first | exact Sub.refl _ | refine Sub.setF ?_ (by first | assumption | simp only [*]) | refine Sub.setV ?_ (by first | assumption | simp only [*])))) (by simp) ?_
    simp only [go_sem, hqi]
  · refine AWPH.step (xc_ok (bitB 1967) _ _ _ ?_)
    simp only [go_sem, List.take_length]
    (refine ⟨S, by (repeat (first | exact Sub.refl _ | refine Sub.setF ?_ (by first | assumption | simp only [*]) | refine Sub.setV ?_ (by first | assumption | simp only [*]))), ?_⟩); simp
theorem ref09_digits : ∀ (b n : Nat), n < 2 ^ b → b ≤ 64 → Pure Try.prog 36 [u64 n] (i64 (digV n : Nat)) := by
  intro b
  induction b with
  | zero =>
    intro n hn _ S
    obtain rfl : n = 0 := by simpa using hn
    refine callR_of Try.func36 rfl rfl (xc_ok (bitB 21) _ _ _ ?_)
    simp only [go_sem]
    rw [digV_zero]
    (refine ⟨S, by (repeat (first | exact Sub.refl _ | refine Sub.setF ?_ (by first | assumption | simp only [*]) | refine Sub.setV ?_ (by first | assumption | simp only [*]))), ?_⟩); simp
  | succ b ih =>
    intro n hn hb S
    refine callR_of Try.func36 rfl rfl (xc_ok (bitB 21) _ _ _ ?_)
    by_cases h0 : n = 0
    · subst h0
      simp only [go_sem]
      rw [digV_zero]
      (refine ⟨S, by (repeat (first | exact Sub.refl _ | refine Sub.setF ?_ (by first | assumption | simp only [*]) | refine Sub.setV ?_ (by first | assumption | simp only [*]))), ?_⟩); simp
    · have e0 : (n == 0) = false := by simpa using h0
      have h2 : n / 2 < 2 ^ b := by rw [Nat.pow_succ] at hn; omega
      have hds := dig_small b (n / 2) h2
      have hn64 : n < 18446744073709551616 := by
        have h1 : (2 : Nat) ^ (b + 1) ≤ 2 ^ 64 := Nat.pow_le_pow_right (by decide) hb
        have e : (2 : Nat) ^ 64 = 18446744073709551616 := by decide
        omega
      have em : m64 (n / 2) = n / 2 := m64_id (by omega)
      simp only [go_sem, e0, em]
      refine (ih (n / 2) h2 (by omega)).useA ?_
      have ew : wi (1 + ((digV (n / 2) : Nat) : Int)) = ((digV n : Nat) : Int) := by
        rw [wi_id (by omega) (by omega), digV_pos h0]; omega
      simp only [go_sem, ew]
      (refine ⟨S, by (repeat (first | exact Sub.refl _ | refine Sub.setF ?_ (by first | assumption | simp only [*]) | refine Sub.setV ?_ (by first | assumption | simp only [*]))), ?_⟩); simp
set_option maxRecDepth 4000 in
theorem ref09_Bound (k g : Int) (n : Nat) (hk : 2 ≤ k ∧ k ≤ 1024) (hg : 0 ≤ g ∧ g ≤ 4) (hn : n < 18446744073709551616) : Pure Try.prog 17 [i64 k, i64 g, u64 n] (i64 (boundB k g n)) := fun S => by
  refine callR_of Try.func17 rfl rfl (xc_ok (bitB 2097223) _ _ _ ?_)
  by_cases h0 : n = 0
  · subst h0
    simp only [go_sem]
    (refine ⟨S, by (repeat (first | exact Sub.refl _ | refine Sub.setF ?_ (by first | assumption | simp only [*]) | refine Sub.setV ?_ (by first | assumption | simp only [*]))), ?_⟩); simp [boundB]
  have e0 : (n == 0) = false := by simpa using h0
  simp only [go_sem, e0]
  refine (ref06_May k).useA ?_
  have eM : (decide (k ≥ 2) && decide (k ≤ 1024)) = true := by rw [decide_eq_true hk.1, decide_eq_true hk.2]; rfl
  rw [eM]
  have g1 : ¬ g < 0 := by omega
  have g2 : ¬ g > 4 := by omega
  simp only [go_sem, Bool.not_true, g1, g2]
  have hd := ref09_digits 64 n (by have e : (2 : Nat) ^ 64 = 18446744073709551616 := by decide
                                   omega) (Nat.le_refl _)
  refine hd.useA ?_
  have hds := dig_small 64 n (by have e : (2 : Nat) ^ 64 = 18446744073709551616 := by decide
                                 omega)
  have w1 : wi (k + 1) = k + 1 := wi_id (by omega) (by omega)
  have w2 : wi (((digV n : Nat) : Int) + g) = (digV n : Int) + g := wi_id (by omega) (by omega)
  have hx : (k + 1) * ((digV n : Int) + g) ≤ 1025 * 68 := Int.mul_le_mul (by omega) (by omega) (by omega) (by omega)
  have hy : 0 ≤ (k + 1) * ((digV n : Int) + g) := Int.mul_nonneg (by omega) (by omega)
  have w3 : wi ((k + 1) * ((digV n : Int) + g)) = (k + 1) * ((digV n : Int) + g) := wi_id (by omega) (by omega)
  simp only [go_sem, w1, w2, w3]
  have hB : boundB k g n = (k + 1) * ((digV n : Int) + g) := by
    unfold boundB; rw [if_neg (by omega)]
  rw [hB]
  (refine ⟨S, by (repeat (first | exact Sub.refl _ | refine Sub.setF ?_ (by first | assumption | simp only [*]) | refine Sub.setV ?_ (by first | assumption | simp only [*]))), ?_⟩); simp
end Go.Sk
end

-- W10p
section
namespace Go.Sk
open Go Go.Proofs

theorem hs_len {l : List Hist} : ∀ el ∈ l.map Hist.cs, el.length = 3 := by
  intro el h; obtain ⟨x, _, rfl⟩ := List.mem_map.1 h; rfl
theorem law10_made (h : Hist) : Pure Try.prog 16 [h.av] h.av := fun S => by
  refine callR_of Try.func16 rfl rfl (xc_ok (bitB 7) _ _ _ ?_)
  simp only [go_sem]
  refine alloc_intro fun c1 h1 => ?_
  simp only [go_sem]
  refine alloc_intro fun c2 h2 => ?_
  simp only [fresh_set] at h2
  simp only [go_sem, h2]
  (refine ⟨S, by (repeat (first | exact Sub.refl _ | refine Sub.setF ?_ (by first | assumption | simp only [*]) | refine Sub.setV ?_ (by first | assumption | simp only [*]))), ?_⟩); simp
theorem law10_same (a b : Hist) (h : a.Small) : Pure Try.prog 28 [a.av, b.av] (bl (decide (a = b))) := fun S => by
  refine callR_of Try.func28 rfl rfl (xc_ok (bitB 31) _ _ _ ?_)
  simp only [go_sem]
  refine alloc_intro fun c2 h2 => ?_
  simp only [go_sem]
  refine alloc_intro fun c3 h3 => ?_
  simp only [fresh_set] at h3
  simp only [go_sem, h3]
  refine (ref06_Same a b h).useA ?_
  simp only [go_sem]
  (refine ⟨S, by (repeat (first | exact Sub.refl _ | refine Sub.setF ?_ (by first | assumption | simp only [*]) | refine Sub.setV ?_ (by first | assumption | simp only [*]))), ?_⟩); simp
set_option maxHeartbeats 1000000 in
set_option maxRecDepth 4000 in
theorem law10_awake : Pure Try.prog 9 [] (bl true) := fun S => by
  have hm0 := ref06_Made 0 [⟨1, 1⟩] (by omega) (by simp) (fun d hd => by
    simp only [List.mem_cons, List.not_mem_nil, or_false] at hd; subst hd; exact ⟨by decide, by decide⟩)
  have hm1 := ref06_Made 0 [⟨2, 1⟩] (by omega) (by simp) (fun d hd => by
    simp only [List.mem_cons, List.not_mem_nil, or_false] at hd; subst hd; exact ⟨by decide, by decide⟩)
  rw [aw_made.1] at hm0
  rw [aw_made.2] at hm1
  have hc := aw_came
  have hM := replay_Merge [aw1, aw0] (by simp) hc.fine (fun h hh => by
    simp only [List.mem_cons, List.not_mem_nil, or_false] at hh
    rcases hh with rfl | rfl <;> decide)
  rw [aw_with] at hM
  have hN := replay_Merge [] (by simp) (fun h hh => by cases hh) (fun h hh => by cases hh)
  rw [withV_e (Or.inl rfl)] at hN
  have hT := hist_Total 2 1 [[⟨1, 1⟩, ⟨2, 2⟩]] (by simp)
  have hTv : totV [[⟨1, 1⟩, ⟨2, 2⟩]] = 2 := by rw [totV_eq (by decide)]; rfl
  rw [hTv] at hT
  refine callR_of Try.func9 rfl rfl (xc_ok (bitB 95) _ _ _ ?_)
  simp only [go_sem]
  refine hm0.useA ?_
  simp only [go_sem]
  refine (law10_made aw0).useA ?_
  simp only [go_sem]
  refine alloc_intro fun c1 h1 => ?_
  simp only [go_sem]
  refine hm1.useA ?_
  simp only [go_sem]
  refine (law10_made aw1).useA ?_
  simp only [go_sem]
  refine alloc_intro fun c2 h2 => ?_
  simp only [fresh_set] at h2
  simp only [go_sem, h2]
  refine hM.useA ?_
  simp only [go_sem, h2]
  refine alloc_intro fun c3 h3 => ?_
  simp only [fresh_set] at h3
  simp only [go_sem, h2, h3]
  refine hN.useA ?_
  simp only [go_sem, h2, h3]
  refine alloc_intro fun c5 h5 => ?_
  simp only [fresh_set] at h5
  simp only [go_sem, h2, h3, h5]
  refine hT.useA ?_
  have r1 : (((1 : Nat) : Int) == 1) = true := by decide
  simp only [go_sem, h2, h3, h5, r1, lvE_mk, lvP, List.map_cons, List.map_nil, Span.pv]
  have y1 : S (.r c1) = none := h1
  have y2 : S (.r c2) = none := h2.2
  have y3 : S (.r c3) = none := h3.2.2
  have y5 : S (.r c5) = none := h5.2.2.2
  exact ⟨S, Sub.set (Sub.set (Sub.set (Sub.set (Sub.refl _) y1 _) y2 _) y3 _) y5 _, Or.inl rfl⟩
end Go.Sk
end
