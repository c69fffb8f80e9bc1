/- Texts W14o L14e, joined. -/
import Derived.Test.YthpfcfacofakoaaGreatRJF
import Derived.Test.YthpfcfacofakoaaGreatRJE
import Derived.Test.YthpfcfacofakoaaGreatRJD
import Derived.Test.YthpfcfacofakoaaGreatRJC
import Derived.Test.YthpfcfacofakoaaGreatSkBr
import Derived.Test.YthpfcfacofakoaaGreatRJA
set_option linter.unusedSimpArgs false
set_option linter.unusedVariables false
set_option linter.unusedSectionVars false
-- W14o
section
namespace Go.Sk
open Go Go.Proofs

theorem sumE_all' {f : Event → Nat} {B : Nat} : ∀ {l : List Event}, (∀ e ∈ l, f e ≤ B) → sumE f l ≤ l.length * B
  | [], _ => by simp [sumE]
  | e :: r, h => by
    have h1 := h e (by simp)
    have h2 := sumE_all' (l := r) (f := f) fun x hx => h x (by simp [hx])
    simp only [sumE_cons, List.length_cons, Nat.add_mul, Nat.one_mul]
    omega
def zr : List AV := [u64 0, u64 0, i64 0, u64 0, u64 0, .nils, i64 0, i64 0, .nils]
def rowsC (L : List Skt) (m : Nat) : List AV := flatA (L.map Skt.pv) ++ zcs zr m
theorem rowsC_pre (L : List Skt) : (flatA (L.map Skt.pv)).length = L.length * 9 := by
  rw [flatA_length (sz := 9) (by intro el h; obtain ⟨x, _, rfl⟩ := List.mem_map.1 h; rfl)]; simp
theorem rowsC_len (L : List Skt) (m : Nat) : (rowsC L m).length = L.length * 9 + m * 9 := by
  unfold rowsC; rw [List.length_append, rowsC_pre, zcs_length]; rfl
theorem rowsC_put (L : List Skt) (m : Nat) (s : Skt) : (rowsC L (m + 1)).take (L.length * 9) ++ s.pv.map .p ++ (rowsC L (m + 1)).drop (L.length * 9 + 9) = rowsC (L ++ [s]) m := by
  have e1 : zcs zr (m + 1) = zr ++ zcs zr m := by unfold zcs; rw [List.replicate_succ]; rfl
  have e2 : flatA ((L ++ [s]).map Skt.pv) = flatA (L.map Skt.pv) ++ s.pv.map .p := by simp [flatA]
  unfold rowsC
  rw [e1, e2, ← rowsC_pre L, List.take_append_of_le_length (Nat.le_refl _), List.take_length]
  have e3 : ∀ A B : List AV, (A ++ (zr ++ B)).drop (A.length + 9) = B := fun A B => by
    rw [← List.append_assoc]
    exact List.drop_left' (by simp [zr])
  rw [e3]
noncomputable def mkJ (k : Int) (n0 n1 : Nat) (ls : List (List Event)) (i : Nat) : Skt × List Event := madeK k n0 n1 (ls.getD i [])
noncomputable def sksN (k : Int) (n0 n1 : Nat) (ls : List (List Event)) (i : Nat) : List Skt := (List.range i).map fun j => (mkJ k n0 n1 ls j).1
noncomputable def cameN (k : Int) (n0 n1 : Nat) (ls : List (List Event)) (i : Nat) : List Event := ((List.range i).map fun j => (mkJ k n0 n1 ls j).2).flatten
theorem sksN_snoc (k : Int) (n0 n1 : Nat) (ls : List (List Event)) (i : Nat) : sksN k n0 n1 ls (i + 1) = sksN k n0 n1 ls i ++ [(mkJ k n0 n1 ls i).1] := by unfold sksN; rw [List.range_succ, List.map_append]; rfl
theorem cameN_snoc (k : Int) (n0 n1 : Nat) (ls : List (List Event)) (i : Nat) : cameN k n0 n1 ls (i + 1) = cameN k n0 n1 ls i ++ (mkJ k n0 n1 ls i).2 := by unfold cameN; rw [List.range_succ, List.map_append, List.flatten_append]; simp
theorem sksN_len (k : Int) (n0 n1 : Nat) (ls : List (List Event)) (i : Nat) : (sksN k n0 n1 ls i).length = i := by unfold sksN; simp
theorem cameN_len (k : Int) (n0 n1 : Nat) (ls : List (List Event)) : ∀ i, (∀ j, j < i → (mkJ k n0 n1 ls j).2.length ≤ 30) → (cameN k n0 n1 ls i).length ≤ i * 30 := by
  intro i
  induction i with
  | zero => intro _; simp [cameN]
  | succ i ih => intro h; rw [cameN_snoc, List.length_append]; have := ih fun j hj => h j (by omega); have := h i (by omega); omega
set_option maxHeartbeats 4000000 in
set_option maxRecDepth 8000 in
theorem law_CountJoins (k : Int) (n0 n1 n2 : Nat) (l0 l1 l2 : List Event) (hk0 : -9223372036854775808 ≤ k) (hk : k < 9223372036854775808) (b0 : n0 < 18446744073709551616) (b1 : n1 < 18446744073709551616) (b2 : n2 < 18446744073709551616)
    (h0 : ∀ e ∈ l0, e.Ok) (ll0 : l0.length ≤ 1048576) (h1 : ∀ e ∈ l1, e.Ok) (ll1 : l1.length ≤ 1048576) (h2 : ∀ e ∈ l2, e.Ok) (ll2 : l2.length ≤ 1048576) :
    CallsR Tryz.prog 4 [i64 k, .agg [u64 n0, u64 n1, u64 n2], .agg [.p (evsP l0), .p (evsP l1), .p (evsP l2)]] noS (fun x _ => x = bl true) := by
  generalize noS = S
  refine callsR_of Tryz.func4 rfl (xc_ok (bitB 24758800785743775032573689847) _ _ _ ?_)
  simp only [go_sem]
  refine alloc_intro fun c4 h4 => ?_
  simp only [go_sem]
  refine alloc_intro fun c5 h5 => ?_
  simp only [fresh_set] at h5
  simp only [go_sem, h5]
  refine awake14.useA ?_
  simp only [go_sem, h5]
  refine alloc_intro fun c9 h9 => ?_
  simp only [fresh_set] at h9
  simp only [go_sem, h5, h9]
  refine AWP.tip0 8 3 (by simp only [go_sem]) fun v hv => ?_
  simp only [freshv_setr] at hv
  simp only [go_sem, h5, h9]
  have y4 : S (.r c4) = none := h4
  have y5 : S (.r c5) = none := h5.2
  have y9 : S (.r c9) = none := h9.2.2
  have yv : S (.v v) = none := hv
  have hls : ∃ ls : List (List Event), ls = [l0, l1, l2] := ⟨_, rfl⟩
  obtain ⟨ls, hls⟩ := hls
  have hok : ∀ i, (∀ e ∈ ls.getD i [], e.Ok) ∧ (ls.getD i []).length ≤ 1048576 := fun i => by
    subst hls
    match i with
    | 0 => exact ⟨h0, ll0⟩
    | 1 => exact ⟨h1, ll1⟩
    | 2 => exact ⟨h2, ll2⟩
    | n + 3 => simp
  have hg5 : ∀ i, i < 3 → ([.p (evsP l0), .p (evsP l1), .p (evsP l2)] : List AV).getD (i * 1) .top = .p (evsP (ls.getD i [])) := fun i hi => by
    subst hls
    match i, hi with
    | 0, _ => rfl
    | 1, _ => rfl
    | 2, _ => rfl
  have hof := fun i => madeK_of k n0 n1 (hok i).1
  obtain ⟨V, hV⟩ : ∃ V : Store, V = (S.set (.r c4) (.cells [u64 n0, u64 n1, u64 n2])).set (.r c5) (.cells [.p (evsP l0), .p (evsP l1), .p (evsP l2)]) := ⟨_, rfl⟩
  have k4 : V (.r c4) = some (.cells [u64 n0, u64 n1, u64 n2]) := by rw [hV]; simp only [go_sem, h5]
  have k5 : V (.r c5) = some (.cells [.p (evsP l0), .p (evsP l1), .p (evsP l2)]) := by rw [hV]; simp only [go_sem, h5]
  have f9 : Fresh V c9 := by rw [hV]; simp only [fresh_set]; exact h9
  have fv : FreshV V v := by rw [hV]; simp only [freshv_setr]; exact hv
  refine AWP.roam (ι := Nat × Option Nat) (fun y => y.1 ≤ 3 ∧ ∀ e ∈ cameN k n0 n1 ls y.1, e.w ≤ 1073741824)
    (fun y => ⟨Env.get [(0, i64 k), (4, .sp c4 0), (5, .sp c5 0), (7, bl true), (8, .ts v 3 y.2 ((cameN k n0 n1 ls y.1).map Event.pv)), (9, .sp c9 0), (10, i64 y.1)],
      (V.set (.r c9) (.cells (rowsC (sksN k n0 n1 ls y.1) (3 - y.1)))).set (.v v) (.tip 3 (cameN k n0 n1 ls y.1).length y.2), 160, []⟩) (fun y => 3 - y.1) (0, none) ⟨by decide, fun e he => by simp [cameN] at he⟩ ?_ ?_
  · refine le_of (by simp only [go_sem] <;> simp [cameN]) ?_ rfl rfl (by simp)
    rw [hV]; exact Sub.refl _
  clear h4
  rintro ⟨i, loc⟩ ⟨hi, hw⟩ ih
  dsimp only at hi hw ih ⊢
  refine AWPH.step (xc_ok (bitB 24758800785743775032573689847) _ _ _ ?_)
  by_cases ci : i < 3
  · have ci' : (i : Int) < 3 := by clear h5 h9; omega
    have hqi : wi ((i : Int) + 1) = ((i + 1 : Nat) : Int) := wi_succ (show i < 4611686018427387904 by clear h5 h9; omega)
    have hM := ref14_Made k n0 n1 (ls.getD i []) hk0 hk b0 b1 (by have := (hok i).2; clear h5 h9; omega) (hok i).1
    have hsn := sksN_snoc k n0 n1 ls i
    have hcn := cameN_snoc k n0 n1 ls i
    have hsl := sksN_len k n0 n1 ls i
    obtain ⟨o1, o2, o3, o4, o5⟩ := hof i
    unfold mkJ at hsn hcn
    generalize madeK k n0 n1 (ls.getD i []) = RR at *
    obtain ⟨G, AA⟩ := RR
    dsimp only at hM hsn hcn o1 o2 o3 o4 o5
    have hlen := rowsC_len (sksN k n0 n1 ls i) (3 - i)
    have hput := rowsC_put (sksN k n0 n1 ls i) (3 - (i + 1)) G
    rw [show 3 - (i + 1) + 1 = 3 - i by clear h5 h9; omega, hsl, ← hsn] at hput
    rw [hsl] at hlen
    simp only [go_sem, ci']
    refine AWP.draw2 (bitB 24758800785743775032573689847) mixed (by kernel_rfl) (fun j => .tuple [G.av, .p (evsP AA)]) ?_
    simp only [go_sem, k4, k5, h5, h9, ci', hg5 i ci]
    refine ⟨by decide, by decide, ci, by clear h5 h9; omega, hM.draw, alloc_intro fun c11 h11 => ?_⟩
    simp only [fresh_set, fresh_setv] at h11
    have hput' : (rowsC (sksN k n0 n1 ls i) (3 - i)).take (i * 9) ++ [u64 G.win, u64 G.b.late, i64 G.b.room, u64 G.b.mark, u64 G.b.front, .p (.sl (G.b.evs.map Event.pv)), i64 G.past.k, i64 G.past.g, .p (.sl (G.past.ls.map lvE))] ++ (rowsC (sksN k n0 n1 ls i) (3 - i)).drop (i * 9 + 9) = rowsC (sksN k n0 n1 ls (i + 1)) (3 - (i + 1)) := by rw [← hput]; rfl
    have hcl := cameN_len k n0 n1 ls i (fun j _ => (hof j).2.2.2.1)
    have hcn' : (cameN k n0 n1 ls i).map Event.pv ++ AA.map Event.pv = (cameN k n0 n1 ls (i + 1)).map Event.pv := by rw [hcn, List.map_append]
    have hcl1 : (cameN k n0 n1 ls (i + 1)).length = (cameN k n0 n1 ls i).length + AA.length := by rw [hcn, List.length_append]
    have f11 : Fresh V c11 := h11.2
    simp only [go_sem, h9, h11, ci', hput']
    refine ⟨ci, by rw [hlen]; clear h5 h9 h11; omega, ?_⟩
    refine AWP.roam (ι := Nat) (fun j => j ≤ AA.length ∧ ∀ e ∈ AA.take j, e.w ≤ 1073741824)
      (fun j => ⟨Env.get [(0, i64 k), (4, .sp c4 0), (5, .sp c5 0), (7, bl true), (8, .ts v 3 loc ((cameN k n0 n1 ls i).map Event.pv)), (9, .sp c9 0), (10, i64 i), (12, .p (evsP AA)), (13, i64 j)],
        (V.set (.r c9) (.cells (rowsC (sksN k n0 n1 ls (i + 1)) (3 - (i + 1))))).set (.v v) (.tip 3 (cameN k n0 n1 ls i).length loc), 160, []⟩) (fun j => AA.length - j) 0 ⟨Nat.zero_le _, fun e he => by simp at he⟩ ?_ ?_
    · refine le_of (by simp only [go_sem] <;> simp) ?_ rfl rfl (by simp)
      ((try dsimp only); (repeat refine sub_set ?_ ?_) <;> first | ((repeat (first | exact Sub.refl _ | refine Sub.setF ?_ (by first | assumption | simp only [*]) | refine Sub.setV ?_ (by first | assumption | simp only [*]))); done) | (simp only [go_sem, h9, h11]; done) | (simp only [go_sem, h9, h11]; rfl) | rfl)
    rintro j ⟨hj, hwj⟩ jh
    refine AWPH.step (xc_ok (bitB 24758800785743775032573689847) _ _ _ ?_)
    by_cases cj : j < AA.length
    · have hqj : wi ((j : Int) + 1) = ((j + 1 : Nat) : Int) := wi_succ (show j < 4611686018427387904 by clear h5 h9 h11; omega)
      by_cases cw : 1073741824 < (AA[j]).w
      · simp only [go_sem, cj, ltN' cj, getD_map' _ _ _ _ cj, evsP, List.length_map, cw]
        exact ⟨_, Sub.refl _⟩
      · simp only [go_sem, cj, ltN' cj, getD_map' _ _ _ _ cj, evsP, List.length_map, cw]
        refine (jh (j + 1) ⟨cj, fun e he => ?_⟩ (by clear h5 h9 h11; omega)).back (Sub.refl _) (by simp) ?_
        · rw [List.take_succ_eq_append_getElem cj] at he
          rcases List.mem_append.1 he with he | he
          · exact hwj e he
          · obtain rfl := List.mem_singleton.1 he; clear h5 h9 h11; omega
        · simp only [go_sem, hqj, evsP]
    · obtain rfl : j = AA.length := by clear h5 h9 h11; omega
      rw [List.take_length] at hwj
      simp only [go_sem, cj, evsP, List.length_map]
      refine ⟨evn_len, evn_len, by clear h5 h9 h11; omega, by clear h5 h9 h11; omega, grow_intro fun loc' => ?_⟩
      simp only [go_sem, hcn', List.length_map, hqi]
      refine (ih (i + 1, loc') ⟨ci, fun e he => ?_⟩ (by dsimp only; clear h5 h9 h11; omega)).back ?_ (by simp) ?_
      · dsimp only at he
        rw [hcn] at he
        rcases List.mem_append.1 he with he | he
        · exact hw e he
        · exact hwj e he
      · ((try dsimp only); (repeat refine sub_set ?_ ?_) <;> first | ((repeat (first | exact Sub.refl _ | refine Sub.setF ?_ (by first | assumption | simp only [*]) | refine Sub.setV ?_ (by first | assumption | simp only [*]))); done) | (simp only [go_sem, hcn', List.length_map, hcl1]; done) | (simp only [go_sem, hcn', List.length_map, hcl1]; rfl) | rfl)
      · simp only [go_sem, hqi, hcn']
  · obtain rfl : i = 3 := by clear h5 h9; omega
    clear ih
    obtain ⟨o0, p0, q0, r0, z0⟩ := hof 0
    obtain ⟨o1, p1, q1, r1, z1⟩ := hof 1
    obtain ⟨o2, p2, q2, r2, z2⟩ := hof 2
    obtain ⟨u0, s0⟩ := madeK_conf k n0 n1 (ls.getD 0 [])
    obtain ⟨u1, s1⟩ := madeK_conf k n0 n1 (ls.getD 1 [])
    obtain ⟨u2, s2⟩ := madeK_conf k n0 n1 (ls.getD 2 [])
    have hsk : sksN k n0 n1 ls 3 = [(madeK k n0 n1 (ls.getD 0 [])).1, (madeK k n0 n1 (ls.getD 1 [])).1, (madeK k n0 n1 (ls.getD 2 [])).1] := by rw [sksN_snoc, sksN_snoc, sksN_snoc]; rfl
    have hcm : cameN k n0 n1 ls 3 = (madeK k n0 n1 (ls.getD 0 [])).2 ++ (madeK k n0 n1 (ls.getD 1 [])).2 ++ (madeK k n0 n1 (ls.getD 2 [])).2 := by rw [cameN_snoc, cameN_snoc, cameN_snoc]; rfl
    rw [hsk]
    rw [hcm] at hw ⊢
    clear hok hg5 hof hsk hcm
    generalize madeK k n0 n1 (ls.getD 0 []) = X0 at *
    generalize madeK k n0 n1 (ls.getD 1 []) = X1 at *
    generalize madeK k n0 n1 (ls.getD 2 []) = X2 at *
    obtain ⟨G0, A0⟩ := X0
    obtain ⟨G1, A1⟩ := X1
    obtain ⟨G2, A2⟩ := X2
    dsimp only at *
    have hrows : rowsC [G0, G1, G2] (3 - 3) = [u64 G0.win, u64 G0.b.late, i64 G0.b.room, u64 G0.b.mark, u64 G0.b.front, .p (.sl (G0.b.evs.map Event.pv)), i64 G0.past.k, i64 G0.past.g, .p (.sl (G0.past.ls.map lvE)), u64 G1.win, u64 G1.b.late, i64 G1.b.room, u64 G1.b.mark, u64 G1.b.front, .p (.sl (G1.b.evs.map Event.pv)), i64 G1.past.k, i64 G1.past.g, .p (.sl (G1.past.ls.map lvE)), u64 G2.win, u64 G2.b.late, i64 G2.b.room, u64 G2.b.mark, u64 G2.b.front, .p (.sl (G2.b.evs.map Event.pv)), i64 G2.past.k, i64 G2.past.g, .p (.sl (G2.past.ls.map lvE))] := rfl
    rw [hrows]
    have hlen : (A0 ++ A1 ++ A2).length ≤ 90 := by simp only [List.length_append]; clear h5 h9; omega
    have hR90 : ∀ f : Event → Nat, (∀ e, f e ≤ e.w) → sumE f (A0 ++ A1 ++ A2) ≤ 90 * 1073741824 := fun f hf => by
      refine Nat.le_trans (sumE_all' (B := 1073741824) fun e he => Nat.le_trans (hf e) (hw e he)) ?_
      exact Nat.mul_le_mul_right _ hlen
    have hT := hR90 Event.w fun _ => Nat.le_refl _
    have hT2 : sumE Event.w (A0 ++ A1) + sumE Event.w A2 = sumE Event.w (A0 ++ A1 ++ A2) := (sumE_app _ _ _).symm
    have hT1 : sumE Event.w A0 + sumE Event.w A1 = sumE Event.w (A0 ++ A1) := (sumE_app _ _ _).symm
    obtain ⟨a1, a2, a3, a4, a5, a6⟩ := merge_of o0 o1 ⟨q1.trans q0.symm, u1.trans u0.symm, s1.trans s0.symm, p1.trans p0.symm⟩ (by decide) (by clear h5 h9; omega)
    have hM1 := count_Merge [G0, G1] (by simp) (fun s hs => by
      simp only [List.mem_cons, List.not_mem_nil, or_false] at hs
      rcases hs with rfl | rfl
      · exact o0.fit.fit (by decide)
      · exact o1.fit.fit (by decide))
    generalize mergeK [G0, G1] = M1 at *
    obtain ⟨N1, e1⟩ := M1
    dsimp only at *
    subst a1
    obtain ⟨d1, d2, d3, d4, d5, d6⟩ := merge_of a2 o2 ⟨q2.trans (q0.symm.trans a3.symm), u2.trans (u0.symm.trans a4.symm), s2.trans (s0.symm.trans a5.symm), p2.trans (p0.symm.trans a6.symm)⟩ (by decide) (by clear h5 h9; omega)
    have hM2 := count_Merge [N1, G2] (by simp) (fun s hs => by
      simp only [List.mem_cons, List.not_mem_nil, or_false] at hs
      rcases hs with rfl | rfl
      · exact a2.fit.fit (by decide)
      · exact o2.fit.fit (by decide))
    generalize mergeK [N1, G2] = M2 at *
    obtain ⟨B, e2⟩ := M2
    dsimp only at *
    subst d1
    have hg := d2.fit.good
    have hgen : B.past.g = 2 := d2.fit.gen
    have hfr : B.b.front ≤ 9223372036854775807 := Nat.le_trans hg.fm hg.mkk
    have hw1 := hg.w1
    have hw2 := hg.w2
    simp only [go_sem]
    refine AWP.draw2 (bitB 24758800785743775032573689847) mixed (by kernel_rfl) (fun j => if j = 2 then G0.av else if j = 5 then G1.av else .tuple [N1.av, i64 0]) ?_
    simp only [go_sem, h9]
    refine ⟨(made14 G0).draw, by decide, by decide, (made14 G1).draw, hM1.draw, alloc_intro fun c14 h14 => ?_⟩
    simp only [fresh_set, fresh_setv] at h14
    simp only [go_sem, h9, h14]
    refine AWP.draw2 (bitB 24758800785743775032573689847) mixed (by kernel_rfl) (fun j => if j = 3 then G2.av else .tuple [B.av, i64 0]) ?_
    simp only [go_sem, h9, h14]
    refine ⟨by decide, by decide, (made14 G2).draw, hM2.draw, alloc_intro fun c16 h16 => ?_⟩
    simp only [fresh_set, fresh_setv] at h16
    have m9 : ¬ c9 = c4 ∧ ¬ c4 = c9 := h9.2.1
    have m14 : ¬ c14 = c4 ∧ ¬ c4 = c14 := by constructor <;> rintro rfl <;> (have := h14.2; rw [Fresh, k4] at this; cases this)
    have m16 : ¬ c16 = c4 ∧ ¬ c4 = c16 := by constructor <;> rintro rfl <;> (have := h16.2.2; rw [Fresh, k4] at this; cases this)
    have q1' : m64 (B.b.front + n2 % 200) = B.b.front + n2 % 200 := m64_id (by clear h5 h9 h14 h16 m9 m14 m16; omega)
    have q3' : m64 (n0 / 7) = n0 / 7 := m64_id (by clear h5 h9 h14 h16 m9 m14 m16; omega)
    have q2' : m64 (1 + n0 / 7 % B.win) = 1 + n0 / 7 % B.win := m64_id (by have := Nat.mod_lt (n0 / 7) (show 0 < B.win by omega); clear h5 h9 h14 h16 m9 m14 m16; omega)
    have hmx : (if B.win < 1 then ((1 : Nat) : Int) else ((B.win : Nat) : Int)) = ((B.win : Nat) : Int) := by rw [if_neg (by clear h5 h9 h14 h16 m9 m14 m16; omega)]
    simp only [go_sem, h9, h14, h16, k4, m9, m14, m16, q1', q2', q3', hmx]
    refine ⟨by decide, by decide, ?_⟩
    by_cases htk : 9223372036854775807 < B.b.front + n2 % 200
    · simp only [go_sem, htk]
      exact ⟨_, Sub.refl _⟩
    simp only [go_sem, h9, h14, h16, k4, m9, m14, m16, htk, q1', q2', q3', hmx]
    have zw : ¬ B.win = 0 := by clear h5 h9 h14 h16 m9 m14 m16; omega
    have hsp : 1 + n0 / 7 % B.win ≤ B.win := by have := Nat.mod_lt (n0 / 7) (show 0 < B.win by clear h5 h9 h14 h16 m9 m14 m16; omega); clear h5 h9 h14 h16 m9 m14 m16; omega
    have hs1 : ¬ (1 + n0 / 7 % B.win = 0) := by clear h5 h9 h14 h16 m9 m14 m16; omega
    have ht1 : B.b.front ≤ B.b.front + n2 % 200 := by clear h5 h9 h14 h16 m9 m14 m16; omega
    have ht2 : B.b.front + n2 % 200 ≤ 9223372036854775807 := by clear h5 h9 h14 h16 m9 m14 m16; omega
    refine ⟨zw, ?_⟩
    generalize 1 + n0 / 7 % B.win = span at *
    generalize B.b.front + n2 % 200 = tick at *
    have hQ := count_Query B hg tick span
    obtain ⟨E, hE, hE2, hlo, hhi⟩ := of_bound d2 ht1 ht2 hsp
    have hqk : queryK B tick span = (E, 0) := by
      unfold queryK
      rw [if_neg (by clear h5 h9 h14 h16 m9 m14 m16; omega), if_neg (by clear h5 h9 h14 h16 m9 m14 m16; omega), hE, m64_id (by clear h5 h9 h14 h16 m9 m14 m16; omega)]
    rw [hqk] at hQ
    dsimp only at hQ
    have hsum := hR90 (wtT tick span) (wtT_le tick span)
    have hR := ref13_Sum (A0 ++ A1 ++ A2) tick span (by clear h5 h9 h14 h16 m9 m14 m16; omega)
    rw [show spanV (A0 ++ A1 ++ A2) tick span = sumE (wtT tick span) (A0 ++ A1 ++ A2) by
      have := spanV_eq tick span (A0 ++ A1 ++ A2) 0 (by clear h5 h9 h14 h16 m9 m14 m16; omega)
      unfold spanV; rw [this, Nat.zero_add]] at hR
    generalize sumE (wtT tick span) (A0 ++ A1 ++ A2) = R at *
    have hpk : B.past.k = 2 + max k 0 % 30 := d6.trans (a6.trans p0)
    obtain ⟨K, hK⟩ : ∃ K : Nat, B.past.k = (K : Int) := ⟨B.past.k.toNat, by clear h5 h9 h14 h16 m9 m14 m16; omega⟩
    have hK2 : 2 ≤ K := by clear h5 h9 h14 h16 m9 m14 m16; omega
    have hK3 : K ≤ 31 := by clear h5 h9 h14 h16 m9 m14 m16; omega
    have hKK : B.past.k.toNat = K := by rw [hK]; rfl
    rw [hKK] at hlo hhi
    have hhi' : K * K * K * E ≤ (K + 1) * (K + 2) * (K + 2) * R := by
      have e1 : K ^ (max (max 0 0 + 1) 0 + 1 + 1) = K * K * K := by show K ^ 3 = _; rw [Nat.pow_succ, Nat.pow_succ, Nat.pow_one]
      have e2 : (K + 2) ^ (max (max 0 0 + 1) 0 + 1) = (K + 2) * (K + 2) := by show (K + 2) ^ 2 = _; rw [Nat.pow_succ, Nat.pow_one]
      rw [e1, e2] at hhi
      refine Nat.le_trans hhi (Nat.le_of_eq ?_)
      simp only [Nat.mul_assoc]
    clear hhi hE hqk d2 d3 d4 d5 d6 a2 a3 a4 a5 a6
    refine hQ.useA ?_
    simp only [go_sem, h9, h14, h16]
    refine hR.useA ?_
    have c1 : K * K ≤ 961 := Nat.mul_le_mul hK3 hK3
    have c2 : K * K * K ≤ 29791 := Nat.mul_le_mul c1 hK3
    have c3 : (K + 1) * (K + 2) ≤ 32 * 33 := Nat.mul_le_mul (by omega) (by omega)
    have c4' : (K + 1) * (K + 2) * (K + 2) ≤ 32 * 33 * 33 := Nat.mul_le_mul c3 (by omega)
    have c5' : (K + 1) * (K + 2) * (K + 2) * R ≤ 32 * 33 * 33 * (90 * 1073741824) := Nat.mul_le_mul c4' hsum
    have c6 : K * K * K * E ≤ 32 * 33 * 33 * (90 * 1073741824) := Nat.le_trans hhi' c5'
    have c7 : (K - 1) * R ≤ 31 * (90 * 1073741824) := Nat.mul_le_mul (by omega) hsum
    have c8 : K * E ≤ 31 * 4503599627370496 := Nat.mul_le_mul hK3 hE2
    have n0' : m64 K = K := m64_id (Nat.lt_of_le_of_lt hK3 (by decide))
    have n1' : sub64 K 1 = K - 1 := sub64_le (Nat.lt_of_le_of_lt hK3 (by decide)) (Nat.le_trans (by decide) hK2)
    have n2' : m64 ((K - 1) * R) = (K - 1) * R := m64_id (Nat.lt_of_le_of_lt c7 (by decide))
    have n3' : m64 (K * E) = K * E := m64_id (Nat.lt_of_le_of_lt c8 (by decide))
    have n4' : m64 (K * K) = K * K := m64_id (Nat.lt_of_le_of_lt c1 (by decide))
    have n5' : m64 (K * K * K) = K * K * K := m64_id (Nat.lt_of_le_of_lt c2 (by decide))
    have n6' : m64 (K * K * K * E) = K * K * K * E := m64_id (Nat.lt_of_le_of_lt c6 (by decide))
    have n7' : m64 (K + 1) = K + 1 := m64_id (Nat.lt_of_le_of_lt (Nat.succ_le_succ hK3) (by decide))
    have n8' : m64 (K + 2) = K + 2 := m64_id (Nat.lt_of_le_of_lt (Nat.add_le_add_right hK3 2) (by decide))
    have n9' : m64 ((K + 1) * (K + 2)) = (K + 1) * (K + 2) := m64_id (Nat.lt_of_le_of_lt c3 (by decide))
    have n10' : m64 ((K + 1) * (K + 2) * (K + 2)) = (K + 1) * (K + 2) * (K + 2) := m64_id (Nat.lt_of_le_of_lt c4' (by decide))
    have n11' : m64 ((K + 1) * (K + 2) * (K + 2) * R) = (K + 1) * (K + 2) * (K + 2) * R := m64_id (Nat.lt_of_le_of_lt c5' (by decide))
    have hg2 : (B.past.g == 2) = true := by rw [hgen]; rfl
    simp only [go_sem, h9, h14, h16, hK, hg2, n0', n1', n2', n3', n4', n5', n6', n7', n8', n9', n10', n11', decide_eq_true hlo, decide_eq_true hhi']
    exact ⟨_, Sub.refl _⟩
end Go.Sk
end

-- L14e
section
namespace Go.Sk
open Go Go.Proofs Go.ChangeShapes Go.WideShapes Go.ChangeAt Go.RowKit

namespace countJoins
set_option maxRecDepth 100000 in
theorem contract (H : Type) (enc : TypeId × Value → H) (W : World) (base : Nat) (args : Array Value) (ds gs : List (DataW H)) (before : List MemPlace)
    (hval : ∀ (j : Nat) t v, Tryz.f4.params[j]? = some t → args[j]? = some v → Value.okWide Tryz.prog W .any base t v)
    (hW : DataW.Whole enc Tryz.prog Tryz.f4.params.toList YthpfcfacofakoaaGreat.Rows.countJoinsSpec.vars false W args.toList ds gs before) (hk : YthpfcfacofakoaaGreat.Rows.uptoSmall H (ds ++ gs) = true) :
    Calls Tryz.prog 4 args W fun e W' => ∃ v, e = .returned v ∧ YthpfcfacofakoaaGreat.Rows.countJoinsSpec.post enc Tryz.prog Tryz.f4 false true false false W args v W' := by
  have hW' := hW
  obtain ⟨p, q, hA0, hV, rfl, hfz, hnd⟩ := hW
  have hA : DataW.TrodAll enc Tryz.prog W 0 (fun _ => true) true Tryz.f4.params.toList args.toList ds p := hA0
  rw [Tryz.params4] at hA hval
  obtain ⟨v0, vs0, d0, ds0, p0, q0, hargs, rfl, rfl, h0, r0⟩ := trodAll_cons hA
  obtain ⟨v1, vs1, d1, ds1, p1, q1, rfl, rfl, rfl, h1, r1⟩ := trodAll_cons r0
  obtain ⟨v2, vs2, d2, ds2, p2, q2, rfl, rfl, rfl, h2, r2⟩ := trodAll_cons r1
  obtain ⟨rfl, rfl, rfl⟩ := trodAll_nil r2
  obtain ⟨rfl, rfl⟩ := trodVars_none hV
  obtain rfl : args = #[v0, v1, v2] := by cases args; simp_all
  have hb : YthpfcfacofakoaaGreat.Rows.uptoBulkAll ([d0, d1, d2] ++ []) ≤ 1048576 := of_decide_eq_true hk
  obtain ⟨b0, hb⟩ := small_cons hb
  obtain ⟨b1, hb⟩ := small_cons hb
  obtain ⟨b2, hb⟩ := small_cons hb
  obtain ⟨k, hk, rep0⟩ := arg_i64 (hval 0 3 v0 rfl rfl) h0 b0
  obtain ⟨n0, n1, n2, hn, rep1⟩ := arg_three (hval 1 24 v1 rfl rfl) h1 b1
  obtain ⟨l0, l1, l2, hl, rep2⟩ := arg_deed3 (hval 2 54 v2 rfl rfl) h2 b2
  refine ((law_CountJoins k n0 n1 n2 l0 l1 l2 hk.1 hk.2 hn.1 hn.2.1 hn.2.2 hl.1.1 hl.1.2 hl.2.1.1 hl.2.1.2 hl.2.2.1 hl.2.2.2) (allD W) W #[v0, v1, v2] (rel_all W) ⟨rfl, fun i hi => ?_⟩).mono ?_
  · match i, hi with
    | 0, _ => exact rep0
    | 1, _ => exact rep1
    | 2, _ => exact rep2
  · rintro e W' ⟨v, rfl, x, S', D', rfl, _, hrep, hE⟩
    cases hrep with
    | p hrep =>
    cases hrep
    exact ⟨_, rfl, bridge kids full hW' rfl (by rw [Tryz.params4]; decide) rfl Tryz.underlying4 rfl rfl rfl hE.still⟩

set_option maxRecDepth 100000 in
theorem lifted (os : Os) (started : os.Started) (H : Type) (enc : TypeId × Value → H) (F : Stop.Interp) :
    ReturnsInHanded {} Tryz.checked os 4 .any ((YthpfcfacofakoaaGreat.Rows.OpenSpec.upto YthpfcfacofakoaaGreat.Rows.countJoinsSpec).pre6 enc Tryz.prog Tryz.f4 YthpfcfacofakoaaGreat.Rows.countJoinsUptoRow.domain false) (((YthpfcfacofakoaaGreat.Rows.OpenSpec.upto YthpfcfacofakoaaGreat.Rows.countJoinsSpec).at F).post enc Tryz.prog Tryz.f4 false true false false) := by
  refine returnsInHanded_of_cond (C := Tryz.checked) (s := YthpfcfacofakoaaGreat.Rows.OpenSpec.upto YthpfcfacofakoaaGreat.Rows.countJoinsSpec) (k := YthpfcfacofakoaaGreat.Rows.uptoSmall) rfl own started (by kernel_rfl) Tryz.func4
    (OpenSpec.witness (enc := enc) (C := Tryz.checked) (s := YthpfcfacofakoaaGreat.Rows.OpenSpec.upto YthpfcfacofakoaaGreat.Rows.countJoinsSpec) (k := YthpfcfacofakoaaGreat.Rows.uptoSmall) rfl false ⟨#[], #[.int .i64 0, .agg #[.int .u64 0, .int .u64 0, .int .u64 0], .agg #[.slice none 0 0, .slice none 0 0, .slice none 0 0]], []⟩ 12 (by kernel_rfl) (by kernel_rfl) (by kernel_rfl)
      (x := ([.lit (.int .i64 0), .agg [.lit (.int .u64 0), .lit (.int .u64 0), .lit (.int .u64 0)], .agg [.nil, .nil, .nil]], [], [])) (by kernel_rfl) rfl (by kernel_rfl)) ?_
  intro W base args ds gs before hval hW _ hk _
  exact contract H enc W base args ds gs before hval hW hk

theorem j1 : (YthpfcfacofakoaaGreat.Rows.countJoinsUptoRow.inPlace == Tryz.prog.inPlace 4) = true := by kernel_rfl
theorem j2 : (YthpfcfacofakoaaGreat.Rows.countJoinsUptoRow.unfollowed == Tryz.prog.unfollowed 4) = true := by kernel_rfl
theorem j3 : (YthpfcfacofakoaaGreat.Rows.countJoinsUptoRow.recurses == Tryz.prog.recurses 4) = true := by kernel_rfl
theorem j4 : (YthpfcfacofakoaaGreat.Rows.countJoinsUptoRow.named == Tryz.prog.varsNamed 4) = true := by kernel_rfl
theorem j5 : (YthpfcfacofakoaaGreat.Rows.countJoinsUptoRow.plainKeys == Tryz.prog.plainKeys) = true := by kernel_rfl
theorem j6 : (YthpfcfacofakoaaGreat.Rows.countJoinsUptoRow.lifted == Tryz.prog.liftsFinal) = true := by kernel_rfl
theorem j7 : (Tryz.prog.make == some YthpfcfacofakoaaGreat.Rows.countJoinsUptoRow.make) = true := by kernel_rfl
set_option maxRecDepth 100000 in
theorem jf : joinedFacts Tryz.prog 4 Tryz.f4 (YthpfcfacofakoaaGreat.Rows.OpenSpec.upto YthpfcfacofakoaaGreat.Rows.countJoinsSpec).bare YthpfcfacofakoaaGreat.Rows.countJoinsUptoRow = true := by
  unfold joinedFacts
  exact and_ok (and_ok (and_ok (and_ok (and_ok (and_ok (and_ok (and_ok (and_ok (and_ok (and_ok (and_ok (and_ok (and_ok (and_ok (and_ok (and_ok (and_ok (and_ok (and_ok (and_ok (and_ok (and_ok (and_ok (and_ok (and_ok (and_ok (and_ok (and_ok (and_ok (and_ok (by kernel_rfl) j_laid) j_maps) (by kernel_rfl)) (by kernel_rfl)) (by kernel_rfl)) (by kernel_rfl)) (by kernel_rfl)) (by kernel_rfl)) j1) j2) j3) j4) (by kernel_rfl)) (by kernel_rfl)) (by kernel_rfl)) (by kernel_rfl)) (by kernel_rfl)) (by kernel_rfl)) (by kernel_rfl)) (by kernel_rfl)) (by kernel_rfl)) j5) (by kernel_rfl)) j_heard) j_enter) j6) j7) (by kernel_rfl)) (by kernel_rfl)) (by kernel_rfl)) (by kernel_rfl)
end countJoins
theorem _root_.Go.Proofs.YthpfcfacofakoaaGreat.countJoins_proved : YthpfcfacofakoaaGreat.Rows.CountJoinsUptoSaid :=
  OpenClaim.holds_of_cond 4 Tryz.f4 rfl rfl rfl rfl rfl rfl rfl ⟨rfl, rfl, rfl, rfl, rfl⟩ rfl rfl rfl rfl rfl (by kernel_rfl) Tryz.func4 countJoins.jf
    (of_decide_eq_true (by kernel_rfl)) (by unfold Func.isWrapper; first | (rw [if_pos (by decide +kernel)]; kernel_rfl) | (rw [if_neg (by decide +kernel)]; exact ⟨rfl, rfl⟩))
    (fun os started H enc _ F => countJoins.lifted os started H enc F)
#print axioms Go.Proofs.YthpfcfacofakoaaGreat.countJoins_proved
end Go.Sk
end
