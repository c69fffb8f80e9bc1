/- Texts WSb WSc WSd WSe WSf W14k W14l, joined. -/
import Derived.Test.YthpfcfacofakoaaGreatRJE
import Derived.Test.YthpfcfacofakoaaGreatRJD
import Derived.Test.YthpfcfacofakoaaGreatSkSq
import Derived.Test.YthpfcfacofakoaaGreatRJC
import Derived.Test.YthpfcfacofakoaaGreatSkZ
import Derived.Test.YthpfcfacofakoaaGreatSkY
set_option linter.unusedSimpArgs false
set_option linter.unusedVariables false
set_option linter.unusedSectionVars false
-- WSb
section
namespace Go.Sk
open Go Go.Proofs

set_option maxHeartbeats 1000000 in
theorem rotate_ev (P U V Q : List Event) (t : List AV) (b N c : Nat) (hU : U ≠ []) (hV : V ≠ []) (hN : (P ++ U ++ V ++ Q).length = N) (hc : N < 1073741824) {S : Store} (a0 m0 b0 : Nat) (ha0 : a0 = P.length) (hm0 : m0 = P.length + U.length) (hb0 : b0 = P.length + U.length + V.length) :
    S (.r b) = some (evB (P ++ U ++ V ++ Q) t) → CallR Tryz.prog 220 [.ms b 3 0 N c, i64 a0, i64 m0, i64 b0, .fn (.func 82) [] []] S (fun r S' => r = .tuple [] ∧ S' = S.set (.r b) (evB (P ++ V ++ U ++ Q) t)) := fun hb => by
  have hN' : N = P.length + U.length + V.length + Q.length := by rw [← hN]; simp only [List.length_append]
  have hUp : 0 < U.length := List.length_pos_iff.2 hU
  have hVp : 0 < V.length := List.length_pos_iff.2 hV
  refine callR_of Tryz.func220 rfl rfl (xc_ok (bitB 9440287) _ _ _ ?_)
  have w1 : wi ((m0 : Int) - (a0 : Int)) = ((U.length : Nat) : Int) := by rw [wi_id (by omega) (by omega)]; omega
  have w2 : wi ((b0 : Int) - (m0 : Int)) = ((V.length : Nat) : Int) := by rw [wi_id (by omega) (by omega)]; omega
  simp only [go_sem, w1, w2]
  refine AWP.roam (ι := List Event × List Event × List Event × List Event) (fun x => 0 < x.2.1.length ∧ 0 < x.2.2.1.length ∧ x.1.length + x.2.1.length = m0 ∧ (x.1 ++ x.2.1 ++ x.2.2.1 ++ x.2.2.2).length = N ∧ x.1 ++ x.2.2.1 ++ x.2.1 ++ x.2.2.2 = P ++ V ++ U ++ Q)
    (fun x => ⟨Env.get [(0, .ms b 3 0 N c), (1, i64 a0), (2, i64 m0), (3, i64 b0), (4, .fn (.func 82) [] []), (10, i64 x.2.1.length), (11, i64 x.2.2.1.length)], S.set (.r b) (evB (x.1 ++ x.2.1 ++ x.2.2.1 ++ x.2.2.2) t), 58, []⟩) (fun x => x.2.1.length + x.2.2.1.length) (P, U, V, Q) ⟨hUp, hVp, hm0.symm, hN, rfl⟩ ?_ ?_
  · refine le_of (by simp only [go_sem] <;> rfl) ?_ rfl rfl (by simp)
    exact sub_set (Sub.refl _) hb
  rintro ⟨A, X, Y, B⟩ ⟨hx, hy, hm, hl, ht⟩ ih
  dsimp only at hx hy hm hl ht ih ⊢
  have hl' : N = A.length + X.length + Y.length + B.length := by rw [← hl]; simp only [List.length_append]
  have w3 : wi ((m0 : Int) - (X.length : Int)) = ((A.length : Nat) : Int) := by rw [wi_id (by omega) (by omega)]; omega
  refine AWPH.step (xc_ok (bitB 9440287) _ _ _ ?_)
  by_cases c1 : X.length = Y.length
  · have q1 : ((X.length : Int) != (Y.length : Int)) = false := by rw [c1]; exact bne_self_eq_false _
    have hs := swap_range A X [] Y B t b X.length N c (.fn (.func 82) [] []) rfl c1.symm (by rw [← hl]; simp) hc (S := S.set (.r b) (evB (A ++ X ++ Y ++ B) t)) A.length m0 rfl (by simp; omega) (by rw [Store.set_same]; simp)
    simp only [go_sem, q1, w3]
    refine hs.useA ?_
    rintro _ _ ⟨rfl, rfl⟩
    simp only [go_sem]
    exact ⟨_, Sub.refl _, Or.inl (by rw [← ht])⟩
  have q1 : ((X.length : Int) != (Y.length : Int)) = true := by simp; omega
  by_cases c2 : X.length > Y.length
  · have q2 : (X.length : Int) > (Y.length : Int) := by omega
    have eX : X.take Y.length ++ X.drop Y.length = X := List.take_append_drop _ _
    have hX1 : (X.take Y.length).length = Y.length := by rw [List.length_take]; omega
    have hX2 : (X.drop Y.length).length = X.length - Y.length := List.length_drop ..
    have w4 : wi ((X.length : Int) - (Y.length : Int)) = (((X.drop Y.length).length : Nat) : Int) := by rw [wi_id (by omega) (by omega)]; omega
    have e1 : A ++ X.take Y.length ++ X.drop Y.length ++ Y ++ B = A ++ X ++ Y ++ B := by rw [List.append_assoc A, eX]
    have hs := swap_range A (X.take Y.length) (X.drop Y.length) Y B t b Y.length N c (.fn (.func 82) [] []) hX1 rfl (by rw [e1]; exact hl) hc (S := S.set (.r b) (evB (A ++ X ++ Y ++ B) t)) A.length m0 rfl (by omega) (by rw [Store.set_same, e1])
    simp only [go_sem, q1, q2, w3]
    refine hs.useA ?_
    rintro _ _ ⟨rfl, rfl⟩
    simp only [go_sem, w4]
    refine (ih (A ++ Y, X.drop Y.length, X.take Y.length, B) ⟨by dsimp only; omega, by dsimp only; omega, by dsimp only; rw [List.length_append]; omega, by dsimp only; rw [hl']; simp only [List.length_append]; omega, ?_⟩ (by dsimp only; omega)).back (Sub.refl _) (by simp) ?_
    · dsimp only; rw [← ht, List.append_assoc (A ++ Y), eX]
    · simp only [go_sem, hX1]
  · have q2 : ¬ (X.length : Int) > (Y.length : Int) := by omega
    have eY : Y.take (Y.length - X.length) ++ Y.drop (Y.length - X.length) = Y := List.take_append_drop _ _
    have hY1 : (Y.take (Y.length - X.length)).length = Y.length - X.length := by rw [List.length_take]; omega
    have hY2 : (Y.drop (Y.length - X.length)).length = X.length := by rw [List.length_drop]; omega
    have w4 : wi ((Y.length : Int) - (X.length : Int)) = (((Y.take (Y.length - X.length)).length : Nat) : Int) := by rw [wi_id (by omega) (by omega)]; omega
    have w5 : wi (wi ((m0 : Int) + (Y.length : Int)) - (X.length : Int)) = ((m0 + Y.length - X.length : Nat) : Int) := by rw [wi_id (x := (m0 : Int) + (Y.length : Int)) (by omega) (by omega), wi_id (by omega) (by omega)]; omega
    have e1 : A ++ X ++ Y.take (Y.length - X.length) ++ Y.drop (Y.length - X.length) ++ B = A ++ X ++ Y ++ B := by rw [List.append_assoc (A ++ X), eY]
    have hs := swap_range A X (Y.take (Y.length - X.length)) (Y.drop (Y.length - X.length)) B t b X.length N c (.fn (.func 82) [] []) rfl hY2 (by rw [e1]; exact hl) hc (S := S.set (.r b) (evB (A ++ X ++ Y ++ B) t)) A.length (m0 + Y.length - X.length) rfl (by omega) (by rw [Store.set_same, e1])
    simp only [go_sem, q1, q2, w3, w5]
    refine hs.useA ?_
    rintro _ _ ⟨rfl, rfl⟩
    simp only [go_sem, w4]
    refine (ih (A, Y.drop (Y.length - X.length), Y.take (Y.length - X.length), X ++ B) ⟨by dsimp only; omega, by dsimp only; omega, by dsimp only; omega, by dsimp only; rw [hl']; simp only [List.length_append]; omega, ?_⟩ (by dsimp only; omega)).back ?_ (by simp) ?_
    · dsimp only; rw [← ht, ← List.append_assoc _ X B, List.append_assoc A, eY]
    · dsimp only
      rw [show A ++ Y.drop (Y.length - X.length) ++ Y.take (Y.length - X.length) ++ (X ++ B) = A ++ Y.drop (Y.length - X.length) ++ Y.take (Y.length - X.length) ++ X ++ B by simp]
      exact Sub.refl _
    · simp only [go_sem, hY2]
theorem half_eq (x y : Nat) (h : x + y < 2147483648) : wi ((IntKind.u64.wrap (wi ((x : Int) + (y : Int)))).fdiv (2 ^ 1)) = (((x + y) / 2 : Nat) : Int) := by
  rw [wi_id (x := (x : Int) + (y : Int)) (by omega) (by omega)]
  have e1 : IntKind.u64.wrap ((x : Int) + (y : Int)) = (x : Int) + (y : Int) := by
    rw [wrapU]; omega
  rw [e1, Int.fdiv_eq_ediv_of_nonneg _ (by decide)]
  rw [wi_id (by omega) (by omega)]
  omega
theorem le_take {V : List Event} (h : Srt V) {q : Nat} (hq : q < V.length) : ∀ x ∈ V.take (q + 1), x.t ≤ (V[q]).t := fun x hx => by
  have := take_le h hx (by simpa using hq)
  simpa using this
theorem wsub_mid (mid m0 h : Nat) (h1 : h < mid) (h2 : mid + m0 < 2147483648) : wi (((mid + m0 - 1 : Nat) : Int) - (h : Int)) = ((m0 + (mid - 1 - h) : Nat) : Int) := by
  rw [wi_id (by omega) (by omega)]; omega
set_option maxHeartbeats 4000000 in
set_option maxRecDepth 4000 in
theorem sym_merge : ∀ (z : Nat) (P U V Q : List Event) (t : List AV) (b N c : Nat), U.length + V.length = z → U ≠ [] → V ≠ [] → Srt U → Srt V → (P ++ U ++ V ++ Q).length = N → N < 1073741824 → ∀ {S : Store} (a0 m0 b0 : Nat), a0 = P.length → m0 = P.length + U.length → b0 = P.length + U.length + V.length →
    S (.r b) = some (evB (P ++ U ++ V ++ Q) t) → CallR Tryz.prog 191 [.ms b 3 0 N c, i64 a0, i64 m0, i64 b0, .fn (.func 82) [] []] S (fun r S' => r = .tuple [] ∧ ∃ W, Srt W ∧ Feq (U ++ V) W ∧ S' = S.set (.r b) (evB (P ++ W ++ Q) t)) := by
  intro z
  induction z using Nat.strongRecOn with
  | _ z IH =>
  intro P U V Q t b N c hz hU hV sU sV hN hc S a0 m0 b0 ha0 hm0 hb0 hb
  have hN' : N = P.length + U.length + V.length + Q.length := by rw [← hN]; simp only [List.length_append]
  have hUp : 0 < U.length := List.length_pos_iff.2 hU
  have hVp : 0 < V.length := List.length_pos_iff.2 hV
  have w1 : wi ((m0 : Int) - (a0 : Int)) = ((U.length : Nat) : Int) := by rw [wi_id (by omega) (by omega)]; omega
  have w2 : wi ((b0 : Int) - (m0 : Int)) = ((V.length : Nat) : Int) := by rw [wi_id (by omega) (by omega)]; omega
  refine callR_of Tryz.func191 rfl rfl (xc_ok (bitB 13164839976634628298295110780136696778032692856359452003713154079) _ _ _ ?_)
  by_cases u1 : U.length = 1
  · have q1 : ((U.length : Int) == 1) = true := by rw [u1]; rfl
    obtain ⟨u, rfl⟩ : ∃ u, U = [u] := List.length_eq_one_iff.1 u1
    clear hU hUp sU
    simp only [List.length_cons, List.length_nil, Nat.zero_add] at hm0 hb0 hN' w1 q1
    simp only [go_sem, w1, q1]
    refine AWP.roam (ι := Nat × Nat) (fun x => x.1 ≤ x.2 ∧ x.2 ≤ V.length ∧ (∀ y ∈ V.take x.1, y.t < u.t) ∧ ∀ y ∈ V.drop x.2, u.t ≤ y.t)
      (fun x => ⟨Env.get [(0, .ms b 3 0 N c), (1, i64 a0), (2, i64 m0), (3, i64 b0), (4, .fn (.func 82) [] []), (10, i64 (m0 + x.1 : Nat)), (11, i64 (m0 + x.2 : Nat))], S.set (.r b) (evB (P ++ [u] ++ V ++ Q) t), 220, []⟩) (fun x => x.2 - x.1) (0, V.length) ⟨Nat.zero_le _, Nat.le_refl _, fun y hy => by simp at hy, fun y hy => by rw [List.drop_length] at hy; simp at hy⟩ ?_ ?_
    · have e0 : b0 = m0 + V.length := by omega
      refine le_of (by simp only [go_sem, e0, Nat.add_zero] <;> rfl) (sub_set (Sub.refl _) hb) rfl rfl (by simp)
    rintro ⟨p, q⟩ ⟨h1, h2, h3, h4⟩ ih
    dsimp only at h1 h2 h3 h4 ih ⊢
    refine AWPH.step (xc_ok (bitB 13164839976634628298295110780136696778032692856359452003713154079) _ _ _ ?_)
    by_cases cpq : p < q
    · have f0 : ((m0 + p : Nat) : Int) < ((m0 + q : Nat) : Int) := by omega
      have hh := half_eq (m0 + p) (m0 + q) (by omega)
      obtain ⟨h, hh0⟩ : ∃ h, (p + q) / 2 = h := ⟨_, rfl⟩
      have hh1 : (m0 + p + (m0 + q)) / 2 = m0 + h := by omega
      rw [hh1] at hh
      have hhV : h < V.length := by omega
      have a1 : m0 + h < (P ++ [u] ++ V ++ Q).length := by rw [hN]; omega
      have a2 : a0 < (P ++ [u] ++ V ++ Q).length := by rw [hN]; omega
      have f1 := evc_fit _ t _ a1
      have f2 := evc_fit _ t _ a2
      have d1 := evc_drop' _ t _ a1
      have d2 := evc_drop' _ t _ a2
      rw [get4 P [u] V Q h (m0 + h) (by simp; omega) hhV a1] at d1
      rw [get4a P [u] V Q 0 a0 (by omega) (by simp) a2] at d2
      have n1 : m0 + h < N := by omega
      have n2 : a0 < N := by omega
      simp only [go_sem, f0, hh]
      refine AWP.draw2 (bitB 13164839976634628298295110780136696778032692856359452003713154079) mixed (by kernel_rfl) (fun j => i64 (cmpN' (V[h]).t u.t)) ?_
      simp only [go_sem, n1, n2, ltN' n1, ltN' n2, Nat.zero_add, d1, d2, f1, f2, List.getElem_cons_zero]
      refine ⟨(join_cmp V[h] u).draw, ?_⟩
      by_cases c2 : (V[h]).t < u.t
      · have q3 : cmpN' (V[h]).t u.t < 0 := (cmpN'_neg _ _).2 c2
        simp only [go_sem, q3]
        refine (ih (h + 1, q) ⟨by dsimp only; omega, h2, fun y hy => Nat.lt_of_le_of_lt (le_take sV hhV y hy) c2, h4⟩ (by dsimp only; omega)).back (Sub.refl _) (by simp) ?_
        have w3 : wi (((m0 + h : Nat) : Int) + 1) = ((m0 + (h + 1) : Nat) : Int) := by rw [wi_id (by omega) (by omega)]; omega
        simp only [go_sem, w3]
      · have q3 : ¬ cmpN' (V[h]).t u.t < 0 := fun hq => c2 ((cmpN'_neg _ _).1 hq)
        simp only [go_sem, q3]
        refine (ih (p, h) ⟨by dsimp only; omega, by dsimp only; omega, h3, fun y hy => by have := drop_ge sV (k := h) hy hhV; omega⟩ (by dsimp only; omega)).back (Sub.refl _) (by simp) ?_
        simp only [go_sem]
    obtain rfl : p = q := by omega
    have f0 : ¬ ((m0 + p : Nat) : Int) < ((m0 + p : Nat) : Int) := by omega
    simp only [go_sem, f0]
    have e0 : P ++ [u] ++ V ++ Q = inE P V u Q 0 := by rw [inE_zero]; simp
    rw [e0]
    have w4 : wi (((m0 + p : Nat) : Int) - 1) = ((a0 + p : Nat) : Int) := by rw [wi_id (by omega) (by omega)]; omega
    refine AWP.iter (fun k => ⟨Env.get [(0, .ms b 3 0 N c), (1, i64 a0), (2, i64 m0), (3, i64 b0), (4, .fn (.func 82) [] []), (10, i64 (m0 + p : Nat)), (13, i64 (a0 + k : Nat))], S.set (.r b) (evB (inE P V u Q k) t), 220, []⟩) p ?_ ?_ ?_
    · exact le_of (by simp only [go_sem, Nat.add_zero] <;> rfl) (Sub.refl _) rfl rfl (by simp)
    · intro k hk ih2
      refine AWPH.step (xc_ok (bitB 13164839976634628298295110780136696778032692856359452003713154079) _ _ _ ?_)
      have hkV : k < V.length := by omega
      obtain ⟨g1, g2, g3⟩ := inE_right P V u Q k (a0 + k) hkV (by omega)
      have hl := inE_len P V u Q k (by omega)
      have a1 : a0 + k < (inE P V u Q k).length := by omega
      have a2 : a0 + k + 1 < (inE P V u Q k).length := by omega
      have f1 := evc_fit _ t _ a1
      have f2 := evc_fit _ t _ a2
      have d1 := evc_drop' _ t _ a1
      have d2 := evc_drop' _ t _ a2
      rw [g1 a1] at d1
      rw [g2 a2] at d2
      have p1 := evc_put' (inE P V u Q k) t V[k] (a0 + k) a1
      have p2 := evc_put' ((inE P V u Q k).set (a0 + k) V[k]) t u (a0 + k + 1) (by rw [List.length_set]; exact a2)
      rw [g3] at p2
      have f3 := evc_fit ((inE P V u Q k).set (a0 + k) V[k]) t (a0 + k + 1) (by rw [List.length_set]; exact a2)
      have n1 : a0 + k < N := by omega
      have n2 : a0 + k + 1 < N := by omega
      have f5 : ((a0 + k : Nat) : Int) < ((a0 + p : Nat) : Int) := by omega
      have w5 : wi (((a0 + k : Nat) : Int) + 1) = ((a0 + k + 1 : Nat) : Int) := by rw [wi_id (by omega) (by omega)]; omega
      simp only [go_sem, w4, f5]
      refine AWP.draw2 (bitB 13164839976634628298295110780136696778032692856359452003713154079) mixed (by kernel_rfl) (fun j => i64 0) ?_
      simp only [go_sem, w5, n1, n2, ltN' n1, ltN' n2, Nat.zero_add, d1, d2, p1, p2, f1, f2, f3]
      refine ih2.back (Sub.refl _) (by simp) ?_
      simp only [go_sem, w5, Nat.add_assoc]
    · refine AWPH.step (xc_ok (bitB 13164839976634628298295110780136696778032692856359452003713154079) _ _ _ ?_)
      have f5 : ¬ ((a0 + p : Nat) : Int) < ((a0 + p : Nat) : Int) := by omega
      simp only [go_sem, w4, f5]
      obtain ⟨i1, i2⟩ := ins_left (u := u) sV p h2 h3 h4
      exact ⟨_, Sub.refl _, Or.inl ⟨_, i1, i2, by unfold inE; rfl⟩⟩
  have q1 : ((U.length : Int) == 1) = false := by rw [beq_eq_false_iff_ne]; omega
  by_cases v1 : V.length = 1
  · have q2 : ((V.length : Int) == 1) = true := by rw [v1]; rfl
    obtain ⟨v, rfl⟩ : ∃ v, V = [v] := List.length_eq_one_iff.1 v1
    clear hV hVp sV
    simp only [List.length_cons, List.length_nil, Nat.zero_add] at hb0 hN' w2 q2
    simp only [go_sem, w1, w2, q1, q2]
    refine AWP.roam (ι := Nat × Nat) (fun x => x.1 ≤ x.2 ∧ x.2 ≤ U.length ∧ (∀ y ∈ U.take x.1, y.t ≤ v.t) ∧ ∀ y ∈ U.drop x.2, v.t < y.t)
      (fun x => ⟨Env.get [(0, .ms b 3 0 N c), (1, i64 a0), (2, i64 m0), (3, i64 b0), (4, .fn (.func 82) [] []), (14, i64 (a0 + x.1 : Nat)), (15, i64 (a0 + x.2 : Nat))], S.set (.r b) (evB (P ++ U ++ [v] ++ Q) t), 220, []⟩) (fun x => x.2 - x.1) (0, U.length) ⟨Nat.zero_le _, Nat.le_refl _, fun y hy => by simp at hy, fun y hy => by rw [List.drop_length] at hy; simp at hy⟩ ?_ ?_
    · have e0 : m0 = a0 + U.length := by omega
      refine le_of (by simp only [go_sem, e0, Nat.add_zero] <;> rfl) (sub_set (Sub.refl _) hb) rfl rfl (by simp)
    rintro ⟨p, q⟩ ⟨h1, h2, h3, h4⟩ ih
    dsimp only at h1 h2 h3 h4 ih ⊢
    refine AWPH.step (xc_ok (bitB 13164839976634628298295110780136696778032692856359452003713154079) _ _ _ ?_)
    by_cases cpq : p < q
    · have f0 : ((a0 + p : Nat) : Int) < ((a0 + q : Nat) : Int) := by omega
      have hh := half_eq (a0 + p) (a0 + q) (by omega)
      obtain ⟨h, hh0⟩ : ∃ h, (p + q) / 2 = h := ⟨_, rfl⟩
      have hh1 : (a0 + p + (a0 + q)) / 2 = a0 + h := by omega
      rw [hh1] at hh
      have hhU : h < U.length := by omega
      have a1 : m0 < (P ++ U ++ [v] ++ Q).length := by rw [hN]; omega
      have a2 : a0 + h < (P ++ U ++ [v] ++ Q).length := by rw [hN]; omega
      have f1 := evc_fit _ t _ a1
      have f2 := evc_fit _ t _ a2
      have d1 := evc_drop' _ t _ a1
      have d2 := evc_drop' _ t _ a2
      rw [get4 P U [v] Q 0 m0 (by omega) (by simp) a1] at d1
      rw [get4a P U [v] Q h (a0 + h) (by omega) hhU a2] at d2
      have n1 : m0 < N := by omega
      have n2 : a0 + h < N := by omega
      simp only [go_sem, f0, hh]
      refine AWP.draw2 (bitB 13164839976634628298295110780136696778032692856359452003713154079) mixed (by kernel_rfl) (fun j => i64 (cmpN' v.t (U[h]).t)) ?_
      simp only [go_sem, n1, n2, ltN' n1, ltN' n2, Nat.zero_add, d1, d2, f1, f2, List.getElem_cons_zero]
      refine ⟨(join_cmp v U[h]).draw, ?_⟩
      by_cases c2 : v.t < (U[h]).t
      · have q3 : cmpN' v.t (U[h]).t < 0 := (cmpN'_neg _ _).2 c2
        simp only [go_sem, q3]
        refine (ih (p, h) ⟨by dsimp only; omega, by dsimp only; omega, h3, fun y hy => by have := drop_ge sU (k := h) hy hhU; omega⟩ (by dsimp only; omega)).back (Sub.refl _) (by simp) ?_
        simp only [go_sem]
      · have q3 : ¬ cmpN' v.t (U[h]).t < 0 := fun hq => c2 ((cmpN'_neg _ _).1 hq)
        simp only [go_sem, q3]
        refine (ih (h + 1, q) ⟨by dsimp only; omega, h2, fun y hy => by have := le_take sU hhU y hy; omega, h4⟩ (by dsimp only; omega)).back (Sub.refl _) (by simp) ?_
        have w3 : wi (((a0 + h : Nat) : Int) + 1) = ((a0 + (h + 1) : Nat) : Int) := by rw [wi_id (by omega) (by omega)]; omega
        simp only [go_sem, w3]
    obtain rfl : p = q := by omega
    have f0 : ¬ ((a0 + p : Nat) : Int) < ((a0 + p : Nat) : Int) := by omega
    simp only [go_sem, f0]
    have e0 : P ++ U ++ [v] ++ Q = inE P U v Q U.length := by rw [inE_all P U v Q _ rfl]; simp
    rw [e0]
    refine AWP.roam (ι := Nat) (fun k => p ≤ k ∧ k ≤ U.length) (fun k => ⟨Env.get [(0, .ms b 3 0 N c), (1, i64 a0), (2, i64 m0), (3, i64 b0), (4, .fn (.func 82) [] []), (14, i64 (a0 + p : Nat)), (17, i64 (a0 + k : Nat))], S.set (.r b) (evB (inE P U v Q k) t), 220, []⟩) (fun k => k) U.length ⟨h2, Nat.le_refl _⟩ ?_ ?_
    · have e0 : m0 = a0 + U.length := by omega
      exact le_of (by simp only [go_sem, e0] <;> rfl) (Sub.refl _) rfl rfl (by simp)
    rintro k ⟨hk1, hk2⟩ ih2
    refine AWPH.step (xc_ok (bitB 13164839976634628298295110780136696778032692856359452003713154079) _ _ _ ?_)
    by_cases ck : p < k
    · obtain ⟨k, rfl⟩ : ∃ m, k = m + 1 := ⟨k - 1, by omega⟩
      have hkU : k < U.length := by omega
      obtain ⟨g1, g2, g3⟩ := inE_left P U v Q k (a0 + k) hkU (by omega)
      have hl := inE_len P U v Q (k + 1) (by omega)
      have a1 : a0 + k + 1 < (inE P U v Q (k + 1)).length := by omega
      have a2 : a0 + k < (inE P U v Q (k + 1)).length := by omega
      have f1 := evc_fit _ t _ a1
      have f2 := evc_fit _ t _ a2
      have d1 := evc_drop' _ t _ a1
      have d2 := evc_drop' _ t _ a2
      rw [g1 a1] at d1
      rw [g2 a2] at d2
      have p1 := evc_put' (inE P U v Q (k + 1)) t U[k] (a0 + k + 1) a1
      have p2 := evc_put' ((inE P U v Q (k + 1)).set (a0 + k + 1) U[k]) t v (a0 + k) (by rw [List.length_set]; exact a2)
      rw [g3] at p2
      have f3 := evc_fit ((inE P U v Q (k + 1)).set (a0 + k + 1) U[k]) t (a0 + k) (by rw [List.length_set]; exact a2)
      have n1 : a0 + k + 1 < N := by omega
      have n2 : a0 + k < N := by omega
      have e1 : a0 + (k + 1) = a0 + k + 1 := by omega
      have f5 : ((a0 + k + 1 : Nat) : Int) > ((a0 + p : Nat) : Int) := by omega
      have w5 : wi (((a0 + k + 1 : Nat) : Int) - 1) = ((a0 + k : Nat) : Int) := by rw [wi_id (by omega) (by omega)]; omega
      simp only [go_sem, e1, f5]
      refine AWP.draw2 (bitB 13164839976634628298295110780136696778032692856359452003713154079) mixed (by kernel_rfl) (fun j => i64 0) ?_
      simp only [go_sem, w5, n1, n2, ltN' n1, ltN' n2, Nat.zero_add, d1, d2, p1, p2, f1, f2, f3]
      refine (ih2 k ⟨by omega, by omega⟩ (by omega)).back (Sub.refl _) (by simp) ?_
      simp only [go_sem, w5]
    · obtain rfl : p = k := by omega
      have f5 : ¬ ((a0 + p : Nat) : Int) > ((a0 + p : Nat) : Int) := by omega
      simp only [go_sem, f5]
      obtain ⟨i1, i2⟩ := ins_right (v := v) sU p h2 h3 h4
      exact ⟨_, Sub.refl _, Or.inl ⟨_, i1, i2, by unfold inE; rfl⟩⟩
  have q2 : ((V.length : Int) == 1) = false := by rw [beq_eq_false_iff_ne]; omega
  have hmid := half_eq a0 b0 (by omega)
  obtain ⟨mid, hmid0⟩ : ∃ mid, (a0 + b0) / 2 = mid := ⟨_, rfl⟩
  rw [hmid0] at hmid
  have wn : wi ((mid : Int) + (m0 : Int)) = ((mid + m0 : Nat) : Int) := by rw [wi_id (by omega) (by omega)]; omega
  obtain ⟨lo, hlo⟩ : ∃ lo, lo = if m0 > mid then mid + m0 - b0 else a0 := ⟨_, rfl⟩
  obtain ⟨hi, hhi⟩ : ∃ hi, hi = if m0 > mid then mid else m0 := ⟨_, rfl⟩
  have F1 : a0 ≤ lo ∧ mid + m0 ≤ lo + b0 ∧ hi ≤ mid ∧ hi ≤ m0 ∧ lo ≤ hi := by rw [hlo, hhi]; split <;> omega
  have F2 : lo = a0 ∨ mid + m0 = lo + b0 := by rw [hlo]; split <;> omega
  have F3 : hi = mid ∨ hi = m0 := by rw [hhi]; split <;> omega
  obtain ⟨F1, F4, F5, F6, F7⟩ := F1
  have hmid1 : a0 < mid ∧ mid < b0 ∧ 2 * mid ≤ a0 + b0 ∧ a0 + b0 ≤ 2 * mid + 1 := by omega
  obtain ⟨hmid1, hmid2, hmid3, hmid4⟩ := hmid1
  clear hmid0
  have wp : wi (((mid + m0 : Nat) : Int) - 1) = ((mid + m0 - 1 : Nat) : Int) := by rw [wi_id (by omega) (by omega)]; omega
  by_cases cm : m0 > mid
  case' pos =>
    rw [if_pos cm] at hlo hhi
    have cm' : (m0 : Int) > (mid : Int) := by omega
    have ws : wi (((mid + m0 : Nat) : Int) - (b0 : Int)) = (lo : Int) := by rw [wi_id (by omega) (by omega)]; omega
    simp only [go_sem, w1, w2, q1, q2, hmid, wn, cm', ws, wp]
  case' neg =>
    rw [if_neg cm] at hlo hhi
    have cm' : ¬ (m0 : Int) > (mid : Int) := by omega
    simp only [go_sem, w1, w2, q1, q2, hmid, wn, cm', wp]
  all_goals
    refine AWP.roam (ι := Nat × Nat) (fun x => lo ≤ x.1 ∧ x.1 ≤ x.2 ∧ x.2 ≤ hi ∧ (x.1 = lo ∨ ∃ (h1 : x.1 - 1 - a0 < U.length) (h2 : mid - x.1 < V.length), (U[x.1 - 1 - a0]).t ≤ (V[mid - x.1]).t) ∧ (x.2 = hi ∨ ∃ (h1 : mid - 1 - x.2 < V.length) (h2 : x.2 - a0 < U.length), (V[mid - 1 - x.2]).t < (U[x.2 - a0]).t))
      (fun x => ⟨Env.get [(0, .ms b 3 0 N c), (1, i64 a0), (2, i64 m0), (3, i64 b0), (4, .fn (.func 82) [] []), (18, i64 mid), (19, i64 (mid + m0 : Nat)), (20, i64 x.1), (21, i64 x.2), (22, i64 (mid + m0 - 1 : Nat))], S.set (.r b) (evB (P ++ U ++ V ++ Q) t), 220, []⟩) (fun x => x.2 - x.1) (lo, hi) ⟨Nat.le_refl _, F7, Nat.le_refl _, Or.inl rfl, Or.inl rfl⟩ ?_ ?_
    · refine le_of (by simp only [go_sem, hlo, hhi] <;> rfl) (sub_set (Sub.refl _) hb) rfl rfl (by simp)
    rintro ⟨s, r⟩ ⟨h1, h2, h3, h4, h5⟩ ih
    dsimp only at h1 h2 h3 h4 h5 ih ⊢
    refine AWPH.step (xc_ok (bitB 13164839976634628298295110780136696778032692856359452003713154079) _ _ _ ?_)
    by_cases csr : s < r
    · have f0 : (s : Int) < (r : Int) := by omega
      have hh := half_eq s r (by omega)
      obtain ⟨h, hh0⟩ : ∃ h, (s + r) / 2 = h := ⟨_, rfl⟩
      rw [hh0] at hh
      have b1 : s ≤ h ∧ h < r := by omega
      clear hh0
      have hhU : h - a0 < U.length := by omega
      have hhV : mid - 1 - h < V.length := by omega
      have w3 := wsub_mid mid m0 h (by omega) (by omega)
      have a1 : m0 + (mid - 1 - h) < (P ++ U ++ V ++ Q).length := by rw [hN]; omega
      have a2 : h < (P ++ U ++ V ++ Q).length := by rw [hN]; omega
      have f1 := evc_fit _ t _ a1
      have f2 := evc_fit _ t _ a2
      have d1 := evc_drop' _ t _ a1
      have d2 := evc_drop' _ t _ a2
      rw [get4 P U V Q (mid - 1 - h) _ (by omega) hhV a1] at d1
      rw [get4a P U V Q (h - a0) h (by omega) hhU a2] at d2
      have n1 : m0 + (mid - 1 - h) < N := by omega
      have n2 : h < N := by omega
      simp only [go_sem, f0, hh]
      refine AWP.draw2 (bitB 13164839976634628298295110780136696778032692856359452003713154079) mixed (by kernel_rfl) (fun j => i64 (cmpN' (V[mid - 1 - h]).t (U[h - a0]).t)) ?_
      simp only [go_sem, w3, n1, n2, ltN' n1, ltN' n2, Nat.zero_add, d1, d2, f1, f2]
      refine ⟨(join_cmp V[mid - 1 - h] U[h - a0]).draw, ?_⟩
      by_cases c2 : (V[mid - 1 - h]).t < (U[h - a0]).t
      · have q3 : cmpN' (V[mid - 1 - h]).t (U[h - a0]).t < 0 := (cmpN'_neg _ _).2 c2
        simp only [go_sem, q3]
        refine (ih (s, h) ⟨h1, b1.1, by dsimp only; omega, h4, Or.inr ⟨hhV, hhU, c2⟩⟩ (by dsimp only; omega)).back (Sub.refl _) (by simp) ?_
        simp only [go_sem]
      · have q3 : ¬ cmpN' (V[mid - 1 - h]).t (U[h - a0]).t < 0 := fun hq => c2 ((cmpN'_neg _ _).1 hq)
        have w4 : wi ((h : Int) + 1) = ((h + 1 : Nat) : Int) := wi_succ (by omega)
        have e1 : mid - (h + 1) = mid - 1 - h := by omega
        have e2 : h + 1 - 1 - a0 = h - a0 := by omega
        simp only [go_sem, q3]
        refine (ih (h + 1, r) ⟨by dsimp only; omega, by dsimp only; omega, h3, Or.inr ⟨by simpa only [e2] using hhU, by simpa only [e1] using hhV, by simp only [e1, e2]; omega⟩, h5⟩ (by dsimp only; omega)).back (Sub.refl _) (by simp) ?_
        simp only [go_sem, w4]
    obtain rfl : s = r := by omega
    have f0 : ¬ (s : Int) < (s : Int) := by omega
    obtain ⟨i, hi'⟩ : ∃ i, s = a0 + i := ⟨s - a0, by omega⟩
    obtain ⟨j, hj'⟩ : ∃ j, mid = s + j := ⟨mid - s, by omega⟩
    have hiU : i ≤ U.length := by omega
    have hjV : j ≤ V.length := by omega
    have we : wi (((mid + m0 : Nat) : Int) - (s : Int)) = ((m0 + j : Nat) : Int) := by rw [wi_id (by omega) (by omega)]; omega
    have hb1 : i = 0 ∨ j = V.length ∨ ∃ (h1 : i - 1 < U.length) (h2 : j < V.length), (U[i - 1]).t ≤ (V[j]).t := by
      rcases h4 with h4 | ⟨x1, x2, h4⟩
      · rcases F2 with F2 | F2
        · left; omega
        · right; left; omega
      · right; right
        have y1 : s - 1 - a0 = i - 1 := by omega
        have y2 : mid - s = j := by omega
        simp only [y1, y2] at h4 x1 x2
        exact ⟨x1, x2, h4⟩
    have hb2 : j = 0 ∨ i = U.length ∨ ∃ (h1 : j - 1 < V.length) (h2 : i < U.length), (V[j - 1]).t < (U[i]).t := by
      rcases h5 with h5 | ⟨x1, x2, h5⟩
      · rcases F3 with F3 | F3
        · left; omega
        · right; left; omega
      · right; right
        have y1 : s - a0 = i := by omega
        have y2 : mid - 1 - s = j - 1 := by omega
        simp only [y1, y2] at h5 x1 x2
        exact ⟨x1, x2, h5⟩
    have hcut := fun W1 W2 => merge_cut (W1 := W1) (W2 := W2) sU sV i j hiU hjV hb1 hb2
    have eU : U.take i ++ U.drop i = U := List.take_append_drop _ _
    have eV : V.take j ++ V.drop j = V := List.take_append_drop _ _
    have lU1 : (U.take i).length = i := by rw [List.length_take]; omega
    have lU2 : (U.drop i).length = U.length - i := List.length_drop ..
    have lV1 : (V.take j).length = j := by rw [List.length_take]; omega
    have lV2 : (V.drop j).length = V.length - j := List.length_drop ..
    have sU1 := srt_take sU i
    have sU2 := srt_drop sU i
    have sV1 := srt_take sV j
    have sV2 := srt_drop sV j
    have hrow : P ++ U ++ V ++ Q = (P ++ U.take i) ++ U.drop i ++ V.take j ++ (V.drop j ++ Q) := by
      symm
      rw [List.append_assoc P (U.take i) (U.drop i), eU, ← List.append_assoc _ (V.drop j) Q, List.append_assoc (P ++ U) (V.take j), eV]
    rw [hrow] at hN ⊢
    clear hrow hb
    clear hmid ih h4 h5 hb1 hb2 eU eV
    generalize List.take i U = U1 at *
    generalize List.drop i U = U2 at *
    generalize List.take j V = V1 at *
    generalize List.drop j V = V2 at *
    subst hi'
    have hN1 : (P ++ U1 ++ V1 ++ U2 ++ (V2 ++ Q)).length = N := by rw [← hN]; simp only [List.length_append]; omega
    have ho : i + j + a0 = mid := by omega
    by_cases cA : i < U.length
    · by_cases cD : j < V.length
      · skip
        by_cases cC : 0 < i
        · by_cases cB : 0 < j
          · have gA : ((a0 + i : Nat) : Int) < (m0 : Int) := by omega
            have gB : ((m0 : Nat) : Int) < ((m0 + j : Nat) : Int) := by omega
            have gC : ((a0 : Nat) : Int) < ((a0 + i : Nat) : Int) := by omega
            have gB2 : ((a0 + i : Nat) : Int) < ((mid : Nat) : Int) := by omega
            have gA2 : ((mid : Nat) : Int) < ((m0 + j : Nat) : Int) := by omega
            have gD : ((m0 + j : Nat) : Int) < (b0 : Int) := by omega
            have zU1 : U1 ≠ [] := by rintro rfl; simp only [List.length_nil] at lU1; omega
            have zU2 : U2 ≠ [] := by rintro rfl; simp only [List.length_nil] at lU2; omega
            have zV1 : V1 ≠ [] := by rintro rfl; simp only [List.length_nil] at lV1; omega
            have zV2 : V2 ≠ [] := by rintro rfl; simp only [List.length_nil] at lV2; omega
            simp only [go_sem, f0, we, gA, gB, gC, gB2, gA2, gD]
            refine (rotate_ev (P ++ U1) U2 V1 (V2 ++ Q) t b N c zU2 zV1 hN hc (S := S.set (.r b) (evB ((P ++ U1) ++ U2 ++ V1 ++ (V2 ++ Q)) t)) (a0 + i) m0 (m0 + j) (by simp only [List.length_append]; omega) (by simp only [List.length_append]; omega) (by simp only [List.length_append]; omega) (Store.set_same _ _ _)).useA ?_
            rintro _ _ ⟨rfl, rfl⟩
            simp only [go_sem, f0, we, gA, gB, gC, gB2, gA2, gD]
            have er : P ++ U1 ++ V1 ++ U2 ++ (V2 ++ Q) = P ++ U1 ++ V1 ++ (U2 ++ V2 ++ Q) := by simp
            rw [er]
            have hN2 : (P ++ U1 ++ V1 ++ (U2 ++ V2 ++ Q)).length = N := by rw [← hN1]; simp only [List.length_append]; omega
            refine (IH (U1.length + V1.length) (by omega) P U1 V1 (U2 ++ V2 ++ Q) t b N c rfl zU1 zV1 sU1 sV1 hN2 hc (S := S.set (.r b) (evB (P ++ U1 ++ V1 ++ (U2 ++ V2 ++ Q)) t)) a0 (a0 + i) mid ha0 (by omega) (by omega) (Store.set_same _ _ _)).useA ?_
            rintro _ _ ⟨rfl, W1, sW1, kW1, rfl⟩
            simp only [go_sem, f0, we, gA, gB, gC, gB2, gA2, gD]
            have lW1 := kW1.len
            rw [List.length_append] at lW1
            have er2 : P ++ W1 ++ (U2 ++ V2 ++ Q) = (P ++ W1) ++ U2 ++ V2 ++ Q := by simp
            rw [er2]
            have hN3 : ((P ++ W1) ++ U2 ++ V2 ++ Q).length = N := by rw [← hN1]; simp only [List.length_append]; omega
            refine (IH (U2.length + V2.length) (by omega) (P ++ W1) U2 V2 Q t b N c rfl zU2 zV2 sU2 sV2 hN3 hc (S := S.set (.r b) (evB ((P ++ W1) ++ U2 ++ V2 ++ Q) t)) mid (m0 + j) b0 (by rw [List.length_append]; omega) (by rw [List.length_append]; omega) (by rw [List.length_append]; omega) (Store.set_same _ _ _)).useA ?_
            rintro _ _ ⟨rfl, W2, sW2, kW2, rfl⟩
            simp only [go_sem]
            obtain ⟨o1, o2⟩ := hcut W1 W2 sW1 kW1 sW2 kW2
            exact ⟨_, Sub.refl _, Or.inl ⟨W1 ++ W2, o1, o2, by rw [List.append_assoc P]⟩⟩
          · have gA : ((a0 + i : Nat) : Int) < (m0 : Int) := by omega
            have gB : ¬ ((m0 : Nat) : Int) < ((m0 + j : Nat) : Int) := by omega
            have gC : ((a0 : Nat) : Int) < ((a0 + i : Nat) : Int) := by omega
            have gB2 : ¬ ((a0 + i : Nat) : Int) < ((mid : Nat) : Int) := by omega
            have gA2 : ((mid : Nat) : Int) < ((m0 + j : Nat) : Int) := by omega
            have gD : ((m0 + j : Nat) : Int) < (b0 : Int) := by omega
            have zU1 : U1 ≠ [] := by rintro rfl; simp only [List.length_nil] at lU1; omega
            have zU2 : U2 ≠ [] := by rintro rfl; simp only [List.length_nil] at lU2; omega
            have eV1 : V1 = [] := List.eq_nil_of_length_eq_zero (by omega)
            have zV2 : V2 ≠ [] := by rintro rfl; simp only [List.length_nil] at lV2; omega
            simp only [go_sem, f0, we, gA, gB, gC, gB2, gA2, gD]
            have er : P ++ U1 ++ U2 ++ V1 ++ (V2 ++ Q) = P ++ U1 ++ V1 ++ (U2 ++ V2 ++ Q) := by simp [eV1]
            rw [er]
            obtain ⟨W1, hW1⟩ : ∃ W1, W1 = U1 ++ V1 := ⟨_, rfl⟩
            have sW1 : Srt W1 := by rw [hW1, eV1]; rw [List.append_nil]; exact sU1
            have kW1 : Feq (U1 ++ V1) W1 := by rw [hW1]; exact Feq.refl _
            rw [List.append_assoc P, ← hW1]
            have lW1 := kW1.len
            rw [List.length_append] at lW1
            have er2 : P ++ W1 ++ (U2 ++ V2 ++ Q) = (P ++ W1) ++ U2 ++ V2 ++ Q := by simp
            rw [er2]
            have hN3 : ((P ++ W1) ++ U2 ++ V2 ++ Q).length = N := by rw [← hN1]; simp only [List.length_append]; omega
            refine (IH (U2.length + V2.length) (by omega) (P ++ W1) U2 V2 Q t b N c rfl zU2 zV2 sU2 sV2 hN3 hc (S := S.set (.r b) (evB ((P ++ W1) ++ U2 ++ V2 ++ Q) t)) mid (m0 + j) b0 (by rw [List.length_append]; omega) (by rw [List.length_append]; omega) (by rw [List.length_append]; omega) (Store.set_same _ _ _)).useA ?_
            rintro _ _ ⟨rfl, W2, sW2, kW2, rfl⟩
            simp only [go_sem]
            obtain ⟨o1, o2⟩ := hcut W1 W2 sW1 kW1 sW2 kW2
            exact ⟨_, Sub.refl _, Or.inl ⟨W1 ++ W2, o1, o2, by rw [List.append_assoc P]⟩⟩
        · have gA : ((a0 + i : Nat) : Int) < (m0 : Int) := by omega
          have gB : ((m0 : Nat) : Int) < ((m0 + j : Nat) : Int) := by omega
          have gC : ¬ ((a0 : Nat) : Int) < ((a0 + i : Nat) : Int) := by omega
          have gB2 : ((a0 + i : Nat) : Int) < ((mid : Nat) : Int) := by omega
          have gA2 : ((mid : Nat) : Int) < ((m0 + j : Nat) : Int) := by omega
          have gD : ((m0 + j : Nat) : Int) < (b0 : Int) := by omega
          have eU1 : U1 = [] := List.eq_nil_of_length_eq_zero (by omega)
          have zU2 : U2 ≠ [] := by rintro rfl; simp only [List.length_nil] at lU2; omega
          have zV1 : V1 ≠ [] := by rintro rfl; simp only [List.length_nil] at lV1; omega
          have zV2 : V2 ≠ [] := by rintro rfl; simp only [List.length_nil] at lV2; omega
          simp only [go_sem, f0, we, gA, gB, gC, gB2, gA2, gD]
          refine (rotate_ev (P ++ U1) U2 V1 (V2 ++ Q) t b N c zU2 zV1 hN hc (S := S.set (.r b) (evB ((P ++ U1) ++ U2 ++ V1 ++ (V2 ++ Q)) t)) (a0 + i) m0 (m0 + j) (by simp only [List.length_append]; omega) (by simp only [List.length_append]; omega) (by simp only [List.length_append]; omega) (Store.set_same _ _ _)).useA ?_
          rintro _ _ ⟨rfl, rfl⟩
          simp only [go_sem, f0, we, gA, gB, gC, gB2, gA2, gD]
          have er : P ++ U1 ++ V1 ++ U2 ++ (V2 ++ Q) = P ++ U1 ++ V1 ++ (U2 ++ V2 ++ Q) := by simp
          rw [er]
          obtain ⟨W1, hW1⟩ : ∃ W1, W1 = U1 ++ V1 := ⟨_, rfl⟩
          have sW1 : Srt W1 := by rw [hW1, eU1]; exact sV1
          have kW1 : Feq (U1 ++ V1) W1 := by rw [hW1]; exact Feq.refl _
          rw [List.append_assoc P, ← hW1]
          have lW1 := kW1.len
          rw [List.length_append] at lW1
          have er2 : P ++ W1 ++ (U2 ++ V2 ++ Q) = (P ++ W1) ++ U2 ++ V2 ++ Q := by simp
          rw [er2]
          have hN3 : ((P ++ W1) ++ U2 ++ V2 ++ Q).length = N := by rw [← hN1]; simp only [List.length_append]; omega
          refine (IH (U2.length + V2.length) (by omega) (P ++ W1) U2 V2 Q t b N c rfl zU2 zV2 sU2 sV2 hN3 hc (S := S.set (.r b) (evB ((P ++ W1) ++ U2 ++ V2 ++ Q) t)) mid (m0 + j) b0 (by rw [List.length_append]; omega) (by rw [List.length_append]; omega) (by rw [List.length_append]; omega) (Store.set_same _ _ _)).useA ?_
          rintro _ _ ⟨rfl, W2, sW2, kW2, rfl⟩
          simp only [go_sem]
          obtain ⟨o1, o2⟩ := hcut W1 W2 sW1 kW1 sW2 kW2
          exact ⟨_, Sub.refl _, Or.inl ⟨W1 ++ W2, o1, o2, by rw [List.append_assoc P]⟩⟩
      · skip
        by_cases cC : 0 < i
        · by_cases cB : 0 < j
          · have gA : ((a0 + i : Nat) : Int) < (m0 : Int) := by omega
            have gB : ((m0 : Nat) : Int) < ((m0 + j : Nat) : Int) := by omega
            have gC : ((a0 : Nat) : Int) < ((a0 + i : Nat) : Int) := by omega
            have gB2 : ((a0 + i : Nat) : Int) < ((mid : Nat) : Int) := by omega
            have gA2 : ((mid : Nat) : Int) < ((m0 + j : Nat) : Int) := by omega
            have gD : ¬ ((m0 + j : Nat) : Int) < (b0 : Int) := by omega
            have zU1 : U1 ≠ [] := by rintro rfl; simp only [List.length_nil] at lU1; omega
            have zU2 : U2 ≠ [] := by rintro rfl; simp only [List.length_nil] at lU2; omega
            have zV1 : V1 ≠ [] := by rintro rfl; simp only [List.length_nil] at lV1; omega
            have eV2 : V2 = [] := List.eq_nil_of_length_eq_zero (by omega)
            simp only [go_sem, f0, we, gA, gB, gC, gB2, gA2, gD]
            refine (rotate_ev (P ++ U1) U2 V1 (V2 ++ Q) t b N c zU2 zV1 hN hc (S := S.set (.r b) (evB ((P ++ U1) ++ U2 ++ V1 ++ (V2 ++ Q)) t)) (a0 + i) m0 (m0 + j) (by simp only [List.length_append]; omega) (by simp only [List.length_append]; omega) (by simp only [List.length_append]; omega) (Store.set_same _ _ _)).useA ?_
            rintro _ _ ⟨rfl, rfl⟩
            simp only [go_sem, f0, we, gA, gB, gC, gB2, gA2, gD]
            have er : P ++ U1 ++ V1 ++ U2 ++ (V2 ++ Q) = P ++ U1 ++ V1 ++ (U2 ++ V2 ++ Q) := by simp
            rw [er]
            have hN2 : (P ++ U1 ++ V1 ++ (U2 ++ V2 ++ Q)).length = N := by rw [← hN1]; simp only [List.length_append]; omega
            refine (IH (U1.length + V1.length) (by omega) P U1 V1 (U2 ++ V2 ++ Q) t b N c rfl zU1 zV1 sU1 sV1 hN2 hc (S := S.set (.r b) (evB (P ++ U1 ++ V1 ++ (U2 ++ V2 ++ Q)) t)) a0 (a0 + i) mid ha0 (by omega) (by omega) (Store.set_same _ _ _)).useA ?_
            rintro _ _ ⟨rfl, W1, sW1, kW1, rfl⟩
            simp only [go_sem, f0, we, gA, gB, gC, gB2, gA2, gD]
            have lW1 := kW1.len
            rw [List.length_append] at lW1
            have er2 : P ++ W1 ++ (U2 ++ V2 ++ Q) = (P ++ W1) ++ U2 ++ V2 ++ Q := by simp
            rw [er2]
            obtain ⟨W2, hW2⟩ : ∃ W2, W2 = U2 ++ V2 := ⟨_, rfl⟩
            have sW2 : Srt W2 := by rw [hW2, eV2]; rw [List.append_nil]; exact sU2
            have kW2 : Feq (U2 ++ V2) W2 := by rw [hW2]; exact Feq.refl _
            rw [List.append_assoc (P ++ W1), ← hW2]
            obtain ⟨o1, o2⟩ := hcut W1 W2 sW1 kW1 sW2 kW2
            exact ⟨_, Sub.refl _, Or.inl ⟨W1 ++ W2, o1, o2, by rw [List.append_assoc P]⟩⟩
          · have gA : ((a0 + i : Nat) : Int) < (m0 : Int) := by omega
            have gB : ¬ ((m0 : Nat) : Int) < ((m0 + j : Nat) : Int) := by omega
            have gC : ((a0 : Nat) : Int) < ((a0 + i : Nat) : Int) := by omega
            have gB2 : ¬ ((a0 + i : Nat) : Int) < ((mid : Nat) : Int) := by omega
            have gA2 : ((mid : Nat) : Int) < ((m0 + j : Nat) : Int) := by omega
            have gD : ¬ ((m0 + j : Nat) : Int) < (b0 : Int) := by omega
            have zU1 : U1 ≠ [] := by rintro rfl; simp only [List.length_nil] at lU1; omega
            have zU2 : U2 ≠ [] := by rintro rfl; simp only [List.length_nil] at lU2; omega
            have eV1 : V1 = [] := List.eq_nil_of_length_eq_zero (by omega)
            have eV2 : V2 = [] := List.eq_nil_of_length_eq_zero (by omega)
            simp only [go_sem, f0, we, gA, gB, gC, gB2, gA2, gD]
            have er : P ++ U1 ++ U2 ++ V1 ++ (V2 ++ Q) = P ++ U1 ++ V1 ++ (U2 ++ V2 ++ Q) := by simp [eV1, eV2]
            rw [er]
            obtain ⟨W1, hW1⟩ : ∃ W1, W1 = U1 ++ V1 := ⟨_, rfl⟩
            have sW1 : Srt W1 := by rw [hW1, eV1]; rw [List.append_nil]; exact sU1
            have kW1 : Feq (U1 ++ V1) W1 := by rw [hW1]; exact Feq.refl _
            rw [List.append_assoc P, ← hW1]
            have lW1 := kW1.len
            rw [List.length_append] at lW1
            have er2 : P ++ W1 ++ (U2 ++ V2 ++ Q) = (P ++ W1) ++ U2 ++ V2 ++ Q := by simp
            rw [er2]
            obtain ⟨W2, hW2⟩ : ∃ W2, W2 = U2 ++ V2 := ⟨_, rfl⟩
            have sW2 : Srt W2 := by rw [hW2, eV2]; rw [List.append_nil]; exact sU2
            have kW2 : Feq (U2 ++ V2) W2 := by rw [hW2]; exact Feq.refl _
            rw [List.append_assoc (P ++ W1), ← hW2]
            obtain ⟨o1, o2⟩ := hcut W1 W2 sW1 kW1 sW2 kW2
            exact ⟨_, Sub.refl _, Or.inl ⟨W1 ++ W2, o1, o2, by rw [List.append_assoc P]⟩⟩
        · have gA : ((a0 + i : Nat) : Int) < (m0 : Int) := by omega
          have gB : ((m0 : Nat) : Int) < ((m0 + j : Nat) : Int) := by omega
          have gC : ¬ ((a0 : Nat) : Int) < ((a0 + i : Nat) : Int) := by omega
          have gB2 : ((a0 + i : Nat) : Int) < ((mid : Nat) : Int) := by omega
          have gA2 : ((mid : Nat) : Int) < ((m0 + j : Nat) : Int) := by omega
          have gD : ¬ ((m0 + j : Nat) : Int) < (b0 : Int) := by omega
          have eU1 : U1 = [] := List.eq_nil_of_length_eq_zero (by omega)
          have zU2 : U2 ≠ [] := by rintro rfl; simp only [List.length_nil] at lU2; omega
          have zV1 : V1 ≠ [] := by rintro rfl; simp only [List.length_nil] at lV1; omega
          have eV2 : V2 = [] := List.eq_nil_of_length_eq_zero (by omega)
          simp only [go_sem, f0, we, gA, gB, gC, gB2, gA2, gD]
          refine (rotate_ev (P ++ U1) U2 V1 (V2 ++ Q) t b N c zU2 zV1 hN hc (S := S.set (.r b) (evB ((P ++ U1) ++ U2 ++ V1 ++ (V2 ++ Q)) t)) (a0 + i) m0 (m0 + j) (by simp only [List.length_append]; omega) (by simp only [List.length_append]; omega) (by simp only [List.length_append]; omega) (Store.set_same _ _ _)).useA ?_
          rintro _ _ ⟨rfl, rfl⟩
          simp only [go_sem, f0, we, gA, gB, gC, gB2, gA2, gD]
          have er : P ++ U1 ++ V1 ++ U2 ++ (V2 ++ Q) = P ++ U1 ++ V1 ++ (U2 ++ V2 ++ Q) := by simp
          rw [er]
          obtain ⟨W1, hW1⟩ : ∃ W1, W1 = U1 ++ V1 := ⟨_, rfl⟩
          have sW1 : Srt W1 := by rw [hW1, eU1]; exact sV1
          have kW1 : Feq (U1 ++ V1) W1 := by rw [hW1]; exact Feq.refl _
          rw [List.append_assoc P, ← hW1]
          have lW1 := kW1.len
          rw [List.length_append] at lW1
          have er2 : P ++ W1 ++ (U2 ++ V2 ++ Q) = (P ++ W1) ++ U2 ++ V2 ++ Q := by simp
          rw [er2]
          obtain ⟨W2, hW2⟩ : ∃ W2, W2 = U2 ++ V2 := ⟨_, rfl⟩
          have sW2 : Srt W2 := by rw [hW2, eV2]; rw [List.append_nil]; exact sU2
          have kW2 : Feq (U2 ++ V2) W2 := by rw [hW2]; exact Feq.refl _
          rw [List.append_assoc (P ++ W1), ← hW2]
          obtain ⟨o1, o2⟩ := hcut W1 W2 sW1 kW1 sW2 kW2
          exact ⟨_, Sub.refl _, Or.inl ⟨W1 ++ W2, o1, o2, by rw [List.append_assoc P]⟩⟩
    · skip
      by_cases cC : 0 < i
      · by_cases cB : 0 < j
        · have gA : ¬ ((a0 + i : Nat) : Int) < (m0 : Int) := by omega
          have gB : ((m0 : Nat) : Int) < ((m0 + j : Nat) : Int) := by omega
          have gC : ((a0 : Nat) : Int) < ((a0 + i : Nat) : Int) := by omega
          have gB2 : ((a0 + i : Nat) : Int) < ((mid : Nat) : Int) := by omega
          have gA2 : ¬ ((mid : Nat) : Int) < ((m0 + j : Nat) : Int) := by omega
          have gD : ((m0 + j : Nat) : Int) < (b0 : Int) := by omega
          have zU1 : U1 ≠ [] := by rintro rfl; simp only [List.length_nil] at lU1; omega
          have eU2 : U2 = [] := List.eq_nil_of_length_eq_zero (by omega)
          have zV1 : V1 ≠ [] := by rintro rfl; simp only [List.length_nil] at lV1; omega
          have zV2 : V2 ≠ [] := by rintro rfl; simp only [List.length_nil] at lV2; omega
          simp only [go_sem, f0, we, gA, gB, gC, gB2, gA2, gD]
          have er : P ++ U1 ++ U2 ++ V1 ++ (V2 ++ Q) = P ++ U1 ++ V1 ++ (U2 ++ V2 ++ Q) := by simp [eU2]
          rw [er]
          have hN2 : (P ++ U1 ++ V1 ++ (U2 ++ V2 ++ Q)).length = N := by rw [← hN1]; simp only [List.length_append]; omega
          refine (IH (U1.length + V1.length) (by omega) P U1 V1 (U2 ++ V2 ++ Q) t b N c rfl zU1 zV1 sU1 sV1 hN2 hc (S := S.set (.r b) (evB (P ++ U1 ++ V1 ++ (U2 ++ V2 ++ Q)) t)) a0 (a0 + i) mid ha0 (by omega) (by omega) (Store.set_same _ _ _)).useA ?_
          rintro _ _ ⟨rfl, W1, sW1, kW1, rfl⟩
          simp only [go_sem, f0, we, gA, gB, gC, gB2, gA2, gD]
          have lW1 := kW1.len
          rw [List.length_append] at lW1
          have er2 : P ++ W1 ++ (U2 ++ V2 ++ Q) = (P ++ W1) ++ U2 ++ V2 ++ Q := by simp
          rw [er2]
          obtain ⟨W2, hW2⟩ : ∃ W2, W2 = U2 ++ V2 := ⟨_, rfl⟩
          have sW2 : Srt W2 := by rw [hW2, eU2]; exact sV2
          have kW2 : Feq (U2 ++ V2) W2 := by rw [hW2]; exact Feq.refl _
          rw [List.append_assoc (P ++ W1), ← hW2]
          obtain ⟨o1, o2⟩ := hcut W1 W2 sW1 kW1 sW2 kW2
          exact ⟨_, Sub.refl _, Or.inl ⟨W1 ++ W2, o1, o2, by rw [List.append_assoc P]⟩⟩
        · have gA : ¬ ((a0 + i : Nat) : Int) < (m0 : Int) := by omega
          have gB : ¬ ((m0 : Nat) : Int) < ((m0 + j : Nat) : Int) := by omega
          have gC : ((a0 : Nat) : Int) < ((a0 + i : Nat) : Int) := by omega
          have gB2 : ¬ ((a0 + i : Nat) : Int) < ((mid : Nat) : Int) := by omega
          have gA2 : ¬ ((mid : Nat) : Int) < ((m0 + j : Nat) : Int) := by omega
          have gD : ((m0 + j : Nat) : Int) < (b0 : Int) := by omega
          have zU1 : U1 ≠ [] := by rintro rfl; simp only [List.length_nil] at lU1; omega
          have eU2 : U2 = [] := List.eq_nil_of_length_eq_zero (by omega)
          have eV1 : V1 = [] := List.eq_nil_of_length_eq_zero (by omega)
          have zV2 : V2 ≠ [] := by rintro rfl; simp only [List.length_nil] at lV2; omega
          simp only [go_sem, f0, we, gA, gB, gC, gB2, gA2, gD]
          have er : P ++ U1 ++ U2 ++ V1 ++ (V2 ++ Q) = P ++ U1 ++ V1 ++ (U2 ++ V2 ++ Q) := by simp [eU2, eV1]
          rw [er]
          obtain ⟨W1, hW1⟩ : ∃ W1, W1 = U1 ++ V1 := ⟨_, rfl⟩
          have sW1 : Srt W1 := by rw [hW1, eV1]; rw [List.append_nil]; exact sU1
          have kW1 : Feq (U1 ++ V1) W1 := by rw [hW1]; exact Feq.refl _
          rw [List.append_assoc P, ← hW1]
          have lW1 := kW1.len
          rw [List.length_append] at lW1
          have er2 : P ++ W1 ++ (U2 ++ V2 ++ Q) = (P ++ W1) ++ U2 ++ V2 ++ Q := by simp
          rw [er2]
          obtain ⟨W2, hW2⟩ : ∃ W2, W2 = U2 ++ V2 := ⟨_, rfl⟩
          have sW2 : Srt W2 := by rw [hW2, eU2]; exact sV2
          have kW2 : Feq (U2 ++ V2) W2 := by rw [hW2]; exact Feq.refl _
          rw [List.append_assoc (P ++ W1), ← hW2]
          obtain ⟨o1, o2⟩ := hcut W1 W2 sW1 kW1 sW2 kW2
          exact ⟨_, Sub.refl _, Or.inl ⟨W1 ++ W2, o1, o2, by rw [List.append_assoc P]⟩⟩
      · have gA : ¬ ((a0 + i : Nat) : Int) < (m0 : Int) := by omega
        have gB : ((m0 : Nat) : Int) < ((m0 + j : Nat) : Int) := by omega
        have gC : ¬ ((a0 : Nat) : Int) < ((a0 + i : Nat) : Int) := by omega
        have gB2 : ((a0 + i : Nat) : Int) < ((mid : Nat) : Int) := by omega
        have gA2 : ¬ ((mid : Nat) : Int) < ((m0 + j : Nat) : Int) := by omega
        have gD : ((m0 + j : Nat) : Int) < (b0 : Int) := by omega
        have eU1 : U1 = [] := List.eq_nil_of_length_eq_zero (by omega)
        have eU2 : U2 = [] := List.eq_nil_of_length_eq_zero (by omega)
        have zV1 : V1 ≠ [] := by rintro rfl; simp only [List.length_nil] at lV1; omega
        have zV2 : V2 ≠ [] := by rintro rfl; simp only [List.length_nil] at lV2; omega
        simp only [go_sem, f0, we, gA, gB, gC, gB2, gA2, gD]
        have er : P ++ U1 ++ U2 ++ V1 ++ (V2 ++ Q) = P ++ U1 ++ V1 ++ (U2 ++ V2 ++ Q) := by simp [eU1, eU2]
        rw [er]
        obtain ⟨W1, hW1⟩ : ∃ W1, W1 = U1 ++ V1 := ⟨_, rfl⟩
        have sW1 : Srt W1 := by rw [hW1, eU1]; exact sV1
        have kW1 : Feq (U1 ++ V1) W1 := by rw [hW1]; exact Feq.refl _
        rw [List.append_assoc P, ← hW1]
        have lW1 := kW1.len
        rw [List.length_append] at lW1
        have er2 : P ++ W1 ++ (U2 ++ V2 ++ Q) = (P ++ W1) ++ U2 ++ V2 ++ Q := by simp
        rw [er2]
        obtain ⟨W2, hW2⟩ : ∃ W2, W2 = U2 ++ V2 := ⟨_, rfl⟩
        have sW2 : Srt W2 := by rw [hW2, eU2]; exact sV2
        have kW2 : Feq (U2 ++ V2) W2 := by rw [hW2]; exact Feq.refl _
        rw [List.append_assoc (P ++ W1), ← hW2]
        obtain ⟨o1, o2⟩ := hcut W1 W2 sW1 kW1 sW2 kW2
        exact ⟨_, Sub.refl _, Or.inl ⟨W1 ++ W2, o1, o2, by rw [List.append_assoc P]⟩⟩
end Go.Sk
end

-- WSc
section
namespace Go.Sk
open Go Go.Proofs

set_option maxHeartbeats 2000000 in
theorem stable_ev (M : List Event) (t : List AV) (b N c : Nat) (hN : M.length = N) (hc : N < 268435456) {S : Store} :
    S (.r b) = some (evB M t) → CallR Tryz.prog 143 [.ms b 3 0 N c, i64 N, .fn (.func 82) [] []] S (fun r S' => r = .tuple [] ∧ S' = S.set (.r b) (evB (gatherE M) t)) := fun hb => by
  refine callR_of Tryz.func143 rfl rfl (xc_ok (bitB 18014433942971335) _ _ _ ?_)
  simp only [go_sem]
  refine AWP.roam (ι := List (List Event) × List Event) (fun x => (∀ d ∈ x.1, Srt d ∧ d.length = 20) ∧ Feq M (x.1.flatten ++ x.2))
    (fun x => ⟨Env.get [(0, .ms b 3 0 N c), (1, i64 N), (2, .fn (.func 82) [] []), (6, i64 20), (7, i64 x.1.flatten.length), (8, i64 (x.1.flatten.length + 20 : Nat))], S.set (.r b) (evB (x.1.flatten ++ x.2) t), 63, []⟩) (fun x => x.2.length) ([], M) ⟨fun d hd => by simp at hd, by simpa using Feq.refl M⟩ ?_ ?_
  · refine le_of (by simp only [go_sem, List.flatten_nil, List.length_nil] <;> simp) (sub_set (Sub.refl _) (by simpa using hb)) rfl rfl (by simp)
  rintro ⟨D, R⟩ ⟨hD, hf⟩ ih
  dsimp only at hD hf ih ⊢
  have hl : D.flatten.length + R.length = N := by rw [← hN, hf.len, List.length_append]
  refine AWPH.step (xc_ok (bitB 18014433942971335) _ _ _ ?_)
  by_cases c1 : 20 ≤ R.length
  · have f0 : ((D.flatten.length + 20 : Nat) : Int) ≤ (N : Int) := by omega
    have hR : R.take 20 ++ R.drop 20 = R := List.take_append_drop _ _
    have l1 : (R.take 20).length = 20 := by rw [List.length_take]; omega
    have e1 : D.flatten ++ R.take 20 ++ R.drop 20 = D.flatten ++ R := by rw [List.append_assoc, hR]
    have hs := insert_sort D.flatten (R.take 20) (R.drop 20) t b N c (by rw [e1, List.length_append]; exact hl) (by omega) (S := S.set (.r b) (evB (D.flatten ++ R) t)) D.flatten.length (D.flatten.length + 20) rfl (by rw [l1]) (by rw [Store.set_same, e1])
    simp only [go_sem, f0]
    refine hs.useA ?_
    rintro _ _ ⟨rfl, W, sW, kW, rfl⟩
    have lW : W.length = 20 := by rw [← kW.len, l1]
    have e2 : (D ++ [W]).flatten = D.flatten ++ W := by simp
    have e3 : (D ++ [W]).flatten.length = D.flatten.length + 20 := by rw [e2, List.length_append, lW]
    have w1 : wi (((D.flatten.length + 20 : Nat) : Int) + 20) = ((D.flatten.length + 20 + 20 : Nat) : Int) := by rw [wi_id (by omega) (by omega)]; omega
    simp only [go_sem, f0]
    refine (ih (D ++ [W], R.drop 20) ⟨fun d hd => ?_, ?_⟩ (by dsimp only; rw [List.length_drop]; omega)).back ?_ (by simp) ?_
    · rcases List.mem_append.1 hd with hd | hd
      · exact hD d hd
      · obtain rfl := List.mem_singleton.1 hd; exact ⟨sW, lW⟩
    · dsimp only
      rw [e2]
      refine hf.trans ?_
      rw [← e1]
      exact ((Feq.refl D.flatten).app kW).app (Feq.refl _)
    · dsimp only; rw [e2]; exact Sub.refl _
    · simp only [go_sem, e3, w1]
  have f0 : ¬ ((D.flatten.length + 20 : Nat) : Int) ≤ (N : Int) := by omega
  have hs := insert_sort D.flatten R [] t b N c (by rw [List.append_nil, List.length_append]; exact hl) (by omega) (S := S.set (.r b) (evB (D.flatten ++ R) t)) D.flatten.length N rfl (by omega) (by rw [Store.set_same, List.append_nil])
  simp only [go_sem, f0]
  refine hs.useA ?_
  rintro _ _ ⟨rfl, W, sW, kW, rfl⟩
  have h20 : ∃ R1 : List (List Event), Ck 20 R1 ∧ R1.flatten = D.flatten ++ W ++ [] := by
    by_cases w0 : W = []
    · exact ⟨D, by have := Ck.app (R := []) hD trivial (by decide); rwa [List.append_nil] at this, by rw [w0]; simp⟩
    · refine ⟨D ++ [W], Ck.app hD ⟨sW, List.length_pos_iff.2 w0, ?_⟩ (by decide), by simp⟩
      rw [← kW.len]; omega
  obtain ⟨R1, hR1, eR1⟩ := h20
  have hf1 : Feq M R1.flatten := by rw [eR1, List.append_nil]; exact hf.trans ((Feq.refl _).app kW)
  rw [← eR1]
  clear ih hs hf hl eR1 kW sW
  simp only [go_sem]
  refine AWP.roam (ι := Nat × List (List Event)) (fun x => 20 ≤ x.1 ∧ x.1 < 2 * (N + 20) ∧ Ck x.1 x.2 ∧ Feq M x.2.flatten)
    (fun x => ⟨Env.get [(0, .ms b 3 0 N c), (1, i64 N), (2, .fn (.func 82) [] []), (6, i64 x.1)], S.set (.r b) (evB x.2.flatten t), 63, []⟩) (fun x => 2 * (N + 20) - x.1) (20, R1) ⟨Nat.le_refl _, by dsimp only; omega, hR1, hf1⟩ ?_ ?_
  · exact le_of (by simp only [go_sem] <;> rfl) (Sub.refl _) rfl rfl (by simp)
  rintro ⟨s, L⟩ ⟨hs1, hs2, hck, hfe⟩ ih
  dsimp only at hs1 hs2 hck hfe ih ⊢
  have hLl : L.flatten.length = N := by rw [← hN, hfe.len]
  refine AWPH.step (xc_ok (bitB 18014433942971335) _ _ _ ?_)
  by_cases c2 : s < N
  rotate_left
  · have f1 : ¬ (s : Int) < (N : Int) := by omega
    simp only [go_sem, f1]
    have := hck.one (by omega) (by omega)
    exact ⟨_, Sub.refl _, Or.inl (by rw [gather_eq this hfe])⟩
  have f1 : (s : Int) < (N : Int) := by omega
  have w2 : wi ((2 : Int) * (s : Int)) = ((2 * s : Nat) : Int) := by rw [wi_id (by omega) (by omega)]; omega
  have w3 : wi ((s : Int) * 2) = ((2 * s : Nat) : Int) := by rw [wi_id (by omega) (by omega)]; omega
  simp only [go_sem, f1, w2]
  refine AWP.roam (ι := List (List Event) × List (List Event)) (fun x => (∀ d ∈ x.1, Srt d ∧ d.length = 2 * s) ∧ Ck s x.2 ∧ Feq M (x.1.flatten ++ x.2.flatten))
    (fun x => ⟨Env.get [(0, .ms b 3 0 N c), (1, i64 N), (2, .fn (.func 82) [] []), (6, i64 s), (7, i64 x.1.flatten.length), (8, i64 (x.1.flatten.length + 2 * s : Nat))], S.set (.r b) (evB (x.1.flatten ++ x.2.flatten) t), 63, []⟩) (fun x => x.2.flatten.length) ([], L) ⟨fun d hd => by simp at hd, hck, by simpa using hfe⟩ ?_ ?_
  · refine le_of (by simp only [go_sem, List.flatten_nil, List.length_nil, Nat.zero_add] <;> rfl) ?_ rfl rfl (by simp)
    simp only [List.flatten_nil, List.nil_append]; exact Sub.refl _
  have hfin : ∀ L' : List (List Event), Ck (2 * s) L' → Feq M L'.flatten → _ := fun L' h1 h2 => ih (2 * s, L') ⟨by dsimp only; omega, by dsimp only; omega, h1, h2⟩ (by dsimp only; omega)
  rintro ⟨D2, R⟩ ⟨hD2, hR, hf2⟩ ih2
  dsimp only at hD2 hR hf2 ih2 ⊢
  have hl2 : D2.flatten.length + R.flatten.length = N := by rw [← hN, hf2.len, List.length_append]
  refine AWPH.step (xc_ok (bitB 18014433942971335) _ _ _ ?_)
  by_cases c3 : s < R.flatten.length
  rotate_left
  · have f2 : ¬ ((D2.flatten.length + 2 * s : Nat) : Int) ≤ (N : Int) := by omega
    have w4 : wi ((D2.flatten.length : Int) + (s : Int)) = ((D2.flatten.length + s : Nat) : Int) := by rw [wi_id (by omega) (by omega)]; omega
    have f3 : ¬ ((D2.flatten.length + s : Nat) : Int) < (N : Int) := by omega
    simp only [go_sem, f2, w4, f3, w3]
    have hone := hR.one (by omega) (by omega)
    have h2 : ∃ L' : List (List Event), Ck (2 * s) L' ∧ L'.flatten = D2.flatten ++ R.flatten := by
      by_cases w0 : R.flatten = []
      · exact ⟨D2, by have := Ck.app (R := []) hD2 trivial (by omega); rwa [List.append_nil] at this, by rw [w0, List.append_nil]⟩
      · exact ⟨D2 ++ [R.flatten], Ck.app hD2 ⟨hone, List.length_pos_iff.2 w0, by omega⟩ (by omega), by simp⟩
    obtain ⟨L', hL1, hL2⟩ := h2
    refine (hfin L' hL1 (by rw [hL2]; exact hf2)).back ?_ (by simp) ?_
    · dsimp only; rw [hL2]; exact Sub.refl _
    · simp only [go_sem]
  obtain ⟨x, y, r, rfl, sx, sy, lx, ly, ly2, hr, hyf⟩ := hR.two (by omega) c3
  have hfl : (x :: y :: r).flatten = x ++ (y ++ r.flatten) := by simp
  rw [hfl] at hl2 hf2 c3 ⊢
  rw [List.length_append, List.length_append] at hl2
  have er : D2.flatten ++ (x ++ (y ++ r.flatten)) = D2.flatten ++ x ++ y ++ r.flatten := by simp
  rw [er] at hf2 ⊢
  have hx0 : x ≠ [] := by rintro rfl; simp at lx; omega
  have hy0 : y ≠ [] := by rintro rfl; simp at ly
  have w4 : wi ((D2.flatten.length : Int) + (s : Int)) = ((D2.flatten.length + s : Nat) : Int) := by rw [wi_id (by omega) (by omega)]; omega
  have hm := fun b0 (h : b0 = D2.flatten.length + x.length + y.length) => sym_merge (x.length + y.length) D2.flatten x y r.flatten t b N c rfl hx0 hy0 sx sy (by simp only [List.length_append]; omega) (by omega) (S := S.set (.r b) (evB (D2.flatten ++ x ++ y ++ r.flatten) t)) D2.flatten.length (D2.flatten.length + s) b0 rfl (by omega) h (Store.set_same _ _ _)
  by_cases c4 : 2 * s ≤ x.length + (y.length + r.flatten.length)
  · have hy2 : y.length = s := by
      by_cases q : r = []
      · subst q; simp only [List.flatten_nil, List.length_nil, Nat.add_zero] at c4; omega
      · exact hyf q
    have f2 : ((D2.flatten.length + 2 * s : Nat) : Int) ≤ (N : Int) := by omega
    simp only [go_sem, f2, w4, w2]
    refine (hm (D2.flatten.length + 2 * s) (by omega)).useA ?_
    rintro _ _ ⟨rfl, W, sW, kW, rfl⟩
    have lW : W.length = 2 * s := by rw [← kW.len, List.length_append]; omega
    have e2 : (D2 ++ [W]).flatten = D2.flatten ++ W := by simp
    have e3 : (D2 ++ [W]).flatten.length = D2.flatten.length + 2 * s := by rw [e2, List.length_append, lW]
    have w5 : wi (((D2.flatten.length + 2 * s : Nat) : Int) + ((2 * s : Nat) : Int)) = ((D2.flatten.length + 2 * s + 2 * s : Nat) : Int) := by rw [wi_id (by omega) (by omega)]; omega
    simp only [go_sem, w2, w5]
    refine (ih2 (D2 ++ [W], r) ⟨fun d hd => ?_, hr, ?_⟩ (by dsimp only; rw [hfl]; simp only [List.length_append]; omega)).back ?_ (by simp) ?_
    · rcases List.mem_append.1 hd with hd | hd
      · exact hD2 d hd
      · obtain rfl := List.mem_singleton.1 hd; exact ⟨sW, lW⟩
    · dsimp only
      rw [e2]
      refine hf2.trans ?_
      rw [List.append_assoc D2.flatten]
      exact ((Feq.refl D2.flatten).app kW).app (Feq.refl _)
    · dsimp only; rw [e2]; exact Sub.refl _
    · simp only [go_sem, e3, w5]
  · have hr0 : r = [] := by
      apply Classical.byContradiction
      intro q
      have := hyf q; omega
    subst hr0
    simp only [List.flatten_nil, List.length_nil, Nat.add_zero] at hl2 c4
    have f2 : ¬ ((D2.flatten.length + 2 * s : Nat) : Int) ≤ (N : Int) := by omega
    have f3 : ((D2.flatten.length + s : Nat) : Int) < (N : Int) := by omega
    simp only [go_sem, f2, w4, f3]
    refine (hm N (by omega)).useA ?_
    rintro _ _ ⟨rfl, W, sW, kW, rfl⟩
    simp only [go_sem, w3]
    have lW := kW.len
    rw [List.length_append] at lW
    refine (hfin (D2 ++ [W]) (Ck.app hD2 ⟨sW, by omega, by omega⟩ (by omega)) ?_).back ?_ (by simp) ?_
    · refine hf2.trans ?_
      rw [List.append_assoc D2.flatten]
      simpa using (Feq.refl D2.flatten).app kW
    · dsimp only; simp; exact Sub.refl _
    · simp only [go_sem]
end Go.Sk
end

-- WSd
section
namespace Go.Sk
open Go Go.Proofs

theorem evc_take (cs : List AV) (L : List Event) (h : cs.take (L.length * 3) = flatA (L.map Event.pv)) : cs = evc L (cs.drop (L.length * 3)) := by
  unfold evc; rw [← h, List.take_append_drop]
set_option maxHeartbeats 1000000 in
set_option maxRecDepth 4000 in
theorem concat_own0 (ls : List (List Event)) (h0 : 0 < sumL ls) (hn : sumL ls < 1073741824) (hl : ls.length < 1073741824) (S : Store) : CallR Tryz.prog 80 [.p (.sl (ls.map lstE))] S
    (fun r S' => ∃ b c cs, Fresh S b ∧ sumL ls ≤ c ∧ r = .ms b 3 0 (sumL ls) c ∧ S' = S.set (.r b) (.cells cs) ∧ cs.length = c * 3 ∧ cs.take (sumL ls * 3) = flatA (ls.flatten.map Event.pv)) := by
  refine callR_of Tryz.func80 rfl rfl (xc_ok (bitB 504373101) _ _ _ ?_)
  simp only [go_sem]
  refine AWP.iter (fun i => ⟨Env.get [(0, .p (.sl (ls.map lstE))), (3, i64 (sumL (ls.take i))), (9, .p (.sl (ls.map lstE))), (10, i64 ls.length), (11, i64 i)], S, 36, []⟩) ls.length ?_ ?_ ?_
  · exact le_of (by simp only [go_sem, List.length_map, List.take_zero] <;> simp [sumL]) (Sub.refl _) rfl rfl (by simp)
  · intro i hi ih
    have h1 := sumL_take ls i hi
    have h2 := sumL_le ls (i + 1)
    have q1 : wi ((sumL (ls.take i) : Int) + ((ls[i]).length : Int)) = ((sumL (ls.take (i + 1)) : Nat) : Int) := by rw [wi_id (by omega) (by omega)]; omega
    have q2 : decide (((sumL (ls.take (i + 1)) : Nat) : Int) < 0) = false := by simp
    refine AWPH.step (xc_ok (bitB 504373101) _ _ _ ?_)
    simp only [go_sem, hi, ltN' hi, getD_map' _ _ _ _ hi, lstE, List.length_map, q1, q2]
    refine ih.back (Sub.refl _) (by simp) ?_
    simp only [go_sem, lstE, List.length_map, wi_succ (show i < 4611686018427387904 by omega), q1]
  · refine AWPH.step (xc_ok (bitB 504373101) _ _ _ ?_)
    simp only [go_sem, List.take_length, List.length_map]
    refine (grow_ev (sumL ls) h0 hn S).useB ?_
    rintro _ _ ⟨b, c, hb, hc, rfl, rfl⟩
    simp only [go_sem, List.length_map]
    refine AWP.roam (ι := Nat × List AV) (fun x => x.1 ≤ ls.length ∧ x.2.length = c * 3 ∧ x.2.take (sumL (ls.take x.1) * 3) = flatA ((ls.take x.1).flatten.map Event.pv))
      (fun x => ⟨Env.get [(6, .ms b 3 0 (sumL (ls.take x.1)) c), (25, .p (.sl (ls.map lstE))), (26, i64 ls.length), (27, i64 x.1)], S.set (.r b) (.cells x.2), 36, []⟩) (fun x => ls.length - x.1) (0, zcs zE c) ⟨Nat.zero_le _, by rw [zcs_length]; rfl, by simp [sumL, flatA]⟩ ?_ ?_
    · exact le_of (by simp only [go_sem, List.length_map, List.take_zero] <;> simp [sumL]) (Sub.refl _) rfl rfl (by simp)
    · rintro ⟨i, cs⟩ ⟨hi, hcl, hct⟩ ih
      dsimp only at hi hcl hct ⊢
      refine AWPH.step (xc_ok (bitB 504373101) _ _ _ ?_)
      by_cases ci : i < ls.length
      · have h1 := sumL_take ls i ci
        have h2 := sumL_le ls (i + 1)
        have hfl := flat_len3 ls[i]
        have hsp := splice_pre cs (0 + sumL (ls.take i) * 3) (flatA ((ls[i]).map Event.pv)) (by omega)
        simp only [go_sem, ci, ltN' ci, getD_map' _ _ _ _ ci, lstE, List.length_map]
        refine ⟨evn_len, by omega, flat_scalar _, more_in (by omega) (by omega) ?_⟩
        simp only [go_sem, lstE]
        refine (ih (i + 1, splice cs (0 + sumL (ls.take i) * 3) (flatA ((ls[i]).map Event.pv))) ⟨ci, by dsimp only; rw [hsp.1]; exact hcl, ?_⟩ (by dsimp only; omega)).back ?_ (by simp) ?_
        · dsimp only
          rw [h1, flat_take ls i ci, List.map_append, Nat.add_mul]
          have h5 := hsp.2
          rw [hfl, Nat.zero_add, hct] at h5
          rw [Nat.zero_add, h5]; simp [flatA]
        · ((try dsimp only); (repeat refine sub_set ?_ ?_) <;> first | ((repeat (first | exact Sub.refl _ | refine Sub.setF ?_ (by first | assumption | simp only [*]) | refine Sub.setV ?_ (by first | assumption | simp only [*]))); done) | (simp only [go_sem]; done) | (simp only [go_sem]; rfl) | rfl)
          done
        · simp only [go_sem, lstE, wi_succ (show i < 4611686018427387904 by omega), h1]
          done
      · obtain rfl : i = ls.length := by omega
        rw [List.take_length] at hct
        simp only [go_sem, ci, List.length_map, List.take_length]
        exact ⟨_, Sub.refl _, Or.inl ⟨b, c, cs, hb, hc, by simp, rfl, hcl, hct⟩⟩
theorem concat_own (ls : List (List Event)) (h0 : 0 < sumL ls) (hn : sumL ls < 1073741824) (hl : ls.length < 1073741824) (S : Store) : CallR Tryz.prog 80 [.p (.sl (ls.map lstE))] S
    (fun r S' => ∃ b c t, Fresh S b ∧ r = .ms b 3 0 ls.flatten.length c ∧ S' = S.set (.r b) (evB ls.flatten t) ∧ (evc ls.flatten t).length = c * 3) := by
  refine (concat_own0 ls h0 hn hl S).mono ?_
  rintro r S' ⟨b, c, cs, hb, hc, rfl, rfl, h1, h2⟩
  rw [← sumL_flat] at h2
  have e := evc_take cs ls.flatten h2
  exact ⟨b, c, cs.drop (ls.flatten.length * 3), hb, by rw [sumL_flat], congrArg (fun z => S.set (.r b) (Blk.cells z)) e, by rw [← e]; exact h1⟩
theorem concat_nil (ls : List (List Event)) (h0 : sumL ls = 0) (hl : ls.length < 1073741824) : Pure Tryz.prog 80 [.p (.sl (ls.map lstE))] (.p (.sl [])) := fun S => by
  have hz : ∀ i (hi : i < ls.length), (ls[i]).length = 0 := fun i hi => by
    have h1 := sumL_take ls i hi
    have h2 := sumL_le ls (i + 1)
    omega
  refine callR_of Tryz.func80 rfl rfl (xc_ok (bitB 504373101) _ _ _ ?_)
  simp only [go_sem]
  refine AWP.iter (fun i => ⟨Env.get [(0, .p (.sl (ls.map lstE))), (3, i64 0), (9, .p (.sl (ls.map lstE))), (10, i64 ls.length), (11, i64 i)], S, 36, []⟩) ls.length ?_ ?_ ?_
  · exact le_of (by simp only [go_sem, List.length_map] <;> rfl) (Sub.refl _) rfl rfl (by simp)
  · intro i hi ih
    have q0 := hz i hi
    have q1 : wi ((0 : Int) + ((0 : Nat) : Int)) = 0 := wi_id (by decide) (by decide)
    have q2 : decide ((0 : Int) < 0) = false := by decide
    refine AWPH.step (xc_ok (bitB 504373101) _ _ _ ?_)
    simp only [go_sem, hi, ltN' hi, getD_map' _ _ _ _ hi, lstE, List.length_map, q0, q1, q2]
    refine ih.back (Sub.refl _) (by simp) ?_
    simp only [go_sem, lstE, List.length_map, wi_succ (show i < 4611686018427387904 by omega), q1]
  · refine AWPH.step (xc_ok (bitB 504373101) _ _ _ ?_)
    simp only [go_sem, List.length_map]
    have hg : CallR Tryz.prog 142 [.nils, i64 0] S (fun r S' => r = .nils ∧ S' = S) := by
      refine callR_of Tryz.func142 rfl rfl (xc_ok (bitB 65619) _ _ _ ?_)
      have q0 : decide ((0 : Int) < 0) = false := by decide
      have q1 : wi ((0 : Int) - wi ((0 : Int) - 0)) = 0 := by rw [wi_id (x := (0 : Int) - 0) (by decide) (by decide), wi_id (by decide) (by decide)]; decide
      simp only [go_sem, q0, q1]
      exact ⟨_, Sub.refl _, rfl⟩
    refine hg.useB ?_
    rintro _ S1 ⟨rfl, hS1⟩
    rw [hS1]
    simp only [go_sem, List.length_map]
    refine AWP.tip0 6 3 (by simp only [go_sem]) fun k hk => ?_
    simp only [go_sem]
    refine AWP.iterE (ι := Option Nat) (fun x i => ⟨Env.get [(6, .ts k 3 x []), (25, .p (.sl (ls.map lstE))), (26, i64 ls.length), (27, i64 i)], S.set (.v k) (.tip 3 0 x), 36, []⟩) ls.length none ?_ ?_ ?_
    · exact le_of (by simp only [go_sem, List.length_map] <;> rfl) (Sub.refl _) rfl rfl (by simp)
    · intro i loc hi ih
      have q0 : ls[i] = [] := List.eq_nil_of_length_eq_zero (hz i hi)
      refine AWPH.step (xc_ok (bitB 504373101) _ _ _ ?_)
      simp only [go_sem, hi, ltN' hi, getD_map' _ _ _ _ hi, lstE, List.length_map, q0, List.map_nil]
      refine grow_intro fun loc' => ?_
      simp only [go_sem, List.length_nil]
      refine (ih loc').back (Sub.refl _) (by simp) ?_
      simp only [go_sem, wi_succ (show i < 4611686018427387904 by omega)]
    · intro loc
      refine AWPH.step (xc_ok (bitB 504373101) _ _ _ ?_)
      simp only [go_sem, List.length_map]
      exact ⟨S, Sub.set (Sub.refl _) hk _, by simp⟩
end Go.Sk
end

-- WSe
section
namespace Go.Sk
open Go Go.Proofs

theorem sort_ev (M : List Event) (t : List AV) (b c : Nat) (hc : M.length < 268435456) {S : Store} (hb : S (.r b) = some (evB M t)) : CallR Tryz.prog 81 [.ms b 3 0 M.length c, .fn (.func 82) [] []] S (fun r S' => r = .tuple [] ∧ S' = S.set (.r b) (evB (gatherE M) t)) := by
  refine callR_of Tryz.func81 rfl rfl (xc_ok (bitB 3) _ _ _ ?_)
  simp only [go_sem]
  refine (stable_ev M t b M.length c rfl hc hb).useB ?_
  rintro _ S1 ⟨rfl, hS1⟩
  rw [hS1]
  simp only [go_sem]
  exact ⟨_, Sub.refl _, by first | rfl | exact Or.inl rfl | exact ⟨rfl, rfl⟩ | exact Or.inl ⟨rfl, rfl⟩⟩
end Go.Sk
end

-- WSf
section
namespace Go.Sk
open Go Go.Proofs

theorem sort_none_ev (S : Store) : CallR Tryz.prog 81 [.p (.sl []), .fn (.func 82) [] []] S (fun r S' => r = .tuple [] ∧ S' = S) := by
  have hst : CallR Tryz.prog 143 [.p (.sl []), i64 0, .fn (.func 82) [] []] S (fun r S' => r = .tuple [] ∧ S' = S) := by
    refine callR_of Tryz.func143 rfl rfl (xc_ok (bitB 18014433942971335) _ _ _ ?_)
    have hi : CallR Tryz.prog 190 [.p (.sl []), i64 0, i64 0, .fn (.func 82) [] []] S (fun r S' => r = .tuple [] ∧ S' = S) := by
      refine callR_of Tryz.func190 rfl rfl (xc_ok (bitB 17179886351) _ _ _ ?_)
      have w0 : wi ((0 : Int) + 1) = 1 := wi_id (by decide) (by decide)
      simp only [go_sem, w0]
      refine AWP.roam (ι := Unit) (fun _ => True) (fun _ => ⟨Env.get [(2, i64 0), (8, i64 1)], S, 53, []⟩) (fun _ => 0) () trivial ?_ ?_
      · exact le_of (by simp only [go_sem] <;> rfl) (Sub.refl _) rfl rfl (by simp)
      · intro _ _ _
        refine AWPH.step (xc_ok (bitB 17179886351) _ _ _ ?_)
        simp only [go_sem, (by decide : ¬ ((1 : Int) < 0))]
        exact ⟨_, Sub.refl _, by first | rfl | exact Or.inl rfl | exact ⟨rfl, rfl⟩ | exact Or.inl ⟨rfl, rfl⟩⟩
    simp only [go_sem]
    refine AWP.roam (ι := Unit) (fun _ => True) (fun _ => ⟨Env.get [(0, .p (.sl [])), (1, i64 0), (2, .fn (.func 82) [] []), (6, i64 20), (7, i64 0), (8, i64 20)], S, 63, []⟩) (fun _ => 0) () trivial ?_ ?_
    · exact le_of (by simp only [go_sem] <;> simp) (Sub.refl _) rfl rfl (by simp)
    intro _ _ _
    refine AWPH.step (xc_ok (bitB 18014433942971335) _ _ _ ?_)
    simp only [go_sem, (by decide : ¬ ((20 : Int) ≤ 0)), (by decide : ¬ ((20 : Int) < 0))]
    refine hi.useB ?_
    rintro _ S1 ⟨rfl, hS1⟩
    rw [hS1]
    simp only [go_sem]
    refine AWP.roam (ι := Unit) (fun _ => True) (fun _ => ⟨Env.get [(1, i64 0), (6, i64 20)], S, 63, []⟩) (fun _ => 0) () trivial ?_ ?_
    · exact le_of (by simp only [go_sem] <;> simp) (Sub.refl _) rfl rfl (by simp)
    intro _ _ _
    refine AWPH.step (xc_ok (bitB 18014433942971335) _ _ _ ?_)
    simp only [go_sem, (by decide : ¬ ((20 : Int) ≤ 0)), (by decide : ¬ ((20 : Int) < 0))]
    exact ⟨_, Sub.refl _, by first | rfl | exact Or.inl rfl | exact ⟨rfl, rfl⟩ | exact Or.inl ⟨rfl, rfl⟩⟩
  refine callR_of Tryz.func81 rfl rfl (xc_ok (bitB 3) _ _ _ ?_)
  simp only [go_sem]
  refine hst.useB ?_
  rintro _ S1 ⟨rfl, hS1⟩
  rw [hS1]
  simp only [go_sem]
  exact ⟨_, Sub.refl _, by first | rfl | exact Or.inl rfl | exact ⟨rfl, rfl⟩ | exact Or.inl ⟨rfl, rfl⟩⟩
set_option maxHeartbeats 2000000 in
set_option maxRecDepth 4000 in
theorem buf_Join (l : List Buf) (hl : l.length ≤ 1000) (hn : (allE l).length < 268435456) : Pure Tryz.prog 30 [.p (.sl (l.map Buf.pv))] (.tuple [(joinB l).1.av, .p (evsP (joinB l).2)]) := fun S => by
  refine callR_of Tryz.func30 rfl rfl ?_
  by_cases hl0 : l = []
  · subst hl0
    refine xc_ok (bitB 62917085) _ _ _ ?_
    simp only [go_sem]
    refine alloc_intro fun c2 h2 => ?_
    simp only [go_sem, List.map_nil, List.length_nil]
    (refine ⟨S, by (repeat (first | exact Sub.refl _ | refine Sub.setF ?_ (by first | assumption | simp only [*]) | refine Sub.setV ?_ (by first | assumption | simp only [*]))), ?_⟩); simp [joinB, zeroB, evsP]
  obtain ⟨g, r, rfl⟩ : ∃ g r, l = g :: r := by cases l with | nil => exact absurd rfl hl0 | cons a b => exact ⟨a, b, rfl⟩
  have hres : joinB (g :: r) = (⟨g.late, g.room, maxK Buf.mark (g :: r), maxK Buf.front (g :: r), (gatherE (allE (g :: r))).drop (belowN (maxK Buf.front (g :: r)) (gatherE (allE (g :: r))))⟩, (gatherE (allE (g :: r))).take (belowN (maxK Buf.front (g :: r)) (gatherE (allE (g :: r))))) := by
    unfold joinB; rw [if_neg hl0]; rfl
  rw [hres]
  clear hres
  have hnl : 0 < (g :: r).length := by simp
  have hget0 : ∃ pa pb pc, ((g :: r).map Buf.pv).getD 0 [] = [.int .u64 g.late, .int .i64 g.room, pa, pb, pc] := ⟨_, _, _, rfl⟩
  obtain ⟨pa, pb, pc, hget⟩ := hget0
  generalize g.late = L0 at *
  generalize g.room = R0 at *
  generalize g :: r = l at *
  have hlb : (l.length == 0) = false := by rw [beq_eq_false_iff_ne]; omega
  refine AWP.seqA (xc_ok (bitB 62917085) _ _ _ ?_)
  simp only [go_sem]
  refine alloc_intro fun c2 h2 => ?_
  have y2 : S (.r c2) = none := h2
  simp only [go_sem]
  refine AWP.seqA (xc_ok (bitB 62917085) _ _ _ ?_)
  simp only [go_sem, List.length_map, hlb]
  refine AWP.seqA (AWP.draw2 (bitB 62917085) mixed (by kernel_rfl) (fun _ => bl false) ?_)
  have hnl' : (0 : Int) < (l.length : Int) := by omega
  simp only [go_sem, hnl, hnl', hget, List.length_map]
  refine alloc_intro fun c4 h4 => ?_
  simp only [fresh_set] at h4
  have m24 := h4.1
  have y4 : S (.r c4) = none := h4.2
  simp only [go_sem, m24]
  refine AWP.seqA (AWP.seqA (xc_ok (bitB 62917085) _ _ _ ?_))
  simp only [go_sem, m24, List.length_map]
  refine AWP.blockA (AWP.dataB c4 (by simp only [go_sem] <;> rfl) ?_)
  simp only [go_sem, m24, List.map_cons, List.map_nil]
  obtain ⟨M, hM⟩ : ∃ M, maxK Buf.mark l = M := ⟨_, rfl⟩
  obtain ⟨F, hF⟩ : ∃ F, maxK Buf.front l = F := ⟨_, rfl⟩
  obtain ⟨G, hG⟩ : ∃ G, gatherE (allE l) = G := ⟨_, rfl⟩
  have hGl : G.length = (allE l).length := by rw [← hG]; exact gather_len _
  rw [hM, hF, hG]
  refine AWP.roam (ι := Nat ⊕ (Nat × Nat × List AV)) (fun y => match y with
      | .inl i => i ≤ l.length ∧ (i = l.length → allE l = [])
      | .inr (b, c, t) => allE l ≠ [] ∧ S (.r b) = none ∧ ¬ b = c2 ∧ ¬ b = c4 ∧ (evc (allE l) t).length = c * 3)
    (fun y => match y with
      | .inl i => ⟨Env.get [(2, .sp c2 0), (3, .nils), (4, .sp c4 0), (22, .p (.sl (l.map Buf.pv))), (23, i64 l.length), (24, i64 i)], (S.set (.r c2) (.cells [u64 0, i64 0, u64 0, u64 0, .nils])).set (.r c4) (.cells [u64 L0, i64 R0, u64 (maxK Buf.mark (l.take i)), u64 (maxK Buf.front (l.take i)), .p (.sl ((allE (l.take i)).map Event.pv))]), 69, []⟩
      | .inr (b, c, t) => ⟨Env.get [(2, .sp c2 0), (3, .nils), (4, .sp c4 0), (22, .p (.sl (l.map Buf.pv))), (23, i64 l.length), (24, i64 l.length)], ((S.set (.r c2) (.cells [u64 0, i64 0, u64 0, u64 0, .nils])).set (.r c4) (.cells [u64 L0, i64 R0, u64 M, u64 F, .ms b 3 0 (allE l).length c])).set (.r b) (evB (allE l) t), 69, []⟩)
    (fun y => match y with | .inl i => l.length - i + 1 | .inr _ => 0) (.inl 0) ⟨Nat.zero_le _, fun h => by omega⟩ ?_ ?_
  · dsimp only
    refine le_of (by simp only [go_sem] <;> rfl) ?_ rfl rfl (by simp)
    ((try dsimp only); (repeat refine sub_set ?_ ?_) <;> first | ((repeat (first | exact Sub.refl _ | refine Sub.setF ?_ (by first | assumption | simp only [*]) | refine Sub.setV ?_ (by first | assumption | simp only [*]))); done) | (simp only [go_sem, m24]; done) | (simp only [go_sem, m24]; rfl) | rfl)
  intro y hinv ih
  match y, hinv with
  | .inl i, hinv =>
    obtain ⟨hi, hemp⟩ := hinv
    dsimp only at ih ⊢
    refine AWPH.step (xc_ok (bitB 62917085) _ _ _ ?_)
    by_cases ci : i < l.length
    · have hai := allE_snoc l i ci
      have hal := allE_le l (i + 1)
      have hx1 := maxK_snoc Buf.mark l i ci
      have hx2 := maxK_snoc Buf.front l i ci
      have hqi : wi ((i : Int) + 1) = ((i + 1 : Nat) : Int) := wi_succ (show i < 4611686018427387904 by omega)
      obtain ⟨E, hE⟩ : ∃ E, allE (l.take i) = E := ⟨_, rfl⟩
      obtain ⟨m0, hm0⟩ : ∃ m0, maxK Buf.mark (l.take i) = m0 := ⟨_, rfl⟩
      obtain ⟨f0, hf0⟩ : ∃ f0, maxK Buf.front (l.take i) = f0 := ⟨_, rfl⟩
      rw [hE] at hai
      rw [hm0] at hx1
      rw [hf0] at hx2
      have hpv : (l.map Buf.pv).getD i [] = [.int .u64 (l[i]).late, .int .i64 (l[i]).room, .int .u64 (l[i]).mark, .int .u64 (l[i]).front, .sl ((l[i]).evs.map Event.pv)] := by rw [getD_map' _ _ _ _ ci]; rfl
      generalize l[i] = x at *
      simp only [go_sem, ci, ltN' ci, hpv, List.length_map, hE, hm0, hf0]
      refine alloc_intro fun c6 h6 => ?_
      simp only [fresh_set] at h6
      simp only [go_sem, m24, h6]
      refine AWP.draw3 (bitB 62917085) mixed (by kernel_rfl) (fun j => if j = 5 then u64 (max m0 x.mark) else u64 (max f0 x.front)) ?_
      simp only [go_sem, m24, h6]
      refine ⟨(latest_two m0 x.mark).draw, (latest_two f0 x.front).draw, ?_⟩
      have hfl : ([E, x.evs] : List (List Event)).flatten = allE (l.take (i + 1)) := by rw [hai]; simp
      have hsl : sumL [E, x.evs] = (allE (l.take (i + 1))).length := by rw [← sumL_flat, hfl]
      by_cases z : allE (l.take (i + 1)) = []
      · have hcn := concat_nil [E, x.evs] (by rw [hsl, z]; rfl) (by simp)
        refine hcn.useA ?_
        simp only [go_sem, m24, h6]
        refine (ih (.inl (i + 1)) ⟨ci, fun e => by rw [e, List.take_length] at z; exact z⟩ (by dsimp only; omega)).back ?_ (by simp) ?_
        · rw [z, hx1, hx2]
          ((try dsimp only); (repeat refine sub_set ?_ ?_) <;> first | ((repeat (first | exact Sub.refl _ | refine Sub.setF ?_ (by first | assumption | simp only [*]) | refine Sub.setV ?_ (by first | assumption | simp only [*]))); done) | (simp only [go_sem, m24, h6, List.map_nil]; done) | (simp only [go_sem, m24, h6, List.map_nil]; rfl) | rfl)
        · simp only [go_sem, hqi]
      by_cases cl : i + 1 = l.length
      · rw [cl, List.take_length] at hfl hsl hx1 hx2 z
        rw [hM] at hx1
        rw [hF] at hx2
        have hpos : 0 < (allE l).length := List.length_pos_iff.2 z
        refine (concat_own [E, x.evs] (by omega) (by omega) (by simp) _).useA ?_
        rintro _ U ⟨b, c, t, hb, rfl, hU, hlen⟩
        simp only [fresh_set] at hb
        rw [hfl] at hU hlen
        rw [hU]
        simp only [go_sem, m24, h6, hb, hfl]
        refine (ih (.inr (b, c, t)) ⟨z, hb.2.2.2.2, hb.2.2.2.1.1, hb.2.2.1.1, hlen⟩ (by dsimp only; omega)).back ?_ (by simp) ?_
        · rw [hx1, hx2]
          ((try dsimp only); (repeat refine sub_set ?_ ?_) <;> first | ((repeat (first | exact Sub.refl _ | refine Sub.setF ?_ (by first | assumption | simp only [*]) | refine Sub.setV ?_ (by first | assumption | simp only [*]))); done) | (simp only [go_sem, m24, h6, hb]; done) | (simp only [go_sem, m24, h6, hb]; rfl) | rfl)
        · simp only [go_sem, hqi, cl]
      · have hce := concat_ev [E, x.evs] (by rw [hsl]; exact List.length_pos_iff.2 z) (by omega) (by simp)
        rw [hfl] at hce
        refine hce.useA ?_
        simp only [go_sem, m24, h6]
        refine (ih (.inl (i + 1)) ⟨ci, fun e => absurd e cl⟩ (by dsimp only; omega)).back ?_ (by simp) ?_
        · rw [hx1, hx2]
          ((try dsimp only); (repeat refine sub_set ?_ ?_) <;> first | ((repeat (first | exact Sub.refl _ | refine Sub.setF ?_ (by first | assumption | simp only [*]) | refine Sub.setV ?_ (by first | assumption | simp only [*]))); done) | (simp only [go_sem, m24, h6]; done) | (simp only [go_sem, m24, h6]; rfl) | rfl)
        · simp only [go_sem, hqi]
    · obtain rfl : i = l.length := by omega
      have hz := hemp rfl
      have hG0 : G = [] := by rw [← hG, hz]; rfl
      have e0 : ([] : List (List PV)) = G.map Event.pv := by rw [hG0]; rfl
      simp only [go_sem, ci, List.take_length, hM, hF, hz, List.map_nil]
      refine AWP.seqA (xc_ok (bitB 62917085) _ _ _ ?_)
      simp only [go_sem, m24]
      refine (sort_none_ev _).useA ?_
      rintro _ U ⟨rfl, hU⟩
      rw [hU, e0]
      simp only [go_sem, m24]
      refine xc_ok (bitB 62917085) _ _ _ ?_
      simp only [go_sem, m24]
      refine (below ⟨L0, R0, M, F, G⟩ F (by dsimp only; rw [hGl]; omega)).useA ?_
      have hle := belowN_le F G
      have e5 : List.take (belowN F G - 0) (List.map Event.pv G) = List.map Event.pv (G.take (belowN F G)) := by rw [Nat.sub_zero, List.map_take]
      have e6 : List.take (G.length - belowN F G) (List.drop (belowN F G) (List.map Event.pv G)) = List.map Event.pv (G.drop (belowN F G)) := by
        rw [← List.map_drop]; exact List.take_of_length_le (by simp)
      simp only [go_sem, m24, List.length_map, e5, e6]
      refine ⟨evn_len, hle, evn_len, hle, ?_⟩
      refine ⟨S, Sub.set (Sub.set (Sub.set (Sub.refl _) y2 _) y4 _) y2 _, ?_⟩
      simp [evsP]
  | .inr (b, c, t), hinv =>
    obtain ⟨z, yb, nb2, nb4, hlen⟩ := hinv
    dsimp only at ih ⊢
    refine AWPH.step (xc_ok (bitB 62917085) _ _ _ ?_)
    simp only [go_sem]
    refine AWP.seqA (xc_ok (bitB 62917085) _ _ _ ?_)
    have nb2' : ¬ c2 = b := fun e => nb2 e.symm
    have nb4' : ¬ c4 = b := fun e => nb4 e.symm
    simp only [go_sem, m24, nb2, nb4, nb2', nb4']
    refine (sort_ev (allE l) t b c hn (by simp only [go_sem])).useA ?_
    rintro _ U ⟨rfl, hU⟩
    rw [hU, hG]
    simp only [go_sem, m24, nb2, nb4, nb2', nb4']
    refine AWP.fz (s' := ⟨Env.get [(2, .sp c2 0), (4, .sp c4 0)], (S.set (.r c2) (.cells [u64 0, i64 0, u64 0, u64 0, .nils])).set (.r c4) (.cells [u64 L0, i64 R0, u64 M, u64 F, .p (.sl (G.map Event.pv))]), 69, []⟩) ?_ (StFz.env (b := b) (m := G.length * 3) (cs := evc G t) ?_ ?_ ?_ ?_ (by simp))
    rotate_left
    · simp only [go_sem]
    · rw [evc_len]; omega
    · intro q y hq
      have n1 : q ≠ .r b := by
        rintro rfl
        rw [Store.set_other _ _ (by simpa using nb4), Store.set_other _ _ (by simpa using nb2), yb] at hq; cases hq
      refine ⟨n1, ?_⟩
      by_cases q4 : q = .r c4
      · subst q4
        rw [Store.set_same] at hq
        cases hq
        refine Or.inr ⟨[u64 L0, i64 R0, u64 M, u64 F, .ms b 3 0 (allE l).length c], _, by simp only [go_sem, m24, nb2, nb4, nb2', nb4'], rfl, ?_⟩
        refine fzL_cons (Or.inl rfl) (fzL_cons (Or.inl rfl) (fzL_cons (Or.inl rfl) (fzL_cons (Or.inl rfl) (fzL_cons (Or.inr (Or.inr ⟨3, 0, G.length, c, G.map Event.pv, by rw [hGl], by omega, rfl, List.length_map .., evn_len, ?_⟩)) (fzL_nil _ _ _)))))
        rw [List.drop_zero]
        unfold evc
        rw [List.take_append_of_le_length (by rw [flat_len3]; exact Nat.le_refl _), List.take_of_length_le (by rw [flat_len3]; exact Nat.le_refl _)]
      · left
        rw [Store.set_other _ _ n1, Store.set_other _ _ q4]
        rw [Store.set_other _ _ q4] at hq
        exact hq
    · exact ⟨Or.inl (Or.inl (Or.inl (by simp only [go_sem]))), Or.inl (Or.inl (Or.inl (by simp only [go_sem]))), trivial⟩
    refine xc_ok (bitB 62917085) _ _ _ ?_
    simp only [go_sem, m24]
    refine (below ⟨L0, R0, M, F, G⟩ F (by dsimp only; rw [hGl]; omega)).useA ?_
    have hle := belowN_le F G
    have e5 : List.take (belowN F G - 0) (List.map Event.pv G) = List.map Event.pv (G.take (belowN F G)) := by rw [Nat.sub_zero, List.map_take]
    have e6 : List.take (G.length - belowN F G) (List.drop (belowN F G) (List.map Event.pv G)) = List.map Event.pv (G.drop (belowN F G)) := by
      rw [← List.map_drop]; exact List.take_of_length_le (by simp)
    simp only [go_sem, m24, List.length_map, e5, e6]
    refine ⟨evn_len, hle, evn_len, hle, ?_⟩
    refine ⟨S, Sub.set (Sub.set (Sub.set (Sub.refl _) y2 _) y4 _) y2 _, ?_⟩
    simp [evsP]
end Go.Sk
end

-- W14k
section
namespace Go.Sk
open Go Go.Proofs

theorem maxGK_snoc (l : List Skt) (i : Nat) (hi : i < l.length) : maxG (pastsK (l.take (i + 1))) = max (maxG (pastsK (l.take i))) (l[i]).past.g := by
  unfold pastsK; rw [List.take_succ_eq_append_getElem hi, List.map_append]
  unfold maxG; rw [List.foldl_append]; rfl
theorem sumsK_snoc (l : List Skt) (i : Nat) (hi : i < l.length) : sumsK (l.take (i + 1)) = sumsK (l.take i) ++ [totN 0 (l[i]).past.ls, sumE Event.w (l[i]).b.evs] := by
  unfold sumsK; rw [List.take_succ_eq_append_getElem hi, List.flatMap_append]; simp
theorem sumsK_len (l : List Skt) : (sumsK l).length = l.length * 2 := by
  unfold sumsK
  induction l with
  | nil => rfl
  | cons s r ih => rw [List.flatMap_cons, List.length_append, ih]; simp; omega
theorem nE_len {l : List Nat} : ∀ el ∈ l.map nE, el.length = 1 := by intro el h; obtain ⟨x, _, rfl⟩ := List.mem_map.1 h; rfl
theorem likeK_eq (a b : Skt) : likeK a b = (!(a.win != b.win || a.b.late != b.b.late || a.b.room != b.b.room || a.past.k != b.past.k)) := by
  unfold likeK; rw [Bool.eq_iff_iff]; simp [and_assoc]
set_option maxHeartbeats 2000000 in
set_option maxRecDepth 4000 in
theorem count_fits (l : List Skt) (hn : l.length ≤ 1000) (hf : ∀ s ∈ l, s.Fit) : Pure Tryz.prog 28 [.p (.sl (l.map Skt.pv))] (.tuple [.p (.sl ((if fitsK l = 0 then sumsK l else []).map nE)), i64 (fitsK l)]) := fun S => by
  refine callR_of Tryz.func28 rfl rfl (xc_ok (bitB 4722438540463683269565) _ _ _ ?_)
  simp only [go_sem]
  by_cases hl0 : l = []
  · subst hl0
    simp only [go_sem, List.map_nil, List.length_nil]
    (refine ⟨S, by (repeat (first | exact Sub.refl _ | refine Sub.setF ?_ (by first | assumption | simp only [*]) | refine Sub.setV ?_ (by first | assumption | simp only [*]))), ?_⟩); simp [fitsK]
  have hnl : 0 < l.length := List.length_pos_iff.2 hl0
  obtain ⟨g, hg⟩ : ∃ g, l.headD zeroK = g := ⟨_, rfl⟩
  have hget0 : (l.map Skt.pv).getD 0 [] = [.int .u64 g.win, .int .u64 g.b.late, .int .i64 g.b.room, .int .u64 g.b.mark, .int .u64 g.b.front, .sl (g.b.evs.map Event.pv), .int .i64 g.past.k, .int .i64 g.past.g, .sl (g.past.ls.map lvE)] := by rw [← hg]; cases l with | nil => exact absurd rfl hl0 | cons a r => rfl
  have hlb : (l.length == 0) = false := by rw [beq_eq_false_iff_ne]; omega
  simp only [go_sem, hlb, List.length_map]
  refine AWP.tip0 4 1 (by simp only [go_sem]) fun k hk => ?_
  simp only [go_sem]
  refine AWP.roam (ι := Nat × Option Nat) (fun y => y.1 ≤ l.length ∧ ∀ s ∈ l.take y.1, likeK s g = true)
    (fun y => ⟨Env.get [(0, .p (.sl (l.map Skt.pv))), (4, .ts k 1 y.2 ((sumsK (l.take y.1)).map nE)), (5, i64 (maxG (pastsK (l.take y.1)))), (13, .p (.sl (l.map Skt.pv))), (14, i64 l.length), (15, i64 y.1)], S.set (.v k) (.tip 1 (y.1 * 2) y.2), 74, []⟩) (fun y => l.length - y.1) (0, none) ⟨Nat.zero_le _, fun s hs => by simp at hs⟩ ?_ ?_
  · exact le_of (by simp only [go_sem, List.take_zero] <;> simp [sumsK, pastsK, maxG]) (Sub.refl _) rfl rfl (by simp)
  rintro ⟨i, loc⟩ ⟨hi, hall⟩ ih
  dsimp only at hi hall ih ⊢
  refine AWPH.step (xc_ok (bitB 4722438540463683269565) _ _ _ ?_)
  by_cases ci : i < l.length
  rotate_left
  · obtain rfl : i = l.length := by omega
    rw [List.take_length] at hall ⊢
    have hany : ¬ l.any (fun s => !likeK s (l.headD zeroK)) = true := by
      rw [hg]; intro h
      obtain ⟨s, hs, h⟩ := List.any_eq_true.1 h
      rw [hall s hs] at h; simp at h
    by_cases hm : maxG (pastsK l) = 4
    · have hv : fitsK l = 10 := by unfold fitsK; rw [if_neg hl0, if_neg hany, if_pos hm]
      have hmb : (maxG (pastsK l) == 4) = true := by rw [hm]; rfl
      rw [hv]
      simp only [go_sem, ci, hmb]
      exact ⟨S, Sub.set (Sub.refl _) hk _, by simp⟩
    · have hv : fitsK l = 0 := by unfold fitsK; rw [if_neg hl0, if_neg hany, if_neg hm]
      have hmb : (maxG (pastsK l) == 4) = false := by rw [beq_eq_false_iff_ne]; exact hm
      rw [hv]
      simp only [go_sem, ci, hmb]
      exact ⟨S, Sub.set (Sub.refl _) hk _, by simp⟩
  have hfi := hf _ (List.getElem_mem ci)
  obtain ⟨wt1, wt2⟩ := hfi.good.wt
  have hqi : wi ((i : Int) + 1) = ((i + 1 : Nat) : Int) := wi_succ (show i < 4611686018427387904 by omega)
  have hmx := maxGK_snoc l i ci
  have hsx := sumsK_snoc l i ci
  have hpv : (l.map Skt.pv).getD i [] = [.int .u64 (l[i]).win, .int .u64 (l[i]).b.late, .int .i64 (l[i]).b.room, .int .u64 (l[i]).b.mark, .int .u64 (l[i]).b.front, .sl ((l[i]).b.evs.map Event.pv), .int .i64 (l[i]).past.k, .int .i64 (l[i]).past.g, .sl ((l[i]).past.ls.map lvE)] := by rw [getD_map' _ _ _ _ ci]; rfl
  have hts := take_snoc' l i ci
  generalize hs : l[i] = s at *
  have hmem : s ∈ l := by rw [← hs]; exact List.getElem_mem ci
  simp only [go_sem, ci, ltN' ci, hpv, List.length_map]
  refine alloc_intro fun c7 h7 => ?_
  simp only [fresh_setv] at h7
  simp only [go_sem]
  refine AWP.drawX (fun b => S (.r b) = none ∧ ¬ b = c7) (bitB 4722438540463683269565) mixed (by kernel_rfl) (by kernel_rfl) (fun j => bl false) ?_
  simp only [go_sem, h7, hnl, ltN' hnl, hget0, List.length_map]
  refine ⟨fun b k e => (by cases e), alloc_intro fun c8 h8 => ?_⟩
  simp only [fresh_set, fresh_setv] at h8
  simp only [go_sem, h7, h8]
  refine alloc_intro fun c9 h9 => ?_
  simp only [fresh_set, fresh_setv] at h9
  have y7 : S (.r c7) = none := h7
  have y8 : S (.r c8) = none := h8.2
  have y9 : S (.r c9) = none := h9.2.2
  simp only [go_sem, h7, h8, h9, y8, y9]
  by_cases hlk : likeK s g = true
  rotate_left
  · have hany : l.any (fun s => !likeK s (l.headD zeroK)) = true := List.any_eq_true.2 ⟨s, hmem, by rw [hg]; simpa using hlk⟩
    have hv : fitsK l = 9 := by unfold fitsK; rw [if_neg hl0, if_pos hany]
    rw [hv]
    rw [likeK_eq] at hlk
    have yk : S (.v k) = none := hk
    cases b1 : (s.win != g.win)
    rotate_left
    · refine AWP.draw2 (bitB 4722438540463683269565) mixed (by kernel_rfl) (fun j => bl false) ?_
      simp only [go_sem, h7, h8, h9, hnl, ltN' hnl, hget0, List.length_map, b1]
      exact ⟨S, by repeat' first | exact Sub.refl _ | refine Sub.set ?_ (by assumption) _, by simp⟩
    cases b2 : (s.b.late != g.b.late)
    rotate_left
    · refine AWP.draw2 (bitB 4722438540463683269565) mixed (by kernel_rfl) (fun j => bl false) ?_
      simp only [go_sem, h7, h8, h9, hnl, ltN' hnl, hget0, List.length_map, b1, b2]
      exact ⟨S, by repeat' first | exact Sub.refl _ | refine Sub.set ?_ (by assumption) _, by simp⟩
    cases b3 : (s.b.room != g.b.room)
    rotate_left
    · refine AWP.draw2 (bitB 4722438540463683269565) mixed (by kernel_rfl) (fun j => bl false) ?_
      simp only [go_sem, h7, h8, h9, hnl, ltN' hnl, hget0, List.length_map, b1, b2, b3]
      exact ⟨S, by repeat' first | exact Sub.refl _ | refine Sub.set ?_ (by assumption) _, by simp⟩
    cases b4 : (s.past.k != g.past.k)
    rotate_left
    · refine AWP.draw2 (bitB 4722438540463683269565) mixed (by kernel_rfl) (fun j => bl false) ?_
      simp only [go_sem, h7, h8, h9, hnl, ltN' hnl, hget0, List.length_map, b1, b2, b3, b4]
      exact ⟨S, by repeat' first | exact Sub.refl _ | refine Sub.set ?_ (by assumption) _, by simp⟩
    · rw [b1, b2, b3, b4] at hlk; simp at hlk
  have hlk' := hlk
  rw [likeK_eq] at hlk
  have b1 : (s.win != g.win) = false := by cases q : (s.win != g.win) <;> simp_all
  have b2 : (s.b.late != g.b.late) = false := by cases q : (s.b.late != g.b.late) <;> simp_all
  have b3 : (s.b.room != g.b.room) = false := by cases q : (s.b.room != g.b.room) <;> simp_all
  have b4 : (s.past.k != g.past.k) = false := by cases q : (s.past.k != g.past.k) <;> simp_all
  have hT := hist_Total s.past.k s.past.g s.past.ls (by have := hfi.good.pg.len; omega)
  have hW := buf_Weight s.b (by have := hfi.good.len; have := hfi.good.r2; omega)
  rw [wt1] at hT
  rw [wt2] at hW
  have hmx2 : (if s.past.g > maxG (pastsK (l.take i)) then s.past.g else maxG (pastsK (l.take i))) = maxG (pastsK (l.take (i + 1))) := by rw [hmx]; split <;> omega
  have hsl : (sumsK (l.take i)).length = i * 2 := by rw [sumsK_len, List.length_take]; congr 1; omega
  have hsl2 : (sumsK (l.take (i + 1))).length = (i + 1) * 2 := by rw [sumsK_len, List.length_take]; congr 1; omega
  have hrep : (sumsK (l.take i)).map nE ++ [[.int .u64 (totN 0 s.past.ls : Nat)], [.int .u64 (sumE Event.w s.b.evs : Nat)]] = (sumsK (l.take (i + 1))).map nE := by rw [hsx, List.map_append]; rfl
  clear hsx hmx
  refine AWP.draw2 (bitB 4722438540463683269565) mixed (by kernel_rfl) (fun j => bl false) ?_
  simp only [go_sem, h7, h8, h9, hnl, ltN' hnl, hget0, List.length_map, b1, b2, b3, b4, hmx2]
  refine AWP.draw2 (bitB 4722438540463683269565) mixed (by kernel_rfl) (fun j => if j = 3 then u64 (totN 0 s.past.ls) else u64 (sumE Event.w s.b.evs)) ?_
  simp only [go_sem, h7, h8, h9, List.length_map, hsl]
  refine ⟨hT.draw, hW.draw, by rintro el (rfl | rfl) <;> rfl, nE_len, by clear h7 h8 h9; omega, by clear h7 h8 h9; omega, grow_intro fun loc' => ?_⟩
  simp only [go_sem, h7, h8, h9, hrep, List.length_map, hsl2]
  refine (ih (i + 1, loc') ⟨ci, fun x hx => ?_⟩ (by dsimp only; clear h7 h8 h9; omega)).back ?_ (by simp) ?_
  · dsimp only at hx
    rw [hts] at hx
    rcases List.mem_append.1 hx with hx | hx
    · exact hall x hx
    · obtain rfl := List.mem_singleton.1 hx; exact hlk'
  · ((try dsimp only); (repeat refine sub_set ?_ ?_) <;> first | ((repeat (first | exact Sub.refl _ | refine Sub.setF ?_ (by first | assumption | simp only [*]) | refine Sub.setV ?_ (by first | assumption | simp only [*]))); done) | (simp only [go_sem, h7, h8, h9, hrep, hsl2, List.length_map]; done) | (simp only [go_sem, h7, h8, h9, hrep, hsl2, List.length_map]; rfl) | rfl)
  · simp only [go_sem, hqi, hrep]
end Go.Sk
end

-- W14l
section
namespace Go.Sk
open Go Go.Proofs

theorem hst_len {l : List Hist} : ∀ el ∈ l.map Hist.cs, el.length = 3 := by intro el h; obtain ⟨x, _, rfl⟩ := List.mem_map.1 h; rfl
theorem buf_len {l : List Buf} : ∀ el ∈ l.map Buf.pv, el.length = 5 := by intro el h; obtain ⟨x, _, rfl⟩ := List.mem_map.1 h; rfl
theorem waits_snoc (l : List Skt) (i : Nat) (hi : i < l.length) : (waitsK (l.take i)).map Buf.pv ++ [[.int .u64 (l[i]).b.late, .int .i64 (l[i]).b.room, .int .u64 (l[i]).b.mark, .int .u64 (l[i]).b.front, .sl ((l[i]).b.evs.map Event.pv)]] = (waitsK (l.take (i + 1))).map Buf.pv := by
  unfold waitsK; rw [List.take_succ_eq_append_getElem hi, List.map_append, List.map_append]; rfl
theorem pasts_snoc (l : List Skt) (i : Nat) (hi : i < l.length) : (pastsK (l.take i)).map Hist.cs ++ [[.int .i64 (l[i]).past.k, .int .i64 (l[i]).past.g, .sl ((l[i]).past.ls.map lvE)]] = (pastsK (l.take (i + 1))).map Hist.cs := by
  unfold pastsK; rw [List.take_succ_eq_append_getElem hi, List.map_append, List.map_append]; rfl
theorem waits_len (l : List Skt) : (waitsK l).length = l.length := List.length_map ..
theorem pasts_len (l : List Skt) : (pastsK l).length = l.length := List.length_map ..
theorem all_len {l : List Skt} (hf : ∀ s ∈ l, s.Fit) : (allE (waitsK l)).length ≤ l.length * 1024 := by
  induction l with
  | nil => exact Nat.le_refl _
  | cons s r ih =>
    have e3 : allE (waitsK (s :: r)) = s.b.evs ++ allE (waitsK r) := by unfold allE waitsK; simp
    have h1 := (hf s (by simp)).good
    have h2 := ih fun s hs => hf s (by simp [hs])
    have h3 := h1.len; have h4 := h1.r2
    rw [e3, List.length_append, List.length_cons, Nat.add_mul]; omega
set_option maxHeartbeats 2000000 in
set_option maxRecDepth 4000 in
theorem count_Merge (l : List Skt) (hn : l.length ≤ 1000) (hf : ∀ s ∈ l, s.Fit) : Pure Tryz.prog 10 [.p (.sl (l.map Skt.pv))] (.tuple [(mergeK l).1.av, i64 (mergeK l).2]) := fun S => by
  refine callR_of Tryz.func10 rfl rfl (xc_ok (bitB 36028798042906365) _ _ _ ?_)
  simp only [go_sem]
  refine alloc_intro fun c2 h2 => ?_
  have y2 : S (.r c2) = none := h2
  simp only [go_sem]
  refine (count_fits l hn hf).useA ?_
  simp only [go_sem]
  by_cases h0 : fitsK l = 0
  rotate_left
  · have h0b : (fitsK l != 0) = true := by simpa using h0
    have hv : mergeK l = (zeroK, fitsK l) := by unfold mergeK; rw [if_pos h0]
    rw [hv]
    simp only [go_sem, h0b]
    exact ⟨S, Sub.set (Sub.refl _) y2 _, by simp [zeroK, zeroB, zeroH]⟩
  have h0b : (fitsK l != 0) = false := by simpa using h0
  obtain ⟨hne, _, _⟩ := fits_ok h0
  rw [if_pos h0]
  simp only [go_sem, h0b]
  refine (count_rooms (sumsK l) (by rw [sumsK_len]; omega)).useA ?_
  by_cases ht : 4503599627370496 < (sumsK l).sum
  · have hv : mergeK l = (zeroK, 5) := by unfold mergeK; rw [if_neg (by simpa using h0), if_pos ht]
    rw [hv, decide_eq_false (by omega)]
    simp only [go_sem, Bool.not_false]
    exact ⟨S, Sub.set (Sub.refl _) y2 _, by simp [zeroK, zeroB, zeroH]⟩
  have hv : mergeK l = moveK (mixK l) (mixK l).b.mark := by unfold mergeK; rw [if_neg (by simpa using h0), if_neg ht]
  rw [hv, decide_eq_true (by omega)]
  have hok := mix_ok hf hn h0 ht
  have hnl : 0 < l.length := List.length_pos_iff.2 hne
  obtain ⟨g, hg⟩ : ∃ g, l.headD zeroK = g := ⟨_, rfl⟩
  have hget0 : (l.map Skt.pv).getD 0 [] = [.int .u64 g.win, .int .u64 g.b.late, .int .i64 g.b.room, .int .u64 g.b.mark, .int .u64 g.b.front, .sl (g.b.evs.map Event.pv), .int .i64 g.past.k, .int .i64 g.past.g, .sl (g.past.ls.map lvE)] := by rw [← hg]; cases l with | nil => exact absurd rfl hne | cons a r => rfl
  simp only [go_sem, Bool.not_true]
  refine AWP.tip0 6 5 (by simp only [go_sem]) fun k1 hk1 => ?_
  simp only [go_sem]
  refine AWP.tip0 7 3 (by simp only [go_sem]) fun k2 hk2 => ?_
  simp only [freshv_setr, freshv_set] at hk1 hk2
  simp only [go_sem]
  refine AWP.iterE (ι := Option Nat × Option Nat) (fun x i => ⟨Env.get [(0, .p (.sl (l.map Skt.pv))), (2, .sp c2 0), (3, i64 0), (6, .ts k1 5 x.1 ((waitsK (l.take i)).map Buf.pv)), (7, .ts k2 3 x.2 ((pastsK (l.take i)).map Hist.cs)), (26, .p (.sl (l.map Skt.pv))), (27, i64 l.length), (28, i64 i)],
    ((S.set (.r c2) (.cells [u64 0, u64 0, i64 0, u64 0, u64 0, .nils, i64 0, i64 0, .nils])).set (.v k1) (.tip 5 i x.1)).set (.v k2) (.tip 3 i x.2), 70, []⟩) l.length (none, none) ?_ ?_ ?_
  · refine le_of (by simp only [go_sem, List.length_map, List.take_zero] <;> simp [waitsK, pastsK]) ?_ rfl rfl (by simp)
    ((try dsimp only); (repeat refine sub_set ?_ ?_) <;> first | ((repeat (first | exact Sub.refl _ | refine Sub.setF ?_ (by first | assumption | simp only [*]) | refine Sub.setV ?_ (by first | assumption | simp only [*]))); done) | (simp only [go_sem, hk2]; done) | (simp only [go_sem, hk2]; rfl) | rfl)
  · rintro i ⟨loc1, loc2⟩ hi ih
    have hqi : wi ((i : Int) + 1) = ((i + 1 : Nat) : Int) := wi_succ (show i < 4611686018427387904 by clear hk2; omega)
    have hpv : (l.map Skt.pv).getD i [] = [.int .u64 (l[i]).win, .int .u64 (l[i]).b.late, .int .i64 (l[i]).b.room, .int .u64 (l[i]).b.mark, .int .u64 (l[i]).b.front, .sl ((l[i]).b.evs.map Event.pv), .int .i64 (l[i]).past.k, .int .i64 (l[i]).past.g, .sl ((l[i]).past.ls.map lvE)] := by rw [getD_map' _ _ _ _ hi]; rfl
    have hw := waits_snoc l i hi
    have hp := pasts_snoc l i hi
    have hwl : (waitsK (l.take i)).length = i := by rw [waits_len, List.length_take]; exact Nat.min_eq_left (Nat.le_of_lt hi)
    have hpl : (pastsK (l.take i)).length = i := by rw [pasts_len, List.length_take]; exact Nat.min_eq_left (Nat.le_of_lt hi)
    have hwl1 : (waitsK (l.take (i + 1))).length = i + 1 := by rw [waits_len, List.length_take]; exact Nat.min_eq_left hi
    have hpl1 : (pastsK (l.take (i + 1))).length = i + 1 := by rw [pasts_len, List.length_take]; exact Nat.min_eq_left hi
    generalize l[i] = s at *
    refine AWPH.step (xc_ok (bitB 36028798042906365) _ _ _ ?_)
    simp only [go_sem, hi, ltN' hi, hpv, List.length_map]
    refine alloc_intro fun c9 h9 => ?_
    simp only [fresh_set, fresh_setv] at h9
    simp only [go_sem, hk2, h9, List.length_map, hwl]
    refine ⟨by rintro el rfl; rfl, buf_len, by clear h9 hk2; omega, by clear h9 hk2; omega, grow_intro fun loc1' => ?_⟩
    simp only [go_sem, hk2, h9, hw, List.length_map, hpl]
    refine ⟨by rintro el rfl; rfl, hst_len, by clear h9 hk2; omega, by clear h9 hk2; omega, grow_intro fun loc2' => ?_⟩
    simp only [go_sem, hk2, h9, hw, hp, List.length_map, hwl1, hpl1]
    refine (ih (loc1', loc2')).back ?_ (by simp) ?_
    · ((try dsimp only); (repeat refine sub_set ?_ ?_) <;> first | ((repeat (first | exact Sub.refl _ | refine Sub.setF ?_ (by first | assumption | simp only [*]) | refine Sub.setV ?_ (by first | assumption | simp only [*]))); done) | (simp only [go_sem, hk2, h9, hw, hp, hwl1, hpl1, List.length_map]; done) | (simp only [go_sem, hk2, h9, hw, hp, hwl1, hpl1, List.length_map]; rfl) | rfl)
    · simp only [go_sem, hqi, hw, hp]
  · rintro ⟨loc1, loc2⟩
    refine AWPH.step (xc_ok (bitB 36028798042906365) _ _ _ ?_)
    rw [List.take_length]
    have hal := all_len hf
    have hJ := buf_Join (waitsK l) (by rw [waits_len]; exact hn) (by clear hk2; omega)
    have hWi := replay_With (joinB (waitsK l)).2 (pastsK l) (by rw [pasts_len]; clear hk2; omega) hok.elen hok.early hok.came.fine (fun h hh => by obtain ⟨s, hs, rfl⟩ := List.mem_map.1 hh; exact (hf s hs).gen)
    obtain ⟨we, _⟩ := with_ok hok.came
    have hlx := hok.lax
    have hM := count_MoveP (mixK l) ⟨by have := hlx.r1; clear hk2; omega, by have := hlx.mkk; clear hk2; omega, by have := hlx.len; clear hk2; omega⟩ (mixK l).b.mark (move_preL hlx _)
    have hmx : mixK l = ⟨g.win, (joinB (waitsK l)).1, (withV (joinB (waitsK l)).2 (pastsK l)).1⟩ := by unfold mixK; rw [hg]
    generalize hMV : moveK (mixK l) (mixK l).b.mark = MV at *
    rw [hmx] at hM
    generalize joinB (waitsK l) = J at *
    generalize withV J.2 (pastsK l) = W at *
    simp only [go_sem, hk2]
    refine hJ.useA ?_
    simp only [go_sem, hk2]
    refine alloc_intro fun c10 h10 => ?_
    simp only [fresh_set, fresh_setv] at h10
    simp only [go_sem, hk2, h10]
    refine hWi.useA ?_
    rw [we]
    simp only [go_sem, hk2, h10]
    refine alloc_intro fun c12 h12 => ?_
    simp only [fresh_set, fresh_setv] at h12
    simp only [go_sem, hk2, h10, h12]
    refine AWP.draw2 (bitB 36028798042906365) mixed (by kernel_rfl) (fun j => .tuple [MV.1.av, i64 MV.2]) ?_
    simp only [go_sem, hk2, h10, h12, hnl, ltN' hnl, hget0, List.length_map]
    refine ⟨hM.draw, ?_⟩
    have y10 : S (.r c10) = none := h10.2
    have y12 : S (.r c12) = none := h12.2.2
    have yk1 : S (.v k1) = none := hk1
    have yk2 : S (.v k2) = none := hk2.2
    refine ⟨S, ?_, ?_⟩
    · repeat' first | exact Sub.refl _ | refine Sub.set ?_ (by assumption) _
    · simp
end Go.Sk
end
