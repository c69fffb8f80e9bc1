/- Texts A7 W15h W15i W15j A16 W15k W15l W15m A17 W15n A18 W13r A19 W15o L15 L15b L15c L15d, joined. -/
import Derived.Test.YtjiechgnlcpllaaA6
import Derived.Test.YtjiechgnlcpllaaW15g
import Derived.Test.YtjiechgnlcpllaaSkSq
import Derived.Test.YtjiechgnlcpllaaW8
import Derived.Test.YtjiechgnlcpllaaSkS
import Derived.Test.YtjiechgnlcpllaaLB
set_option linter.unusedSimpArgs false
set_option linter.unusedVariables false
set_option linter.unusedSectionVars false
-- A7
section
namespace Go.Sk

theorem stay_all (l add : List Span) (many tick most : Nat) (hm : 1 ≤ most) : (stayV l most add many tick).length + 2 * ((outsV l most add many tick).length + leftV l most add many) = l.length + add.length + many := by
  rw [go_less _ _ _ _ _ hm, stay_len]; unfold pairsN; omega
theorem stay_ne (l add : List Span) (many tick most : Nat) (hm : 2 ≤ most) (h : 0 < l.length + add.length + many) : stayV l most add many tick ≠ [] := by
  intro e
  have := congrArg List.length e
  rw [stay_len] at this; unfold pairsN at this; simp at this; omega
theorem mostN_two {k : Nat} (hk : 2 ≤ k) (i : Nat) : 2 ≤ mostN k i := by unfold mostN; split <;> omega

theorem flow_nil_ind (k tick : Nat) (p : Nat → List Span → Nat → Prop) (h0 : ∀ i come many, come.length + many = 0 → p i come many)
    (h1 : ∀ i come many, ¬ come.length + many = 0 → p (i + 1) (outsV [] (mostN k i) come many tick) (leftV [] (mostN k i) come many) → p i come many) : ∀ b i come many, come.length + many ≤ b → p i come many := by
  intro b
  induction b with
  | zero => intro i come many h; exact h0 _ _ _ (by omega)
  | succ b ih =>
    intro i come many h
    by_cases hz : come.length + many = 0
    · exact h0 _ _ _ hz
    · refine h1 i come many hz (ih _ _ _ ?_)
      rw [go_less _ _ _ _ _ (mostN_pos k i)]
      have := mostN_pos k i
      unfold pairsN; simp; omega
theorem flow_ind (k tick : Nat) (p : Nat → List (List Span) → List Span → Nat → Prop) (h0 : ∀ i come many, come.length + many = 0 → p i [] come many)
    (h1 : ∀ i ls come many, ¬ (ls = [] ∧ come.length + many = 0) → p (i + 1) ls.tail (outsV (ls.headD []) (mostN k i) come many tick) (leftV (ls.headD []) (mostN k i) come many) → p i ls come many) : ∀ ls i come many, p i ls come many := by
  have hnil : ∀ i come many, p i [] come many := fun i come many =>
    flow_nil_ind k tick (fun i come many => p i [] come many) h0 (fun i come many hz hp => h1 i [] come many (by simpa using hz) hp) _ i come many (Nat.le_refl _)
  intro ls
  induction ls with
  | nil => exact hnil
  | cons l r ih => intro i come many; exact h1 i (l :: r) come many (by simp) (ih _ _ _)

theorem flow_tot (k tick : Nat) : ∀ ls i come many, totN i (flowV k tick i ls come many) = totN i ls + (come.length + many) * 2 ^ i := by
  refine flow_ind k tick (fun i ls come many => totN i (flowV k tick i ls come many) = totN i ls + (come.length + many) * 2 ^ i) ?_ ?_
  · intro i come many h; rw [flowV_nil h, h]; simp
  · intro i ls come many h ih
    rw [flowV_cons h]
    simp only [totN]
    rw [ih]
    have hs := stay_all (ls.headD []) come many tick (mostN k i) (mostN_pos k i)
    have ht : totN i ls = (ls.headD []).length * 2 ^ i + totN (i + 1) ls.tail := by cases ls <;> simp [totN]
    rw [ht]
    generalize (stayV (ls.headD []) (mostN k i) come many tick).length = A at *
    generalize (outsV (ls.headD []) (mostN k i) come many tick).length + leftV (ls.headD []) (mostN k i) come many = B at *
    generalize (ls.headD []).length = C at *
    have e : C * 2 ^ i + (come.length + many) * 2 ^ i = A * 2 ^ i + (2 * B) * 2 ^ i := by
      rw [← Nat.add_mul, ← Nat.add_mul]; congr 1; omega
    have e2 : B * 2 ^ (i + 1) = (2 * B) * 2 ^ i := by rw [Nat.pow_succ, Nat.mul_comm 2 B, Nat.mul_assoc, Nat.mul_comm 2]
    omega
theorem flow_small (k tick : Nat) : ∀ ls i come many, ∀ l ∈ flowV k tick i ls come many, l.length ≤ k + 2 := by
  refine flow_ind k tick (fun i ls come many => ∀ l ∈ flowV k tick i ls come many, l.length ≤ k + 2) ?_ ?_
  · intro i come many h l hl; rw [flowV_nil h] at hl; cases hl
  · intro i ls come many h ih l hl
    rw [flowV_cons h] at hl
    rcases List.mem_cons.1 hl with rfl | hl
    · exact Nat.le_trans (stay_le _ _ _ _ _ (mostN_pos k i)) (mostN_le k i)
    · exact ih l hl
theorem flow_ne (k tick : Nat) (hk : 2 ≤ k) : ∀ ls i come many, (∀ l ∈ ls, l ≠ []) → ∀ l ∈ flowV k tick i ls come many, l ≠ [] := by
  refine flow_ind k tick (fun i ls come many => (∀ l ∈ ls, l ≠ []) → ∀ l ∈ flowV k tick i ls come many, l ≠ []) ?_ ?_
  · intro i come many h _ l hl; rw [flowV_nil h] at hl; cases hl
  · intro i ls come many h ih hne l hl
    rw [flowV_cons h] at hl
    rcases List.mem_cons.1 hl with rfl | hl
    · refine stay_ne _ _ _ _ _ (mostN_two hk i) ?_
      cases ls with
      | nil => simp only [true_and] at h; simp; omega
      | cons x r =>
        have := hne x List.mem_cons_self
        cases x with
        | nil => exact absurd rfl this
        | cons a b => simp; omega
    · exact ih (fun x hx => hne x (List.mem_of_mem_tail hx)) l hl
theorem tot_levels : ∀ (ls : List (List Span)) (i : Nat), (∀ l ∈ ls, l ≠ []) → 2 ^ (i + ls.length) ≤ totN i ls + 2 ^ i := by
  intro ls
  induction ls with
  | nil => intro i _; simp
  | cons l r ih =>
    intro i h
    have := ih (i + 1) (fun x hx => h x (List.mem_cons_of_mem _ hx))
    have hl : 1 ≤ l.length := by have := h l List.mem_cons_self; cases l with | nil => exact absurd rfl this | cons a b => simp
    have h2 := Nat.mul_le_mul_right (2 ^ i) hl
    simp only [totN, List.length_cons]
    rw [show i + (r.length + 1) = i + 1 + r.length by omega]
    rw [Nat.pow_succ 2 i] at this
    omega

/-- A histogram that came to be by adding alone. -/
structure Hist.Good (h : Hist) : Prop where
  k0 : 2 ≤ h.k
  k1 : h.k ≤ 1024
  ne : ∀ l ∈ h.ls, l ≠ []
  sm : ∀ l ∈ h.ls, l.length ≤ h.k.toNat + 2
  tot : totN 0 h.ls ≤ 4503599627370496
theorem Hist.Good.len {h : Hist} (g : h.Good) : h.ls.length ≤ 53 := by
  have := tot_levels h.ls 0 g.ne
  have h2 := g.tot
  apply Classical.byContradiction
  intro hc
  have : (2 : Nat) ^ 54 ≤ 2 ^ (0 + h.ls.length) := Nat.pow_le_pow_right (by decide) (by omega)
  have e : (2 : Nat) ^ 54 = 18014398509481984 := by decide
  omega
theorem addV_good {h : Hist} (g : h.Good) (t w : Nat) (e : (addV h.k.toNat h.g h.ls t w).2 = 0) : (addV h.k.toNat h.g h.ls t w).1.Good ∧ (addV h.k.toNat h.g h.ls t w).1.k = h.k ∧ (addV h.k.toNat h.g h.ls t w).1.g = h.g ∧ totN 0 (addV h.k.toNat h.g h.ls t w).1.ls = totN 0 h.ls + w := by
  obtain ⟨k, gg, ls⟩ := h
  obtain ⟨h1, h2, h3, h4, h5⟩ := g
  dsimp only at h1 h2 h3 h4 h5 e ⊢
  obtain ⟨k, rfl⟩ : ∃ k' : Nat, k = k' := ⟨k.toNat, by omega⟩
  rw [Int.toNat_natCast] at *
  unfold addV at e ⊢
  split
  · rename_i c; rw [if_pos c] at e; simp at e
  · rename_i c; rw [if_neg c] at e
    split
    · rename_i c; rw [if_pos c] at e; simp at e
    · rename_i c; rw [if_neg c] at e
      split
      · rename_i c; rw [if_pos c] at e; simp at e
      · rename_i c2
        have ht := flow_tot k t ls 0 [] w
        simp only [List.length_nil, Nat.zero_add, Nat.pow_zero, Nat.mul_one] at ht
        refine ⟨⟨h1, h2, flow_ne k t (by omega) ls 0 [] w h3, ?_, ?_⟩, rfl, rfl, ht⟩
        · intro l hl; rw [Int.toNat_natCast]; exact flow_small k t ls 0 [] w l hl
        · dsimp only; rw [ht]; omega
end Go.Sk
end

-- W15h
section
namespace Go.Sk
open Go Go.Proofs

theorem grid_Add (g : Grid) (e : Event) (hg : g.Ok) (hk : e.k < 18446744073709551616) (hw : e.w < 18446744073709551616) : Pure Try.prog 15 [g.av, e.av] (.tuple [(addG g e).1.av, i64 (addG g e).2]) := fun S => by
  refine (grid_Add0 g e hg hk hw S).frz ?_
  rintro x S' (⟨rfl, h1, h2, h3⟩ | ⟨bo, rb, h1, rfl, hR⟩)
  · refine ⟨_, S, Frz.forget h3, ?_, rfl⟩
    have : (addG g e).1 = zeroG := by rw [h2]
    rw [this]
  · refine ⟨_, S, (frz_rows hR (Sub.refl _) (i64 (addG g e).1.w) (.p (.sl ((addG g e).1.sd.map Seed.pv))) (i64 (addG g e).1.all.k) (i64 (addG g e).1.all.g) (.p (.sl ((addG g e).1.all.ls.map lvE))) (i64 0)).1, ?_, rfl⟩
    rw [h1]; rfl

set_option maxHeartbeats 1000000 in
theorem ref15_Add (g : Grid) (e : Event) (hg : g.Ok) (hk : e.k < 18446744073709551616) (hw : e.w < 18446744073709551616) : Pure Try.prog 17 [g.av, e.av] (.tuple [(addG g e).1.av, i64 (addG g e).2]) := fun S => by
  have hwt : ((g.w.toNat : Nat) : Int) = g.w := by have := hg.w1; omega
  have hwt1 : 1 ≤ g.w.toNat := by have := hg.w1; omega
  have hwt2 : g.w.toNat < 1048576 := by have := hg.w2; omega
  have hnn := hg.n
  have hsdn := hg.sd
  refine callR_of Try.func17 rfl rfl (xc_ok (bitB 75557863734711490330623) _ _ _ ?_)
  simp only [go_sem, decide_true, decide_false, Nat.lt_irrefl]
  refine alloc_intro fun c2 h2 => ?_
  simp only [go_sem, decide_true, decide_false, Nat.lt_irrefl]
  refine alloc_intro fun c3 h3 => ?_
  simp only [fresh_set] at h3
  simp only [go_sem, decide_true, decide_false, Nat.lt_irrefl, h3]
  refine alloc_intro fun c4 h4 => ?_
  simp only [fresh_set] at h4
  simp only [go_sem, decide_true, decide_false, Nat.lt_irrefl, h3, h4]
  refine (ref04_Key e.k).useA ?_
  by_cases ck : e.k < 2305843009213693951
  rotate_left
  · simp only [go_sem, decide_true, decide_false, Nat.lt_irrefl, ck, Bool.not_false, h4]
    have ha : addG g e = (zeroG, 7) := by unfold addG; rw [if_neg ck]
    (refine ⟨S, by (repeat (first | exact Sub.refl _ | refine Sub.setF ?_ (by first | assumption | exact And.right (by assumption) | exact And.right (And.right (by assumption)) | exact And.right (And.right (And.right (by assumption))) | exact And.right (And.right (And.right (And.right (by assumption)))) | exact And.right (And.right (And.right (And.right (And.right (by assumption))))) | exact And.right (And.right (And.right (And.right (And.right (And.right (by assumption)))))) | exact And.right (And.right (And.right (And.right (And.right (And.right (And.right (by assumption))))))) | exact And.right (And.right (And.right (And.right (And.right (And.right (And.right (And.right (by assumption)))))))) | exact And.right (And.right (And.right (And.right (And.right (And.right (And.right (And.right (And.right (by assumption)))))))))) | refine Sub.setV ?_ (by first | assumption | exact And.right (by assumption) | exact And.right (And.right (by assumption)) | exact And.right (And.right (And.right (by assumption))) | exact And.right (And.right (And.right (And.right (by assumption)))) | exact And.right (And.right (And.right (And.right (And.right (by assumption))))) | exact And.right (And.right (And.right (And.right (And.right (And.right (by assumption)))))) | exact And.right (And.right (And.right (And.right (And.right (And.right (And.right (by assumption))))))) | exact And.right (And.right (And.right (And.right (And.right (And.right (And.right (And.right (by assumption)))))))) | exact And.right (And.right (And.right (And.right (And.right (And.right (And.right (And.right (And.right (by assumption)))))))))))), ?_⟩); rw [ha]; simp [zeroG, zeroH]
  simp only [go_sem, decide_true, decide_false, Nat.lt_irrefl, ck, Bool.not_true, h3, h4]
  refine (ref06_addH g.all hg.all e.t e.w hw).useA ?_
  simp only [go_sem, decide_true, decide_false, Nat.lt_irrefl, h3, h4]
  refine alloc_intro fun c6 h6 => ?_
  simp only [fresh_set] at h6
  by_cases er : (addH g.all e.t e.w).2 = 0
  rotate_left
  · have eb : ((addH g.all e.t e.w).2 != 0) = true := by simpa using er
    have ha : addG g e = (zeroG, (addH g.all e.t e.w).2) := by
      have h0 : ¬ (rowsV g e 0).2 = 0 := er
      have h1 := rowsV_stop g e 0 h0 g.rows.length
      rw [Nat.zero_add] at h1
      unfold addG; rw [if_pos ck, h1, if_neg h0]; rfl
    simp only [go_sem, decide_true, decide_false, Nat.lt_irrefl, eb, h4, h6]
    (refine ⟨S, by (repeat (first | exact Sub.refl _ | refine Sub.setF ?_ (by first | assumption | exact And.right (by assumption) | exact And.right (And.right (by assumption)) | exact And.right (And.right (And.right (by assumption))) | exact And.right (And.right (And.right (And.right (by assumption)))) | exact And.right (And.right (And.right (And.right (And.right (by assumption))))) | exact And.right (And.right (And.right (And.right (And.right (And.right (by assumption)))))) | exact And.right (And.right (And.right (And.right (And.right (And.right (And.right (by assumption))))))) | exact And.right (And.right (And.right (And.right (And.right (And.right (And.right (And.right (by assumption)))))))) | exact And.right (And.right (And.right (And.right (And.right (And.right (And.right (And.right (And.right (by assumption)))))))))) | refine Sub.setV ?_ (by first | assumption | exact And.right (by assumption) | exact And.right (And.right (by assumption)) | exact And.right (And.right (And.right (by assumption))) | exact And.right (And.right (And.right (And.right (by assumption)))) | exact And.right (And.right (And.right (And.right (And.right (by assumption))))) | exact And.right (And.right (And.right (And.right (And.right (And.right (by assumption)))))) | exact And.right (And.right (And.right (And.right (And.right (And.right (And.right (by assumption))))))) | exact And.right (And.right (And.right (And.right (And.right (And.right (And.right (And.right (by assumption)))))))) | exact And.right (And.right (And.right (And.right (And.right (And.right (And.right (And.right (And.right (by assumption)))))))))))), ?_⟩); rw [ha]; simp [zeroG, zeroH]
  have eb : ((addH g.all e.t e.w).2 != 0) = false := by simpa using er
  simp only [go_sem, decide_true, decide_false, Nat.lt_irrefl, eb, h3, h4, h6]
  refine alloc_intro fun c8 h8 => ?_
  simp only [fresh_set] at h8
  simp only [go_sem, decide_true, decide_false, Nat.lt_irrefl, h3, h4, h6, h8]
  refine AWP.tipB c8 2 1 (cs := [i64 g.w, .p (.sl (g.sd.map Seed.pv)), .nils, i64 (addH g.all e.t e.w).1.k, i64 (addH g.all e.t e.w).1.g, .p (.sl ((addH g.all e.t e.w).1.ls.map lvE))]) (by simp only [go_sem, decide_true, decide_false, Nat.lt_irrefl, h8]) rfl fun kk hkk => ?_
  simp only [freshv_setr] at hkk
  simp only [List.set]
  have y2 : S (.r c2) = none := h2
  have y3 : S (.r c3) = none := h3.2
  have y4 : S (.r c4) = none := h4.2.2
  have y6 : S (.r c6) = none := h6.2.2.2
  have y8 : S (.r c8) = none := h8.2.2.2.2
  refine AWP.roam (ι := Nat × Option Nat) (fun y => y.1 ≤ g.rows.length ∧ (rowsV g e y.1).2 = 0)
    (fun y => ⟨Env.get [(2, .sp c2 0), (3, .sp c3 0), (4, .sp c4 0), (8, .sp c8 0), (9, i64 y.1)],
      (((((S.set (.r c2) (.cells [i64 g.w, .p (.sl (g.sd.map Seed.pv)), .p (.sl (g.rows.map rowE)), i64 g.all.k, i64 g.all.g, .p (.sl (g.all.ls.map lvE))])).set (.r c3) (.cells [u64 e.t, u64 e.k, u64 e.w])).set (.r c4) (.cells [i64 0, .nils, .nils, i64 0, i64 0, .nils]))).set (.v kk) (.tip 1 y.1 y.2)).set (.r c8) (.cells [i64 g.w, .p (.sl (g.sd.map Seed.pv)), .ts kk 1 y.2 (((rowsV g e y.1).1.take y.1).map rowE), i64 (addH g.all e.t e.w).1.k, i64 (addH g.all e.t e.w).1.g, .p (.sl ((addH g.all e.t e.w).1.ls.map lvE))]), 90, []⟩)
    (fun y => g.rows.length - y.1) (0, none) ⟨Nat.zero_le _, er⟩ ?_ ?_
  · refine le_of (by simp only [go_sem, decide_true, decide_false, Nat.lt_irrefl] <;> rfl) ?_ rfl rfl (by simp)
    ((try dsimp only); (repeat refine sub_set ?_ ?_) <;> first | ((repeat (first | exact Sub.refl _ | refine Sub.setF ?_ (by first | assumption | exact And.right (by assumption) | exact And.right (And.right (by assumption)) | exact And.right (And.right (And.right (by assumption))) | exact And.right (And.right (And.right (And.right (by assumption)))) | exact And.right (And.right (And.right (And.right (And.right (by assumption))))) | exact And.right (And.right (And.right (And.right (And.right (And.right (by assumption)))))) | exact And.right (And.right (And.right (And.right (And.right (And.right (And.right (by assumption))))))) | exact And.right (And.right (And.right (And.right (And.right (And.right (And.right (And.right (by assumption)))))))) | exact And.right (And.right (And.right (And.right (And.right (And.right (And.right (And.right (And.right (by assumption)))))))))) | refine Sub.setV ?_ (by first | assumption | exact And.right (by assumption) | exact And.right (And.right (by assumption)) | exact And.right (And.right (And.right (by assumption))) | exact And.right (And.right (And.right (And.right (by assumption)))) | exact And.right (And.right (And.right (And.right (And.right (by assumption))))) | exact And.right (And.right (And.right (And.right (And.right (And.right (by assumption)))))) | exact And.right (And.right (And.right (And.right (And.right (And.right (And.right (by assumption))))))) | exact And.right (And.right (And.right (And.right (And.right (And.right (And.right (And.right (by assumption)))))))) | exact And.right (And.right (And.right (And.right (And.right (And.right (And.right (And.right (And.right (by assumption)))))))))))); done) | (simp only [go_sem, decide_true, decide_false, Nat.lt_irrefl, h3, h4, h6, h8, hkk, List.take_zero, List.map_nil]; done) | (simp only [go_sem, decide_true, decide_false, Nat.lt_irrefl, h3, h4, h6, h8, hkk, List.take_zero, List.map_nil]; rfl) | rfl)
  rintro ⟨i, loc⟩ ⟨hi, he0⟩ ih
  dsimp only at hi he0 ⊢
  refine AWPH.step (AWP.seqA (xc_ok (bitB 75557863734711490330623) _ _ _ ?_))
  have hlen1 := rowsV_len g e i
  by_cases c : i < g.rows.length
  rotate_left
  · obtain rfl : i = g.rows.length := by clear h3 h4 h6 h8; omega
    simp only [go_sem, decide_true, decide_false, Nat.lt_irrefl, h3, h4, h6, h8, hsdn]
    have ha : addG g e = (⟨g.w, g.sd, (rowsV g e g.rows.length).1, (addH g.all e.t e.w).1⟩, 0) := by unfold addG; rw [if_pos ck, if_pos he0]
    refine ⟨S, Sub.set (Sub.set (Sub.set (Sub.set (Sub.set (Sub.set (Sub.refl _) y2 _) y3 _) y4 _) hkk _) y8 _) y4 _, Or.inl ⟨?_, rfl⟩⟩
    rw [ha, List.take_of_length_le (by rw [hlen1]; exact Nat.le_refl _)]
  simp only [go_sem, decide_true, decide_false, Nat.lt_irrefl, h3, h4, h6, h8, hsdn, c]
  have hcs : i < g.sd.length := by rw [hsdn]; exact c
  have hri : (rowsV g e i).1.getD i [] = g.rows[i] := by rw [rowsV_later g e i i (Nat.le_refl _)]; simp [List.getD_eq_getElem?_getD, c]
  have hrw : g.rows[i].length = g.w.toNat := hg.wid _ (List.getElem_mem c)
  have hrne : g.rows[i] ≠ [] := by intro e0; rw [e0] at hrw; simp at hrw; clear h3 h4 h6 h8; omega
  refine AWP.seqA (AWP.blockA (AWP.seqA (xc_ok (bitB 75557863734711490330623) _ _ _ ?_)))
  simp only [go_sem, decide_true, decide_false, Nat.lt_irrefl, h3, h4, h6, h8, ltN' c, getD_map' _ _ _ _ c, rowE_mk, rowP]
  have hrl1 : g.rows[i].length < 1048576 := by rw [hrw]; exact hwt2
  refine ⟨hist_len, by clear h3 h4 h6 h8; omega, by clear h3 h4 h6 h8; omega, own_intro (by simpa using hrne) fun b cap hb hcap => ?_⟩
  simp only [fresh_set, fresh_setv] at hb
  simp only [List.nil_append, List.length_map] at hcap ⊢
  simp only [go_sem, decide_true, decide_false, Nat.lt_irrefl, h3, h4, h6, h8, hb]
  refine AWP.seqA (AWP.draw2 (bitB 75557863734711490330623) mixed (by kernel_rfl) (fun j => i64 (colV g.sd[i] e.k g.w)) ?_)
  simp only [go_sem, decide_true, decide_false, Nat.lt_irrefl, h3, h4, h6, h8, hb, hcs, ltN' hcs, getD_map' _ _ _ _ hcs]
  refine ⟨(ref04_Column g.sd[i] e.k g.w (hg.so _ (List.getElem_mem hcs)) hk (by have := hg.w2; clear h3 h4 h6 h8 hb; omega)).draw, ?_⟩
  have hci : colV g.sd[i] e.k g.w = ((colN g e.k i : Nat) : Int) := by
    unfold colN
    rw [show g.sd.getD i default = g.sd[i] by simp [List.getD_eq_getElem?_getD, hcs], Int.toNat_of_nonneg (colV_nn _ _ _)]
  have hcb : colN g e.k i < g.w.toNat := colN_lt g hg.w1 e.k i
  simp only [go_sem, decide_true, decide_false, Nat.lt_irrefl, hci]
  have hcr : colN g e.k i < g.rows[i].length := by rw [hrw]; exact hcb
  have hok : (g.rows[i][colN g e.k i]).Ok := hg.hs _ (List.getElem_mem c) _ (List.getElem_mem hcr)
  have hzd : (g.rows[i]).getD (colN g e.k i) zeroH = g.rows[i][colN g e.k i] := by simp [List.getD_eq_getElem?_getD, hcr]
  have hse : rowsV g e (i + 1) = stepG g e i (rowsV g e i) := rfl
  unfold stepG at hse
  rw [if_pos he0, hri, hzd] at hse
  have hcut := flat_cut g.rows[i] (List.replicate ((cap - g.rows[i].length) * 3) .top) (colN g e.k i) hcr
  have hput := fun y => flat_put g.rows[i] (List.replicate ((cap - g.rows[i].length) * 3) .top) y (colN g e.k i) hcr
  have hlen3 : colN g e.k i * 3 + 3 ≤ (flatA (List.map Hist.cs g.rows[i]) ++ List.replicate ((cap - g.rows[i].length) * 3) AV.top).length := by rw [List.length_append, hflat_len]; clear h3 h4 h6 h8 hb; omega
  generalize g.rows[i][colN g e.k i] = hh at *
  generalize hX : addH hh e.t e.w = X at *
  refine AWP.seqA (AWP.draw2 (bitB 75557863734711490330623) mixed (by kernel_rfl) (fun j => .tuple [X.1.av, i64 X.2]) ?_)
  simp only [go_sem, decide_true, decide_false, Nat.lt_irrefl, h3, h4, h6, h8, hb, hcut]
  refine ⟨hcr, hlen3, (hX ▸ (ref06_addH hh hok e.t e.w hw)).draw, alloc_intro fun c12 h12 => ?_⟩
  simp only [fresh_set, fresh_setv] at h12
  simp only [go_sem, decide_true, decide_false, Nat.lt_irrefl, h3, h4, h6, h8, hb, h12]
  have hchk : i + 1 ≤ g.rows.length := c
  by_cases ex : X.2 = 0
  rotate_left
  · have exb : (X.2 != 0) = true := by simpa using ex
    have ha : addG g e = (zeroG, X.2) := by
      have h0 : ¬ (rowsV g e (i + 1)).2 = 0 := by rw [hse]; exact ex
      have h1 := rowsV_stop g e (i + 1) h0 (g.rows.length - (i + 1))
      rw [show i + 1 + (g.rows.length - (i + 1)) = g.rows.length by clear h3 h4 h6 h8 hb h12; omega] at h1
      unfold addG; rw [if_pos ck, h1, if_neg h0, hse]
    refine AWP.seqA (xc_ok (bitB 75557863734711490330623) _ _ _ ?_)
    simp only [go_sem, decide_true, decide_false, Nat.lt_irrefl, exb, h3, h4, h6, h8, hb, h12]
    have yb : S (.r b) = none := hb.2.2.2.2
    have y12 : S (.r c12) = none := h12.2.2.2.2.2
    refine ⟨S, ?_, ?_⟩
    · exact Sub.set (Sub.set (Sub.set (Sub.set (Sub.set (Sub.set (Sub.set (Sub.set (Sub.refl _) y2 _) y3 _) y4 _) hkk _) y8 _) yb _) y12 _) y4 _
    · rw [ha]; simp [zeroG, zeroH]
  have exb : (X.2 != 0) = false := by simpa using ex
  refine AWP.seqA (xc_ok (bitB 75557863734711490330623) _ _ _ ?_)
  simp only [go_sem, decide_true, decide_false, Nat.lt_irrefl, exb, h3, h4, h6, h8, hb, h12]
  refine AWP.seqA (xc_ok (bitB 75557863734711490330623) _ _ _ ?_)
  simp only [go_sem, decide_true, decide_false, Nat.lt_irrefl, h3, h4, h6, h8, hb, h12]
  refine ⟨hcr, hlen3, ?_⟩
  obtain ⟨T, hT⟩ : ∃ T, (((((S.set (.r c2) (.cells [i64 g.w, .p (.sl (g.sd.map Seed.pv)), .p (.sl (g.rows.map rowE)), i64 g.all.k, i64 g.all.g, .p (.sl (g.all.ls.map lvE))])).set (.r c3) (.cells [u64 e.t, u64 e.k, u64 e.w])).set (.r c4) (.cells [i64 0, .nils, .nils, i64 0, i64 0, .nils]))).set (.v kk) (.tip 1 i loc)).set (.r c8) (.cells [i64 g.w, .p (.sl (g.sd.map Seed.pv)), .ts kk 1 loc (((rowsV g e i).1.take i).map rowE), i64 (addH g.all e.t e.w).1.k, i64 (addH g.all e.t e.w).1.g, .p (.sl ((addH g.all e.t e.w).1.ls.map lvE))]) = T := ⟨_, rfl⟩
  have Tb : T (.r b) = none := by rw [← hT]; simp only [go_sem, decide_true, decide_false, Nat.lt_irrefl, hb]; exact hb.2.2.2.2
  have T12 : T (.r c12) = none := by rw [← hT]; simp only [go_sem, decide_true, decide_false, Nat.lt_irrefl, h12]; exact h12.2.2.2.2.2
  simp only [hT]
  obtain ⟨R, hR⟩ : ∃ R, g.rows[i].set (colN g e.k i) X.1 = R := ⟨_, rfl⟩
  have hRl : R.length = g.w.toNat := by rw [← hR, List.length_set]; exact hrw
  have hput' := hput X.1
  rw [hR] at hput'
  refine AWP.fz (s' := ⟨Env.get [(2, .sp c2 0), (3, .sp c3 0), (4, .sp c4 0), (8, .sp c8 0), (9, i64 i), (10, .p (rowP R))], T, 90, []⟩) ?_ (StFz.env (b := b) (m := g.w.toNat * 3) (cs := flatA (R.map Hist.cs) ++ List.replicate ((cap - g.rows[i].length) * 3) .top) ?_ ?_ ?_ ?_ (by simp))
  rotate_left
  · simp only [go_sem, decide_true, decide_false, Nat.lt_irrefl, h12]
    exact congrArg (fun z => some (Blk.cells z)) hput'
  · rw [List.length_append, hflat_len, hRl]; exact Nat.le_add_right _ _
  · intro q y hq
    have n1 : q ≠ .r b := by rintro rfl; rw [Tb] at hq; cases hq
    have n2 : q ≠ .r c12 := by rintro rfl; rw [T12] at hq; cases hq
    refine ⟨n1, Or.inl ?_⟩
    first
      | (rw [Store.set_other _ _ n2, Store.set_other _ _ n1]; exact hq)
      | (rw [Store.set_other _ _ n1, Store.set_other _ _ n2]; exact hq)
      | (rw [Store.set_other _ _ n1, Store.set_other _ _ n2, Store.set_other _ _ n1]; exact hq)
  · refine ⟨Or.inl (Or.inl (Or.inl (by simp only [go_sem, decide_true, decide_false, Nat.lt_irrefl]))), Or.inl (Or.inl (Or.inl (by simp only [go_sem, decide_true, decide_false, Nat.lt_irrefl]))), Or.inl (Or.inl (Or.inl (by simp only [go_sem, decide_true, decide_false, Nat.lt_irrefl]))), Or.inl (Or.inl (Or.inl (by simp only [go_sem, decide_true, decide_false, Nat.lt_irrefl]))), Or.inl (Or.inl (Or.inl (by simp only [go_sem, decide_true, decide_false, Nat.lt_irrefl]))), Or.inl (Or.inl (Or.inr (Or.inr ⟨3, 0, g.w.toNat, cap, R.map Hist.cs, ?_, by omega, rfl, by rw [List.length_map]; exact hRl, hist_len, ?_⟩))), trivial⟩
    · simp only [go_sem, decide_true, decide_false, Nat.lt_irrefl, hrw]
    · rw [List.drop_zero, List.take_append_of_le_length (by rw [hflat_len, hRl]; exact Nat.le_refl _), List.take_of_length_le (by rw [hflat_len, hRl]; exact Nat.le_refl _)]
  subst hT
  refine xc_ok (bitB 75557863734711490330623) _ _ _ ?_
  simp only [go_sem, decide_true, decide_false, Nat.lt_irrefl, h3, h4, h6, h8, hkk]
  have htk : (List.take i (rowsV g e i).1).length = i := by rw [List.length_take, hlen1]; exact Nat.min_eq_left hi
  have e5 : List.map rowE (List.take i (rowsV g e i).1) ++ [[rowP R]] = List.map rowE (List.take (i + 1) (rowsV g e (i + 1)).1) := by
    have hl2 : i < ((rowsV g e i).1.set i R).length := by rw [List.length_set, hlen1]; exact c
    rw [hse, hR]
    dsimp only
    rw [List.take_succ_eq_append_getElem hl2, List.map_append]
    congr 1
    · rw [List.take_set_of_le (Nat.le_refl _)]
    · simp [rowE]
  have hq : wi ((i : Int) + 1) = ((i + 1 : Nat) : Int) := wi_succ (show i < 4611686018427387904 by clear h3 h4 h6 h8 hb h12; omega)
  rw [htk]
  refine ⟨by rintro el rfl; rfl, rfl, row_len, by clear h3 h4 h6 h8 hb h12; omega, by clear h3 h4 h6 h8 hb h12; omega, grow_intro fun loc' => ?_⟩
  simp only [go_sem, decide_true, decide_false, Nat.lt_irrefl, h3, h4, h6, h8, hkk, e5]
  refine xc_ok (bitB 75557863734711490330623) _ _ _ ?_
  simp only [go_sem, decide_true, decide_false, Nat.lt_irrefl, hq]
  have hl3 : (List.take (i + 1) (rowsV g e (i + 1)).1).length = i + 1 := by
    rw [List.length_take, rowsV_len]; exact Nat.min_eq_left hchk
  rw [hl3]
  refine (ih (i + 1, loc') ⟨hchk, by rw [hse]; exact ex⟩ (by dsimp only; clear h3 h4 h6 h8 hb h12; omega)).back ?_ (by simp) ?_
  · ((try dsimp only); (repeat refine sub_set ?_ ?_) <;> first | ((repeat (first | exact Sub.refl _ | refine Sub.setF ?_ (by first | assumption | exact And.right (by assumption) | exact And.right (And.right (by assumption)) | exact And.right (And.right (And.right (by assumption))) | exact And.right (And.right (And.right (And.right (by assumption)))) | exact And.right (And.right (And.right (And.right (And.right (by assumption))))) | exact And.right (And.right (And.right (And.right (And.right (And.right (by assumption)))))) | exact And.right (And.right (And.right (And.right (And.right (And.right (And.right (by assumption))))))) | exact And.right (And.right (And.right (And.right (And.right (And.right (And.right (And.right (by assumption)))))))) | exact And.right (And.right (And.right (And.right (And.right (And.right (And.right (And.right (And.right (by assumption)))))))))) | refine Sub.setV ?_ (by first | assumption | exact And.right (by assumption) | exact And.right (And.right (by assumption)) | exact And.right (And.right (And.right (by assumption))) | exact And.right (And.right (And.right (And.right (by assumption)))) | exact And.right (And.right (And.right (And.right (And.right (by assumption))))) | exact And.right (And.right (And.right (And.right (And.right (And.right (by assumption)))))) | exact And.right (And.right (And.right (And.right (And.right (And.right (And.right (by assumption))))))) | exact And.right (And.right (And.right (And.right (And.right (And.right (And.right (And.right (by assumption)))))))) | exact And.right (And.right (And.right (And.right (And.right (And.right (And.right (And.right (And.right (by assumption)))))))))))); done) | (simp only [go_sem, decide_true, decide_false, Nat.lt_irrefl, h3, h4, h6, h8, hkk]; done) | (simp only [go_sem, decide_true, decide_false, Nat.lt_irrefl, h3, h4, h6, h8, hkk]; rfl) | rfl)
  · simp only [go_sem, decide_true, decide_false, Nat.lt_irrefl, hq]
end Go.Sk
end

-- W15i
section
namespace Go.Sk
open Go Go.Proofs

theorem hist_rep (l : List Hist) (j : Nat) (h : j < l.length) : List.map Hist.cs (l.take j) ++ [[.int .i64 (l[j]).k, .int .i64 (l[j]).g, .sl ((l[j]).ls.map lvE)]] = List.map Hist.cs (l.take (j + 1)) := by
  rw [List.take_succ_eq_append_getElem h, List.map_append]; rfl
theorem row_more (l : List (List Hist)) (j : Nat) (h : j < l.length) : List.map rowE (l.take j) ++ [[.sl ((l[j]).map Hist.cs)]] = List.map rowE (l.take (j + 1)) := by
  rw [List.take_succ_eq_append_getElem h, List.map_append]; rfl
theorem take_len {α : Type} {l : List α} {j : Nat} (h : j ≤ l.length) : (l.take j).length = j := by rw [List.length_take]; exact Nat.min_eq_left h

theorem hists (l : List Hist) (hn : l.length < 1048576) : Pure Try.prog 44 [.p (.sl (l.map Hist.cs))] (.p (.sl (l.map Hist.cs))) := fun S => by
  refine callR_of Try.func44 rfl rfl (xc_ok (bitB 285) _ _ _ ?_)
  simp only [go_sem, decide_true, decide_false, Nat.lt_irrefl]
  refine AWP.tip0 3 3 (by simp only [go_sem, decide_true, decide_false, Nat.lt_irrefl]) fun k hk => ?_
  simp only [go_sem, decide_true, decide_false, Nat.lt_irrefl]
  refine AWP.iterE (ι := Option Nat) (fun loc j => ⟨Env.get [(0, .p (.sl (l.map Hist.cs))), (3, .ts k 3 loc ((l.take j).map Hist.cs)), (4, i64 j)], S.set (.v k) (.tip 3 j loc), 31, []⟩) l.length none ?_ ?_ ?_
  · refine le_of (by simp only [go_sem, decide_true, decide_false, Nat.lt_irrefl, List.take_zero, List.map_nil] <;> rfl) ?_ rfl rfl (by simp)
    ((try dsimp only); (repeat refine sub_set ?_ ?_) <;> first | ((repeat (first | exact Sub.refl _ | refine Sub.setF ?_ (by first | assumption | exact And.right (by assumption) | exact And.right (And.right (by assumption)) | exact And.right (And.right (And.right (by assumption))) | exact And.right (And.right (And.right (And.right (by assumption)))) | exact And.right (And.right (And.right (And.right (And.right (by assumption))))) | exact And.right (And.right (And.right (And.right (And.right (And.right (by assumption)))))) | exact And.right (And.right (And.right (And.right (And.right (And.right (And.right (by assumption))))))) | exact And.right (And.right (And.right (And.right (And.right (And.right (And.right (And.right (by assumption)))))))) | exact And.right (And.right (And.right (And.right (And.right (And.right (And.right (And.right (And.right (by assumption)))))))))) | refine Sub.setV ?_ (by first | assumption | exact And.right (by assumption) | exact And.right (And.right (by assumption)) | exact And.right (And.right (And.right (by assumption))) | exact And.right (And.right (And.right (And.right (by assumption)))) | exact And.right (And.right (And.right (And.right (And.right (by assumption))))) | exact And.right (And.right (And.right (And.right (And.right (And.right (by assumption)))))) | exact And.right (And.right (And.right (And.right (And.right (And.right (And.right (by assumption))))))) | exact And.right (And.right (And.right (And.right (And.right (And.right (And.right (And.right (by assumption)))))))) | exact And.right (And.right (And.right (And.right (And.right (And.right (And.right (And.right (And.right (by assumption)))))))))))); done) | (simp only [go_sem, decide_true, decide_false, Nat.lt_irrefl, hk]; done) | (simp only [go_sem, decide_true, decide_false, Nat.lt_irrefl, hk]; rfl) | rfl)
  · intro j loc hj jh
    have hqj : wi ((j : Int) + 1) = ((j + 1 : Nat) : Int) := wi_succ (show j < 4611686018427387904 by omega)
    have htl : (l.take j).length = j := take_len (by omega)
    have htl1 : (l.take (j + 1)).length = j + 1 := take_len (by omega)
    refine AWPH.step (xc_ok (bitB 285) _ _ _ ?_)
    simp only [go_sem, decide_true, decide_false, Nat.lt_irrefl, hj, ltN' hj, getD_map' _ _ _ _ hj]
    refine AWP.draw2 (bitB 285) mixed (by kernel_rfl) (fun j => bl false) ?_
    simp only [go_sem, decide_true, decide_false, Nat.lt_irrefl, hj, ltN' hj, getD_map' _ _ _ _ hj, hk, List.length_map, htl]
    refine ⟨by rintro el rfl; rfl, hist_len, by omega, by omega, grow_intro fun loc' => ?_⟩
    simp only [go_sem, decide_true, decide_false, Nat.lt_irrefl, hk, hqj, hist_rep l j hj]
    refine (jh loc').back ?_ (by simp) ?_
    · ((try dsimp only); (repeat refine sub_set ?_ ?_) <;> first | ((repeat (first | exact Sub.refl _ | refine Sub.setF ?_ (by first | assumption | exact And.right (by assumption) | exact And.right (And.right (by assumption)) | exact And.right (And.right (And.right (by assumption))) | exact And.right (And.right (And.right (And.right (by assumption)))) | exact And.right (And.right (And.right (And.right (And.right (by assumption))))) | exact And.right (And.right (And.right (And.right (And.right (And.right (by assumption)))))) | exact And.right (And.right (And.right (And.right (And.right (And.right (And.right (by assumption))))))) | exact And.right (And.right (And.right (And.right (And.right (And.right (And.right (And.right (by assumption)))))))) | exact And.right (And.right (And.right (And.right (And.right (And.right (And.right (And.right (And.right (by assumption)))))))))) | refine Sub.setV ?_ (by first | assumption | exact And.right (by assumption) | exact And.right (And.right (by assumption)) | exact And.right (And.right (And.right (by assumption))) | exact And.right (And.right (And.right (And.right (by assumption)))) | exact And.right (And.right (And.right (And.right (And.right (by assumption))))) | exact And.right (And.right (And.right (And.right (And.right (And.right (by assumption)))))) | exact And.right (And.right (And.right (And.right (And.right (And.right (And.right (by assumption))))))) | exact And.right (And.right (And.right (And.right (And.right (And.right (And.right (And.right (by assumption)))))))) | exact And.right (And.right (And.right (And.right (And.right (And.right (And.right (And.right (And.right (by assumption)))))))))))); done) | (simp only [go_sem, decide_true, decide_false, Nat.lt_irrefl, hk, List.length_map, htl1, hist_rep l j hj]; done) | (simp only [go_sem, decide_true, decide_false, Nat.lt_irrefl, hk, List.length_map, htl1, hist_rep l j hj]; rfl) | rfl)
    · simp only [go_sem, decide_true, decide_false, Nat.lt_irrefl, hqj]
  · intro loc
    refine AWPH.step (xc_ok (bitB 285) _ _ _ ?_)
    simp only [go_sem, decide_true, decide_false, Nat.lt_irrefl, hk, List.take_length]
    refine ⟨S, Sub.set (Sub.refl _) hk _, ?_⟩
    simp
theorem theirs (l : List Hist) (hn : l.length < 1048576) : Pure Try.prog 39 [.p (.sl (l.map Hist.cs))] (.p (.sl (l.map Hist.cs))) := fun S => by
  refine callR_of Try.func39 rfl rfl (xc_ok (bitB 285) _ _ _ ?_)
  simp only [go_sem, decide_true, decide_false, Nat.lt_irrefl]
  refine AWP.tip0 3 3 (by simp only [go_sem, decide_true, decide_false, Nat.lt_irrefl]) fun k hk => ?_
  simp only [go_sem, decide_true, decide_false, Nat.lt_irrefl]
  refine AWP.iterE (ι := Option Nat) (fun loc j => ⟨Env.get [(0, .p (.sl (l.map Hist.cs))), (3, .ts k 3 loc ((l.take j).map Hist.cs)), (4, i64 j)], S.set (.v k) (.tip 3 j loc), 31, []⟩) l.length none ?_ ?_ ?_
  · refine le_of (by simp only [go_sem, decide_true, decide_false, Nat.lt_irrefl, List.take_zero, List.map_nil] <;> rfl) ?_ rfl rfl (by simp)
    ((try dsimp only); (repeat refine sub_set ?_ ?_) <;> first | ((repeat (first | exact Sub.refl _ | refine Sub.setF ?_ (by first | assumption | exact And.right (by assumption) | exact And.right (And.right (by assumption)) | exact And.right (And.right (And.right (by assumption))) | exact And.right (And.right (And.right (And.right (by assumption)))) | exact And.right (And.right (And.right (And.right (And.right (by assumption))))) | exact And.right (And.right (And.right (And.right (And.right (And.right (by assumption)))))) | exact And.right (And.right (And.right (And.right (And.right (And.right (And.right (by assumption))))))) | exact And.right (And.right (And.right (And.right (And.right (And.right (And.right (And.right (by assumption)))))))) | exact And.right (And.right (And.right (And.right (And.right (And.right (And.right (And.right (And.right (by assumption)))))))))) | refine Sub.setV ?_ (by first | assumption | exact And.right (by assumption) | exact And.right (And.right (by assumption)) | exact And.right (And.right (And.right (by assumption))) | exact And.right (And.right (And.right (And.right (by assumption)))) | exact And.right (And.right (And.right (And.right (And.right (by assumption))))) | exact And.right (And.right (And.right (And.right (And.right (And.right (by assumption)))))) | exact And.right (And.right (And.right (And.right (And.right (And.right (And.right (by assumption))))))) | exact And.right (And.right (And.right (And.right (And.right (And.right (And.right (And.right (by assumption)))))))) | exact And.right (And.right (And.right (And.right (And.right (And.right (And.right (And.right (And.right (by assumption)))))))))))); done) | (simp only [go_sem, decide_true, decide_false, Nat.lt_irrefl, hk]; done) | (simp only [go_sem, decide_true, decide_false, Nat.lt_irrefl, hk]; rfl) | rfl)
  · intro j loc hj jh
    have hqj : wi ((j : Int) + 1) = ((j + 1 : Nat) : Int) := wi_succ (show j < 4611686018427387904 by omega)
    have htl : (l.take j).length = j := take_len (by omega)
    have htl1 : (l.take (j + 1)).length = j + 1 := take_len (by omega)
    refine AWPH.step (xc_ok (bitB 285) _ _ _ ?_)
    simp only [go_sem, decide_true, decide_false, Nat.lt_irrefl, hj, ltN' hj, getD_map' _ _ _ _ hj]
    refine AWP.draw2 (bitB 285) mixed (by kernel_rfl) (fun j => bl false) ?_
    simp only [go_sem, decide_true, decide_false, Nat.lt_irrefl, hj, ltN' hj, getD_map' _ _ _ _ hj, hk, List.length_map, htl]
    refine ⟨by rintro el rfl; rfl, hist_len, by omega, by omega, grow_intro fun loc' => ?_⟩
    simp only [go_sem, decide_true, decide_false, Nat.lt_irrefl, hk, hqj, hist_rep l j hj]
    refine (jh loc').back ?_ (by simp) ?_
    · ((try dsimp only); (repeat refine sub_set ?_ ?_) <;> first | ((repeat (first | exact Sub.refl _ | refine Sub.setF ?_ (by first | assumption | exact And.right (by assumption) | exact And.right (And.right (by assumption)) | exact And.right (And.right (And.right (by assumption))) | exact And.right (And.right (And.right (And.right (by assumption)))) | exact And.right (And.right (And.right (And.right (And.right (by assumption))))) | exact And.right (And.right (And.right (And.right (And.right (And.right (by assumption)))))) | exact And.right (And.right (And.right (And.right (And.right (And.right (And.right (by assumption))))))) | exact And.right (And.right (And.right (And.right (And.right (And.right (And.right (And.right (by assumption)))))))) | exact And.right (And.right (And.right (And.right (And.right (And.right (And.right (And.right (And.right (by assumption)))))))))) | refine Sub.setV ?_ (by first | assumption | exact And.right (by assumption) | exact And.right (And.right (by assumption)) | exact And.right (And.right (And.right (by assumption))) | exact And.right (And.right (And.right (And.right (by assumption)))) | exact And.right (And.right (And.right (And.right (And.right (by assumption))))) | exact And.right (And.right (And.right (And.right (And.right (And.right (by assumption)))))) | exact And.right (And.right (And.right (And.right (And.right (And.right (And.right (by assumption))))))) | exact And.right (And.right (And.right (And.right (And.right (And.right (And.right (And.right (by assumption)))))))) | exact And.right (And.right (And.right (And.right (And.right (And.right (And.right (And.right (And.right (by assumption)))))))))))); done) | (simp only [go_sem, decide_true, decide_false, Nat.lt_irrefl, hk, List.length_map, htl1, hist_rep l j hj]; done) | (simp only [go_sem, decide_true, decide_false, Nat.lt_irrefl, hk, List.length_map, htl1, hist_rep l j hj]; rfl) | rfl)
    · simp only [go_sem, decide_true, decide_false, Nat.lt_irrefl, hqj]
  · intro loc
    refine AWPH.step (xc_ok (bitB 285) _ _ _ ?_)
    simp only [go_sem, decide_true, decide_false, Nat.lt_irrefl, hk, List.take_length]
    refine ⟨S, Sub.set (Sub.refl _) hk _, ?_⟩
    simp

structure Grid.Sz (g : Grid) : Prop where
  n : g.rows.length < 1048576
  w : ∀ r ∈ g.rows, r.length < 1048576
set_option maxHeartbeats 1000000 in
theorem laid (g : Grid) (hg : g.Sz) : Pure Try.prog 16 [g.av] g.av := fun S => by
  have hnn := hg.n
  refine callR_of Try.func16 rfl rfl (xc_ok (bitB 16777247) _ _ _ ?_)
  simp only [go_sem, decide_true, decide_false, Nat.lt_irrefl]
  refine alloc_intro fun c1 h1 => ?_
  simp only [go_sem, decide_true, decide_false, Nat.lt_irrefl]
  refine alloc_intro fun c2 h2 => ?_
  simp only [fresh_set] at h2
  simp only [go_sem, decide_true, decide_false, Nat.lt_irrefl, h2]
  refine alloc_intro fun c3 h3 => ?_
  simp only [fresh_set] at h3
  simp only [go_sem, decide_true, decide_false, Nat.lt_irrefl, h2, h3]
  have y1 : S (.r c1) = none := h1
  have y2 : S (.r c2) = none := h2.2
  have y3 : S (.r c3) = none := h3.2.2
  refine AWP.tipB c3 2 1 (cs := [i64 g.w, .p (.sl (g.sd.map Seed.pv)), .nils, i64 g.all.k, i64 g.all.g, .p (.sl (g.all.ls.map lvE))]) (by simp only [go_sem, decide_true, decide_false, Nat.lt_irrefl, h3]) rfl fun kk hkk => ?_
  simp only [freshv_setr] at hkk
  simp only [List.set]
  refine AWP.iterE (ι := Option Nat) (fun loc i => ⟨Env.get [(1, .sp c1 0), (2, .sp c2 0), (3, .sp c3 0), (4, i64 i)],
    ((((S.set (.r c1) (.cells [i64 g.w, .p (.sl (g.sd.map Seed.pv)), .p (.sl (g.rows.map rowE)), i64 g.all.k, i64 g.all.g, .p (.sl (g.all.ls.map lvE))])).set (.r c2) (.cells [i64 0, .nils, .nils, i64 0, i64 0, .nils])).set (.v kk) (.tip 1 i loc)).set (.r c3) (.cells [i64 g.w, .p (.sl (g.sd.map Seed.pv)), .ts kk 1 loc ((g.rows.take i).map rowE), i64 g.all.k, i64 g.all.g, .p (.sl (g.all.ls.map lvE))])), 39, []⟩) g.rows.length none ?_ ?_ ?_
  · refine le_of (by simp only [go_sem, decide_true, decide_false, Nat.lt_irrefl] <;> rfl) ?_ rfl rfl (by simp)
    ((try dsimp only); (repeat refine sub_set ?_ ?_) <;> first | ((repeat (first | exact Sub.refl _ | refine Sub.setF ?_ (by first | assumption | exact And.right (by assumption) | exact And.right (And.right (by assumption)) | exact And.right (And.right (And.right (by assumption))) | exact And.right (And.right (And.right (And.right (by assumption)))) | exact And.right (And.right (And.right (And.right (And.right (by assumption))))) | exact And.right (And.right (And.right (And.right (And.right (And.right (by assumption)))))) | exact And.right (And.right (And.right (And.right (And.right (And.right (And.right (by assumption))))))) | exact And.right (And.right (And.right (And.right (And.right (And.right (And.right (And.right (by assumption)))))))) | exact And.right (And.right (And.right (And.right (And.right (And.right (And.right (And.right (And.right (by assumption)))))))))) | refine Sub.setV ?_ (by first | assumption | exact And.right (by assumption) | exact And.right (And.right (by assumption)) | exact And.right (And.right (And.right (by assumption))) | exact And.right (And.right (And.right (And.right (by assumption)))) | exact And.right (And.right (And.right (And.right (And.right (by assumption))))) | exact And.right (And.right (And.right (And.right (And.right (And.right (by assumption)))))) | exact And.right (And.right (And.right (And.right (And.right (And.right (And.right (by assumption))))))) | exact And.right (And.right (And.right (And.right (And.right (And.right (And.right (And.right (by assumption)))))))) | exact And.right (And.right (And.right (And.right (And.right (And.right (And.right (And.right (And.right (by assumption)))))))))))); done) | (simp only [go_sem, decide_true, decide_false, Nat.lt_irrefl, h2, h3, hkk, List.take_zero, List.map_nil]; done) | (simp only [go_sem, decide_true, decide_false, Nat.lt_irrefl, h2, h3, hkk, List.take_zero, List.map_nil]; rfl) | rfl)
  · intro i loc hi ih
    have hq : wi ((i : Int) + 1) = ((i + 1 : Nat) : Int) := wi_succ (show i < 4611686018427387904 by clear h2 h3; omega)
    have htl : (g.rows.take i).length = i := take_len (by clear h2 h3; omega)
    have htl1 : (g.rows.take (i + 1)).length = i + 1 := take_len (by clear h2 h3; omega)
    refine AWPH.step (xc_ok (bitB 16777247) _ _ _ ?_)
    simp only [go_sem, decide_true, decide_false, Nat.lt_irrefl, h2, h3, hi, ltN' hi, getD_map' _ _ _ _ hi]
    refine AWP.draw2 (bitB 16777247) mixed (by kernel_rfl) (fun j => .p (.sl ((g.rows[i]).map Hist.cs))) ?_
    simp only [go_sem, decide_true, decide_false, Nat.lt_irrefl, h2, h3, hkk, hi, ltN' hi, getD_map' _ _ _ _ hi, rowE_mk, rowP, List.length_map, htl]
    refine ⟨(hists g.rows[i] (hg.w _ (List.getElem_mem hi))).draw, by rintro el rfl; rfl, row_len, by clear h2 h3; omega, by clear h2 h3; omega, grow_intro fun loc' => ?_⟩
    simp only [go_sem, decide_true, decide_false, Nat.lt_irrefl, h2, h3, hkk, hq, row_more g.rows i hi]
    refine (ih loc').back ?_ (by simp) ?_
    · ((try dsimp only); (repeat refine sub_set ?_ ?_) <;> first | ((repeat (first | exact Sub.refl _ | refine Sub.setF ?_ (by first | assumption | exact And.right (by assumption) | exact And.right (And.right (by assumption)) | exact And.right (And.right (And.right (by assumption))) | exact And.right (And.right (And.right (And.right (by assumption)))) | exact And.right (And.right (And.right (And.right (And.right (by assumption))))) | exact And.right (And.right (And.right (And.right (And.right (And.right (by assumption)))))) | exact And.right (And.right (And.right (And.right (And.right (And.right (And.right (by assumption))))))) | exact And.right (And.right (And.right (And.right (And.right (And.right (And.right (And.right (by assumption)))))))) | exact And.right (And.right (And.right (And.right (And.right (And.right (And.right (And.right (And.right (by assumption)))))))))) | refine Sub.setV ?_ (by first | assumption | exact And.right (by assumption) | exact And.right (And.right (by assumption)) | exact And.right (And.right (And.right (by assumption))) | exact And.right (And.right (And.right (And.right (by assumption)))) | exact And.right (And.right (And.right (And.right (And.right (by assumption))))) | exact And.right (And.right (And.right (And.right (And.right (And.right (by assumption)))))) | exact And.right (And.right (And.right (And.right (And.right (And.right (And.right (by assumption))))))) | exact And.right (And.right (And.right (And.right (And.right (And.right (And.right (And.right (by assumption)))))))) | exact And.right (And.right (And.right (And.right (And.right (And.right (And.right (And.right (And.right (by assumption)))))))))))); done) | (simp only [go_sem, decide_true, decide_false, Nat.lt_irrefl, h2, h3, hkk, List.length_map, htl1, row_more g.rows i hi]; done) | (simp only [go_sem, decide_true, decide_false, Nat.lt_irrefl, h2, h3, hkk, List.length_map, htl1, row_more g.rows i hi]; rfl) | rfl)
    · simp only [go_sem, decide_true, decide_false, Nat.lt_irrefl, hq]
  · intro loc
    refine AWPH.step (xc_ok (bitB 16777247) _ _ _ ?_)
    simp only [go_sem, decide_true, decide_false, Nat.lt_irrefl, h2, h3, hkk, List.take_length]
    refine ⟨S, ?_, ?_⟩
    · exact Sub.set (Sub.set (Sub.set (Sub.set (Sub.set (Sub.refl _) y1 _) y2 _) hkk _) y3 _) y2 _
    · simp
set_option maxHeartbeats 1000000 in
theorem back (g : Grid) (hg : g.Sz) : Pure Try.prog 12 [g.av] g.av := fun S => by
  have hnn := hg.n
  refine callR_of Try.func12 rfl rfl (xc_ok (bitB 16777247) _ _ _ ?_)
  simp only [go_sem, decide_true, decide_false, Nat.lt_irrefl]
  refine alloc_intro fun c1 h1 => ?_
  simp only [go_sem, decide_true, decide_false, Nat.lt_irrefl]
  refine alloc_intro fun c2 h2 => ?_
  simp only [fresh_set] at h2
  simp only [go_sem, decide_true, decide_false, Nat.lt_irrefl, h2]
  refine alloc_intro fun c3 h3 => ?_
  simp only [fresh_set] at h3
  simp only [go_sem, decide_true, decide_false, Nat.lt_irrefl, h2, h3]
  have y1 : S (.r c1) = none := h1
  have y2 : S (.r c2) = none := h2.2
  have y3 : S (.r c3) = none := h3.2.2
  refine AWP.tipB c3 2 1 (cs := [i64 g.w, .p (.sl (g.sd.map Seed.pv)), .nils, i64 g.all.k, i64 g.all.g, .p (.sl (g.all.ls.map lvE))]) (by simp only [go_sem, decide_true, decide_false, Nat.lt_irrefl, h3]) rfl fun kk hkk => ?_
  simp only [freshv_setr] at hkk
  simp only [List.set]
  refine AWP.iterE (ι := Option Nat) (fun loc i => ⟨Env.get [(1, .sp c1 0), (2, .sp c2 0), (3, .sp c3 0), (4, i64 i)],
    ((((S.set (.r c1) (.cells [i64 g.w, .p (.sl (g.sd.map Seed.pv)), .p (.sl (g.rows.map rowE)), i64 g.all.k, i64 g.all.g, .p (.sl (g.all.ls.map lvE))])).set (.r c2) (.cells [i64 0, .nils, .nils, i64 0, i64 0, .nils])).set (.v kk) (.tip 1 i loc)).set (.r c3) (.cells [i64 g.w, .p (.sl (g.sd.map Seed.pv)), .ts kk 1 loc ((g.rows.take i).map rowE), i64 g.all.k, i64 g.all.g, .p (.sl (g.all.ls.map lvE))])), 39, []⟩) g.rows.length none ?_ ?_ ?_
  · refine le_of (by simp only [go_sem, decide_true, decide_false, Nat.lt_irrefl] <;> rfl) ?_ rfl rfl (by simp)
    ((try dsimp only); (repeat refine sub_set ?_ ?_) <;> first | ((repeat (first | exact Sub.refl _ | refine Sub.setF ?_ (by first | assumption | exact And.right (by assumption) | exact And.right (And.right (by assumption)) | exact And.right (And.right (And.right (by assumption))) | exact And.right (And.right (And.right (And.right (by assumption)))) | exact And.right (And.right (And.right (And.right (And.right (by assumption))))) | exact And.right (And.right (And.right (And.right (And.right (And.right (by assumption)))))) | exact And.right (And.right (And.right (And.right (And.right (And.right (And.right (by assumption))))))) | exact And.right (And.right (And.right (And.right (And.right (And.right (And.right (And.right (by assumption)))))))) | exact And.right (And.right (And.right (And.right (And.right (And.right (And.right (And.right (And.right (by assumption)))))))))) | refine Sub.setV ?_ (by first | assumption | exact And.right (by assumption) | exact And.right (And.right (by assumption)) | exact And.right (And.right (And.right (by assumption))) | exact And.right (And.right (And.right (And.right (by assumption)))) | exact And.right (And.right (And.right (And.right (And.right (by assumption))))) | exact And.right (And.right (And.right (And.right (And.right (And.right (by assumption)))))) | exact And.right (And.right (And.right (And.right (And.right (And.right (And.right (by assumption))))))) | exact And.right (And.right (And.right (And.right (And.right (And.right (And.right (And.right (by assumption)))))))) | exact And.right (And.right (And.right (And.right (And.right (And.right (And.right (And.right (And.right (by assumption)))))))))))); done) | (simp only [go_sem, decide_true, decide_false, Nat.lt_irrefl, h2, h3, hkk, List.take_zero, List.map_nil]; done) | (simp only [go_sem, decide_true, decide_false, Nat.lt_irrefl, h2, h3, hkk, List.take_zero, List.map_nil]; rfl) | rfl)
  · intro i loc hi ih
    have hq : wi ((i : Int) + 1) = ((i + 1 : Nat) : Int) := wi_succ (show i < 4611686018427387904 by clear h2 h3; omega)
    have htl : (g.rows.take i).length = i := take_len (by clear h2 h3; omega)
    have htl1 : (g.rows.take (i + 1)).length = i + 1 := take_len (by clear h2 h3; omega)
    refine AWPH.step (xc_ok (bitB 16777247) _ _ _ ?_)
    simp only [go_sem, decide_true, decide_false, Nat.lt_irrefl, h2, h3, hi, ltN' hi, getD_map' _ _ _ _ hi]
    refine AWP.draw2 (bitB 16777247) mixed (by kernel_rfl) (fun j => .p (.sl ((g.rows[i]).map Hist.cs))) ?_
    simp only [go_sem, decide_true, decide_false, Nat.lt_irrefl, h2, h3, hkk, hi, ltN' hi, getD_map' _ _ _ _ hi, rowE_mk, rowP, List.length_map, htl]
    refine ⟨(theirs g.rows[i] (hg.w _ (List.getElem_mem hi))).draw, by rintro el rfl; rfl, row_len, by clear h2 h3; omega, by clear h2 h3; omega, grow_intro fun loc' => ?_⟩
    simp only [go_sem, decide_true, decide_false, Nat.lt_irrefl, h2, h3, hkk, hq, row_more g.rows i hi]
    refine (ih loc').back ?_ (by simp) ?_
    · ((try dsimp only); (repeat refine sub_set ?_ ?_) <;> first | ((repeat (first | exact Sub.refl _ | refine Sub.setF ?_ (by first | assumption | exact And.right (by assumption) | exact And.right (And.right (by assumption)) | exact And.right (And.right (And.right (by assumption))) | exact And.right (And.right (And.right (And.right (by assumption)))) | exact And.right (And.right (And.right (And.right (And.right (by assumption))))) | exact And.right (And.right (And.right (And.right (And.right (And.right (by assumption)))))) | exact And.right (And.right (And.right (And.right (And.right (And.right (And.right (by assumption))))))) | exact And.right (And.right (And.right (And.right (And.right (And.right (And.right (And.right (by assumption)))))))) | exact And.right (And.right (And.right (And.right (And.right (And.right (And.right (And.right (And.right (by assumption)))))))))) | refine Sub.setV ?_ (by first | assumption | exact And.right (by assumption) | exact And.right (And.right (by assumption)) | exact And.right (And.right (And.right (by assumption))) | exact And.right (And.right (And.right (And.right (by assumption)))) | exact And.right (And.right (And.right (And.right (And.right (by assumption))))) | exact And.right (And.right (And.right (And.right (And.right (And.right (by assumption)))))) | exact And.right (And.right (And.right (And.right (And.right (And.right (And.right (by assumption))))))) | exact And.right (And.right (And.right (And.right (And.right (And.right (And.right (And.right (by assumption)))))))) | exact And.right (And.right (And.right (And.right (And.right (And.right (And.right (And.right (And.right (by assumption)))))))))))); done) | (simp only [go_sem, decide_true, decide_false, Nat.lt_irrefl, h2, h3, hkk, List.length_map, htl1, row_more g.rows i hi]; done) | (simp only [go_sem, decide_true, decide_false, Nat.lt_irrefl, h2, h3, hkk, List.length_map, htl1, row_more g.rows i hi]; rfl) | rfl)
    · simp only [go_sem, decide_true, decide_false, Nat.lt_irrefl, hq]
  · intro loc
    refine AWPH.step (xc_ok (bitB 16777247) _ _ _ ?_)
    simp only [go_sem, decide_true, decide_false, Nat.lt_irrefl, h2, h3, hkk, List.take_length]
    refine ⟨S, ?_, ?_⟩
    · exact Sub.set (Sub.set (Sub.set (Sub.set (Sub.set (Sub.refl _) y1 _) y2 _) hkk _) y3 _) y2 _
    · simp

noncomputable def rowV (g : Grid) (row : Int) (x t n : Nat) : Nat :=
  if 0 ≤ row ∧ row < g.rows.length ∧ x < 2305843009213693951 then estV ((g.rows.getD row.toNat []).getD (colN g x row.toNat) zeroH).ls t n else 0
theorem Hist.Ok.sm {h : Hist} (ok : h.Ok) : h.ls.length < 1099511627776 ∧ ∀ l ∈ h.ls, l.length < 1099511627776 := ⟨by have := ok.ls; omega, fun l hl => by have := ok.ll l hl; omega⟩
set_option maxHeartbeats 1000000 in
theorem grid_Row (g : Grid) (hg : g.Ok) (row : Int) (x t n : Nat) (hx : x < 18446744073709551616) : Pure Try.prog 18 [g.av, i64 row, u64 x, u64 t, u64 n] (u64 (rowV g row x t n)) := fun S => by
  refine callR_of Try.func18 rfl rfl (xc_ok (bitB 16778303) _ _ _ ?_)
  simp only [go_sem, decide_true, decide_false, Nat.lt_irrefl]
  refine alloc_intro fun c5 h5 => ?_
  by_cases a1 : row < 0
  · simp only [go_sem, decide_true, decide_false, Nat.lt_irrefl, a1]
    (refine ⟨S, by (repeat (first | exact Sub.refl _ | refine Sub.setF ?_ (by first | assumption | exact And.right (by assumption) | exact And.right (And.right (by assumption)) | exact And.right (And.right (And.right (by assumption))) | exact And.right (And.right (And.right (And.right (by assumption)))) | exact And.right (And.right (And.right (And.right (And.right (by assumption))))) | exact And.right (And.right (And.right (And.right (And.right (And.right (by assumption)))))) | exact And.right (And.right (And.right (And.right (And.right (And.right (And.right (by assumption))))))) | exact And.right (And.right (And.right (And.right (And.right (And.right (And.right (And.right (by assumption)))))))) | exact And.right (And.right (And.right (And.right (And.right (And.right (And.right (And.right (And.right (by assumption)))))))))) | refine Sub.setV ?_ (by first | assumption | exact And.right (by assumption) | exact And.right (And.right (by assumption)) | exact And.right (And.right (And.right (by assumption))) | exact And.right (And.right (And.right (And.right (by assumption)))) | exact And.right (And.right (And.right (And.right (And.right (by assumption))))) | exact And.right (And.right (And.right (And.right (And.right (And.right (by assumption)))))) | exact And.right (And.right (And.right (And.right (And.right (And.right (And.right (by assumption))))))) | exact And.right (And.right (And.right (And.right (And.right (And.right (And.right (And.right (by assumption)))))))) | exact And.right (And.right (And.right (And.right (And.right (And.right (And.right (And.right (And.right (by assumption)))))))))))), ?_⟩); simp [rowV, show ¬ 0 ≤ row by omega]
  by_cases a2 : row ≥ g.rows.length
  · simp only [go_sem, decide_true, decide_false, Nat.lt_irrefl, a1, a2, List.length_map]
    (refine ⟨S, by (repeat (first | exact Sub.refl _ | refine Sub.setF ?_ (by first | assumption | exact And.right (by assumption) | exact And.right (And.right (by assumption)) | exact And.right (And.right (And.right (by assumption))) | exact And.right (And.right (And.right (And.right (by assumption)))) | exact And.right (And.right (And.right (And.right (And.right (by assumption))))) | exact And.right (And.right (And.right (And.right (And.right (And.right (by assumption)))))) | exact And.right (And.right (And.right (And.right (And.right (And.right (And.right (by assumption))))))) | exact And.right (And.right (And.right (And.right (And.right (And.right (And.right (And.right (by assumption)))))))) | exact And.right (And.right (And.right (And.right (And.right (And.right (And.right (And.right (And.right (by assumption)))))))))) | refine Sub.setV ?_ (by first | assumption | exact And.right (by assumption) | exact And.right (And.right (by assumption)) | exact And.right (And.right (And.right (by assumption))) | exact And.right (And.right (And.right (And.right (by assumption)))) | exact And.right (And.right (And.right (And.right (And.right (by assumption))))) | exact And.right (And.right (And.right (And.right (And.right (And.right (by assumption)))))) | exact And.right (And.right (And.right (And.right (And.right (And.right (And.right (by assumption))))))) | exact And.right (And.right (And.right (And.right (And.right (And.right (And.right (And.right (by assumption)))))))) | exact And.right (And.right (And.right (And.right (And.right (And.right (And.right (And.right (And.right (by assumption)))))))))))), ?_⟩); simp [rowV, show ¬ row < g.rows.length by omega]
  simp only [go_sem, decide_true, decide_false, Nat.lt_irrefl, a1, a2, List.length_map]
  refine (hash_Key x).useA ?_
  by_cases a3 : x < 2305843009213693951
  rotate_left
  · simp only [go_sem, decide_true, decide_false, Nat.lt_irrefl, a3, Bool.not_false]
    (refine ⟨S, by (repeat (first | exact Sub.refl _ | refine Sub.setF ?_ (by first | assumption | exact And.right (by assumption) | exact And.right (And.right (by assumption)) | exact And.right (And.right (And.right (by assumption))) | exact And.right (And.right (And.right (And.right (by assumption)))) | exact And.right (And.right (And.right (And.right (And.right (by assumption))))) | exact And.right (And.right (And.right (And.right (And.right (And.right (by assumption)))))) | exact And.right (And.right (And.right (And.right (And.right (And.right (And.right (by assumption))))))) | exact And.right (And.right (And.right (And.right (And.right (And.right (And.right (And.right (by assumption)))))))) | exact And.right (And.right (And.right (And.right (And.right (And.right (And.right (And.right (And.right (by assumption)))))))))) | refine Sub.setV ?_ (by first | assumption | exact And.right (by assumption) | exact And.right (And.right (by assumption)) | exact And.right (And.right (And.right (by assumption))) | exact And.right (And.right (And.right (And.right (by assumption)))) | exact And.right (And.right (And.right (And.right (And.right (by assumption))))) | exact And.right (And.right (And.right (And.right (And.right (And.right (by assumption)))))) | exact And.right (And.right (And.right (And.right (And.right (And.right (And.right (by assumption))))))) | exact And.right (And.right (And.right (And.right (And.right (And.right (And.right (And.right (by assumption)))))))) | exact And.right (And.right (And.right (And.right (And.right (And.right (And.right (And.right (And.right (by assumption)))))))))))), ?_⟩); simp [rowV, a3]
  simp only [go_sem, decide_true, decide_false, Nat.lt_irrefl, a3, Bool.not_true]
  obtain ⟨i, rfl⟩ : ∃ i : Nat, row = i := ⟨row.toNat, by omega⟩
  have hi : i < g.rows.length := by omega
  have hcs : i < g.sd.length := by rw [hg.sd]; exact hi
  have hci : colV g.sd[i] x g.w = ((colN g x i : Nat) : Int) := by
    unfold colN
    rw [show g.sd.getD i default = g.sd[i] by simp [List.getD_eq_getElem?_getD, hcs], Int.toNat_of_nonneg (colV_nn _ _ _)]
  have hcr : colN g x i < g.rows[i].length := by rw [hg.wid _ (List.getElem_mem hi)]; exact colN_lt g hg.w1 x i
  have hok := (hg.hs _ (List.getElem_mem hi) _ (List.getElem_mem hcr)).sm
  have hrv : rowV g i x t n = estV (g.rows[i][colN g x i]).ls t n := by
    unfold rowV
    rw [if_pos ⟨by omega, by omega, a3⟩, Int.toNat_natCast, show g.rows.getD i [] = g.rows[i] by simp [List.getD_eq_getElem?_getD, hi], show (g.rows[i]).getD (colN g x i) zeroH = g.rows[i][colN g x i] by simp [List.getD_eq_getElem?_getD, hcr]]
  have hw2 := hg.w2
  refine AWP.draw2 (bitB 16778303) mixed (by kernel_rfl) (fun j => if j = 13 then i64 (colN g x i) else u64 (rowV g i x t n)) ?_
  simp only [go_sem, decide_true, decide_false, Nat.lt_irrefl, hi, ltN' hi, hcs, ltN' hcs, getD_map' _ _ _ _ hi, getD_map' _ _ _ _ hcs, rowE_mk, rowP]
  refine ⟨hci ▸ (hash_Column g.sd[i] x g.w (hg.so _ (List.getElem_mem hcs)) hx (by omega)).draw, ?_⟩
  simp only [go_sem, decide_true, decide_false, Nat.lt_irrefl, ltN' hcr, hcr, getD_map' _ _ _ _ hcr]
  refine ⟨hrv ▸ (est_Of (g.rows[i][colN g x i]).k (g.rows[i][colN g x i]).g (g.rows[i][colN g x i]).ls t n hok.1 hok.2).draw, ?_⟩
  (refine ⟨S, by (repeat (first | exact Sub.refl _ | refine Sub.setF ?_ (by first | assumption | exact And.right (by assumption) | exact And.right (And.right (by assumption)) | exact And.right (And.right (And.right (by assumption))) | exact And.right (And.right (And.right (And.right (by assumption)))) | exact And.right (And.right (And.right (And.right (And.right (by assumption))))) | exact And.right (And.right (And.right (And.right (And.right (And.right (by assumption)))))) | exact And.right (And.right (And.right (And.right (And.right (And.right (And.right (by assumption))))))) | exact And.right (And.right (And.right (And.right (And.right (And.right (And.right (And.right (by assumption)))))))) | exact And.right (And.right (And.right (And.right (And.right (And.right (And.right (And.right (And.right (by assumption)))))))))) | refine Sub.setV ?_ (by first | assumption | exact And.right (by assumption) | exact And.right (And.right (by assumption)) | exact And.right (And.right (And.right (by assumption))) | exact And.right (And.right (And.right (And.right (by assumption)))) | exact And.right (And.right (And.right (And.right (And.right (by assumption))))) | exact And.right (And.right (And.right (And.right (And.right (And.right (by assumption)))))) | exact And.right (And.right (And.right (And.right (And.right (And.right (And.right (by assumption))))))) | exact And.right (And.right (And.right (And.right (And.right (And.right (And.right (And.right (by assumption)))))))) | exact And.right (And.right (And.right (And.right (And.right (And.right (And.right (And.right (And.right (by assumption)))))))))))), ?_⟩); simp
theorem ref15_Row (g : Grid) (hg : g.Ok) (row : Int) (x t n : Nat) (hx : x < 18446744073709551616) : Pure Try.prog 19 [g.av, i64 row, u64 x, u64 t, u64 n] (u64 (rowV g row x t n)) := fun S => by
  refine callR_of Try.func19 rfl rfl (xc_ok (bitB 33557567) _ _ _ ?_)
  simp only [go_sem, decide_true, decide_false, Nat.lt_irrefl]
  refine alloc_intro fun c5 h5 => ?_
  by_cases a1 : row < 0
  · simp only [go_sem, decide_true, decide_false, Nat.lt_irrefl, a1]
    (refine ⟨S, by (repeat (first | exact Sub.refl _ | refine Sub.setF ?_ (by first | assumption | exact And.right (by assumption) | exact And.right (And.right (by assumption)) | exact And.right (And.right (And.right (by assumption))) | exact And.right (And.right (And.right (And.right (by assumption)))) | exact And.right (And.right (And.right (And.right (And.right (by assumption))))) | exact And.right (And.right (And.right (And.right (And.right (And.right (by assumption)))))) | exact And.right (And.right (And.right (And.right (And.right (And.right (And.right (by assumption))))))) | exact And.right (And.right (And.right (And.right (And.right (And.right (And.right (And.right (by assumption)))))))) | exact And.right (And.right (And.right (And.right (And.right (And.right (And.right (And.right (And.right (by assumption)))))))))) | refine Sub.setV ?_ (by first | assumption | exact And.right (by assumption) | exact And.right (And.right (by assumption)) | exact And.right (And.right (And.right (by assumption))) | exact And.right (And.right (And.right (And.right (by assumption)))) | exact And.right (And.right (And.right (And.right (And.right (by assumption))))) | exact And.right (And.right (And.right (And.right (And.right (And.right (by assumption)))))) | exact And.right (And.right (And.right (And.right (And.right (And.right (And.right (by assumption))))))) | exact And.right (And.right (And.right (And.right (And.right (And.right (And.right (And.right (by assumption)))))))) | exact And.right (And.right (And.right (And.right (And.right (And.right (And.right (And.right (And.right (by assumption)))))))))))), ?_⟩); simp [rowV, show ¬ 0 ≤ row by omega]
  by_cases a2 : row ≥ g.rows.length
  · simp only [go_sem, decide_true, decide_false, Nat.lt_irrefl, a1, a2, List.length_map]
    (refine ⟨S, by (repeat (first | exact Sub.refl _ | refine Sub.setF ?_ (by first | assumption | exact And.right (by assumption) | exact And.right (And.right (by assumption)) | exact And.right (And.right (And.right (by assumption))) | exact And.right (And.right (And.right (And.right (by assumption)))) | exact And.right (And.right (And.right (And.right (And.right (by assumption))))) | exact And.right (And.right (And.right (And.right (And.right (And.right (by assumption)))))) | exact And.right (And.right (And.right (And.right (And.right (And.right (And.right (by assumption))))))) | exact And.right (And.right (And.right (And.right (And.right (And.right (And.right (And.right (by assumption)))))))) | exact And.right (And.right (And.right (And.right (And.right (And.right (And.right (And.right (And.right (by assumption)))))))))) | refine Sub.setV ?_ (by first | assumption | exact And.right (by assumption) | exact And.right (And.right (by assumption)) | exact And.right (And.right (And.right (by assumption))) | exact And.right (And.right (And.right (And.right (by assumption)))) | exact And.right (And.right (And.right (And.right (And.right (by assumption))))) | exact And.right (And.right (And.right (And.right (And.right (And.right (by assumption)))))) | exact And.right (And.right (And.right (And.right (And.right (And.right (And.right (by assumption))))))) | exact And.right (And.right (And.right (And.right (And.right (And.right (And.right (And.right (by assumption)))))))) | exact And.right (And.right (And.right (And.right (And.right (And.right (And.right (And.right (And.right (by assumption)))))))))))), ?_⟩); simp [rowV, show ¬ row < g.rows.length by omega]
  simp only [go_sem, decide_true, decide_false, Nat.lt_irrefl, a1, a2, List.length_map]
  refine (ref04_Key x).useA ?_
  by_cases a3 : x < 2305843009213693951
  rotate_left
  · simp only [go_sem, decide_true, decide_false, Nat.lt_irrefl, a3, Bool.not_false]
    (refine ⟨S, by (repeat (first | exact Sub.refl _ | refine Sub.setF ?_ (by first | assumption | exact And.right (by assumption) | exact And.right (And.right (by assumption)) | exact And.right (And.right (And.right (by assumption))) | exact And.right (And.right (And.right (And.right (by assumption)))) | exact And.right (And.right (And.right (And.right (And.right (by assumption))))) | exact And.right (And.right (And.right (And.right (And.right (And.right (by assumption)))))) | exact And.right (And.right (And.right (And.right (And.right (And.right (And.right (by assumption))))))) | exact And.right (And.right (And.right (And.right (And.right (And.right (And.right (And.right (by assumption)))))))) | exact And.right (And.right (And.right (And.right (And.right (And.right (And.right (And.right (And.right (by assumption)))))))))) | refine Sub.setV ?_ (by first | assumption | exact And.right (by assumption) | exact And.right (And.right (by assumption)) | exact And.right (And.right (And.right (by assumption))) | exact And.right (And.right (And.right (And.right (by assumption)))) | exact And.right (And.right (And.right (And.right (And.right (by assumption))))) | exact And.right (And.right (And.right (And.right (And.right (And.right (by assumption)))))) | exact And.right (And.right (And.right (And.right (And.right (And.right (And.right (by assumption))))))) | exact And.right (And.right (And.right (And.right (And.right (And.right (And.right (And.right (by assumption)))))))) | exact And.right (And.right (And.right (And.right (And.right (And.right (And.right (And.right (And.right (by assumption)))))))))))), ?_⟩); simp [rowV, a3]
  simp only [go_sem, decide_true, decide_false, Nat.lt_irrefl, a3, Bool.not_true]
  obtain ⟨i, rfl⟩ : ∃ i : Nat, row = i := ⟨row.toNat, by omega⟩
  have hi : i < g.rows.length := by omega
  have hcs : i < g.sd.length := by rw [hg.sd]; exact hi
  have hci : colV g.sd[i] x g.w = ((colN g x i : Nat) : Int) := by
    unfold colN
    rw [show g.sd.getD i default = g.sd[i] by simp [List.getD_eq_getElem?_getD, hcs], Int.toNat_of_nonneg (colV_nn _ _ _)]
  have hcr : colN g x i < g.rows[i].length := by rw [hg.wid _ (List.getElem_mem hi)]; exact colN_lt g hg.w1 x i
  have hok := (hg.hs _ (List.getElem_mem hi) _ (List.getElem_mem hcr)).sm
  have hrv : rowV g i x t n = estV (g.rows[i][colN g x i]).ls t n := by
    unfold rowV
    rw [if_pos ⟨by omega, by omega, a3⟩, Int.toNat_natCast, show g.rows.getD i [] = g.rows[i] by simp [List.getD_eq_getElem?_getD, hi], show (g.rows[i]).getD (colN g x i) zeroH = g.rows[i][colN g x i] by simp [List.getD_eq_getElem?_getD, hcr]]
  have hw2 := hg.w2
  refine AWP.draw2 (bitB 33557567) mixed (by kernel_rfl) (fun j => i64 (colN g x i)) ?_
  simp only [go_sem, decide_true, decide_false, Nat.lt_irrefl, hcs, ltN' hcs, getD_map' _ _ _ _ hcs]
  refine ⟨hci ▸ (ref04_Column g.sd[i] x g.w (hg.so _ (List.getElem_mem hcs)) hx (by omega)).draw, ?_⟩
  simp only [go_sem, decide_true, decide_false, Nat.lt_irrefl, hi, ltN' hi, getD_map' _ _ _ _ hi, rowE_mk, rowP, ltN' hcr, hcr, getD_map' _ _ _ _ hcr]
  refine (hrv ▸ (ref08_Of (g.rows[i][colN g x i]).k (g.rows[i][colN g x i]).g (g.rows[i][colN g x i]).ls t n hok.1 hok.2)).useA ?_
  simp only [go_sem, decide_true, decide_false, Nat.lt_irrefl]
  (refine ⟨S, by (repeat (first | exact Sub.refl _ | refine Sub.setF ?_ (by first | assumption | exact And.right (by assumption) | exact And.right (And.right (by assumption)) | exact And.right (And.right (And.right (by assumption))) | exact And.right (And.right (And.right (And.right (by assumption)))) | exact And.right (And.right (And.right (And.right (And.right (by assumption))))) | exact And.right (And.right (And.right (And.right (And.right (And.right (by assumption)))))) | exact And.right (And.right (And.right (And.right (And.right (And.right (And.right (by assumption))))))) | exact And.right (And.right (And.right (And.right (And.right (And.right (And.right (And.right (by assumption)))))))) | exact And.right (And.right (And.right (And.right (And.right (And.right (And.right (And.right (And.right (by assumption)))))))))) | refine Sub.setV ?_ (by first | assumption | exact And.right (by assumption) | exact And.right (And.right (by assumption)) | exact And.right (And.right (And.right (by assumption))) | exact And.right (And.right (And.right (And.right (by assumption)))) | exact And.right (And.right (And.right (And.right (And.right (by assumption))))) | exact And.right (And.right (And.right (And.right (And.right (And.right (by assumption)))))) | exact And.right (And.right (And.right (And.right (And.right (And.right (And.right (by assumption))))))) | exact And.right (And.right (And.right (And.right (And.right (And.right (And.right (And.right (by assumption)))))))) | exact And.right (And.right (And.right (And.right (And.right (And.right (And.right (And.right (And.right (by assumption)))))))))))), ?_⟩); simp
end Go.Sk
end

-- W15j
section
namespace Go.Sk
open Go Go.Proofs

structure Conf2 where (k w : Int) (sd : List Seed)
  deriving Inhabited
def Conf2.cs (c : Conf2) : List PV := [.int .i64 c.k, .int .i64 c.w, .sl (c.sd.map Seed.pv)]
def Conf2.av (c : Conf2) : AV := .agg (c.cs.map .p)
attribute [go_sem] Conf2.cs Conf2.av
def tameE (s : Seed) : Seed := ⟨1 + s.a % 2305843009213693950, s.b % 2305843009213693951⟩
def tameS (c : Conf2) : List Seed := if (c.sd.take 4).map tameE = [] then [⟨3, 1⟩] else (c.sd.take 4).map tameE
def tameK (c : Conf2) : Int := 2 + max c.k 0 % 10
def tameW (c : Conf2) : Int := 1 + max c.w 0 % 7
def tameV (c : Conf2) : Grid := newV (tameK c) (tameW c) (tameS c)
theorem seed_more (l : List Seed) (j : Nat) (h : j < l.length) : List.map Seed.pv ((l.take j).map tameE) ++ [[.int .u64 (1 + (l[j]).a % 2305843009213693950 : Nat), .int .u64 ((l[j]).b % 2305843009213693951 : Nat)]] = List.map Seed.pv ((l.take (j + 1)).map tameE) := by
  rw [List.take_succ_eq_append_getElem h, List.map_append, List.map_append]; rfl

set_option maxHeartbeats 1000000 in
theorem ref15_Tame (c : Conf2) (hn : c.sd.length < 1099511627776) (hk : c.k < 9223372036854775808) (hw : c.w < 9223372036854775808) : Pure Try.prog 26 [c.av] (tameV c).av := fun S => by
  refine callR_of Try.func26 rfl rfl (xc_ok (bitB 137438961695) _ _ _ ?_)
  simp only [go_sem, decide_true, decide_false, Nat.lt_irrefl]
  refine alloc_intro fun c1 h1 => ?_
  simp only [go_sem, decide_true, decide_false, Nat.lt_irrefl]
  refine alloc_intro fun c2 h2 => ?_
  simp only [fresh_set] at h2
  simp only [go_sem, decide_true, decide_false, Nat.lt_irrefl, h2]
  have y1 : S (.r c1) = none := h1
  have y2 : S (.r c2) = none := h2.2
  refine AWP.tip0 3 2 (by simp only [go_sem, decide_true, decide_false, Nat.lt_irrefl]) fun k hk => ?_
  simp only [freshv_setr] at hk
  simp only [go_sem, decide_true, decide_false, Nat.lt_irrefl]
  refine AWP.iterE (ι := Option Nat) (fun loc j => ⟨Env.get [(1, .sp c1 0), (2, .sp c2 0), (3, .ts k 2 loc (((c.sd.take j).map tameE).map Seed.pv)), (4, i64 j)],
    ((S.set (.r c1) (.cells [i64 c.k, i64 c.w, .p (.sl (c.sd.map Seed.pv))])).set (.r c2) (.cells [i64 0, .nils, .nils, i64 0, i64 0, .nils])).set (.v k) (.tip 2 j loc), 54, []⟩) (min c.sd.length 4) none ?_ ?_ ?_
  · refine le_of (by simp only [go_sem, decide_true, decide_false, Nat.lt_irrefl, List.take_zero, List.map_nil] <;> rfl) ?_ rfl rfl (by simp)
    ((try dsimp only); (repeat refine sub_set ?_ ?_) <;> first | ((repeat (first | exact Sub.refl _ | refine Sub.setF ?_ (by first | assumption | exact And.right (by assumption) | exact And.right (And.right (by assumption)) | exact And.right (And.right (And.right (by assumption))) | exact And.right (And.right (And.right (And.right (by assumption)))) | exact And.right (And.right (And.right (And.right (And.right (by assumption))))) | exact And.right (And.right (And.right (And.right (And.right (And.right (by assumption)))))) | exact And.right (And.right (And.right (And.right (And.right (And.right (And.right (by assumption))))))) | exact And.right (And.right (And.right (And.right (And.right (And.right (And.right (And.right (by assumption)))))))) | exact And.right (And.right (And.right (And.right (And.right (And.right (And.right (And.right (And.right (by assumption)))))))))) | refine Sub.setV ?_ (by first | assumption | exact And.right (by assumption) | exact And.right (And.right (by assumption)) | exact And.right (And.right (And.right (by assumption))) | exact And.right (And.right (And.right (And.right (by assumption)))) | exact And.right (And.right (And.right (And.right (And.right (by assumption))))) | exact And.right (And.right (And.right (And.right (And.right (And.right (by assumption)))))) | exact And.right (And.right (And.right (And.right (And.right (And.right (And.right (by assumption))))))) | exact And.right (And.right (And.right (And.right (And.right (And.right (And.right (And.right (by assumption)))))))) | exact And.right (And.right (And.right (And.right (And.right (And.right (And.right (And.right (And.right (by assumption)))))))))))); done) | (simp only [go_sem, decide_true, decide_false, Nat.lt_irrefl, h2, hk]; done) | (simp only [go_sem, decide_true, decide_false, Nat.lt_irrefl, h2, hk]; rfl) | rfl)
  · intro j loc hj jh
    have hj1 : j < c.sd.length := by clear h2; omega
    have hj2 : (j : Int) < 4 := by clear h2; omega
    have hqj : wi ((j : Int) + 1) = ((j + 1 : Nat) : Int) := wi_succ (show j < 4611686018427387904 by clear h2; omega)
    have htl : ((c.sd.take j).map tameE).length = j := by rw [List.length_map]; exact take_len (by clear h2; omega)
    have htl1 : ((c.sd.take (j + 1)).map tameE).length = j + 1 := by rw [List.length_map]; exact take_len (by clear h2; omega)
    refine AWPH.step (xc_ok (bitB 137438961695) _ _ _ ?_)
    simp only [go_sem, decide_true, decide_false, Nat.lt_irrefl, h2, hj1, hj2, ltN' hj1, getD_map' _ _ _ _ hj1]
    refine AWP.draw2 (bitB 137438961695) mixed (by kernel_rfl) (fun j => bl false) ?_
    have em : m64 (1 + (c.sd[j]).a % 2305843009213693950) = 1 + (c.sd[j]).a % 2305843009213693950 := m64_id (by clear h2; omega)
    have htl0 : (c.sd.take j).length = j := take_len (by clear h2; omega)
    have htl2 : (c.sd.take (j + 1)).length = j + 1 := take_len (by clear h2; omega)
    simp only [go_sem, decide_true, decide_false, Nat.lt_irrefl, h2, hj1, hj2, ltN' hj1, getD_map' _ _ _ _ hj1, em, htl0, hk]
    refine ⟨by rintro el rfl; rfl, seed_len, by clear h2; omega, by clear h2; omega, grow_intro fun loc' => ?_⟩
    simp only [go_sem, decide_true, decide_false, Nat.lt_irrefl, h2, hk, hqj, seed_more c.sd j hj1]
    refine (jh loc').back ?_ (by simp) ?_
    · ((try dsimp only); (repeat refine sub_set ?_ ?_) <;> first | ((repeat (first | exact Sub.refl _ | refine Sub.setF ?_ (by first | assumption | exact And.right (by assumption) | exact And.right (And.right (by assumption)) | exact And.right (And.right (And.right (by assumption))) | exact And.right (And.right (And.right (And.right (by assumption)))) | exact And.right (And.right (And.right (And.right (And.right (by assumption))))) | exact And.right (And.right (And.right (And.right (And.right (And.right (by assumption)))))) | exact And.right (And.right (And.right (And.right (And.right (And.right (And.right (by assumption))))))) | exact And.right (And.right (And.right (And.right (And.right (And.right (And.right (And.right (by assumption)))))))) | exact And.right (And.right (And.right (And.right (And.right (And.right (And.right (And.right (And.right (by assumption)))))))))) | refine Sub.setV ?_ (by first | assumption | exact And.right (by assumption) | exact And.right (And.right (by assumption)) | exact And.right (And.right (And.right (by assumption))) | exact And.right (And.right (And.right (And.right (by assumption)))) | exact And.right (And.right (And.right (And.right (And.right (by assumption))))) | exact And.right (And.right (And.right (And.right (And.right (And.right (by assumption)))))) | exact And.right (And.right (And.right (And.right (And.right (And.right (And.right (by assumption))))))) | exact And.right (And.right (And.right (And.right (And.right (And.right (And.right (And.right (by assumption)))))))) | exact And.right (And.right (And.right (And.right (And.right (And.right (And.right (And.right (And.right (by assumption)))))))))))); done) | (simp only [go_sem, decide_true, decide_false, Nat.lt_irrefl, h2, hk, List.length_map, htl2, seed_more c.sd j hj1]; done) | (simp only [go_sem, decide_true, decide_false, Nat.lt_irrefl, h2, hk, List.length_map, htl2, seed_more c.sd j hj1]; rfl) | rfl)
    · simp only [go_sem, decide_true, decide_false, Nat.lt_irrefl, hqj]
  · intro loc
    have hmin : c.sd.take (min c.sd.length 4) = c.sd.take 4 := by
      by_cases hl : c.sd.length ≤ 4
      · rw [Nat.min_eq_left hl, List.take_length, List.take_of_length_le hl]
      · rw [Nat.min_eq_right (by clear h2; omega)]
    have hlen : (c.sd.take 4).length = min 4 c.sd.length := List.length_take
    have hlm : ((c.sd.take 4).map tameE).length = min c.sd.length 4 := by rw [List.length_map, hlen, Nat.min_comm]
    simp only [hmin]
    generalize hL : (c.sd.take 4).map tameE = L at *
    have r1 : wi (2 + (if 0 > c.k then 0 else c.k).tmod 10) = tameK c := by
      have : (if 0 > c.k then 0 else c.k) = max c.k 0 := by split <;> (clear h2; omega)
      unfold tameK
      rw [this, Int.tmod_eq_emod_of_nonneg (by clear h2; omega)]
      exact wi_id (by clear h2; omega) (by clear h2; omega)
    obtain ⟨wn, hwn⟩ : ∃ n : Nat, tameW c = n := ⟨(tameW c).toNat, by unfold tameW; clear h2; omega⟩
    have hwn2 : wn < 1048576 := by unfold tameW at hwn; clear h2; omega
    have r2 : wi (1 + (if 0 > c.w then 0 else c.w).tmod 7) = (wn : Int) := by
      have : (if 0 > c.w then 0 else c.w) = max c.w 0 := by split <;> (clear h2; omega)
      rw [this, Int.tmod_eq_emod_of_nonneg (by clear h2; omega), ← hwn]
      unfold tameW
      exact wi_id (by clear h2; omega) (by clear h2; omega)
    have hsub : Sub S (((S.set (.r c1) (.cells [i64 c.k, i64 c.w, .p (.sl (c.sd.map Seed.pv))])).set (.r c2) (.cells [i64 0, .nils, .nils, i64 0, i64 0, .nils])).set (.v k) (.tip 2 (min c.sd.length 4) loc)) := Sub.set (Sub.set (Sub.set (Sub.refl _) y1 _) y2 _) hk _
    refine AWPH.step (xc_ok (bitB 137438961695) _ _ _ ?_)
    by_cases a3 : L = []
    · have a1 : ¬ min c.sd.length 4 < c.sd.length := by rw [a3, List.length_nil] at hlm; clear h2; omega
      have hS : tameS c = [⟨3, 1⟩] := by unfold tameS; rw [hL, if_pos a3]
      have hm0 : min c.sd.length 4 = 0 := by rw [a3, List.length_nil] at hlm; exact hlm.symm
      rw [hm0] at hsub
      subst a3
      have hz : ((([] : List Seed).length : Int) == 0) = true := by simp
      simp only [hm0] at a1 ⊢
      simp only [go_sem, decide_true, decide_false, Nat.lt_irrefl, h2, a1, hk, List.length_map, hz, r1, r2, List.map_nil]
      refine ⟨by rintro el rfl; rfl, grow_intro fun loc' => ?_⟩
      simp only [go_sem, decide_true, decide_false, Nat.lt_irrefl, h2, hk, r1, r2]
      refine ⟨by decide, by decide, (ref15_New (tameK c) wn [⟨3, 1⟩] hwn2 (by decide)).useA ?_⟩
      simp only [go_sem, decide_true, decide_false, Nat.lt_irrefl, h2]
      have hfin : newV (tameK c) wn [⟨3, 1⟩] = tameV c := by unfold tameV; rw [hS, hwn]
      refine ⟨S, Sub.set (Sub.set (Sub.set (Sub.set (Sub.refl _) y1 _) y2 _) hk _) y2 _, ?_⟩
      simp [← hfin]
    have hS : tameS c = L := by unfold tameS; rw [hL, if_neg a3]
    have hz : (L.length == 0) = false := by simpa using a3
    have hz2 : ((L.length : Int) == 0) = false := by simpa using a3
    have hfin : newV (tameK c) wn L = tameV c := by unfold tameV; rw [hS, hwn]
    by_cases a1 : min c.sd.length 4 < c.sd.length
    · have a2 : ¬ ((min c.sd.length 4 : Nat) : Int) < 4 := by clear h2; omega
      simp only [go_sem, decide_true, decide_false, Nat.lt_irrefl, h2, a1, a2, hk, List.length_map, hz, hz2, r1, r2]
      refine ⟨by decide, by decide, (ref15_New (tameK c) wn L hwn2 (by clear h2; omega)).useA ?_⟩
      simp only [go_sem, decide_true, decide_false, Nat.lt_irrefl, h2]
      refine ⟨S, Sub.set hsub y2 _, ?_⟩
      simp [← hfin]
    · simp only [go_sem, decide_true, decide_false, Nat.lt_irrefl, h2, a1, hk, List.length_map, hz, hz2, r1, r2]
      refine ⟨by decide, by decide, (ref15_New (tameK c) wn L hwn2 (by clear h2; omega)).useA ?_⟩
      simp only [go_sem, decide_true, decide_false, Nat.lt_irrefl, h2]
      refine ⟨S, Sub.set hsub y2 _, ?_⟩
      simp [← hfin]
end Go.Sk
end

-- A16
section
namespace Go.Sk

structure Grid.Good (g : Grid) : Prop where
  w1 : 1 ≤ g.w
  w2 : g.w ≤ 256
  n : g.rows.length ≤ 8
  sd : g.sd.length = g.rows.length
  wid : ∀ r ∈ g.rows, r.length = g.w.toNat
  all : g.all.Good
  hs : ∀ r ∈ g.rows, ∀ h ∈ r, h.Good
  so : ∀ s ∈ g.sd, s.may = true
theorem Seed.ok_of_may {s : Seed} (h : s.may = true) : s.Ok := by
  unfold Seed.may at h
  simp only [Bool.and_eq_true, decide_eq_true_eq] at h
  constructor <;> omega
theorem Hist.Good.ok {h : Hist} (g : h.Good) : h.Ok :=
  ⟨by have := g.k0; omega, by have := g.k1; omega, by have := g.len; omega, fun l hl => by have := g.sm l hl; have := g.k1; omega, g.tot⟩
theorem Hist.Good.small {h : Hist} (g : h.Good) : h.Small := ⟨by have := g.len; omega, fun l hl => by have := g.sm l hl; have := g.k1; omega⟩
theorem Grid.Good.ok {g : Grid} (h : g.Good) : g.Ok :=
  ⟨h.w1, by have := h.w2; omega, by have := h.n; omega, h.sd, h.wid, h.all.ok, fun r hr x hx => (h.hs r hr x hx).ok, fun s hs => Seed.ok_of_may (h.so s hs)⟩
theorem Grid.Good.small {g : Grid} (h : g.Good) : g.Small :=
  ⟨by have := h.n; have := h.sd; omega, ⟨by have := h.n; omega, fun r hr => ⟨by have := h.wid r hr; have := h.w2; omega, fun x hx => (h.hs r hr x hx).small⟩⟩, h.all.small⟩
theorem Grid.Good.sz {g : Grid} (h : g.Good) : g.Sz := ⟨by have := h.n; omega, fun r hr => by have := h.wid r hr; have := h.w2; omega⟩

theorem addH_good {h : Hist} (g : h.Good) (t w : Nat) (e : (addH h t w).2 = 0) : (addH h t w).1.Good ∧ (addH h t w).1.k = h.k ∧ (addH h t w).1.g = h.g ∧ totN 0 (addH h t w).1.ls = totN 0 h.ls + w := addV_good g t w e
theorem emptyH_good {k : Int} (h1 : 2 ≤ k) (h2 : k ≤ 1024) : (emptyH k).Good := ⟨h1, h2, fun l hl => (by cases hl), fun l hl => (by cases hl), by simp [emptyH, totN]⟩
theorem newV_good {k w : Int} {sd : List Seed} (h1 : 2 ≤ k) (h2 : k ≤ 1024) (w1 : 1 ≤ w) (w2 : w ≤ 256) (n : sd.length ≤ 8) (so : ∀ s ∈ sd, s.may = true) : (newV k w sd).Good := by
  refine ⟨w1, w2, by simp [newV]; exact n, by simp [newV], ?_, emptyH_good h1 h2, ?_, so⟩
  · intro r hr
    rw [List.eq_of_mem_replicate hr]; simp [newV]
  · intro r hr h hh
    rw [List.eq_of_mem_replicate hr] at hh
    rw [List.eq_of_mem_replicate hh]; exact emptyH_good h1 h2
theorem tameS_may (c : Conf2) : ∀ s ∈ tameS c, s.may = true := by
  intro s hs
  unfold tameS at hs
  split at hs
  · simp only [List.mem_singleton] at hs; subst hs; decide
  · obtain ⟨x, _, rfl⟩ := List.mem_map.1 hs
    unfold tameE Seed.may
    simp only [Bool.and_eq_true, decide_eq_true_eq]
    omega
theorem tameS_len (c : Conf2) : 1 ≤ (tameS c).length ∧ (tameS c).length ≤ 4 := by
  unfold tameS
  split
  · simp
  · rename_i h
    refine ⟨?_, by rw [List.length_map, List.length_take]; exact Nat.min_le_left _ _⟩
    cases e : List.map tameE (List.take 4 c.sd) with
    | nil => exact absurd e h
    | cons a b => simp
theorem tameV_good (c : Conf2) : (tameV c).Good := by
  refine newV_good (by unfold tameK; omega) (by unfold tameK; omega) (by unfold tameW; omega) (by unfold tameW; omega) ?_ (tameS_may c)
  have := (tameS_len c).2; omega

theorem rowsV_good {g : Grid} (hg : g.Good) (e : Event) : ∀ i, i ≤ g.rows.length → (rowsV g e i).2 = 0 → (∀ r ∈ (rowsV g e i).1, r.length = g.w.toNat) ∧ ∀ r ∈ (rowsV g e i).1, ∀ h ∈ r, h.Good := by
  intro i
  induction i with
  | zero => intro _ _; exact ⟨hg.wid, hg.hs⟩
  | succ i ih =>
    intro hi h0
    have hse : rowsV g e (i + 1) = stepG g e i (rowsV g e i) := rfl
    unfold stepG at hse
    by_cases he : (rowsV g e i).2 = 0
    rotate_left
    · rw [if_neg he] at hse; rw [hse] at h0; exact absurd h0 he
    rw [if_pos he] at hse
    obtain ⟨h1, h2⟩ := ih (by omega) he
    have hlt : i < (rowsV g e i).1.length := by rw [rowsV_len]; omega
    have hm : (rowsV g e i).1.getD i [] ∈ (rowsV g e i).1 := by
      rw [List.getD_eq_getElem?_getD, List.getElem?_eq_getElem hlt]; exact List.getElem_mem hlt
    have hc : colN g e.k i < ((rowsV g e i).1.getD i []).length := by rw [h1 _ hm]; exact colN_lt g hg.w1 _ _
    rw [hse] at h0 ⊢
    have hh : (((rowsV g e i).1.getD i []).getD (colN g e.k i) zeroH).Good := by
      rw [List.getD_eq_getElem?_getD, List.getElem?_eq_getElem hc]; exact h2 _ hm _ (List.getElem_mem hc)
    have hn := (addH_good hh e.t e.w h0).1
    refine ⟨fun r hr => ?_, fun r hr h hx => ?_⟩
    · rcases List.mem_or_eq_of_mem_set hr with hr | rfl
      · exact h1 r hr
      · rw [List.length_set]; exact h1 _ hm
    · rcases List.mem_or_eq_of_mem_set hr with hr | rfl
      · exact h2 r hr h hx
      · rcases List.mem_or_eq_of_mem_set hx with hx | rfl
        · exact h2 _ hm _ hx
        · exact hn
theorem rowsV_first (g : Grid) (e : Event) : ∀ i, (rowsV g e i).2 = 0 → (addH g.all e.t e.w).2 = 0 := by
  intro i
  induction i with
  | zero => intro h; exact h
  | succ i ih =>
    intro h
    apply ih
    apply Classical.byContradiction
    intro hc
    rw [rowsV_stop g e i hc 1] at h
    exact hc h
theorem addG_ok {g : Grid} {e : Event} (h : (addG g e).2 = 0) : e.k < 2305843009213693951 ∧ (rowsV g e g.rows.length).2 = 0 ∧ addG g e = (⟨g.w, g.sd, (rowsV g e g.rows.length).1, (addH g.all e.t e.w).1⟩, 0) := by
  unfold addG at h ⊢
  split
  · rename_i c
    rw [if_pos c] at h
    split
    · rename_i c2; exact ⟨c, c2, rfl⟩
    · rename_i c2; rw [if_neg c2] at h; exact absurd h c2
  · rename_i c; rw [if_neg c] at h; simp at h
theorem addG_good {g : Grid} (hg : g.Good) (e : Event) (h : (addG g e).2 = 0) : (addG g e).1.Good := by
  obtain ⟨h1, h2, h3⟩ := addG_ok h
  rw [h3]
  obtain ⟨r1, r2⟩ := rowsV_good hg e _ (Nat.le_refl _) h2
  refine ⟨hg.w1, hg.w2, ?_, ?_, r1, (addH_good hg.all _ _ (rowsV_first g e _ h2)).1, r2, hg.so⟩
  · dsimp only; rw [rowsV_len]; exact hg.n
  · dsimp only; rw [rowsV_len]; exact hg.sd

/-- The document's grid of events, and what came. -/
noncomputable def madeGo : List Event → Nat → Grid → List Event → Grid × List Event
  | [], _, g, all => (g, all)
  | x :: r, tick, g, all => if (addG g ⟨tick + x.t % 100, x.k, x.w⟩).2 = 0 then madeGo r (tick + x.t % 100) (addG g ⟨tick + x.t % 100, x.k, x.w⟩).1 (all ++ [⟨tick + x.t % 100, x.k, x.w⟩]) else madeGo r (tick + x.t % 100) g all
noncomputable def madeV (c : Conf2) (l : List Event) : Grid × List Event := madeGo (l.take 20) 0 (tameV c) []
theorem madeGo_good : ∀ l t g all, Grid.Good g → (madeGo l t g all).1.Good := by
  intro l
  induction l with
  | nil => intro t g all h; exact h
  | cons x r ih =>
    intro t g all h
    unfold madeGo
    split
    · rename_i c; exact ih _ _ _ (addG_good h _ c)
    · exact ih _ _ _ h
theorem madeV_good (c : Conf2) (l : List Event) : (madeV c l).1.Good := madeGo_good _ _ _ _ (tameV_good c)
end Go.Sk
end

-- W15k
section
namespace Go.Sk
open Go Go.Proofs

structure Event.Ok (e : Event) : Prop where
  t : e.t < 18446744073709551616
  k : e.k < 18446744073709551616
  w : e.w < 18446744073709551616
theorem ev_len {l : List Event} : ∀ el ∈ l.map Event.pv, el.length = 3 := by
  intro el h; obtain ⟨x, _, rfl⟩ := List.mem_map.1 h; rfl

set_option maxHeartbeats 1000000 in
theorem ref15_Made (c : Conf2) (l : List Event) (hn : c.sd.length < 1099511627776) (hk : c.k < 9223372036854775808) (hw : c.w < 9223372036854775808) (hl : l.length < 1099511627776) (ho : ∀ e ∈ l, e.Ok) :
    Pure Try.prog 14 [c.av, .p (evsP l)] (.tuple [(madeV c l).1.av, .p (evsP (madeV c l).2)]) := fun S => by
  refine callR_of Try.func14 rfl rfl (xc_ok (bitB 4503599631572983) _ _ _ ?_)
  simp only [go_sem, decide_true, decide_false, Nat.lt_irrefl, evsP]
  refine alloc_intro fun c2 h2 => ?_
  simp only [go_sem, decide_true, decide_false, Nat.lt_irrefl]
  refine alloc_intro fun c4 h4 => ?_
  simp only [fresh_set] at h4
  simp only [go_sem, decide_true, decide_false, Nat.lt_irrefl, h4]
  refine (ref15_Tame c hn hk hw).useA ?_
  simp only [go_sem, decide_true, decide_false, Nat.lt_irrefl]
  refine alloc_intro fun c6 h6 => ?_
  simp only [fresh_set] at h6
  simp only [go_sem, decide_true, decide_false, Nat.lt_irrefl, h4, h6]
  have y2 : S (.r c2) = none := h2
  have y4 : S (.r c4) = none := h4.2
  have y6 : S (.r c6) = none := h6.2.2
  refine AWP.tip0 8 3 (by simp only [go_sem, decide_true, decide_false, Nat.lt_irrefl]) fun k hkk => ?_
  simp only [freshv_setr] at hkk
  simp only [go_sem, decide_true, decide_false, Nat.lt_irrefl]
  refine AWP.roam (ι := Nat × Nat × Grid × List Event × Option Nat) (fun y => y.1 ≤ l.length ∧ y.1 ≤ 20 ∧ y.2.1 ≤ y.1 * 100 ∧ y.2.2.1.Good ∧ y.2.2.2.1.length ≤ y.1 ∧ madeGo ((l.take 20).drop y.1) y.2.1 y.2.2.1 y.2.2.2.1 = madeV c l)
    (fun y => ⟨Env.get [(1, .p (evsP l)), (4, .sp c4 0), (6, .sp c6 0), (7, u64 y.2.1), (8, .ts k 3 y.2.2.2.2 (y.2.2.2.1.map Event.pv)), (9, i64 y.1)],
      (((S.set (.r c2) (.cells [i64 c.k, i64 c.w, .p (.sl (c.sd.map Seed.pv))])).set (.r c4) (.cells [i64 0, .nils, .nils, i64 0, i64 0, .nils])).set (.r c6) (.cells [i64 y.2.2.1.w, .p (.sl (y.2.2.1.sd.map Seed.pv)), .p (.sl (y.2.2.1.rows.map rowE)), i64 y.2.2.1.all.k, i64 y.2.2.1.all.g, .p (.sl (y.2.2.1.all.ls.map lvE))])).set (.v k) (.tip 3 y.2.2.2.1.length y.2.2.2.2), 60, []⟩)
    (fun y => l.length - y.1) (0, 0, tameV c, [], none) ⟨Nat.zero_le _, Nat.zero_le _, Nat.zero_le _, tameV_good c, Nat.le_refl _, by rw [List.drop_zero]; rfl⟩ ?_ ?_
  · refine le_of (by simp only [go_sem, decide_true, decide_false, Nat.lt_irrefl, evsP] <;> rfl) ?_ rfl rfl (by simp)
    ((try dsimp only); (repeat refine sub_set ?_ ?_) <;> first | ((repeat (first | exact Sub.refl _ | refine Sub.setF ?_ (by first | assumption | exact And.right (by assumption) | exact And.right (And.right (by assumption)) | exact And.right (And.right (And.right (by assumption))) | exact And.right (And.right (And.right (And.right (by assumption)))) | exact And.right (And.right (And.right (And.right (And.right (by assumption))))) | exact And.right (And.right (And.right (And.right (And.right (And.right (by assumption)))))) | exact And.right (And.right (And.right (And.right (And.right (And.right (And.right (by assumption))))))) | exact And.right (And.right (And.right (And.right (And.right (And.right (And.right (And.right (by assumption)))))))) | exact And.right (And.right (And.right (And.right (And.right (And.right (And.right (And.right (And.right (by assumption)))))))))) | refine Sub.setV ?_ (by first | assumption | exact And.right (by assumption) | exact And.right (And.right (by assumption)) | exact And.right (And.right (And.right (by assumption))) | exact And.right (And.right (And.right (And.right (by assumption)))) | exact And.right (And.right (And.right (And.right (And.right (by assumption))))) | exact And.right (And.right (And.right (And.right (And.right (And.right (by assumption)))))) | exact And.right (And.right (And.right (And.right (And.right (And.right (And.right (by assumption))))))) | exact And.right (And.right (And.right (And.right (And.right (And.right (And.right (And.right (by assumption)))))))) | exact And.right (And.right (And.right (And.right (And.right (And.right (And.right (And.right (And.right (by assumption)))))))))))); done) | (simp only [go_sem, decide_true, decide_false, Nat.lt_irrefl, h4, h6, hkk, List.map_nil, List.length_nil]; done) | (simp only [go_sem, decide_true, decide_false, Nat.lt_irrefl, h4, h6, hkk, List.map_nil, List.length_nil]; rfl) | rfl)
  rintro ⟨i, tick, g, all, loc⟩ ⟨hi, hi2, ht, hg, hall, hm⟩ ih
  dsimp only at hi hi2 ht hg hall hm ⊢
  refine AWPH.step (xc_ok (bitB 4503599631572983) _ _ _ ?_)
  have hlen2 : (l.take 20).length = min 20 l.length := List.length_take
  have stop : ¬ (i < l.length ∧ i < 20) → (g, all) = madeV c l := by
    intro hc
    rw [List.drop_of_length_le (by rw [hlen2]; clear h4 h6; omega)] at hm
    exact hm
  by_cases c1 : i < l.length
  rotate_left
  · simp only [go_sem, decide_true, decide_false, Nat.lt_irrefl, c1, h4, h6, evsP, List.length_map]
    have := stop (fun h => c1 h.1)
    refine ⟨S, ?_, ?_⟩
    · exact Sub.set (Sub.set (Sub.set (Sub.set (Sub.set (Sub.refl _) y2 _) y4 _) y6 _) hkk _) y4 _
    · rw [← this]; simp
  by_cases c2' : (i : Int) < 20
  rotate_left
  · simp only [go_sem, decide_true, decide_false, Nat.lt_irrefl, c1, c2', h4, h6, evsP, List.length_map]
    have := stop (fun h => c2' (by clear h4 h6; omega))
    refine ⟨S, ?_, ?_⟩
    · exact Sub.set (Sub.set (Sub.set (Sub.set (Sub.set (Sub.refl _) y2 _) y4 _) y6 _) hkk _) y4 _
    · rw [← this]; simp
  have hok : (l[i]).Ok := ho _ (List.getElem_mem c1)
  have htk : m64 (tick + (l[i]).t % 100) = tick + (l[i]).t % 100 := m64_id (by clear h4 h6; omega)
  have hq : wi ((i : Int) + 1) = ((i + 1 : Nat) : Int) := wi_succ (show i < 4611686018427387904 by clear h4 h6; omega)
  simp only [go_sem, decide_true, decide_false, Nat.lt_irrefl, c1, c2', evsP, ltN' c1, getD_map' _ _ _ _ c1, List.length_map, htk]
  refine AWP.draw2 (bitB 4503599631572983) mixed (by kernel_rfl) (fun j => bl false) ?_
  simp only [go_sem, decide_true, decide_false, Nat.lt_irrefl, c1, evsP, ltN' c1, getD_map' _ _ _ _ c1, htk]
  refine alloc_intro fun c10 h10 => ?_
  simp only [fresh_set, fresh_setv] at h10
  simp only [go_sem, decide_true, decide_false, Nat.lt_irrefl, h4, h6, h10]
  refine (ref15_Add g ⟨tick + (l[i]).t % 100, (l[i]).k, (l[i]).w⟩ hg.ok hok.k hok.w).useA ?_
  have hdrop : (l.take 20).drop i = l[i] :: (l.take 20).drop (i + 1) := by
    rw [List.drop_eq_getElem_cons (by rw [hlen2]; clear h4 h6 h10; omega)]
    congr 1
    rw [List.getElem_take]
  rw [hdrop] at hm
  unfold madeGo at hm
  have hgd := addG_good hg ⟨tick + (l[i]).t % 100, (l[i]).k, (l[i]).w⟩
  generalize addG g ⟨tick + (l[i]).t % 100, (l[i]).k, (l[i]).w⟩ = X at *
  simp only [go_sem, decide_true, decide_false, Nat.lt_irrefl, h4, h6, h10]
  refine alloc_intro fun c11 h11 => ?_
  simp only [fresh_set, fresh_setv] at h11
  by_cases ex : X.2 = 0
  · have exb : (X.2 == 0) = true := by simpa using ex
    rw [if_pos ex] at hm
    simp only [go_sem, decide_true, decide_false, Nat.lt_irrefl, exb, h4, h6, h10, h11, hkk]
    have e5 : List.map Event.pv all ++ [[.int .u64 (tick + (l[i]).t % 100 : Nat), .int .u64 (l[i]).k, .int .u64 (l[i]).w]] = List.map Event.pv (all ++ [⟨tick + (l[i]).t % 100, (l[i]).k, (l[i]).w⟩]) := by rw [List.map_append]; rfl
    refine ⟨by rintro el rfl; rfl, ev_len, by clear h4 h6 h10 h11; omega, by clear h4 h6 h10 h11; omega, grow_intro fun loc' => ?_⟩
    simp only [go_sem, decide_true, decide_false, Nat.lt_irrefl, h4, h6, h10, h11, hkk, e5, hq]
    refine (ih (i + 1, tick + (l[i]).t % 100, X.1, all ++ [⟨tick + (l[i]).t % 100, (l[i]).k, (l[i]).w⟩], loc') ⟨c1, by dsimp only; clear h4 h6 h10 h11; omega, by dsimp only; clear h4 h6 h10 h11; omega, hgd ex, by simp; clear h4 h6 h10 h11; omega, hm⟩ (by dsimp only; clear h4 h6 h10 h11; omega)).back ?_ (by simp) ?_
    · ((try dsimp only); (repeat refine sub_set ?_ ?_) <;> first | ((repeat (first | exact Sub.refl _ | refine Sub.setF ?_ (by first | assumption | exact And.right (by assumption) | exact And.right (And.right (by assumption)) | exact And.right (And.right (And.right (by assumption))) | exact And.right (And.right (And.right (And.right (by assumption)))) | exact And.right (And.right (And.right (And.right (And.right (by assumption))))) | exact And.right (And.right (And.right (And.right (And.right (And.right (by assumption)))))) | exact And.right (And.right (And.right (And.right (And.right (And.right (And.right (by assumption))))))) | exact And.right (And.right (And.right (And.right (And.right (And.right (And.right (And.right (by assumption)))))))) | exact And.right (And.right (And.right (And.right (And.right (And.right (And.right (And.right (And.right (by assumption)))))))))) | refine Sub.setV ?_ (by first | assumption | exact And.right (by assumption) | exact And.right (And.right (by assumption)) | exact And.right (And.right (And.right (by assumption))) | exact And.right (And.right (And.right (And.right (by assumption)))) | exact And.right (And.right (And.right (And.right (And.right (by assumption))))) | exact And.right (And.right (And.right (And.right (And.right (And.right (by assumption)))))) | exact And.right (And.right (And.right (And.right (And.right (And.right (And.right (by assumption))))))) | exact And.right (And.right (And.right (And.right (And.right (And.right (And.right (And.right (by assumption)))))))) | exact And.right (And.right (And.right (And.right (And.right (And.right (And.right (And.right (And.right (by assumption)))))))))))); done) | (simp only [go_sem, decide_true, decide_false, Nat.lt_irrefl, h4, h6, h10, h11, hkk, List.length_map, e5]; done) | (simp only [go_sem, decide_true, decide_false, Nat.lt_irrefl, h4, h6, h10, h11, hkk, List.length_map, e5]; rfl) | rfl)
    · simp only [go_sem, decide_true, decide_false, Nat.lt_irrefl, hq, evsP, e5]
  · have exb : (X.2 == 0) = false := by simpa using ex
    rw [if_neg ex] at hm
    simp only [go_sem, decide_true, decide_false, Nat.lt_irrefl, exb, h4, h6, h10, h11, hkk]
    refine (ih (i + 1, tick + (l[i]).t % 100, g, all, loc) ⟨c1, by dsimp only; clear h4 h6 h10 h11; omega, by dsimp only; clear h4 h6 h10 h11; omega, hg, by dsimp only; clear h4 h6 h10 h11; omega, hm⟩ (by dsimp only; clear h4 h6 h10 h11; omega)).back ?_ (by simp) ?_
    · ((try dsimp only); (repeat refine sub_set ?_ ?_) <;> first | ((repeat (first | exact Sub.refl _ | refine Sub.setF ?_ (by first | assumption | exact And.right (by assumption) | exact And.right (And.right (by assumption)) | exact And.right (And.right (And.right (by assumption))) | exact And.right (And.right (And.right (And.right (by assumption)))) | exact And.right (And.right (And.right (And.right (And.right (by assumption))))) | exact And.right (And.right (And.right (And.right (And.right (And.right (by assumption)))))) | exact And.right (And.right (And.right (And.right (And.right (And.right (And.right (by assumption))))))) | exact And.right (And.right (And.right (And.right (And.right (And.right (And.right (And.right (by assumption)))))))) | exact And.right (And.right (And.right (And.right (And.right (And.right (And.right (And.right (And.right (by assumption)))))))))) | refine Sub.setV ?_ (by first | assumption | exact And.right (by assumption) | exact And.right (And.right (by assumption)) | exact And.right (And.right (And.right (by assumption))) | exact And.right (And.right (And.right (And.right (by assumption)))) | exact And.right (And.right (And.right (And.right (And.right (by assumption))))) | exact And.right (And.right (And.right (And.right (And.right (And.right (by assumption)))))) | exact And.right (And.right (And.right (And.right (And.right (And.right (And.right (by assumption))))))) | exact And.right (And.right (And.right (And.right (And.right (And.right (And.right (And.right (by assumption)))))))) | exact And.right (And.right (And.right (And.right (And.right (And.right (And.right (And.right (And.right (by assumption)))))))))))); done) | (simp only [go_sem, decide_true, decide_false, Nat.lt_irrefl, h4, h6, h10, h11, hkk]; done) | (simp only [go_sem, decide_true, decide_false, Nat.lt_irrefl, h4, h6, h10, h11, hkk]; rfl) | rfl)
    · simp only [go_sem, decide_true, decide_false, Nat.lt_irrefl, hq, evsP]
end Go.Sk
end

-- W15l
section
namespace Go.Sk
open Go Go.Proofs

def g0 : Grid := newV 2 1 [⟨5, 1⟩]
def hA : Hist := ⟨2, 0, [[⟨3, 3⟩, ⟨3, 3⟩], [⟨3, 3⟩]]⟩
def gA : Grid := ⟨1, [⟨5, 1⟩], [[hA]], hA⟩
theorem flow0 : flowV 2 3 0 [] [] 4 = [[⟨3, 3⟩, ⟨3, 3⟩], [⟨3, 3⟩]] := by
  have a1 : outsV [] (mostN 2 0) [] 4 3 = [] := by decide
  have a2 : leftV [] (mostN 2 0) [] 4 = 1 := by decide
  have a3 : stayV [] (mostN 2 0) [] 4 3 = [⟨3, 3⟩, ⟨3, 3⟩] := by decide
  have b1 : outsV [] (mostN 2 1) [] 1 3 = [] := by decide
  have b2 : leftV [] (mostN 2 1) [] 1 = 0 := by decide
  have b3 : stayV [] (mostN 2 1) [] 1 3 = [⟨3, 3⟩] := by decide
  rw [flowV_cons (by simp), List.headD_nil, List.tail_nil, a1, a2, a3, flowV_cons (by simp), List.headD_nil, List.tail_nil, b1, b2, b3, flowV_nil (by rfl)]
theorem addH0 : addH (emptyH 2) 3 4 = (hA, 0) := by
  have hl : lastV (emptyH 2).ls = (0, false) := rfl
  have ht : totN 0 (emptyH 2).ls = 0 := rfl
  unfold addH addV
  rw [if_neg (by decide), hl, if_neg (by decide), ht, if_neg (by decide)]
  have : flowV (emptyH 2).k.toNat 3 0 (emptyH 2).ls [] 4 = [[⟨3, 3⟩, ⟨3, 3⟩], [⟨3, 3⟩]] := flow0
  rw [this]; rfl
theorem col0 (g : Grid) (h : g.w = 1) (x i : Nat) : colN g x i = 0 := by
  have := colN_lt g (by rw [h]; decide) x i
  rw [h] at this
  have e : (1 : Int).toNat = 1 := rfl
  omega
theorem add0 : addG g0 ⟨3, 9, 4⟩ = (gA, 0) := by
  have hr : rowsV g0 ⟨3, 9, 4⟩ 1 = ([[hA]], 0) := by
    show stepG g0 ⟨3, 9, 4⟩ 0 (rowsV g0 ⟨3, 9, 4⟩ 0) = _
    have h0 : rowsV g0 ⟨3, 9, 4⟩ 0 = ([[emptyH 2]], 0) := by
      show (g0.rows, (addH (emptyH 2) 3 4).2) = _
      rw [addH0]; rfl
    rw [h0]
    unfold stepG
    rw [if_pos rfl, col0 g0 rfl]
    have e1 : (([[emptyH 2]] : List (List Hist)).getD 0 []).getD 0 zeroH = emptyH 2 := rfl
    dsimp only
    rw [e1, addH0]; rfl
  unfold addG
  rw [if_pos (by decide)]
  have hn : g0.rows.length = 1 := rfl
  rw [hn, hr, if_pos rfl]
  have : (addH g0.all 3 4).1 = hA := by
    show (addH (emptyH 2) 3 4).1 = _
    rw [addH0]
  dsimp only
  rw [this]; rfl
theorem add1 : addG g0 ⟨3, 2305843009213693951, 4⟩ = (zeroG, 7) := by unfold addG; rw [if_neg (by decide)]
theorem est0 : estV hA.ls 3 1 = 4 := by
  have u0 : units 0 = 1 := by unfold units; rw [m64_id (by decide)]; rfl
  have u1 : units 1 = 2 := by unfold units; rw [m64_id (by decide)]; rfl
  have w1 : inW 3 1 3 = true := by unfold inW; rw [sub64_eq]; decide
  have m1 : m64 1 = 1 := m64_id (by decide)
  have m2 : m64 2 = 2 := m64_id (by decide)
  have m4 : m64 4 = 4 := m64_id (by decide)
  unfold estV partsV
  simp [hA, bucksF, partsF, partStep, w1, u0, u1, m1, m2, m4]
theorem row0 : rowV gA 0 77 3 1 = 4 := by
  unfold rowV
  rw [if_pos ⟨by decide, by decide, by decide⟩, col0 gA rfl]
  exact est0
theorem row1 : rowV gA 1 77 3 1 = 0 := by
  unfold rowV
  rw [if_neg (by decide)]
theorem g0_good : g0.Good := newV_good (by decide) (by decide) (by decide) (by decide) (by decide) (by intro s hs; simp only [List.mem_singleton] at hs; subst hs; decide)
theorem gA_good : gA.Good := by
  have := addG_good g0_good ⟨3, 9, 4⟩ (by rw [add0])
  rwa [add0] at this

set_option maxHeartbeats 1000000 in
set_option maxRecDepth 8000 in
theorem awake : Pure Try.prog 8 [] (bl true) := fun S => by
  refine callR_of Try.func8 rfl rfl (xc_ok (bitB 95) _ _ _ ?_)
  simp only [go_sem, decide_true, decide_false, Nat.lt_irrefl]
  have hc : confV 2 1 [⟨5, 1⟩] = 0 := by decide
  have hN := grid_New 2 1 [⟨5, 1⟩] (by decide)
  rw [hc, if_pos rfl] at hN
  refine hN.useA ?_
  simp only [go_sem, decide_true, decide_false, Nat.lt_irrefl]
  refine alloc_intro fun c1 h1 => ?_
  simp only [go_sem, decide_true, decide_false, Nat.lt_irrefl]
  have hA1 := grid_Add g0 ⟨3, 9, 4⟩ g0_good.ok (by decide) (by decide)
  rw [add0] at hA1
  refine hA1.useA ?_
  simp only [go_sem, decide_true, decide_false, Nat.lt_irrefl, h1]
  refine alloc_intro fun c3 h3 => ?_
  simp only [fresh_set] at h3
  simp only [go_sem, decide_true, decide_false, Nat.lt_irrefl, h3]
  have hA2 := grid_Add g0 ⟨3, 2305843009213693951, 4⟩ g0_good.ok (by decide) (by decide)
  rw [add1] at hA2
  refine hA2.useA ?_
  simp only [go_sem, decide_true, decide_false, Nat.lt_irrefl, h3]
  refine alloc_intro fun c5 h5 => ?_
  simp only [fresh_set] at h5
  simp only [go_sem, decide_true, decide_false, Nat.lt_irrefl, h3, h5]
  refine AWP.draw2 (bitB 95) mixed (by kernel_rfl) (fun j => if j = 25 then bl true else if j = 29 then u64 4 else if j = 34 then u64 0 else bl true) ?_
  have e1 : ((gA.rows.length : Int) == 1) = true := by decide
  have e2 : ((0 : Nat) < gA.rows.length) = True := by simp [gA]
  have e3 : ((gA.rows.map rowE).getD 0 []) = [.sl [hA.cs]] := rfl
  have s1 := hist_Same hA gA.all gA_good.all.small
  rw [show decide (hA = gA.all) = true by decide] at s1
  have s2 := grid_Row gA gA_good.ok 0 77 3 1 (by decide)
  rw [row0] at s2
  have s3 := grid_Row gA gA_good.ok 1 77 3 1 (by decide)
  rw [row1] at s3
  have s4 := grid_Same gA gA gA_good.small
  rw [decide_eq_true (rfl : gA = gA)] at s4
  simp only [go_sem, decide_true, decide_false, Nat.lt_irrefl, h3, h5, e1, e2, e3]
  refine ⟨s1.draw, s2.draw, s3.draw, s4.draw, ?_⟩
  (refine ⟨S, by (repeat (first | exact Sub.refl _ | refine Sub.setF ?_ (by first | assumption | exact And.right (by assumption) | exact And.right (And.right (by assumption)) | exact And.right (And.right (And.right (by assumption))) | exact And.right (And.right (And.right (And.right (by assumption)))) | exact And.right (And.right (And.right (And.right (And.right (by assumption))))) | exact And.right (And.right (And.right (And.right (And.right (And.right (by assumption)))))) | exact And.right (And.right (And.right (And.right (And.right (And.right (And.right (by assumption))))))) | exact And.right (And.right (And.right (And.right (And.right (And.right (And.right (And.right (by assumption)))))))) | exact And.right (And.right (And.right (And.right (And.right (And.right (And.right (And.right (And.right (by assumption)))))))))) | refine Sub.setV ?_ (by first | assumption | exact And.right (by assumption) | exact And.right (And.right (by assumption)) | exact And.right (And.right (And.right (by assumption))) | exact And.right (And.right (And.right (And.right (by assumption)))) | exact And.right (And.right (And.right (And.right (And.right (by assumption))))) | exact And.right (And.right (And.right (And.right (And.right (And.right (by assumption)))))) | exact And.right (And.right (And.right (And.right (And.right (And.right (And.right (by assumption))))))) | exact And.right (And.right (And.right (And.right (And.right (And.right (And.right (And.right (by assumption)))))))) | exact And.right (And.right (And.right (And.right (And.right (And.right (And.right (And.right (And.right (by assumption)))))))))))), ?_⟩); simp

set_option maxHeartbeats 1000000 in
theorem law_GridSame (c d : Conf2) (l k : List Event) (hn : c.sd.length ≤ 1048576) (hk : c.k < 9223372036854775808) (hw : c.w < 9223372036854775808) (hn2 : d.sd.length ≤ 1048576) (hk2 : d.k < 9223372036854775808) (hw2 : d.w < 9223372036854775808)
    (hl : ∀ e ∈ l, e.Ok) (ll : l.length ≤ 1048576) (hkk : ∀ e ∈ k, e.Ok) (kl : k.length ≤ 1048576) :
    CallsR Try.prog 6 [.agg [i64 c.k, i64 c.w, .p (.sl (c.sd.map Seed.pv)), i64 d.k, i64 d.w, .p (.sl (d.sd.map Seed.pv))], .p (evsP l), .p (evsP k)] noS (fun x _ => x = bl true) := by
  generalize noS = S
  refine callsR_of Try.func6 rfl (xc_ok (bitB 1487) _ _ _ ?_)
  simp only [go_sem, decide_true, decide_false, Nat.lt_irrefl]
  refine alloc_intro fun c3 h3 => ?_
  simp only [go_sem, decide_true, decide_false, Nat.lt_irrefl]
  refine awake.useA ?_
  simp only [go_sem, decide_true, decide_false, Nat.lt_irrefl]
  refine (ref15_Made c l (by omega) hk hw (by omega) hl).useA ?_
  simp only [go_sem, decide_true, decide_false, Nat.lt_irrefl, h3]
  refine alloc_intro fun c8 h8 => ?_
  simp only [fresh_set] at h8
  simp only [go_sem, decide_true, decide_false, Nat.lt_irrefl, h8]
  refine ⟨by decide, by decide, (ref15_Made d k (by clear h8; omega) hk2 hw2 (by clear h8; omega) hkk).useA ?_⟩
  simp only [go_sem, decide_true, decide_false, Nat.lt_irrefl, h8]
  refine alloc_intro fun c10 h10 => ?_
  simp only [fresh_set] at h10
  have gx := madeV_good c l
  have gy := madeV_good d k
  generalize (madeV c l).1 = x at *
  generalize (madeV d k).1 = y at *
  simp only [go_sem, decide_true, decide_false, Nat.lt_irrefl, h8, h10]
  refine AWP.draw2 (bitB 1487) mixed (by kernel_rfl) (fun j => if j = 3 then x.av else if j = 5 then y.av else if j = 6 then bl (decide (x = y)) else if j = 9 then bl (decide (x = y)) else if j = 17 then bl true else x.av) ?_
  have s4 := grid_Same x x gx.small
  rw [decide_eq_true (rfl : x = x)] at s4
  simp only [go_sem, decide_true, decide_false, Nat.lt_irrefl, h8, h10, beq_self_eq_true]
  refine ⟨(laid x gx.sz).draw, (laid y gy.sz).draw, (grid_Same x y gx.small).draw, (ref15_Same x y gx.small).draw, ?_⟩
  refine ⟨(laid x gx.sz).draw, (laid x gx.sz).draw, s4.draw, ?_⟩
  exact ⟨_, Sub.refl _⟩
end Go.Sk
end

-- W15m
section
namespace Go.Sk
open Go Go.Proofs

theorem zeroG_small : zeroG.Small := ⟨by decide, ⟨by decide, fun r hr => by cases hr⟩, ⟨by decide, fun l hl => by cases hl⟩⟩
theorem zeroG_sz : zeroG.Sz := ⟨by decide, fun r hr => by cases hr⟩
theorem addG_small {g : Grid} (hg : g.Good) (e : Event) : (addG g e).1.Small ∧ (addG g e).1.Sz := by
  by_cases h : (addG g e).2 = 0
  · exact ⟨(addG_good hg e h).small, (addG_good hg e h).sz⟩
  · have : (addG g e).1 = zeroG := by
      unfold addG at h ⊢
      split
      · rename_i c; rw [if_pos c] at h
        split
        · rename_i c2; rw [if_pos c2] at h; exact absurd rfl h
        · rfl
      · rfl
    rw [this]; exact ⟨zeroG_small, zeroG_sz⟩
theorem conf_good {k w : Int} {sd : List Seed} (h : confV k w sd = 0) : (newV k w sd).Good := by
  unfold confV at h
  split at h
  · simp at h
  · rename_i c
    split at h
    · rename_i c2
      exact newV_good (by omega) (by omega) (by omega) (by omega) (by omega) (fun s hs => List.all_eq_true.1 c2 s hs)
    · simp at h

set_option maxHeartbeats 2000000 in
set_option maxRecDepth 8000 in
theorem law_GridAsked (c : Conf2) (l : List Event) (n0 n1 n2 n3 n4 : Nat) (hn : c.sd.length ≤ 1048576) (hk : c.k < 9223372036854775808) (hw : c.w < 9223372036854775808)
    (hl : ∀ e ∈ l, e.Ok) (ll : l.length ≤ 1048576) (b1 : n1 < 18446744073709551616) (b2 : n2 < 18446744073709551616) :
    CallsR Try.prog 3 [c.av, .p (evsP l), .agg [u64 n0, u64 n1, u64 n2, u64 n3, u64 n4]] noS (fun x _ => x = bl true) := by
  generalize noS = S
  refine callsR_of Try.func3 rfl (xc_ok (bitB 17817583) _ _ _ ?_)
  simp only [go_sem, decide_true, decide_false, Nat.lt_irrefl]
  refine alloc_intro fun c3 h3 => ?_
  simp only [go_sem, decide_true, decide_false, Nat.lt_irrefl]
  refine alloc_intro fun c5 h5 => ?_
  simp only [fresh_set] at h5
  simp only [go_sem, decide_true, decide_false, Nat.lt_irrefl, h5]
  refine awake.useA ?_
  by_cases s20 : (c.sd.length : Int) > 20
  · simp only [go_sem, decide_true, decide_false, Nat.lt_irrefl, h5, s20, List.length_map]
    exact ⟨_, Sub.refl _⟩
  simp only [go_sem, decide_true, decide_false, Nat.lt_irrefl, h5, s20, List.length_map]
  refine (grid_New c.k c.w c.sd (by clear h5; omega)).useA ?_
  have hfin : ∀ y : Grid, y = (if confV c.k c.w c.sd = 0 then newV c.k c.w c.sd else zeroG) → (if confV c.k c.w c.sd = 0 then (newV c.k c.w c.sd).av else zeroG.av) = y.av := by
    rintro y rfl; split <;> rfl
  rw [hfin _ rfl]
  generalize hG : (if confV c.k c.w c.sd = 0 then newV c.k c.w c.sd else zeroG) = G
  simp only [go_sem, decide_true, decide_false, Nat.lt_irrefl, h5]
  refine alloc_intro fun c8 h8 => ?_
  simp only [fresh_set] at h8
  simp only [go_sem, decide_true, decide_false, Nat.lt_irrefl, h5, h8]
  refine (ref15_Conf c.k c.w c.sd (by clear h5 h8; omega)).useA ?_
  simp only [go_sem, decide_true, decide_false, Nat.lt_irrefl, h5, h8, beq_self_eq_true]
  refine AWP.draw2 (bitB 17817583) mixed (by kernel_rfl) (fun j => if j = 17 then G.av else if j = 24 then (newV c.k c.w c.sd).av else bl true) ?_
  by_cases hc0 : confV c.k c.w c.sd = 0
  · have q1 : (confV c.k c.w c.sd != 0) = false := by simpa using hc0
    have q2 : (confV c.k c.w c.sd == 0) = true := by simpa using hc0
    have gN := conf_good hc0
    have hGn : G = newV c.k c.w c.sd := by rw [← hG, if_pos hc0]
    have hNew : Pure Try.prog 13 [i64 c.k, i64 c.w, .p (.sl (c.sd.map Seed.pv))] (newV c.k c.w c.sd).av := by
      obtain ⟨wn, hwn⟩ : ∃ wn : Nat, c.w = wn := ⟨c.w.toNat, by have := gN.w1; change 1 ≤ c.w at this; clear h5 h8; omega⟩
      have := gN.w2; change c.w ≤ 256 at this
      rw [hwn] at this ⊢
      exact ref15_New c.k wn c.sd (by clear h5 h8; omega) (by clear h5 h8; omega)
    have hsm := ref15_Same (newV c.k c.w c.sd) (newV c.k c.w c.sd) gN.small
    rw [decide_eq_true (rfl : newV c.k c.w c.sd = newV c.k c.w c.sd)] at hsm
    have hbk := back (newV c.k c.w c.sd) gN.sz
    clear hG
    subst hGn
    generalize newV c.k c.w c.sd = G at *
    simp only [go_sem, decide_true, decide_false, Nat.lt_irrefl, h5, h8, q1, q2, beq_self_eq_true]
    refine ⟨hbk.draw, hNew.draw, hsm.draw, ?_⟩
    refine (ref15_Made c l (by clear h5 h8; omega) hk hw (by clear h5 h8; omega) hl).useA ?_
    have gx := madeV_good c l
    generalize (madeV c l).1 = x at *
    simp only [go_sem, decide_true, decide_false, Nat.lt_irrefl, h5, h8]
    refine alloc_intro fun c12 h12 => ?_
    simp only [fresh_set] at h12
    simp only [go_sem, decide_true, decide_false, Nat.lt_irrefl, h5, h8, h12]
    refine ⟨by decide, by decide, by decide, by decide, alloc_intro fun c14 h14 => ?_⟩
    simp only [fresh_set] at h14
    have hA := grid_Add x ⟨n0, n1, n2⟩ gx.ok b1 b2
    have hB := ref15_Add x ⟨n0, n1, n2⟩ gx.ok b1 b2
    obtain ⟨sa, za⟩ := addG_small gx ⟨n0, n1, n2⟩
    generalize addG x ⟨n0, n1, n2⟩ = X at *
    simp only [go_sem, decide_true, decide_false, Nat.lt_irrefl, h5, h8, h12, h14]
    refine AWP.draw2 (bitB 17817583) mixed (by kernel_rfl) (fun j => if j = 1 then x.av else .tuple [X.1.av, i64 X.2]) ?_
    simp only [go_sem, decide_true, decide_false, Nat.lt_irrefl, h5, h8, h12, h14]
    refine ⟨(laid x gx.sz).draw, hA.draw, alloc_intro fun c15 h15 => ?_⟩
    simp only [fresh_set] at h15
    simp only [go_sem, decide_true, decide_false, Nat.lt_irrefl, h5, h8, h12, h14, h15]
    refine hB.useA ?_
    simp only [go_sem, decide_true, decide_false, Nat.lt_irrefl, h5, h8, h12, h14, h15]
    refine alloc_intro fun c17 h17 => ?_
    simp only [fresh_set] at h17
    simp only [go_sem, decide_true, decide_false, Nat.lt_irrefl, h5, h8, h12, h14, h15, h17]
    refine ⟨by decide, by decide, ?_⟩
    generalize wi (wi ((n3 % 6 : Nat) : Int) - 1) = rw0
    have hsx := ref15_Same X.1 X.1 sa
    rw [decide_eq_true (rfl : X.1 = X.1)] at hsx
    refine AWP.draw2 (bitB 17817583) mixed (by kernel_rfl) (fun j => if j = 11 then X.1.av else if j = 13 then bl true else if j = 17 then x.av else u64 (rowV x rw0 n1 n0 n4)) ?_
    simp only [go_sem, decide_true, decide_false, Nat.lt_irrefl, h5, h8, h12, h14, h15, h17, beq_self_eq_true]
    refine ⟨(back X.1 za).draw, hsx.draw, (laid x gx.sz).draw, ?_⟩
    repeat' apply And.intro
    all_goals first
      | decide
      | exact (grid_Row x gx.ok rw0 n1 n0 n4 b1).draw
      | exact (ref15_Row x gx.ok rw0 n1 n0 n4 b1).draw
      | exact ⟨_, Sub.refl _⟩
  · have q1 : (confV c.k c.w c.sd != 0) = true := by simpa using hc0
    have hGn : G = zeroG := by rw [← hG, if_neg hc0]
    have q3 : ((G.rows.length : Int) == 0) = true := by rw [hGn]; rfl
    simp only [go_sem, decide_true, decide_false, Nat.lt_irrefl, h5, h8, q1, q3, beq_self_eq_true, List.length_map]
    refine (ref15_Made c l (by clear h5 h8; omega) hk hw (by clear h5 h8; omega) hl).useA ?_
    have gx := madeV_good c l
    generalize (madeV c l).1 = x at *
    simp only [go_sem, decide_true, decide_false, Nat.lt_irrefl, h5, h8]
    refine alloc_intro fun c12 h12 => ?_
    simp only [fresh_set] at h12
    simp only [go_sem, decide_true, decide_false, Nat.lt_irrefl, h5, h8, h12]
    refine ⟨by decide, by decide, by decide, by decide, alloc_intro fun c14 h14 => ?_⟩
    simp only [fresh_set] at h14
    have hA := grid_Add x ⟨n0, n1, n2⟩ gx.ok b1 b2
    have hB := ref15_Add x ⟨n0, n1, n2⟩ gx.ok b1 b2
    obtain ⟨sa, za⟩ := addG_small gx ⟨n0, n1, n2⟩
    generalize addG x ⟨n0, n1, n2⟩ = X at *
    simp only [go_sem, decide_true, decide_false, Nat.lt_irrefl, h5, h8, h12, h14]
    refine AWP.draw2 (bitB 17817583) mixed (by kernel_rfl) (fun j => if j = 1 then x.av else .tuple [X.1.av, i64 X.2]) ?_
    simp only [go_sem, decide_true, decide_false, Nat.lt_irrefl, h5, h8, h12, h14]
    refine ⟨(laid x gx.sz).draw, hA.draw, alloc_intro fun c15 h15 => ?_⟩
    simp only [fresh_set] at h15
    simp only [go_sem, decide_true, decide_false, Nat.lt_irrefl, h5, h8, h12, h14, h15]
    refine hB.useA ?_
    simp only [go_sem, decide_true, decide_false, Nat.lt_irrefl, h5, h8, h12, h14, h15]
    refine alloc_intro fun c17 h17 => ?_
    simp only [fresh_set] at h17
    simp only [go_sem, decide_true, decide_false, Nat.lt_irrefl, h5, h8, h12, h14, h15, h17]
    refine ⟨by decide, by decide, ?_⟩
    generalize wi (wi ((n3 % 6 : Nat) : Int) - 1) = rw0
    have hsx := ref15_Same X.1 X.1 sa
    rw [decide_eq_true (rfl : X.1 = X.1)] at hsx
    refine AWP.draw2 (bitB 17817583) mixed (by kernel_rfl) (fun j => if j = 11 then X.1.av else if j = 13 then bl true else if j = 17 then x.av else u64 (rowV x rw0 n1 n0 n4)) ?_
    simp only [go_sem, decide_true, decide_false, Nat.lt_irrefl, h5, h8, h12, h14, h15, h17, beq_self_eq_true]
    refine ⟨(back X.1 za).draw, hsx.draw, (laid x gx.sz).draw, ?_⟩
    repeat' apply And.intro
    all_goals first
      | decide
      | exact (grid_Row x gx.ok rw0 n1 n0 n4 b1).draw
      | exact (ref15_Row x gx.ok rw0 n1 n0 n4 b1).draw
      | exact ⟨_, Sub.refl _⟩
end Go.Sk
end

-- A17
section
namespace Go.Sk

/-- The cell that an event meets in row i, before and behind it. -/
noncomputable def cellG (g : Grid) (e : Event) (i : Nat) : Hist × Int := addH ((g.rows.getD i []).getD (colN g e.k i) zeroH) e.t e.w
theorem rowsV_at (g : Grid) (e : Event) : ∀ m, m ≤ g.rows.length → (rowsV g e m).2 = 0 → ∀ i, i < m → (cellG g e i).2 = 0 ∧ (rowsV g e m).1.getD i [] = (g.rows.getD i []).set (colN g e.k i) (cellG g e i).1 := by
  intro m
  induction m with
  | zero => intro _ _ i hi; omega
  | succ m ih =>
    intro hm h0 i hi
    have hse : rowsV g e (m + 1) = stepG g e m (rowsV g e m) := rfl
    unfold stepG at hse
    by_cases he : (rowsV g e m).2 = 0
    rotate_left
    · rw [if_neg he] at hse; rw [hse] at h0; exact absurd h0 he
    rw [if_pos he, rowsV_later g e m m (Nat.le_refl _)] at hse
    have hlt : m < (rowsV g e m).1.length := by rw [rowsV_len]; omega
    rw [hse] at h0 ⊢
    by_cases hc : i = m
    · subst hc
      refine ⟨h0, ?_⟩
      simp [List.getD_eq_getElem?_getD, hlt, cellG]
    · obtain ⟨h1, h2⟩ := ih (by omega) he i (by omega)
      refine ⟨h1, ?_⟩
      rw [← h2]
      simp [List.getD_eq_getElem?_getD, List.getElem?_set, Ne.symm hc]
/-- What was added to a good histogram makes another one of it. -/
theorem addH_other {h : Hist} (g : h.Good) {t w : Nat} (e : (addH h t w).2 = 0) : (addH h t w).1 ≠ h ∧ totV (addH h t w).1.ls = m64 (totV h.ls + w) := by
  obtain ⟨h1, _, _, h4⟩ := addH_good g t w e
  have hw : w ≠ 0 := by
    rintro rfl
    unfold addH addV at e
    rw [if_pos rfl] at e; simp at e
  have b1 := g.tot
  have b2 := h1.tot
  refine ⟨fun he => ?_, ?_⟩
  · rw [he] at h4; omega
  · rw [totV_eq (by omega), totV_eq (by omega), h4, m64_id (by omega)]
end Go.Sk
end

-- W15n
section
namespace Go.Sk
open Go Go.Proofs

theorem madeGo_len : ∀ l t g all, (madeGo l t g all).2.length ≤ all.length + l.length := by
  intro l
  induction l with
  | nil => intro t g all; exact Nat.le_refl _
  | cons x r ih =>
    intro t g all
    unfold madeGo
    split
    · refine Nat.le_trans (ih _ _ _) ?_; simp; omega
    · refine Nat.le_trans (ih _ _ _) ?_; simp
theorem madeV_len (c : Conf2) (l : List Event) : (madeV c l).2.length ≤ 20 := by
  refine Nat.le_trans (madeGo_len _ _ _ _) ?_
  rw [List.length_take]; simp; omega
theorem total_good {h : Hist} (g : h.Good) : Pure Try.prog 20 [h.av] (u64 (totV h.ls)) := by
  obtain ⟨k, gg, ls⟩ := h
  exact hist_Total k gg ls (by have := g.len; dsimp only at this; omega)

set_option maxHeartbeats 2000000 in
set_option maxRecDepth 8000 in
theorem law_GridApart (c : Conf2) (l : List Event) (d : Event) (hn : c.sd.length ≤ 1048576) (hk : c.k < 9223372036854775808) (hw : c.w < 9223372036854775808)
    (hl : ∀ e ∈ l, e.Ok) (ll : l.length ≤ 1048576) (hd : d.Ok) :
    CallsR Try.prog 5 [c.av, .p (evsP l), d.av] noS (fun x _ => x = bl true) := by
  generalize noS = S
  refine callsR_of Try.func5 rfl (xc_ok (bitB 5444517870735016019877488994174571380719) _ _ _ ?_)
  simp only [go_sem, decide_true, decide_false, Nat.lt_irrefl]
  refine alloc_intro fun c3 h3 => ?_
  simp only [go_sem, decide_true, decide_false, Nat.lt_irrefl]
  refine alloc_intro fun c5 h5 => ?_
  simp only [fresh_set] at h5
  simp only [go_sem, decide_true, decide_false, Nat.lt_irrefl, h5]
  refine awake.useA ?_
  simp only [go_sem, decide_true, decide_false, Nat.lt_irrefl, h5]
  refine (ref15_Made c l (by clear h5; omega) hk hw (by clear h5; omega) hl).useA ?_
  have gx := madeV_good c l
  have hal : (madeV c l).2.length < 4611686018427387904 := by have := madeV_len c l; clear h5; omega
  obtain ⟨x, hx⟩ : ∃ x, (madeV c l).1 = x := ⟨_, rfl⟩
  obtain ⟨al, hal2⟩ : ∃ al, (madeV c l).2 = al := ⟨_, rfl⟩
  rw [hx] at gx ⊢; rw [hal2] at hal ⊢
  clear hx hal2
  simp only [go_sem, decide_true, decide_false, Nat.lt_irrefl, h5]
  refine alloc_intro fun c8 h8 => ?_
  simp only [fresh_set] at h8
  by_cases ha : (al.length : Int) > 0
  · have q1 : wi ((al.length : Int) - 1) = ((al.length - 1 : Nat) : Int) := by rw [wi_id (by clear h5 h8; omega) (by clear h5 h8; omega)]; clear h5 h8; omega
    have q2 : al.length - 1 < al.length := by clear h5 h8; omega
    simp only [go_sem, decide_true, decide_false, Nat.lt_irrefl, h5, h8, ha, evsP, List.length_map, q1, q2, ltN' q2, getD_map' _ _ _ _ q2]
    refine (laid x gx.sz).useA ?_
    simp only [go_sem, decide_true, decide_false, Nat.lt_irrefl, h5, h8]
    refine alloc_intro fun c11 h11 => ?_
    simp only [fresh_set] at h11
    simp only [go_sem, decide_true, decide_false, Nat.lt_irrefl, h5, h8, h11]
    obtain ⟨T0, hT0⟩ : ∃ T0 : Nat, m64 ((al[al.length - 1]).t + d.t % 100) = T0 := ⟨_, rfl⟩
    simp only [go_sem, decide_true, decide_false, Nat.lt_irrefl, hT0]
    have hG := addG_good gx ⟨T0, d.k, d.w⟩
    have hO := @addG_ok x ⟨T0, d.k, d.w⟩
    have hRA := rowsV_at x ⟨T0, d.k, d.w⟩ x.rows.length (Nat.le_refl _)
    refine (grid_Add x ⟨T0, d.k, d.w⟩ gx.ok hd.k hd.w).useA ?_
    simp only [go_sem, decide_true, decide_false, Nat.lt_irrefl, h5, h8, h11]
    refine alloc_intro fun c12 h12 => ?_
    simp only [fresh_set] at h12
    by_cases ex : (addG x ⟨T0, d.k, d.w⟩).2 = 0
    rotate_left
    · have exb : ((addG x ⟨T0, d.k, d.w⟩).2 != 0) = true := by simpa using ex
      simp only [go_sem, decide_true, decide_false, Nat.lt_irrefl, h5, h8, h11, h12, exb]
      exact ⟨_, Sub.refl _⟩
    have exb : ((addG x ⟨T0, d.k, d.w⟩).2 != 0) = false := by simpa using ex
    obtain ⟨hkey, hr0, hAG⟩ := hO ex
    have hG := hG ex
    have hRA := hRA hr0
    rw [hAG] at exb hG ⊢
    simp only [go_sem, decide_true, decide_false, Nat.lt_irrefl, h5, h8, h11, h12, exb]
    have hHl := rowsV_len x ⟨T0, d.k, d.w⟩ x.rows.length
    have hX0 := rowsV_first x ⟨T0, d.k, d.w⟩ _ hr0
    obtain ⟨H, hH⟩ : ∃ H, (rowsV x ⟨T0, d.k, d.w⟩ x.rows.length).1 = H := ⟨_, rfl⟩
    obtain ⟨XA, hXA⟩ : ∃ XA, addH x.all T0 d.w = XA := ⟨_, rfl⟩
    simp only [hH, hXA] at hG hRA hHl hX0 ⊢
    have gXA : XA.1.Good ∧ totV XA.1.ls = m64 (totV x.all.ls + d.w) := by
      rw [← hXA] at hX0 ⊢
      exact ⟨(addH_good gx.all T0 d.w hX0).1, (addH_other gx.all hX0).2⟩
    clear hAG ex exb hr0 hH hXA
    obtain ⟨V, hV⟩ : ∃ V : Store, V = ((((S.set (.r c3) (.cells [i64 c.k, i64 c.w, .p (.sl (c.sd.map Seed.pv))])).set (.r c5) (.cells [u64 d.t, u64 d.k, u64 d.w])).set (.r c8) (.cells [i64 x.w, .p (.sl (x.sd.map Seed.pv)), .p (.sl (x.rows.map rowE)), i64 x.all.k, i64 x.all.g, .p (.sl (x.all.ls.map lvE))])).set (.r c11) (.cells [i64 x.w, .p (.sl (x.sd.map Seed.pv)), .p (.sl (x.rows.map rowE)), i64 x.all.k, i64 x.all.g, .p (.sl (x.all.ls.map lvE))])).set (.r c12) (.cells [i64 x.w, .p (.sl (x.sd.map Seed.pv)), .p (.sl (H.map rowE)), i64 XA.1.k, i64 XA.1.g, .p (.sl (XA.1.ls.map lvE))]) := ⟨_, rfl⟩
    have v5 : V (.r c5) = some (.cells [u64 d.t, u64 d.k, u64 d.w]) := by rw [hV]; simp only [go_sem, decide_true, decide_false, Nat.lt_irrefl, h5, h8, h11, h12]
    have v8 : V (.r c8) = some (.cells [i64 x.w, .p (.sl (x.sd.map Seed.pv)), .p (.sl (x.rows.map rowE)), i64 x.all.k, i64 x.all.g, .p (.sl (x.all.ls.map lvE))]) := by rw [hV]; simp only [go_sem, decide_true, decide_false, Nat.lt_irrefl, h5, h8, h11, h12]
    have v11 : V (.r c11) = some (.cells [i64 x.w, .p (.sl (x.sd.map Seed.pv)), .p (.sl (x.rows.map rowE)), i64 x.all.k, i64 x.all.g, .p (.sl (x.all.ls.map lvE))]) := by rw [hV]; simp only [go_sem, decide_true, decide_false, Nat.lt_irrefl, h5, h8, h11, h12]
    have v12 : V (.r c12) = some (.cells [i64 x.w, .p (.sl (x.sd.map Seed.pv)), .p (.sl (H.map rowE)), i64 XA.1.k, i64 XA.1.g, .p (.sl (XA.1.ls.map lvE))]) := by rw [hV]; simp only [go_sem, decide_true, decide_false, Nat.lt_irrefl, h5, h8, h11, h12]
    refine AWP.roam (ι := Nat) (fun i => i ≤ H.length) (fun i => ⟨Env.get [(5, .sp c5 0), (7, bl true), (8, .sp c8 0), (11, .sp c11 0), (12, .sp c12 0), (14, i64 i)], V, 146, []⟩) (fun i => H.length - i) 0 (Nat.zero_le _) ?_ ?_
    · refine le_of (by simp only [go_sem, decide_true, decide_false, Nat.lt_irrefl] <;> rfl) ?_ rfl rfl (by simp)
      rw [hV]; exact Sub.refl _
    clear hV h3 h5 h8 h11 h12
    intro i hi ih
    refine AWPH.step (xc_ok (bitB 5444517870735016019877488994174571380719) _ _ _ ?_)
    by_cases ci : i < H.length
    rotate_left
    · simp only [go_sem, decide_true, decide_false, Nat.lt_irrefl, v12, ci, List.length_map]
      refine AWP.draw2 (bitB 5444517870735016019877488994174571380719) mixed (by kernel_rfl) (fun j => if j = 4 then u64 (m64 (totV x.all.ls + d.w)) else u64 (totV x.all.ls)) ?_
      simp only [go_sem, decide_true, decide_false, Nat.lt_irrefl, v5, v11, v12, beq_self_eq_true]
      refine ⟨(gXA.2 ▸ total_good gXA.1).draw, (total_good gx.all).draw, ?_⟩
      exact ⟨_, Sub.refl _⟩
    have cr : i < x.rows.length := by rw [← hHl]; exact ci
    have hcs : i < x.sd.length := by rw [gx.sd]; exact cr
    have hrw : x.rows[i].length = x.w.toNat := gx.wid _ (List.getElem_mem cr)
    have hci : colV x.sd[i] d.k x.w = ((colN x d.k i : Nat) : Int) := by
      unfold colN
      rw [show x.sd.getD i default = x.sd[i] by simp [List.getD_eq_getElem?_getD, hcs], Int.toNat_of_nonneg (colV_nn _ _ _)]
    have hcb : colN x d.k i < x.rows[i].length := by rw [hrw]; exact colN_lt x gx.w1 _ _
    obtain ⟨hc0, hcH⟩ := hRA i cr
    rw [show x.rows.getD i [] = x.rows[i] by simp [List.getD_eq_getElem?_getD, cr]] at hcH
    rw [show H.getD i [] = H[i] by simp [List.getD_eq_getElem?_getD, ci]] at hcH
    have hgo : (x.rows[i][colN x d.k i]).Good := gx.hs _ (List.getElem_mem cr) _ (List.getElem_mem hcb)
    have hcell : cellG x ⟨T0, d.k, d.w⟩ i = addH x.rows[i][colN x d.k i] T0 d.w := by
      unfold cellG
      rw [show x.rows.getD i [] = x.rows[i] by simp [List.getD_eq_getElem?_getD, cr], show (x.rows[i]).getD (colN x d.k i) zeroH = x.rows[i][colN x d.k i] by simp [List.getD_eq_getElem?_getD, hcb]]
    rw [hcell] at hc0 hcH
    obtain ⟨hne, htt⟩ := addH_other hgo hc0
    have hgn := (addH_good hgo T0 d.w hc0).1
    generalize addH x.rows[i][colN x d.k i] T0 d.w = Y at *
    simp only [go_sem, decide_true, decide_false, Nat.lt_irrefl, v8, v5, v12, ci, ltN' ci, hcs, ltN' hcs, getD_map' _ _ _ _ hcs, List.length_map]
    refine AWP.draw2 (bitB 5444517870735016019877488994174571380719) mixed (by kernel_rfl) (fun j => i64 (colN x d.k i)) ?_
    simp only [go_sem, decide_true, decide_false, Nat.lt_irrefl, v8, v5, v12, hcs, ltN' hcs, getD_map' _ _ _ _ hcs]
    refine ⟨hci ▸ (ref04_Column x.sd[i] d.k x.w (Seed.ok_of_may (gx.so _ (List.getElem_mem hcs))) hd.k (by have := gx.w2; omega)).draw, ?_⟩
    have hrl : H[i].length = x.rows[i].length := by rw [hcH, List.length_set]
    refine AWP.roam (ι := Nat) (fun j => j ≤ H[i].length) (fun j => ⟨Env.get [(5, .sp c5 0), (7, bl true), (8, .sp c8 0), (11, .sp c11 0), (12, .sp c12 0), (14, i64 i), (15, i64 (colN x d.k i)), (16, i64 j)], V, 146, []⟩) (fun j => H[i].length - j) 0 (Nat.zero_le _) ?_ ?_
    · exact le_of (by simp only [go_sem, decide_true, decide_false, Nat.lt_irrefl, hci] <;> rfl) (Sub.refl _) rfl rfl (by simp)
    intro j hj jh
    refine AWPH.step (xc_ok (bitB 5444517870735016019877488994174571380719) _ _ _ ?_)
    by_cases cj : j < H[i].length
    rotate_left
    · simp only [go_sem, decide_true, decide_false, Nat.lt_irrefl, v12, ci, ltN' ci, getD_map' _ _ _ _ ci, rowE_mk, rowP, List.length_map, cj]
      refine (ih (i + 1) ci (by omega)).back (Sub.refl _) (by simp) ?_
      simp only [go_sem, decide_true, decide_false, Nat.lt_irrefl, wi_succ (show i < 4611686018427387904 by have := gx.n; omega)]
    have cj2 : j < x.rows[i].length := by rw [← hrl]; exact cj
    have hHg : (H[i][j]).Good := hG.hs _ (List.getElem_mem ci) _ (List.getElem_mem cj)
    have hxg : (x.rows[i][j]).Good := gx.hs _ (List.getElem_mem cr) _ (List.getElem_mem cj2)
    have hqj : wi ((j : Int) + 1) = ((j + 1 : Nat) : Int) := wi_succ (show j < 4611686018427387904 by have := gx.w2; rw [hrw] at cj2; omega)
    have f1 : ((false : Bool) == true) = false := rfl
    have f2 : ((true : Bool) == false) = false := rfl
    have hsame := hist_Same H[i][j] x.rows[i][j] hHg.small
    have htH := total_good hHg
    have htx := total_good hxg
    have hHj : H[i][j] = if j = colN x d.k i then Y.1 else x.rows[i][j] := by
      simp only [hcH, List.getElem_set, eq_comm]
    by_cases jo : j = colN x d.k i
    · have hne2 : ¬ H[i][j] = x.rows[i][j] := by
        rw [hHj, if_pos jo]; subst jo; exact hne
      have htt2 : totV (H[i][j]).ls = m64 (totV (x.rows[i][j]).ls + d.w) := by
        rw [hHj, if_pos jo]; subst jo; exact htt
      rw [decide_eq_false hne2] at hsame
      rw [htt2] at htH
      have g1 : ((j : Int) == ((colN x d.k i : Nat) : Int)) = true := by rw [jo]; exact beq_self_eq_true _
      simp only [go_sem, decide_true, decide_false, Nat.lt_irrefl, v12, ci, ltN' ci, getD_map' _ _ _ _ ci, rowE_mk, rowP, List.length_map, cj]
      refine AWP.draw2 (bitB 5444517870735016019877488994174571380719) mixed (by kernel_rfl) (fun q => bl false) ?_
      simp only [go_sem, decide_true, decide_false, Nat.lt_irrefl, v11, v12, ci, ltN' ci, cr, ltN' cr, cj, ltN' cj, cj2, ltN' cj2, getD_map' _ _ _ _ ci, getD_map' _ _ _ _ cr, getD_map' _ _ _ _ cj, getD_map' _ _ _ _ cj2, rowE_mk, rowP]
      refine ⟨hsame.draw, ?_⟩
      refine AWP.draw2 (bitB 5444517870735016019877488994174571380719) mixed (by kernel_rfl) (fun q => if q = 18 then u64 (m64 (totV (x.rows[i][j]).ls + d.w)) else u64 (totV (x.rows[i][j]).ls)) ?_
      simp only [go_sem, decide_true, decide_false, Nat.lt_irrefl, g1, f1, v5, v11, v12, ci, ltN' ci, cr, ltN' cr, cj, ltN' cj, cj2, ltN' cj2, getD_map' _ _ _ _ ci, getD_map' _ _ _ _ cr, getD_map' _ _ _ _ cj, getD_map' _ _ _ _ cj2, rowE_mk, rowP, bne_self_eq_false]
      refine ⟨htH.draw, htx.draw, ?_⟩
      refine (jh (j + 1) cj (by omega)).back (Sub.refl _) (by simp) ?_
      simp only [go_sem, decide_true, decide_false, Nat.lt_irrefl, hqj]
    · have he2 : H[i][j] = x.rows[i][j] := by rw [hHj, if_neg jo]
      rw [decide_eq_true he2] at hsame
      have g1 : ((j : Int) == ((colN x d.k i : Nat) : Int)) = false := by
        rw [beq_eq_false_iff_ne]; intro e; exact jo (by exact_mod_cast e)
      simp only [go_sem, decide_true, decide_false, Nat.lt_irrefl, v12, ci, ltN' ci, getD_map' _ _ _ _ ci, rowE_mk, rowP, List.length_map, cj]
      refine AWP.draw2 (bitB 5444517870735016019877488994174571380719) mixed (by kernel_rfl) (fun q => bl true) ?_
      simp only [go_sem, decide_true, decide_false, Nat.lt_irrefl, v11, v12, ci, ltN' ci, cr, ltN' cr, cj, ltN' cj, cj2, ltN' cj2, getD_map' _ _ _ _ ci, getD_map' _ _ _ _ cr, getD_map' _ _ _ _ cj, getD_map' _ _ _ _ cj2, rowE_mk, rowP]
      refine ⟨hsame.draw, ?_⟩
      refine AWP.draw2 (bitB 5444517870735016019877488994174571380719) mixed (by kernel_rfl) (fun q => bl true) ?_
      simp only [go_sem, decide_true, decide_false, Nat.lt_irrefl, g1, f2]
      refine (jh (j + 1) cj (by omega)).back (Sub.refl _) (by simp) ?_
      simp only [go_sem, decide_true, decide_false, Nat.lt_irrefl, hqj]
  · simp only [go_sem, decide_true, decide_false, Nat.lt_irrefl, h5, h8, ha, evsP, List.length_map]
    refine (laid x gx.sz).useA ?_
    simp only [go_sem, decide_true, decide_false, Nat.lt_irrefl, h5, h8]
    refine alloc_intro fun c11 h11 => ?_
    simp only [fresh_set] at h11
    simp only [go_sem, decide_true, decide_false, Nat.lt_irrefl, h5, h8, h11]
    obtain ⟨T0, hT0⟩ : ∃ T0 : Nat, m64 (d.t % 100) = T0 := ⟨_, rfl⟩
    simp only [go_sem, decide_true, decide_false, Nat.lt_irrefl, hT0]
    have hG := addG_good gx ⟨T0, d.k, d.w⟩
    have hO := @addG_ok x ⟨T0, d.k, d.w⟩
    have hRA := rowsV_at x ⟨T0, d.k, d.w⟩ x.rows.length (Nat.le_refl _)
    refine (grid_Add x ⟨T0, d.k, d.w⟩ gx.ok hd.k hd.w).useA ?_
    simp only [go_sem, decide_true, decide_false, Nat.lt_irrefl, h5, h8, h11]
    refine alloc_intro fun c12 h12 => ?_
    simp only [fresh_set] at h12
    by_cases ex : (addG x ⟨T0, d.k, d.w⟩).2 = 0
    rotate_left
    · have exb : ((addG x ⟨T0, d.k, d.w⟩).2 != 0) = true := by simpa using ex
      simp only [go_sem, decide_true, decide_false, Nat.lt_irrefl, h5, h8, h11, h12, exb]
      exact ⟨_, Sub.refl _⟩
    have exb : ((addG x ⟨T0, d.k, d.w⟩).2 != 0) = false := by simpa using ex
    obtain ⟨hkey, hr0, hAG⟩ := hO ex
    have hG := hG ex
    have hRA := hRA hr0
    rw [hAG] at exb hG ⊢
    simp only [go_sem, decide_true, decide_false, Nat.lt_irrefl, h5, h8, h11, h12, exb]
    have hHl := rowsV_len x ⟨T0, d.k, d.w⟩ x.rows.length
    have hX0 := rowsV_first x ⟨T0, d.k, d.w⟩ _ hr0
    obtain ⟨H, hH⟩ : ∃ H, (rowsV x ⟨T0, d.k, d.w⟩ x.rows.length).1 = H := ⟨_, rfl⟩
    obtain ⟨XA, hXA⟩ : ∃ XA, addH x.all T0 d.w = XA := ⟨_, rfl⟩
    simp only [hH, hXA] at hG hRA hHl hX0 ⊢
    have gXA : XA.1.Good ∧ totV XA.1.ls = m64 (totV x.all.ls + d.w) := by
      rw [← hXA] at hX0 ⊢
      exact ⟨(addH_good gx.all T0 d.w hX0).1, (addH_other gx.all hX0).2⟩
    clear hAG ex exb hr0 hH hXA
    obtain ⟨V, hV⟩ : ∃ V : Store, V = ((((S.set (.r c3) (.cells [i64 c.k, i64 c.w, .p (.sl (c.sd.map Seed.pv))])).set (.r c5) (.cells [u64 d.t, u64 d.k, u64 d.w])).set (.r c8) (.cells [i64 x.w, .p (.sl (x.sd.map Seed.pv)), .p (.sl (x.rows.map rowE)), i64 x.all.k, i64 x.all.g, .p (.sl (x.all.ls.map lvE))])).set (.r c11) (.cells [i64 x.w, .p (.sl (x.sd.map Seed.pv)), .p (.sl (x.rows.map rowE)), i64 x.all.k, i64 x.all.g, .p (.sl (x.all.ls.map lvE))])).set (.r c12) (.cells [i64 x.w, .p (.sl (x.sd.map Seed.pv)), .p (.sl (H.map rowE)), i64 XA.1.k, i64 XA.1.g, .p (.sl (XA.1.ls.map lvE))]) := ⟨_, rfl⟩
    have v5 : V (.r c5) = some (.cells [u64 d.t, u64 d.k, u64 d.w]) := by rw [hV]; simp only [go_sem, decide_true, decide_false, Nat.lt_irrefl, h5, h8, h11, h12]
    have v8 : V (.r c8) = some (.cells [i64 x.w, .p (.sl (x.sd.map Seed.pv)), .p (.sl (x.rows.map rowE)), i64 x.all.k, i64 x.all.g, .p (.sl (x.all.ls.map lvE))]) := by rw [hV]; simp only [go_sem, decide_true, decide_false, Nat.lt_irrefl, h5, h8, h11, h12]
    have v11 : V (.r c11) = some (.cells [i64 x.w, .p (.sl (x.sd.map Seed.pv)), .p (.sl (x.rows.map rowE)), i64 x.all.k, i64 x.all.g, .p (.sl (x.all.ls.map lvE))]) := by rw [hV]; simp only [go_sem, decide_true, decide_false, Nat.lt_irrefl, h5, h8, h11, h12]
    have v12 : V (.r c12) = some (.cells [i64 x.w, .p (.sl (x.sd.map Seed.pv)), .p (.sl (H.map rowE)), i64 XA.1.k, i64 XA.1.g, .p (.sl (XA.1.ls.map lvE))]) := by rw [hV]; simp only [go_sem, decide_true, decide_false, Nat.lt_irrefl, h5, h8, h11, h12]
    refine AWP.roam (ι := Nat) (fun i => i ≤ H.length) (fun i => ⟨Env.get [(5, .sp c5 0), (7, bl true), (8, .sp c8 0), (11, .sp c11 0), (12, .sp c12 0), (14, i64 i)], V, 146, []⟩) (fun i => H.length - i) 0 (Nat.zero_le _) ?_ ?_
    · refine le_of (by simp only [go_sem, decide_true, decide_false, Nat.lt_irrefl] <;> rfl) ?_ rfl rfl (by simp)
      rw [hV]; exact Sub.refl _
    clear hV h3 h5 h8 h11 h12
    intro i hi ih
    refine AWPH.step (xc_ok (bitB 5444517870735016019877488994174571380719) _ _ _ ?_)
    by_cases ci : i < H.length
    rotate_left
    · simp only [go_sem, decide_true, decide_false, Nat.lt_irrefl, v12, ci, List.length_map]
      refine AWP.draw2 (bitB 5444517870735016019877488994174571380719) mixed (by kernel_rfl) (fun j => if j = 4 then u64 (m64 (totV x.all.ls + d.w)) else u64 (totV x.all.ls)) ?_
      simp only [go_sem, decide_true, decide_false, Nat.lt_irrefl, v5, v11, v12, beq_self_eq_true]
      refine ⟨(gXA.2 ▸ total_good gXA.1).draw, (total_good gx.all).draw, ?_⟩
      exact ⟨_, Sub.refl _⟩
    have cr : i < x.rows.length := by rw [← hHl]; exact ci
    have hcs : i < x.sd.length := by rw [gx.sd]; exact cr
    have hrw : x.rows[i].length = x.w.toNat := gx.wid _ (List.getElem_mem cr)
    have hci : colV x.sd[i] d.k x.w = ((colN x d.k i : Nat) : Int) := by
      unfold colN
      rw [show x.sd.getD i default = x.sd[i] by simp [List.getD_eq_getElem?_getD, hcs], Int.toNat_of_nonneg (colV_nn _ _ _)]
    have hcb : colN x d.k i < x.rows[i].length := by rw [hrw]; exact colN_lt x gx.w1 _ _
    obtain ⟨hc0, hcH⟩ := hRA i cr
    rw [show x.rows.getD i [] = x.rows[i] by simp [List.getD_eq_getElem?_getD, cr]] at hcH
    rw [show H.getD i [] = H[i] by simp [List.getD_eq_getElem?_getD, ci]] at hcH
    have hgo : (x.rows[i][colN x d.k i]).Good := gx.hs _ (List.getElem_mem cr) _ (List.getElem_mem hcb)
    have hcell : cellG x ⟨T0, d.k, d.w⟩ i = addH x.rows[i][colN x d.k i] T0 d.w := by
      unfold cellG
      rw [show x.rows.getD i [] = x.rows[i] by simp [List.getD_eq_getElem?_getD, cr], show (x.rows[i]).getD (colN x d.k i) zeroH = x.rows[i][colN x d.k i] by simp [List.getD_eq_getElem?_getD, hcb]]
    rw [hcell] at hc0 hcH
    obtain ⟨hne, htt⟩ := addH_other hgo hc0
    have hgn := (addH_good hgo T0 d.w hc0).1
    generalize addH x.rows[i][colN x d.k i] T0 d.w = Y at *
    simp only [go_sem, decide_true, decide_false, Nat.lt_irrefl, v8, v5, v12, ci, ltN' ci, hcs, ltN' hcs, getD_map' _ _ _ _ hcs, List.length_map]
    refine AWP.draw2 (bitB 5444517870735016019877488994174571380719) mixed (by kernel_rfl) (fun j => i64 (colN x d.k i)) ?_
    simp only [go_sem, decide_true, decide_false, Nat.lt_irrefl, v8, v5, v12, hcs, ltN' hcs, getD_map' _ _ _ _ hcs]
    refine ⟨hci ▸ (ref04_Column x.sd[i] d.k x.w (Seed.ok_of_may (gx.so _ (List.getElem_mem hcs))) hd.k (by have := gx.w2; omega)).draw, ?_⟩
    have hrl : H[i].length = x.rows[i].length := by rw [hcH, List.length_set]
    refine AWP.roam (ι := Nat) (fun j => j ≤ H[i].length) (fun j => ⟨Env.get [(5, .sp c5 0), (7, bl true), (8, .sp c8 0), (11, .sp c11 0), (12, .sp c12 0), (14, i64 i), (15, i64 (colN x d.k i)), (16, i64 j)], V, 146, []⟩) (fun j => H[i].length - j) 0 (Nat.zero_le _) ?_ ?_
    · exact le_of (by simp only [go_sem, decide_true, decide_false, Nat.lt_irrefl, hci] <;> rfl) (Sub.refl _) rfl rfl (by simp)
    intro j hj jh
    refine AWPH.step (xc_ok (bitB 5444517870735016019877488994174571380719) _ _ _ ?_)
    by_cases cj : j < H[i].length
    rotate_left
    · simp only [go_sem, decide_true, decide_false, Nat.lt_irrefl, v12, ci, ltN' ci, getD_map' _ _ _ _ ci, rowE_mk, rowP, List.length_map, cj]
      refine (ih (i + 1) ci (by omega)).back (Sub.refl _) (by simp) ?_
      simp only [go_sem, decide_true, decide_false, Nat.lt_irrefl, wi_succ (show i < 4611686018427387904 by have := gx.n; omega)]
    have cj2 : j < x.rows[i].length := by rw [← hrl]; exact cj
    have hHg : (H[i][j]).Good := hG.hs _ (List.getElem_mem ci) _ (List.getElem_mem cj)
    have hxg : (x.rows[i][j]).Good := gx.hs _ (List.getElem_mem cr) _ (List.getElem_mem cj2)
    have hqj : wi ((j : Int) + 1) = ((j + 1 : Nat) : Int) := wi_succ (show j < 4611686018427387904 by have := gx.w2; rw [hrw] at cj2; omega)
    have f1 : ((false : Bool) == true) = false := rfl
    have f2 : ((true : Bool) == false) = false := rfl
    have hsame := hist_Same H[i][j] x.rows[i][j] hHg.small
    have htH := total_good hHg
    have htx := total_good hxg
    have hHj : H[i][j] = if j = colN x d.k i then Y.1 else x.rows[i][j] := by
      simp only [hcH, List.getElem_set, eq_comm]
    by_cases jo : j = colN x d.k i
    · have hne2 : ¬ H[i][j] = x.rows[i][j] := by
        rw [hHj, if_pos jo]; subst jo; exact hne
      have htt2 : totV (H[i][j]).ls = m64 (totV (x.rows[i][j]).ls + d.w) := by
        rw [hHj, if_pos jo]; subst jo; exact htt
      rw [decide_eq_false hne2] at hsame
      rw [htt2] at htH
      have g1 : ((j : Int) == ((colN x d.k i : Nat) : Int)) = true := by rw [jo]; exact beq_self_eq_true _
      simp only [go_sem, decide_true, decide_false, Nat.lt_irrefl, v12, ci, ltN' ci, getD_map' _ _ _ _ ci, rowE_mk, rowP, List.length_map, cj]
      refine AWP.draw2 (bitB 5444517870735016019877488994174571380719) mixed (by kernel_rfl) (fun q => bl false) ?_
      simp only [go_sem, decide_true, decide_false, Nat.lt_irrefl, v11, v12, ci, ltN' ci, cr, ltN' cr, cj, ltN' cj, cj2, ltN' cj2, getD_map' _ _ _ _ ci, getD_map' _ _ _ _ cr, getD_map' _ _ _ _ cj, getD_map' _ _ _ _ cj2, rowE_mk, rowP]
      refine ⟨hsame.draw, ?_⟩
      refine AWP.draw2 (bitB 5444517870735016019877488994174571380719) mixed (by kernel_rfl) (fun q => if q = 18 then u64 (m64 (totV (x.rows[i][j]).ls + d.w)) else u64 (totV (x.rows[i][j]).ls)) ?_
      simp only [go_sem, decide_true, decide_false, Nat.lt_irrefl, g1, f1, v5, v11, v12, ci, ltN' ci, cr, ltN' cr, cj, ltN' cj, cj2, ltN' cj2, getD_map' _ _ _ _ ci, getD_map' _ _ _ _ cr, getD_map' _ _ _ _ cj, getD_map' _ _ _ _ cj2, rowE_mk, rowP, bne_self_eq_false]
      refine ⟨htH.draw, htx.draw, ?_⟩
      refine (jh (j + 1) cj (by omega)).back (Sub.refl _) (by simp) ?_
      simp only [go_sem, decide_true, decide_false, Nat.lt_irrefl, hqj]
    · have he2 : H[i][j] = x.rows[i][j] := by rw [hHj, if_neg jo]
      rw [decide_eq_true he2] at hsame
      have g1 : ((j : Int) == ((colN x d.k i : Nat) : Int)) = false := by
        rw [beq_eq_false_iff_ne]; intro e; exact jo (by exact_mod_cast e)
      simp only [go_sem, decide_true, decide_false, Nat.lt_irrefl, v12, ci, ltN' ci, getD_map' _ _ _ _ ci, rowE_mk, rowP, List.length_map, cj]
      refine AWP.draw2 (bitB 5444517870735016019877488994174571380719) mixed (by kernel_rfl) (fun q => bl true) ?_
      simp only [go_sem, decide_true, decide_false, Nat.lt_irrefl, v11, v12, ci, ltN' ci, cr, ltN' cr, cj, ltN' cj, cj2, ltN' cj2, getD_map' _ _ _ _ ci, getD_map' _ _ _ _ cr, getD_map' _ _ _ _ cj, getD_map' _ _ _ _ cj2, rowE_mk, rowP]
      refine ⟨hsame.draw, ?_⟩
      refine AWP.draw2 (bitB 5444517870735016019877488994174571380719) mixed (by kernel_rfl) (fun q => bl true) ?_
      simp only [go_sem, decide_true, decide_false, Nat.lt_irrefl, g1, f2]
      refine (jh (j + 1) cj (by omega)).back (Sub.refl _) (by simp) ?_
      simp only [go_sem, decide_true, decide_false, Nat.lt_irrefl, hqj]
end Go.Sk
end

-- A18
section
namespace Go.Sk

/-- All buckets, the oldest ones first. -/
def flat : List (List Span) → List Span
  | [] => []
  | l :: r => flat r ++ l
theorem flat_tail (ls : List (List Span)) : flat ls = flat ls.tail ++ ls.headD [] := by cases ls <;> simp [flat]
def Bef (x y : Span) : Prop := x.b ≤ y.a
def Mono (W : Nat → Bool) : Prop := ∀ x y, x ≤ y → W x = true → W y = true
def lo (W : Nat → Bool) (l : List Span) : Nat := l.countP (fun s => W s.a)
def hi (W : Nat → Bool) (l : List Span) : Nat := l.countP (fun s => W s.b)
def loL (W : Nat → Bool) : Nat → List (List Span) → Nat
  | _, [] => 0
  | i, l :: r => lo W l * 2 ^ i + loL W (i + 1) r
def hiL (W : Nat → Bool) : Nat → List (List Span) → Nat
  | _, [] => 0
  | i, l :: r => hi W l * 2 ^ i + hiL W (i + 1) r
theorem loL_tail (W : Nat → Bool) (i : Nat) (ls : List (List Span)) : loL W i ls = lo W (ls.headD []) * 2 ^ i + loL W (i + 1) ls.tail := by cases ls <;> simp [loL, lo]
theorem hiL_tail (W : Nat → Bool) (i : Nat) (ls : List (List Span)) : hiL W i ls = hi W (ls.headD []) * 2 ^ i + hiL W (i + 1) ls.tail := by cases ls <;> simp [hiL, hi]
theorem lo_app (W : Nat → Bool) (l m : List Span) : lo W (l ++ m) = lo W l + lo W m := List.countP_append
theorem hi_app (W : Nat → Bool) (l m : List Span) : hi W (l ++ m) = hi W l + hi W m := List.countP_append
theorem lo_rep (W : Nat → Bool) (n t : Nat) : lo W (List.replicate n ⟨t, t⟩) = if W t = true then n else 0 := by unfold lo; rw [List.countP_replicate]
theorem hi_rep (W : Nat → Bool) (n t : Nat) : hi W (List.replicate n ⟨t, t⟩) = if W t = true then n else 0 := by unfold hi; rw [List.countP_replicate]

theorem pairUp_take (l : List Span) : ∀ p, pairUp (l.take (2 * p)) = (pairUp l).take p := by
  induction l using pairUp.induct with
  | case1 a b r ih =>
    intro p
    cases p with
    | zero => simp [pairUp]
    | succ p =>
      rw [show 2 * (p + 1) = 2 * p + 1 + 1 by omega]
      simp only [List.take_succ_cons, pairUp, ih]
  | case2 l h =>
    intro p
    match l, h with
    | [], _ => simp [pairUp]
    | [x], _ =>
      cases p with
      | zero => simp [pairUp]
      | succ p => rw [show 2 * (p + 1) = 2 * p + 1 + 1 by omega]; simp [pairUp]
    | x :: y :: r, h => exact absurd rfl (h x y r)
/-- What leaves a level. -/
theorem pair_all (l add : List Span) (many tick most : Nat) (hm : 1 ≤ most) :
    outsV l most add many tick ++ List.replicate (leftV l most add many) ⟨tick, tick⟩ = pairUp ((lineV l add many tick).take (2 * pairsN (l.length + add.length + many) most)) := by
  rw [pairUp_take]
  have h2 : outsN (l.length + add.length) most many ≤ pairsN (l.length + add.length + many) most := by unfold outsN; omega
  have hlen : (pairUp (lineV l add many tick)).length = (l.length + add.length + many) / 2 := by rw [pairUp_length, lineV_length]
  have hp : pairsN (l.length + add.length + many) most ≤ (l.length + add.length + many) / 2 := by unfold pairsN; omega
  apply List.ext_getElem
  · rw [List.length_append, List.length_replicate, outs_len _ _ _ _ _ hm, List.length_take, hlen]
    unfold leftV; omega
  · intro i h3 h4
    rw [List.length_take, hlen] at h4
    have hol := outs_len l add many tick most hm
    have hi : i < (pairUp (lineV l add many tick)).length := by omega
    rw [List.getElem_take]
    by_cases hc : i < (outsV l most add many tick).length
    · rw [List.getElem_append_left hc]
      exact List.getElem_take
    · rw [List.getElem_append_right (by omega), List.getElem_replicate]
      rw [hol] at hc
      have hj : (l.length + add.length + 1) / 2 ≤ i := by unfold outsN at hc; omega
      rw [pairUp_get _ i hi (by rw [lineV_length]; omega) (by rw [lineV_length]; omega)]
      rw [lineV_ge (by omega), lineV_ge (by omega)]
theorem flow_c (k tick : Nat) (p : Nat → List (List Span) → List Span → List (List Span) → Prop) (h0 : ∀ i, p i [] [] [])
    (h1 : ∀ i ls c out, ¬ (ls = [] ∧ c = []) → p (i + 1) ls.tail (pairUp ((ls.headD [] ++ c).take (2 * pairsN (ls.headD [] ++ c).length (mostN k i)))) out →
      p i ls c ((ls.headD [] ++ c).drop (2 * pairsN (ls.headD [] ++ c).length (mostN k i)) :: out)) :
    ∀ ls i come many, p i ls (come ++ List.replicate many (⟨tick, tick⟩ : Span)) (flowV k tick i ls come many) := by
  refine flow_ind k tick (fun i ls come many => p i ls (come ++ List.replicate many (⟨tick, tick⟩ : Span)) (flowV k tick i ls come many)) ?_ ?_
  · intro i come many h
    rw [flowV_nil h]
    obtain rfl : come = [] := List.eq_nil_of_length_eq_zero (by omega)
    obtain rfl : many = 0 := by simpa using h
    exact h0 i
  · intro i ls come many h ih
    rw [flowV_cons h]
    rw [pair_all _ _ _ _ _ (mostN_pos k i)] at ih
    have e1 : lineV (ls.headD []) come many tick = ls.headD [] ++ (come ++ List.replicate many (⟨tick, tick⟩ : Span)) := by unfold lineV; rw [List.append_assoc]
    have e2 : (ls.headD []).length + come.length + many = (ls.headD [] ++ (come ++ List.replicate many (⟨tick, tick⟩ : Span))).length := by simp; omega
    rw [e2, e1] at ih
    have := h1 i ls (come ++ List.replicate many (⟨tick, tick⟩ : Span)) _ (by
      rintro ⟨rfl, hc⟩
      apply h
      have := congrArg List.length hc
      simp at this
      refine ⟨rfl, ?_⟩
      simp [this]) ih
    unfold stayV
    rw [e2, e1]
    exact this

theorem pairUp_none {l : List Span} (h : ∀ a b r, ¬ l = a :: b :: r) : pairUp l = [] := by
  match l, h with
  | [], _ => rfl
  | [x], _ => rfl
  | x :: y :: r, h => exact absurd rfl (h x y r)
theorem pairUp_mem (P : List Span) : ∀ z ∈ pairUp P, ∃ x ∈ P, ∃ y ∈ P, z = ⟨x.a, y.b⟩ := by
  induction P using pairUp.induct with
  | case1 a b r ih =>
    intro z hz
    rcases List.mem_cons.1 hz with rfl | hz
    · exact ⟨a, by simp, b, by simp, rfl⟩
    · obtain ⟨x, hx, y, hy, rfl⟩ := ih z hz
      exact ⟨x, by simp [hx], y, by simp [hy], rfl⟩
  | case2 l h =>
    intro z hz
    rw [pairUp_none h] at hz; cases hz
theorem pairUp_srt (P : List Span) : P.Pairwise Bef → (∀ s ∈ P, s.a ≤ s.b) → (pairUp P).Pairwise Bef ∧ ∀ s ∈ pairUp P, s.a ≤ s.b := by
  induction P using pairUp.induct with
  | case1 a b r ih =>
    intro h hv
    rw [List.pairwise_cons, List.pairwise_cons] at h
    obtain ⟨h1, h2, h3⟩ := h
    obtain ⟨i1, i2⟩ := ih h3 (fun s hs => hv s (by simp [hs]))
    have hab : a.b ≤ b.a := h1 b (by simp)
    have hva := hv a (by simp); have hvb := hv b (by simp)
    refine ⟨?_, ?_⟩
    · simp only [pairUp, List.pairwise_cons]
      refine ⟨fun z hz => ?_, i1⟩
      obtain ⟨x, hx, y, hy, rfl⟩ := pairUp_mem r z hz
      exact h2 x hx
    · intro s hs
      rcases List.mem_cons.1 hs with rfl | hs
      · show a.a ≤ b.b; omega
      · exact i2 s hs
  | case2 l h =>
    intro _ _
    have : pairUp l = [] := pairUp_none h
    rw [this]; exact ⟨List.Pairwise.nil, fun s hs => (by cases hs)⟩
theorem pairUp_lo (W : Nat → Bool) (hW : Mono W) (P : List Span) : P.Pairwise Bef → (∀ s ∈ P, s.a ≤ s.b) → 2 * lo W (pairUp P) ≤ lo W P := by
  induction P using pairUp.induct with
  | case1 a b r ih =>
    intro h hv
    rw [List.pairwise_cons, List.pairwise_cons] at h
    obtain ⟨h1, h2, h3⟩ := h
    have i1 := ih h3 (fun s hs => hv s (by simp [hs]))
    have hab : a.b ≤ b.a := h1 b (by simp)
    have hva := hv a (by simp)
    unfold lo at i1 ⊢
    simp only [pairUp, List.countP_cons]
    cases hc : W a.a with
    | false => simp; omega
    | true => rw [hW a.a b.a (by omega) hc]; simp; omega
  | case2 l h =>
    intro _ _
    have : pairUp l = [] := pairUp_none h
    rw [this]; simp [lo]
theorem pairUp_hi (W : Nat → Bool) (hW : Mono W) (P : List Span) : P.Pairwise Bef → (∀ s ∈ P, s.a ≤ s.b) → P.length % 2 = 0 → hi W P ≤ 2 * hi W (pairUp P) := by
  induction P using pairUp.induct with
  | case1 a b r ih =>
    intro h hv he
    rw [List.pairwise_cons, List.pairwise_cons] at h
    obtain ⟨h1, h2, h3⟩ := h
    have i1 := ih h3 (fun s hs => hv s (by simp [hs])) (by simp only [List.length_cons] at he; omega)
    have hab : a.b ≤ b.a := h1 b (by simp)
    have hvb := hv b (by simp)
    unfold hi at i1 ⊢
    simp only [pairUp, List.countP_cons]
    cases hc : W b.b with
    | true => cases W a.b <;> simp <;> omega
    | false =>
      have : W a.b = false := by
        cases hd : W a.b with
        | false => rfl
        | true => rw [hW a.b b.b (by omega) hd] at hc; exact hc
      rw [this]; simp; omega
  | case2 l h =>
    intro _ _ he
    match l, h with
    | [], _ => simp [hi]
    | [x], _ => simp at he
    | x :: y :: r, h => exact absurd rfl (h x y r)

theorem flow_tidy (k tick : Nat) : ∀ ls i come many, (flat ls ++ (come ++ List.replicate many (⟨tick, tick⟩ : Span))).Pairwise Bef → (∀ s ∈ flat ls ++ (come ++ List.replicate many (⟨tick, tick⟩ : Span)), s.a ≤ s.b) →
    (flat (flowV k tick i ls come many)).Pairwise Bef ∧ (∀ s ∈ flat (flowV k tick i ls come many), s.a ≤ s.b) ∧
    (∀ m, (∀ s ∈ flat ls ++ (come ++ List.replicate many (⟨tick, tick⟩ : Span)), s.b ≤ m) → ∀ s ∈ flat (flowV k tick i ls come many), s.b ≤ m) ∧
    ∀ W, Mono W → loL W i (flowV k tick i ls come many) ≤ loL W i ls + lo W (come ++ List.replicate many (⟨tick, tick⟩ : Span)) * 2 ^ i ∧
      hiL W i ls + hi W (come ++ List.replicate many (⟨tick, tick⟩ : Span)) * 2 ^ i ≤ hiL W i (flowV k tick i ls come many) := by
  refine flow_c k tick (fun i ls c out => (flat ls ++ c).Pairwise Bef → (∀ s ∈ flat ls ++ c, s.a ≤ s.b) → (flat out).Pairwise Bef ∧ (∀ s ∈ flat out, s.a ≤ s.b) ∧
    (∀ m, (∀ s ∈ flat ls ++ c, s.b ≤ m) → ∀ s ∈ flat out, s.b ≤ m) ∧ ∀ W, Mono W → loL W i out ≤ loL W i ls + lo W c * 2 ^ i ∧ hiL W i ls + hi W c * 2 ^ i ≤ hiL W i out) ?_ ?_
  · intro i _ _
    refine ⟨List.Pairwise.nil, fun s hs => (by cases hs), fun m _ s hs => (by cases hs), fun W _ => ?_⟩
    simp [loL, hiL, lo, hi]
  · intro i ls c out hne ih hs hv
    have hm := mostN_pos k i
    have hq : 2 * pairsN (ls.headD [] ++ c).length (mostN k i) ≤ (ls.headD [] ++ c).length := by unfold pairsN; omega
    rw [flat_tail ls, List.append_assoc] at hs hv
    have hfl : flat ls ++ c = flat ls.tail ++ (ls.headD [] ++ c) := by rw [flat_tail ls, List.append_assoc]
    rw [hfl]
    have hl1 : ∀ W, lo W (ls.headD [] ++ c) = lo W (ls.headD []) + lo W c := fun W => lo_app W _ _
    have hh1 : ∀ W, hi W (ls.headD [] ++ c) = hi W (ls.headD []) + hi W c := fun W => hi_app W _ _
    generalize hL : ls.headD [] ++ c = L at *
    generalize hQ : 2 * pairsN L.length (mostN k i) = q at *
    have hev : q % 2 = 0 := by omega
    have hsp : L.take q ++ L.drop q = L := List.take_append_drop q L
    have hs' := hs
    rw [← hsp, List.pairwise_append, List.pairwise_append] at hs'
    obtain ⟨s1, ⟨s2, s3, s4⟩, s5⟩ := hs'
    have hvL : ∀ s ∈ L, s.a ≤ s.b := fun s h => hv s (List.mem_append_right _ h)
    have hvT : ∀ s ∈ L.take q, s.a ≤ s.b := fun s h => hvL s (List.mem_of_mem_take h)
    obtain ⟨p1, p2⟩ := pairUp_srt (L.take q) s2 hvT
    have cross : ∀ x ∈ flat ls.tail, ∀ z ∈ pairUp (L.take q), Bef x z := by
      intro x hx z hz
      obtain ⟨u, hu, v, hv2, rfl⟩ := pairUp_mem _ z hz
      exact s5 x hx u (by rw [List.take_append_drop]; exact List.mem_of_mem_take hu)
    obtain ⟨i1, i2, i3, i4⟩ := ih (List.pairwise_append.2 ⟨s1, p1, cross⟩) (fun s h => by
      rcases List.mem_append.1 h with h | h
      · exact hv s (List.mem_append_left _ h)
      · exact p2 s h)
    refine ⟨?_, ?_, ?_, ?_⟩
    · show (flat out ++ L.drop q).Pairwise Bef
      refine List.pairwise_append.2 ⟨i1, s3, fun x hx y hy => ?_⟩
      refine i3 y.a (fun s h => ?_) x hx
      rcases List.mem_append.1 h with h | h
      · exact s5 s h y (by rw [List.take_append_drop]; exact List.mem_of_mem_drop hy)
      · obtain ⟨u, hu, v, hv2, rfl⟩ := pairUp_mem _ s h
        exact s4 v hv2 y hy
    · intro s h
      rcases List.mem_append.1 h with h | h
      · exact i2 s h
      · exact hvL s (List.mem_of_mem_drop h)
    · intro m hm2 s h
      rcases List.mem_append.1 h with h | h
      · refine i3 m (fun z hz => ?_) s h
        rcases List.mem_append.1 hz with hz | hz
        · exact hm2 z (List.mem_append_left _ hz)
        · obtain ⟨u, hu, v, hv2, rfl⟩ := pairUp_mem _ z hz
          exact hm2 v (List.mem_append_right _ (List.mem_of_mem_take hv2))
      · exact hm2 s (List.mem_append_right _ (List.mem_of_mem_drop h))
    · intro W hW
      obtain ⟨j1, j2⟩ := i4 W hW
      have k1 := pairUp_lo W hW (L.take q) s2 hvT
      have k2 := pairUp_hi W hW (L.take q) s2 hvT (by rw [List.length_take]; omega)
      have k3 : lo W L = lo W (L.take q) + lo W (L.drop q) := by rw [← lo_app, hsp]
      have k4 : hi W L = hi W (L.take q) + hi W (L.drop q) := by rw [← hi_app, hsp]
      have k5 := hl1 W; have k6 := hh1 W
      rw [loL_tail W i ls, hiL_tail W i ls]
      show lo W (L.drop q) * 2 ^ i + loL W (i + 1) out ≤ _ ∧ _ ≤ hi W (L.drop q) * 2 ^ i + hiL W (i + 1) out
      rw [Nat.pow_succ] at j1 j2
      have m1 : 2 * lo W (pairUp (L.take q)) * 2 ^ i ≤ lo W (L.take q) * 2 ^ i := Nat.mul_le_mul_right _ k1
      have m2 : hi W (L.take q) * 2 ^ i ≤ 2 * hi W (pairUp (L.take q)) * 2 ^ i := Nat.mul_le_mul_right _ k2
      have e1 : lo W (pairUp (L.take q)) * (2 ^ i * 2) = 2 * lo W (pairUp (L.take q)) * 2 ^ i := by rw [Nat.mul_comm (2 ^ i) 2, ← Nat.mul_assoc, Nat.mul_comm _ 2]
      have e2 : hi W (pairUp (L.take q)) * (2 ^ i * 2) = 2 * hi W (pairUp (L.take q)) * 2 ^ i := by rw [Nat.mul_comm (2 ^ i) 2, ← Nat.mul_assoc, Nat.mul_comm _ 2]
      have e3 : lo W (ls.headD []) * 2 ^ i + lo W c * 2 ^ i = lo W (L.take q) * 2 ^ i + lo W (L.drop q) * 2 ^ i := by rw [← Nat.add_mul, ← Nat.add_mul]; congr 1; omega
      have e4 : hi W (ls.headD []) * 2 ^ i + hi W c * 2 ^ i = hi W (L.take q) * 2 ^ i + hi W (L.drop q) * 2 ^ i := by rw [← Nat.add_mul, ← Nat.add_mul]; congr 1; omega
      omega

/-- Each level, but the last one, is full. -/
def Full (k : Nat) : Nat → List (List Span) → Prop
  | _, [] => True
  | i, l :: r => (r ≠ [] → mostN k i ≤ l.length + 1) ∧ Full k (i + 1) r
theorem flow_full (k tick : Nat) : ∀ ls i come many, Full k i ls → Full k i (flowV k tick i ls come many) := by
  intro ls i come many
  refine (flow_c k tick (fun i ls c out => (ls = [] → c = [] → out = []) ∧ (Full k i ls → Full k i out)) ?_ ?_ ls i come many).2
  · intro i; exact ⟨fun _ _ => rfl, id⟩
  · intro i ls c out hne ih
    refine ⟨fun h1 h2 => absurd ⟨h1, h2⟩ hne, fun hf => ?_⟩
    have hm := mostN_pos k i
    refine ⟨fun ho => ?_, ih.2 (by cases ls with | nil => trivial | cons l r => exact hf.2)⟩
    rw [List.length_drop]
    by_cases hp : pairsN (ls.headD [] ++ c).length (mostN k i) = 0
    · rw [hp] at ih ⊢
      have ht : ls.tail ≠ [] := fun ht => ho (ih.1 ht (by simp [pairUp]))
      cases ls with
      | nil => exact absurd rfl ht
      | cons l r => have := hf.1 ht; simp only [List.headD_cons, List.length_append]; omega
    · unfold pairsN at hp ⊢; omega

/-- As a histogram is that no merge made. -/
structure Tidy (k : Nat) (ls : List (List Span)) : Prop where
  srt : (flat ls).Pairwise Bef
  val : ∀ s ∈ flat ls, s.a ≤ s.b
  low : ∀ s ∈ ls.headD [], s.a = s.b
  full : Full k 0 ls
theorem last_le {k : Nat} {ls : List (List Span)} (h : Tidy k ls) (hne : ∀ l ∈ ls, l ≠ []) {t : Nat} (ht : ¬ ((lastV ls).2 = true ∧ t < (lastV ls).1)) : ∀ s ∈ flat ls, s.b ≤ t := by
  cases ls with
  | nil => intro s hs; cases hs
  | cons l r =>
    have hl := hne l (by simp)
    obtain ⟨d, x, rfl⟩ : ∃ d x, l = d ++ [x] := ⟨l.dropLast, l.getLast hl, (List.dropLast_concat_getLast hl).symm⟩
    have hx : lastV ((d ++ [x]) :: r) = (x.b, true) := by simp [lastV]
    rw [hx] at ht
    simp only [true_and] at ht
    have e : flat ((d ++ [x]) :: r) = (flat r ++ d) ++ [x] := by simp [flat]
    have hs := h.srt
    have hv := h.val
    rw [e] at hs hv ⊢
    obtain ⟨_, _, h3⟩ := List.pairwise_append.1 hs
    have hvx := hv x (by simp)
    intro s h
    rcases List.mem_append.1 h with h | h
    · have := h3 s h x (by simp)
      unfold Bef at this; omega
    · simp only [List.mem_singleton] at h; subst h; omega
theorem addV_tidy {h : Hist} (g : h.Good) (hT : Tidy h.k.toNat h.ls) (t w : Nat) (e : (addV h.k.toNat h.g h.ls t w).2 = 0) : Tidy h.k.toNat (addV h.k.toNat h.g h.ls t w).1.ls ∧
    ∀ W, Mono W → loL W 0 (addV h.k.toNat h.g h.ls t w).1.ls ≤ loL W 0 h.ls + (if W t = true then w else 0) ∧ hiL W 0 h.ls + (if W t = true then w else 0) ≤ hiL W 0 (addV h.k.toNat h.g h.ls t w).1.ls := by
  unfold addV at e ⊢
  split
  · rename_i c; rw [if_pos c] at e; simp at e
  rename_i c; rw [if_neg c] at e
  split
  · rename_i c; rw [if_pos c] at e; simp at e
  rename_i c2; rw [if_neg c2] at e
  split
  · rename_i c; rw [if_pos c] at e; simp at e
  have hle := last_le hT g.ne (t := t) (fun hc => c2 (Or.inr hc))
  have hs : (flat h.ls ++ ([] ++ List.replicate w (⟨t, t⟩ : Span))).Pairwise Bef := by
    refine List.pairwise_append.2 ⟨hT.srt, ?_, ?_⟩
    · rw [List.nil_append]; exact List.pairwise_replicate.2 (Or.inr (Nat.le_refl t))
    · intro x hx y hy
      rw [List.nil_append] at hy
      rw [List.eq_of_mem_replicate hy]; exact hle x hx
  have hv : ∀ s ∈ flat h.ls ++ ([] ++ List.replicate w (⟨t, t⟩ : Span)), s.a ≤ s.b := by
    intro s hs
    rcases List.mem_append.1 hs with hs | hs
    · exact hT.val s hs
    · rw [List.nil_append] at hs; rw [List.eq_of_mem_replicate hs]; exact Nat.le_refl _
  obtain ⟨r1, r2, _, r4⟩ := flow_tidy h.k.toNat t h.ls 0 [] w hs hv
  refine ⟨⟨r1, r2, ?_, flow_full _ _ _ _ _ _ hT.full⟩, fun W hW => ?_⟩
  · intro s hs
    dsimp only at hs
    rw [flowV_cons (by rintro ⟨_, h0⟩; simp at h0; exact c h0)] at hs
    simp only [List.headD_cons] at hs
    unfold stayV lineV at hs
    have := List.mem_of_mem_drop hs
    rw [List.append_nil] at this
    rcases List.mem_append.1 this with h1 | h1
    · exact hT.low s h1
    · rw [List.eq_of_mem_replicate h1]
  · have := r4 W hW
    rw [List.nil_append, lo_rep, hi_rep, Nat.pow_zero, Nat.mul_one] at this
    exact this
theorem empty_tidy (k : Nat) : Tidy k [] := ⟨List.Pairwise.nil, fun s hs => (by cases hs), fun s hs => (by cases hs), trivial⟩

/-- Of a level, one bucket at most is cut. -/
theorem cut_one (W : Nat → Bool) (hW : Mono W) : ∀ l : List Span, l.Pairwise Bef → (∀ s ∈ l, s.a ≤ s.b) → hi W l = lo W l ∨ hi W l = lo W l + 1 := by
  intro l
  induction l with
  | nil => intro _ _; exact Or.inl rfl
  | cons x t ih =>
    intro h hv
    rw [List.pairwise_cons] at h
    have hx := hv x (by simp)
    have i := ih h.2 (fun s hs => hv s (by simp [hs]))
    cases hc : W x.b with
    | true =>
      have h1 : lo W t = t.length := by
        unfold lo; rw [List.countP_eq_length]
        intro y hy; exact hW x.b y.a (h.1 y hy) hc
      have h2 : hi W t = t.length := by
        unfold hi; rw [List.countP_eq_length]
        intro y hy; exact hW x.b y.b (Nat.le_trans (h.1 y hy) (hv y (by simp [hy]))) hc
      unfold lo at h1 ⊢
      unfold hi at h2 ⊢
      simp only [List.countP_cons, hc]
      cases W x.a <;> simp <;> omega
    | false =>
      have : W x.a = false := by
        cases hd : W x.a with
        | false => rfl
        | true => rw [hW x.a x.b hx hd] at hc; exact hc
      unfold lo hi at i
      unfold lo hi
      simp only [List.countP_cons, hc, this]
      simpa using i
theorem hi_pos (W : Nat → Bool) : ∀ (ls : List (List Span)) (i : Nat), 0 < hiL W i ls → ∃ s ∈ flat ls, W s.b = true := by
  intro ls
  induction ls with
  | nil => intro i h; simp [hiL] at h
  | cons l r ih =>
    intro i h
    unfold hiL at h
    by_cases hc : hi W l = 0
    · rw [hc] at h
      obtain ⟨s, hs, hb⟩ := ih (i + 1) (by omega)
      exact ⟨s, List.mem_append_left _ hs, hb⟩
    · obtain ⟨s, hs, hb⟩ := List.countP_pos_iff.1 (Nat.pos_of_ne_zero hc)
      exact ⟨s, List.mem_append_right _ hs, hb⟩
theorem cut_all (k : Nat) (W : Nat → Bool) (hW : Mono W) : ∀ (ls : List (List Span)) (i : Nat), (flat ls).Pairwise Bef → (∀ s ∈ flat ls, s.a ≤ s.b) → (i = 0 → ∀ s ∈ ls.headD [], s.a = s.b) → Full k i ls →
    hiL W i ls = loL W i ls ∨ ∃ j, i ≤ j ∧ 1 ≤ j ∧ hiL W i ls = loL W i ls + 2 ^ j ∧ k * 2 ^ j ≤ 2 * loL W i ls + (if i = 0 then 0 else k * 2 ^ i) := by
  intro ls
  induction ls with
  | nil => intro i _ _ _ _; exact Or.inl rfl
  | cons l r ih =>
    intro i hs hv hlow hf
    obtain ⟨s1, s2, s3⟩ := List.pairwise_append.1 (show (flat r ++ l).Pairwise Bef from hs)
    have hvl : ∀ s ∈ l, s.a ≤ s.b := fun s h => hv s (List.mem_append_right _ h)
    have hvr : ∀ s ∈ flat r, s.a ≤ s.b := fun s h => hv s (List.mem_append_left _ h)
    have c1 := cut_one W hW l s2 hvl
    unfold hiL loL
    rcases ih (i + 1) s1 hvr (by omega) hf.2 with hr | ⟨j, hj, hj1, hr, hb⟩
    · rcases c1 with c1 | c1
      · left; rw [c1, hr]
      · right
        by_cases h0 : i = 0
        · exfalso
          have : hi W l = lo W l := by
            unfold hi lo
            apply List.countP_congr
            intro s hs; rw [hlow h0 s hs]
          omega
        · refine ⟨i, Nat.le_refl _, by omega, ?_, ?_⟩
          · rw [c1, hr, Nat.add_mul, Nat.one_mul]; omega
          · rw [if_neg h0]; omega
    · right
      have hpos : 0 < 2 ^ j := Nat.pow_pos (by decide)
      obtain ⟨s, hsm, hsb⟩ := hi_pos W r (i + 1) (by omega)
      have h1 : lo W l = l.length := by
        unfold lo; rw [List.countP_eq_length]
        intro y hy; exact hW s.b y.a (s3 s hsm y hy) hsb
      have h2 : hi W l = l.length := by
        unfold hi; rw [List.countP_eq_length]
        intro y hy; exact hW s.b y.b (Nat.le_trans (s3 s hsm y hy) (hvl y hy)) hsb
      have hrne : r ≠ [] := by rintro rfl; cases hsm
      have hfl := hf.1 hrne
      refine ⟨j, by omega, hj1, by rw [h1, h2, hr]; omega, ?_⟩
      rw [if_neg (by omega), Nat.pow_succ] at hb
      rw [h1]
      unfold mostN at hfl
      by_cases h0 : i = 0
      · subst h0
        rw [if_pos rfl] at hfl ⊢
        simp only [Nat.pow_zero, Nat.one_mul, Nat.mul_one, Nat.zero_add] at hb ⊢
        omega
      · rw [if_neg h0] at hfl ⊢
        have m1 : k * 2 ^ i ≤ 2 * l.length * 2 ^ i := Nat.mul_le_mul_right _ (by omega)
        have e1 : k * (2 ^ i * 2) = k * 2 ^ i + k * 2 ^ i := by rw [Nat.mul_comm (2 ^ i) 2, ← Nat.mul_assoc, Nat.mul_comm k 2, Nat.mul_assoc]; omega
        have e2 : 2 * l.length * 2 ^ i = 2 * (l.length * 2 ^ i) := Nat.mul_assoc _ _ _
        omega
/-- The bound. -/
theorem est_bound {k : Nat} {ls : List (List Span)} (hk : 2 ≤ k) (h : Tidy k ls) (W : Nat → Bool) (hW : Mono W) {R : Nat} (h1 : loL W 0 ls ≤ R) (h2 : R ≤ hiL W 0 ls) :
    (k - 1) * R ≤ k * (loL W 0 ls + (hiL W 0 ls - loL W 0 ls) / 2) ∧ k * (loL W 0 ls + (hiL W 0 ls - loL W 0 ls) / 2) ≤ (k + 1) * R := by
  obtain ⟨k, rfl⟩ : ∃ m, k = m + 1 := ⟨k - 1, by omega⟩
  rcases cut_all (k + 1) W hW ls 0 h.srt h.val (fun _ => h.low) h.full with e | ⟨j, _, hj, e, hb⟩
  · obtain rfl : R = loL W 0 ls := by omega
    rw [e, Nat.sub_self, Nat.zero_div, Nat.add_zero, Nat.add_sub_cancel]
    exact ⟨Nat.mul_le_mul_right _ (by omega), Nat.mul_le_mul_right _ (by omega)⟩
  · obtain ⟨i, rfl⟩ : ∃ i, j = i + 1 := ⟨j - 1, by omega⟩
    rw [if_pos rfl, Nat.pow_succ, Nat.add_zero] at hb
    rw [e, Nat.pow_succ] at h2
    rw [e, Nat.add_sub_cancel_left, Nat.pow_succ, Nat.mul_div_cancel _ (by decide), Nat.add_sub_cancel]
    generalize loL W 0 ls = L at *
    generalize 2 ^ i = c at *
    have e1 : (k + 1) * (c * 2) = 2 * (k * c) + 2 * c := by rw [Nat.add_mul, ← Nat.mul_assoc]; omega
    have m1 : k * R ≤ k * (L + c * 2) := Nat.mul_le_mul_left _ h2
    have e2 : k * (L + c * 2) = k * L + 2 * (k * c) := by rw [Nat.mul_add, ← Nat.mul_assoc]; omega
    have e3 : (k + 1) * (L + c) = k * L + k * c + L + c := by rw [Nat.add_mul, Nat.mul_add]; omega
    have m2 : (k + 1 + 1) * L ≤ (k + 1 + 1) * R := Nat.mul_le_mul_left _ h1
    have e4 : (k + 1 + 1) * L = k * L + 2 * L := by rw [Nat.add_mul, Nat.add_mul]; omega
    omega
end Go.Sk
end

-- W13r
section
namespace Go.Sk
open Go Go.Proofs

noncomputable def withinV (tick span : Nat) (e : Event) : Bool := decide (e.t ≤ tick) && (decide (span > tick) || decide (e.t > sub64 tick span))

noncomputable def sumV (p : Event → Bool) (q : Event → Nat) (n : Nat) (l : List Event) : Nat := l.foldl (fun n e => if p e = true then m64 (n + q e) else n) n
theorem sumV_snoc (p : Event → Bool) (q : Event → Nat) (n : Nat) (l : List Event) (i : Nat) (hi : i < l.length) : sumV p q n (l.take (i + 1)) = if p l[i] = true then m64 (sumV p q n (l.take i) + q l[i]) else sumV p q n (l.take i) := by
  unfold sumV; rw [List.take_succ_eq_append_getElem hi, List.foldl_append]; rfl

/-- Within, and in the column. -/
noncomputable def inV (tick span : Nat) (s : Seed) (w c : Int) (e : Event) : Bool := withinV tick span e && decide (colV s e.k w = c)
noncomputable def colSumV (l : List Event) (tick span : Nat) (s : Seed) (w c : Int) : Nat := sumV (inV tick span s w c) Event.w 0 l

theorem ref13_Within (tick span : Nat) (e : Event) : Pure Try.prog 50 [e.av, u64 tick, u64 span] (bl (withinV tick span e)) := fun S => by
  refine callR_of Try.func50 rfl rfl (xc_ok (bitB 79) _ _ _ ?_)
  simp only [go_sem, decide_true, decide_false, Nat.lt_irrefl]
  refine alloc_intro fun b hb => ?_
  simp only [go_sem, decide_true, decide_false, Nat.lt_irrefl]
  (first | refine dec_split (fun hc => ?_) (fun hc => ?_) | refine gdd_split (fun hc => ?_) (fun hc => ?_) | refine bool_split (fun hc => ?_) (fun hc => ?_) | refine gd_split (fun hc => ?_) (fun hc => ?_)) <;> simp only [go_sem, decide_true, decide_false, Nat.lt_irrefl]
  · (first | refine dec_split (fun hd => ?_) (fun hd => ?_) | refine gdd_split (fun hd => ?_) (fun hd => ?_) | refine bool_split (fun hd => ?_) (fun hd => ?_) | refine gd_split (fun hd => ?_) (fun hd => ?_)) <;> simp only [go_sem, decide_true, decide_false, Nat.lt_irrefl]
    · (refine ⟨S, by (repeat (first | exact Sub.refl _ | refine Sub.setF ?_ (by first | assumption | exact And.right (by assumption) | exact And.right (And.right (by assumption)) | exact And.right (And.right (And.right (by assumption))) | exact And.right (And.right (And.right (And.right (by assumption)))) | exact And.right (And.right (And.right (And.right (And.right (by assumption))))) | exact And.right (And.right (And.right (And.right (And.right (And.right (by assumption)))))) | exact And.right (And.right (And.right (And.right (And.right (And.right (And.right (by assumption))))))) | exact And.right (And.right (And.right (And.right (And.right (And.right (And.right (And.right (by assumption)))))))) | exact And.right (And.right (And.right (And.right (And.right (And.right (And.right (And.right (And.right (by assumption)))))))))) | refine Sub.setV ?_ (by first | assumption | exact And.right (by assumption) | exact And.right (And.right (by assumption)) | exact And.right (And.right (And.right (by assumption))) | exact And.right (And.right (And.right (And.right (by assumption)))) | exact And.right (And.right (And.right (And.right (And.right (by assumption))))) | exact And.right (And.right (And.right (And.right (And.right (And.right (by assumption)))))) | exact And.right (And.right (And.right (And.right (And.right (And.right (And.right (by assumption))))))) | exact And.right (And.right (And.right (And.right (And.right (And.right (And.right (And.right (by assumption)))))))) | exact And.right (And.right (And.right (And.right (And.right (And.right (And.right (And.right (And.right (by assumption)))))))))))), ?_⟩); simp [withinV, hc, hd]
    · (refine ⟨S, by (repeat (first | exact Sub.refl _ | refine Sub.setF ?_ (by first | assumption | exact And.right (by assumption) | exact And.right (And.right (by assumption)) | exact And.right (And.right (And.right (by assumption))) | exact And.right (And.right (And.right (And.right (by assumption)))) | exact And.right (And.right (And.right (And.right (And.right (by assumption))))) | exact And.right (And.right (And.right (And.right (And.right (And.right (by assumption)))))) | exact And.right (And.right (And.right (And.right (And.right (And.right (And.right (by assumption))))))) | exact And.right (And.right (And.right (And.right (And.right (And.right (And.right (And.right (by assumption)))))))) | exact And.right (And.right (And.right (And.right (And.right (And.right (And.right (And.right (And.right (by assumption)))))))))) | refine Sub.setV ?_ (by first | assumption | exact And.right (by assumption) | exact And.right (And.right (by assumption)) | exact And.right (And.right (And.right (by assumption))) | exact And.right (And.right (And.right (And.right (by assumption)))) | exact And.right (And.right (And.right (And.right (And.right (by assumption))))) | exact And.right (And.right (And.right (And.right (And.right (And.right (by assumption)))))) | exact And.right (And.right (And.right (And.right (And.right (And.right (And.right (by assumption))))))) | exact And.right (And.right (And.right (And.right (And.right (And.right (And.right (And.right (by assumption)))))))) | exact And.right (And.right (And.right (And.right (And.right (And.right (And.right (And.right (And.right (by assumption)))))))))))), ?_⟩); simp [withinV, hc, hd]
  · (refine ⟨S, by (repeat (first | exact Sub.refl _ | refine Sub.setF ?_ (by first | assumption | exact And.right (by assumption) | exact And.right (And.right (by assumption)) | exact And.right (And.right (And.right (by assumption))) | exact And.right (And.right (And.right (And.right (by assumption)))) | exact And.right (And.right (And.right (And.right (And.right (by assumption))))) | exact And.right (And.right (And.right (And.right (And.right (And.right (by assumption)))))) | exact And.right (And.right (And.right (And.right (And.right (And.right (And.right (by assumption))))))) | exact And.right (And.right (And.right (And.right (And.right (And.right (And.right (And.right (by assumption)))))))) | exact And.right (And.right (And.right (And.right (And.right (And.right (And.right (And.right (And.right (by assumption)))))))))) | refine Sub.setV ?_ (by first | assumption | exact And.right (by assumption) | exact And.right (And.right (by assumption)) | exact And.right (And.right (And.right (by assumption))) | exact And.right (And.right (And.right (And.right (by assumption)))) | exact And.right (And.right (And.right (And.right (And.right (by assumption))))) | exact And.right (And.right (And.right (And.right (And.right (And.right (by assumption)))))) | exact And.right (And.right (And.right (And.right (And.right (And.right (And.right (by assumption))))))) | exact And.right (And.right (And.right (And.right (And.right (And.right (And.right (And.right (by assumption)))))))) | exact And.right (And.right (And.right (And.right (And.right (And.right (And.right (And.right (And.right (by assumption)))))))))))), ?_⟩); simp [withinV, hc]

structure Row where (s : Seed) (w c : Int)
def Row.pv (r : Row) : List PV := [.int .u64 r.s.a, .int .u64 r.s.b, .int .i64 r.w, .int .i64 r.c]
def Row.av (r : Row) : AV := .agg (r.pv.map .p)
attribute [go_sem] Row.pv Row.av

theorem ref13_In (l : List Event) (tick span : Nat) (r : Row) (hl : l.length < 4611686018427387904) (he : ∀ e ∈ l, e.Ok) (hs : r.s.Ok) (hw : r.w < 9223372036854775808) :
    Pure Try.prog 22 [.p (evsP l), u64 tick, u64 span, r.av] (u64 (colSumV l tick span r.s r.w r.c)) := fun S => by
  refine callR_of Try.func22 rfl rfl (xc_ok (bitB 274877925263) _ _ _ ?_)
  simp only [go_sem, decide_true, decide_false, Nat.lt_irrefl, evsP]
  refine alloc_intro fun b hb => ?_
  simp only [go_sem, decide_true, decide_false, Nat.lt_irrefl]
  refine AWP.iter (fun i => ⟨Env.get [(0, .p (.sl (l.map Event.pv))), (1, u64 tick), (2, u64 span), (7, .sp b 0), (9, u64 (colSumV (l.take i) tick span r.s r.w r.c)), (10, i64 i)], S.set (.r b) (.cells [u64 r.s.a, u64 r.s.b, i64 r.w, i64 r.c]), 47, []⟩) l.length ?_ ?_ ?_
  · exact le_of (by simp only [go_sem, decide_true, decide_false, Nat.lt_irrefl]; simp [colSumV, sumV]) (Sub.refl _) rfl rfl (by simp)
  · intro i hi ih
    have hm := List.getElem_mem hi
    refine AWPH.step (xc_ok (bitB 274877925263) _ _ _ ?_)
    simp only [go_sem, decide_true, decide_false, Nat.lt_irrefl, hi, ltN' hi, getD_map' _ _ _ _ hi]
    refine AWP.draw2 (bitB 274877925263) mixed (by kernel_rfl) (fun j => if j = 6 then bl (withinV tick span l[i]) else i64 (colV r.s l[i].k r.w)) ?_
    simp only [go_sem, decide_true, decide_false, Nat.lt_irrefl, hi, ltN' hi, getD_map' _ _ _ _ hi]
    refine ⟨(ref13_Within tick span l[i]).draw, ?_⟩
    cases hp : withinV tick span l[i]
    · simp only [go_sem, decide_true, decide_false, Nat.lt_irrefl]
      refine ih.back (by (repeat (first | exact Sub.refl _ | refine Sub.setF ?_ (by first | assumption | exact And.right (by assumption) | exact And.right (And.right (by assumption)) | exact And.right (And.right (And.right (by assumption))) | exact And.right (And.right (And.right (And.right (by assumption)))) | exact And.right (And.right (And.right (And.right (And.right (by assumption))))) | exact And.right (And.right (And.right (And.right (And.right (And.right (by assumption)))))) | exact And.right (And.right (And.right (And.right (And.right (And.right (And.right (by assumption))))))) | exact And.right (And.right (And.right (And.right (And.right (And.right (And.right (And.right (by assumption)))))))) | exact And.right (And.right (And.right (And.right (And.right (And.right (And.right (And.right (And.right (by assumption)))))))))) | refine Sub.setV ?_ (by first | assumption | exact And.right (by assumption) | exact And.right (And.right (by assumption)) | exact And.right (And.right (And.right (by assumption))) | exact And.right (And.right (And.right (And.right (by assumption)))) | exact And.right (And.right (And.right (And.right (And.right (by assumption))))) | exact And.right (And.right (And.right (And.right (And.right (And.right (by assumption)))))) | exact And.right (And.right (And.right (And.right (And.right (And.right (And.right (by assumption))))))) | exact And.right (And.right (And.right (And.right (And.right (And.right (And.right (And.right (by assumption)))))))) | exact And.right (And.right (And.right (And.right (And.right (And.right (And.right (And.right (And.right (by assumption))))))))))))) (by simp) ?_
      simp only [go_sem, decide_true, decide_false, Nat.lt_irrefl, colSumV, sumV_snoc _ _ 0 l i hi, inV, hp, Bool.false_and, wi_succ (show i < 4611686018427387904 by omega)]
    · simp only [go_sem, decide_true, decide_false, Nat.lt_irrefl, hi, ltN' hi, getD_map' _ _ _ _ hi]
      refine ⟨(ref04_Column r.s l[i].k r.w hs (he _ hm).k hw).draw, ?_⟩
      cases hc : (colV r.s l[i].k r.w == r.c)
      · have hc' : ¬ colV r.s l[i].k r.w = r.c := by simpa using hc
        simp only [go_sem, decide_true, decide_false, Nat.lt_irrefl, hc]
        refine ih.back (by (repeat (first | exact Sub.refl _ | refine Sub.setF ?_ (by first | assumption | exact And.right (by assumption) | exact And.right (And.right (by assumption)) | exact And.right (And.right (And.right (by assumption))) | exact And.right (And.right (And.right (And.right (by assumption)))) | exact And.right (And.right (And.right (And.right (And.right (by assumption))))) | exact And.right (And.right (And.right (And.right (And.right (And.right (by assumption)))))) | exact And.right (And.right (And.right (And.right (And.right (And.right (And.right (by assumption))))))) | exact And.right (And.right (And.right (And.right (And.right (And.right (And.right (And.right (by assumption)))))))) | exact And.right (And.right (And.right (And.right (And.right (And.right (And.right (And.right (And.right (by assumption)))))))))) | refine Sub.setV ?_ (by first | assumption | exact And.right (by assumption) | exact And.right (And.right (by assumption)) | exact And.right (And.right (And.right (by assumption))) | exact And.right (And.right (And.right (And.right (by assumption)))) | exact And.right (And.right (And.right (And.right (And.right (by assumption))))) | exact And.right (And.right (And.right (And.right (And.right (And.right (by assumption)))))) | exact And.right (And.right (And.right (And.right (And.right (And.right (And.right (by assumption))))))) | exact And.right (And.right (And.right (And.right (And.right (And.right (And.right (And.right (by assumption)))))))) | exact And.right (And.right (And.right (And.right (And.right (And.right (And.right (And.right (And.right (by assumption))))))))))))) (by simp) ?_
        simp only [go_sem, decide_true, decide_false, Nat.lt_irrefl, colSumV, sumV_snoc _ _ 0 l i hi, inV, hp, hc', Bool.true_and, wi_succ (show i < 4611686018427387904 by omega)]
      · have hc' : colV r.s l[i].k r.w = r.c := by simpa using hc
        simp only [go_sem, decide_true, decide_false, Nat.lt_irrefl, hc, hi, ltN' hi, getD_map' _ _ _ _ hi]
        refine ih.back (by (repeat (first | exact Sub.refl _ | refine Sub.setF ?_ (by first | assumption | exact And.right (by assumption) | exact And.right (And.right (by assumption)) | exact And.right (And.right (And.right (by assumption))) | exact And.right (And.right (And.right (And.right (by assumption)))) | exact And.right (And.right (And.right (And.right (And.right (by assumption))))) | exact And.right (And.right (And.right (And.right (And.right (And.right (by assumption)))))) | exact And.right (And.right (And.right (And.right (And.right (And.right (And.right (by assumption))))))) | exact And.right (And.right (And.right (And.right (And.right (And.right (And.right (And.right (by assumption)))))))) | exact And.right (And.right (And.right (And.right (And.right (And.right (And.right (And.right (And.right (by assumption)))))))))) | refine Sub.setV ?_ (by first | assumption | exact And.right (by assumption) | exact And.right (And.right (by assumption)) | exact And.right (And.right (And.right (by assumption))) | exact And.right (And.right (And.right (And.right (by assumption)))) | exact And.right (And.right (And.right (And.right (And.right (by assumption))))) | exact And.right (And.right (And.right (And.right (And.right (And.right (by assumption)))))) | exact And.right (And.right (And.right (And.right (And.right (And.right (And.right (by assumption))))))) | exact And.right (And.right (And.right (And.right (And.right (And.right (And.right (And.right (by assumption)))))))) | exact And.right (And.right (And.right (And.right (And.right (And.right (And.right (And.right (And.right (by assumption))))))))))))) (by simp) ?_
        simp only [go_sem, decide_true, decide_false, Nat.lt_irrefl, colSumV, sumV_snoc _ _ 0 l i hi, inV, hp, hc', Bool.true_and, wi_succ (show i < 4611686018427387904 by omega)]
  · refine AWPH.step (xc_ok (bitB 274877925263) _ _ _ ?_)
    simp only [go_sem, decide_true, decide_false, Nat.lt_irrefl, List.take_length]
    (refine ⟨S, by (repeat (first | exact Sub.refl _ | refine Sub.setF ?_ (by first | assumption | exact And.right (by assumption) | exact And.right (And.right (by assumption)) | exact And.right (And.right (And.right (by assumption))) | exact And.right (And.right (And.right (And.right (by assumption)))) | exact And.right (And.right (And.right (And.right (And.right (by assumption))))) | exact And.right (And.right (And.right (And.right (And.right (And.right (by assumption)))))) | exact And.right (And.right (And.right (And.right (And.right (And.right (And.right (by assumption))))))) | exact And.right (And.right (And.right (And.right (And.right (And.right (And.right (And.right (by assumption)))))))) | exact And.right (And.right (And.right (And.right (And.right (And.right (And.right (And.right (And.right (by assumption)))))))))) | refine Sub.setV ?_ (by first | assumption | exact And.right (by assumption) | exact And.right (And.right (by assumption)) | exact And.right (And.right (And.right (by assumption))) | exact And.right (And.right (And.right (And.right (by assumption)))) | exact And.right (And.right (And.right (And.right (And.right (by assumption))))) | exact And.right (And.right (And.right (And.right (And.right (And.right (by assumption)))))) | exact And.right (And.right (And.right (And.right (And.right (And.right (And.right (by assumption))))))) | exact And.right (And.right (And.right (And.right (And.right (And.right (And.right (And.right (by assumption)))))))) | exact And.right (And.right (And.right (And.right (And.right (And.right (And.right (And.right (And.right (by assumption)))))))))))), ?_⟩); simp
end Go.Sk
end

-- A19
section
namespace Go.Sk

theorem inW_mono (tick span : Nat) : Mono (inW tick span) := by
  intro x y h hx
  unfold inW at *
  simp only [Bool.or_eq_true, decide_eq_true_eq] at *
  omega
theorem lo_le_hi {W : Nat → Bool} (hW : Mono W) {l : List Span} (hv : ∀ s ∈ l, s.a ≤ s.b) : lo W l ≤ hi W l :=
  List.countP_mono_left (fun s hs h => hW _ _ (hv s hs) h)
theorem loL_le_hiL {W : Nat → Bool} (hW : Mono W) : ∀ (ls : List (List Span)) (i : Nat), (∀ s ∈ flat ls, s.a ≤ s.b) → loL W i ls ≤ hiL W i ls := by
  intro ls
  induction ls with
  | nil => intro i _; exact Nat.le_refl _
  | cons l r ih =>
    intro i hv
    have h1 := Nat.mul_le_mul_right (2 ^ i) (lo_le_hi hW (l := l) (fun s hs => hv s (List.mem_append_right _ hs)))
    have h2 := ih (i + 1) (fun s hs => hv s (List.mem_append_left _ hs))
    unfold loL hiL; omega
theorem hiL_le_tot (W : Nat → Bool) : ∀ (ls : List (List Span)) (i : Nat), hiL W i ls ≤ totN i ls := by
  intro ls
  induction ls with
  | nil => intro i; exact Nat.le_refl _
  | cons l r ih =>
    intro i
    have h1 : hi W l * 2 ^ i ≤ l.length * 2 ^ i := Nat.mul_le_mul_right _ List.countP_le_length
    have h2 := ih (i + 1)
    unfold hiL totN; omega
theorem part_level (tick span i : Nat) (hi64 : i < 64) : ∀ (l : List Span), (∀ s ∈ l, s.a ≤ s.b) → ∀ p : Nat × Nat, p.1 + p.2 + l.length * 2 ^ i < 18446744073709551616 →
    partsF tick span p (l.map (fun s => (s, i))) = (p.1 + lo (inW tick span) l * 2 ^ i, p.2 + (hi (inW tick span) l - lo (inW tick span) l) * 2 ^ i) := by
  have hpow : (2 : Nat) ^ i < 18446744073709551616 := by
    have h1 : (2 : Nat) ^ i < 2 ^ 64 := Nat.pow_lt_pow_right (by decide) hi64
    have e : (2 : Nat) ^ 64 = 18446744073709551616 := by decide
    omega
  have hu : units i = 2 ^ i := by unfold units; rw [Nat.min_eq_left (by omega), Nat.one_mul, m64_id hpow]
  intro l
  induction l with
  | nil => intro _ p _; simp [partsF, lo, hi]
  | cons s t ih =>
    intro hv p hp
    have hvs := hv s (by simp)
    have hvt : ∀ s ∈ t, s.a ≤ s.b := fun s hs => hv s (by simp [hs])
    have hlh := lo_le_hi (inW_mono tick span) hvt
    rw [List.length_cons, Nat.add_mul, Nat.one_mul] at hp
    show partsF tick span (partStep tick span p (s, i)) (t.map (fun s => (s, i))) = _
    unfold partStep
    dsimp only
    rw [hu]
    unfold lo hi at ih hlh ⊢
    simp only [List.countP_cons]
    cases ha : inW tick span s.a with
    | true =>
      have hb := inW_mono tick span s.a s.b hvs ha
      rw [if_pos rfl, m64_id (by omega), ih hvt _ (by dsimp only; omega)]
      rw [hb]
      simp only [if_true, Nat.add_sub_add_right, Nat.add_mul, Nat.one_mul]
      congr 1; omega
    | false =>
      cases hb : inW tick span s.b with
      | true =>
        simp only [Bool.false_eq_true, if_false, if_true]
        rw [m64_id (by omega), ih hvt _ (by dsimp only; omega)]
        rw [Nat.add_zero, show ∀ a b : Nat, b ≤ a → a + 1 - b = (a - b) + 1 from fun a b h => by omega]
        · rw [Nat.add_mul, Nat.one_mul]; congr 1; omega
        · exact hlh
      | false =>
        simp only [Bool.false_eq_true, if_false, Nat.add_zero]
        exact ih hvt _ (by omega)
theorem parts_eq (tick span : Nat) : ∀ (ls : List (List Span)) (i : Nat), i + ls.length ≤ 64 → (∀ s ∈ flat ls, s.a ≤ s.b) → ∀ p : Nat × Nat, p.1 + p.2 + totN i ls < 18446744073709551616 →
    partsF tick span p (bucksF i ls) = (p.1 + loL (inW tick span) i ls, p.2 + (hiL (inW tick span) i ls - loL (inW tick span) i ls)) := by
  intro ls
  induction ls with
  | nil => intro i _ _ p _; simp [partsF, bucksF, loL, hiL]
  | cons l r ih =>
    intro i hi64 hv p hp
    have hvl : ∀ s ∈ l, s.a ≤ s.b := fun s hs => hv s (List.mem_append_right _ hs)
    have hvr : ∀ s ∈ flat r, s.a ≤ s.b := fun s hs => hv s (List.mem_append_left _ hs)
    rw [List.length_cons] at hi64
    unfold totN at hp
    have e : partsF tick span p (bucksF i (l :: r)) = partsF tick span (partsF tick span p (l.map (fun s => (s, i)))) (bucksF (i + 1) r) := by
      unfold partsF; rw [← List.foldl_append]; rfl
    have hlo := lo_le_hi (inW_mono tick span) hvl
    have hloL := loL_le_hiL (inW_mono tick span) r (i + 1) hvr
    have m1 : lo (inW tick span) l * 2 ^ i ≤ hi (inW tick span) l * 2 ^ i := Nat.mul_le_mul_right _ hlo
    have m2 : hi (inW tick span) l * 2 ^ i ≤ l.length * 2 ^ i := Nat.mul_le_mul_right _ List.countP_le_length
    rw [e, part_level tick span i (by omega) l hvl p (by omega), Nat.sub_mul, ih (i + 1) (by omega) hvr _ (by dsimp only; omega)]
    dsimp only
    rw [show loL (inW tick span) i (l :: r) = lo (inW tick span) l * 2 ^ i + loL (inW tick span) (i + 1) r from rfl, show hiL (inW tick span) i (l :: r) = hi (inW tick span) l * 2 ^ i + hiL (inW tick span) (i + 1) r from rfl]
    congr 1 <;> omega
/-- The estimate, in plain numbers. -/
theorem est_eq {ls : List (List Span)} (hv : ∀ s ∈ flat ls, s.a ≤ s.b) (hl : ls.length ≤ 64) (ht : totN 0 ls ≤ 4503599627370496) (tick span : Nat) :
    estV ls tick span = loL (inW tick span) 0 ls + (hiL (inW tick span) 0 ls - loL (inW tick span) 0 ls) / 2 ∧ hiL (inW tick span) 0 ls ≤ 4503599627370496 ∧ loL (inW tick span) 0 ls ≤ hiL (inW tick span) 0 ls := by
  have h1 := hiL_le_tot (inW tick span) ls 0
  have h2 := loL_le_hiL (inW_mono tick span) ls 0 hv
  refine ⟨?_, by omega, h2⟩
  unfold estV partsV
  rw [parts_eq tick span ls 0 (by omega) hv (0, 0) (by dsimp only; omega)]
  dsimp only
  rw [Nat.zero_add, Nat.zero_add, m64_id (by omega)]

/-- What came within, of a column. -/
noncomputable def colW (W : Nat → Bool) (s : Seed) (w c : Int) (e : Event) : Nat := if W e.t = true ∧ colV s e.k w = c then e.w else 0
noncomputable def colT (W : Nat → Bool) (s : Seed) (w c : Int) (l : List Event) : Nat := (l.map (colW W s w c)).sum
theorem colT_snoc (W : Nat → Bool) (s : Seed) (w c : Int) (l : List Event) (e : Event) : colT W s w c (l ++ [e]) = colT W s w c l + colW W s w c e := by
  unfold colT; simp
theorem colSum_eq (tick span : Nat) (s : Seed) (w c : Int) : ∀ (l : List Event) (n : Nat), (∀ e ∈ l, e.t ≤ tick) → n + colT (inW tick span) s w c l < 18446744073709551616 →
    sumV (inV tick span s w c) Event.w n l = n + colT (inW tick span) s w c l := by
  intro l
  induction l with
  | nil => intro n _ _; simp [sumV, colT]
  | cons e r ih =>
    intro n ht hn
    have hte := ht e (by simp)
    have e1 : colT (inW tick span) s w c (e :: r) = colW (inW tick span) s w c e + colT (inW tick span) s w c r := by unfold colT; simp
    rw [e1] at hn ⊢
    show sumV _ _ (if inV tick span s w c e = true then m64 (n + e.w) else n) r = _
    have hin : inV tick span s w c e = true ↔ (inW tick span e.t = true ∧ colV s e.k w = c) := by
      unfold inV withinV inW
      simp only [Bool.and_eq_true, decide_eq_true_eq, Bool.or_eq_true]
      constructor
      · rintro ⟨⟨_, h2⟩, h3⟩; exact ⟨by omega, h3⟩
      · rintro ⟨h2, h3⟩; exact ⟨⟨hte, by omega⟩, h3⟩
    unfold colW at hn ⊢
    by_cases hc : inV tick span s w c e = true
    · rw [if_pos (hin.1 hc)] at hn ⊢
      rw [if_pos hc, m64_id (by omega), ih _ (fun x hx => ht x (by simp [hx])) (by omega)]; omega
    · rw [if_neg (fun h => hc (hin.2 h))] at hn ⊢
      rw [if_neg hc, ih _ (fun x hx => ht x (by simp [hx])) (by omega)]; omega

def rowTot (r : List Hist) : Nat := (r.map (fun h => totN 0 h.ls)).sum
theorem rowTot_set : ∀ (r : List Hist) (c : Nat) (x : Hist), c < r.length → rowTot (r.set c x) + totN 0 (r.getD c zeroH).ls = rowTot r + totN 0 x.ls := by
  intro r
  induction r with
  | nil => intro c x h; simp at h
  | cons y t ih =>
    intro c x h
    cases c with
    | zero => simp [rowTot]; omega
    | succ c =>
      have := ih c x (by simpa using h)
      simp only [rowTot, List.set_cons_succ, List.map_cons, List.sum_cons, List.getD_cons_succ] at this ⊢
      omega
theorem rowTot_take (r : List Hist) (j : Nat) (h : j < r.length) : rowTot (r.take (j + 1)) = rowTot (r.take j) + totN 0 r[j].ls := by
  unfold rowTot; rw [List.take_succ_eq_append_getElem h, List.map_append, List.sum_append]; simp only [List.map_cons, List.map_nil, List.sum_cons, List.sum_nil, Nat.add_zero]
theorem rowTot_le (r : List Hist) (j : Nat) : rowTot (r.take j) ≤ rowTot r := by
  have : rowTot (r.take j ++ r.drop j) = rowTot (r.take j) + rowTot (r.drop j) := by
    unfold rowTot; rw [List.map_append, List.sum_append]
  rw [List.take_append_drop] at this
  omega

/-- A cell. -/
def cellOf (g : Grid) (i c : Nat) : Hist := (g.rows.getD i []).getD c zeroH
/-- A grid, and all that came to it. -/
structure Told (k : Int) (g : Grid) (al : List Event) : Prop where
  cell : ∀ i c, i < g.rows.length → c < g.w.toNat → (cellOf g i c).k = k ∧ Tidy k.toNat (cellOf g i c).ls ∧
    ∀ W, Mono W → loL W 0 (cellOf g i c).ls ≤ colT W (g.sd.getD i default) g.w c al ∧ colT W (g.sd.getD i default) g.w c al ≤ hiL W 0 (cellOf g i c).ls
  tot : ∀ i, i < g.rows.length → rowTot (g.rows.getD i []) = totN 0 g.all.ls
  allk : g.all.k = k
theorem addH_tidy {h : Hist} (g : h.Good) (hT : Tidy h.k.toNat h.ls) (t w : Nat) (e : (addH h t w).2 = 0) : Tidy h.k.toNat (addH h t w).1.ls ∧
    ∀ W, Mono W → loL W 0 (addH h t w).1.ls ≤ loL W 0 h.ls + (if W t = true then w else 0) ∧ hiL W 0 h.ls + (if W t = true then w else 0) ≤ hiL W 0 (addH h t w).1.ls := addV_tidy g hT t w e
theorem told_add {k : Int} {g : Grid} {al : List Event} (hT : Told k g al) (hg : g.Good) (e : Event) (h0 : (addG g e).2 = 0) : Told k (addG g e).1 (al ++ [e]) := by
  obtain ⟨hk, hr0, hAG⟩ := addG_ok h0
  rw [hAG]
  have hA := rowsV_at g e g.rows.length (Nat.le_refl _) hr0
  have hl := rowsV_len g e g.rows.length
  have hX := addH_good hg.all e.t e.w (rowsV_first g e _ hr0)
  have hcol : ∀ i, colV (g.sd.getD i default) e.k g.w = ((colN g e.k i : Nat) : Int) := fun i => by
    unfold colN; rw [Int.toNat_of_nonneg (colV_nn _ _ _)]
  have hrl : ∀ i, i < g.rows.length → (g.rows.getD i []).length = g.w.toNat := fun i hi => by
    rw [show g.rows.getD i [] = g.rows[i] by simp [List.getD_eq_getElem?_getD, hi]]; exact hg.wid _ (List.getElem_mem hi)
  have hgc : ∀ i, i < g.rows.length → ∀ c, c < g.w.toNat → (cellOf g i c).Good := fun i hi c hc => by
    have hlc : c < (g.rows[i]).length := by rw [hg.wid _ (List.getElem_mem hi)]; exact hc
    unfold cellOf
    rw [show g.rows.getD i [] = g.rows[i] by simp [List.getD_eq_getElem?_getD, hi], show (g.rows[i]).getD c zeroH = (g.rows[i])[c] by simp [List.getD_eq_getElem?_getD, hlc]]
    exact hg.hs _ (List.getElem_mem hi) _ (List.getElem_mem hlc)
  refine ⟨?_, ?_, ?_⟩
  · intro i c hi hc
    dsimp only at hi hc ⊢
    rw [hl] at hi
    obtain ⟨a1, a2⟩ := hA i hi
    obtain ⟨c1, c2, c3⟩ := hT.cell i c hi hc
    unfold cellOf
    dsimp only
    rw [a2]
    have hcn : colN g e.k i < (g.rows.getD i []).length := by rw [hrl i hi]; exact colN_lt g hg.w1 _ _
    by_cases hcc : c = colN g e.k i
    · subst hcc
      have e1 : ((g.rows.getD i []).set (colN g e.k i) (cellG g e i).1).getD (colN g e.k i) zeroH = (cellG g e i).1 := by
        rw [List.getD_eq_getElem?_getD, List.getElem?_set_self hcn]; rfl
      rw [e1]
      have hgo := hgc i hi _ hc
      obtain ⟨_, b2, _, _⟩ := addH_good hgo e.t e.w a1
      have hkk : (cellOf g i (colN g e.k i)).k.toNat = k.toNat := by rw [c1]
      obtain ⟨d1, d2⟩ := addH_tidy hgo (by rw [hkk]; exact c2) e.t e.w a1
      rw [hkk] at d1
      refine ⟨b2.trans c1, d1, fun W hW => ?_⟩
      obtain ⟨u1, u2⟩ := d2 W hW
      obtain ⟨v1, v2⟩ := c3 W hW
      rw [colT_snoc]
      have ew : colW W (g.sd.getD i default) g.w (colN g e.k i : Nat) e = if W e.t = true then e.w else 0 := by
        unfold colW; rw [hcol i]; simp
      rw [ew]
      exact ⟨Nat.le_trans u1 (Nat.add_le_add_right v1 _), Nat.le_trans (Nat.add_le_add_right v2 _) u2⟩
    · have e1 : ((g.rows.getD i []).set (colN g e.k i) (cellG g e i).1).getD c zeroH = (g.rows.getD i []).getD c zeroH := by
        rw [List.getD_eq_getElem?_getD, List.getElem?_set_ne (Ne.symm hcc), ← List.getD_eq_getElem?_getD]
      rw [e1]
      refine ⟨c1, c2, fun W hW => ?_⟩
      rw [colT_snoc]
      have ew : colW W (g.sd.getD i default) g.w (c : Nat) e = 0 := by
        unfold colW; rw [hcol i, if_neg]
        rintro ⟨_, h⟩
        exact hcc (by exact_mod_cast h.symm)
      rw [ew, Nat.add_zero]
      exact c3 W hW
  · intro i hi
    dsimp only at hi ⊢
    rw [hl] at hi
    obtain ⟨a1, a2⟩ := hA i hi
    rw [a2]
    have hcn : colN g e.k i < (g.rows.getD i []).length := by rw [hrl i hi]; exact colN_lt g hg.w1 _ _
    have h1 := rowTot_set (g.rows.getD i []) (colN g e.k i) (cellG g e i).1 hcn
    have h2 := (addH_good (hgc i hi _ (colN_lt g hg.w1 _ _)) e.t e.w a1).2.2.2
    have h3 := hT.tot i hi
    have h4 := hX.2.2.2
    unfold cellG at h1 ⊢
    unfold cellOf at h2
    omega
  · exact hX.2.1.trans hT.allk
theorem madeGo_told {k : Int} : ∀ l t g al, Grid.Good g → Told k g al → Told k (madeGo l t g al).1 (madeGo l t g al).2 := by
  intro l
  induction l with
  | nil => intro t g al _ h; exact h
  | cons x r ih =>
    intro t g al hg h
    unfold madeGo
    split
    · rename_i c; exact ih _ _ _ (addG_good hg _ c) (told_add h hg _ c)
    · exact ih _ _ _ hg h
theorem tot_empty (k : Int) : ∀ n, rowTot (List.replicate n (emptyH k)) = 0 := by
  intro n; induction n with
  | zero => rfl
  | succ n ih => rw [List.replicate_succ]; unfold rowTot at ih ⊢; simp only [List.map_cons, List.sum_cons, ih]; rfl
theorem newV_told {k w : Int} {sd : List Seed} : Told k (newV k w sd) [] := by
  refine ⟨?_, ?_, rfl⟩
  · intro i c hi hc
    have e1 : cellOf (newV k w sd) i c = emptyH k := by
      unfold cellOf newV at *
      dsimp only at *
      simp only [List.length_replicate] at hi
      rw [List.getD_eq_getElem?_getD, List.getD_eq_getElem?_getD, List.getElem?_replicate, if_pos hi]
      simp only [Option.getD_some]
      rw [List.getElem?_replicate, if_pos hc]; rfl
    rw [e1]
    exact ⟨rfl, empty_tidy _, fun W _ => ⟨Nat.le_refl _, Nat.le_refl _⟩⟩
  · intro i hi
    unfold newV at *
    dsimp only at *
    simp only [List.length_replicate] at hi
    rw [List.getD_eq_getElem?_getD, List.getElem?_replicate, if_pos hi]
    exact tot_empty k _
theorem madeV_told (c : Conf2) (l : List Event) : Told (tameV c).all.k (madeV c l).1 (madeV c l).2 := madeGo_told _ _ _ _ (tameV_good c) newV_told
/-- Each event that came is of few ticks. -/
theorem madeGo_ev : ∀ l t g al, (∀ e ∈ l, Event.Ok e) → (∀ e ∈ al, Event.Ok e ∧ e.t ≤ t) → t + 100 * l.length ≤ 1099511627776 → ∀ e ∈ (madeGo l t g al).2, Event.Ok e ∧ e.t ≤ 1099511627776 := by
  intro l
  induction l with
  | nil => intro t g al _ h ht e he; obtain ⟨h1, h2⟩ := h e he; simp at ht; exact ⟨h1, by omega⟩
  | cons x r ih =>
    intro t g al hl h ht
    rw [List.length_cons] at ht
    have hx := hl x (by simp)
    have h2 : ∀ e ∈ al, Event.Ok e ∧ e.t ≤ t + x.t % 100 := fun e he => ⟨(h e he).1, by have := (h e he).2; omega⟩
    unfold madeGo
    split
    · refine ih _ _ _ (fun e he => hl e (by simp [he])) (fun e he => ?_) (by omega)
      rcases List.mem_append.1 he with he | he
      · exact h2 e he
      · simp only [List.mem_singleton] at he; subst he
        refine ⟨⟨?_, hx.k, hx.w⟩, Nat.le_refl _⟩
        dsimp only; omega
    · exact ih _ _ _ (fun e he => hl e (by simp [he])) h2 (by omega)
theorem madeV_ev (c : Conf2) (l : List Event) (hl : ∀ e ∈ l, Event.Ok e) : ∀ e ∈ (madeV c l).2, Event.Ok e ∧ e.t ≤ 1099511627776 :=
  madeGo_ev _ _ _ _ (fun e he => hl e (List.mem_of_mem_take he)) (fun e he => by cases he) (by rw [List.length_take]; omega)
/-- The bound of a key's cell. -/
theorem cells_bound {k : Int} {g : Grid} {al : List Event} (hT : Told k g al) (hg : g.Good) (ha : ∀ e ∈ al, Event.Ok e ∧ e.t ≤ 1099511627776) (i c : Nat) (hi : i < g.rows.length) (hc : c < g.w.toNat) (span : Nat) :
    ∃ R E, colSumV al 1099511627776 span (g.sd.getD i default) g.w c = R ∧ estV (cellOf g i c).ls 1099511627776 span = E ∧ R ≤ 4503599627370496 ∧ E ≤ 4503599627370496 ∧
      (k.toNat - 1) * R ≤ k.toNat * E ∧ k.toNat * E ≤ (k.toNat + 1) * R := by
  obtain ⟨c1, c2, c3⟩ := hT.cell i c hi hc
  have hlc : c < (g.rows[i]).length := by rw [hg.wid _ (List.getElem_mem hi)]; exact hc
  have hgo : (cellOf g i c).Good := by
    unfold cellOf
    rw [show g.rows.getD i [] = g.rows[i] by simp [List.getD_eq_getElem?_getD, hi], show (g.rows[i]).getD c zeroH = (g.rows[i])[c] by simp [List.getD_eq_getElem?_getD, hlc]]
    exact hg.hs _ (List.getElem_mem hi) _ (List.getElem_mem hlc)
  obtain ⟨e1, e2, e3⟩ := est_eq c2.val (by have := hgo.len; omega) hgo.tot 1099511627776 span
  obtain ⟨b1, b2⟩ := c3 _ (inW_mono 1099511627776 span)
  refine ⟨_, _, ?_, e1, Nat.le_trans b2 e2, by omega, est_bound (by have := hgo.k0; omega) c2 _ (inW_mono _ _) b1 b2⟩
  unfold colSumV
  rw [colSum_eq _ _ _ _ _ _ _ (fun e he => (ha e he).2) (by omega), Nat.zero_add]
end Go.Sk
end

-- W15o
section
namespace Go.Sk
open Go Go.Proofs

set_option maxHeartbeats 2000000 in
set_option maxRecDepth 8000 in
theorem law_GridCells (c : Conf2) (l : List Event) (n0 n1 n2 : Nat) (hn : c.sd.length ≤ 1048576) (hk : c.k < 9223372036854775808) (hw : c.w < 9223372036854775808)
    (hl : ∀ e ∈ l, e.Ok) (ll : l.length ≤ 1048576) (b0 : n0 < 18446744073709551616) :
    CallsR Try.prog 4 [c.av, .p (evsP l), .agg [u64 n0, u64 n1, u64 n2]] noS (fun x _ => x = bl true) := by
  generalize noS = S
  refine callsR_of Try.func4 rfl (xc_ok (bitB 170141183460469231731687312520568111087) _ _ _ ?_)
  simp only [go_sem, decide_true, decide_false, Nat.lt_irrefl]
  refine alloc_intro fun c3 h3 => ?_
  simp only [go_sem, decide_true, decide_false, Nat.lt_irrefl]
  refine alloc_intro fun c5 h5 => ?_
  simp only [fresh_set] at h5
  simp only [go_sem, decide_true, decide_false, Nat.lt_irrefl, h5]
  refine awake.useA ?_
  simp only [go_sem, decide_true, decide_false, Nat.lt_irrefl, h5]
  refine (ref15_Made c l (by clear h5; omega) hk hw (by clear h5; omega) hl).useA ?_
  have gx := madeV_good c l
  have tx := madeV_told c l
  have ex := madeV_ev c l hl
  have hal : (madeV c l).2.length < 4611686018427387904 := by have := madeV_len c l; clear h5; omega
  have hk0 : 0 ≤ (tameV c).all.k ∧ (tameV c).all.k ≤ 1024 := by have := (tameV_good c).all.k0; have := (tameV_good c).all.k1; clear h5; omega
  generalize (tameV c).all.k = K at *
  obtain ⟨x, hx⟩ : ∃ x, (madeV c l).1 = x := ⟨_, rfl⟩
  obtain ⟨al, hal2⟩ : ∃ al, (madeV c l).2 = al := ⟨_, rfl⟩
  rw [hx] at gx tx ⊢; rw [hal2] at hal ex tx ⊢
  clear hx hal2
  obtain ⟨k, rfl⟩ : ∃ k : Nat, K = k := ⟨K.toNat, by clear h5; omega⟩
  have hkk := tx.allk
  simp only [go_sem, decide_true, decide_false, Nat.lt_irrefl, h5]
  refine alloc_intro fun c8 h8 => ?_
  simp only [fresh_set] at h8
  simp only [go_sem, decide_true, decide_false, Nat.lt_irrefl, h5, h8]
  refine (laid x gx.sz).useA ?_
  simp only [go_sem, decide_true, decide_false, Nat.lt_irrefl, h5, h8]
  refine alloc_intro fun c10 h10 => ?_
  simp only [fresh_set] at h10
  simp only [go_sem, decide_true, decide_false, Nat.lt_irrefl, h5, h8, h10]
  obtain ⟨V, hV⟩ : ∃ V : Store, V = (((S.set (.r c3) (.cells [i64 c.k, i64 c.w, .p (.sl (c.sd.map Seed.pv))])).set (.r c5) (.cells [u64 n0, u64 n1, u64 n2])).set (.r c8) (.cells [i64 x.w, .p (.sl (x.sd.map Seed.pv)), .p (.sl (x.rows.map rowE)), i64 x.all.k, i64 x.all.g, .p (.sl (x.all.ls.map lvE))])).set (.r c10) (.cells [i64 x.w, .p (.sl (x.sd.map Seed.pv)), .p (.sl (x.rows.map rowE)), i64 x.all.k, i64 x.all.g, .p (.sl (x.all.ls.map lvE))]) := ⟨_, rfl⟩
  have v5 : V (.r c5) = some (.cells [u64 n0, u64 n1, u64 n2]) := by rw [hV]; simp only [go_sem, decide_true, decide_false, Nat.lt_irrefl, h5, h8, h10]
  have v8 : V (.r c8) = some (.cells [i64 x.w, .p (.sl (x.sd.map Seed.pv)), .p (.sl (x.rows.map rowE)), i64 x.all.k, i64 x.all.g, .p (.sl (x.all.ls.map lvE))]) := by rw [hV]; simp only [go_sem, decide_true, decide_false, Nat.lt_irrefl, h5, h8, h10]
  have v10 : V (.r c10) = some (.cells [i64 x.w, .p (.sl (x.sd.map Seed.pv)), .p (.sl (x.rows.map rowE)), i64 x.all.k, i64 x.all.g, .p (.sl (x.all.ls.map lvE))]) := by rw [hV]; simp only [go_sem, decide_true, decide_false, Nat.lt_irrefl, h5, h8, h10]
  refine AWP.roam (ι := Nat) (fun i => i ≤ x.rows.length) (fun i => ⟨Env.get [(5, .sp c5 0), (7, bl true), (8, .sp c8 0), (9, .p (evsP al)), (10, .sp c10 0), (11, i64 i)], V, 129, []⟩) (fun i => x.rows.length - i) 0 (Nat.zero_le _) ?_ ?_
  · refine le_of (by simp only [go_sem, decide_true, decide_false, Nat.lt_irrefl] <;> rfl) ?_ rfl rfl (by simp)
    rw [hV]; exact Sub.refl _
  clear hV h3 h5 h8 h10
  intro i hi ih
  refine AWPH.step (xc_ok (bitB 170141183460469231731687312520568111087) _ _ _ ?_)
  by_cases ci : i < x.rows.length
  rotate_left
  · simp only [go_sem, decide_true, decide_false, Nat.lt_irrefl, v10, ci, List.length_map]
    exact ⟨_, Sub.refl _⟩
  have cs : i < x.sd.length := by rw [gx.sd]; exact ci
  have hrw : x.rows[i].length = x.w.toNat := gx.wid _ (List.getElem_mem ci)
  have hgd : x.rows.getD i [] = x.rows[i] := by simp [List.getD_eq_getElem?_getD, ci]
  have hsd : x.sd.getD i default = x.sd[i] := by simp [List.getD_eq_getElem?_getD, cs]
  have hrt := tx.tot i ci
  rw [hgd] at hrt
  have hat := gx.all.tot
  have hr0 : rowTot [] = 0 := rfl
  simp only [go_sem, decide_true, decide_false, Nat.lt_irrefl, v10, ci, ltN' ci, List.length_map]
  refine AWP.roam (ι := Nat) (fun j => j ≤ x.rows[i].length) (fun j => ⟨Env.get [(5, .sp c5 0), (7, bl true), (8, .sp c8 0), (9, .p (evsP al)), (10, .sp c10 0), (11, i64 i), (12, u64 (rowTot (x.rows[i].take j))), (13, i64 j)], V, 129, []⟩) (fun j => x.rows[i].length - j) 0 (Nat.zero_le _) ?_ ?_
  · exact le_of (by simp only [go_sem, decide_true, decide_false, Nat.lt_irrefl, List.take_zero, hr0] <;> simp) (Sub.refl _) rfl rfl (by simp)
  intro j hj jh
  refine AWPH.step (xc_ok (bitB 170141183460469231731687312520568111087) _ _ _ ?_)
  by_cases cj : j < x.rows[i].length
  · have hxg : (x.rows[i][j]).Good := gx.hs _ (List.getElem_mem ci) _ (List.getElem_mem cj)
    have htk := rowTot_take x.rows[i] j cj
    have htl := rowTot_le x.rows[i] (j + 1)
    have hxt := hxg.tot
    have hqj : wi ((j : Int) + 1) = ((j + 1 : Nat) : Int) := wi_succ (show j < 4611686018427387904 by have := gx.w2; rw [hrw] at cj; omega)
    have hmm : m64 (rowTot (x.rows[i].take j) + totV (x.rows[i][j]).ls) = rowTot (x.rows[i].take (j + 1)) := by
      rw [totV_eq (by omega), ← htk, m64_id (by omega)]
    simp only [go_sem, decide_true, decide_false, Nat.lt_irrefl, v10, ci, ltN' ci, getD_map' _ _ _ _ ci, rowE_mk, rowP, List.length_map, cj, ltN' cj, getD_map' _ _ _ _ cj]
    refine (total_good hxg).useA ?_
    simp only [go_sem, decide_true, decide_false, Nat.lt_irrefl, hmm]
    refine (jh (j + 1) cj (by omega)).back (Sub.refl _) (by simp) ?_
    simp only [go_sem, decide_true, decide_false, Nat.lt_irrefl, hqj]
  obtain rfl : j = x.rows[i].length := by omega
  have hsum : rowTot (x.rows[i].take x.rows[i].length) = totV x.all.ls := by rw [List.take_length, hrt, totV_eq (by omega)]
  rw [hsum]
  simp only [go_sem, decide_true, decide_false, Nat.lt_irrefl, v10, v8, v5, ci, ltN' ci, cs, ltN' cs, getD_map' _ _ _ _ ci, getD_map' _ _ _ _ cs, rowE_mk, rowP, List.length_map, cj]
  have hso : (x.sd[i]).Ok := Seed.ok_of_may (gx.so _ (List.getElem_mem cs))
  have hcn : colN x n0 i < x.w.toNat := colN_lt x gx.w1 _ _
  have hcv : colV x.sd[i] n0 x.w = ((colN x n0 i : Nat) : Int) := by
    unfold colN; rw [hsd, Int.toNat_of_nonneg (colV_nn _ _ _)]
  have hw256 := gx.w2
  refine AWP.draw2 (bitB 170141183460469231731687312520568111087) mixed (by kernel_rfl) (fun j => i64 (colN x n0 i)) ?_
  simp only [go_sem, decide_true, decide_false, Nat.lt_irrefl, v8, v5, cs, ltN' cs, getD_map' _ _ _ _ cs]
  refine ⟨hcv ▸ (ref04_Column x.sd[i] n0 x.w hso b0 (by omega)).draw, alloc_intro fun c14 h14 => ?_⟩
  have g5 := h14.ne v5
  have g8 := h14.ne v8
  have g10 := h14.ne v10
  simp only [go_sem, decide_true, decide_false, Nat.lt_irrefl, h14, v5, v8, v10, g5, g8, g10]
  refine ⟨by decide, by decide, ?_⟩
  have hlt : (1099511627776 < n1 % 3000) = False := by rw [eq_iff_iff]; exact ⟨fun h => by omega, False.elim⟩
  simp only [hlt, if_false]
  simp only [wu_sub]
  generalize sub64 1099511627776 (n1 % 3000) = span
  obtain ⟨R, Es, hR, hE, hRb, hEb, hB1, hB2⟩ := cells_bound tx gx ex i (colN x n0 i) ci hcn span
  refine (ref13_In al 1099511627776 span ⟨x.sd[i], x.w, (colN x n0 i : Nat)⟩ hal (fun e he => (ex e he).1) hso (by dsimp only; clear h14; omega)).useA ?_
  rw [hsd] at hR
  simp only [go_sem, decide_true, decide_false, Nat.lt_irrefl, h14, v5, v8, v10, g5, g8, g10, hR]
  refine (grid_Row x gx.ok i n0 1099511627776 span b0).useA ?_
  have hrv : rowV x i n0 1099511627776 span = if n0 < 2305843009213693951 then Es else 0 := by
    unfold rowV
    rw [Int.toNat_natCast]
    by_cases hkey : n0 < 2305843009213693951
    · rw [if_pos ⟨Int.natCast_nonneg _, by exact_mod_cast ci, hkey⟩, if_pos hkey]; exact hE
    · rw [if_neg (fun h => hkey h.2.2), if_neg hkey]
  rw [hrv]
  simp only [go_sem, decide_true, decide_false, Nat.lt_irrefl, h14, v5, v8, v10, g5, g8, g10]
  refine (total_good gx.all).useA ?_
  simp only [go_sem, decide_true, decide_false, Nat.lt_irrefl, h14, v5, v8, v10, g5, g8, g10, bne_self_eq_false]
  have hku : IntKind.u64.wrap x.all.k = ((k : Nat) : Int) := by rw [hkk, wrapU]; omega
  have hki := ref04_Key n0
  have hqi : wi ((i : Int) + 1) = ((i + 1 : Nat) : Int) := wi_succ (show i < 4611686018427387904 by have := gx.n; omega)
  by_cases hkey : n0 < 2305843009213693951
  rotate_left
  · rw [decide_eq_false hkey] at hki
    refine hki.useA ?_
    simp only [go_sem, decide_true, decide_false, Nat.lt_irrefl]
    refine (ih (i + 1) ci (by omega)).back (Sub.set (Sub.refl _) (h14) _) (by simp) ?_
    simp only [go_sem, decide_true, decide_false, Nat.lt_irrefl, hqi]
  rw [decide_eq_true hkey] at hki
  refine hki.useA ?_
  simp only [hku, if_pos hkey]
  rw [Int.toNat_natCast] at hB1 hB2
  have hk2 : 2 ≤ k := by have := gx.all.k0; clear h14; omega
  have m1 : k * Es ≤ 1024 * 4503599627370496 := Nat.mul_le_mul (by clear h14; omega) hEb
  have m2 : (k + 1) * R ≤ 1025 * 4503599627370496 := Nat.mul_le_mul (by clear h14; omega) hRb
  have q1 : decide (m64 (k * Es) < m64 (sub64 k 1 * R)) = false := by
    rw [sub64_le (by clear h14; omega) (by clear h14; omega), m64_id (by clear h14; omega), m64_id (by clear h14; omega)]
    exact decide_eq_false (by clear h14; omega)
  have q2 : decide (m64 (m64 (k + 1) * R) < m64 (k * Es)) = false := by
    rw [m64_id (n := k + 1) (by clear h14; omega), m64_id (n := k * Es) (by clear h14; omega), m64_id (by clear h14; omega)]
    exact decide_eq_false (by clear h14; omega)
  simp only [go_sem, decide_true, decide_false, Nat.lt_irrefl, q1, q2]
  refine (ih (i + 1) ci (by omega)).back (Sub.set (Sub.refl _) (h14) _) (by simp) ?_
  simp only [go_sem, decide_true, decide_false, Nat.lt_irrefl, hqi]
end Go.Sk
end

-- L15
section
namespace Go.Sk
open Go Go.Proofs Go.ChangeShapes Go.WideShapes Go.ChangeAt Go.RowKit

theorem fit_events {N : Nat} {pv : PV} (h : Fit N (.sl [.int .u64, .int .u64, .int .u64]) pv) : ∃ l : List Event, pv = evsP l ∧ (∀ e ∈ l, e.Ok) ∧ l.length ≤ N := by
  refine fit_list (pvf := Event.pv) (ok := Event.Ok) h (fun l hl hf => ?_)
  obtain ⟨a, b, c, rfl, ha, hb, hc⟩ := fit_three hl hf
  obtain ⟨x, hx, rfl⟩ := fit_u64 ha
  obtain ⟨y, hy, rfl⟩ := fit_u64 hb
  obtain ⟨z, hz, rfl⟩ := fit_u64 hc
  exact ⟨⟨x, y, z⟩, rfl, hx, hy, hz⟩
theorem fit_seeds {N : Nat} {pv : PV} (h : Fit N (.sl [.int .u64, .int .u64]) pv) : ∃ l : List Seed, pv = .sl (l.map Seed.pv) ∧ (∀ e ∈ l, e.Ok) ∧ l.length ≤ N := by
  refine fit_list (pvf := Seed.pv) (ok := Seed.Ok) h (fun l hl hf => ?_)
  obtain ⟨a, b, rfl, ha, hb⟩ := fit_two hl hf
  obtain ⟨x, hx, rfl⟩ := fit_u64 ha
  obtain ⟨y, hy, rfl⟩ := fit_u64 hb
  exact ⟨⟨x, y⟩, rfl, hx, hy⟩
theorem shEvents : shOf Try.prog 8 25 = some [.sl [.int .u64, .int .u64, .int .u64]] := by kernel_rfl
theorem shConfs : shOf Try.prog 8 70 = some [.int .i64, .int .i64, .sl [.int .u64, .int .u64], .int .i64, .int .i64, .sl [.int .u64, .int .u64]] := by kernel_rfl

structure Conf2.Ok (c : Conf2) : Prop where
  k : c.k < 9223372036854775808
  w : c.w < 9223372036854775808
  k0 : -9223372036854775808 ≤ c.k
  w0 : -9223372036854775808 ≤ c.w
  so : ∀ s ∈ c.sd, s.Ok
  n : c.sd.length ≤ 1048576
section
variable {H : Type} {enc : TypeId × Value → H}
set_option maxRecDepth 100000 in
theorem arg_events {W : World} {base N : Nat} {v : Value} {d : DataW H} {p : List MemPlace} (hok : Value.okWide Try.prog W .any base 25 v) (h : DataW.Trod enc Try.prog W 0 (fun _ => true) true 25 v d p) (hN : Ytjiechgnlcpllaa.Rows.uptoBulk d ≤ N) :
    ∃ l : List Event, (∀ e ∈ l, e.Ok) ∧ l.length ≤ N ∧ RepA (allD W) W v (.p (evsP l)) := by
  obtain ⟨a, n, c, rfl⟩ := okWide_slice Try.underlying25 hok
  obtain ⟨pv, hf, hr⟩ := arg_one (N := N) (f := 8) (bulkOk H) shEvents (fun c h => by cases h) h hN
  obtain ⟨l, rfl, h1, h2⟩ := fit_events hf
  exact ⟨l, h1, h2, hr⟩
set_option maxRecDepth 100000 in
theorem arg_confs {W : World} {base : Nat} {v : Value} {d : DataW H} {p : List MemPlace} (hok : Value.okWide Try.prog W .any base 70 v) (h : DataW.Trod enc Try.prog W 0 (fun _ => true) true 70 v d p) (hN : Ytjiechgnlcpllaa.Rows.uptoBulk d ≤ 1048576) :
    ∃ c d : Conf2, c.Ok ∧ d.Ok ∧ RepA (allD W) W v (.agg [i64 c.k, i64 c.w, .p (.sl (c.sd.map Seed.pv)), i64 d.k, i64 d.w, .p (.sl (d.sd.map Seed.pv))]) := by
  obtain ⟨pvs, hl, hf, hr⟩ := arg_agg (N := 1048576) (f := 8) (bulkOk H) shConfs (by rw [Try.underlying70]) hok h hN
  match pvs, hl with
  | [a, b, c, d, e, f], _ =>
    obtain ⟨x, ⟨hx0, hx⟩, e1⟩ := fit_i64 (hf 0 (by simp))
    obtain ⟨y, ⟨hy0, hy⟩, e2⟩ := fit_i64 (hf 1 (by simp))
    obtain ⟨s, e3, hs, hsn⟩ := fit_seeds (hf 2 (by simp))
    obtain ⟨z, ⟨hz0, hz⟩, e4⟩ := fit_i64 (hf 3 (by simp))
    obtain ⟨w, ⟨hw0, hw⟩, e5⟩ := fit_i64 (hf 4 (by simp))
    obtain ⟨t, e6, ht, htn⟩ := fit_seeds (hf 5 (by simp))
    simp at e1 e2 e3 e4 e5 e6
    subst e1; subst e2; subst e3; subst e4; subst e5; subst e6
    exact ⟨⟨x, y, s⟩, ⟨z, w, t⟩, ⟨hx, hy, hx0, hy0, hs, hsn⟩, ⟨hz, hw, hz0, hw0, ht, htn⟩, hr⟩
end
namespace gridSame
set_option maxRecDepth 100000 in
theorem contract (H : Type) (enc : TypeId × Value → H) (W : World) (base : Nat) (args : Array Value) (ds gs : List (DataW H)) (before : List MemPlace)
    (hval : ∀ (j : Nat) t v, Try.f6.params[j]? = some t → args[j]? = some v → Value.okWide Try.prog W .any base t v)
    (hW : DataW.Whole enc Try.prog Try.f6.params.toList Ytjiechgnlcpllaa.Rows.gridSameSpec.vars false W args.toList ds gs before) (hk : Ytjiechgnlcpllaa.Rows.uptoSmall H (ds ++ gs) = true) :
    Calls Try.prog 6 args W fun e W' => ∃ v, e = .returned v ∧ Ytjiechgnlcpllaa.Rows.gridSameSpec.post enc Try.prog Try.f6 false true false false W args v W' := by
  have hW' := hW
  obtain ⟨p, q, hA0, hV, rfl, hfz, hnd⟩ := hW
  have hA : DataW.TrodAll enc Try.prog W 0 (fun _ => true) true Try.f6.params.toList args.toList ds p := hA0
  rw [Try.params6] at hA hval
  obtain ⟨v0, vs0, d0, ds0, p0, q0, hargs, rfl, rfl, h0, r0⟩ := trodAll_cons hA
  obtain ⟨v1, vs1, d1, ds1, p1, q1, rfl, rfl, rfl, h1, r1⟩ := trodAll_cons r0
  obtain ⟨v2, vs2, d2, ds2, p2, q2, rfl, rfl, rfl, h2, r2⟩ := trodAll_cons r1
  obtain ⟨rfl, rfl, rfl⟩ := trodAll_nil r2
  obtain ⟨rfl, rfl⟩ := trodVars_none hV
  obtain rfl : args = #[v0, v1, v2] := by cases args; simp_all
  have hb : Ytjiechgnlcpllaa.Rows.uptoBulkAll ([d0, d1, d2] ++ []) ≤ 1048576 := of_decide_eq_true hk
  obtain ⟨b0, hb⟩ := small_cons hb
  obtain ⟨b1, hb⟩ := small_cons hb
  obtain ⟨b2, hb⟩ := small_cons hb
  obtain ⟨c, d, hc, hd, rep0⟩ := arg_confs (hval 0 70 v0 rfl rfl) h0 b0
  obtain ⟨l, hl, ll, rep1⟩ := arg_events (hval 1 25 v1 rfl rfl) h1 b1
  obtain ⟨k, hk, kl, rep2⟩ := arg_events (hval 2 25 v2 rfl rfl) h2 b2
  refine ((law_GridSame c d l k hc.n hc.k hc.w hd.n hd.k hd.w hl ll hk kl) (allD W) W #[v0, v1, v2] (rel_all W) ⟨rfl, fun i hi => ?_⟩).mono ?_
  · match i, hi with
    | 0, _ => exact rep0
    | 1, _ => exact rep1
    | 2, _ => exact rep2
  · rintro e W' ⟨v, rfl, x, S', D', rfl, _, hrep, hE⟩
    cases hrep with
    | p hrep =>
    cases hrep
    exact ⟨_, rfl, bridge kids full hW' rfl (by rw [Try.params6]; decide) rfl Try.underlying4 rfl rfl rfl hE.still⟩

set_option maxRecDepth 100000 in
theorem lifted (os : Os) (started : os.Started) (H : Type) (enc : TypeId × Value → H) (F : Stop.Interp) :
    ReturnsInHanded {} Try.checked os 6 .any ((Ytjiechgnlcpllaa.Rows.OpenSpec.upto Ytjiechgnlcpllaa.Rows.gridSameSpec).pre6 enc Try.prog Try.f6 Ytjiechgnlcpllaa.Rows.gridSameUptoRow.domain false) (((Ytjiechgnlcpllaa.Rows.OpenSpec.upto Ytjiechgnlcpllaa.Rows.gridSameSpec).at F).post enc Try.prog Try.f6 false true false false) := by
  refine returnsInHanded_of_cond (C := Try.checked) (s := Ytjiechgnlcpllaa.Rows.OpenSpec.upto Ytjiechgnlcpllaa.Rows.gridSameSpec) (k := Ytjiechgnlcpllaa.Rows.uptoSmall) rfl own started (by kernel_rfl) Try.func6
    (OpenSpec.witness (enc := enc) (C := Try.checked) (s := Ytjiechgnlcpllaa.Rows.OpenSpec.upto Ytjiechgnlcpllaa.Rows.gridSameSpec) (k := Ytjiechgnlcpllaa.Rows.uptoSmall) rfl false ⟨#[], #[.agg #[.int .i64 0, .int .i64 0, .slice none 0 0, .int .i64 0, .int .i64 0, .slice none 0 0], .slice none 0 0, .slice none 0 0], []⟩ 12 (by kernel_rfl) (by kernel_rfl) (by kernel_rfl)
      (x := ([.agg [.agg [.lit (.int .i64 0), .lit (.int .i64 0), .nil], .agg [.lit (.int .i64 0), .lit (.int .i64 0), .nil]], .nil, .nil], [], [])) (by kernel_rfl) rfl (by kernel_rfl)) ?_
  intro W base args ds gs before hval hW _ hk _
  exact contract H enc W base args ds gs before hval hW hk

theorem j1 : (Ytjiechgnlcpllaa.Rows.gridSameUptoRow.inPlace == Try.prog.inPlace 6) = true := by kernel_rfl
theorem j2 : (Ytjiechgnlcpllaa.Rows.gridSameUptoRow.unfollowed == Try.prog.unfollowed 6) = true := by kernel_rfl
theorem j3 : (Ytjiechgnlcpllaa.Rows.gridSameUptoRow.recurses == Try.prog.recurses 6) = true := by kernel_rfl
theorem j4 : (Ytjiechgnlcpllaa.Rows.gridSameUptoRow.named == Try.prog.varsNamed 6) = true := by kernel_rfl
theorem j5 : (Ytjiechgnlcpllaa.Rows.gridSameUptoRow.plainKeys == Try.prog.plainKeys) = true := by kernel_rfl
theorem j6 : (Ytjiechgnlcpllaa.Rows.gridSameUptoRow.lifted == Try.prog.liftsFinal) = true := by kernel_rfl
theorem j7 : (Try.prog.make == some Ytjiechgnlcpllaa.Rows.gridSameUptoRow.make) = true := by kernel_rfl
set_option maxRecDepth 100000 in
theorem jf : joinedFacts Try.prog 6 Try.f6 (Ytjiechgnlcpllaa.Rows.OpenSpec.upto Ytjiechgnlcpllaa.Rows.gridSameSpec).bare Ytjiechgnlcpllaa.Rows.gridSameUptoRow = true := by
  unfold joinedFacts
  exact and_ok (and_ok (and_ok (and_ok (and_ok (and_ok (and_ok (and_ok (and_ok (and_ok (and_ok (and_ok (and_ok (and_ok (and_ok (and_ok (and_ok (and_ok (and_ok (and_ok (and_ok (and_ok (and_ok (and_ok (and_ok (and_ok (and_ok (and_ok (and_ok (and_ok (and_ok (by kernel_rfl) j_laid) j_maps) (by kernel_rfl)) (by kernel_rfl)) (by kernel_rfl)) (by kernel_rfl)) (by kernel_rfl)) (by kernel_rfl)) j1) j2) j3) j4) (by kernel_rfl)) (by kernel_rfl)) (by kernel_rfl)) (by kernel_rfl)) (by kernel_rfl)) (by kernel_rfl)) (by kernel_rfl)) (by kernel_rfl)) (by kernel_rfl)) j5) (by kernel_rfl)) j_heard) j_enter) j6) j7) (by kernel_rfl)) (by kernel_rfl)) (by kernel_rfl)) (by kernel_rfl)
end gridSame
theorem _root_.Go.Proofs.Ytjiechgnlcpllaa.gridSame_proved : Ytjiechgnlcpllaa.Rows.GridSameUptoSaid :=
  OpenClaim.holds_of_cond 6 Try.f6 rfl rfl rfl rfl rfl rfl rfl ⟨rfl, rfl, rfl, rfl, rfl⟩ rfl rfl rfl rfl rfl (by kernel_rfl) Try.func6 gridSame.jf
    (of_decide_eq_true (by kernel_rfl)) (by unfold Func.isWrapper; first | (rw [if_pos (by decide +kernel)]; kernel_rfl) | (rw [if_neg (by decide +kernel)]; exact ⟨rfl, rfl⟩))
    (fun os started H enc _ F => gridSame.lifted os started H enc F)
#print axioms Go.Proofs.Ytjiechgnlcpllaa.gridSame_proved
end Go.Sk
end

-- L15b
section
namespace Go.Sk
open Go Go.Proofs Go.ChangeShapes Go.WideShapes Go.ChangeAt Go.RowKit

theorem shConf : shOf Try.prog 8 24 = some [.int .i64, .int .i64, .sl [.int .u64, .int .u64]] := by kernel_rfl
theorem shFive : shOf Try.prog 8 27 = some [.int .u64, .int .u64, .int .u64, .int .u64, .int .u64] := by kernel_rfl
section
variable {H : Type} {enc : TypeId × Value → H}
set_option maxRecDepth 100000 in
theorem arg_conf {W : World} {base : Nat} {v : Value} {d : DataW H} {p : List MemPlace} (hok : Value.okWide Try.prog W .any base 24 v) (h : DataW.Trod enc Try.prog W 0 (fun _ => true) true 24 v d p) (hN : Ytjiechgnlcpllaa.Rows.uptoBulk d ≤ 1048576) :
    ∃ c : Conf2, c.Ok ∧ RepA (allD W) W v c.av := by
  obtain ⟨pvs, hl, hf, hr⟩ := arg_agg (N := 1048576) (f := 8) (bulkOk H) shConf (by rw [Try.underlying24]) hok h hN
  match pvs, hl with
  | [a, b, c], _ =>
    obtain ⟨x, ⟨hx0, hx⟩, e1⟩ := fit_i64 (hf 0 (by simp))
    obtain ⟨y, ⟨hy0, hy⟩, e2⟩ := fit_i64 (hf 1 (by simp))
    obtain ⟨s, e3, hs, hsn⟩ := fit_seeds (hf 2 (by simp))
    simp at e1 e2 e3
    subst e1; subst e2; subst e3
    exact ⟨⟨x, y, s⟩, ⟨hx, hy, hx0, hy0, hs, hsn⟩, hr⟩
set_option maxRecDepth 100000 in
theorem arg_five {W : World} {base N : Nat} {v : Value} {d : DataW H} {p : List MemPlace} (hok : Value.okWide Try.prog W .any base 27 v) (h : DataW.Trod enc Try.prog W 0 (fun _ => true) true 27 v d p) (hN : Ytjiechgnlcpllaa.Rows.uptoBulk d ≤ N) :
    ∃ n0 n1 n2 n3 n4 : Nat, n0 < 18446744073709551616 ∧ n1 < 18446744073709551616 ∧ n2 < 18446744073709551616 ∧ RepA (allD W) W v (.agg [u64 n0, u64 n1, u64 n2, u64 n3, u64 n4]) := by
  obtain ⟨pvs, hl, hf, hr⟩ := arg_agg (N := N) (f := 8) (bulkOk H) shFive (by rw [Try.underlying27]) hok h hN
  match pvs, hl with
  | [a, b, c, d, e], _ =>
    obtain ⟨x0, h0, e0⟩ := fit_u64 (hf 0 (by simp))
    obtain ⟨x1, h1, e1⟩ := fit_u64 (hf 1 (by simp))
    obtain ⟨x2, h2, e2⟩ := fit_u64 (hf 2 (by simp))
    obtain ⟨x3, h3, e3⟩ := fit_u64 (hf 3 (by simp))
    obtain ⟨x4, h4, e4⟩ := fit_u64 (hf 4 (by simp))
    simp at e0 e1 e2 e3 e4
    subst e0; subst e1; subst e2; subst e3; subst e4
    exact ⟨x0, x1, x2, x3, x4, h0, h1, h2, hr⟩
end
namespace gridAsked
set_option maxRecDepth 100000 in
theorem contract (H : Type) (enc : TypeId × Value → H) (W : World) (base : Nat) (args : Array Value) (ds gs : List (DataW H)) (before : List MemPlace)
    (hval : ∀ (j : Nat) t v, Try.f3.params[j]? = some t → args[j]? = some v → Value.okWide Try.prog W .any base t v)
    (hW : DataW.Whole enc Try.prog Try.f3.params.toList Ytjiechgnlcpllaa.Rows.gridAskedSpec.vars false W args.toList ds gs before) (hk : Ytjiechgnlcpllaa.Rows.uptoSmall H (ds ++ gs) = true) :
    Calls Try.prog 3 args W fun e W' => ∃ v, e = .returned v ∧ Ytjiechgnlcpllaa.Rows.gridAskedSpec.post enc Try.prog Try.f3 false true false false W args v W' := by
  have hW' := hW
  obtain ⟨p, q, hA0, hV, rfl, hfz, hnd⟩ := hW
  have hA : DataW.TrodAll enc Try.prog W 0 (fun _ => true) true Try.f3.params.toList args.toList ds p := hA0
  rw [Try.params3] at hA hval
  obtain ⟨v0, vs0, d0, ds0, p0, q0, hargs, rfl, rfl, h0, r0⟩ := trodAll_cons hA
  obtain ⟨v1, vs1, d1, ds1, p1, q1, rfl, rfl, rfl, h1, r1⟩ := trodAll_cons r0
  obtain ⟨v2, vs2, d2, ds2, p2, q2, rfl, rfl, rfl, h2, r2⟩ := trodAll_cons r1
  obtain ⟨rfl, rfl, rfl⟩ := trodAll_nil r2
  obtain ⟨rfl, rfl⟩ := trodVars_none hV
  obtain rfl : args = #[v0, v1, v2] := by cases args; simp_all
  have hb : Ytjiechgnlcpllaa.Rows.uptoBulkAll ([d0, d1, d2] ++ []) ≤ 1048576 := of_decide_eq_true hk
  obtain ⟨b0, hb⟩ := small_cons hb
  obtain ⟨b1, hb⟩ := small_cons hb
  obtain ⟨b2, hb⟩ := small_cons hb
  obtain ⟨c, hc, rep0⟩ := arg_conf (hval 0 24 v0 rfl rfl) h0 b0
  obtain ⟨l, hl, ll, rep1⟩ := arg_events (hval 1 25 v1 rfl rfl) h1 b1
  obtain ⟨n0, n1, n2, n3, n4, _, b1, b2, rep2⟩ := arg_five (hval 2 27 v2 rfl rfl) h2 b2
  refine ((law_GridAsked c l n0 n1 n2 n3 n4 hc.n hc.k hc.w hl ll b1 b2) (allD W) W #[v0, v1, v2] (rel_all W) ⟨rfl, fun i hi => ?_⟩).mono ?_
  · match i, hi with
    | 0, _ => exact rep0
    | 1, _ => exact rep1
    | 2, _ => exact rep2
  · rintro e W' ⟨v, rfl, x, S', D', rfl, _, hrep, hE⟩
    cases hrep with
    | p hrep =>
    cases hrep
    exact ⟨_, rfl, bridge kids full hW' rfl (by rw [Try.params3]; decide) rfl Try.underlying4 rfl rfl rfl hE.still⟩

set_option maxRecDepth 100000 in
theorem lifted (os : Os) (started : os.Started) (H : Type) (enc : TypeId × Value → H) (F : Stop.Interp) :
    ReturnsInHanded {} Try.checked os 3 .any ((Ytjiechgnlcpllaa.Rows.OpenSpec.upto Ytjiechgnlcpllaa.Rows.gridAskedSpec).pre6 enc Try.prog Try.f3 Ytjiechgnlcpllaa.Rows.gridAskedUptoRow.domain false) (((Ytjiechgnlcpllaa.Rows.OpenSpec.upto Ytjiechgnlcpllaa.Rows.gridAskedSpec).at F).post enc Try.prog Try.f3 false true false false) := by
  refine returnsInHanded_of_cond (C := Try.checked) (s := Ytjiechgnlcpllaa.Rows.OpenSpec.upto Ytjiechgnlcpllaa.Rows.gridAskedSpec) (k := Ytjiechgnlcpllaa.Rows.uptoSmall) rfl own started (by kernel_rfl) Try.func3
    (OpenSpec.witness (enc := enc) (C := Try.checked) (s := Ytjiechgnlcpllaa.Rows.OpenSpec.upto Ytjiechgnlcpllaa.Rows.gridAskedSpec) (k := Ytjiechgnlcpllaa.Rows.uptoSmall) rfl false ⟨#[], #[.agg #[.int .i64 0, .int .i64 0, .slice none 0 0], .slice none 0 0, .agg #[.int .u64 0, .int .u64 0, .int .u64 0, .int .u64 0, .int .u64 0]], []⟩ 12 (by kernel_rfl) (by kernel_rfl) (by kernel_rfl)
      (x := ([.agg [.lit (.int .i64 0), .lit (.int .i64 0), .nil], .nil, .agg [.lit (.int .u64 0), .lit (.int .u64 0), .lit (.int .u64 0), .lit (.int .u64 0), .lit (.int .u64 0)]], [], [])) (by kernel_rfl) rfl (by kernel_rfl)) ?_
  intro W base args ds gs before hval hW _ hk _
  exact contract H enc W base args ds gs before hval hW hk

theorem j1 : (Ytjiechgnlcpllaa.Rows.gridAskedUptoRow.inPlace == Try.prog.inPlace 3) = true := by kernel_rfl
theorem j2 : (Ytjiechgnlcpllaa.Rows.gridAskedUptoRow.unfollowed == Try.prog.unfollowed 3) = true := by kernel_rfl
theorem j3 : (Ytjiechgnlcpllaa.Rows.gridAskedUptoRow.recurses == Try.prog.recurses 3) = true := by kernel_rfl
theorem j4 : (Ytjiechgnlcpllaa.Rows.gridAskedUptoRow.named == Try.prog.varsNamed 3) = true := by kernel_rfl
theorem j5 : (Ytjiechgnlcpllaa.Rows.gridAskedUptoRow.plainKeys == Try.prog.plainKeys) = true := by kernel_rfl
theorem j6 : (Ytjiechgnlcpllaa.Rows.gridAskedUptoRow.lifted == Try.prog.liftsFinal) = true := by kernel_rfl
theorem j7 : (Try.prog.make == some Ytjiechgnlcpllaa.Rows.gridAskedUptoRow.make) = true := by kernel_rfl
set_option maxRecDepth 100000 in
theorem jf : joinedFacts Try.prog 3 Try.f3 (Ytjiechgnlcpllaa.Rows.OpenSpec.upto Ytjiechgnlcpllaa.Rows.gridAskedSpec).bare Ytjiechgnlcpllaa.Rows.gridAskedUptoRow = true := by
  unfold joinedFacts
  exact and_ok (and_ok (and_ok (and_ok (and_ok (and_ok (and_ok (and_ok (and_ok (and_ok (and_ok (and_ok (and_ok (and_ok (and_ok (and_ok (and_ok (and_ok (and_ok (and_ok (and_ok (and_ok (and_ok (and_ok (and_ok (and_ok (and_ok (and_ok (and_ok (and_ok (and_ok (by kernel_rfl) j_laid) j_maps) (by kernel_rfl)) (by kernel_rfl)) (by kernel_rfl)) (by kernel_rfl)) (by kernel_rfl)) (by kernel_rfl)) j1) j2) j3) j4) (by kernel_rfl)) (by kernel_rfl)) (by kernel_rfl)) (by kernel_rfl)) (by kernel_rfl)) (by kernel_rfl)) (by kernel_rfl)) (by kernel_rfl)) (by kernel_rfl)) j5) (by kernel_rfl)) j_heard) j_enter) j6) j7) (by kernel_rfl)) (by kernel_rfl)) (by kernel_rfl)) (by kernel_rfl)
end gridAsked
theorem _root_.Go.Proofs.Ytjiechgnlcpllaa.gridAsked_proved : Ytjiechgnlcpllaa.Rows.GridAskedUptoSaid :=
  OpenClaim.holds_of_cond 3 Try.f3 rfl rfl rfl rfl rfl rfl rfl ⟨rfl, rfl, rfl, rfl, rfl⟩ rfl rfl rfl rfl rfl (by kernel_rfl) Try.func3 gridAsked.jf
    (of_decide_eq_true (by kernel_rfl)) (by unfold Func.isWrapper; first | (rw [if_pos (by decide +kernel)]; kernel_rfl) | (rw [if_neg (by decide +kernel)]; exact ⟨rfl, rfl⟩))
    (fun os started H enc _ F => gridAsked.lifted os started H enc F)
#print axioms Go.Proofs.Ytjiechgnlcpllaa.gridAsked_proved
end Go.Sk
end

-- L15c
section
namespace Go.Sk
open Go Go.Proofs Go.ChangeShapes Go.WideShapes Go.ChangeAt Go.RowKit

theorem shEvent : shOf Try.prog 8 49 = some [.int .u64, .int .u64, .int .u64] := by kernel_rfl
section
variable {H : Type} {enc : TypeId × Value → H}
set_option maxRecDepth 100000 in
theorem arg_event {W : World} {base N : Nat} {v : Value} {d : DataW H} {p : List MemPlace} (hok : Value.okWide Try.prog W .any base 49 v) (h : DataW.Trod enc Try.prog W 0 (fun _ => true) true 49 v d p) (hN : Ytjiechgnlcpllaa.Rows.uptoBulk d ≤ N) :
    ∃ e : Event, e.Ok ∧ RepA (allD W) W v e.av := by
  obtain ⟨pvs, hl, hf, hr⟩ := arg_agg (N := N) (f := 8) (bulkOk H) shEvent (by rw [Try.underlying49]) hok h hN
  match pvs, hl with
  | [a, b, c], _ =>
    obtain ⟨x0, h0, e0⟩ := fit_u64 (hf 0 (by simp))
    obtain ⟨x1, h1, e1⟩ := fit_u64 (hf 1 (by simp))
    obtain ⟨x2, h2, e2⟩ := fit_u64 (hf 2 (by simp))
    simp at e0 e1 e2
    subst e0; subst e1; subst e2
    exact ⟨⟨x0, x1, x2⟩, ⟨h0, h1, h2⟩, hr⟩
end
namespace gridApart
set_option maxRecDepth 100000 in
theorem contract (H : Type) (enc : TypeId × Value → H) (W : World) (base : Nat) (args : Array Value) (ds gs : List (DataW H)) (before : List MemPlace)
    (hval : ∀ (j : Nat) t v, Try.f5.params[j]? = some t → args[j]? = some v → Value.okWide Try.prog W .any base t v)
    (hW : DataW.Whole enc Try.prog Try.f5.params.toList Ytjiechgnlcpllaa.Rows.gridApartSpec.vars false W args.toList ds gs before) (hk : Ytjiechgnlcpllaa.Rows.uptoSmall H (ds ++ gs) = true) :
    Calls Try.prog 5 args W fun e W' => ∃ v, e = .returned v ∧ Ytjiechgnlcpllaa.Rows.gridApartSpec.post enc Try.prog Try.f5 false true false false W args v W' := by
  have hW' := hW
  obtain ⟨p, q, hA0, hV, rfl, hfz, hnd⟩ := hW
  have hA : DataW.TrodAll enc Try.prog W 0 (fun _ => true) true Try.f5.params.toList args.toList ds p := hA0
  rw [Try.params5] at hA hval
  obtain ⟨v0, vs0, d0, ds0, p0, q0, hargs, rfl, rfl, h0, r0⟩ := trodAll_cons hA
  obtain ⟨v1, vs1, d1, ds1, p1, q1, rfl, rfl, rfl, h1, r1⟩ := trodAll_cons r0
  obtain ⟨v2, vs2, d2, ds2, p2, q2, rfl, rfl, rfl, h2, r2⟩ := trodAll_cons r1
  obtain ⟨rfl, rfl, rfl⟩ := trodAll_nil r2
  obtain ⟨rfl, rfl⟩ := trodVars_none hV
  obtain rfl : args = #[v0, v1, v2] := by cases args; simp_all
  have hb : Ytjiechgnlcpllaa.Rows.uptoBulkAll ([d0, d1, d2] ++ []) ≤ 1048576 := of_decide_eq_true hk
  obtain ⟨b0, hb⟩ := small_cons hb
  obtain ⟨b1, hb⟩ := small_cons hb
  obtain ⟨b2, hb⟩ := small_cons hb
  obtain ⟨c, hc, rep0⟩ := arg_conf (hval 0 24 v0 rfl rfl) h0 b0
  obtain ⟨l, hl, ll, rep1⟩ := arg_events (hval 1 25 v1 rfl rfl) h1 b1
  obtain ⟨d, hd, rep2⟩ := arg_event (hval 2 49 v2 rfl rfl) h2 b2
  refine ((law_GridApart c l d hc.n hc.k hc.w hl ll hd) (allD W) W #[v0, v1, v2] (rel_all W) ⟨rfl, fun i hi => ?_⟩).mono ?_
  · match i, hi with
    | 0, _ => exact rep0
    | 1, _ => exact rep1
    | 2, _ => exact rep2
  · rintro e W' ⟨v, rfl, x, S', D', rfl, _, hrep, hE⟩
    cases hrep with
    | p hrep =>
    cases hrep
    exact ⟨_, rfl, bridge kids full hW' rfl (by rw [Try.params5]; decide) rfl Try.underlying4 rfl rfl rfl hE.still⟩

set_option maxRecDepth 100000 in
theorem lifted (os : Os) (started : os.Started) (H : Type) (enc : TypeId × Value → H) (F : Stop.Interp) :
    ReturnsInHanded {} Try.checked os 5 .any ((Ytjiechgnlcpllaa.Rows.OpenSpec.upto Ytjiechgnlcpllaa.Rows.gridApartSpec).pre6 enc Try.prog Try.f5 Ytjiechgnlcpllaa.Rows.gridApartUptoRow.domain false) (((Ytjiechgnlcpllaa.Rows.OpenSpec.upto Ytjiechgnlcpllaa.Rows.gridApartSpec).at F).post enc Try.prog Try.f5 false true false false) := by
  refine returnsInHanded_of_cond (C := Try.checked) (s := Ytjiechgnlcpllaa.Rows.OpenSpec.upto Ytjiechgnlcpllaa.Rows.gridApartSpec) (k := Ytjiechgnlcpllaa.Rows.uptoSmall) rfl own started (by kernel_rfl) Try.func5
    (OpenSpec.witness (enc := enc) (C := Try.checked) (s := Ytjiechgnlcpllaa.Rows.OpenSpec.upto Ytjiechgnlcpllaa.Rows.gridApartSpec) (k := Ytjiechgnlcpllaa.Rows.uptoSmall) rfl false ⟨#[], #[.agg #[.int .i64 0, .int .i64 0, .slice none 0 0], .slice none 0 0, .agg #[.int .u64 0, .int .u64 0, .int .u64 0]], []⟩ 12 (by kernel_rfl) (by kernel_rfl) (by kernel_rfl)
      (x := ([.agg [.lit (.int .i64 0), .lit (.int .i64 0), .nil], .nil, .agg [.lit (.int .u64 0), .lit (.int .u64 0), .lit (.int .u64 0)]], [], [])) (by kernel_rfl) rfl (by kernel_rfl)) ?_
  intro W base args ds gs before hval hW _ hk _
  exact contract H enc W base args ds gs before hval hW hk

theorem j1 : (Ytjiechgnlcpllaa.Rows.gridApartUptoRow.inPlace == Try.prog.inPlace 5) = true := by kernel_rfl
theorem j2 : (Ytjiechgnlcpllaa.Rows.gridApartUptoRow.unfollowed == Try.prog.unfollowed 5) = true := by kernel_rfl
theorem j3 : (Ytjiechgnlcpllaa.Rows.gridApartUptoRow.recurses == Try.prog.recurses 5) = true := by kernel_rfl
theorem j4 : (Ytjiechgnlcpllaa.Rows.gridApartUptoRow.named == Try.prog.varsNamed 5) = true := by kernel_rfl
theorem j5 : (Ytjiechgnlcpllaa.Rows.gridApartUptoRow.plainKeys == Try.prog.plainKeys) = true := by kernel_rfl
theorem j6 : (Ytjiechgnlcpllaa.Rows.gridApartUptoRow.lifted == Try.prog.liftsFinal) = true := by kernel_rfl
theorem j7 : (Try.prog.make == some Ytjiechgnlcpllaa.Rows.gridApartUptoRow.make) = true := by kernel_rfl
set_option maxRecDepth 100000 in
theorem jf : joinedFacts Try.prog 5 Try.f5 (Ytjiechgnlcpllaa.Rows.OpenSpec.upto Ytjiechgnlcpllaa.Rows.gridApartSpec).bare Ytjiechgnlcpllaa.Rows.gridApartUptoRow = true := by
  unfold joinedFacts
  exact and_ok (and_ok (and_ok (and_ok (and_ok (and_ok (and_ok (and_ok (and_ok (and_ok (and_ok (and_ok (and_ok (and_ok (and_ok (and_ok (and_ok (and_ok (and_ok (and_ok (and_ok (and_ok (and_ok (and_ok (and_ok (and_ok (and_ok (and_ok (and_ok (and_ok (and_ok (by kernel_rfl) j_laid) j_maps) (by kernel_rfl)) (by kernel_rfl)) (by kernel_rfl)) (by kernel_rfl)) (by kernel_rfl)) (by kernel_rfl)) j1) j2) j3) j4) (by kernel_rfl)) (by kernel_rfl)) (by kernel_rfl)) (by kernel_rfl)) (by kernel_rfl)) (by kernel_rfl)) (by kernel_rfl)) (by kernel_rfl)) (by kernel_rfl)) j5) (by kernel_rfl)) j_heard) j_enter) j6) j7) (by kernel_rfl)) (by kernel_rfl)) (by kernel_rfl)) (by kernel_rfl)
end gridApart
theorem _root_.Go.Proofs.Ytjiechgnlcpllaa.gridApart_proved : Ytjiechgnlcpllaa.Rows.GridApartUptoSaid :=
  OpenClaim.holds_of_cond 5 Try.f5 rfl rfl rfl rfl rfl rfl rfl ⟨rfl, rfl, rfl, rfl, rfl⟩ rfl rfl rfl rfl rfl (by kernel_rfl) Try.func5 gridApart.jf
    (of_decide_eq_true (by kernel_rfl)) (by unfold Func.isWrapper; first | (rw [if_pos (by decide +kernel)]; kernel_rfl) | (rw [if_neg (by decide +kernel)]; exact ⟨rfl, rfl⟩))
    (fun os started H enc _ F => gridApart.lifted os started H enc F)
#print axioms Go.Proofs.Ytjiechgnlcpllaa.gridApart_proved
end Go.Sk
end

-- L15d
section
namespace Go.Sk
open Go Go.Proofs Go.ChangeShapes Go.WideShapes Go.ChangeAt Go.RowKit

theorem shThree : shOf Try.prog 8 57 = some [.int .u64, .int .u64, .int .u64] := by kernel_rfl
section
variable {H : Type} {enc : TypeId × Value → H}
set_option maxRecDepth 100000 in
theorem arg_three {W : World} {base N : Nat} {v : Value} {d : DataW H} {p : List MemPlace} (hok : Value.okWide Try.prog W .any base 57 v) (h : DataW.Trod enc Try.prog W 0 (fun _ => true) true 57 v d p) (hN : Ytjiechgnlcpllaa.Rows.uptoBulk d ≤ N) :
    ∃ n0 n1 n2 : Nat, (n0 < 18446744073709551616 ∧ n1 < 18446744073709551616 ∧ n2 < 18446744073709551616) ∧ RepA (allD W) W v (.agg [u64 n0, u64 n1, u64 n2]) := by
  obtain ⟨pvs, hl, hf, hr⟩ := arg_agg (N := N) (f := 8) (bulkOk H) shThree (by rw [Try.underlying57]) hok h hN
  match pvs, hl with
  | [a, b, c], _ =>
    obtain ⟨x0, h0, e0⟩ := fit_u64 (hf 0 (by simp))
    obtain ⟨x1, h1, e1⟩ := fit_u64 (hf 1 (by simp))
    obtain ⟨x2, h2, e2⟩ := fit_u64 (hf 2 (by simp))
    simp at e0 e1 e2
    subst e0; subst e1; subst e2
    exact ⟨x0, x1, x2, ⟨h0, h1, h2⟩, hr⟩
end
namespace gridCells
set_option maxRecDepth 100000 in
theorem contract (H : Type) (enc : TypeId × Value → H) (W : World) (base : Nat) (args : Array Value) (ds gs : List (DataW H)) (before : List MemPlace)
    (hval : ∀ (j : Nat) t v, Try.f4.params[j]? = some t → args[j]? = some v → Value.okWide Try.prog W .any base t v)
    (hW : DataW.Whole enc Try.prog Try.f4.params.toList Ytjiechgnlcpllaa.Rows.gridCellsSpec.vars false W args.toList ds gs before) (hk : Ytjiechgnlcpllaa.Rows.uptoSmall H (ds ++ gs) = true) :
    Calls Try.prog 4 args W fun e W' => ∃ v, e = .returned v ∧ Ytjiechgnlcpllaa.Rows.gridCellsSpec.post enc Try.prog Try.f4 false true false false W args v W' := by
  have hW' := hW
  obtain ⟨p, q, hA0, hV, rfl, hfz, hnd⟩ := hW
  have hA : DataW.TrodAll enc Try.prog W 0 (fun _ => true) true Try.f4.params.toList args.toList ds p := hA0
  rw [Try.params4] at hA hval
  obtain ⟨v0, vs0, d0, ds0, p0, q0, hargs, rfl, rfl, h0, r0⟩ := trodAll_cons hA
  obtain ⟨v1, vs1, d1, ds1, p1, q1, rfl, rfl, rfl, h1, r1⟩ := trodAll_cons r0
  obtain ⟨v2, vs2, d2, ds2, p2, q2, rfl, rfl, rfl, h2, r2⟩ := trodAll_cons r1
  obtain ⟨rfl, rfl, rfl⟩ := trodAll_nil r2
  obtain ⟨rfl, rfl⟩ := trodVars_none hV
  obtain rfl : args = #[v0, v1, v2] := by cases args; simp_all
  have hb : Ytjiechgnlcpllaa.Rows.uptoBulkAll ([d0, d1, d2] ++ []) ≤ 1048576 := of_decide_eq_true hk
  obtain ⟨b0, hb⟩ := small_cons hb
  obtain ⟨b1, hb⟩ := small_cons hb
  obtain ⟨b2, hb⟩ := small_cons hb
  obtain ⟨c, hc, rep0⟩ := arg_conf (hval 0 24 v0 rfl rfl) h0 b0
  obtain ⟨l, hl, ll, rep1⟩ := arg_events (hval 1 25 v1 rfl rfl) h1 b1
  obtain ⟨n0, n1, n2, hn, rep2⟩ := arg_three (hval 2 57 v2 rfl rfl) h2 b2
  refine ((law_GridCells c l n0 n1 n2 hc.n hc.k hc.w hl ll hn.1) (allD W) W #[v0, v1, v2] (rel_all W) ⟨rfl, fun i hi => ?_⟩).mono ?_
  · match i, hi with
    | 0, _ => exact rep0
    | 1, _ => exact rep1
    | 2, _ => exact rep2
  · rintro e W' ⟨v, rfl, x, S', D', rfl, _, hrep, hE⟩
    cases hrep with
    | p hrep =>
    cases hrep
    exact ⟨_, rfl, bridge kids full hW' rfl (by rw [Try.params4]; decide) rfl Try.underlying4 rfl rfl rfl hE.still⟩

set_option maxRecDepth 100000 in
theorem lifted (os : Os) (started : os.Started) (H : Type) (enc : TypeId × Value → H) (F : Stop.Interp) :
    ReturnsInHanded {} Try.checked os 4 .any ((Ytjiechgnlcpllaa.Rows.OpenSpec.upto Ytjiechgnlcpllaa.Rows.gridCellsSpec).pre6 enc Try.prog Try.f4 Ytjiechgnlcpllaa.Rows.gridCellsUptoRow.domain false) (((Ytjiechgnlcpllaa.Rows.OpenSpec.upto Ytjiechgnlcpllaa.Rows.gridCellsSpec).at F).post enc Try.prog Try.f4 false true false false) := by
  refine returnsInHanded_of_cond (C := Try.checked) (s := Ytjiechgnlcpllaa.Rows.OpenSpec.upto Ytjiechgnlcpllaa.Rows.gridCellsSpec) (k := Ytjiechgnlcpllaa.Rows.uptoSmall) rfl own started (by kernel_rfl) Try.func4
    (OpenSpec.witness (enc := enc) (C := Try.checked) (s := Ytjiechgnlcpllaa.Rows.OpenSpec.upto Ytjiechgnlcpllaa.Rows.gridCellsSpec) (k := Ytjiechgnlcpllaa.Rows.uptoSmall) rfl false ⟨#[], #[.agg #[.int .i64 0, .int .i64 0, .slice none 0 0], .slice none 0 0, .agg #[.int .u64 0, .int .u64 0, .int .u64 0]], []⟩ 12 (by kernel_rfl) (by kernel_rfl) (by kernel_rfl)
      (x := ([.agg [.lit (.int .i64 0), .lit (.int .i64 0), .nil], .nil, .agg [.lit (.int .u64 0), .lit (.int .u64 0), .lit (.int .u64 0)]], [], [])) (by kernel_rfl) rfl (by kernel_rfl)) ?_
  intro W base args ds gs before hval hW _ hk _
  exact contract H enc W base args ds gs before hval hW hk

theorem j1 : (Ytjiechgnlcpllaa.Rows.gridCellsUptoRow.inPlace == Try.prog.inPlace 4) = true := by kernel_rfl
theorem j2 : (Ytjiechgnlcpllaa.Rows.gridCellsUptoRow.unfollowed == Try.prog.unfollowed 4) = true := by kernel_rfl
theorem j3 : (Ytjiechgnlcpllaa.Rows.gridCellsUptoRow.recurses == Try.prog.recurses 4) = true := by kernel_rfl
theorem j4 : (Ytjiechgnlcpllaa.Rows.gridCellsUptoRow.named == Try.prog.varsNamed 4) = true := by kernel_rfl
theorem j5 : (Ytjiechgnlcpllaa.Rows.gridCellsUptoRow.plainKeys == Try.prog.plainKeys) = true := by kernel_rfl
theorem j6 : (Ytjiechgnlcpllaa.Rows.gridCellsUptoRow.lifted == Try.prog.liftsFinal) = true := by kernel_rfl
theorem j7 : (Try.prog.make == some Ytjiechgnlcpllaa.Rows.gridCellsUptoRow.make) = true := by kernel_rfl
set_option maxRecDepth 100000 in
theorem jf : joinedFacts Try.prog 4 Try.f4 (Ytjiechgnlcpllaa.Rows.OpenSpec.upto Ytjiechgnlcpllaa.Rows.gridCellsSpec).bare Ytjiechgnlcpllaa.Rows.gridCellsUptoRow = true := by
  unfold joinedFacts
  exact and_ok (and_ok (and_ok (and_ok (and_ok (and_ok (and_ok (and_ok (and_ok (and_ok (and_ok (and_ok (and_ok (and_ok (and_ok (and_ok (and_ok (and_ok (and_ok (and_ok (and_ok (and_ok (and_ok (and_ok (and_ok (and_ok (and_ok (and_ok (and_ok (and_ok (and_ok (by kernel_rfl) j_laid) j_maps) (by kernel_rfl)) (by kernel_rfl)) (by kernel_rfl)) (by kernel_rfl)) (by kernel_rfl)) (by kernel_rfl)) j1) j2) j3) j4) (by kernel_rfl)) (by kernel_rfl)) (by kernel_rfl)) (by kernel_rfl)) (by kernel_rfl)) (by kernel_rfl)) (by kernel_rfl)) (by kernel_rfl)) (by kernel_rfl)) j5) (by kernel_rfl)) j_heard) j_enter) j6) j7) (by kernel_rfl)) (by kernel_rfl)) (by kernel_rfl)) (by kernel_rfl)
end gridCells
theorem _root_.Go.Proofs.Ytjiechgnlcpllaa.gridCells_proved : Ytjiechgnlcpllaa.Rows.GridCellsUptoSaid :=
  OpenClaim.holds_of_cond 4 Try.f4 rfl rfl rfl rfl rfl rfl rfl ⟨rfl, rfl, rfl, rfl, rfl⟩ rfl rfl rfl rfl rfl (by kernel_rfl) Try.func4 gridCells.jf
    (of_decide_eq_true (by kernel_rfl)) (by unfold Func.isWrapper; first | (rw [if_pos (by decide +kernel)]; kernel_rfl) | (rw [if_neg (by decide +kernel)]; exact ⟨rfl, rfl⟩))
    (fun os started H enc _ F => gridCells.lifted os started H enc F)
#print axioms Go.Proofs.Ytjiechgnlcpllaa.gridCells_proved
end Go.Sk
end
