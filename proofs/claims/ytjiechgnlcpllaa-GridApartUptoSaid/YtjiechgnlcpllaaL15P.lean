/- Texts A7 W15h W15i W15j A16 W15k W15l W15m A17 W15n L15 L15b L15c, joined. -/
import Derived.Test.YtjiechgnlcpllaaA6
import Derived.Test.YtjiechgnlcpllaaW15g
import Derived.Test.YtjiechgnlcpllaaSkSq
import Derived.Test.YtjiechgnlcpllaaW8
import Derived.Test.YtjiechgnlcpllaaSkS
import Derived.Test.YtjiechgnlcpllaaLB
set_option linter.unusedSimpArgs false
set_option linter.unusedVariables false
set_option linter.unusedSectionVars false
-- A7
section
namespace Go.Sk

theorem stay_all (l add : List Span) (many tick most : Nat) (hm : 1 ≤ most) : (stayV l most add many tick).length + 2 * ((outsV l most add many tick).length + leftV l most add many) = l.length + add.length + many := by
  rw [go_less _ _ _ _ _ hm, stay_len]; unfold pairsN; omega
theorem stay_ne (l add : List Span) (many tick most : Nat) (hm : 2 ≤ most) (h : 0 < l.length + add.length + many) : stayV l most add many tick ≠ [] := by
  intro e
  have := congrArg List.length e
  rw [stay_len] at this; unfold pairsN at this; simp at this; omega
theorem mostN_two {k : Nat} (hk : 2 ≤ k) (i : Nat) : 2 ≤ mostN k i := by unfold mostN; split <;> omega

theorem flow_nil_ind (k tick : Nat) (p : Nat → List Span → Nat → Prop) (h0 : ∀ i come many, come.length + many = 0 → p i come many)
    (h1 : ∀ i come many, ¬ come.length + many = 0 → p (i + 1) (outsV [] (mostN k i) come many tick) (leftV [] (mostN k i) come many) → p i come many) : ∀ b i come many, come.length + many ≤ b → p i come many := by
  intro b
  induction b with
  | zero => intro i come many h; exact h0 _ _ _ (by omega)
  | succ b ih =>
    intro i come many h
    by_cases hz : come.length + many = 0
    · exact h0 _ _ _ hz
    · refine h1 i come many hz (ih _ _ _ ?_)
      rw [go_less _ _ _ _ _ (mostN_pos k i)]
      have := mostN_pos k i
      unfold pairsN; simp; omega
theorem flow_ind (k tick : Nat) (p : Nat → List (List Span) → List Span → Nat → Prop) (h0 : ∀ i come many, come.length + many = 0 → p i [] come many)
    (h1 : ∀ i ls come many, ¬ (ls = [] ∧ come.length + many = 0) → p (i + 1) ls.tail (outsV (ls.headD []) (mostN k i) come many tick) (leftV (ls.headD []) (mostN k i) come many) → p i ls come many) : ∀ ls i come many, p i ls come many := by
  have hnil : ∀ i come many, p i [] come many := fun i come many =>
    flow_nil_ind k tick (fun i come many => p i [] come many) h0 (fun i come many hz hp => h1 i [] come many (by simpa using hz) hp) _ i come many (Nat.le_refl _)
  intro ls
  induction ls with
  | nil => exact hnil
  | cons l r ih => intro i come many; exact h1 i (l :: r) come many (by simp) (ih _ _ _)

theorem flow_tot (k tick : Nat) : ∀ ls i come many, totN i (flowV k tick i ls come many) = totN i ls + (come.length + many) * 2 ^ i := by
  refine flow_ind k tick (fun i ls come many => totN i (flowV k tick i ls come many) = totN i ls + (come.length + many) * 2 ^ i) ?_ ?_
  · intro i come many h; rw [flowV_nil h, h]; simp
  · intro i ls come many h ih
    rw [flowV_cons h]
    simp only [totN]
    rw [ih]
    have hs := stay_all (ls.headD []) come many tick (mostN k i) (mostN_pos k i)
    have ht : totN i ls = (ls.headD []).length * 2 ^ i + totN (i + 1) ls.tail := by cases ls <;> simp [totN]
    rw [ht]
    generalize (stayV (ls.headD []) (mostN k i) come many tick).length = A at *
    generalize (outsV (ls.headD []) (mostN k i) come many tick).length + leftV (ls.headD []) (mostN k i) come many = B at *
    generalize (ls.headD []).length = C at *
    have e : C * 2 ^ i + (come.length + many) * 2 ^ i = A * 2 ^ i + (2 * B) * 2 ^ i := by
      rw [← Nat.add_mul, ← Nat.add_mul]; congr 1; omega
    have e2 : B * 2 ^ (i + 1) = (2 * B) * 2 ^ i := by rw [Nat.pow_succ, Nat.mul_comm 2 B, Nat.mul_assoc, Nat.mul_comm 2]
    omega
theorem flow_small (k tick : Nat) : ∀ ls i come many, ∀ l ∈ flowV k tick i ls come many, l.length ≤ k + 2 := by
  refine flow_ind k tick (fun i ls come many => ∀ l ∈ flowV k tick i ls come many, l.length ≤ k + 2) ?_ ?_
  · intro i come many h l hl; rw [flowV_nil h] at hl; cases hl
  · intro i ls come many h ih l hl
    rw [flowV_cons h] at hl
    rcases List.mem_cons.1 hl with rfl | hl
    · exact Nat.le_trans (stay_le _ _ _ _ _ (mostN_pos k i)) (mostN_le k i)
    · exact ih l hl
theorem flow_ne (k tick : Nat) (hk : 2 ≤ k) : ∀ ls i come many, (∀ l ∈ ls, l ≠ []) → ∀ l ∈ flowV k tick i ls come many, l ≠ [] := by
  refine flow_ind k tick (fun i ls come many => (∀ l ∈ ls, l ≠ []) → ∀ l ∈ flowV k tick i ls come many, l ≠ []) ?_ ?_
  · intro i come many h _ l hl; rw [flowV_nil h] at hl; cases hl
  · intro i ls come many h ih hne l hl
    rw [flowV_cons h] at hl
    rcases List.mem_cons.1 hl with rfl | hl
    · refine stay_ne _ _ _ _ _ (mostN_two hk i) ?_
      cases ls with
      | nil => simp only [true_and] at h; simp; omega
      | cons x r =>
        have := hne x List.mem_cons_self
        cases x with
        | nil => exact absurd rfl this
        | cons a b => simp; omega
    · exact ih (fun x hx => hne x (List.mem_of_mem_tail hx)) l hl
theorem tot_levels : ∀ (ls : List (List Span)) (i : Nat), (∀ l ∈ ls, l ≠ []) → 2 ^ (i + ls.length) ≤ totN i ls + 2 ^ i := by
  intro ls
  induction ls with
  | nil => intro i _; simp
  | cons l r ih =>
    intro i h
    have := ih (i + 1) (fun x hx => h x (List.mem_cons_of_mem _ hx))
    have hl : 1 ≤ l.length := by have := h l List.mem_cons_self; cases l with | nil => exact absurd rfl this | cons a b => simp
    have h2 := Nat.mul_le_mul_right (2 ^ i) hl
    simp only [totN, List.length_cons]
    rw [show i + (r.length + 1) = i + 1 + r.length by omega]
    rw [Nat.pow_succ 2 i] at this
    omega

/-- A histogram that came to be by adding alone. -/
structure Hist.Good (h : Hist) : Prop where
  k0 : 2 ≤ h.k
  k1 : h.k ≤ 1024
  ne : ∀ l ∈ h.ls, l ≠ []
  sm : ∀ l ∈ h.ls, l.length ≤ h.k.toNat + 2
  tot : totN 0 h.ls ≤ 4503599627370496
theorem Hist.Good.len {h : Hist} (g : h.Good) : h.ls.length ≤ 53 := by
  have := tot_levels h.ls 0 g.ne
  have h2 := g.tot
  apply Classical.byContradiction
  intro hc
  have : (2 : Nat) ^ 54 ≤ 2 ^ (0 + h.ls.length) := Nat.pow_le_pow_right (by decide) (by omega)
  have e : (2 : Nat) ^ 54 = 18014398509481984 := by decide
  omega
theorem addV_good {h : Hist} (g : h.Good) (t w : Nat) (e : (addV h.k.toNat h.g h.ls t w).2 = 0) : (addV h.k.toNat h.g h.ls t w).1.Good ∧ (addV h.k.toNat h.g h.ls t w).1.k = h.k ∧ (addV h.k.toNat h.g h.ls t w).1.g = h.g ∧ totN 0 (addV h.k.toNat h.g h.ls t w).1.ls = totN 0 h.ls + w := by
  obtain ⟨k, gg, ls⟩ := h
  obtain ⟨h1, h2, h3, h4, h5⟩ := g
  dsimp only at h1 h2 h3 h4 h5 e ⊢
  obtain ⟨k, rfl⟩ : ∃ k' : Nat, k = k' := ⟨k.toNat, by omega⟩
  rw [Int.toNat_natCast] at *
  unfold addV at e ⊢
  split
  · rename_i c; rw [if_pos c] at e; simp at e
  · rename_i c; rw [if_neg c] at e
    split
    · rename_i c; rw [if_pos c] at e; simp at e
    · rename_i c; rw [if_neg c] at e
      split
      · rename_i c; rw [if_pos c] at e; simp at e
      · rename_i c2
        have ht := flow_tot k t ls 0 [] w
        simp only [List.length_nil, Nat.zero_add, Nat.pow_zero, Nat.mul_one] at ht
        refine ⟨⟨h1, h2, flow_ne k t (by omega) ls 0 [] w h3, ?_, ?_⟩, rfl, rfl, ht⟩
        · intro l hl; rw [Int.toNat_natCast]; exact flow_small k t ls 0 [] w l hl
        · dsimp only; rw [ht]; omega
end Go.Sk
end

-- W15h
section
namespace Go.Sk
open Go Go.Proofs

theorem grid_Add (g : Grid) (e : Event) (hg : g.Ok) (hk : e.k < 18446744073709551616) (hw : e.w < 18446744073709551616) : Pure Try.prog 15 [g.av, e.av] (.tuple [(addG g e).1.av, i64 (addG g e).2]) := fun S => by
  refine (grid_Add0 g e hg hk hw S).frz ?_
  rintro x S' (⟨rfl, h1, h2, h3⟩ | ⟨bo, rb, h1, rfl, hR⟩)
  · refine ⟨_, S, Frz.forget h3, ?_, rfl⟩
    have : (addG g e).1 = zeroG := by rw [h2]
    rw [this]
  · refine ⟨_, S, (frz_rows hR (Sub.refl _) (i64 (addG g e).1.w) (.p (.sl ((addG g e).1.sd.map Seed.pv))) (i64 (addG g e).1.all.k) (i64 (addG g e).1.all.g) (.p (.sl ((addG g e).1.all.ls.map lvE))) (i64 0)).1, ?_, rfl⟩
    rw [h1]; rfl

set_option maxHeartbeats 1000000 in
theorem ref15_Add (g : Grid) (e : Event) (hg : g.Ok) (hk : e.k < 18446744073709551616) (hw : e.w < 18446744073709551616) : Pure Try.prog 17 [g.av, e.av] (.tuple [(addG g e).1.av, i64 (addG g e).2]) := fun S => by
  have hwt : ((g.w.toNat : Nat) : Int) = g.w := by have := hg.w1; omega
  have hwt1 : 1 ≤ g.w.toNat := by have := hg.w1; omega
  have hwt2 : g.w.toNat < 1048576 := by have := hg.w2; omega
  have hnn := hg.n
  have hsdn := hg.sd
  refine callR_of Try.func17 rfl rfl (xc_ok (bitB 75557863734711490330623) _ _ _ ?_)
  simp only [go_sem, decide_true, decide_false, Nat.lt_irrefl]
  refine alloc_intro fun c2 h2 => ?_
  simp only [go_sem, decide_true, decide_false, Nat.lt_irrefl]
  refine alloc_intro fun c3 h3 => ?_
  simp only [fresh_set] at h3
  simp only [go_sem, decide_true, decide_false, Nat.lt_irrefl, h3]
  refine alloc_intro fun c4 h4 => ?_
  simp only [fresh_set] at h4
  simp only [go_sem, decide_true, decide_false, Nat.lt_irrefl, h3, h4]
  refine (ref04_Key e.k).useA ?_
  by_cases ck : e.k < 2305843009213693951
  rotate_left
  · simp only [go_sem, decide_true, decide_false, Nat.lt_irrefl, ck, Bool.not_false, h4]
    have ha : addG g e = (zeroG, 7) := by unfold addG; rw [if_neg ck]
    (refine ⟨S, by (repeat (first | exact Sub.refl _ | refine Sub.setF ?_ (by first | assumption | exact And.right (by assumption) | exact And.right (And.right (by assumption)) | exact And.right (And.right (And.right (by assumption))) | exact And.right (And.right (And.right (And.right (by assumption)))) | exact And.right (And.right (And.right (And.right (And.right (by assumption))))) | exact And.right (And.right (And.right (And.right (And.right (And.right (by assumption)))))) | exact And.right (And.right (And.right (And.right (And.right (And.right (And.right (by assumption))))))) | exact And.right (And.right (And.right (And.right (And.right (And.right (And.right (And.right (by assumption)))))))) | exact And.right (And.right (And.right (And.right (And.right (And.right (And.right (And.right (And.right (by assumption)))))))))) | refine Sub.setV ?_ (by first | assumption | exact And.right (by assumption) | exact And.right (And.right (by assumption)) | exact And.right (And.right (And.right (by assumption))) | exact And.right (And.right (And.right (And.right (by assumption)))) | exact And.right (And.right (And.right (And.right (And.right (by assumption))))) | exact And.right (And.right (And.right (And.right (And.right (And.right (by assumption)))))) | exact And.right (And.right (And.right (And.right (And.right (And.right (And.right (by assumption))))))) | exact And.right (And.right (And.right (And.right (And.right (And.right (And.right (And.right (by assumption)))))))) | exact And.right (And.right (And.right (And.right (And.right (And.right (And.right (And.right (And.right (by assumption)))))))))))), ?_⟩); rw [ha]; simp [zeroG, zeroH]
  simp only [go_sem, decide_true, decide_false, Nat.lt_irrefl, ck, Bool.not_true, h3, h4]
  refine (ref06_addH g.all hg.all e.t e.w hw).useA ?_
  simp only [go_sem, decide_true, decide_false, Nat.lt_irrefl, h3, h4]
  refine alloc_intro fun c6 h6 => ?_
  simp only [fresh_set] at h6
  by_cases er : (addH g.all e.t e.w).2 = 0
  rotate_left
  · have eb : ((addH g.all e.t e.w).2 != 0) = true := by simpa using er
    have ha : addG g e = (zeroG, (addH g.all e.t e.w).2) := by
      have h0 : ¬ (rowsV g e 0).2 = 0 := er
      have h1 := rowsV_stop g e 0 h0 g.rows.length
      rw [Nat.zero_add] at h1
      unfold addG; rw [if_pos ck, h1, if_neg h0]; rfl
    simp only [go_sem, decide_true, decide_false, Nat.lt_irrefl, eb, h4, h6]
    (refine ⟨S, by (repeat (first | exact Sub.refl _ | refine Sub.setF ?_ (by first | assumption | exact And.right (by assumption) | exact And.right (And.right (by assumption)) | exact And.right (And.right (And.right (by assumption))) | exact And.right (And.right (And.right (And.right (by assumption)))) | exact And.right (And.right (And.right (And.right (And.right (by assumption))))) | exact And.right (And.right (And.right (And.right (And.right (And.right (by assumption)))))) | exact And.right (And.right (And.right (And.right (And.right (And.right (And.right (by assumption))))))) | exact And.right (And.right (And.right (And.right (And.right (And.right (And.right (And.right (by assumption)))))))) | exact And.right (And.right (And.right (And.right (And.right (And.right (And.right (And.right (And.right (by assumption)))))))))) | refine Sub.setV ?_ (by first | assumption | exact And.right (by assumption) | exact And.right (And.right (by assumption)) | exact And.right (And.right (And.right (by assumption))) | exact And.right (And.right (And.right (And.right (by assumption)))) | exact And.right (And.right (And.right (And.right (And.right (by assumption))))) | exact And.right (And.right (And.right (And.right (And.right (And.right (by assumption)))))) | exact And.right (And.right (And.right (And.right (And.right (And.right (And.right (by assumption))))))) | exact And.right (And.right (And.right (And.right (And.right (And.right (And.right (And.right (by assumption)))))))) | exact And.right (And.right (And.right (And.right (And.right (And.right (And.right (And.right (And.right (by assumption)))))))))))), ?_⟩); rw [ha]; simp [zeroG, zeroH]
  have eb : ((addH g.all e.t e.w).2 != 0) = false := by simpa using er
  simp only [go_sem, decide_true, decide_false, Nat.lt_irrefl, eb, h3, h4, h6]
  refine alloc_intro fun c8 h8 => ?_
  simp only [fresh_set] at h8
  simp only [go_sem, decide_true, decide_false, Nat.lt_irrefl, h3, h4, h6, h8]
  refine AWP.tipB c8 2 1 (cs := [i64 g.w, .p (.sl (g.sd.map Seed.pv)), .nils, i64 (addH g.all e.t e.w).1.k, i64 (addH g.all e.t e.w).1.g, .p (.sl ((addH g.all e.t e.w).1.ls.map lvE))]) (by simp only [go_sem, decide_true, decide_false, Nat.lt_irrefl, h8]) rfl fun kk hkk => ?_
  simp only [freshv_setr] at hkk
  simp only [List.set]
  have y2 : S (.r c2) = none := h2
  have y3 : S (.r c3) = none := h3.2
  have y4 : S (.r c4) = none := h4.2.2
  have y6 : S (.r c6) = none := h6.2.2.2
  have y8 : S (.r c8) = none := h8.2.2.2.2
  refine AWP.roam (ι := Nat × Option Nat) (fun y => y.1 ≤ g.rows.length ∧ (rowsV g e y.1).2 = 0)
    (fun y => ⟨Env.get [(2, .sp c2 0), (3, .sp c3 0), (4, .sp c4 0), (8, .sp c8 0), (9, i64 y.1)],
      (((((S.set (.r c2) (.cells [i64 g.w, .p (.sl (g.sd.map Seed.pv)), .p (.sl (g.rows.map rowE)), i64 g.all.k, i64 g.all.g, .p (.sl (g.all.ls.map lvE))])).set (.r c3) (.cells [u64 e.t, u64 e.k, u64 e.w])).set (.r c4) (.cells [i64 0, .nils, .nils, i64 0, i64 0, .nils]))).set (.v kk) (.tip 1 y.1 y.2)).set (.r c8) (.cells [i64 g.w, .p (.sl (g.sd.map Seed.pv)), .ts kk 1 y.2 (((rowsV g e y.1).1.take y.1).map rowE), i64 (addH g.all e.t e.w).1.k, i64 (addH g.all e.t e.w).1.g, .p (.sl ((addH g.all e.t e.w).1.ls.map lvE))]), 90, []⟩)
    (fun y => g.rows.length - y.1) (0, none) ⟨Nat.zero_le _, er⟩ ?_ ?_
  · refine le_of (by simp only [go_sem, decide_true, decide_false, Nat.lt_irrefl] <;> rfl) ?_ rfl rfl (by simp)
    ((try dsimp only); (repeat refine sub_set ?_ ?_) <;> first | ((repeat (first | exact Sub.refl _ | refine Sub.setF ?_ (by first | assumption | exact And.right (by assumption) | exact And.right (And.right (by assumption)) | exact And.right (And.right (And.right (by assumption))) | exact And.right (And.right (And.right (And.right (by assumption)))) | exact And.right (And.right (And.right (And.right (And.right (by assumption))))) | exact And.right (And.right (And.right (And.right (And.right (And.right (by assumption)))))) | exact And.right (And.right (And.right (And.right (And.right (And.right (And.right (by assumption))))))) | exact And.right (And.right (And.right (And.right (And.right (And.right (And.right (And.right (by assumption)))))))) | exact And.right (And.right (And.right (And.right (And.right (And.right (And.right (And.right (And.right (by assumption)))))))))) | refine Sub.setV ?_ (by first | assumption | exact And.right (by assumption) | exact And.right (And.right (by assumption)) | exact And.right (And.right (And.right (by assumption))) | exact And.right (And.right (And.right (And.right (by assumption)))) | exact And.right (And.right (And.right (And.right (And.right (by assumption))))) | exact And.right (And.right (And.right (And.right (And.right (And.right (by assumption)))))) | exact And.right (And.right (And.right (And.right (And.right (And.right (And.right (by assumption))))))) | exact And.right (And.right (And.right (And.right (And.right (And.right (And.right (And.right (by assumption)))))))) | exact And.right (And.right (And.right (And.right (And.right (And.right (And.right (And.right (And.right (by assumption)))))))))))); done) | (simp only [go_sem, decide_true, decide_false, Nat.lt_irrefl, h3, h4, h6, h8, hkk, List.take_zero, List.map_nil]; done) | (simp only [go_sem, decide_true, decide_false, Nat.lt_irrefl, h3, h4, h6, h8, hkk, List.take_zero, List.map_nil]; rfl) | rfl)
  rintro ⟨i, loc⟩ ⟨hi, he0⟩ ih
  dsimp only at hi he0 ⊢
  refine AWPH.step (AWP.seqA (xc_ok (bitB 75557863734711490330623) _ _ _ ?_))
  have hlen1 := rowsV_len g e i
  by_cases c : i < g.rows.length
  rotate_left
  · obtain rfl : i = g.rows.length := by clear h3 h4 h6 h8; omega
    simp only [go_sem, decide_true, decide_false, Nat.lt_irrefl, h3, h4, h6, h8, hsdn]
    have ha : addG g e = (⟨g.w, g.sd, (rowsV g e g.rows.length).1, (addH g.all e.t e.w).1⟩, 0) := by unfold addG; rw [if_pos ck, if_pos he0]
    refine ⟨S, Sub.set (Sub.set (Sub.set (Sub.set (Sub.set (Sub.set (Sub.refl _) y2 _) y3 _) y4 _) hkk _) y8 _) y4 _, Or.inl ⟨?_, rfl⟩⟩
    rw [ha, List.take_of_length_le (by rw [hlen1]; exact Nat.le_refl _)]
  simp only [go_sem, decide_true, decide_false, Nat.lt_irrefl, h3, h4, h6, h8, hsdn, c]
  have hcs : i < g.sd.length := by rw [hsdn]; exact c
  have hri : (rowsV g e i).1.getD i [] = g.rows[i] := by rw [rowsV_later g e i i (Nat.le_refl _)]; simp [List.getD_eq_getElem?_getD, c]
  have hrw : g.rows[i].length = g.w.toNat := hg.wid _ (List.getElem_mem c)
  have hrne : g.rows[i] ≠ [] := by intro e0; rw [e0] at hrw; simp at hrw; clear h3 h4 h6 h8; omega
  refine AWP.seqA (AWP.blockA (AWP.seqA (xc_ok (bitB 75557863734711490330623) _ _ _ ?_)))
  simp only [go_sem, decide_true, decide_false, Nat.lt_irrefl, h3, h4, h6, h8, ltN' c, getD_map' _ _ _ _ c, rowE_mk, rowP]
  have hrl1 : g.rows[i].length < 1048576 := by rw [hrw]; exact hwt2
  refine ⟨hist_len, by clear h3 h4 h6 h8; omega, by clear h3 h4 h6 h8; omega, own_intro (by simpa using hrne) fun b cap hb hcap => ?_⟩
  simp only [fresh_set, fresh_setv] at hb
  simp only [List.nil_append, List.length_map] at hcap ⊢
  simp only [go_sem, decide_true, decide_false, Nat.lt_irrefl, h3, h4, h6, h8, hb]
  refine AWP.seqA (AWP.draw2 (bitB 75557863734711490330623) mixed (by kernel_rfl) (fun j => i64 (colV g.sd[i] e.k g.w)) ?_)
  simp only [go_sem, decide_true, decide_false, Nat.lt_irrefl, h3, h4, h6, h8, hb, hcs, ltN' hcs, getD_map' _ _ _ _ hcs]
  refine ⟨(ref04_Column g.sd[i] e.k g.w (hg.so _ (List.getElem_mem hcs)) hk (by have := hg.w2; clear h3 h4 h6 h8 hb; omega)).draw, ?_⟩
  have hci : colV g.sd[i] e.k g.w = ((colN g e.k i : Nat) : Int) := by
    unfold colN
    rw [show g.sd.getD i default = g.sd[i] by simp [List.getD_eq_getElem?_getD, hcs], Int.toNat_of_nonneg (colV_nn _ _ _)]
  have hcb : colN g e.k i < g.w.toNat := colN_lt g hg.w1 e.k i
  simp only [go_sem, decide_true, decide_false, Nat.lt_irrefl, hci]
  have hcr : colN g e.k i < g.rows[i].length := by rw [hrw]; exact hcb
  have hok : (g.rows[i][colN g e.k i]).Ok := hg.hs _ (List.getElem_mem c) _ (List.getElem_mem hcr)
  have hzd : (g.rows[i]).getD (colN g e.k i) zeroH = g.rows[i][colN g e.k i] := by simp [List.getD_eq_getElem?_getD, hcr]
  have hse : rowsV g e (i + 1) = stepG g e i (rowsV g e i) := rfl
  unfold stepG at hse
  rw [if_pos he0, hri, hzd] at hse
  have hcut := flat_cut g.rows[i] (List.replicate ((cap - g.rows[i].length) * 3) .top) (colN g e.k i) hcr
  have hput := fun y => flat_put g.rows[i] (List.replicate ((cap - g.rows[i].length) * 3) .top) y (colN g e.k i) hcr
  have hlen3 : colN g e.k i * 3 + 3 ≤ (flatA (List.map Hist.cs g.rows[i]) ++ List.replicate ((cap - g.rows[i].length) * 3) AV.top).length := by rw [List.length_append, hflat_len]; clear h3 h4 h6 h8 hb; omega
  generalize g.rows[i][colN g e.k i] = hh at *
  generalize hX : addH hh e.t e.w = X at *
  refine AWP.seqA (AWP.draw2 (bitB 75557863734711490330623) mixed (by kernel_rfl) (fun j => .tuple [X.1.av, i64 X.2]) ?_)
  simp only [go_sem, decide_true, decide_false, Nat.lt_irrefl, h3, h4, h6, h8, hb, hcut]
  refine ⟨hcr, hlen3, (hX ▸ (ref06_addH hh hok e.t e.w hw)).draw, alloc_intro fun c12 h12 => ?_⟩
  simp only [fresh_set, fresh_setv] at h12
  simp only [go_sem, decide_true, decide_false, Nat.lt_irrefl, h3, h4, h6, h8, hb, h12]
  have hchk : i + 1 ≤ g.rows.length := c
  by_cases ex : X.2 = 0
  rotate_left
  · have exb : (X.2 != 0) = true := by simpa using ex
    have ha : addG g e = (zeroG, X.2) := by
      have h0 : ¬ (rowsV g e (i + 1)).2 = 0 := by rw [hse]; exact ex
      have h1 := rowsV_stop g e (i + 1) h0 (g.rows.length - (i + 1))
      rw [show i + 1 + (g.rows.length - (i + 1)) = g.rows.length by clear h3 h4 h6 h8 hb h12; omega] at h1
      unfold addG; rw [if_pos ck, h1, if_neg h0, hse]
    refine AWP.seqA (xc_ok (bitB 75557863734711490330623) _ _ _ ?_)
    simp only [go_sem, decide_true, decide_false, Nat.lt_irrefl, exb, h3, h4, h6, h8, hb, h12]
    have yb : S (.r b) = none := hb.2.2.2.2
    have y12 : S (.r c12) = none := h12.2.2.2.2.2
    refine ⟨S, ?_, ?_⟩
    · exact Sub.set (Sub.set (Sub.set (Sub.set (Sub.set (Sub.set (Sub.set (Sub.set (Sub.refl _) y2 _) y3 _) y4 _) hkk _) y8 _) yb _) y12 _) y4 _
    · rw [ha]; simp [zeroG, zeroH]
  have exb : (X.2 != 0) = false := by simpa using ex
  refine AWP.seqA (xc_ok (bitB 75557863734711490330623) _ _ _ ?_)
  simp only [go_sem, decide_true, decide_false, Nat.lt_irrefl, exb, h3, h4, h6, h8, hb, h12]
  refine AWP.seqA (xc_ok (bitB 75557863734711490330623) _ _ _ ?_)
  simp only [go_sem, decide_true, decide_false, Nat.lt_irrefl, h3, h4, h6, h8, hb, h12]
  refine ⟨hcr, hlen3, ?_⟩
  obtain ⟨T, hT⟩ : ∃ T, (((((S.set (.r c2) (.cells [i64 g.w, .p (.sl (g.sd.map Seed.pv)), .p (.sl (g.rows.map rowE)), i64 g.all.k, i64 g.all.g, .p (.sl (g.all.ls.map lvE))])).set (.r c3) (.cells [u64 e.t, u64 e.k, u64 e.w])).set (.r c4) (.cells [i64 0, .nils, .nils, i64 0, i64 0, .nils]))).set (.v kk) (.tip 1 i loc)).set (.r c8) (.cells [i64 g.w, .p (.sl (g.sd.map Seed.pv)), .ts kk 1 loc (((rowsV g e i).1.take i).map rowE), i64 (addH g.all e.t e.w).1.k, i64 (addH g.all e.t e.w).1.g, .p (.sl ((addH g.all e.t e.w).1.ls.map lvE))]) = T := ⟨_, rfl⟩
  have Tb : T (.r b) = none := by rw [← hT]; simp only [go_sem, decide_true, decide_false, Nat.lt_irrefl, hb]; exact hb.2.2.2.2
  have T12 : T (.r c12) = none := by rw [← hT]; simp only [go_sem, decide_true, decide_false, Nat.lt_irrefl, h12]; exact h12.2.2.2.2.2
  simp only [hT]
  obtain ⟨R, hR⟩ : ∃ R, g.rows[i].set (colN g e.k i) X.1 = R := ⟨_, rfl⟩
  have hRl : R.length = g.w.toNat := by rw [← hR, List.length_set]; exact hrw
  have hput' := hput X.1
  rw [hR] at hput'
  refine AWP.fz (s' := ⟨Env.get [(2, .sp c2 0), (3, .sp c3 0), (4, .sp c4 0), (8, .sp c8 0), (9, i64 i), (10, .p (rowP R))], T, 90, []⟩) ?_ (StFz.env (b := b) (m := g.w.toNat * 3) (cs := flatA (R.map Hist.cs) ++ List.replicate ((cap - g.rows[i].length) * 3) .top) ?_ ?_ ?_ ?_ (by simp))
  rotate_left
  · simp only [go_sem, decide_true, decide_false, Nat.lt_irrefl, h12]
    exact congrArg (fun z => some (Blk.cells z)) hput'
  · rw [List.length_append, hflat_len, hRl]; exact Nat.le_add_right _ _
  · intro q y hq
    have n1 : q ≠ .r b := by rintro rfl; rw [Tb] at hq; cases hq
    have n2 : q ≠ .r c12 := by rintro rfl; rw [T12] at hq; cases hq
    refine ⟨n1, Or.inl ?_⟩
    first
      | (rw [Store.set_other _ _ n2, Store.set_other _ _ n1]; exact hq)
      | (rw [Store.set_other _ _ n1, Store.set_other _ _ n2]; exact hq)
      | (rw [Store.set_other _ _ n1, Store.set_other _ _ n2, Store.set_other _ _ n1]; exact hq)
  · refine ⟨Or.inl (Or.inl (Or.inl (by simp only [go_sem, decide_true, decide_false, Nat.lt_irrefl]))), Or.inl (Or.inl (Or.inl (by simp only [go_sem, decide_true, decide_false, Nat.lt_irrefl]))), Or.inl (Or.inl (Or.inl (by simp only [go_sem, decide_true, decide_false, Nat.lt_irrefl]))), Or.inl (Or.inl (Or.inl (by simp only [go_sem, decide_true, decide_false, Nat.lt_irrefl]))), Or.inl (Or.inl (Or.inl (by simp only [go_sem, decide_true, decide_false, Nat.lt_irrefl]))), Or.inl (Or.inl (Or.inr (Or.inr ⟨3, 0, g.w.toNat, cap, R.map Hist.cs, ?_, by omega, rfl, by rw [List.length_map]; exact hRl, hist_len, ?_⟩))), trivial⟩
    · simp only [go_sem, decide_true, decide_false, Nat.lt_irrefl, hrw]
    · rw [List.drop_zero, List.take_append_of_le_length (by rw [hflat_len, hRl]; exact Nat.le_refl _), List.take_of_length_le (by rw [hflat_len, hRl]; exact Nat.le_refl _)]
  subst hT
  refine xc_ok (bitB 75557863734711490330623) _ _ _ ?_
  simp only [go_sem, decide_true, decide_false, Nat.lt_irrefl, h3, h4, h6, h8, hkk]
  have htk : (List.take i (rowsV g e i).1).length = i := by rw [List.length_take, hlen1]; exact Nat.min_eq_left hi
  have e5 : List.map rowE (List.take i (rowsV g e i).1) ++ [[rowP R]] = List.map rowE (List.take (i + 1) (rowsV g e (i + 1)).1) := by
    have hl2 : i < ((rowsV g e i).1.set i R).length := by rw [List.length_set, hlen1]; exact c
    rw [hse, hR]
    dsimp only
    rw [List.take_succ_eq_append_getElem hl2, List.map_append]
    congr 1
    · rw [List.take_set_of_le (Nat.le_refl _)]
    · simp [rowE]
  have hq : wi ((i : Int) + 1) = ((i + 1 : Nat) : Int) := wi_succ (show i < 4611686018427387904 by clear h3 h4 h6 h8 hb h12; omega)
  rw [htk]
  refine ⟨by rintro el rfl; rfl, rfl, row_len, by clear h3 h4 h6 h8 hb h12; omega, by clear h3 h4 h6 h8 hb h12; omega, grow_intro fun loc' => ?_⟩
  simp only [go_sem, decide_true, decide_false, Nat.lt_irrefl, h3, h4, h6, h8, hkk, e5]
  refine xc_ok (bitB 75557863734711490330623) _ _ _ ?_
  simp only [go_sem, decide_true, decide_false, Nat.lt_irrefl, hq]
  have hl3 : (List.take (i + 1) (rowsV g e (i + 1)).1).length = i + 1 := by
    rw [List.length_take, rowsV_len]; exact Nat.min_eq_left hchk
  rw [hl3]
  refine (ih (i + 1, loc') ⟨hchk, by rw [hse]; exact ex⟩ (by dsimp only; clear h3 h4 h6 h8 hb h12; omega)).back ?_ (by simp) ?_
  · ((try dsimp only); (repeat refine sub_set ?_ ?_) <;> first | ((repeat (first | exact Sub.refl _ | refine Sub.setF ?_ (by first | assumption | exact And.right (by assumption) | exact And.right (And.right (by assumption)) | exact And.right (And.right (And.right (by assumption))) | exact And.right (And.right (And.right (And.right (by assumption)))) | exact And.right (And.right (And.right (And.right (And.right (by assumption))))) | exact And.right (And.right (And.right (And.right (And.right (And.right (by assumption)))))) | exact And.right (And.right (And.right (And.right (And.right (And.right (And.right (by assumption))))))) | exact And.right (And.right (And.right (And.right (And.right (And.right (And.right (And.right (by assumption)))))))) | exact And.right (And.right (And.right (And.right (And.right (And.right (And.right (And.right (And.right (by assumption)))))))))) | refine Sub.setV ?_ (by first | assumption | exact And.right (by assumption) | exact And.right (And.right (by assumption)) | exact And.right (And.right (And.right (by assumption))) | exact And.right (And.right (And.right (And.right (by assumption)))) | exact And.right (And.right (And.right (And.right (And.right (by assumption))))) | exact And.right (And.right (And.right (And.right (And.right (And.right (by assumption)))))) | exact And.right (And.right (And.right (And.right (And.right (And.right (And.right (by assumption))))))) | exact And.right (And.right (And.right (And.right (And.right (And.right (And.right (And.right (by assumption)))))))) | exact And.right (And.right (And.right (And.right (And.right (And.right (And.right (And.right (And.right (by assumption)))))))))))); done) | (simp only [go_sem, decide_true, decide_false, Nat.lt_irrefl, h3, h4, h6, h8, hkk]; done) | (simp only [go_sem, decide_true, decide_false, Nat.lt_irrefl, h3, h4, h6, h8, hkk]; rfl) | rfl)
  · simp only [go_sem, decide_true, decide_false, Nat.lt_irrefl, hq]
end Go.Sk
end

-- W15i
section
namespace Go.Sk
open Go Go.Proofs

theorem hist_rep (l : List Hist) (j : Nat) (h : j < l.length) : List.map Hist.cs (l.take j) ++ [[.int .i64 (l[j]).k, .int .i64 (l[j]).g, .sl ((l[j]).ls.map lvE)]] = List.map Hist.cs (l.take (j + 1)) := by
  rw [List.take_succ_eq_append_getElem h, List.map_append]; rfl
theorem row_more (l : List (List Hist)) (j : Nat) (h : j < l.length) : List.map rowE (l.take j) ++ [[.sl ((l[j]).map Hist.cs)]] = List.map rowE (l.take (j + 1)) := by
  rw [List.take_succ_eq_append_getElem h, List.map_append]; rfl
theorem take_len {α : Type} {l : List α} {j : Nat} (h : j ≤ l.length) : (l.take j).length = j := by rw [List.length_take]; exact Nat.min_eq_left h

theorem hists (l : List Hist) (hn : l.length < 1048576) : Pure Try.prog 44 [.p (.sl (l.map Hist.cs))] (.p (.sl (l.map Hist.cs))) := fun S => by
  refine callR_of Try.func44 rfl rfl (xc_ok (bitB 285) _ _ _ ?_)
  simp only [go_sem, decide_true, decide_false, Nat.lt_irrefl]
  refine AWP.tip0 3 3 (by simp only [go_sem, decide_true, decide_false, Nat.lt_irrefl]) fun k hk => ?_
  simp only [go_sem, decide_true, decide_false, Nat.lt_irrefl]
  refine AWP.iterE (ι := Option Nat) (fun loc j => ⟨Env.get [(0, .p (.sl (l.map Hist.cs))), (3, .ts k 3 loc ((l.take j).map Hist.cs)), (4, i64 j)], S.set (.v k) (.tip 3 j loc), 31, []⟩) l.length none ?_ ?_ ?_
  · refine le_of (by simp only [go_sem, decide_true, decide_false, Nat.lt_irrefl, List.take_zero, List.map_nil] <;> rfl) ?_ rfl rfl (by simp)
    ((try dsimp only); (repeat refine sub_set ?_ ?_) <;> first | ((repeat (first | exact Sub.refl _ | refine Sub.setF ?_ (by first | assumption | exact And.right (by assumption) | exact And.right (And.right (by assumption)) | exact And.right (And.right (And.right (by assumption))) | exact And.right (And.right (And.right (And.right (by assumption)))) | exact And.right (And.right (And.right (And.right (And.right (by assumption))))) | exact And.right (And.right (And.right (And.right (And.right (And.right (by assumption)))))) | exact And.right (And.right (And.right (And.right (And.right (And.right (And.right (by assumption))))))) | exact And.right (And.right (And.right (And.right (And.right (And.right (And.right (And.right (by assumption)))))))) | exact And.right (And.right (And.right (And.right (And.right (And.right (And.right (And.right (And.right (by assumption)))))))))) | refine Sub.setV ?_ (by first | assumption | exact And.right (by assumption) | exact And.right (And.right (by assumption)) | exact And.right (And.right (And.right (by assumption))) | exact And.right (And.right (And.right (And.right (by assumption)))) | exact And.right (And.right (And.right (And.right (And.right (by assumption))))) | exact And.right (And.right (And.right (And.right (And.right (And.right (by assumption)))))) | exact And.right (And.right (And.right (And.right (And.right (And.right (And.right (by assumption))))))) | exact And.right (And.right (And.right (And.right (And.right (And.right (And.right (And.right (by assumption)))))))) | exact And.right (And.right (And.right (And.right (And.right (And.right (And.right (And.right (And.right (by assumption)))))))))))); done) | (simp only [go_sem, decide_true, decide_false, Nat.lt_irrefl, hk]; done) | (simp only [go_sem, decide_true, decide_false, Nat.lt_irrefl, hk]; rfl) | rfl)
  · intro j loc hj jh
    have hqj : wi ((j : Int) + 1) = ((j + 1 : Nat) : Int) := wi_succ (show j < 4611686018427387904 by omega)
    have htl : (l.take j).length = j := take_len (by omega)
    have htl1 : (l.take (j + 1)).length = j + 1 := take_len (by omega)
    refine AWPH.step (xc_ok (bitB 285) _ _ _ ?_)
    simp only [go_sem, decide_true, decide_false, Nat.lt_irrefl, hj, ltN' hj, getD_map' _ _ _ _ hj]
    refine AWP.draw2 (bitB 285) mixed (by kernel_rfl) (fun j => bl false) ?_
    simp only [go_sem, decide_true, decide_false, Nat.lt_irrefl, hj, ltN' hj, getD_map' _ _ _ _ hj, hk, List.length_map, htl]
    refine ⟨by rintro el rfl; rfl, hist_len, by omega, by omega, grow_intro fun loc' => ?_⟩
    simp only [go_sem, decide_true, decide_false, Nat.lt_irrefl, hk, hqj, hist_rep l j hj]
    refine (jh loc').back ?_ (by simp) ?_
    · ((try dsimp only); (repeat refine sub_set ?_ ?_) <;> first | ((repeat (first | exact Sub.refl _ | refine Sub.setF ?_ (by first | assumption | exact And.right (by assumption) | exact And.right (And.right (by assumption)) | exact And.right (And.right (And.right (by assumption))) | exact And.right (And.right (And.right (And.right (by assumption)))) | exact And.right (And.right (And.right (And.right (And.right (by assumption))))) | exact And.right (And.right (And.right (And.right (And.right (And.right (by assumption)))))) | exact And.right (And.right (And.right (And.right (And.right (And.right (And.right (by assumption))))))) | exact And.right (And.right (And.right (And.right (And.right (And.right (And.right (And.right (by assumption)))))))) | exact And.right (And.right (And.right (And.right (And.right (And.right (And.right (And.right (And.right (by assumption)))))))))) | refine Sub.setV ?_ (by first | assumption | exact And.right (by assumption) | exact And.right (And.right (by assumption)) | exact And.right (And.right (And.right (by assumption))) | exact And.right (And.right (And.right (And.right (by assumption)))) | exact And.right (And.right (And.right (And.right (And.right (by assumption))))) | exact And.right (And.right (And.right (And.right (And.right (And.right (by assumption)))))) | exact And.right (And.right (And.right (And.right (And.right (And.right (And.right (by assumption))))))) | exact And.right (And.right (And.right (And.right (And.right (And.right (And.right (And.right (by assumption)))))))) | exact And.right (And.right (And.right (And.right (And.right (And.right (And.right (And.right (And.right (by assumption)))))))))))); done) | (simp only [go_sem, decide_true, decide_false, Nat.lt_irrefl, hk, List.length_map, htl1, hist_rep l j hj]; done) | (simp only [go_sem, decide_true, decide_false, Nat.lt_irrefl, hk, List.length_map, htl1, hist_rep l j hj]; rfl) | rfl)
    · simp only [go_sem, decide_true, decide_false, Nat.lt_irrefl, hqj]
  · intro loc
    refine AWPH.step (xc_ok (bitB 285) _ _ _ ?_)
    simp only [go_sem, decide_true, decide_false, Nat.lt_irrefl, hk, List.take_length]
    refine ⟨S, Sub.set (Sub.refl _) hk _, ?_⟩
    simp
theorem theirs (l : List Hist) (hn : l.length < 1048576) : Pure Try.prog 39 [.p (.sl (l.map Hist.cs))] (.p (.sl (l.map Hist.cs))) := fun S => by
  refine callR_of Try.func39 rfl rfl (xc_ok (bitB 285) _ _ _ ?_)
  simp only [go_sem, decide_true, decide_false, Nat.lt_irrefl]
  refine AWP.tip0 3 3 (by simp only [go_sem, decide_true, decide_false, Nat.lt_irrefl]) fun k hk => ?_
  simp only [go_sem, decide_true, decide_false, Nat.lt_irrefl]
  refine AWP.iterE (ι := Option Nat) (fun loc j => ⟨Env.get [(0, .p (.sl (l.map Hist.cs))), (3, .ts k 3 loc ((l.take j).map Hist.cs)), (4, i64 j)], S.set (.v k) (.tip 3 j loc), 31, []⟩) l.length none ?_ ?_ ?_
  · refine le_of (by simp only [go_sem, decide_true, decide_false, Nat.lt_irrefl, List.take_zero, List.map_nil] <;> rfl) ?_ rfl rfl (by simp)
    ((try dsimp only); (repeat refine sub_set ?_ ?_) <;> first | ((repeat (first | exact Sub.refl _ | refine Sub.setF ?_ (by first | assumption | exact And.right (by assumption) | exact And.right (And.right (by assumption)) | exact And.right (And.right (And.right (by assumption))) | exact And.right (And.right (And.right (And.right (by assumption)))) | exact And.right (And.right (And.right (And.right (And.right (by assumption))))) | exact And.right (And.right (And.right (And.right (And.right (And.right (by assumption)))))) | exact And.right (And.right (And.right (And.right (And.right (And.right (And.right (by assumption))))))) | exact And.right (And.right (And.right (And.right (And.right (And.right (And.right (And.right (by assumption)))))))) | exact And.right (And.right (And.right (And.right (And.right (And.right (And.right (And.right (And.right (by assumption)))))))))) | refine Sub.setV ?_ (by first | assumption | exact And.right (by assumption) | exact And.right (And.right (by assumption)) | exact And.right (And.right (And.right (by assumption))) | exact And.right (And.right (And.right (And.right (by assumption)))) | exact And.right (And.right (And.right (And.right (And.right (by assumption))))) | exact And.right (And.right (And.right (And.right (And.right (And.right (by assumption)))))) | exact And.right (And.right (And.right (And.right (And.right (And.right (And.right (by assumption))))))) | exact And.right (And.right (And.right (And.right (And.right (And.right (And.right (And.right (by assumption)))))))) | exact And.right (And.right (And.right (And.right (And.right (And.right (And.right (And.right (And.right (by assumption)))))))))))); done) | (simp only [go_sem, decide_true, decide_false, Nat.lt_irrefl, hk]; done) | (simp only [go_sem, decide_true, decide_false, Nat.lt_irrefl, hk]; rfl) | rfl)
  · intro j loc hj jh
    have hqj : wi ((j : Int) + 1) = ((j + 1 : Nat) : Int) := wi_succ (show j < 4611686018427387904 by omega)
    have htl : (l.take j).length = j := take_len (by omega)
    have htl1 : (l.take (j + 1)).length = j + 1 := take_len (by omega)
    refine AWPH.step (xc_ok (bitB 285) _ _ _ ?_)
    simp only [go_sem, decide_true, decide_false, Nat.lt_irrefl, hj, ltN' hj, getD_map' _ _ _ _ hj]
    refine AWP.draw2 (bitB 285) mixed (by kernel_rfl) (fun j => bl false) ?_
    simp only [go_sem, decide_true, decide_false, Nat.lt_irrefl, hj, ltN' hj, getD_map' _ _ _ _ hj, hk, List.length_map, htl]
    refine ⟨by rintro el rfl; rfl, hist_len, by omega, by omega, grow_intro fun loc' => ?_⟩
    simp only [go_sem, decide_true, decide_false, Nat.lt_irrefl, hk, hqj, hist_rep l j hj]
    refine (jh loc').back ?_ (by simp) ?_
    · ((try dsimp only); (repeat refine sub_set ?_ ?_) <;> first | ((repeat (first | exact Sub.refl _ | refine Sub.setF ?_ (by first | assumption | exact And.right (by assumption) | exact And.right (And.right (by assumption)) | exact And.right (And.right (And.right (by assumption))) | exact And.right (And.right (And.right (And.right (by assumption)))) | exact And.right (And.right (And.right (And.right (And.right (by assumption))))) | exact And.right (And.right (And.right (And.right (And.right (And.right (by assumption)))))) | exact And.right (And.right (And.right (And.right (And.right (And.right (And.right (by assumption))))))) | exact And.right (And.right (And.right (And.right (And.right (And.right (And.right (And.right (by assumption)))))))) | exact And.right (And.right (And.right (And.right (And.right (And.right (And.right (And.right (And.right (by assumption)))))))))) | refine Sub.setV ?_ (by first | assumption | exact And.right (by assumption) | exact And.right (And.right (by assumption)) | exact And.right (And.right (And.right (by assumption))) | exact And.right (And.right (And.right (And.right (by assumption)))) | exact And.right (And.right (And.right (And.right (And.right (by assumption))))) | exact And.right (And.right (And.right (And.right (And.right (And.right (by assumption)))))) | exact And.right (And.right (And.right (And.right (And.right (And.right (And.right (by assumption))))))) | exact And.right (And.right (And.right (And.right (And.right (And.right (And.right (And.right (by assumption)))))))) | exact And.right (And.right (And.right (And.right (And.right (And.right (And.right (And.right (And.right (by assumption)))))))))))); done) | (simp only [go_sem, decide_true, decide_false, Nat.lt_irrefl, hk, List.length_map, htl1, hist_rep l j hj]; done) | (simp only [go_sem, decide_true, decide_false, Nat.lt_irrefl, hk, List.length_map, htl1, hist_rep l j hj]; rfl) | rfl)
    · simp only [go_sem, decide_true, decide_false, Nat.lt_irrefl, hqj]
  · intro loc
    refine AWPH.step (xc_ok (bitB 285) _ _ _ ?_)
    simp only [go_sem, decide_true, decide_false, Nat.lt_irrefl, hk, List.take_length]
    refine ⟨S, Sub.set (Sub.refl _) hk _, ?_⟩
    simp

structure Grid.Sz (g : Grid) : Prop where
  n : g.rows.length < 1048576
  w : ∀ r ∈ g.rows, r.length < 1048576
set_option maxHeartbeats 1000000 in
theorem laid (g : Grid) (hg : g.Sz) : Pure Try.prog 16 [g.av] g.av := fun S => by
  have hnn := hg.n
  refine callR_of Try.func16 rfl rfl (xc_ok (bitB 16777247) _ _ _ ?_)
  simp only [go_sem, decide_true, decide_false, Nat.lt_irrefl]
  refine alloc_intro fun c1 h1 => ?_
  simp only [go_sem, decide_true, decide_false, Nat.lt_irrefl]
  refine alloc_intro fun c2 h2 => ?_
  simp only [fresh_set] at h2
  simp only [go_sem, decide_true, decide_false, Nat.lt_irrefl, h2]
  refine alloc_intro fun c3 h3 => ?_
  simp only [fresh_set] at h3
  simp only [go_sem, decide_true, decide_false, Nat.lt_irrefl, h2, h3]
  have y1 : S (.r c1) = none := h1
  have y2 : S (.r c2) = none := h2.2
  have y3 : S (.r c3) = none := h3.2.2
  refine AWP.tipB c3 2 1 (cs := [i64 g.w, .p (.sl (g.sd.map Seed.pv)), .nils, i64 g.all.k, i64 g.all.g, .p (.sl (g.all.ls.map lvE))]) (by simp only [go_sem, decide_true, decide_false, Nat.lt_irrefl, h3]) rfl fun kk hkk => ?_
  simp only [freshv_setr] at hkk
  simp only [List.set]
  refine AWP.iterE (ι := Option Nat) (fun loc i => ⟨Env.get [(1, .sp c1 0), (2, .sp c2 0), (3, .sp c3 0), (4, i64 i)],
    ((((S.set (.r c1) (.cells [i64 g.w, .p (.sl (g.sd.map Seed.pv)), .p (.sl (g.rows.map rowE)), i64 g.all.k, i64 g.all.g, .p (.sl (g.all.ls.map lvE))])).set (.r c2) (.cells [i64 0, .nils, .nils, i64 0, i64 0, .nils])).set (.v kk) (.tip 1 i loc)).set (.r c3) (.cells [i64 g.w, .p (.sl (g.sd.map Seed.pv)), .ts kk 1 loc ((g.rows.take i).map rowE), i64 g.all.k, i64 g.all.g, .p (.sl (g.all.ls.map lvE))])), 39, []⟩) g.rows.length none ?_ ?_ ?_
  · refine le_of (by simp only [go_sem, decide_true, decide_false, Nat.lt_irrefl] <;> rfl) ?_ rfl rfl (by simp)
    ((try dsimp only); (repeat refine sub_set ?_ ?_) <;> first | ((repeat (first | exact Sub.refl _ | refine Sub.setF ?_ (by first | assumption | exact And.right (by assumption) | exact And.right (And.right (by assumption)) | exact And.right (And.right (And.right (by assumption))) | exact And.right (And.right (And.right (And.right (by assumption)))) | exact And.right (And.right (And.right (And.right (And.right (by assumption))))) | exact And.right (And.right (And.right (And.right (And.right (And.right (by assumption)))))) | exact And.right (And.right (And.right (And.right (And.right (And.right (And.right (by assumption))))))) | exact And.right (And.right (And.right (And.right (And.right (And.right (And.right (And.right (by assumption)))))))) | exact And.right (And.right (And.right (And.right (And.right (And.right (And.right (And.right (And.right (by assumption)))))))))) | refine Sub.setV ?_ (by first | assumption | exact And.right (by assumption) | exact And.right (And.right (by assumption)) | exact And.right (And.right (And.right (by assumption))) | exact And.right (And.right (And.right (And.right (by assumption)))) | exact And.right (And.right (And.right (And.right (And.right (by assumption))))) | exact And.right (And.right (And.right (And.right (And.right (And.right (by assumption)))))) | exact And.right (And.right (And.right (And.right (And.right (And.right (And.right (by assumption))))))) | exact And.right (And.right (And.right (And.right (And.right (And.right (And.right (And.right (by assumption)))))))) | exact And.right (And.right (And.right (And.right (And.right (And.right (And.right (And.right (And.right (by assumption)))))))))))); done) | (simp only [go_sem, decide_true, decide_false, Nat.lt_irrefl, h2, h3, hkk, List.take_zero, List.map_nil]; done) | (simp only [go_sem, decide_true, decide_false, Nat.lt_irrefl, h2, h3, hkk, List.take_zero, List.map_nil]; rfl) | rfl)
  · intro i loc hi ih
    have hq : wi ((i : Int) + 1) = ((i + 1 : Nat) : Int) := wi_succ (show i < 4611686018427387904 by clear h2 h3; omega)
    have htl : (g.rows.take i).length = i := take_len (by clear h2 h3; omega)
    have htl1 : (g.rows.take (i + 1)).length = i + 1 := take_len (by clear h2 h3; omega)
    refine AWPH.step (xc_ok (bitB 16777247) _ _ _ ?_)
    simp only [go_sem, decide_true, decide_false, Nat.lt_irrefl, h2, h3, hi, ltN' hi, getD_map' _ _ _ _ hi]
    refine AWP.draw2 (bitB 16777247) mixed (by kernel_rfl) (fun j => .p (.sl ((g.rows[i]).map Hist.cs))) ?_
    simp only [go_sem, decide_true, decide_false, Nat.lt_irrefl, h2, h3, hkk, hi, ltN' hi, getD_map' _ _ _ _ hi, rowE_mk, rowP, List.length_map, htl]
    refine ⟨(hists g.rows[i] (hg.w _ (List.getElem_mem hi))).draw, by rintro el rfl; rfl, row_len, by clear h2 h3; omega, by clear h2 h3; omega, grow_intro fun loc' => ?_⟩
    simp only [go_sem, decide_true, decide_false, Nat.lt_irrefl, h2, h3, hkk, hq, row_more g.rows i hi]
    refine (ih loc').back ?_ (by simp) ?_
    · ((try dsimp only); (repeat refine sub_set ?_ ?_) <;> first | ((repeat (first | exact Sub.refl _ | refine Sub.setF ?_ (by first | assumption | exact And.right (by assumption) | exact And.right (And.right (by assumption)) | exact And.right (And.right (And.right (by assumption))) | exact And.right (And.right (And.right (And.right (by assumption)))) | exact And.right (And.right (And.right (And.right (And.right (by assumption))))) | exact And.right (And.right (And.right (And.right (And.right (And.right (by assumption)))))) | exact And.right (And.right (And.right (And.right (And.right (And.right (And.right (by assumption))))))) | exact And.right (And.right (And.right (And.right (And.right (And.right (And.right (And.right (by assumption)))))))) | exact And.right (And.right (And.right (And.right (And.right (And.right (And.right (And.right (And.right (by assumption)))))))))) | refine Sub.setV ?_ (by first | assumption | exact And.right (by assumption) | exact And.right (And.right (by assumption)) | exact And.right (And.right (And.right (by assumption))) | exact And.right (And.right (And.right (And.right (by assumption)))) | exact And.right (And.right (And.right (And.right (And.right (by assumption))))) | exact And.right (And.right (And.right (And.right (And.right (And.right (by assumption)))))) | exact And.right (And.right (And.right (And.right (And.right (And.right (And.right (by assumption))))))) | exact And.right (And.right (And.right (And.right (And.right (And.right (And.right (And.right (by assumption)))))))) | exact And.right (And.right (And.right (And.right (And.right (And.right (And.right (And.right (And.right (by assumption)))))))))))); done) | (simp only [go_sem, decide_true, decide_false, Nat.lt_irrefl, h2, h3, hkk, List.length_map, htl1, row_more g.rows i hi]; done) | (simp only [go_sem, decide_true, decide_false, Nat.lt_irrefl, h2, h3, hkk, List.length_map, htl1, row_more g.rows i hi]; rfl) | rfl)
    · simp only [go_sem, decide_true, decide_false, Nat.lt_irrefl, hq]
  · intro loc
    refine AWPH.step (xc_ok (bitB 16777247) _ _ _ ?_)
    simp only [go_sem, decide_true, decide_false, Nat.lt_irrefl, h2, h3, hkk, List.take_length]
    refine ⟨S, ?_, ?_⟩
    · exact Sub.set (Sub.set (Sub.set (Sub.set (Sub.set (Sub.refl _) y1 _) y2 _) hkk _) y3 _) y2 _
    · simp
set_option maxHeartbeats 1000000 in
theorem back (g : Grid) (hg : g.Sz) : Pure Try.prog 12 [g.av] g.av := fun S => by
  have hnn := hg.n
  refine callR_of Try.func12 rfl rfl (xc_ok (bitB 16777247) _ _ _ ?_)
  simp only [go_sem, decide_true, decide_false, Nat.lt_irrefl]
  refine alloc_intro fun c1 h1 => ?_
  simp only [go_sem, decide_true, decide_false, Nat.lt_irrefl]
  refine alloc_intro fun c2 h2 => ?_
  simp only [fresh_set] at h2
  simp only [go_sem, decide_true, decide_false, Nat.lt_irrefl, h2]
  refine alloc_intro fun c3 h3 => ?_
  simp only [fresh_set] at h3
  simp only [go_sem, decide_true, decide_false, Nat.lt_irrefl, h2, h3]
  have y1 : S (.r c1) = none := h1
  have y2 : S (.r c2) = none := h2.2
  have y3 : S (.r c3) = none := h3.2.2
  refine AWP.tipB c3 2 1 (cs := [i64 g.w, .p (.sl (g.sd.map Seed.pv)), .nils, i64 g.all.k, i64 g.all.g, .p (.sl (g.all.ls.map lvE))]) (by simp only [go_sem, decide_true, decide_false, Nat.lt_irrefl, h3]) rfl fun kk hkk => ?_
  simp only [freshv_setr] at hkk
  simp only [List.set]
  refine AWP.iterE (ι := Option Nat) (fun loc i => ⟨Env.get [(1, .sp c1 0), (2, .sp c2 0), (3, .sp c3 0), (4, i64 i)],
    ((((S.set (.r c1) (.cells [i64 g.w, .p (.sl (g.sd.map Seed.pv)), .p (.sl (g.rows.map rowE)), i64 g.all.k, i64 g.all.g, .p (.sl (g.all.ls.map lvE))])).set (.r c2) (.cells [i64 0, .nils, .nils, i64 0, i64 0, .nils])).set (.v kk) (.tip 1 i loc)).set (.r c3) (.cells [i64 g.w, .p (.sl (g.sd.map Seed.pv)), .ts kk 1 loc ((g.rows.take i).map rowE), i64 g.all.k, i64 g.all.g, .p (.sl (g.all.ls.map lvE))])), 39, []⟩) g.rows.length none ?_ ?_ ?_
  · refine le_of (by simp only [go_sem, decide_true, decide_false, Nat.lt_irrefl] <;> rfl) ?_ rfl rfl (by simp)
    ((try dsimp only); (repeat refine sub_set ?_ ?_) <;> first | ((repeat (first | exact Sub.refl _ | refine Sub.setF ?_ (by first | assumption | exact And.right (by assumption) | exact And.right (And.right (by assumption)) | exact And.right (And.right (And.right (by assumption))) | exact And.right (And.right (And.right (And.right (by assumption)))) | exact And.right (And.right (And.right (And.right (And.right (by assumption))))) | exact And.right (And.right (And.right (And.right (And.right (And.right (by assumption)))))) | exact And.right (And.right (And.right (And.right (And.right (And.right (And.right (by assumption))))))) | exact And.right (And.right (And.right (And.right (And.right (And.right (And.right (And.right (by assumption)))))))) | exact And.right (And.right (And.right (And.right (And.right (And.right (And.right (And.right (And.right (by assumption)))))))))) | refine Sub.setV ?_ (by first | assumption | exact And.right (by assumption) | exact And.right (And.right (by assumption)) | exact And.right (And.right (And.right (by assumption))) | exact And.right (And.right (And.right (And.right (by assumption)))) | exact And.right (And.right (And.right (And.right (And.right (by assumption))))) | exact And.right (And.right (And.right (And.right (And.right (And.right (by assumption)))))) | exact And.right (And.right (And.right (And.right (And.right (And.right (And.right (by assumption))))))) | exact And.right (And.right (And.right (And.right (And.right (And.right (And.right (And.right (by assumption)))))))) | exact And.right (And.right (And.right (And.right (And.right (And.right (And.right (And.right (And.right (by assumption)))))))))))); done) | (simp only [go_sem, decide_true, decide_false, Nat.lt_irrefl, h2, h3, hkk, List.take_zero, List.map_nil]; done) | (simp only [go_sem, decide_true, decide_false, Nat.lt_irrefl, h2, h3, hkk, List.take_zero, List.map_nil]; rfl) | rfl)
  · intro i loc hi ih
    have hq : wi ((i : Int) + 1) = ((i + 1 : Nat) : Int) := wi_succ (show i < 4611686018427387904 by clear h2 h3; omega)
    have htl : (g.rows.take i).length = i := take_len (by clear h2 h3; omega)
    have htl1 : (g.rows.take (i + 1)).length = i + 1 := take_len (by clear h2 h3; omega)
    refine AWPH.step (xc_ok (bitB 16777247) _ _ _ ?_)
    simp only [go_sem, decide_true, decide_false, Nat.lt_irrefl, h2, h3, hi, ltN' hi, getD_map' _ _ _ _ hi]
    refine AWP.draw2 (bitB 16777247) mixed (by kernel_rfl) (fun j => .p (.sl ((g.rows[i]).map Hist.cs))) ?_
    simp only [go_sem, decide_true, decide_false, Nat.lt_irrefl, h2, h3, hkk, hi, ltN' hi, getD_map' _ _ _ _ hi, rowE_mk, rowP, List.length_map, htl]
    refine ⟨(theirs g.rows[i] (hg.w _ (List.getElem_mem hi))).draw, by rintro el rfl; rfl, row_len, by clear h2 h3; omega, by clear h2 h3; omega, grow_intro fun loc' => ?_⟩
    simp only [go_sem, decide_true, decide_false, Nat.lt_irrefl, h2, h3, hkk, hq, row_more g.rows i hi]
    refine (ih loc').back ?_ (by simp) ?_
    · ((try dsimp only); (repeat refine sub_set ?_ ?_) <;> first | ((repeat (first | exact Sub.refl _ | refine Sub.setF ?_ (by first | assumption | exact And.right (by assumption) | exact And.right (And.right (by assumption)) | exact And.right (And.right (And.right (by assumption))) | exact And.right (And.right (And.right (And.right (by assumption)))) | exact And.right (And.right (And.right (And.right (And.right (by assumption))))) | exact And.right (And.right (And.right (And.right (And.right (And.right (by assumption)))))) | exact And.right (And.right (And.right (And.right (And.right (And.right (And.right (by assumption))))))) | exact And.right (And.right (And.right (And.right (And.right (And.right (And.right (And.right (by assumption)))))))) | exact And.right (And.right (And.right (And.right (And.right (And.right (And.right (And.right (And.right (by assumption)))))))))) | refine Sub.setV ?_ (by first | assumption | exact And.right (by assumption) | exact And.right (And.right (by assumption)) | exact And.right (And.right (And.right (by assumption))) | exact And.right (And.right (And.right (And.right (by assumption)))) | exact And.right (And.right (And.right (And.right (And.right (by assumption))))) | exact And.right (And.right (And.right (And.right (And.right (And.right (by assumption)))))) | exact And.right (And.right (And.right (And.right (And.right (And.right (And.right (by assumption))))))) | exact And.right (And.right (And.right (And.right (And.right (And.right (And.right (And.right (by assumption)))))))) | exact And.right (And.right (And.right (And.right (And.right (And.right (And.right (And.right (And.right (by assumption)))))))))))); done) | (simp only [go_sem, decide_true, decide_false, Nat.lt_irrefl, h2, h3, hkk, List.length_map, htl1, row_more g.rows i hi]; done) | (simp only [go_sem, decide_true, decide_false, Nat.lt_irrefl, h2, h3, hkk, List.length_map, htl1, row_more g.rows i hi]; rfl) | rfl)
    · simp only [go_sem, decide_true, decide_false, Nat.lt_irrefl, hq]
  · intro loc
    refine AWPH.step (xc_ok (bitB 16777247) _ _ _ ?_)
    simp only [go_sem, decide_true, decide_false, Nat.lt_irrefl, h2, h3, hkk, List.take_length]
    refine ⟨S, ?_, ?_⟩
    · exact Sub.set (Sub.set (Sub.set (Sub.set (Sub.set (Sub.refl _) y1 _) y2 _) hkk _) y3 _) y2 _
    · simp

noncomputable def rowV (g : Grid) (row : Int) (x t n : Nat) : Nat :=
  if 0 ≤ row ∧ row < g.rows.length ∧ x < 2305843009213693951 then estV ((g.rows.getD row.toNat []).getD (colN g x row.toNat) zeroH).ls t n else 0
theorem Hist.Ok.sm {h : Hist} (ok : h.Ok) : h.ls.length < 1099511627776 ∧ ∀ l ∈ h.ls, l.length < 1099511627776 := ⟨by have := ok.ls; omega, fun l hl => by have := ok.ll l hl; omega⟩
set_option maxHeartbeats 1000000 in
theorem grid_Row (g : Grid) (hg : g.Ok) (row : Int) (x t n : Nat) (hx : x < 18446744073709551616) : Pure Try.prog 18 [g.av, i64 row, u64 x, u64 t, u64 n] (u64 (rowV g row x t n)) := fun S => by
  refine callR_of Try.func18 rfl rfl (xc_ok (bitB 16778303) _ _ _ ?_)
  simp only [go_sem, decide_true, decide_false, Nat.lt_irrefl]
  refine alloc_intro fun c5 h5 => ?_
  by_cases a1 : row < 0
  · simp only [go_sem, decide_true, decide_false, Nat.lt_irrefl, a1]
    (refine ⟨S, by (repeat (first | exact Sub.refl _ | refine Sub.setF ?_ (by first | assumption | exact And.right (by assumption) | exact And.right (And.right (by assumption)) | exact And.right (And.right (And.right (by assumption))) | exact And.right (And.right (And.right (And.right (by assumption)))) | exact And.right (And.right (And.right (And.right (And.right (by assumption))))) | exact And.right (And.right (And.right (And.right (And.right (And.right (by assumption)))))) | exact And.right (And.right (And.right (And.right (And.right (And.right (And.right (by assumption))))))) | exact And.right (And.right (And.right (And.right (And.right (And.right (And.right (And.right (by assumption)))))))) | exact And.right (And.right (And.right (And.right (And.right (And.right (And.right (And.right (And.right (by assumption)))))))))) | refine Sub.setV ?_ (by first | assumption | exact And.right (by assumption) | exact And.right (And.right (by assumption)) | exact And.right (And.right (And.right (by assumption))) | exact And.right (And.right (And.right (And.right (by assumption)))) | exact And.right (And.right (And.right (And.right (And.right (by assumption))))) | exact And.right (And.right (And.right (And.right (And.right (And.right (by assumption)))))) | exact And.right (And.right (And.right (And.right (And.right (And.right (And.right (by assumption))))))) | exact And.right (And.right (And.right (And.right (And.right (And.right (And.right (And.right (by assumption)))))))) | exact And.right (And.right (And.right (And.right (And.right (And.right (And.right (And.right (And.right (by assumption)))))))))))), ?_⟩); simp [rowV, show ¬ 0 ≤ row by omega]
  by_cases a2 : row ≥ g.rows.length
  · simp only [go_sem, decide_true, decide_false, Nat.lt_irrefl, a1, a2, List.length_map]
    (refine ⟨S, by (repeat (first | exact Sub.refl _ | refine Sub.setF ?_ (by first | assumption | exact And.right (by assumption) | exact And.right (And.right (by assumption)) | exact And.right (And.right (And.right (by assumption))) | exact And.right (And.right (And.right (And.right (by assumption)))) | exact And.right (And.right (And.right (And.right (And.right (by assumption))))) | exact And.right (And.right (And.right (And.right (And.right (And.right (by assumption)))))) | exact And.right (And.right (And.right (And.right (And.right (And.right (And.right (by assumption))))))) | exact And.right (And.right (And.right (And.right (And.right (And.right (And.right (And.right (by assumption)))))))) | exact And.right (And.right (And.right (And.right (And.right (And.right (And.right (And.right (And.right (by assumption)))))))))) | refine Sub.setV ?_ (by first | assumption | exact And.right (by assumption) | exact And.right (And.right (by assumption)) | exact And.right (And.right (And.right (by assumption))) | exact And.right (And.right (And.right (And.right (by assumption)))) | exact And.right (And.right (And.right (And.right (And.right (by assumption))))) | exact And.right (And.right (And.right (And.right (And.right (And.right (by assumption)))))) | exact And.right (And.right (And.right (And.right (And.right (And.right (And.right (by assumption))))))) | exact And.right (And.right (And.right (And.right (And.right (And.right (And.right (And.right (by assumption)))))))) | exact And.right (And.right (And.right (And.right (And.right (And.right (And.right (And.right (And.right (by assumption)))))))))))), ?_⟩); simp [rowV, show ¬ row < g.rows.length by omega]
  simp only [go_sem, decide_true, decide_false, Nat.lt_irrefl, a1, a2, List.length_map]
  refine (hash_Key x).useA ?_
  by_cases a3 : x < 2305843009213693951
  rotate_left
  · simp only [go_sem, decide_true, decide_false, Nat.lt_irrefl, a3, Bool.not_false]
    (refine ⟨S, by (repeat (first | exact Sub.refl _ | refine Sub.setF ?_ (by first | assumption | exact And.right (by assumption) | exact And.right (And.right (by assumption)) | exact And.right (And.right (And.right (by assumption))) | exact And.right (And.right (And.right (And.right (by assumption)))) | exact And.right (And.right (And.right (And.right (And.right (by assumption))))) | exact And.right (And.right (And.right (And.right (And.right (And.right (by assumption)))))) | exact And.right (And.right (And.right (And.right (And.right (And.right (And.right (by assumption))))))) | exact And.right (And.right (And.right (And.right (And.right (And.right (And.right (And.right (by assumption)))))))) | exact And.right (And.right (And.right (And.right (And.right (And.right (And.right (And.right (And.right (by assumption)))))))))) | refine Sub.setV ?_ (by first | assumption | exact And.right (by assumption) | exact And.right (And.right (by assumption)) | exact And.right (And.right (And.right (by assumption))) | exact And.right (And.right (And.right (And.right (by assumption)))) | exact And.right (And.right (And.right (And.right (And.right (by assumption))))) | exact And.right (And.right (And.right (And.right (And.right (And.right (by assumption)))))) | exact And.right (And.right (And.right (And.right (And.right (And.right (And.right (by assumption))))))) | exact And.right (And.right (And.right (And.right (And.right (And.right (And.right (And.right (by assumption)))))))) | exact And.right (And.right (And.right (And.right (And.right (And.right (And.right (And.right (And.right (by assumption)))))))))))), ?_⟩); simp [rowV, a3]
  simp only [go_sem, decide_true, decide_false, Nat.lt_irrefl, a3, Bool.not_true]
  obtain ⟨i, rfl⟩ : ∃ i : Nat, row = i := ⟨row.toNat, by omega⟩
  have hi : i < g.rows.length := by omega
  have hcs : i < g.sd.length := by rw [hg.sd]; exact hi
  have hci : colV g.sd[i] x g.w = ((colN g x i : Nat) : Int) := by
    unfold colN
    rw [show g.sd.getD i default = g.sd[i] by simp [List.getD_eq_getElem?_getD, hcs], Int.toNat_of_nonneg (colV_nn _ _ _)]
  have hcr : colN g x i < g.rows[i].length := by rw [hg.wid _ (List.getElem_mem hi)]; exact colN_lt g hg.w1 x i
  have hok := (hg.hs _ (List.getElem_mem hi) _ (List.getElem_mem hcr)).sm
  have hrv : rowV g i x t n = estV (g.rows[i][colN g x i]).ls t n := by
    unfold rowV
    rw [if_pos ⟨by omega, by omega, a3⟩, Int.toNat_natCast, show g.rows.getD i [] = g.rows[i] by simp [List.getD_eq_getElem?_getD, hi], show (g.rows[i]).getD (colN g x i) zeroH = g.rows[i][colN g x i] by simp [List.getD_eq_getElem?_getD, hcr]]
  have hw2 := hg.w2
  refine AWP.draw2 (bitB 16778303) mixed (by kernel_rfl) (fun j => if j = 13 then i64 (colN g x i) else u64 (rowV g i x t n)) ?_
  simp only [go_sem, decide_true, decide_false, Nat.lt_irrefl, hi, ltN' hi, hcs, ltN' hcs, getD_map' _ _ _ _ hi, getD_map' _ _ _ _ hcs, rowE_mk, rowP]
  refine ⟨hci ▸ (hash_Column g.sd[i] x g.w (hg.so _ (List.getElem_mem hcs)) hx (by omega)).draw, ?_⟩
  simp only [go_sem, decide_true, decide_false, Nat.lt_irrefl, ltN' hcr, hcr, getD_map' _ _ _ _ hcr]
  refine ⟨hrv ▸ (est_Of (g.rows[i][colN g x i]).k (g.rows[i][colN g x i]).g (g.rows[i][colN g x i]).ls t n hok.1 hok.2).draw, ?_⟩
  (refine ⟨S, by (repeat (first | exact Sub.refl _ | refine Sub.setF ?_ (by first | assumption | exact And.right (by assumption) | exact And.right (And.right (by assumption)) | exact And.right (And.right (And.right (by assumption))) | exact And.right (And.right (And.right (And.right (by assumption)))) | exact And.right (And.right (And.right (And.right (And.right (by assumption))))) | exact And.right (And.right (And.right (And.right (And.right (And.right (by assumption)))))) | exact And.right (And.right (And.right (And.right (And.right (And.right (And.right (by assumption))))))) | exact And.right (And.right (And.right (And.right (And.right (And.right (And.right (And.right (by assumption)))))))) | exact And.right (And.right (And.right (And.right (And.right (And.right (And.right (And.right (And.right (by assumption)))))))))) | refine Sub.setV ?_ (by first | assumption | exact And.right (by assumption) | exact And.right (And.right (by assumption)) | exact And.right (And.right (And.right (by assumption))) | exact And.right (And.right (And.right (And.right (by assumption)))) | exact And.right (And.right (And.right (And.right (And.right (by assumption))))) | exact And.right (And.right (And.right (And.right (And.right (And.right (by assumption)))))) | exact And.right (And.right (And.right (And.right (And.right (And.right (And.right (by assumption))))))) | exact And.right (And.right (And.right (And.right (And.right (And.right (And.right (And.right (by assumption)))))))) | exact And.right (And.right (And.right (And.right (And.right (And.right (And.right (And.right (And.right (by assumption)))))))))))), ?_⟩); simp
theorem ref15_Row (g : Grid) (hg : g.Ok) (row : Int) (x t n : Nat) (hx : x < 18446744073709551616) : Pure Try.prog 19 [g.av, i64 row, u64 x, u64 t, u64 n] (u64 (rowV g row x t n)) := fun S => by
  refine callR_of Try.func19 rfl rfl (xc_ok (bitB 33557567) _ _ _ ?_)
  simp only [go_sem, decide_true, decide_false, Nat.lt_irrefl]
  refine alloc_intro fun c5 h5 => ?_
  by_cases a1 : row < 0
  · simp only [go_sem, decide_true, decide_false, Nat.lt_irrefl, a1]
    (refine ⟨S, by (repeat (first | exact Sub.refl _ | refine Sub.setF ?_ (by first | assumption | exact And.right (by assumption) | exact And.right (And.right (by assumption)) | exact And.right (And.right (And.right (by assumption))) | exact And.right (And.right (And.right (And.right (by assumption)))) | exact And.right (And.right (And.right (And.right (And.right (by assumption))))) | exact And.right (And.right (And.right (And.right (And.right (And.right (by assumption)))))) | exact And.right (And.right (And.right (And.right (And.right (And.right (And.right (by assumption))))))) | exact And.right (And.right (And.right (And.right (And.right (And.right (And.right (And.right (by assumption)))))))) | exact And.right (And.right (And.right (And.right (And.right (And.right (And.right (And.right (And.right (by assumption)))))))))) | refine Sub.setV ?_ (by first | assumption | exact And.right (by assumption) | exact And.right (And.right (by assumption)) | exact And.right (And.right (And.right (by assumption))) | exact And.right (And.right (And.right (And.right (by assumption)))) | exact And.right (And.right (And.right (And.right (And.right (by assumption))))) | exact And.right (And.right (And.right (And.right (And.right (And.right (by assumption)))))) | exact And.right (And.right (And.right (And.right (And.right (And.right (And.right (by assumption))))))) | exact And.right (And.right (And.right (And.right (And.right (And.right (And.right (And.right (by assumption)))))))) | exact And.right (And.right (And.right (And.right (And.right (And.right (And.right (And.right (And.right (by assumption)))))))))))), ?_⟩); simp [rowV, show ¬ 0 ≤ row by omega]
  by_cases a2 : row ≥ g.rows.length
  · simp only [go_sem, decide_true, decide_false, Nat.lt_irrefl, a1, a2, List.length_map]
    (refine ⟨S, by (repeat (first | exact Sub.refl _ | refine Sub.setF ?_ (by first | assumption | exact And.right (by assumption) | exact And.right (And.right (by assumption)) | exact And.right (And.right (And.right (by assumption))) | exact And.right (And.right (And.right (And.right (by assumption)))) | exact And.right (And.right (And.right (And.right (And.right (by assumption))))) | exact And.right (And.right (And.right (And.right (And.right (And.right (by assumption)))))) | exact And.right (And.right (And.right (And.right (And.right (And.right (And.right (by assumption))))))) | exact And.right (And.right (And.right (And.right (And.right (And.right (And.right (And.right (by assumption)))))))) | exact And.right (And.right (And.right (And.right (And.right (And.right (And.right (And.right (And.right (by assumption)))))))))) | refine Sub.setV ?_ (by first | assumption | exact And.right (by assumption) | exact And.right (And.right (by assumption)) | exact And.right (And.right (And.right (by assumption))) | exact And.right (And.right (And.right (And.right (by assumption)))) | exact And.right (And.right (And.right (And.right (And.right (by assumption))))) | exact And.right (And.right (And.right (And.right (And.right (And.right (by assumption)))))) | exact And.right (And.right (And.right (And.right (And.right (And.right (And.right (by assumption))))))) | exact And.right (And.right (And.right (And.right (And.right (And.right (And.right (And.right (by assumption)))))))) | exact And.right (And.right (And.right (And.right (And.right (And.right (And.right (And.right (And.right (by assumption)))))))))))), ?_⟩); simp [rowV, show ¬ row < g.rows.length by omega]
  simp only [go_sem, decide_true, decide_false, Nat.lt_irrefl, a1, a2, List.length_map]
  refine (ref04_Key x).useA ?_
  by_cases a3 : x < 2305843009213693951
  rotate_left
  · simp only [go_sem, decide_true, decide_false, Nat.lt_irrefl, a3, Bool.not_false]
    (refine ⟨S, by (repeat (first | exact Sub.refl _ | refine Sub.setF ?_ (by first | assumption | exact And.right (by assumption) | exact And.right (And.right (by assumption)) | exact And.right (And.right (And.right (by assumption))) | exact And.right (And.right (And.right (And.right (by assumption)))) | exact And.right (And.right (And.right (And.right (And.right (by assumption))))) | exact And.right (And.right (And.right (And.right (And.right (And.right (by assumption)))))) | exact And.right (And.right (And.right (And.right (And.right (And.right (And.right (by assumption))))))) | exact And.right (And.right (And.right (And.right (And.right (And.right (And.right (And.right (by assumption)))))))) | exact And.right (And.right (And.right (And.right (And.right (And.right (And.right (And.right (And.right (by assumption)))))))))) | refine Sub.setV ?_ (by first | assumption | exact And.right (by assumption) | exact And.right (And.right (by assumption)) | exact And.right (And.right (And.right (by assumption))) | exact And.right (And.right (And.right (And.right (by assumption)))) | exact And.right (And.right (And.right (And.right (And.right (by assumption))))) | exact And.right (And.right (And.right (And.right (And.right (And.right (by assumption)))))) | exact And.right (And.right (And.right (And.right (And.right (And.right (And.right (by assumption))))))) | exact And.right (And.right (And.right (And.right (And.right (And.right (And.right (And.right (by assumption)))))))) | exact And.right (And.right (And.right (And.right (And.right (And.right (And.right (And.right (And.right (by assumption)))))))))))), ?_⟩); simp [rowV, a3]
  simp only [go_sem, decide_true, decide_false, Nat.lt_irrefl, a3, Bool.not_true]
  obtain ⟨i, rfl⟩ : ∃ i : Nat, row = i := ⟨row.toNat, by omega⟩
  have hi : i < g.rows.length := by omega
  have hcs : i < g.sd.length := by rw [hg.sd]; exact hi
  have hci : colV g.sd[i] x g.w = ((colN g x i : Nat) : Int) := by
    unfold colN
    rw [show g.sd.getD i default = g.sd[i] by simp [List.getD_eq_getElem?_getD, hcs], Int.toNat_of_nonneg (colV_nn _ _ _)]
  have hcr : colN g x i < g.rows[i].length := by rw [hg.wid _ (List.getElem_mem hi)]; exact colN_lt g hg.w1 x i
  have hok := (hg.hs _ (List.getElem_mem hi) _ (List.getElem_mem hcr)).sm
  have hrv : rowV g i x t n = estV (g.rows[i][colN g x i]).ls t n := by
    unfold rowV
    rw [if_pos ⟨by omega, by omega, a3⟩, Int.toNat_natCast, show g.rows.getD i [] = g.rows[i] by simp [List.getD_eq_getElem?_getD, hi], show (g.rows[i]).getD (colN g x i) zeroH = g.rows[i][colN g x i] by simp [List.getD_eq_getElem?_getD, hcr]]
  have hw2 := hg.w2
  refine AWP.draw2 (bitB 33557567) mixed (by kernel_rfl) (fun j => i64 (colN g x i)) ?_
  simp only [go_sem, decide_true, decide_false, Nat.lt_irrefl, hcs, ltN' hcs, getD_map' _ _ _ _ hcs]
  refine ⟨hci ▸ (ref04_Column g.sd[i] x g.w (hg.so _ (List.getElem_mem hcs)) hx (by omega)).draw, ?_⟩
  simp only [go_sem, decide_true, decide_false, Nat.lt_irrefl, hi, ltN' hi, getD_map' _ _ _ _ hi, rowE_mk, rowP, ltN' hcr, hcr, getD_map' _ _ _ _ hcr]
  refine (hrv ▸ (ref08_Of (g.rows[i][colN g x i]).k (g.rows[i][colN g x i]).g (g.rows[i][colN g x i]).ls t n hok.1 hok.2)).useA ?_
  simp only [go_sem, decide_true, decide_false, Nat.lt_irrefl]
  (refine ⟨S, by (repeat (first | exact Sub.refl _ | refine Sub.setF ?_ (by first | assumption | exact And.right (by assumption) | exact And.right (And.right (by assumption)) | exact And.right (And.right (And.right (by assumption))) | exact And.right (And.right (And.right (And.right (by assumption)))) | exact And.right (And.right (And.right (And.right (And.right (by assumption))))) | exact And.right (And.right (And.right (And.right (And.right (And.right (by assumption)))))) | exact And.right (And.right (And.right (And.right (And.right (And.right (And.right (by assumption))))))) | exact And.right (And.right (And.right (And.right (And.right (And.right (And.right (And.right (by assumption)))))))) | exact And.right (And.right (And.right (And.right (And.right (And.right (And.right (And.right (And.right (by assumption)))))))))) | refine Sub.setV ?_ (by first | assumption | exact And.right (by assumption) | exact And.right (And.right (by assumption)) | exact And.right (And.right (And.right (by assumption))) | exact And.right (And.right (And.right (And.right (by assumption)))) | exact And.right (And.right (And.right (And.right (And.right (by assumption))))) | exact And.right (And.right (And.right (And.right (And.right (And.right (by assumption)))))) | exact And.right (And.right (And.right (And.right (And.right (And.right (And.right (by assumption))))))) | exact And.right (And.right (And.right (And.right (And.right (And.right (And.right (And.right (by assumption)))))))) | exact And.right (And.right (And.right (And.right (And.right (And.right (And.right (And.right (And.right (by assumption)))))))))))), ?_⟩); simp
end Go.Sk
end

-- W15j
section
namespace Go.Sk
open Go Go.Proofs

structure Conf2 where (k w : Int) (sd : List Seed)
  deriving Inhabited
def Conf2.cs (c : Conf2) : List PV := [.int .i64 c.k, .int .i64 c.w, .sl (c.sd.map Seed.pv)]
def Conf2.av (c : Conf2) : AV := .agg (c.cs.map .p)
attribute [go_sem] Conf2.cs Conf2.av
def tameE (s : Seed) : Seed := ⟨1 + s.a % 2305843009213693950, s.b % 2305843009213693951⟩
def tameS (c : Conf2) : List Seed := if (c.sd.take 4).map tameE = [] then [⟨3, 1⟩] else (c.sd.take 4).map tameE
def tameK (c : Conf2) : Int := 2 + max c.k 0 % 10
def tameW (c : Conf2) : Int := 1 + max c.w 0 % 7
def tameV (c : Conf2) : Grid := newV (tameK c) (tameW c) (tameS c)
theorem seed_more (l : List Seed) (j : Nat) (h : j < l.length) : List.map Seed.pv ((l.take j).map tameE) ++ [[.int .u64 (1 + (l[j]).a % 2305843009213693950 : Nat), .int .u64 ((l[j]).b % 2305843009213693951 : Nat)]] = List.map Seed.pv ((l.take (j + 1)).map tameE) := by
  rw [List.take_succ_eq_append_getElem h, List.map_append, List.map_append]; rfl

set_option maxHeartbeats 1000000 in
theorem ref15_Tame (c : Conf2) (hn : c.sd.length < 1099511627776) (hk : c.k < 9223372036854775808) (hw : c.w < 9223372036854775808) : Pure Try.prog 26 [c.av] (tameV c).av := fun S => by
  refine callR_of Try.func26 rfl rfl (xc_ok (bitB 137438961695) _ _ _ ?_)
  simp only [go_sem, decide_true, decide_false, Nat.lt_irrefl]
  refine alloc_intro fun c1 h1 => ?_
  simp only [go_sem, decide_true, decide_false, Nat.lt_irrefl]
  refine alloc_intro fun c2 h2 => ?_
  simp only [fresh_set] at h2
  simp only [go_sem, decide_true, decide_false, Nat.lt_irrefl, h2]
  have y1 : S (.r c1) = none := h1
  have y2 : S (.r c2) = none := h2.2
  refine AWP.tip0 3 2 (by simp only [go_sem, decide_true, decide_false, Nat.lt_irrefl]) fun k hk => ?_
  simp only [freshv_setr] at hk
  simp only [go_sem, decide_true, decide_false, Nat.lt_irrefl]
  refine AWP.iterE (ι := Option Nat) (fun loc j => ⟨Env.get [(1, .sp c1 0), (2, .sp c2 0), (3, .ts k 2 loc (((c.sd.take j).map tameE).map Seed.pv)), (4, i64 j)],
    ((S.set (.r c1) (.cells [i64 c.k, i64 c.w, .p (.sl (c.sd.map Seed.pv))])).set (.r c2) (.cells [i64 0, .nils, .nils, i64 0, i64 0, .nils])).set (.v k) (.tip 2 j loc), 54, []⟩) (min c.sd.length 4) none ?_ ?_ ?_
  · refine le_of (by simp only [go_sem, decide_true, decide_false, Nat.lt_irrefl, List.take_zero, List.map_nil] <;> rfl) ?_ rfl rfl (by simp)
    ((try dsimp only); (repeat refine sub_set ?_ ?_) <;> first | ((repeat (first | exact Sub.refl _ | refine Sub.setF ?_ (by first | assumption | exact And.right (by assumption) | exact And.right (And.right (by assumption)) | exact And.right (And.right (And.right (by assumption))) | exact And.right (And.right (And.right (And.right (by assumption)))) | exact And.right (And.right (And.right (And.right (And.right (by assumption))))) | exact And.right (And.right (And.right (And.right (And.right (And.right (by assumption)))))) | exact And.right (And.right (And.right (And.right (And.right (And.right (And.right (by assumption))))))) | exact And.right (And.right (And.right (And.right (And.right (And.right (And.right (And.right (by assumption)))))))) | exact And.right (And.right (And.right (And.right (And.right (And.right (And.right (And.right (And.right (by assumption)))))))))) | refine Sub.setV ?_ (by first | assumption | exact And.right (by assumption) | exact And.right (And.right (by assumption)) | exact And.right (And.right (And.right (by assumption))) | exact And.right (And.right (And.right (And.right (by assumption)))) | exact And.right (And.right (And.right (And.right (And.right (by assumption))))) | exact And.right (And.right (And.right (And.right (And.right (And.right (by assumption)))))) | exact And.right (And.right (And.right (And.right (And.right (And.right (And.right (by assumption))))))) | exact And.right (And.right (And.right (And.right (And.right (And.right (And.right (And.right (by assumption)))))))) | exact And.right (And.right (And.right (And.right (And.right (And.right (And.right (And.right (And.right (by assumption)))))))))))); done) | (simp only [go_sem, decide_true, decide_false, Nat.lt_irrefl, h2, hk]; done) | (simp only [go_sem, decide_true, decide_false, Nat.lt_irrefl, h2, hk]; rfl) | rfl)
  · intro j loc hj jh
    have hj1 : j < c.sd.length := by clear h2; omega
    have hj2 : (j : Int) < 4 := by clear h2; omega
    have hqj : wi ((j : Int) + 1) = ((j + 1 : Nat) : Int) := wi_succ (show j < 4611686018427387904 by clear h2; omega)
    have htl : ((c.sd.take j).map tameE).length = j := by rw [List.length_map]; exact take_len (by clear h2; omega)
    have htl1 : ((c.sd.take (j + 1)).map tameE).length = j + 1 := by rw [List.length_map]; exact take_len (by clear h2; omega)
    refine AWPH.step (xc_ok (bitB 137438961695) _ _ _ ?_)
    simp only [go_sem, decide_true, decide_false, Nat.lt_irrefl, h2, hj1, hj2, ltN' hj1, getD_map' _ _ _ _ hj1]
    refine AWP.draw2 (bitB 137438961695) mixed (by kernel_rfl) (fun j => bl false) ?_
    have em : m64 (1 + (c.sd[j]).a % 2305843009213693950) = 1 + (c.sd[j]).a % 2305843009213693950 := m64_id (by clear h2; omega)
    have htl0 : (c.sd.take j).length = j := take_len (by clear h2; omega)
    have htl2 : (c.sd.take (j + 1)).length = j + 1 := take_len (by clear h2; omega)
    simp only [go_sem, decide_true, decide_false, Nat.lt_irrefl, h2, hj1, hj2, ltN' hj1, getD_map' _ _ _ _ hj1, em, htl0, hk]
    refine ⟨by rintro el rfl; rfl, seed_len, by clear h2; omega, by clear h2; omega, grow_intro fun loc' => ?_⟩
    simp only [go_sem, decide_true, decide_false, Nat.lt_irrefl, h2, hk, hqj, seed_more c.sd j hj1]
    refine (jh loc').back ?_ (by simp) ?_
    · ((try dsimp only); (repeat refine sub_set ?_ ?_) <;> first | ((repeat (first | exact Sub.refl _ | refine Sub.setF ?_ (by first | assumption | exact And.right (by assumption) | exact And.right (And.right (by assumption)) | exact And.right (And.right (And.right (by assumption))) | exact And.right (And.right (And.right (And.right (by assumption)))) | exact And.right (And.right (And.right (And.right (And.right (by assumption))))) | exact And.right (And.right (And.right (And.right (And.right (And.right (by assumption)))))) | exact And.right (And.right (And.right (And.right (And.right (And.right (And.right (by assumption))))))) | exact And.right (And.right (And.right (And.right (And.right (And.right (And.right (And.right (by assumption)))))))) | exact And.right (And.right (And.right (And.right (And.right (And.right (And.right (And.right (And.right (by assumption)))))))))) | refine Sub.setV ?_ (by first | assumption | exact And.right (by assumption) | exact And.right (And.right (by assumption)) | exact And.right (And.right (And.right (by assumption))) | exact And.right (And.right (And.right (And.right (by assumption)))) | exact And.right (And.right (And.right (And.right (And.right (by assumption))))) | exact And.right (And.right (And.right (And.right (And.right (And.right (by assumption)))))) | exact And.right (And.right (And.right (And.right (And.right (And.right (And.right (by assumption))))))) | exact And.right (And.right (And.right (And.right (And.right (And.right (And.right (And.right (by assumption)))))))) | exact And.right (And.right (And.right (And.right (And.right (And.right (And.right (And.right (And.right (by assumption)))))))))))); done) | (simp only [go_sem, decide_true, decide_false, Nat.lt_irrefl, h2, hk, List.length_map, htl2, seed_more c.sd j hj1]; done) | (simp only [go_sem, decide_true, decide_false, Nat.lt_irrefl, h2, hk, List.length_map, htl2, seed_more c.sd j hj1]; rfl) | rfl)
    · simp only [go_sem, decide_true, decide_false, Nat.lt_irrefl, hqj]
  · intro loc
    have hmin : c.sd.take (min c.sd.length 4) = c.sd.take 4 := by
      by_cases hl : c.sd.length ≤ 4
      · rw [Nat.min_eq_left hl, List.take_length, List.take_of_length_le hl]
      · rw [Nat.min_eq_right (by clear h2; omega)]
    have hlen : (c.sd.take 4).length = min 4 c.sd.length := List.length_take
    have hlm : ((c.sd.take 4).map tameE).length = min c.sd.length 4 := by rw [List.length_map, hlen, Nat.min_comm]
    simp only [hmin]
    generalize hL : (c.sd.take 4).map tameE = L at *
    have r1 : wi (2 + (if 0 > c.k then 0 else c.k).tmod 10) = tameK c := by
      have : (if 0 > c.k then 0 else c.k) = max c.k 0 := by split <;> (clear h2; omega)
      unfold tameK
      rw [this, Int.tmod_eq_emod_of_nonneg (by clear h2; omega)]
      exact wi_id (by clear h2; omega) (by clear h2; omega)
    obtain ⟨wn, hwn⟩ : ∃ n : Nat, tameW c = n := ⟨(tameW c).toNat, by unfold tameW; clear h2; omega⟩
    have hwn2 : wn < 1048576 := by unfold tameW at hwn; clear h2; omega
    have r2 : wi (1 + (if 0 > c.w then 0 else c.w).tmod 7) = (wn : Int) := by
      have : (if 0 > c.w then 0 else c.w) = max c.w 0 := by split <;> (clear h2; omega)
      rw [this, Int.tmod_eq_emod_of_nonneg (by clear h2; omega), ← hwn]
      unfold tameW
      exact wi_id (by clear h2; omega) (by clear h2; omega)
    have hsub : Sub S (((S.set (.r c1) (.cells [i64 c.k, i64 c.w, .p (.sl (c.sd.map Seed.pv))])).set (.r c2) (.cells [i64 0, .nils, .nils, i64 0, i64 0, .nils])).set (.v k) (.tip 2 (min c.sd.length 4) loc)) := Sub.set (Sub.set (Sub.set (Sub.refl _) y1 _) y2 _) hk _
    refine AWPH.step (xc_ok (bitB 137438961695) _ _ _ ?_)
    by_cases a3 : L = []
    · have a1 : ¬ min c.sd.length 4 < c.sd.length := by rw [a3, List.length_nil] at hlm; clear h2; omega
      have hS : tameS c = [⟨3, 1⟩] := by unfold tameS; rw [hL, if_pos a3]
      have hm0 : min c.sd.length 4 = 0 := by rw [a3, List.length_nil] at hlm; exact hlm.symm
      rw [hm0] at hsub
      subst a3
      have hz : ((([] : List Seed).length : Int) == 0) = true := by simp
      simp only [hm0] at a1 ⊢
      simp only [go_sem, decide_true, decide_false, Nat.lt_irrefl, h2, a1, hk, List.length_map, hz, r1, r2, List.map_nil]
      refine ⟨by rintro el rfl; rfl, grow_intro fun loc' => ?_⟩
      simp only [go_sem, decide_true, decide_false, Nat.lt_irrefl, h2, hk, r1, r2]
      refine ⟨by decide, by decide, (ref15_New (tameK c) wn [⟨3, 1⟩] hwn2 (by decide)).useA ?_⟩
      simp only [go_sem, decide_true, decide_false, Nat.lt_irrefl, h2]
      have hfin : newV (tameK c) wn [⟨3, 1⟩] = tameV c := by unfold tameV; rw [hS, hwn]
      refine ⟨S, Sub.set (Sub.set (Sub.set (Sub.set (Sub.refl _) y1 _) y2 _) hk _) y2 _, ?_⟩
      simp [← hfin]
    have hS : tameS c = L := by unfold tameS; rw [hL, if_neg a3]
    have hz : (L.length == 0) = false := by simpa using a3
    have hz2 : ((L.length : Int) == 0) = false := by simpa using a3
    have hfin : newV (tameK c) wn L = tameV c := by unfold tameV; rw [hS, hwn]
    by_cases a1 : min c.sd.length 4 < c.sd.length
    · have a2 : ¬ ((min c.sd.length 4 : Nat) : Int) < 4 := by clear h2; omega
      simp only [go_sem, decide_true, decide_false, Nat.lt_irrefl, h2, a1, a2, hk, List.length_map, hz, hz2, r1, r2]
      refine ⟨by decide, by decide, (ref15_New (tameK c) wn L hwn2 (by clear h2; omega)).useA ?_⟩
      simp only [go_sem, decide_true, decide_false, Nat.lt_irrefl, h2]
      refine ⟨S, Sub.set hsub y2 _, ?_⟩
      simp [← hfin]
    · simp only [go_sem, decide_true, decide_false, Nat.lt_irrefl, h2, a1, hk, List.length_map, hz, hz2, r1, r2]
      refine ⟨by decide, by decide, (ref15_New (tameK c) wn L hwn2 (by clear h2; omega)).useA ?_⟩
      simp only [go_sem, decide_true, decide_false, Nat.lt_irrefl, h2]
      refine ⟨S, Sub.set hsub y2 _, ?_⟩
      simp [← hfin]
end Go.Sk
end

-- A16
section
namespace Go.Sk

structure Grid.Good (g : Grid) : Prop where
  w1 : 1 ≤ g.w
  w2 : g.w ≤ 256
  n : g.rows.length ≤ 8
  sd : g.sd.length = g.rows.length
  wid : ∀ r ∈ g.rows, r.length = g.w.toNat
  all : g.all.Good
  hs : ∀ r ∈ g.rows, ∀ h ∈ r, h.Good
  so : ∀ s ∈ g.sd, s.may = true
theorem Seed.ok_of_may {s : Seed} (h : s.may = true) : s.Ok := by
  unfold Seed.may at h
  simp only [Bool.and_eq_true, decide_eq_true_eq] at h
  constructor <;> omega
theorem Hist.Good.ok {h : Hist} (g : h.Good) : h.Ok :=
  ⟨by have := g.k0; omega, by have := g.k1; omega, by have := g.len; omega, fun l hl => by have := g.sm l hl; have := g.k1; omega, g.tot⟩
theorem Hist.Good.small {h : Hist} (g : h.Good) : h.Small := ⟨by have := g.len; omega, fun l hl => by have := g.sm l hl; have := g.k1; omega⟩
theorem Grid.Good.ok {g : Grid} (h : g.Good) : g.Ok :=
  ⟨h.w1, by have := h.w2; omega, by have := h.n; omega, h.sd, h.wid, h.all.ok, fun r hr x hx => (h.hs r hr x hx).ok, fun s hs => Seed.ok_of_may (h.so s hs)⟩
theorem Grid.Good.small {g : Grid} (h : g.Good) : g.Small :=
  ⟨by have := h.n; have := h.sd; omega, ⟨by have := h.n; omega, fun r hr => ⟨by have := h.wid r hr; have := h.w2; omega, fun x hx => (h.hs r hr x hx).small⟩⟩, h.all.small⟩
theorem Grid.Good.sz {g : Grid} (h : g.Good) : g.Sz := ⟨by have := h.n; omega, fun r hr => by have := h.wid r hr; have := h.w2; omega⟩

theorem addH_good {h : Hist} (g : h.Good) (t w : Nat) (e : (addH h t w).2 = 0) : (addH h t w).1.Good ∧ (addH h t w).1.k = h.k ∧ (addH h t w).1.g = h.g ∧ totN 0 (addH h t w).1.ls = totN 0 h.ls + w := addV_good g t w e
theorem emptyH_good {k : Int} (h1 : 2 ≤ k) (h2 : k ≤ 1024) : (emptyH k).Good := ⟨h1, h2, fun l hl => (by cases hl), fun l hl => (by cases hl), by simp [emptyH, totN]⟩
theorem newV_good {k w : Int} {sd : List Seed} (h1 : 2 ≤ k) (h2 : k ≤ 1024) (w1 : 1 ≤ w) (w2 : w ≤ 256) (n : sd.length ≤ 8) (so : ∀ s ∈ sd, s.may = true) : (newV k w sd).Good := by
  refine ⟨w1, w2, by simp [newV]; exact n, by simp [newV], ?_, emptyH_good h1 h2, ?_, so⟩
  · intro r hr
    rw [List.eq_of_mem_replicate hr]; simp [newV]
  · intro r hr h hh
    rw [List.eq_of_mem_replicate hr] at hh
    rw [List.eq_of_mem_replicate hh]; exact emptyH_good h1 h2
theorem tameS_may (c : Conf2) : ∀ s ∈ tameS c, s.may = true := by
  intro s hs
  unfold tameS at hs
  split at hs
  · simp only [List.mem_singleton] at hs; subst hs; decide
  · obtain ⟨x, _, rfl⟩ := List.mem_map.1 hs
    unfold tameE Seed.may
    simp only [Bool.and_eq_true, decide_eq_true_eq]
    omega
theorem tameS_len (c : Conf2) : 1 ≤ (tameS c).length ∧ (tameS c).length ≤ 4 := by
  unfold tameS
  split
  · simp
  · rename_i h
    refine ⟨?_, by rw [List.length_map, List.length_take]; exact Nat.min_le_left _ _⟩
    cases e : List.map tameE (List.take 4 c.sd) with
    | nil => exact absurd e h
    | cons a b => simp
theorem tameV_good (c : Conf2) : (tameV c).Good := by
  refine newV_good (by unfold tameK; omega) (by unfold tameK; omega) (by unfold tameW; omega) (by unfold tameW; omega) ?_ (tameS_may c)
  have := (tameS_len c).2; omega

theorem rowsV_good {g : Grid} (hg : g.Good) (e : Event) : ∀ i, i ≤ g.rows.length → (rowsV g e i).2 = 0 → (∀ r ∈ (rowsV g e i).1, r.length = g.w.toNat) ∧ ∀ r ∈ (rowsV g e i).1, ∀ h ∈ r, h.Good := by
  intro i
  induction i with
  | zero => intro _ _; exact ⟨hg.wid, hg.hs⟩
  | succ i ih =>
    intro hi h0
    have hse : rowsV g e (i + 1) = stepG g e i (rowsV g e i) := rfl
    unfold stepG at hse
    by_cases he : (rowsV g e i).2 = 0
    rotate_left
    · rw [if_neg he] at hse; rw [hse] at h0; exact absurd h0 he
    rw [if_pos he] at hse
    obtain ⟨h1, h2⟩ := ih (by omega) he
    have hlt : i < (rowsV g e i).1.length := by rw [rowsV_len]; omega
    have hm : (rowsV g e i).1.getD i [] ∈ (rowsV g e i).1 := by
      rw [List.getD_eq_getElem?_getD, List.getElem?_eq_getElem hlt]; exact List.getElem_mem hlt
    have hc : colN g e.k i < ((rowsV g e i).1.getD i []).length := by rw [h1 _ hm]; exact colN_lt g hg.w1 _ _
    rw [hse] at h0 ⊢
    have hh : (((rowsV g e i).1.getD i []).getD (colN g e.k i) zeroH).Good := by
      rw [List.getD_eq_getElem?_getD, List.getElem?_eq_getElem hc]; exact h2 _ hm _ (List.getElem_mem hc)
    have hn := (addH_good hh e.t e.w h0).1
    refine ⟨fun r hr => ?_, fun r hr h hx => ?_⟩
    · rcases List.mem_or_eq_of_mem_set hr with hr | rfl
      · exact h1 r hr
      · rw [List.length_set]; exact h1 _ hm
    · rcases List.mem_or_eq_of_mem_set hr with hr | rfl
      · exact h2 r hr h hx
      · rcases List.mem_or_eq_of_mem_set hx with hx | rfl
        · exact h2 _ hm _ hx
        · exact hn
theorem rowsV_first (g : Grid) (e : Event) : ∀ i, (rowsV g e i).2 = 0 → (addH g.all e.t e.w).2 = 0 := by
  intro i
  induction i with
  | zero => intro h; exact h
  | succ i ih =>
    intro h
    apply ih
    apply Classical.byContradiction
    intro hc
    rw [rowsV_stop g e i hc 1] at h
    exact hc h
theorem addG_ok {g : Grid} {e : Event} (h : (addG g e).2 = 0) : e.k < 2305843009213693951 ∧ (rowsV g e g.rows.length).2 = 0 ∧ addG g e = (⟨g.w, g.sd, (rowsV g e g.rows.length).1, (addH g.all e.t e.w).1⟩, 0) := by
  unfold addG at h ⊢
  split
  · rename_i c
    rw [if_pos c] at h
    split
    · rename_i c2; exact ⟨c, c2, rfl⟩
    · rename_i c2; rw [if_neg c2] at h; exact absurd h c2
  · rename_i c; rw [if_neg c] at h; simp at h
theorem addG_good {g : Grid} (hg : g.Good) (e : Event) (h : (addG g e).2 = 0) : (addG g e).1.Good := by
  obtain ⟨h1, h2, h3⟩ := addG_ok h
  rw [h3]
  obtain ⟨r1, r2⟩ := rowsV_good hg e _ (Nat.le_refl _) h2
  refine ⟨hg.w1, hg.w2, ?_, ?_, r1, (addH_good hg.all _ _ (rowsV_first g e _ h2)).1, r2, hg.so⟩
  · dsimp only; rw [rowsV_len]; exact hg.n
  · dsimp only; rw [rowsV_len]; exact hg.sd

/-- The document's grid of events, and what came. -/
noncomputable def madeGo : List Event → Nat → Grid → List Event → Grid × List Event
  | [], _, g, all => (g, all)
  | x :: r, tick, g, all => if (addG g ⟨tick + x.t % 100, x.k, x.w⟩).2 = 0 then madeGo r (tick + x.t % 100) (addG g ⟨tick + x.t % 100, x.k, x.w⟩).1 (all ++ [⟨tick + x.t % 100, x.k, x.w⟩]) else madeGo r (tick + x.t % 100) g all
noncomputable def madeV (c : Conf2) (l : List Event) : Grid × List Event := madeGo (l.take 20) 0 (tameV c) []
theorem madeGo_good : ∀ l t g all, Grid.Good g → (madeGo l t g all).1.Good := by
  intro l
  induction l with
  | nil => intro t g all h; exact h
  | cons x r ih =>
    intro t g all h
    unfold madeGo
    split
    · rename_i c; exact ih _ _ _ (addG_good h _ c)
    · exact ih _ _ _ h
theorem madeV_good (c : Conf2) (l : List Event) : (madeV c l).1.Good := madeGo_good _ _ _ _ (tameV_good c)
end Go.Sk
end

-- W15k
section
namespace Go.Sk
open Go Go.Proofs

structure Event.Ok (e : Event) : Prop where
  t : e.t < 18446744073709551616
  k : e.k < 18446744073709551616
  w : e.w < 18446744073709551616
theorem ev_len {l : List Event} : ∀ el ∈ l.map Event.pv, el.length = 3 := by
  intro el h; obtain ⟨x, _, rfl⟩ := List.mem_map.1 h; rfl

set_option maxHeartbeats 1000000 in
theorem ref15_Made (c : Conf2) (l : List Event) (hn : c.sd.length < 1099511627776) (hk : c.k < 9223372036854775808) (hw : c.w < 9223372036854775808) (hl : l.length < 1099511627776) (ho : ∀ e ∈ l, e.Ok) :
    Pure Try.prog 14 [c.av, .p (evsP l)] (.tuple [(madeV c l).1.av, .p (evsP (madeV c l).2)]) := fun S => by
  refine callR_of Try.func14 rfl rfl (xc_ok (bitB 4503599631572983) _ _ _ ?_)
  simp only [go_sem, decide_true, decide_false, Nat.lt_irrefl, evsP]
  refine alloc_intro fun c2 h2 => ?_
  simp only [go_sem, decide_true, decide_false, Nat.lt_irrefl]
  refine alloc_intro fun c4 h4 => ?_
  simp only [fresh_set] at h4
  simp only [go_sem, decide_true, decide_false, Nat.lt_irrefl, h4]
  refine (ref15_Tame c hn hk hw).useA ?_
  simp only [go_sem, decide_true, decide_false, Nat.lt_irrefl]
  refine alloc_intro fun c6 h6 => ?_
  simp only [fresh_set] at h6
  simp only [go_sem, decide_true, decide_false, Nat.lt_irrefl, h4, h6]
  have y2 : S (.r c2) = none := h2
  have y4 : S (.r c4) = none := h4.2
  have y6 : S (.r c6) = none := h6.2.2
  refine AWP.tip0 8 3 (by simp only [go_sem, decide_true, decide_false, Nat.lt_irrefl]) fun k hkk => ?_
  simp only [freshv_setr] at hkk
  simp only [go_sem, decide_true, decide_false, Nat.lt_irrefl]
  refine AWP.roam (ι := Nat × Nat × Grid × List Event × Option Nat) (fun y => y.1 ≤ l.length ∧ y.1 ≤ 20 ∧ y.2.1 ≤ y.1 * 100 ∧ y.2.2.1.Good ∧ y.2.2.2.1.length ≤ y.1 ∧ madeGo ((l.take 20).drop y.1) y.2.1 y.2.2.1 y.2.2.2.1 = madeV c l)
    (fun y => ⟨Env.get [(1, .p (evsP l)), (4, .sp c4 0), (6, .sp c6 0), (7, u64 y.2.1), (8, .ts k 3 y.2.2.2.2 (y.2.2.2.1.map Event.pv)), (9, i64 y.1)],
      (((S.set (.r c2) (.cells [i64 c.k, i64 c.w, .p (.sl (c.sd.map Seed.pv))])).set (.r c4) (.cells [i64 0, .nils, .nils, i64 0, i64 0, .nils])).set (.r c6) (.cells [i64 y.2.2.1.w, .p (.sl (y.2.2.1.sd.map Seed.pv)), .p (.sl (y.2.2.1.rows.map rowE)), i64 y.2.2.1.all.k, i64 y.2.2.1.all.g, .p (.sl (y.2.2.1.all.ls.map lvE))])).set (.v k) (.tip 3 y.2.2.2.1.length y.2.2.2.2), 60, []⟩)
    (fun y => l.length - y.1) (0, 0, tameV c, [], none) ⟨Nat.zero_le _, Nat.zero_le _, Nat.zero_le _, tameV_good c, Nat.le_refl _, by rw [List.drop_zero]; rfl⟩ ?_ ?_
  · refine le_of (by simp only [go_sem, decide_true, decide_false, Nat.lt_irrefl, evsP] <;> rfl) ?_ rfl rfl (by simp)
    ((try dsimp only); (repeat refine sub_set ?_ ?_) <;> first | ((repeat (first | exact Sub.refl _ | refine Sub.setF ?_ (by first | assumption | exact And.right (by assumption) | exact And.right (And.right (by assumption)) | exact And.right (And.right (And.right (by assumption))) | exact And.right (And.right (And.right (And.right (by assumption)))) | exact And.right (And.right (And.right (And.right (And.right (by assumption))))) | exact And.right (And.right (And.right (And.right (And.right (And.right (by assumption)))))) | exact And.right (And.right (And.right (And.right (And.right (And.right (And.right (by assumption))))))) | exact And.right (And.right (And.right (And.right (And.right (And.right (And.right (And.right (by assumption)))))))) | exact And.right (And.right (And.right (And.right (And.right (And.right (And.right (And.right (And.right (by assumption)))))))))) | refine Sub.setV ?_ (by first | assumption | exact And.right (by assumption) | exact And.right (And.right (by assumption)) | exact And.right (And.right (And.right (by assumption))) | exact And.right (And.right (And.right (And.right (by assumption)))) | exact And.right (And.right (And.right (And.right (And.right (by assumption))))) | exact And.right (And.right (And.right (And.right (And.right (And.right (by assumption)))))) | exact And.right (And.right (And.right (And.right (And.right (And.right (And.right (by assumption))))))) | exact And.right (And.right (And.right (And.right (And.right (And.right (And.right (And.right (by assumption)))))))) | exact And.right (And.right (And.right (And.right (And.right (And.right (And.right (And.right (And.right (by assumption)))))))))))); done) | (simp only [go_sem, decide_true, decide_false, Nat.lt_irrefl, h4, h6, hkk, List.map_nil, List.length_nil]; done) | (simp only [go_sem, decide_true, decide_false, Nat.lt_irrefl, h4, h6, hkk, List.map_nil, List.length_nil]; rfl) | rfl)
  rintro ⟨i, tick, g, all, loc⟩ ⟨hi, hi2, ht, hg, hall, hm⟩ ih
  dsimp only at hi hi2 ht hg hall hm ⊢
  refine AWPH.step (xc_ok (bitB 4503599631572983) _ _ _ ?_)
  have hlen2 : (l.take 20).length = min 20 l.length := List.length_take
  have stop : ¬ (i < l.length ∧ i < 20) → (g, all) = madeV c l := by
    intro hc
    rw [List.drop_of_length_le (by rw [hlen2]; clear h4 h6; omega)] at hm
    exact hm
  by_cases c1 : i < l.length
  rotate_left
  · simp only [go_sem, decide_true, decide_false, Nat.lt_irrefl, c1, h4, h6, evsP, List.length_map]
    have := stop (fun h => c1 h.1)
    refine ⟨S, ?_, ?_⟩
    · exact Sub.set (Sub.set (Sub.set (Sub.set (Sub.set (Sub.refl _) y2 _) y4 _) y6 _) hkk _) y4 _
    · rw [← this]; simp
  by_cases c2' : (i : Int) < 20
  rotate_left
  · simp only [go_sem, decide_true, decide_false, Nat.lt_irrefl, c1, c2', h4, h6, evsP, List.length_map]
    have := stop (fun h => c2' (by clear h4 h6; omega))
    refine ⟨S, ?_, ?_⟩
    · exact Sub.set (Sub.set (Sub.set (Sub.set (Sub.set (Sub.refl _) y2 _) y4 _) y6 _) hkk _) y4 _
    · rw [← this]; simp
  have hok : (l[i]).Ok := ho _ (List.getElem_mem c1)
  have htk : m64 (tick + (l[i]).t % 100) = tick + (l[i]).t % 100 := m64_id (by clear h4 h6; omega)
  have hq : wi ((i : Int) + 1) = ((i + 1 : Nat) : Int) := wi_succ (show i < 4611686018427387904 by clear h4 h6; omega)
  simp only [go_sem, decide_true, decide_false, Nat.lt_irrefl, c1, c2', evsP, ltN' c1, getD_map' _ _ _ _ c1, List.length_map, htk]
  refine AWP.draw2 (bitB 4503599631572983) mixed (by kernel_rfl) (fun j => bl false) ?_
  simp only [go_sem, decide_true, decide_false, Nat.lt_irrefl, c1, evsP, ltN' c1, getD_map' _ _ _ _ c1, htk]
  refine alloc_intro fun c10 h10 => ?_
  simp only [fresh_set, fresh_setv] at h10
  simp only [go_sem, decide_true, decide_false, Nat.lt_irrefl, h4, h6, h10]
  refine (ref15_Add g ⟨tick + (l[i]).t % 100, (l[i]).k, (l[i]).w⟩ hg.ok hok.k hok.w).useA ?_
  have hdrop : (l.take 20).drop i = l[i] :: (l.take 20).drop (i + 1) := by
    rw [List.drop_eq_getElem_cons (by rw [hlen2]; clear h4 h6 h10; omega)]
    congr 1
    rw [List.getElem_take]
  rw [hdrop] at hm
  unfold madeGo at hm
  have hgd := addG_good hg ⟨tick + (l[i]).t % 100, (l[i]).k, (l[i]).w⟩
  generalize addG g ⟨tick + (l[i]).t % 100, (l[i]).k, (l[i]).w⟩ = X at *
  simp only [go_sem, decide_true, decide_false, Nat.lt_irrefl, h4, h6, h10]
  refine alloc_intro fun c11 h11 => ?_
  simp only [fresh_set, fresh_setv] at h11
  by_cases ex : X.2 = 0
  · have exb : (X.2 == 0) = true := by simpa using ex
    rw [if_pos ex] at hm
    simp only [go_sem, decide_true, decide_false, Nat.lt_irrefl, exb, h4, h6, h10, h11, hkk]
    have e5 : List.map Event.pv all ++ [[.int .u64 (tick + (l[i]).t % 100 : Nat), .int .u64 (l[i]).k, .int .u64 (l[i]).w]] = List.map Event.pv (all ++ [⟨tick + (l[i]).t % 100, (l[i]).k, (l[i]).w⟩]) := by rw [List.map_append]; rfl
    refine ⟨by rintro el rfl; rfl, ev_len, by clear h4 h6 h10 h11; omega, by clear h4 h6 h10 h11; omega, grow_intro fun loc' => ?_⟩
    simp only [go_sem, decide_true, decide_false, Nat.lt_irrefl, h4, h6, h10, h11, hkk, e5, hq]
    refine (ih (i + 1, tick + (l[i]).t % 100, X.1, all ++ [⟨tick + (l[i]).t % 100, (l[i]).k, (l[i]).w⟩], loc') ⟨c1, by dsimp only; clear h4 h6 h10 h11; omega, by dsimp only; clear h4 h6 h10 h11; omega, hgd ex, by simp; clear h4 h6 h10 h11; omega, hm⟩ (by dsimp only; clear h4 h6 h10 h11; omega)).back ?_ (by simp) ?_
    · ((try dsimp only); (repeat refine sub_set ?_ ?_) <;> first | ((repeat (first | exact Sub.refl _ | refine Sub.setF ?_ (by first | assumption | exact And.right (by assumption) | exact And.right (And.right (by assumption)) | exact And.right (And.right (And.right (by assumption))) | exact And.right (And.right (And.right (And.right (by assumption)))) | exact And.right (And.right (And.right (And.right (And.right (by assumption))))) | exact And.right (And.right (And.right (And.right (And.right (And.right (by assumption)))))) | exact And.right (And.right (And.right (And.right (And.right (And.right (And.right (by assumption))))))) | exact And.right (And.right (And.right (And.right (And.right (And.right (And.right (And.right (by assumption)))))))) | exact And.right (And.right (And.right (And.right (And.right (And.right (And.right (And.right (And.right (by assumption)))))))))) | refine Sub.setV ?_ (by first | assumption | exact And.right (by assumption) | exact And.right (And.right (by assumption)) | exact And.right (And.right (And.right (by assumption))) | exact And.right (And.right (And.right (And.right (by assumption)))) | exact And.right (And.right (And.right (And.right (And.right (by assumption))))) | exact And.right (And.right (And.right (And.right (And.right (And.right (by assumption)))))) | exact And.right (And.right (And.right (And.right (And.right (And.right (And.right (by assumption))))))) | exact And.right (And.right (And.right (And.right (And.right (And.right (And.right (And.right (by assumption)))))))) | exact And.right (And.right (And.right (And.right (And.right (And.right (And.right (And.right (And.right (by assumption)))))))))))); done) | (simp only [go_sem, decide_true, decide_false, Nat.lt_irrefl, h4, h6, h10, h11, hkk, List.length_map, e5]; done) | (simp only [go_sem, decide_true, decide_false, Nat.lt_irrefl, h4, h6, h10, h11, hkk, List.length_map, e5]; rfl) | rfl)
    · simp only [go_sem, decide_true, decide_false, Nat.lt_irrefl, hq, evsP, e5]
  · have exb : (X.2 == 0) = false := by simpa using ex
    rw [if_neg ex] at hm
    simp only [go_sem, decide_true, decide_false, Nat.lt_irrefl, exb, h4, h6, h10, h11, hkk]
    refine (ih (i + 1, tick + (l[i]).t % 100, g, all, loc) ⟨c1, by dsimp only; clear h4 h6 h10 h11; omega, by dsimp only; clear h4 h6 h10 h11; omega, hg, by dsimp only; clear h4 h6 h10 h11; omega, hm⟩ (by dsimp only; clear h4 h6 h10 h11; omega)).back ?_ (by simp) ?_
    · ((try dsimp only); (repeat refine sub_set ?_ ?_) <;> first | ((repeat (first | exact Sub.refl _ | refine Sub.setF ?_ (by first | assumption | exact And.right (by assumption) | exact And.right (And.right (by assumption)) | exact And.right (And.right (And.right (by assumption))) | exact And.right (And.right (And.right (And.right (by assumption)))) | exact And.right (And.right (And.right (And.right (And.right (by assumption))))) | exact And.right (And.right (And.right (And.right (And.right (And.right (by assumption)))))) | exact And.right (And.right (And.right (And.right (And.right (And.right (And.right (by assumption))))))) | exact And.right (And.right (And.right (And.right (And.right (And.right (And.right (And.right (by assumption)))))))) | exact And.right (And.right (And.right (And.right (And.right (And.right (And.right (And.right (And.right (by assumption)))))))))) | refine Sub.setV ?_ (by first | assumption | exact And.right (by assumption) | exact And.right (And.right (by assumption)) | exact And.right (And.right (And.right (by assumption))) | exact And.right (And.right (And.right (And.right (by assumption)))) | exact And.right (And.right (And.right (And.right (And.right (by assumption))))) | exact And.right (And.right (And.right (And.right (And.right (And.right (by assumption)))))) | exact And.right (And.right (And.right (And.right (And.right (And.right (And.right (by assumption))))))) | exact And.right (And.right (And.right (And.right (And.right (And.right (And.right (And.right (by assumption)))))))) | exact And.right (And.right (And.right (And.right (And.right (And.right (And.right (And.right (And.right (by assumption)))))))))))); done) | (simp only [go_sem, decide_true, decide_false, Nat.lt_irrefl, h4, h6, h10, h11, hkk]; done) | (simp only [go_sem, decide_true, decide_false, Nat.lt_irrefl, h4, h6, h10, h11, hkk]; rfl) | rfl)
    · simp only [go_sem, decide_true, decide_false, Nat.lt_irrefl, hq, evsP]
end Go.Sk
end

-- W15l
section
namespace Go.Sk
open Go Go.Proofs

def g0 : Grid := newV 2 1 [⟨5, 1⟩]
def hA : Hist := ⟨2, 0, [[⟨3, 3⟩, ⟨3, 3⟩], [⟨3, 3⟩]]⟩
def gA : Grid := ⟨1, [⟨5, 1⟩], [[hA]], hA⟩
theorem flow0 : flowV 2 3 0 [] [] 4 = [[⟨3, 3⟩, ⟨3, 3⟩], [⟨3, 3⟩]] := by
  have a1 : outsV [] (mostN 2 0) [] 4 3 = [] := by decide
  have a2 : leftV [] (mostN 2 0) [] 4 = 1 := by decide
  have a3 : stayV [] (mostN 2 0) [] 4 3 = [⟨3, 3⟩, ⟨3, 3⟩] := by decide
  have b1 : outsV [] (mostN 2 1) [] 1 3 = [] := by decide
  have b2 : leftV [] (mostN 2 1) [] 1 = 0 := by decide
  have b3 : stayV [] (mostN 2 1) [] 1 3 = [⟨3, 3⟩] := by decide
  rw [flowV_cons (by simp), List.headD_nil, List.tail_nil, a1, a2, a3, flowV_cons (by simp), List.headD_nil, List.tail_nil, b1, b2, b3, flowV_nil (by rfl)]
theorem addH0 : addH (emptyH 2) 3 4 = (hA, 0) := by
  have hl : lastV (emptyH 2).ls = (0, false) := rfl
  have ht : totN 0 (emptyH 2).ls = 0 := rfl
  unfold addH addV
  rw [if_neg (by decide), hl, if_neg (by decide), ht, if_neg (by decide)]
  have : flowV (emptyH 2).k.toNat 3 0 (emptyH 2).ls [] 4 = [[⟨3, 3⟩, ⟨3, 3⟩], [⟨3, 3⟩]] := flow0
  rw [this]; rfl
theorem col0 (g : Grid) (h : g.w = 1) (x i : Nat) : colN g x i = 0 := by
  have := colN_lt g (by rw [h]; decide) x i
  rw [h] at this
  have e : (1 : Int).toNat = 1 := rfl
  omega
theorem add0 : addG g0 ⟨3, 9, 4⟩ = (gA, 0) := by
  have hr : rowsV g0 ⟨3, 9, 4⟩ 1 = ([[hA]], 0) := by
    show stepG g0 ⟨3, 9, 4⟩ 0 (rowsV g0 ⟨3, 9, 4⟩ 0) = _
    have h0 : rowsV g0 ⟨3, 9, 4⟩ 0 = ([[emptyH 2]], 0) := by
      show (g0.rows, (addH (emptyH 2) 3 4).2) = _
      rw [addH0]; rfl
    rw [h0]
    unfold stepG
    rw [if_pos rfl, col0 g0 rfl]
    have e1 : (([[emptyH 2]] : List (List Hist)).getD 0 []).getD 0 zeroH = emptyH 2 := rfl
    dsimp only
    rw [e1, addH0]; rfl
  unfold addG
  rw [if_pos (by decide)]
  have hn : g0.rows.length = 1 := rfl
  rw [hn, hr, if_pos rfl]
  have : (addH g0.all 3 4).1 = hA := by
    show (addH (emptyH 2) 3 4).1 = _
    rw [addH0]
  dsimp only
  rw [this]; rfl
theorem add1 : addG g0 ⟨3, 2305843009213693951, 4⟩ = (zeroG, 7) := by unfold addG; rw [if_neg (by decide)]
theorem est0 : estV hA.ls 3 1 = 4 := by
  have u0 : units 0 = 1 := by unfold units; rw [m64_id (by decide)]; rfl
  have u1 : units 1 = 2 := by unfold units; rw [m64_id (by decide)]; rfl
  have w1 : inW 3 1 3 = true := by unfold inW; rw [sub64_eq]; decide
  have m1 : m64 1 = 1 := m64_id (by decide)
  have m2 : m64 2 = 2 := m64_id (by decide)
  have m4 : m64 4 = 4 := m64_id (by decide)
  unfold estV partsV
  simp [hA, bucksF, partsF, partStep, w1, u0, u1, m1, m2, m4]
theorem row0 : rowV gA 0 77 3 1 = 4 := by
  unfold rowV
  rw [if_pos ⟨by decide, by decide, by decide⟩, col0 gA rfl]
  exact est0
theorem row1 : rowV gA 1 77 3 1 = 0 := by
  unfold rowV
  rw [if_neg (by decide)]
theorem g0_good : g0.Good := newV_good (by decide) (by decide) (by decide) (by decide) (by decide) (by intro s hs; simp only [List.mem_singleton] at hs; subst hs; decide)
theorem gA_good : gA.Good := by
  have := addG_good g0_good ⟨3, 9, 4⟩ (by rw [add0])
  rwa [add0] at this

set_option maxHeartbeats 1000000 in
set_option maxRecDepth 8000 in
theorem awake : Pure Try.prog 8 [] (bl true) := fun S => by
  refine callR_of Try.func8 rfl rfl (xc_ok (bitB 95) _ _ _ ?_)
  simp only [go_sem, decide_true, decide_false, Nat.lt_irrefl]
  have hc : confV 2 1 [⟨5, 1⟩] = 0 := by decide
  have hN := grid_New 2 1 [⟨5, 1⟩] (by decide)
  rw [hc, if_pos rfl] at hN
  refine hN.useA ?_
  simp only [go_sem, decide_true, decide_false, Nat.lt_irrefl]
  refine alloc_intro fun c1 h1 => ?_
  simp only [go_sem, decide_true, decide_false, Nat.lt_irrefl]
  have hA1 := grid_Add g0 ⟨3, 9, 4⟩ g0_good.ok (by decide) (by decide)
  rw [add0] at hA1
  refine hA1.useA ?_
  simp only [go_sem, decide_true, decide_false, Nat.lt_irrefl, h1]
  refine alloc_intro fun c3 h3 => ?_
  simp only [fresh_set] at h3
  simp only [go_sem, decide_true, decide_false, Nat.lt_irrefl, h3]
  have hA2 := grid_Add g0 ⟨3, 2305843009213693951, 4⟩ g0_good.ok (by decide) (by decide)
  rw [add1] at hA2
  refine hA2.useA ?_
  simp only [go_sem, decide_true, decide_false, Nat.lt_irrefl, h3]
  refine alloc_intro fun c5 h5 => ?_
  simp only [fresh_set] at h5
  simp only [go_sem, decide_true, decide_false, Nat.lt_irrefl, h3, h5]
  refine AWP.draw2 (bitB 95) mixed (by kernel_rfl) (fun j => if j = 25 then bl true else if j = 29 then u64 4 else if j = 34 then u64 0 else bl true) ?_
  have e1 : ((gA.rows.length : Int) == 1) = true := by decide
  have e2 : ((0 : Nat) < gA.rows.length) = True := by simp [gA]
  have e3 : ((gA.rows.map rowE).getD 0 []) = [.sl [hA.cs]] := rfl
  have s1 := hist_Same hA gA.all gA_good.all.small
  rw [show decide (hA = gA.all) = true by decide] at s1
  have s2 := grid_Row gA gA_good.ok 0 77 3 1 (by decide)
  rw [row0] at s2
  have s3 := grid_Row gA gA_good.ok 1 77 3 1 (by decide)
  rw [row1] at s3
  have s4 := grid_Same gA gA gA_good.small
  rw [decide_eq_true (rfl : gA = gA)] at s4
  simp only [go_sem, decide_true, decide_false, Nat.lt_irrefl, h3, h5, e1, e2, e3]
  refine ⟨s1.draw, s2.draw, s3.draw, s4.draw, ?_⟩
  (refine ⟨S, by (repeat (first | exact Sub.refl _ | refine Sub.setF ?_ (by first | assumption | exact And.right (by assumption) | exact And.right (And.right (by assumption)) | exact And.right (And.right (And.right (by assumption))) | exact And.right (And.right (And.right (And.right (by assumption)))) | exact And.right (And.right (And.right (And.right (And.right (by assumption))))) | exact And.right (And.right (And.right (And.right (And.right (And.right (by assumption)))))) | exact And.right (And.right (And.right (And.right (And.right (And.right (And.right (by assumption))))))) | exact And.right (And.right (And.right (And.right (And.right (And.right (And.right (And.right (by assumption)))))))) | exact And.right (And.right (And.right (And.right (And.right (And.right (And.right (And.right (And.right (by assumption)))))))))) | refine Sub.setV ?_ (by first | assumption | exact And.right (by assumption) | exact And.right (And.right (by assumption)) | exact And.right (And.right (And.right (by assumption))) | exact And.right (And.right (And.right (And.right (by assumption)))) | exact And.right (And.right (And.right (And.right (And.right (by assumption))))) | exact And.right (And.right (And.right (And.right (And.right (And.right (by assumption)))))) | exact And.right (And.right (And.right (And.right (And.right (And.right (And.right (by assumption))))))) | exact And.right (And.right (And.right (And.right (And.right (And.right (And.right (And.right (by assumption)))))))) | exact And.right (And.right (And.right (And.right (And.right (And.right (And.right (And.right (And.right (by assumption)))))))))))), ?_⟩); simp

set_option maxHeartbeats 1000000 in
theorem law_GridSame (c d : Conf2) (l k : List Event) (hn : c.sd.length ≤ 1048576) (hk : c.k < 9223372036854775808) (hw : c.w < 9223372036854775808) (hn2 : d.sd.length ≤ 1048576) (hk2 : d.k < 9223372036854775808) (hw2 : d.w < 9223372036854775808)
    (hl : ∀ e ∈ l, e.Ok) (ll : l.length ≤ 1048576) (hkk : ∀ e ∈ k, e.Ok) (kl : k.length ≤ 1048576) :
    CallsR Try.prog 6 [.agg [i64 c.k, i64 c.w, .p (.sl (c.sd.map Seed.pv)), i64 d.k, i64 d.w, .p (.sl (d.sd.map Seed.pv))], .p (evsP l), .p (evsP k)] noS (fun x _ => x = bl true) := by
  generalize noS = S
  refine callsR_of Try.func6 rfl (xc_ok (bitB 1487) _ _ _ ?_)
  simp only [go_sem, decide_true, decide_false, Nat.lt_irrefl]
  refine alloc_intro fun c3 h3 => ?_
  simp only [go_sem, decide_true, decide_false, Nat.lt_irrefl]
  refine awake.useA ?_
  simp only [go_sem, decide_true, decide_false, Nat.lt_irrefl]
  refine (ref15_Made c l (by omega) hk hw (by omega) hl).useA ?_
  simp only [go_sem, decide_true, decide_false, Nat.lt_irrefl, h3]
  refine alloc_intro fun c8 h8 => ?_
  simp only [fresh_set] at h8
  simp only [go_sem, decide_true, decide_false, Nat.lt_irrefl, h8]
  refine ⟨by decide, by decide, (ref15_Made d k (by clear h8; omega) hk2 hw2 (by clear h8; omega) hkk).useA ?_⟩
  simp only [go_sem, decide_true, decide_false, Nat.lt_irrefl, h8]
  refine alloc_intro fun c10 h10 => ?_
  simp only [fresh_set] at h10
  have gx := madeV_good c l
  have gy := madeV_good d k
  generalize (madeV c l).1 = x at *
  generalize (madeV d k).1 = y at *
  simp only [go_sem, decide_true, decide_false, Nat.lt_irrefl, h8, h10]
  refine AWP.draw2 (bitB 1487) mixed (by kernel_rfl) (fun j => if j = 3 then x.av else if j = 5 then y.av else if j = 6 then bl (decide (x = y)) else if j = 9 then bl (decide (x = y)) else if j = 17 then bl true else x.av) ?_
  have s4 := grid_Same x x gx.small
  rw [decide_eq_true (rfl : x = x)] at s4
  simp only [go_sem, decide_true, decide_false, Nat.lt_irrefl, h8, h10, beq_self_eq_true]
  refine ⟨(laid x gx.sz).draw, (laid y gy.sz).draw, (grid_Same x y gx.small).draw, (ref15_Same x y gx.small).draw, ?_⟩
  refine ⟨(laid x gx.sz).draw, (laid x gx.sz).draw, s4.draw, ?_⟩
  exact ⟨_, Sub.refl _⟩
end Go.Sk
end

-- W15m
section
namespace Go.Sk
open Go Go.Proofs

theorem zeroG_small : zeroG.Small := ⟨by decide, ⟨by decide, fun r hr => by cases hr⟩, ⟨by decide, fun l hl => by cases hl⟩⟩
theorem zeroG_sz : zeroG.Sz := ⟨by decide, fun r hr => by cases hr⟩
theorem addG_small {g : Grid} (hg : g.Good) (e : Event) : (addG g e).1.Small ∧ (addG g e).1.Sz := by
  by_cases h : (addG g e).2 = 0
  · exact ⟨(addG_good hg e h).small, (addG_good hg e h).sz⟩
  · have : (addG g e).1 = zeroG := by
      unfold addG at h ⊢
      split
      · rename_i c; rw [if_pos c] at h
        split
        · rename_i c2; rw [if_pos c2] at h; exact absurd rfl h
        · rfl
      · rfl
    rw [this]; exact ⟨zeroG_small, zeroG_sz⟩
theorem conf_good {k w : Int} {sd : List Seed} (h : confV k w sd = 0) : (newV k w sd).Good := by
  unfold confV at h
  split at h
  · simp at h
  · rename_i c
    split at h
    · rename_i c2
      exact newV_good (by omega) (by omega) (by omega) (by omega) (by omega) (fun s hs => List.all_eq_true.1 c2 s hs)
    · simp at h

set_option maxHeartbeats 2000000 in
set_option maxRecDepth 8000 in
theorem law_GridAsked (c : Conf2) (l : List Event) (n0 n1 n2 n3 n4 : Nat) (hn : c.sd.length ≤ 1048576) (hk : c.k < 9223372036854775808) (hw : c.w < 9223372036854775808)
    (hl : ∀ e ∈ l, e.Ok) (ll : l.length ≤ 1048576) (b1 : n1 < 18446744073709551616) (b2 : n2 < 18446744073709551616) :
    CallsR Try.prog 3 [c.av, .p (evsP l), .agg [u64 n0, u64 n1, u64 n2, u64 n3, u64 n4]] noS (fun x _ => x = bl true) := by
  generalize noS = S
  refine callsR_of Try.func3 rfl (xc_ok (bitB 17817583) _ _ _ ?_)
  simp only [go_sem, decide_true, decide_false, Nat.lt_irrefl]
  refine alloc_intro fun c3 h3 => ?_
  simp only [go_sem, decide_true, decide_false, Nat.lt_irrefl]
  refine alloc_intro fun c5 h5 => ?_
  simp only [fresh_set] at h5
  simp only [go_sem, decide_true, decide_false, Nat.lt_irrefl, h5]
  refine awake.useA ?_
  by_cases s20 : (c.sd.length : Int) > 20
  · simp only [go_sem, decide_true, decide_false, Nat.lt_irrefl, h5, s20, List.length_map]
    exact ⟨_, Sub.refl _⟩
  simp only [go_sem, decide_true, decide_false, Nat.lt_irrefl, h5, s20, List.length_map]
  refine (grid_New c.k c.w c.sd (by clear h5; omega)).useA ?_
  have hfin : ∀ y : Grid, y = (if confV c.k c.w c.sd = 0 then newV c.k c.w c.sd else zeroG) → (if confV c.k c.w c.sd = 0 then (newV c.k c.w c.sd).av else zeroG.av) = y.av := by
    rintro y rfl; split <;> rfl
  rw [hfin _ rfl]
  generalize hG : (if confV c.k c.w c.sd = 0 then newV c.k c.w c.sd else zeroG) = G
  simp only [go_sem, decide_true, decide_false, Nat.lt_irrefl, h5]
  refine alloc_intro fun c8 h8 => ?_
  simp only [fresh_set] at h8
  simp only [go_sem, decide_true, decide_false, Nat.lt_irrefl, h5, h8]
  refine (ref15_Conf c.k c.w c.sd (by clear h5 h8; omega)).useA ?_
  simp only [go_sem, decide_true, decide_false, Nat.lt_irrefl, h5, h8, beq_self_eq_true]
  refine AWP.draw2 (bitB 17817583) mixed (by kernel_rfl) (fun j => if j = 17 then G.av else if j = 24 then (newV c.k c.w c.sd).av else bl true) ?_
  by_cases hc0 : confV c.k c.w c.sd = 0
  · have q1 : (confV c.k c.w c.sd != 0) = false := by simpa using hc0
    have q2 : (confV c.k c.w c.sd == 0) = true := by simpa using hc0
    have gN := conf_good hc0
    have hGn : G = newV c.k c.w c.sd := by rw [← hG, if_pos hc0]
    have hNew : Pure Try.prog 13 [i64 c.k, i64 c.w, .p (.sl (c.sd.map Seed.pv))] (newV c.k c.w c.sd).av := by
      obtain ⟨wn, hwn⟩ : ∃ wn : Nat, c.w = wn := ⟨c.w.toNat, by have := gN.w1; change 1 ≤ c.w at this; clear h5 h8; omega⟩
      have := gN.w2; change c.w ≤ 256 at this
      rw [hwn] at this ⊢
      exact ref15_New c.k wn c.sd (by clear h5 h8; omega) (by clear h5 h8; omega)
    have hsm := ref15_Same (newV c.k c.w c.sd) (newV c.k c.w c.sd) gN.small
    rw [decide_eq_true (rfl : newV c.k c.w c.sd = newV c.k c.w c.sd)] at hsm
    have hbk := back (newV c.k c.w c.sd) gN.sz
    clear hG
    subst hGn
    generalize newV c.k c.w c.sd = G at *
    simp only [go_sem, decide_true, decide_false, Nat.lt_irrefl, h5, h8, q1, q2, beq_self_eq_true]
    refine ⟨hbk.draw, hNew.draw, hsm.draw, ?_⟩
    refine (ref15_Made c l (by clear h5 h8; omega) hk hw (by clear h5 h8; omega) hl).useA ?_
    have gx := madeV_good c l
    generalize (madeV c l).1 = x at *
    simp only [go_sem, decide_true, decide_false, Nat.lt_irrefl, h5, h8]
    refine alloc_intro fun c12 h12 => ?_
    simp only [fresh_set] at h12
    simp only [go_sem, decide_true, decide_false, Nat.lt_irrefl, h5, h8, h12]
    refine ⟨by decide, by decide, by decide, by decide, alloc_intro fun c14 h14 => ?_⟩
    simp only [fresh_set] at h14
    have hA := grid_Add x ⟨n0, n1, n2⟩ gx.ok b1 b2
    have hB := ref15_Add x ⟨n0, n1, n2⟩ gx.ok b1 b2
    obtain ⟨sa, za⟩ := addG_small gx ⟨n0, n1, n2⟩
    generalize addG x ⟨n0, n1, n2⟩ = X at *
    simp only [go_sem, decide_true, decide_false, Nat.lt_irrefl, h5, h8, h12, h14]
    refine AWP.draw2 (bitB 17817583) mixed (by kernel_rfl) (fun j => if j = 1 then x.av else .tuple [X.1.av, i64 X.2]) ?_
    simp only [go_sem, decide_true, decide_false, Nat.lt_irrefl, h5, h8, h12, h14]
    refine ⟨(laid x gx.sz).draw, hA.draw, alloc_intro fun c15 h15 => ?_⟩
    simp only [fresh_set] at h15
    simp only [go_sem, decide_true, decide_false, Nat.lt_irrefl, h5, h8, h12, h14, h15]
    refine hB.useA ?_
    simp only [go_sem, decide_true, decide_false, Nat.lt_irrefl, h5, h8, h12, h14, h15]
    refine alloc_intro fun c17 h17 => ?_
    simp only [fresh_set] at h17
    simp only [go_sem, decide_true, decide_false, Nat.lt_irrefl, h5, h8, h12, h14, h15, h17]
    refine ⟨by decide, by decide, ?_⟩
    generalize wi (wi ((n3 % 6 : Nat) : Int) - 1) = rw0
    have hsx := ref15_Same X.1 X.1 sa
    rw [decide_eq_true (rfl : X.1 = X.1)] at hsx
    refine AWP.draw2 (bitB 17817583) mixed (by kernel_rfl) (fun j => if j = 11 then X.1.av else if j = 13 then bl true else if j = 17 then x.av else u64 (rowV x rw0 n1 n0 n4)) ?_
    simp only [go_sem, decide_true, decide_false, Nat.lt_irrefl, h5, h8, h12, h14, h15, h17, beq_self_eq_true]
    refine ⟨(back X.1 za).draw, hsx.draw, (laid x gx.sz).draw, ?_⟩
    repeat' apply And.intro
    all_goals first
      | decide
      | exact (grid_Row x gx.ok rw0 n1 n0 n4 b1).draw
      | exact (ref15_Row x gx.ok rw0 n1 n0 n4 b1).draw
      | exact ⟨_, Sub.refl _⟩
  · have q1 : (confV c.k c.w c.sd != 0) = true := by simpa using hc0
    have hGn : G = zeroG := by rw [← hG, if_neg hc0]
    have q3 : ((G.rows.length : Int) == 0) = true := by rw [hGn]; rfl
    simp only [go_sem, decide_true, decide_false, Nat.lt_irrefl, h5, h8, q1, q3, beq_self_eq_true, List.length_map]
    refine (ref15_Made c l (by clear h5 h8; omega) hk hw (by clear h5 h8; omega) hl).useA ?_
    have gx := madeV_good c l
    generalize (madeV c l).1 = x at *
    simp only [go_sem, decide_true, decide_false, Nat.lt_irrefl, h5, h8]
    refine alloc_intro fun c12 h12 => ?_
    simp only [fresh_set] at h12
    simp only [go_sem, decide_true, decide_false, Nat.lt_irrefl, h5, h8, h12]
    refine ⟨by decide, by decide, by decide, by decide, alloc_intro fun c14 h14 => ?_⟩
    simp only [fresh_set] at h14
    have hA := grid_Add x ⟨n0, n1, n2⟩ gx.ok b1 b2
    have hB := ref15_Add x ⟨n0, n1, n2⟩ gx.ok b1 b2
    obtain ⟨sa, za⟩ := addG_small gx ⟨n0, n1, n2⟩
    generalize addG x ⟨n0, n1, n2⟩ = X at *
    simp only [go_sem, decide_true, decide_false, Nat.lt_irrefl, h5, h8, h12, h14]
    refine AWP.draw2 (bitB 17817583) mixed (by kernel_rfl) (fun j => if j = 1 then x.av else .tuple [X.1.av, i64 X.2]) ?_
    simp only [go_sem, decide_true, decide_false, Nat.lt_irrefl, h5, h8, h12, h14]
    refine ⟨(laid x gx.sz).draw, hA.draw, alloc_intro fun c15 h15 => ?_⟩
    simp only [fresh_set] at h15
    simp only [go_sem, decide_true, decide_false, Nat.lt_irrefl, h5, h8, h12, h14, h15]
    refine hB.useA ?_
    simp only [go_sem, decide_true, decide_false, Nat.lt_irrefl, h5, h8, h12, h14, h15]
    refine alloc_intro fun c17 h17 => ?_
    simp only [fresh_set] at h17
    simp only [go_sem, decide_true, decide_false, Nat.lt_irrefl, h5, h8, h12, h14, h15, h17]
    refine ⟨by decide, by decide, ?_⟩
    generalize wi (wi ((n3 % 6 : Nat) : Int) - 1) = rw0
    have hsx := ref15_Same X.1 X.1 sa
    rw [decide_eq_true (rfl : X.1 = X.1)] at hsx
    refine AWP.draw2 (bitB 17817583) mixed (by kernel_rfl) (fun j => if j = 11 then X.1.av else if j = 13 then bl true else if j = 17 then x.av else u64 (rowV x rw0 n1 n0 n4)) ?_
    simp only [go_sem, decide_true, decide_false, Nat.lt_irrefl, h5, h8, h12, h14, h15, h17, beq_self_eq_true]
    refine ⟨(back X.1 za).draw, hsx.draw, (laid x gx.sz).draw, ?_⟩
    repeat' apply And.intro
    all_goals first
      | decide
      | exact (grid_Row x gx.ok rw0 n1 n0 n4 b1).draw
      | exact (ref15_Row x gx.ok rw0 n1 n0 n4 b1).draw
      | exact ⟨_, Sub.refl _⟩
end Go.Sk
end

-- A17
section
namespace Go.Sk

/-- The cell that an event meets in row i, before and behind it. -/
noncomputable def cellG (g : Grid) (e : Event) (i : Nat) : Hist × Int := addH ((g.rows.getD i []).getD (colN g e.k i) zeroH) e.t e.w
theorem rowsV_at (g : Grid) (e : Event) : ∀ m, m ≤ g.rows.length → (rowsV g e m).2 = 0 → ∀ i, i < m → (cellG g e i).2 = 0 ∧ (rowsV g e m).1.getD i [] = (g.rows.getD i []).set (colN g e.k i) (cellG g e i).1 := by
  intro m
  induction m with
  | zero => intro _ _ i hi; omega
  | succ m ih =>
    intro hm h0 i hi
    have hse : rowsV g e (m + 1) = stepG g e m (rowsV g e m) := rfl
    unfold stepG at hse
    by_cases he : (rowsV g e m).2 = 0
    rotate_left
    · rw [if_neg he] at hse; rw [hse] at h0; exact absurd h0 he
    rw [if_pos he, rowsV_later g e m m (Nat.le_refl _)] at hse
    have hlt : m < (rowsV g e m).1.length := by rw [rowsV_len]; omega
    rw [hse] at h0 ⊢
    by_cases hc : i = m
    · subst hc
      refine ⟨h0, ?_⟩
      simp [List.getD_eq_getElem?_getD, hlt, cellG]
    · obtain ⟨h1, h2⟩ := ih (by omega) he i (by omega)
      refine ⟨h1, ?_⟩
      rw [← h2]
      simp [List.getD_eq_getElem?_getD, List.getElem?_set, Ne.symm hc]
/-- What was added to a good histogram makes another one of it. -/
theorem addH_other {h : Hist} (g : h.Good) {t w : Nat} (e : (addH h t w).2 = 0) : (addH h t w).1 ≠ h ∧ totV (addH h t w).1.ls = m64 (totV h.ls + w) := by
  obtain ⟨h1, _, _, h4⟩ := addH_good g t w e
  have hw : w ≠ 0 := by
    rintro rfl
    unfold addH addV at e
    rw [if_pos rfl] at e; simp at e
  have b1 := g.tot
  have b2 := h1.tot
  refine ⟨fun he => ?_, ?_⟩
  · rw [he] at h4; omega
  · rw [totV_eq (by omega), totV_eq (by omega), h4, m64_id (by omega)]
end Go.Sk
end

-- W15n
section
namespace Go.Sk
open Go Go.Proofs

theorem madeGo_len : ∀ l t g all, (madeGo l t g all).2.length ≤ all.length + l.length := by
  intro l
  induction l with
  | nil => intro t g all; exact Nat.le_refl _
  | cons x r ih =>
    intro t g all
    unfold madeGo
    split
    · refine Nat.le_trans (ih _ _ _) ?_; simp; omega
    · refine Nat.le_trans (ih _ _ _) ?_; simp
theorem madeV_len (c : Conf2) (l : List Event) : (madeV c l).2.length ≤ 20 := by
  refine Nat.le_trans (madeGo_len _ _ _ _) ?_
  rw [List.length_take]; simp; omega
theorem total_good {h : Hist} (g : h.Good) : Pure Try.prog 20 [h.av] (u64 (totV h.ls)) := by
  obtain ⟨k, gg, ls⟩ := h
  exact hist_Total k gg ls (by have := g.len; dsimp only at this; omega)

set_option maxHeartbeats 2000000 in
set_option maxRecDepth 8000 in
theorem law_GridApart (c : Conf2) (l : List Event) (d : Event) (hn : c.sd.length ≤ 1048576) (hk : c.k < 9223372036854775808) (hw : c.w < 9223372036854775808)
    (hl : ∀ e ∈ l, e.Ok) (ll : l.length ≤ 1048576) (hd : d.Ok) :
    CallsR Try.prog 5 [c.av, .p (evsP l), d.av] noS (fun x _ => x = bl true) := by
  generalize noS = S
  refine callsR_of Try.func5 rfl (xc_ok (bitB 5444517870735016019877488994174571380719) _ _ _ ?_)
  simp only [go_sem, decide_true, decide_false, Nat.lt_irrefl]
  refine alloc_intro fun c3 h3 => ?_
  simp only [go_sem, decide_true, decide_false, Nat.lt_irrefl]
  refine alloc_intro fun c5 h5 => ?_
  simp only [fresh_set] at h5
  simp only [go_sem, decide_true, decide_false, Nat.lt_irrefl, h5]
  refine awake.useA ?_
  simp only [go_sem, decide_true, decide_false, Nat.lt_irrefl, h5]
  refine (ref15_Made c l (by clear h5; omega) hk hw (by clear h5; omega) hl).useA ?_
  have gx := madeV_good c l
  have hal : (madeV c l).2.length < 4611686018427387904 := by have := madeV_len c l; clear h5; omega
  obtain ⟨x, hx⟩ : ∃ x, (madeV c l).1 = x := ⟨_, rfl⟩
  obtain ⟨al, hal2⟩ : ∃ al, (madeV c l).2 = al := ⟨_, rfl⟩
  rw [hx] at gx ⊢; rw [hal2] at hal ⊢
  clear hx hal2
  simp only [go_sem, decide_true, decide_false, Nat.lt_irrefl, h5]
  refine alloc_intro fun c8 h8 => ?_
  simp only [fresh_set] at h8
  by_cases ha : (al.length : Int) > 0
  · have q1 : wi ((al.length : Int) - 1) = ((al.length - 1 : Nat) : Int) := by rw [wi_id (by clear h5 h8; omega) (by clear h5 h8; omega)]; clear h5 h8; omega
    have q2 : al.length - 1 < al.length := by clear h5 h8; omega
    simp only [go_sem, decide_true, decide_false, Nat.lt_irrefl, h5, h8, ha, evsP, List.length_map, q1, q2, ltN' q2, getD_map' _ _ _ _ q2]
    refine (laid x gx.sz).useA ?_
    simp only [go_sem, decide_true, decide_false, Nat.lt_irrefl, h5, h8]
    refine alloc_intro fun c11 h11 => ?_
    simp only [fresh_set] at h11
    simp only [go_sem, decide_true, decide_false, Nat.lt_irrefl, h5, h8, h11]
    obtain ⟨T0, hT0⟩ : ∃ T0 : Nat, m64 ((al[al.length - 1]).t + d.t % 100) = T0 := ⟨_, rfl⟩
    simp only [go_sem, decide_true, decide_false, Nat.lt_irrefl, hT0]
    have hG := addG_good gx ⟨T0, d.k, d.w⟩
    have hO := @addG_ok x ⟨T0, d.k, d.w⟩
    have hRA := rowsV_at x ⟨T0, d.k, d.w⟩ x.rows.length (Nat.le_refl _)
    refine (grid_Add x ⟨T0, d.k, d.w⟩ gx.ok hd.k hd.w).useA ?_
    simp only [go_sem, decide_true, decide_false, Nat.lt_irrefl, h5, h8, h11]
    refine alloc_intro fun c12 h12 => ?_
    simp only [fresh_set] at h12
    by_cases ex : (addG x ⟨T0, d.k, d.w⟩).2 = 0
    rotate_left
    · have exb : ((addG x ⟨T0, d.k, d.w⟩).2 != 0) = true := by simpa using ex
      simp only [go_sem, decide_true, decide_false, Nat.lt_irrefl, h5, h8, h11, h12, exb]
      exact ⟨_, Sub.refl _⟩
    have exb : ((addG x ⟨T0, d.k, d.w⟩).2 != 0) = false := by simpa using ex
    obtain ⟨hkey, hr0, hAG⟩ := hO ex
    have hG := hG ex
    have hRA := hRA hr0
    rw [hAG] at exb hG ⊢
    simp only [go_sem, decide_true, decide_false, Nat.lt_irrefl, h5, h8, h11, h12, exb]
    have hHl := rowsV_len x ⟨T0, d.k, d.w⟩ x.rows.length
    have hX0 := rowsV_first x ⟨T0, d.k, d.w⟩ _ hr0
    obtain ⟨H, hH⟩ : ∃ H, (rowsV x ⟨T0, d.k, d.w⟩ x.rows.length).1 = H := ⟨_, rfl⟩
    obtain ⟨XA, hXA⟩ : ∃ XA, addH x.all T0 d.w = XA := ⟨_, rfl⟩
    simp only [hH, hXA] at hG hRA hHl hX0 ⊢
    have gXA : XA.1.Good ∧ totV XA.1.ls = m64 (totV x.all.ls + d.w) := by
      rw [← hXA] at hX0 ⊢
      exact ⟨(addH_good gx.all T0 d.w hX0).1, (addH_other gx.all hX0).2⟩
    clear hAG ex exb hr0 hH hXA
    obtain ⟨V, hV⟩ : ∃ V : Store, V = ((((S.set (.r c3) (.cells [i64 c.k, i64 c.w, .p (.sl (c.sd.map Seed.pv))])).set (.r c5) (.cells [u64 d.t, u64 d.k, u64 d.w])).set (.r c8) (.cells [i64 x.w, .p (.sl (x.sd.map Seed.pv)), .p (.sl (x.rows.map rowE)), i64 x.all.k, i64 x.all.g, .p (.sl (x.all.ls.map lvE))])).set (.r c11) (.cells [i64 x.w, .p (.sl (x.sd.map Seed.pv)), .p (.sl (x.rows.map rowE)), i64 x.all.k, i64 x.all.g, .p (.sl (x.all.ls.map lvE))])).set (.r c12) (.cells [i64 x.w, .p (.sl (x.sd.map Seed.pv)), .p (.sl (H.map rowE)), i64 XA.1.k, i64 XA.1.g, .p (.sl (XA.1.ls.map lvE))]) := ⟨_, rfl⟩
    have v5 : V (.r c5) = some (.cells [u64 d.t, u64 d.k, u64 d.w]) := by rw [hV]; simp only [go_sem, decide_true, decide_false, Nat.lt_irrefl, h5, h8, h11, h12]
    have v8 : V (.r c8) = some (.cells [i64 x.w, .p (.sl (x.sd.map Seed.pv)), .p (.sl (x.rows.map rowE)), i64 x.all.k, i64 x.all.g, .p (.sl (x.all.ls.map lvE))]) := by rw [hV]; simp only [go_sem, decide_true, decide_false, Nat.lt_irrefl, h5, h8, h11, h12]
    have v11 : V (.r c11) = some (.cells [i64 x.w, .p (.sl (x.sd.map Seed.pv)), .p (.sl (x.rows.map rowE)), i64 x.all.k, i64 x.all.g, .p (.sl (x.all.ls.map lvE))]) := by rw [hV]; simp only [go_sem, decide_true, decide_false, Nat.lt_irrefl, h5, h8, h11, h12]
    have v12 : V (.r c12) = some (.cells [i64 x.w, .p (.sl (x.sd.map Seed.pv)), .p (.sl (H.map rowE)), i64 XA.1.k, i64 XA.1.g, .p (.sl (XA.1.ls.map lvE))]) := by rw [hV]; simp only [go_sem, decide_true, decide_false, Nat.lt_irrefl, h5, h8, h11, h12]
    refine AWP.roam (ι := Nat) (fun i => i ≤ H.length) (fun i => ⟨Env.get [(5, .sp c5 0), (7, bl true), (8, .sp c8 0), (11, .sp c11 0), (12, .sp c12 0), (14, i64 i)], V, 146, []⟩) (fun i => H.length - i) 0 (Nat.zero_le _) ?_ ?_
    · refine le_of (by simp only [go_sem, decide_true, decide_false, Nat.lt_irrefl] <;> rfl) ?_ rfl rfl (by simp)
      rw [hV]; exact Sub.refl _
    clear hV h3 h5 h8 h11 h12
    intro i hi ih
    refine AWPH.step (xc_ok (bitB 5444517870735016019877488994174571380719) _ _ _ ?_)
    by_cases ci : i < H.length
    rotate_left
    · simp only [go_sem, decide_true, decide_false, Nat.lt_irrefl, v12, ci, List.length_map]
      refine AWP.draw2 (bitB 5444517870735016019877488994174571380719) mixed (by kernel_rfl) (fun j => if j = 4 then u64 (m64 (totV x.all.ls + d.w)) else u64 (totV x.all.ls)) ?_
      simp only [go_sem, decide_true, decide_false, Nat.lt_irrefl, v5, v11, v12, beq_self_eq_true]
      refine ⟨(gXA.2 ▸ total_good gXA.1).draw, (total_good gx.all).draw, ?_⟩
      exact ⟨_, Sub.refl _⟩
    have cr : i < x.rows.length := by rw [← hHl]; exact ci
    have hcs : i < x.sd.length := by rw [gx.sd]; exact cr
    have hrw : x.rows[i].length = x.w.toNat := gx.wid _ (List.getElem_mem cr)
    have hci : colV x.sd[i] d.k x.w = ((colN x d.k i : Nat) : Int) := by
      unfold colN
      rw [show x.sd.getD i default = x.sd[i] by simp [List.getD_eq_getElem?_getD, hcs], Int.toNat_of_nonneg (colV_nn _ _ _)]
    have hcb : colN x d.k i < x.rows[i].length := by rw [hrw]; exact colN_lt x gx.w1 _ _
    obtain ⟨hc0, hcH⟩ := hRA i cr
    rw [show x.rows.getD i [] = x.rows[i] by simp [List.getD_eq_getElem?_getD, cr]] at hcH
    rw [show H.getD i [] = H[i] by simp [List.getD_eq_getElem?_getD, ci]] at hcH
    have hgo : (x.rows[i][colN x d.k i]).Good := gx.hs _ (List.getElem_mem cr) _ (List.getElem_mem hcb)
    have hcell : cellG x ⟨T0, d.k, d.w⟩ i = addH x.rows[i][colN x d.k i] T0 d.w := by
      unfold cellG
      rw [show x.rows.getD i [] = x.rows[i] by simp [List.getD_eq_getElem?_getD, cr], show (x.rows[i]).getD (colN x d.k i) zeroH = x.rows[i][colN x d.k i] by simp [List.getD_eq_getElem?_getD, hcb]]
    rw [hcell] at hc0 hcH
    obtain ⟨hne, htt⟩ := addH_other hgo hc0
    have hgn := (addH_good hgo T0 d.w hc0).1
    generalize addH x.rows[i][colN x d.k i] T0 d.w = Y at *
    simp only [go_sem, decide_true, decide_false, Nat.lt_irrefl, v8, v5, v12, ci, ltN' ci, hcs, ltN' hcs, getD_map' _ _ _ _ hcs, List.length_map]
    refine AWP.draw2 (bitB 5444517870735016019877488994174571380719) mixed (by kernel_rfl) (fun j => i64 (colN x d.k i)) ?_
    simp only [go_sem, decide_true, decide_false, Nat.lt_irrefl, v8, v5, v12, hcs, ltN' hcs, getD_map' _ _ _ _ hcs]
    refine ⟨hci ▸ (ref04_Column x.sd[i] d.k x.w (Seed.ok_of_may (gx.so _ (List.getElem_mem hcs))) hd.k (by have := gx.w2; omega)).draw, ?_⟩
    have hrl : H[i].length = x.rows[i].length := by rw [hcH, List.length_set]
    refine AWP.roam (ι := Nat) (fun j => j ≤ H[i].length) (fun j => ⟨Env.get [(5, .sp c5 0), (7, bl true), (8, .sp c8 0), (11, .sp c11 0), (12, .sp c12 0), (14, i64 i), (15, i64 (colN x d.k i)), (16, i64 j)], V, 146, []⟩) (fun j => H[i].length - j) 0 (Nat.zero_le _) ?_ ?_
    · exact le_of (by simp only [go_sem, decide_true, decide_false, Nat.lt_irrefl, hci] <;> rfl) (Sub.refl _) rfl rfl (by simp)
    intro j hj jh
    refine AWPH.step (xc_ok (bitB 5444517870735016019877488994174571380719) _ _ _ ?_)
    by_cases cj : j < H[i].length
    rotate_left
    · simp only [go_sem, decide_true, decide_false, Nat.lt_irrefl, v12, ci, ltN' ci, getD_map' _ _ _ _ ci, rowE_mk, rowP, List.length_map, cj]
      refine (ih (i + 1) ci (by omega)).back (Sub.refl _) (by simp) ?_
      simp only [go_sem, decide_true, decide_false, Nat.lt_irrefl, wi_succ (show i < 4611686018427387904 by have := gx.n; omega)]
    have cj2 : j < x.rows[i].length := by rw [← hrl]; exact cj
    have hHg : (H[i][j]).Good := hG.hs _ (List.getElem_mem ci) _ (List.getElem_mem cj)
    have hxg : (x.rows[i][j]).Good := gx.hs _ (List.getElem_mem cr) _ (List.getElem_mem cj2)
    have hqj : wi ((j : Int) + 1) = ((j + 1 : Nat) : Int) := wi_succ (show j < 4611686018427387904 by have := gx.w2; rw [hrw] at cj2; omega)
    have f1 : ((false : Bool) == true) = false := rfl
    have f2 : ((true : Bool) == false) = false := rfl
    have hsame := hist_Same H[i][j] x.rows[i][j] hHg.small
    have htH := total_good hHg
    have htx := total_good hxg
    have hHj : H[i][j] = if j = colN x d.k i then Y.1 else x.rows[i][j] := by
      simp only [hcH, List.getElem_set, eq_comm]
    by_cases jo : j = colN x d.k i
    · have hne2 : ¬ H[i][j] = x.rows[i][j] := by
        rw [hHj, if_pos jo]; subst jo; exact hne
      have htt2 : totV (H[i][j]).ls = m64 (totV (x.rows[i][j]).ls + d.w) := by
        rw [hHj, if_pos jo]; subst jo; exact htt
      rw [decide_eq_false hne2] at hsame
      rw [htt2] at htH
      have g1 : ((j : Int) == ((colN x d.k i : Nat) : Int)) = true := by rw [jo]; exact beq_self_eq_true _
      simp only [go_sem, decide_true, decide_false, Nat.lt_irrefl, v12, ci, ltN' ci, getD_map' _ _ _ _ ci, rowE_mk, rowP, List.length_map, cj]
      refine AWP.draw2 (bitB 5444517870735016019877488994174571380719) mixed (by kernel_rfl) (fun q => bl false) ?_
      simp only [go_sem, decide_true, decide_false, Nat.lt_irrefl, v11, v12, ci, ltN' ci, cr, ltN' cr, cj, ltN' cj, cj2, ltN' cj2, getD_map' _ _ _ _ ci, getD_map' _ _ _ _ cr, getD_map' _ _ _ _ cj, getD_map' _ _ _ _ cj2, rowE_mk, rowP]
      refine ⟨hsame.draw, ?_⟩
      refine AWP.draw2 (bitB 5444517870735016019877488994174571380719) mixed (by kernel_rfl) (fun q => if q = 18 then u64 (m64 (totV (x.rows[i][j]).ls + d.w)) else u64 (totV (x.rows[i][j]).ls)) ?_
      simp only [go_sem, decide_true, decide_false, Nat.lt_irrefl, g1, f1, v5, v11, v12, ci, ltN' ci, cr, ltN' cr, cj, ltN' cj, cj2, ltN' cj2, getD_map' _ _ _ _ ci, getD_map' _ _ _ _ cr, getD_map' _ _ _ _ cj, getD_map' _ _ _ _ cj2, rowE_mk, rowP, bne_self_eq_false]
      refine ⟨htH.draw, htx.draw, ?_⟩
      refine (jh (j + 1) cj (by omega)).back (Sub.refl _) (by simp) ?_
      simp only [go_sem, decide_true, decide_false, Nat.lt_irrefl, hqj]
    · have he2 : H[i][j] = x.rows[i][j] := by rw [hHj, if_neg jo]
      rw [decide_eq_true he2] at hsame
      have g1 : ((j : Int) == ((colN x d.k i : Nat) : Int)) = false := by
        rw [beq_eq_false_iff_ne]; intro e; exact jo (by exact_mod_cast e)
      simp only [go_sem, decide_true, decide_false, Nat.lt_irrefl, v12, ci, ltN' ci, getD_map' _ _ _ _ ci, rowE_mk, rowP, List.length_map, cj]
      refine AWP.draw2 (bitB 5444517870735016019877488994174571380719) mixed (by kernel_rfl) (fun q => bl true) ?_
      simp only [go_sem, decide_true, decide_false, Nat.lt_irrefl, v11, v12, ci, ltN' ci, cr, ltN' cr, cj, ltN' cj, cj2, ltN' cj2, getD_map' _ _ _ _ ci, getD_map' _ _ _ _ cr, getD_map' _ _ _ _ cj, getD_map' _ _ _ _ cj2, rowE_mk, rowP]
      refine ⟨hsame.draw, ?_⟩
      refine AWP.draw2 (bitB 5444517870735016019877488994174571380719) mixed (by kernel_rfl) (fun q => bl true) ?_
      simp only [go_sem, decide_true, decide_false, Nat.lt_irrefl, g1, f2]
      refine (jh (j + 1) cj (by omega)).back (Sub.refl _) (by simp) ?_
      simp only [go_sem, decide_true, decide_false, Nat.lt_irrefl, hqj]
  · simp only [go_sem, decide_true, decide_false, Nat.lt_irrefl, h5, h8, ha, evsP, List.length_map]
    refine (laid x gx.sz).useA ?_
    simp only [go_sem, decide_true, decide_false, Nat.lt_irrefl, h5, h8]
    refine alloc_intro fun c11 h11 => ?_
    simp only [fresh_set] at h11
    simp only [go_sem, decide_true, decide_false, Nat.lt_irrefl, h5, h8, h11]
    obtain ⟨T0, hT0⟩ : ∃ T0 : Nat, m64 (d.t % 100) = T0 := ⟨_, rfl⟩
    simp only [go_sem, decide_true, decide_false, Nat.lt_irrefl, hT0]
    have hG := addG_good gx ⟨T0, d.k, d.w⟩
    have hO := @addG_ok x ⟨T0, d.k, d.w⟩
    have hRA := rowsV_at x ⟨T0, d.k, d.w⟩ x.rows.length (Nat.le_refl _)
    refine (grid_Add x ⟨T0, d.k, d.w⟩ gx.ok hd.k hd.w).useA ?_
    simp only [go_sem, decide_true, decide_false, Nat.lt_irrefl, h5, h8, h11]
    refine alloc_intro fun c12 h12 => ?_
    simp only [fresh_set] at h12
    by_cases ex : (addG x ⟨T0, d.k, d.w⟩).2 = 0
    rotate_left
    · have exb : ((addG x ⟨T0, d.k, d.w⟩).2 != 0) = true := by simpa using ex
      simp only [go_sem, decide_true, decide_false, Nat.lt_irrefl, h5, h8, h11, h12, exb]
      exact ⟨_, Sub.refl _⟩
    have exb : ((addG x ⟨T0, d.k, d.w⟩).2 != 0) = false := by simpa using ex
    obtain ⟨hkey, hr0, hAG⟩ := hO ex
    have hG := hG ex
    have hRA := hRA hr0
    rw [hAG] at exb hG ⊢
    simp only [go_sem, decide_true, decide_false, Nat.lt_irrefl, h5, h8, h11, h12, exb]
    have hHl := rowsV_len x ⟨T0, d.k, d.w⟩ x.rows.length
    have hX0 := rowsV_first x ⟨T0, d.k, d.w⟩ _ hr0
    obtain ⟨H, hH⟩ : ∃ H, (rowsV x ⟨T0, d.k, d.w⟩ x.rows.length).1 = H := ⟨_, rfl⟩
    obtain ⟨XA, hXA⟩ : ∃ XA, addH x.all T0 d.w = XA := ⟨_, rfl⟩
    simp only [hH, hXA] at hG hRA hHl hX0 ⊢
    have gXA : XA.1.Good ∧ totV XA.1.ls = m64 (totV x.all.ls + d.w) := by
      rw [← hXA] at hX0 ⊢
      exact ⟨(addH_good gx.all T0 d.w hX0).1, (addH_other gx.all hX0).2⟩
    clear hAG ex exb hr0 hH hXA
    obtain ⟨V, hV⟩ : ∃ V : Store, V = ((((S.set (.r c3) (.cells [i64 c.k, i64 c.w, .p (.sl (c.sd.map Seed.pv))])).set (.r c5) (.cells [u64 d.t, u64 d.k, u64 d.w])).set (.r c8) (.cells [i64 x.w, .p (.sl (x.sd.map Seed.pv)), .p (.sl (x.rows.map rowE)), i64 x.all.k, i64 x.all.g, .p (.sl (x.all.ls.map lvE))])).set (.r c11) (.cells [i64 x.w, .p (.sl (x.sd.map Seed.pv)), .p (.sl (x.rows.map rowE)), i64 x.all.k, i64 x.all.g, .p (.sl (x.all.ls.map lvE))])).set (.r c12) (.cells [i64 x.w, .p (.sl (x.sd.map Seed.pv)), .p (.sl (H.map rowE)), i64 XA.1.k, i64 XA.1.g, .p (.sl (XA.1.ls.map lvE))]) := ⟨_, rfl⟩
    have v5 : V (.r c5) = some (.cells [u64 d.t, u64 d.k, u64 d.w]) := by rw [hV]; simp only [go_sem, decide_true, decide_false, Nat.lt_irrefl, h5, h8, h11, h12]
    have v8 : V (.r c8) = some (.cells [i64 x.w, .p (.sl (x.sd.map Seed.pv)), .p (.sl (x.rows.map rowE)), i64 x.all.k, i64 x.all.g, .p (.sl (x.all.ls.map lvE))]) := by rw [hV]; simp only [go_sem, decide_true, decide_false, Nat.lt_irrefl, h5, h8, h11, h12]
    have v11 : V (.r c11) = some (.cells [i64 x.w, .p (.sl (x.sd.map Seed.pv)), .p (.sl (x.rows.map rowE)), i64 x.all.k, i64 x.all.g, .p (.sl (x.all.ls.map lvE))]) := by rw [hV]; simp only [go_sem, decide_true, decide_false, Nat.lt_irrefl, h5, h8, h11, h12]
    have v12 : V (.r c12) = some (.cells [i64 x.w, .p (.sl (x.sd.map Seed.pv)), .p (.sl (H.map rowE)), i64 XA.1.k, i64 XA.1.g, .p (.sl (XA.1.ls.map lvE))]) := by rw [hV]; simp only [go_sem, decide_true, decide_false, Nat.lt_irrefl, h5, h8, h11, h12]
    refine AWP.roam (ι := Nat) (fun i => i ≤ H.length) (fun i => ⟨Env.get [(5, .sp c5 0), (7, bl true), (8, .sp c8 0), (11, .sp c11 0), (12, .sp c12 0), (14, i64 i)], V, 146, []⟩) (fun i => H.length - i) 0 (Nat.zero_le _) ?_ ?_
    · refine le_of (by simp only [go_sem, decide_true, decide_false, Nat.lt_irrefl] <;> rfl) ?_ rfl rfl (by simp)
      rw [hV]; exact Sub.refl _
    clear hV h3 h5 h8 h11 h12
    intro i hi ih
    refine AWPH.step (xc_ok (bitB 5444517870735016019877488994174571380719) _ _ _ ?_)
    by_cases ci : i < H.length
    rotate_left
    · simp only [go_sem, decide_true, decide_false, Nat.lt_irrefl, v12, ci, List.length_map]
      refine AWP.draw2 (bitB 5444517870735016019877488994174571380719) mixed (by kernel_rfl) (fun j => if j = 4 then u64 (m64 (totV x.all.ls + d.w)) else u64 (totV x.all.ls)) ?_
      simp only [go_sem, decide_true, decide_false, Nat.lt_irrefl, v5, v11, v12, beq_self_eq_true]
      refine ⟨(gXA.2 ▸ total_good gXA.1).draw, (total_good gx.all).draw, ?_⟩
      exact ⟨_, Sub.refl _⟩
    have cr : i < x.rows.length := by rw [← hHl]; exact ci
    have hcs : i < x.sd.length := by rw [gx.sd]; exact cr
    have hrw : x.rows[i].length = x.w.toNat := gx.wid _ (List.getElem_mem cr)
    have hci : colV x.sd[i] d.k x.w = ((colN x d.k i : Nat) : Int) := by
      unfold colN
      rw [show x.sd.getD i default = x.sd[i] by simp [List.getD_eq_getElem?_getD, hcs], Int.toNat_of_nonneg (colV_nn _ _ _)]
    have hcb : colN x d.k i < x.rows[i].length := by rw [hrw]; exact colN_lt x gx.w1 _ _
    obtain ⟨hc0, hcH⟩ := hRA i cr
    rw [show x.rows.getD i [] = x.rows[i] by simp [List.getD_eq_getElem?_getD, cr]] at hcH
    rw [show H.getD i [] = H[i] by simp [List.getD_eq_getElem?_getD, ci]] at hcH
    have hgo : (x.rows[i][colN x d.k i]).Good := gx.hs _ (List.getElem_mem cr) _ (List.getElem_mem hcb)
    have hcell : cellG x ⟨T0, d.k, d.w⟩ i = addH x.rows[i][colN x d.k i] T0 d.w := by
      unfold cellG
      rw [show x.rows.getD i [] = x.rows[i] by simp [List.getD_eq_getElem?_getD, cr], show (x.rows[i]).getD (colN x d.k i) zeroH = x.rows[i][colN x d.k i] by simp [List.getD_eq_getElem?_getD, hcb]]
    rw [hcell] at hc0 hcH
    obtain ⟨hne, htt⟩ := addH_other hgo hc0
    have hgn := (addH_good hgo T0 d.w hc0).1
    generalize addH x.rows[i][colN x d.k i] T0 d.w = Y at *
    simp only [go_sem, decide_true, decide_false, Nat.lt_irrefl, v8, v5, v12, ci, ltN' ci, hcs, ltN' hcs, getD_map' _ _ _ _ hcs, List.length_map]
    refine AWP.draw2 (bitB 5444517870735016019877488994174571380719) mixed (by kernel_rfl) (fun j => i64 (colN x d.k i)) ?_
    simp only [go_sem, decide_true, decide_false, Nat.lt_irrefl, v8, v5, v12, hcs, ltN' hcs, getD_map' _ _ _ _ hcs]
    refine ⟨hci ▸ (ref04_Column x.sd[i] d.k x.w (Seed.ok_of_may (gx.so _ (List.getElem_mem hcs))) hd.k (by have := gx.w2; omega)).draw, ?_⟩
    have hrl : H[i].length = x.rows[i].length := by rw [hcH, List.length_set]
    refine AWP.roam (ι := Nat) (fun j => j ≤ H[i].length) (fun j => ⟨Env.get [(5, .sp c5 0), (7, bl true), (8, .sp c8 0), (11, .sp c11 0), (12, .sp c12 0), (14, i64 i), (15, i64 (colN x d.k i)), (16, i64 j)], V, 146, []⟩) (fun j => H[i].length - j) 0 (Nat.zero_le _) ?_ ?_
    · exact le_of (by simp only [go_sem, decide_true, decide_false, Nat.lt_irrefl, hci] <;> rfl) (Sub.refl _) rfl rfl (by simp)
    intro j hj jh
    refine AWPH.step (xc_ok (bitB 5444517870735016019877488994174571380719) _ _ _ ?_)
    by_cases cj : j < H[i].length
    rotate_left
    · simp only [go_sem, decide_true, decide_false, Nat.lt_irrefl, v12, ci, ltN' ci, getD_map' _ _ _ _ ci, rowE_mk, rowP, List.length_map, cj]
      refine (ih (i + 1) ci (by omega)).back (Sub.refl _) (by simp) ?_
      simp only [go_sem, decide_true, decide_false, Nat.lt_irrefl, wi_succ (show i < 4611686018427387904 by have := gx.n; omega)]
    have cj2 : j < x.rows[i].length := by rw [← hrl]; exact cj
    have hHg : (H[i][j]).Good := hG.hs _ (List.getElem_mem ci) _ (List.getElem_mem cj)
    have hxg : (x.rows[i][j]).Good := gx.hs _ (List.getElem_mem cr) _ (List.getElem_mem cj2)
    have hqj : wi ((j : Int) + 1) = ((j + 1 : Nat) : Int) := wi_succ (show j < 4611686018427387904 by have := gx.w2; rw [hrw] at cj2; omega)
    have f1 : ((false : Bool) == true) = false := rfl
    have f2 : ((true : Bool) == false) = false := rfl
    have hsame := hist_Same H[i][j] x.rows[i][j] hHg.small
    have htH := total_good hHg
    have htx := total_good hxg
    have hHj : H[i][j] = if j = colN x d.k i then Y.1 else x.rows[i][j] := by
      simp only [hcH, List.getElem_set, eq_comm]
    by_cases jo : j = colN x d.k i
    · have hne2 : ¬ H[i][j] = x.rows[i][j] := by
        rw [hHj, if_pos jo]; subst jo; exact hne
      have htt2 : totV (H[i][j]).ls = m64 (totV (x.rows[i][j]).ls + d.w) := by
        rw [hHj, if_pos jo]; subst jo; exact htt
      rw [decide_eq_false hne2] at hsame
      rw [htt2] at htH
      have g1 : ((j : Int) == ((colN x d.k i : Nat) : Int)) = true := by rw [jo]; exact beq_self_eq_true _
      simp only [go_sem, decide_true, decide_false, Nat.lt_irrefl, v12, ci, ltN' ci, getD_map' _ _ _ _ ci, rowE_mk, rowP, List.length_map, cj]
      refine AWP.draw2 (bitB 5444517870735016019877488994174571380719) mixed (by kernel_rfl) (fun q => bl false) ?_
      simp only [go_sem, decide_true, decide_false, Nat.lt_irrefl, v11, v12, ci, ltN' ci, cr, ltN' cr, cj, ltN' cj, cj2, ltN' cj2, getD_map' _ _ _ _ ci, getD_map' _ _ _ _ cr, getD_map' _ _ _ _ cj, getD_map' _ _ _ _ cj2, rowE_mk, rowP]
      refine ⟨hsame.draw, ?_⟩
      refine AWP.draw2 (bitB 5444517870735016019877488994174571380719) mixed (by kernel_rfl) (fun q => if q = 18 then u64 (m64 (totV (x.rows[i][j]).ls + d.w)) else u64 (totV (x.rows[i][j]).ls)) ?_
      simp only [go_sem, decide_true, decide_false, Nat.lt_irrefl, g1, f1, v5, v11, v12, ci, ltN' ci, cr, ltN' cr, cj, ltN' cj, cj2, ltN' cj2, getD_map' _ _ _ _ ci, getD_map' _ _ _ _ cr, getD_map' _ _ _ _ cj, getD_map' _ _ _ _ cj2, rowE_mk, rowP, bne_self_eq_false]
      refine ⟨htH.draw, htx.draw, ?_⟩
      refine (jh (j + 1) cj (by omega)).back (Sub.refl _) (by simp) ?_
      simp only [go_sem, decide_true, decide_false, Nat.lt_irrefl, hqj]
    · have he2 : H[i][j] = x.rows[i][j] := by rw [hHj, if_neg jo]
      rw [decide_eq_true he2] at hsame
      have g1 : ((j : Int) == ((colN x d.k i : Nat) : Int)) = false := by
        rw [beq_eq_false_iff_ne]; intro e; exact jo (by exact_mod_cast e)
      simp only [go_sem, decide_true, decide_false, Nat.lt_irrefl, v12, ci, ltN' ci, getD_map' _ _ _ _ ci, rowE_mk, rowP, List.length_map, cj]
      refine AWP.draw2 (bitB 5444517870735016019877488994174571380719) mixed (by kernel_rfl) (fun q => bl true) ?_
      simp only [go_sem, decide_true, decide_false, Nat.lt_irrefl, v11, v12, ci, ltN' ci, cr, ltN' cr, cj, ltN' cj, cj2, ltN' cj2, getD_map' _ _ _ _ ci, getD_map' _ _ _ _ cr, getD_map' _ _ _ _ cj, getD_map' _ _ _ _ cj2, rowE_mk, rowP]
      refine ⟨hsame.draw, ?_⟩
      refine AWP.draw2 (bitB 5444517870735016019877488994174571380719) mixed (by kernel_rfl) (fun q => bl true) ?_
      simp only [go_sem, decide_true, decide_false, Nat.lt_irrefl, g1, f2]
      refine (jh (j + 1) cj (by omega)).back (Sub.refl _) (by simp) ?_
      simp only [go_sem, decide_true, decide_false, Nat.lt_irrefl, hqj]
end Go.Sk
end

-- L15
section
namespace Go.Sk
open Go Go.Proofs Go.ChangeShapes Go.WideShapes Go.ChangeAt Go.RowKit

theorem fit_events {N : Nat} {pv : PV} (h : Fit N (.sl [.int .u64, .int .u64, .int .u64]) pv) : ∃ l : List Event, pv = evsP l ∧ (∀ e ∈ l, e.Ok) ∧ l.length ≤ N := by
  refine fit_list (pvf := Event.pv) (ok := Event.Ok) h (fun l hl hf => ?_)
  obtain ⟨a, b, c, rfl, ha, hb, hc⟩ := fit_three hl hf
  obtain ⟨x, hx, rfl⟩ := fit_u64 ha
  obtain ⟨y, hy, rfl⟩ := fit_u64 hb
  obtain ⟨z, hz, rfl⟩ := fit_u64 hc
  exact ⟨⟨x, y, z⟩, rfl, hx, hy, hz⟩
theorem fit_seeds {N : Nat} {pv : PV} (h : Fit N (.sl [.int .u64, .int .u64]) pv) : ∃ l : List Seed, pv = .sl (l.map Seed.pv) ∧ (∀ e ∈ l, e.Ok) ∧ l.length ≤ N := by
  refine fit_list (pvf := Seed.pv) (ok := Seed.Ok) h (fun l hl hf => ?_)
  obtain ⟨a, b, rfl, ha, hb⟩ := fit_two hl hf
  obtain ⟨x, hx, rfl⟩ := fit_u64 ha
  obtain ⟨y, hy, rfl⟩ := fit_u64 hb
  exact ⟨⟨x, y⟩, rfl, hx, hy⟩
theorem shEvents : shOf Try.prog 8 25 = some [.sl [.int .u64, .int .u64, .int .u64]] := by kernel_rfl
theorem shConfs : shOf Try.prog 8 70 = some [.int .i64, .int .i64, .sl [.int .u64, .int .u64], .int .i64, .int .i64, .sl [.int .u64, .int .u64]] := by kernel_rfl

structure Conf2.Ok (c : Conf2) : Prop where
  k : c.k < 9223372036854775808
  w : c.w < 9223372036854775808
  k0 : -9223372036854775808 ≤ c.k
  w0 : -9223372036854775808 ≤ c.w
  so : ∀ s ∈ c.sd, s.Ok
  n : c.sd.length ≤ 1048576
section
variable {H : Type} {enc : TypeId × Value → H}
set_option maxRecDepth 100000 in
theorem arg_events {W : World} {base N : Nat} {v : Value} {d : DataW H} {p : List MemPlace} (hok : Value.okWide Try.prog W .any base 25 v) (h : DataW.Trod enc Try.prog W 0 (fun _ => true) true 25 v d p) (hN : Ytjiechgnlcpllaa.Rows.uptoBulk d ≤ N) :
    ∃ l : List Event, (∀ e ∈ l, e.Ok) ∧ l.length ≤ N ∧ RepA (allD W) W v (.p (evsP l)) := by
  obtain ⟨a, n, c, rfl⟩ := okWide_slice Try.underlying25 hok
  obtain ⟨pv, hf, hr⟩ := arg_one (N := N) (f := 8) (bulkOk H) shEvents (fun c h => by cases h) h hN
  obtain ⟨l, rfl, h1, h2⟩ := fit_events hf
  exact ⟨l, h1, h2, hr⟩
set_option maxRecDepth 100000 in
theorem arg_confs {W : World} {base : Nat} {v : Value} {d : DataW H} {p : List MemPlace} (hok : Value.okWide Try.prog W .any base 70 v) (h : DataW.Trod enc Try.prog W 0 (fun _ => true) true 70 v d p) (hN : Ytjiechgnlcpllaa.Rows.uptoBulk d ≤ 1048576) :
    ∃ c d : Conf2, c.Ok ∧ d.Ok ∧ RepA (allD W) W v (.agg [i64 c.k, i64 c.w, .p (.sl (c.sd.map Seed.pv)), i64 d.k, i64 d.w, .p (.sl (d.sd.map Seed.pv))]) := by
  obtain ⟨pvs, hl, hf, hr⟩ := arg_agg (N := 1048576) (f := 8) (bulkOk H) shConfs (by rw [Try.underlying70]) hok h hN
  match pvs, hl with
  | [a, b, c, d, e, f], _ =>
    obtain ⟨x, ⟨hx0, hx⟩, e1⟩ := fit_i64 (hf 0 (by simp))
    obtain ⟨y, ⟨hy0, hy⟩, e2⟩ := fit_i64 (hf 1 (by simp))
    obtain ⟨s, e3, hs, hsn⟩ := fit_seeds (hf 2 (by simp))
    obtain ⟨z, ⟨hz0, hz⟩, e4⟩ := fit_i64 (hf 3 (by simp))
    obtain ⟨w, ⟨hw0, hw⟩, e5⟩ := fit_i64 (hf 4 (by simp))
    obtain ⟨t, e6, ht, htn⟩ := fit_seeds (hf 5 (by simp))
    simp at e1 e2 e3 e4 e5 e6
    subst e1; subst e2; subst e3; subst e4; subst e5; subst e6
    exact ⟨⟨x, y, s⟩, ⟨z, w, t⟩, ⟨hx, hy, hx0, hy0, hs, hsn⟩, ⟨hz, hw, hz0, hw0, ht, htn⟩, hr⟩
end
namespace gridSame
set_option maxRecDepth 100000 in
theorem contract (H : Type) (enc : TypeId × Value → H) (W : World) (base : Nat) (args : Array Value) (ds gs : List (DataW H)) (before : List MemPlace)
    (hval : ∀ (j : Nat) t v, Try.f6.params[j]? = some t → args[j]? = some v → Value.okWide Try.prog W .any base t v)
    (hW : DataW.Whole enc Try.prog Try.f6.params.toList Ytjiechgnlcpllaa.Rows.gridSameSpec.vars false W args.toList ds gs before) (hk : Ytjiechgnlcpllaa.Rows.uptoSmall H (ds ++ gs) = true) :
    Calls Try.prog 6 args W fun e W' => ∃ v, e = .returned v ∧ Ytjiechgnlcpllaa.Rows.gridSameSpec.post enc Try.prog Try.f6 false true false false W args v W' := by
  have hW' := hW
  obtain ⟨p, q, hA0, hV, rfl, hfz, hnd⟩ := hW
  have hA : DataW.TrodAll enc Try.prog W 0 (fun _ => true) true Try.f6.params.toList args.toList ds p := hA0
  rw [Try.params6] at hA hval
  obtain ⟨v0, vs0, d0, ds0, p0, q0, hargs, rfl, rfl, h0, r0⟩ := trodAll_cons hA
  obtain ⟨v1, vs1, d1, ds1, p1, q1, rfl, rfl, rfl, h1, r1⟩ := trodAll_cons r0
  obtain ⟨v2, vs2, d2, ds2, p2, q2, rfl, rfl, rfl, h2, r2⟩ := trodAll_cons r1
  obtain ⟨rfl, rfl, rfl⟩ := trodAll_nil r2
  obtain ⟨rfl, rfl⟩ := trodVars_none hV
  obtain rfl : args = #[v0, v1, v2] := by cases args; simp_all
  have hb : Ytjiechgnlcpllaa.Rows.uptoBulkAll ([d0, d1, d2] ++ []) ≤ 1048576 := of_decide_eq_true hk
  obtain ⟨b0, hb⟩ := small_cons hb
  obtain ⟨b1, hb⟩ := small_cons hb
  obtain ⟨b2, hb⟩ := small_cons hb
  obtain ⟨c, d, hc, hd, rep0⟩ := arg_confs (hval 0 70 v0 rfl rfl) h0 b0
  obtain ⟨l, hl, ll, rep1⟩ := arg_events (hval 1 25 v1 rfl rfl) h1 b1
  obtain ⟨k, hk, kl, rep2⟩ := arg_events (hval 2 25 v2 rfl rfl) h2 b2
  refine ((law_GridSame c d l k hc.n hc.k hc.w hd.n hd.k hd.w hl ll hk kl) (allD W) W #[v0, v1, v2] (rel_all W) ⟨rfl, fun i hi => ?_⟩).mono ?_
  · match i, hi with
    | 0, _ => exact rep0
    | 1, _ => exact rep1
    | 2, _ => exact rep2
  · rintro e W' ⟨v, rfl, x, S', D', rfl, _, hrep, hE⟩
    cases hrep with
    | p hrep =>
    cases hrep
    exact ⟨_, rfl, bridge kids full hW' rfl (by rw [Try.params6]; decide) rfl Try.underlying4 rfl rfl rfl hE.still⟩

set_option maxRecDepth 100000 in
theorem lifted (os : Os) (started : os.Started) (H : Type) (enc : TypeId × Value → H) (F : Stop.Interp) :
    ReturnsInHanded {} Try.checked os 6 .any ((Ytjiechgnlcpllaa.Rows.OpenSpec.upto Ytjiechgnlcpllaa.Rows.gridSameSpec).pre6 enc Try.prog Try.f6 Ytjiechgnlcpllaa.Rows.gridSameUptoRow.domain false) (((Ytjiechgnlcpllaa.Rows.OpenSpec.upto Ytjiechgnlcpllaa.Rows.gridSameSpec).at F).post enc Try.prog Try.f6 false true false false) := by
  refine returnsInHanded_of_cond (C := Try.checked) (s := Ytjiechgnlcpllaa.Rows.OpenSpec.upto Ytjiechgnlcpllaa.Rows.gridSameSpec) (k := Ytjiechgnlcpllaa.Rows.uptoSmall) rfl own started (by kernel_rfl) Try.func6
    (OpenSpec.witness (enc := enc) (C := Try.checked) (s := Ytjiechgnlcpllaa.Rows.OpenSpec.upto Ytjiechgnlcpllaa.Rows.gridSameSpec) (k := Ytjiechgnlcpllaa.Rows.uptoSmall) rfl false ⟨#[], #[.agg #[.int .i64 0, .int .i64 0, .slice none 0 0, .int .i64 0, .int .i64 0, .slice none 0 0], .slice none 0 0, .slice none 0 0], []⟩ 12 (by kernel_rfl) (by kernel_rfl) (by kernel_rfl)
      (x := ([.agg [.agg [.lit (.int .i64 0), .lit (.int .i64 0), .nil], .agg [.lit (.int .i64 0), .lit (.int .i64 0), .nil]], .nil, .nil], [], [])) (by kernel_rfl) rfl (by kernel_rfl)) ?_
  intro W base args ds gs before hval hW _ hk _
  exact contract H enc W base args ds gs before hval hW hk

theorem j1 : (Ytjiechgnlcpllaa.Rows.gridSameUptoRow.inPlace == Try.prog.inPlace 6) = true := by kernel_rfl
theorem j2 : (Ytjiechgnlcpllaa.Rows.gridSameUptoRow.unfollowed == Try.prog.unfollowed 6) = true := by kernel_rfl
theorem j3 : (Ytjiechgnlcpllaa.Rows.gridSameUptoRow.recurses == Try.prog.recurses 6) = true := by kernel_rfl
theorem j4 : (Ytjiechgnlcpllaa.Rows.gridSameUptoRow.named == Try.prog.varsNamed 6) = true := by kernel_rfl
theorem j5 : (Ytjiechgnlcpllaa.Rows.gridSameUptoRow.plainKeys == Try.prog.plainKeys) = true := by kernel_rfl
theorem j6 : (Ytjiechgnlcpllaa.Rows.gridSameUptoRow.lifted == Try.prog.liftsFinal) = true := by kernel_rfl
theorem j7 : (Try.prog.make == some Ytjiechgnlcpllaa.Rows.gridSameUptoRow.make) = true := by kernel_rfl
set_option maxRecDepth 100000 in
theorem jf : joinedFacts Try.prog 6 Try.f6 (Ytjiechgnlcpllaa.Rows.OpenSpec.upto Ytjiechgnlcpllaa.Rows.gridSameSpec).bare Ytjiechgnlcpllaa.Rows.gridSameUptoRow = true := by
  unfold joinedFacts
  exact and_ok (and_ok (and_ok (and_ok (and_ok (and_ok (and_ok (and_ok (and_ok (and_ok (and_ok (and_ok (and_ok (and_ok (and_ok (and_ok (and_ok (and_ok (and_ok (and_ok (and_ok (and_ok (and_ok (and_ok (and_ok (and_ok (and_ok (and_ok (and_ok (and_ok (and_ok (by kernel_rfl) j_laid) j_maps) (by kernel_rfl)) (by kernel_rfl)) (by kernel_rfl)) (by kernel_rfl)) (by kernel_rfl)) (by kernel_rfl)) j1) j2) j3) j4) (by kernel_rfl)) (by kernel_rfl)) (by kernel_rfl)) (by kernel_rfl)) (by kernel_rfl)) (by kernel_rfl)) (by kernel_rfl)) (by kernel_rfl)) (by kernel_rfl)) j5) (by kernel_rfl)) j_heard) j_enter) j6) j7) (by kernel_rfl)) (by kernel_rfl)) (by kernel_rfl)) (by kernel_rfl)
end gridSame
theorem _root_.Go.Proofs.Ytjiechgnlcpllaa.gridSame_proved : Ytjiechgnlcpllaa.Rows.GridSameUptoSaid :=
  OpenClaim.holds_of_cond 6 Try.f6 rfl rfl rfl rfl rfl rfl rfl ⟨rfl, rfl, rfl, rfl, rfl⟩ rfl rfl rfl rfl rfl (by kernel_rfl) Try.func6 gridSame.jf
    (of_decide_eq_true (by kernel_rfl)) (by unfold Func.isWrapper; first | (rw [if_pos (by decide +kernel)]; kernel_rfl) | (rw [if_neg (by decide +kernel)]; exact ⟨rfl, rfl⟩))
    (fun os started H enc _ F => gridSame.lifted os started H enc F)
#print axioms Go.Proofs.Ytjiechgnlcpllaa.gridSame_proved
end Go.Sk
end

-- L15b
section
namespace Go.Sk
open Go Go.Proofs Go.ChangeShapes Go.WideShapes Go.ChangeAt Go.RowKit

theorem shConf : shOf Try.prog 8 24 = some [.int .i64, .int .i64, .sl [.int .u64, .int .u64]] := by kernel_rfl
theorem shFive : shOf Try.prog 8 27 = some [.int .u64, .int .u64, .int .u64, .int .u64, .int .u64] := by kernel_rfl
section
variable {H : Type} {enc : TypeId × Value → H}
set_option maxRecDepth 100000 in
theorem arg_conf {W : World} {base : Nat} {v : Value} {d : DataW H} {p : List MemPlace} (hok : Value.okWide Try.prog W .any base 24 v) (h : DataW.Trod enc Try.prog W 0 (fun _ => true) true 24 v d p) (hN : Ytjiechgnlcpllaa.Rows.uptoBulk d ≤ 1048576) :
    ∃ c : Conf2, c.Ok ∧ RepA (allD W) W v c.av := by
  obtain ⟨pvs, hl, hf, hr⟩ := arg_agg (N := 1048576) (f := 8) (bulkOk H) shConf (by rw [Try.underlying24]) hok h hN
  match pvs, hl with
  | [a, b, c], _ =>
    obtain ⟨x, ⟨hx0, hx⟩, e1⟩ := fit_i64 (hf 0 (by simp))
    obtain ⟨y, ⟨hy0, hy⟩, e2⟩ := fit_i64 (hf 1 (by simp))
    obtain ⟨s, e3, hs, hsn⟩ := fit_seeds (hf 2 (by simp))
    simp at e1 e2 e3
    subst e1; subst e2; subst e3
    exact ⟨⟨x, y, s⟩, ⟨hx, hy, hx0, hy0, hs, hsn⟩, hr⟩
set_option maxRecDepth 100000 in
theorem arg_five {W : World} {base N : Nat} {v : Value} {d : DataW H} {p : List MemPlace} (hok : Value.okWide Try.prog W .any base 27 v) (h : DataW.Trod enc Try.prog W 0 (fun _ => true) true 27 v d p) (hN : Ytjiechgnlcpllaa.Rows.uptoBulk d ≤ N) :
    ∃ n0 n1 n2 n3 n4 : Nat, n0 < 18446744073709551616 ∧ n1 < 18446744073709551616 ∧ n2 < 18446744073709551616 ∧ RepA (allD W) W v (.agg [u64 n0, u64 n1, u64 n2, u64 n3, u64 n4]) := by
  obtain ⟨pvs, hl, hf, hr⟩ := arg_agg (N := N) (f := 8) (bulkOk H) shFive (by rw [Try.underlying27]) hok h hN
  match pvs, hl with
  | [a, b, c, d, e], _ =>
    obtain ⟨x0, h0, e0⟩ := fit_u64 (hf 0 (by simp))
    obtain ⟨x1, h1, e1⟩ := fit_u64 (hf 1 (by simp))
    obtain ⟨x2, h2, e2⟩ := fit_u64 (hf 2 (by simp))
    obtain ⟨x3, h3, e3⟩ := fit_u64 (hf 3 (by simp))
    obtain ⟨x4, h4, e4⟩ := fit_u64 (hf 4 (by simp))
    simp at e0 e1 e2 e3 e4
    subst e0; subst e1; subst e2; subst e3; subst e4
    exact ⟨x0, x1, x2, x3, x4, h0, h1, h2, hr⟩
end
namespace gridAsked
set_option maxRecDepth 100000 in
theorem contract (H : Type) (enc : TypeId × Value → H) (W : World) (base : Nat) (args : Array Value) (ds gs : List (DataW H)) (before : List MemPlace)
    (hval : ∀ (j : Nat) t v, Try.f3.params[j]? = some t → args[j]? = some v → Value.okWide Try.prog W .any base t v)
    (hW : DataW.Whole enc Try.prog Try.f3.params.toList Ytjiechgnlcpllaa.Rows.gridAskedSpec.vars false W args.toList ds gs before) (hk : Ytjiechgnlcpllaa.Rows.uptoSmall H (ds ++ gs) = true) :
    Calls Try.prog 3 args W fun e W' => ∃ v, e = .returned v ∧ Ytjiechgnlcpllaa.Rows.gridAskedSpec.post enc Try.prog Try.f3 false true false false W args v W' := by
  have hW' := hW
  obtain ⟨p, q, hA0, hV, rfl, hfz, hnd⟩ := hW
  have hA : DataW.TrodAll enc Try.prog W 0 (fun _ => true) true Try.f3.params.toList args.toList ds p := hA0
  rw [Try.params3] at hA hval
  obtain ⟨v0, vs0, d0, ds0, p0, q0, hargs, rfl, rfl, h0, r0⟩ := trodAll_cons hA
  obtain ⟨v1, vs1, d1, ds1, p1, q1, rfl, rfl, rfl, h1, r1⟩ := trodAll_cons r0
  obtain ⟨v2, vs2, d2, ds2, p2, q2, rfl, rfl, rfl, h2, r2⟩ := trodAll_cons r1
  obtain ⟨rfl, rfl, rfl⟩ := trodAll_nil r2
  obtain ⟨rfl, rfl⟩ := trodVars_none hV
  obtain rfl : args = #[v0, v1, v2] := by cases args; simp_all
  have hb : Ytjiechgnlcpllaa.Rows.uptoBulkAll ([d0, d1, d2] ++ []) ≤ 1048576 := of_decide_eq_true hk
  obtain ⟨b0, hb⟩ := small_cons hb
  obtain ⟨b1, hb⟩ := small_cons hb
  obtain ⟨b2, hb⟩ := small_cons hb
  obtain ⟨c, hc, rep0⟩ := arg_conf (hval 0 24 v0 rfl rfl) h0 b0
  obtain ⟨l, hl, ll, rep1⟩ := arg_events (hval 1 25 v1 rfl rfl) h1 b1
  obtain ⟨n0, n1, n2, n3, n4, _, b1, b2, rep2⟩ := arg_five (hval 2 27 v2 rfl rfl) h2 b2
  refine ((law_GridAsked c l n0 n1 n2 n3 n4 hc.n hc.k hc.w hl ll b1 b2) (allD W) W #[v0, v1, v2] (rel_all W) ⟨rfl, fun i hi => ?_⟩).mono ?_
  · match i, hi with
    | 0, _ => exact rep0
    | 1, _ => exact rep1
    | 2, _ => exact rep2
  · rintro e W' ⟨v, rfl, x, S', D', rfl, _, hrep, hE⟩
    cases hrep with
    | p hrep =>
    cases hrep
    exact ⟨_, rfl, bridge kids full hW' rfl (by rw [Try.params3]; decide) rfl Try.underlying4 rfl rfl rfl hE.still⟩

set_option maxRecDepth 100000 in
theorem lifted (os : Os) (started : os.Started) (H : Type) (enc : TypeId × Value → H) (F : Stop.Interp) :
    ReturnsInHanded {} Try.checked os 3 .any ((Ytjiechgnlcpllaa.Rows.OpenSpec.upto Ytjiechgnlcpllaa.Rows.gridAskedSpec).pre6 enc Try.prog Try.f3 Ytjiechgnlcpllaa.Rows.gridAskedUptoRow.domain false) (((Ytjiechgnlcpllaa.Rows.OpenSpec.upto Ytjiechgnlcpllaa.Rows.gridAskedSpec).at F).post enc Try.prog Try.f3 false true false false) := by
  refine returnsInHanded_of_cond (C := Try.checked) (s := Ytjiechgnlcpllaa.Rows.OpenSpec.upto Ytjiechgnlcpllaa.Rows.gridAskedSpec) (k := Ytjiechgnlcpllaa.Rows.uptoSmall) rfl own started (by kernel_rfl) Try.func3
    (OpenSpec.witness (enc := enc) (C := Try.checked) (s := Ytjiechgnlcpllaa.Rows.OpenSpec.upto Ytjiechgnlcpllaa.Rows.gridAskedSpec) (k := Ytjiechgnlcpllaa.Rows.uptoSmall) rfl false ⟨#[], #[.agg #[.int .i64 0, .int .i64 0, .slice none 0 0], .slice none 0 0, .agg #[.int .u64 0, .int .u64 0, .int .u64 0, .int .u64 0, .int .u64 0]], []⟩ 12 (by kernel_rfl) (by kernel_rfl) (by kernel_rfl)
      (x := ([.agg [.lit (.int .i64 0), .lit (.int .i64 0), .nil], .nil, .agg [.lit (.int .u64 0), .lit (.int .u64 0), .lit (.int .u64 0), .lit (.int .u64 0), .lit (.int .u64 0)]], [], [])) (by kernel_rfl) rfl (by kernel_rfl)) ?_
  intro W base args ds gs before hval hW _ hk _
  exact contract H enc W base args ds gs before hval hW hk

theorem j1 : (Ytjiechgnlcpllaa.Rows.gridAskedUptoRow.inPlace == Try.prog.inPlace 3) = true := by kernel_rfl
theorem j2 : (Ytjiechgnlcpllaa.Rows.gridAskedUptoRow.unfollowed == Try.prog.unfollowed 3) = true := by kernel_rfl
theorem j3 : (Ytjiechgnlcpllaa.Rows.gridAskedUptoRow.recurses == Try.prog.recurses 3) = true := by kernel_rfl
theorem j4 : (Ytjiechgnlcpllaa.Rows.gridAskedUptoRow.named == Try.prog.varsNamed 3) = true := by kernel_rfl
theorem j5 : (Ytjiechgnlcpllaa.Rows.gridAskedUptoRow.plainKeys == Try.prog.plainKeys) = true := by kernel_rfl
theorem j6 : (Ytjiechgnlcpllaa.Rows.gridAskedUptoRow.lifted == Try.prog.liftsFinal) = true := by kernel_rfl
theorem j7 : (Try.prog.make == some Ytjiechgnlcpllaa.Rows.gridAskedUptoRow.make) = true := by kernel_rfl
set_option maxRecDepth 100000 in
theorem jf : joinedFacts Try.prog 3 Try.f3 (Ytjiechgnlcpllaa.Rows.OpenSpec.upto Ytjiechgnlcpllaa.Rows.gridAskedSpec).bare Ytjiechgnlcpllaa.Rows.gridAskedUptoRow = true := by
  unfold joinedFacts
  exact and_ok (and_ok (and_ok (and_ok (and_ok (and_ok (and_ok (and_ok (and_ok (and_ok (and_ok (and_ok (and_ok (and_ok (and_ok (and_ok (and_ok (and_ok (and_ok (and_ok (and_ok (and_ok (and_ok (and_ok (and_ok (and_ok (and_ok (and_ok (and_ok (and_ok (and_ok (by kernel_rfl) j_laid) j_maps) (by kernel_rfl)) (by kernel_rfl)) (by kernel_rfl)) (by kernel_rfl)) (by kernel_rfl)) (by kernel_rfl)) j1) j2) j3) j4) (by kernel_rfl)) (by kernel_rfl)) (by kernel_rfl)) (by kernel_rfl)) (by kernel_rfl)) (by kernel_rfl)) (by kernel_rfl)) (by kernel_rfl)) (by kernel_rfl)) j5) (by kernel_rfl)) j_heard) j_enter) j6) j7) (by kernel_rfl)) (by kernel_rfl)) (by kernel_rfl)) (by kernel_rfl)
end gridAsked
theorem _root_.Go.Proofs.Ytjiechgnlcpllaa.gridAsked_proved : Ytjiechgnlcpllaa.Rows.GridAskedUptoSaid :=
  OpenClaim.holds_of_cond 3 Try.f3 rfl rfl rfl rfl rfl rfl rfl ⟨rfl, rfl, rfl, rfl, rfl⟩ rfl rfl rfl rfl rfl (by kernel_rfl) Try.func3 gridAsked.jf
    (of_decide_eq_true (by kernel_rfl)) (by unfold Func.isWrapper; first | (rw [if_pos (by decide +kernel)]; kernel_rfl) | (rw [if_neg (by decide +kernel)]; exact ⟨rfl, rfl⟩))
    (fun os started H enc _ F => gridAsked.lifted os started H enc F)
#print axioms Go.Proofs.Ytjiechgnlcpllaa.gridAsked_proved
end Go.Sk
end

-- L15c
section
namespace Go.Sk
open Go Go.Proofs Go.ChangeShapes Go.WideShapes Go.ChangeAt Go.RowKit

theorem shEvent : shOf Try.prog 8 49 = some [.int .u64, .int .u64, .int .u64] := by kernel_rfl
section
variable {H : Type} {enc : TypeId × Value → H}
set_option maxRecDepth 100000 in
theorem arg_event {W : World} {base N : Nat} {v : Value} {d : DataW H} {p : List MemPlace} (hok : Value.okWide Try.prog W .any base 49 v) (h : DataW.Trod enc Try.prog W 0 (fun _ => true) true 49 v d p) (hN : Ytjiechgnlcpllaa.Rows.uptoBulk d ≤ N) :
    ∃ e : Event, e.Ok ∧ RepA (allD W) W v e.av := by
  obtain ⟨pvs, hl, hf, hr⟩ := arg_agg (N := N) (f := 8) (bulkOk H) shEvent (by rw [Try.underlying49]) hok h hN
  match pvs, hl with
  | [a, b, c], _ =>
    obtain ⟨x0, h0, e0⟩ := fit_u64 (hf 0 (by simp))
    obtain ⟨x1, h1, e1⟩ := fit_u64 (hf 1 (by simp))
    obtain ⟨x2, h2, e2⟩ := fit_u64 (hf 2 (by simp))
    simp at e0 e1 e2
    subst e0; subst e1; subst e2
    exact ⟨⟨x0, x1, x2⟩, ⟨h0, h1, h2⟩, hr⟩
end
namespace gridApart
set_option maxRecDepth 100000 in
theorem contract (H : Type) (enc : TypeId × Value → H) (W : World) (base : Nat) (args : Array Value) (ds gs : List (DataW H)) (before : List MemPlace)
    (hval : ∀ (j : Nat) t v, Try.f5.params[j]? = some t → args[j]? = some v → Value.okWide Try.prog W .any base t v)
    (hW : DataW.Whole enc Try.prog Try.f5.params.toList Ytjiechgnlcpllaa.Rows.gridApartSpec.vars false W args.toList ds gs before) (hk : Ytjiechgnlcpllaa.Rows.uptoSmall H (ds ++ gs) = true) :
    Calls Try.prog 5 args W fun e W' => ∃ v, e = .returned v ∧ Ytjiechgnlcpllaa.Rows.gridApartSpec.post enc Try.prog Try.f5 false true false false W args v W' := by
  have hW' := hW
  obtain ⟨p, q, hA0, hV, rfl, hfz, hnd⟩ := hW
  have hA : DataW.TrodAll enc Try.prog W 0 (fun _ => true) true Try.f5.params.toList args.toList ds p := hA0
  rw [Try.params5] at hA hval
  obtain ⟨v0, vs0, d0, ds0, p0, q0, hargs, rfl, rfl, h0, r0⟩ := trodAll_cons hA
  obtain ⟨v1, vs1, d1, ds1, p1, q1, rfl, rfl, rfl, h1, r1⟩ := trodAll_cons r0
  obtain ⟨v2, vs2, d2, ds2, p2, q2, rfl, rfl, rfl, h2, r2⟩ := trodAll_cons r1
  obtain ⟨rfl, rfl, rfl⟩ := trodAll_nil r2
  obtain ⟨rfl, rfl⟩ := trodVars_none hV
  obtain rfl : args = #[v0, v1, v2] := by cases args; simp_all
  have hb : Ytjiechgnlcpllaa.Rows.uptoBulkAll ([d0, d1, d2] ++ []) ≤ 1048576 := of_decide_eq_true hk
  obtain ⟨b0, hb⟩ := small_cons hb
  obtain ⟨b1, hb⟩ := small_cons hb
  obtain ⟨b2, hb⟩ := small_cons hb
  obtain ⟨c, hc, rep0⟩ := arg_conf (hval 0 24 v0 rfl rfl) h0 b0
  obtain ⟨l, hl, ll, rep1⟩ := arg_events (hval 1 25 v1 rfl rfl) h1 b1
  obtain ⟨d, hd, rep2⟩ := arg_event (hval 2 49 v2 rfl rfl) h2 b2
  refine ((law_GridApart c l d hc.n hc.k hc.w hl ll hd) (allD W) W #[v0, v1, v2] (rel_all W) ⟨rfl, fun i hi => ?_⟩).mono ?_
  · match i, hi with
    | 0, _ => exact rep0
    | 1, _ => exact rep1
    | 2, _ => exact rep2
  · rintro e W' ⟨v, rfl, x, S', D', rfl, _, hrep, hE⟩
    cases hrep with
    | p hrep =>
    cases hrep
    exact ⟨_, rfl, bridge kids full hW' rfl (by rw [Try.params5]; decide) rfl Try.underlying4 rfl rfl rfl hE.still⟩

set_option maxRecDepth 100000 in
theorem lifted (os : Os) (started : os.Started) (H : Type) (enc : TypeId × Value → H) (F : Stop.Interp) :
    ReturnsInHanded {} Try.checked os 5 .any ((Ytjiechgnlcpllaa.Rows.OpenSpec.upto Ytjiechgnlcpllaa.Rows.gridApartSpec).pre6 enc Try.prog Try.f5 Ytjiechgnlcpllaa.Rows.gridApartUptoRow.domain false) (((Ytjiechgnlcpllaa.Rows.OpenSpec.upto Ytjiechgnlcpllaa.Rows.gridApartSpec).at F).post enc Try.prog Try.f5 false true false false) := by
  refine returnsInHanded_of_cond (C := Try.checked) (s := Ytjiechgnlcpllaa.Rows.OpenSpec.upto Ytjiechgnlcpllaa.Rows.gridApartSpec) (k := Ytjiechgnlcpllaa.Rows.uptoSmall) rfl own started (by kernel_rfl) Try.func5
    (OpenSpec.witness (enc := enc) (C := Try.checked) (s := Ytjiechgnlcpllaa.Rows.OpenSpec.upto Ytjiechgnlcpllaa.Rows.gridApartSpec) (k := Ytjiechgnlcpllaa.Rows.uptoSmall) rfl false ⟨#[], #[.agg #[.int .i64 0, .int .i64 0, .slice none 0 0], .slice none 0 0, .agg #[.int .u64 0, .int .u64 0, .int .u64 0]], []⟩ 12 (by kernel_rfl) (by kernel_rfl) (by kernel_rfl)
      (x := ([.agg [.lit (.int .i64 0), .lit (.int .i64 0), .nil], .nil, .agg [.lit (.int .u64 0), .lit (.int .u64 0), .lit (.int .u64 0)]], [], [])) (by kernel_rfl) rfl (by kernel_rfl)) ?_
  intro W base args ds gs before hval hW _ hk _
  exact contract H enc W base args ds gs before hval hW hk

theorem j1 : (Ytjiechgnlcpllaa.Rows.gridApartUptoRow.inPlace == Try.prog.inPlace 5) = true := by kernel_rfl
theorem j2 : (Ytjiechgnlcpllaa.Rows.gridApartUptoRow.unfollowed == Try.prog.unfollowed 5) = true := by kernel_rfl
theorem j3 : (Ytjiechgnlcpllaa.Rows.gridApartUptoRow.recurses == Try.prog.recurses 5) = true := by kernel_rfl
theorem j4 : (Ytjiechgnlcpllaa.Rows.gridApartUptoRow.named == Try.prog.varsNamed 5) = true := by kernel_rfl
theorem j5 : (Ytjiechgnlcpllaa.Rows.gridApartUptoRow.plainKeys == Try.prog.plainKeys) = true := by kernel_rfl
theorem j6 : (Ytjiechgnlcpllaa.Rows.gridApartUptoRow.lifted == Try.prog.liftsFinal) = true := by kernel_rfl
theorem j7 : (Try.prog.make == some Ytjiechgnlcpllaa.Rows.gridApartUptoRow.make) = true := by kernel_rfl
set_option maxRecDepth 100000 in
theorem jf : joinedFacts Try.prog 5 Try.f5 (Ytjiechgnlcpllaa.Rows.OpenSpec.upto Ytjiechgnlcpllaa.Rows.gridApartSpec).bare Ytjiechgnlcpllaa.Rows.gridApartUptoRow = true := by
  unfold joinedFacts
  exact and_ok (and_ok (and_ok (and_ok (and_ok (and_ok (and_ok (and_ok (and_ok (and_ok (and_ok (and_ok (and_ok (and_ok (and_ok (and_ok (and_ok (and_ok (and_ok (and_ok (and_ok (and_ok (and_ok (and_ok (and_ok (and_ok (and_ok (and_ok (and_ok (and_ok (and_ok (by kernel_rfl) j_laid) j_maps) (by kernel_rfl)) (by kernel_rfl)) (by kernel_rfl)) (by kernel_rfl)) (by kernel_rfl)) (by kernel_rfl)) j1) j2) j3) j4) (by kernel_rfl)) (by kernel_rfl)) (by kernel_rfl)) (by kernel_rfl)) (by kernel_rfl)) (by kernel_rfl)) (by kernel_rfl)) (by kernel_rfl)) (by kernel_rfl)) j5) (by kernel_rfl)) j_heard) j_enter) j6) j7) (by kernel_rfl)) (by kernel_rfl)) (by kernel_rfl)) (by kernel_rfl)
end gridApart
theorem _root_.Go.Proofs.Ytjiechgnlcpllaa.gridApart_proved : Ytjiechgnlcpllaa.Rows.GridApartUptoSaid :=
  OpenClaim.holds_of_cond 5 Try.f5 rfl rfl rfl rfl rfl rfl rfl ⟨rfl, rfl, rfl, rfl, rfl⟩ rfl rfl rfl rfl rfl (by kernel_rfl) Try.func5 gridApart.jf
    (of_decide_eq_true (by kernel_rfl)) (by unfold Func.isWrapper; first | (rw [if_pos (by decide +kernel)]; kernel_rfl) | (rw [if_neg (by decide +kernel)]; exact ⟨rfl, rfl⟩))
    (fun os started H enc _ F => gridApart.lifted os started H enc F)
#print axioms Go.Proofs.Ytjiechgnlcpllaa.gridApart_proved
end Go.Sk
end
