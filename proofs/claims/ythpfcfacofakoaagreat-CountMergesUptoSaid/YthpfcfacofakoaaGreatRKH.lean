/- Texts W14m W14n L14d, joined. -/
import Derived.Test.YthpfcfacofakoaaGreatRKG
import Derived.Test.YthpfcfacofakoaaGreatRKE
import Derived.Test.YthpfcfacofakoaaGreatRKF
import Derived.Test.YthpfcfacofakoaaGreatRKC
import Derived.Test.YthpfcfacofakoaaGreatSkBr
import Derived.Test.YthpfcfacofakoaaGreatRKA
import Derived.Test.YthpfcfacofakoaaGreatSkZ
set_option linter.unusedSimpArgs false
set_option linter.unusedVariables false
set_option linter.unusedSectionVars false
-- W14m
section
namespace Go.Sk
open Go Go.Proofs

/-- So much weight, at most as much as makes too much. -/
def capN (n : Nat) : Nat := min n 4503599627370497
theorem cap_add (a b : Nat) (hb : b ≤ 4503599627370496) : min (m64 (capN a + b)) 4503599627370497 = capN (a + b) := by
  unfold capN
  rw [m64_id (by omega)]
  omega
theorem sumE_allE_snoc (l : List Skt) (i : Nat) (hi : i < l.length) : sumE Event.w (allE (waitsK (l.take (i + 1)))) = sumE Event.w (allE (waitsK (l.take i))) + sumE Event.w (l[i]).b.evs := by
  rw [List.take_succ_eq_append_getElem hi]
  unfold allE waitsK
  rw [List.map_append, List.map_append, List.flatten_append, sumE_app]; simp
theorem sumT_snoc' (l : List Hist) (i : Nat) (hi : i < l.length) : sumT (l.take (i + 1)) = sumT (l.take i) + totN 0 (l[i]).ls := by
  unfold sumT; rw [List.take_succ_eq_append_getElem hi, List.map_append, List.sum_append]; simp
def likeW (a b : Skt) : Bool := !(a.win != b.win || a.b.late != b.b.late || a.b.room != b.b.room)
theorem likeK_W (a b : Skt) : likeK a b = (likeW a b && !(a.past.k != b.past.k)) := by rw [likeK_eq]; unfold likeW; cases (a.win != b.win) <;> cases (a.b.late != b.b.late) <;> cases (a.b.room != b.b.room) <;> cases (a.past.k != b.past.k) <;> rfl
/-- What forbids it, as the document tells: of the pasts by themselves. -/
theorem pasts_bad {l : List Skt} (hf : ∀ s ∈ l, s.Fit) (hne : l ≠ []) (hw : ∀ s ∈ l, likeW s (l.headD zeroK) = true) : (fitsK l = 0 → (withV [] (pastsK l)).2 = 0 ∨ (withV [] (pastsK l)).2 = 5) ∧ (fitsK l ≠ 0 → (withV [] (pastsK l)).2 = fitsK l ∧ fitsK l ≠ 5) := by
  obtain ⟨_, hp1, _, hpn⟩ := head_maps hne
  have hgl : maxG (pastsK l) ≤ 4 := (maxG_le fun h hh => by obtain ⟨s, hs, rfl⟩ := List.mem_map.1 hh; exact (hf s hs).gen).2
  have hany : (l.any (fun s => !likeK s (l.headD zeroK))) = (pastsK l).any (fun h => h.k != ((pastsK l).headD zeroH).k) := by
    rw [hp1]
    unfold pastsK
    rw [List.any_map]
    rw [Bool.eq_iff_iff, List.any_eq_true, List.any_eq_true]
    constructor
    · rintro ⟨s, hs, h⟩; refine ⟨s, hs, ?_⟩; rw [likeK_W, hw s hs] at h; simpa using h
    · rintro ⟨s, hs, h⟩; refine ⟨s, hs, ?_⟩; rw [likeK_W, hw s hs]; simpa using h
  have he : ([] : List Event).any (fun e => e.w == 0) = false := rfl
  unfold fitsK
  rw [if_neg hne, hany]
  cases h1 : (pastsK l).any (fun h => h.k != ((pastsK l).headD zeroH).k)
  · rw [if_neg (by simp)]
    by_cases h2 : maxG (pastsK l) = 4
    · rw [if_pos h2, withV_g hpn he h1 (by omega)]
      exact ⟨fun h => by simp at h, fun _ => ⟨rfl, by decide⟩⟩
    · rw [if_neg h2]
      refine ⟨fun _ => ?_, fun h => absurd rfl h⟩
      by_cases h3 : 4503599627370496 < sumT (pastsK l) + sumE Event.w []
      · right; rw [withV_o hpn he h1 (by omega) rfl h3]
      · left
        exact (with_ok (came_of (evs := []) (fun h hh => by obtain ⟨s, hs, rfl⟩ := List.mem_map.1 hh; exact (hf s hs).fine) hpn he h1 (by omega) rfl h3)).1
  · rw [if_pos rfl, withV_k hpn he h1]
    exact ⟨fun h => by simp at h, fun _ => ⟨rfl, by decide⟩⟩
set_option maxHeartbeats 4000000 in
set_option maxRecDepth 4000 in
theorem ref14_Merge (l : List Skt) (hn : l.length ≤ 1000) (hf : ∀ s ∈ l, s.Fit) : Pure Tryz.prog 11 [.p (.sl (l.map Skt.pv))] (.tuple [(mergeK l).1.av, i64 (mergeK l).2]) := fun S => by
  refine callR_of Tryz.func11 rfl rfl (xc_ok (bitB 166194698117621906180210543820947197) _ _ _ ?_)
  simp only [go_sem]
  refine alloc_intro fun c2 h2 => ?_
  have y2 : S (.r c2) = none := h2
  simp only [go_sem]
  by_cases hl0 : l = []
  · subst hl0
    have hv : mergeK [] = (zeroK, 1) := by unfold mergeK fitsK; rw [if_pos rfl, if_pos (by decide)]
    rw [hv]
    simp only [go_sem, List.map_nil, List.length_nil]
    exact ⟨S, Sub.set (Sub.refl _) y2 _, by simp [zeroK, zeroB, zeroH]⟩
  have hnl : 0 < l.length := List.length_pos_iff.2 hl0
  obtain ⟨g, hg⟩ : ∃ g, l.headD zeroK = g := ⟨_, rfl⟩
  have hget0 : (l.map Skt.pv).getD 0 [] = [.int .u64 g.win, .int .u64 g.b.late, .int .i64 g.b.room, .int .u64 g.b.mark, .int .u64 g.b.front, .sl (g.b.evs.map Event.pv), .int .i64 g.past.k, .int .i64 g.past.g, .sl (g.past.ls.map lvE)] := by rw [← hg]; cases l with | nil => exact absurd rfl hl0 | cons a r => rfl
  have hlb : (l.length == 0) = false := by rw [beq_eq_false_iff_ne]; omega
  simp only [go_sem, hlb, List.length_map]
  refine AWP.tip0 4 5 (by simp only [go_sem]) fun k1 hk1 => ?_
  simp only [go_sem]
  refine AWP.tip0 5 3 (by simp only [go_sem]) fun k2 hk2 => ?_
  simp only [freshv_setr, freshv_set] at hk1 hk2
  simp only [go_sem]
  refine AWP.roam (ι := Nat × Option Nat × Option Nat) (fun y => y.1 ≤ l.length ∧ ∀ s ∈ l.take y.1, likeW s g = true)
    (fun y => ⟨Env.get [(0, .p (.sl (l.map Skt.pv))), (2, .sp c2 0), (3, i64 0), (4, .ts k1 5 y.2.1 ((waitsK (l.take y.1)).map Buf.pv)), (5, .ts k2 3 y.2.2 ((pastsK (l.take y.1)).map Hist.cs)), (6, u64 (capN (sumE Event.w (allE (waitsK (l.take y.1)))))), (7, i64 y.1)],
    ((S.set (.r c2) (.cells [u64 0, u64 0, i64 0, u64 0, u64 0, .nils, i64 0, i64 0, .nils])).set (.v k1) (.tip 5 y.1 y.2.1)).set (.v k2) (.tip 3 y.1 y.2.2), 142, []⟩) (fun y => l.length - y.1) (0, none, none) ⟨Nat.zero_le _, fun s hs => by simp at hs⟩ ?_ ?_
  · refine le_of (by simp only [go_sem, List.length_map, List.take_zero] <;> simp [waitsK, pastsK, allE, sumE, capN]) ?_ rfl rfl (by simp)
    ((try dsimp only); (repeat refine sub_set ?_ ?_) <;> first | ((repeat (first | exact Sub.refl _ | refine Sub.setF ?_ (by first | assumption | simp only [*]) | refine Sub.setV ?_ (by first | assumption | simp only [*]))); done) | (simp only [go_sem, hk2]; done) | (simp only [go_sem, hk2]; rfl) | rfl)
  rintro ⟨i, loc1, loc2⟩ ⟨hi, hall⟩ ih
  dsimp only at hi hall ih ⊢
  refine AWPH.step (xc_ok (bitB 166194698117621906180210543820947197) _ _ _ ?_)
  by_cases ci : i < l.length
  · have hfi := hf _ (List.getElem_mem ci)
    obtain ⟨wt1, wt2⟩ := hfi.good.wt
    have hqi : wi ((i : Int) + 1) = ((i + 1 : Nat) : Int) := wi_succ (show i < 4611686018427387904 by clear hk2; omega)
    have hpv : (l.map Skt.pv).getD i [] = [.int .u64 (l[i]).win, .int .u64 (l[i]).b.late, .int .i64 (l[i]).b.room, .int .u64 (l[i]).b.mark, .int .u64 (l[i]).b.front, .sl ((l[i]).b.evs.map Event.pv), .int .i64 (l[i]).past.k, .int .i64 (l[i]).past.g, .sl ((l[i]).past.ls.map lvE)] := by rw [getD_map' _ _ _ _ ci]; rfl
    have hw := waits_snoc l i ci
    have hp := pasts_snoc l i ci
    have hse := sumE_allE_snoc l i ci
    have hwl : (waitsK (l.take i)).length = i := by rw [waits_len, List.length_take]; exact Nat.min_eq_left (Nat.le_of_lt ci)
    have hpl : (pastsK (l.take i)).length = i := by rw [pasts_len, List.length_take]; exact Nat.min_eq_left (Nat.le_of_lt ci)
    have hwl1 : (waitsK (l.take (i + 1))).length = i + 1 := by rw [waits_len, List.length_take]; exact Nat.min_eq_left ci
    have hpl1 : (pastsK (l.take (i + 1))).length = i + 1 := by rw [pasts_len, List.length_take]; exact Nat.min_eq_left ci
    have hts := take_snoc' l i ci
    have hmem : l[i] ∈ l := List.getElem_mem ci
    generalize l[i] = s at *
    simp only [go_sem, ci, ltN' ci, List.length_map]
    cases b1 : (s.win != g.win)
    rotate_left
    · have hany : l.any (fun s => !likeK s (l.headD zeroK)) = true := List.any_eq_true.2 ⟨s, hmem, by rw [hg, likeK_W]; unfold likeW; rw [b1]; rfl⟩
      have hv : mergeK l = (zeroK, 9) := by unfold mergeK fitsK; rw [if_neg hl0, if_pos hany, if_pos (by decide)]
      rw [hv]
      refine AWP.draw2 (bitB 166194698117621906180210543820947197) mixed (by kernel_rfl) (fun j => bl false) ?_
      simp only [go_sem, ci, ltN' ci, hpv, hnl, ltN' hnl, hget0, List.length_map, b1]
      exact ⟨S, Sub.set (Sub.set (Sub.set (Sub.refl _) y2 _) hk1 _) hk2.2 _ |>.set y2 _, by simp [zeroK, zeroB, zeroH]⟩
    cases b2 : (s.b.late != g.b.late)
    rotate_left
    · have hany : l.any (fun s => !likeK s (l.headD zeroK)) = true := List.any_eq_true.2 ⟨s, hmem, by rw [hg, likeK_W]; unfold likeW; rw [b1, b2]; rfl⟩
      have hv : mergeK l = (zeroK, 9) := by unfold mergeK fitsK; rw [if_neg hl0, if_pos hany, if_pos (by decide)]
      rw [hv]
      refine AWP.draw2 (bitB 166194698117621906180210543820947197) mixed (by kernel_rfl) (fun j => bl false) ?_
      simp only [go_sem, ci, ltN' ci, hpv, hnl, ltN' hnl, hget0, List.length_map, b1, b2]
      exact ⟨S, Sub.set (Sub.set (Sub.set (Sub.refl _) y2 _) hk1 _) hk2.2 _ |>.set y2 _, by simp [zeroK, zeroB, zeroH]⟩
    cases b3 : (s.b.room != g.b.room)
    rotate_left
    · have hany : l.any (fun s => !likeK s (l.headD zeroK)) = true := List.any_eq_true.2 ⟨s, hmem, by rw [hg, likeK_W]; unfold likeW; rw [b1, b2, b3]; rfl⟩
      have hv : mergeK l = (zeroK, 9) := by unfold mergeK fitsK; rw [if_neg hl0, if_pos hany, if_pos (by decide)]
      rw [hv]
      refine AWP.draw2 (bitB 166194698117621906180210543820947197) mixed (by kernel_rfl) (fun j => bl false) ?_
      simp only [go_sem, ci, ltN' ci, hpv, hnl, ltN' hnl, hget0, List.length_map, b1, b2, b3]
      exact ⟨S, Sub.set (Sub.set (Sub.set (Sub.refl _) y2 _) hk1 _) hk2.2 _ |>.set y2 _, by simp [zeroK, zeroB, zeroH]⟩
    have hlk : likeW s g = true := by unfold likeW; rw [b1, b2, b3]; rfl
    have hW := ref12_Weight s.b (by have := hfi.good.len; have := hfi.good.r2; clear hk2; omega)
    rw [wt2] at hW
    have htot := hfi.good.tot
    have hcap := cap_add (sumE Event.w (allE (waitsK (l.take i)))) (sumE Event.w s.b.evs) (by clear hk2; omega)
    rw [← hse] at hcap
    have hcap2 : (if 4503599627370497 < m64 (capN (sumE Event.w (allE (waitsK (l.take i)))) + sumE Event.w s.b.evs) then ((4503599627370497 : Nat) : Int) else ((m64 (capN (sumE Event.w (allE (waitsK (l.take i)))) + sumE Event.w s.b.evs) : Nat) : Int)) = ((capN (sumE Event.w (allE (waitsK (l.take (i + 1)))))) : Nat) := by rw [← hcap]; split <;> omega
    refine AWP.draw2 (bitB 166194698117621906180210543820947197) mixed (by kernel_rfl) (fun j => bl false) ?_
    simp only [go_sem, ci, ltN' ci, hpv, hnl, ltN' hnl, hget0, List.length_map, b1, b2, b3, hk2, hwl]
    refine ⟨by rintro el rfl; rfl, buf_len, by clear hk2; omega, by clear hk2; omega, grow_intro fun loc1' => ?_⟩
    simp only [go_sem, ci, ltN' ci, hpv, hk2, hw, List.length_map, hpl]
    refine ⟨by rintro el rfl; rfl, hst_len, by clear hk2; omega, by clear hk2; omega, grow_intro fun loc2' => ?_⟩
    simp only [go_sem, ci, ltN' ci, hpv, hk2, hw, hp, List.length_map, hwl1, hpl1]
    refine hW.useA ?_
    simp only [go_sem, hcap2]
    refine (ih (i + 1, loc1', loc2') ⟨ci, fun x hx => ?_⟩ (by dsimp only; clear hk2; omega)).back ?_ (by simp) ?_
    · dsimp only at hx
      rw [hts] at hx
      rcases List.mem_append.1 hx with hx | hx
      · exact hall x hx
      · obtain rfl := List.mem_singleton.1 hx; exact hlk
    · ((try dsimp only); (repeat refine sub_set ?_ ?_) <;> first | ((repeat (first | exact Sub.refl _ | refine Sub.setF ?_ (by first | assumption | simp only [*]) | refine Sub.setV ?_ (by first | assumption | simp only [*]))); done) | (simp only [go_sem, hk2, hw, hp, hwl1, hpl1, List.length_map]; done) | (simp only [go_sem, hk2, hw, hp, hwl1, hpl1, List.length_map]; rfl) | rfl)
    · simp only [go_sem, hqi, hw, hp, hcap2]
  obtain rfl : i = l.length := by clear hk2; omega
  clear ih
  rw [List.take_length] at hall ⊢
  have hbad := pasts_bad hf hl0 (by rw [hg]; exact hall)
  have hM0 := ref10_Merge (pastsK l) (by rw [pasts_len]; exact hn) (fun h hh => by obtain ⟨s, hs, rfl⟩ := List.mem_map.1 hh; exact (hf s hs).fine) (fun h hh => by obtain ⟨s, hs, rfl⟩ := List.mem_map.1 hh; exact (hf s hs).gen)
  generalize withV [] (pastsK l) = W0 at *
  obtain ⟨H0, B⟩ := W0
  dsimp only at hbad hM0
  simp only [go_sem, ci, hk2, List.length_map]
  refine hM0.useA ?_
  simp only [go_sem, hk2]
  refine alloc_intro fun c8 h8 => ?_
  simp only [fresh_set, fresh_setv] at h8
  have y8 : S (.r c8) = none := h8.2
  have yk1 : S (.v k1) = none := hk1
  have yk2 : S (.v k2) = none := hk2.2
  by_cases h0 : fitsK l = 0
  rotate_left
  · obtain ⟨e1, e2⟩ := hbad.2 h0
    have hv : mergeK l = (zeroK, fitsK l) := by unfold mergeK; rw [if_pos h0]
    have q1 : (B != 0) = true := by rw [e1]; simpa using h0
    have q2 : (B != 5) = true := by rw [e1]; simpa using e2
    rw [hv, ← e1]
    simp only [go_sem, hk2, h8, q1, q2]
    refine ⟨S, ?_, by simp [zeroK, zeroB, zeroH]⟩
    repeat' first | exact Sub.refl _ | refine Sub.set ?_ (by assumption) _
  have hval : mergeK l = if 4503599627370496 < (sumsK l).sum then (zeroK, 5) else moveK (mixK l) (mixK l).b.mark := by unfold mergeK; rw [if_neg (by simpa using h0)]
  have hss := sums_sum l
  have q3 : ∃ T : Bool, (B != 0) = T ∧ (T = true → (B != 5) = false) := by
    rcases hbad.1 h0 with e | e
    · exact ⟨false, by rw [e]; rfl, fun h => by cases h⟩
    · exact ⟨true, by rw [e]; rfl, fun _ => by rw [e]; rfl⟩
  obtain ⟨T, q1, q2⟩ := q3
  have hpl := pasts_len l
  have hpl' : ((pastsK l).map Hist.cs).length = l.length := by rw [List.length_map, hpl]
  cases T
  case' true => have q2' := q2 rfl
  case' false => have q2' := q1
  all_goals
    simp only [go_sem, hk2, h8, q1, q2', List.length_map]
    refine AWP.iter (fun j => ⟨Env.get [(0, .p (.sl (l.map Skt.pv))), (2, .sp c2 0), (3, i64 0), (4, .ts k1 5 loc1 ((waitsK l).map Buf.pv)), (5, .ts k2 3 loc2 ((pastsK l).map Hist.cs)), (6, u64 (capN (sumE Event.w (allE (waitsK l)) + sumT ((pastsK l).take j)))), (10, i64 j)],
      (((S.set (.r c2) (.cells [u64 0, u64 0, i64 0, u64 0, u64 0, .nils, i64 0, i64 0, .nils])).set (.v k1) (.tip 5 l.length loc1)).set (.v k2) (.tip 3 l.length loc2)), 142, []⟩) l.length ?_ ?_ ?_
    · refine le_of (by simp only [go_sem, List.take_zero] <;> simp [sumT]) ?_ rfl rfl (by simp)
      ((try dsimp only); (repeat refine sub_set ?_ ?_) <;> first | ((repeat (first | exact Sub.refl _ | refine Sub.setF ?_ (by first | assumption | simp only [*]) | refine Sub.setV ?_ (by first | assumption | simp only [*]))); done) | (simp only [go_sem, hk2, h8]; done) | (simp only [go_sem, hk2, h8]; rfl) | rfl)
    · intro j hj jh
      have hjp : j < (pastsK l).length := by rw [hpl]; exact hj
      have hpg : ((pastsK l).map Hist.cs).getD j [] = [.int .i64 ((pastsK l)[j]).k, .int .i64 ((pastsK l)[j]).g, .sl (((pastsK l)[j]).ls.map lvE)] := by rw [getD_map' _ _ _ _ hjp]; rfl
      have hst := sumT_snoc' (pastsK l) j hjp
      have hqj : wi ((j : Int) + 1) = ((j + 1 : Nat) : Int) := wi_succ (show j < 4611686018427387904 by clear hk2 h8; omega)
      have hfine : ((pastsK l)[j]).Fine := by
        have hm : (pastsK l)[j] ∈ pastsK l := List.getElem_mem hjp
        obtain ⟨s, hs, e⟩ := List.mem_map.1 hm
        rw [← e]; exact (hf s hs).fine
      generalize (pastsK l)[j] = h at *
      have hht := hfine.good.tot
      have hTt := ref06_Total h.k h.g h.ls (by have := hfine.good.len; clear hk2 h8; omega)
      rw [totV_eq (show totN 0 h.ls < 18446744073709551616 by clear hk2 h8; omega)] at hTt
      have hcap := cap_add (sumE Event.w (allE (waitsK l)) + sumT ((pastsK l).take j)) (totN 0 h.ls) hht
      rw [Nat.add_assoc, ← hst] at hcap
      have hcap2 : (if 4503599627370497 < m64 (capN (sumE Event.w (allE (waitsK l)) + sumT ((pastsK l).take j)) + totN 0 h.ls) then ((4503599627370497 : Nat) : Int) else ((m64 (capN (sumE Event.w (allE (waitsK l)) + sumT ((pastsK l).take j)) + totN 0 h.ls) : Nat) : Int)) = ((capN (sumE Event.w (allE (waitsK l)) + sumT ((pastsK l).take (j + 1)))) : Nat) := by rw [← hcap]; split <;> omega
      refine AWPH.step (xc_ok (bitB 166194698117621906180210543820947197) _ _ _ ?_)
      simp only [go_sem, hk2, hj, ltN' hj, hpg, hpl, List.length_map]
      refine hTt.useA ?_
      simp only [go_sem, hcap2]
      refine jh.back (Sub.refl _) (by simp) ?_
      simp only [go_sem, hqj, hcap2]
    · refine AWPH.step (xc_ok (bitB 166194698117621906180210543820947197) _ _ _ ?_)
      have htk : (pastsK l).take l.length = pastsK l := by rw [← hpl, List.take_length]
      rw [htk, Nat.add_comm, ← hss]
      by_cases ht : 4503599627370496 < (sumsK l).sum
      · have q5 : 4503599627370496 < capN (sumsK l).sum := by unfold capN; clear hk2 h8; omega
        rw [hval, if_pos ht]
        simp only [go_sem, hk2, hpl, q5, List.length_map]
        refine ⟨S, ?_, by simp [zeroK, zeroB, zeroH]⟩
        repeat' first | exact Sub.refl _ | refine Sub.set ?_ (by assumption) _
      have q5 : ¬ 4503599627370496 < capN (sumsK l).sum := by unfold capN; clear hk2 h8; omega
      rw [hval, if_neg ht]
      have hok := mix_ok hf hn h0 ht
      have hal := all_len hf
      have hJ := ref12_Join (waitsK l) (by rw [waits_len]; exact hn) (by clear hk2 h8; omega)
      have hWi := ref10_With (joinB (waitsK l)).2 (pastsK l) (by rw [pasts_len]; exact hn) hok.elen hok.early hok.came.fine (fun h hh => by obtain ⟨s, hs, rfl⟩ := List.mem_map.1 hh; exact (hf s hs).gen)
      obtain ⟨we, _⟩ := with_ok hok.came
      have hlx := hok.lax
      have hM := ref14_MoveP (mixK l) ⟨by have := hlx.r1; clear hk2 h8; omega, by have := hlx.mkk; clear hk2 h8; omega, by have := hlx.len; clear hk2 h8; omega⟩ hlx.sr (mixK l).b.mark (move_preL hlx _)
      have hmx : mixK l = ⟨g.win, (joinB (waitsK l)).1, (withV (joinB (waitsK l)).2 (pastsK l)).1⟩ := by unfold mixK; rw [hg]
      clear hval
      generalize hMV : moveK (mixK l) (mixK l).b.mark = MV at *
      rw [hmx] at hM
      clear hmx hok hlx hbad
      generalize joinB (waitsK l) = J at *
      generalize withV J.2 (pastsK l) = W at *
      simp only [go_sem, hk2, hpl, q5, List.length_map]
      refine hJ.useA ?_
      simp only [go_sem, hk2]
      refine alloc_intro fun c11 h11 => ?_
      simp only [fresh_set, fresh_setv] at h11
      simp only [go_sem, hk2, h11]
      refine hWi.useA ?_
      rw [we]
      simp only [go_sem, hk2, h11]
      refine alloc_intro fun c13 h13 => ?_
      simp only [fresh_set, fresh_setv] at h13
      simp only [go_sem, hk2, h11, h13]
      refine AWP.draw2 (bitB 166194698117621906180210543820947197) mixed (by kernel_rfl) (fun j => .tuple [MV.1.av, i64 MV.2]) ?_
      simp only [go_sem, hk2, h11, h13, hnl, ltN' hnl, hget0, List.length_map]
      refine ⟨hM.draw, ?_⟩
      have y11 : S (.r c11) = none := h11.2
      have y13 : S (.r c13) = none := h13.2.2
      refine ⟨S, ?_, ?_⟩
      · repeat' first | exact Sub.refl _ | refine Sub.set ?_ (by assumption) _
      · simp
end Go.Sk
end

-- W14n
section
namespace Go.Sk
open Go Go.Proofs

/-- The numbers of which the sketch i is made. -/
def mK (k : List Int) (i : Nat) : Nat := (max (k.getD i 0) 0).toNat
noncomputable def sAt (k : List Int) (n0 n1 : Nat) (l : List (List Event)) (i : Nat) : Skt := (madeK ((mK k i % 30 : Nat) : Int) (m64 (n0 + mK k i / 30 % 2)) (m64 (m64 (n1 + 7 * (mK k i / 60 % 2)) + 100 * (mK k i / 120 % 2))) (l.getD i [])).1
noncomputable def sksV (k : List Int) (n0 n1 : Nat) (l : List (List Event)) : List Skt := (List.range l.length).map (sAt k n0 n1 l)
theorem skt_len {l : List Skt} : ∀ el ∈ l.map Skt.pv, el.length = 9 := by intro el h; obtain ⟨x, _, rfl⟩ := List.mem_map.1 h; rfl
theorem sAt_fit (k : List Int) (n0 n1 : Nat) {l : List (List Event)} (hl : ∀ x ∈ l, ∀ e ∈ x, e.Ok) (i : Nat) : (sAt k n0 n1 l i).FitG 0 := by
  unfold sAt
  refine madeK_fit _ _ _ fun e he => ?_
  by_cases hi : i < l.length
  · rw [show l.getD i [] = l[i] by simp [List.getD_eq_getElem?_getD, hi]] at he
    exact hl _ (List.getElem_mem hi) e he
  · rw [show l.getD i [] = [] by simp [List.getD_eq_getElem?_getD, hi]] at he
    cases he
theorem dq30 (m : Nat) (h : m < 9223372036854775808) : IntKind.u64.wrap ((wi ((m : Int).tdiv 30)).tmod 2) = ((m / 30 % 2 : Nat) : Int) := by
  have e : (m : Int).tdiv 30 = ((m / 30 : Nat) : Int) := by rw [Int.tdiv_eq_ediv_of_nonneg (by omega)]; rfl
  rw [e, wi_id (by omega) (by omega), Int.tmod_eq_emod_of_nonneg (by omega), wrapU]; omega
theorem dq60 (m : Nat) (h : m < 9223372036854775808) : IntKind.u64.wrap ((wi ((m : Int).tdiv 60)).tmod 2) = ((m / 60 % 2 : Nat) : Int) := by
  have e : (m : Int).tdiv 60 = ((m / 60 : Nat) : Int) := by rw [Int.tdiv_eq_ediv_of_nonneg (by omega)]; rfl
  rw [e, wi_id (by omega) (by omega), Int.tmod_eq_emod_of_nonneg (by omega), wrapU]; omega
theorem dq120 (m : Nat) (h : m < 9223372036854775808) : IntKind.u64.wrap ((wi ((m : Int).tdiv 120)).tmod 2) = ((m / 120 % 2 : Nat) : Int) := by
  have e : (m : Int).tdiv 120 = ((m / 120 : Nat) : Int) := by rw [Int.tdiv_eq_ediv_of_nonneg (by omega)]; rfl
  rw [e, wi_id (by omega) (by omega), Int.tmod_eq_emod_of_nonneg (by omega), wrapU]; omega
set_option maxHeartbeats 4000000 in
set_option maxRecDepth 8000 in
theorem law_CountMerges (k : List Int) (n0 n1 n2 : Nat) (l : List (List Event)) (hk : ∀ x ∈ k, -9223372036854775808 ≤ x ∧ x < 9223372036854775808) (hkl : k.length ≤ 1048576) (b0 : n0 < 18446744073709551616) (b1 : n1 < 18446744073709551616) (b2 : n2 < 18446744073709551616)
    (hl : ∀ x ∈ l, (∀ e ∈ x, e.Ok) ∧ x.length ≤ 1048576) (hll : l.length ≤ 1048576) :
    CallsR Tryz.prog 3 [.p (.sl (k.map iE)), .agg [u64 n0, u64 n1, u64 n2], .p (.sl (l.map evlE))] noS (fun x _ => x = bl true) := by
  generalize noS = S
  refine callsR_of Tryz.func3 rfl (xc_ok (bitB 101412048018258352120294904160215) _ _ _ ?_)
  simp only [go_sem]
  refine alloc_intro fun c4 h4 => ?_
  simp only [go_sem]
  refine awake14.useA ?_
  have y4 : S (.r c4) = none := h4
  by_cases c1 : (l.length : Int) > 4
  · simp only [go_sem, c1, List.length_map]
    exact ⟨_, Sub.refl _⟩
  simp only [go_sem, c1, List.length_map]
  refine AWP.tip0 8 9 (by simp only [go_sem]) fun v1 hv1 => ?_
  refine AWP.tip0 9 9 (by simp only [go_sem]) fun v2 hv2 => ?_
  simp only [freshv_setr, freshv_set] at hv1 hv2
  obtain ⟨V, hV⟩ : ∃ V : Store, V = S.set (.r c4) (.cells [u64 n0, u64 n1, u64 n2]) := ⟨_, rfl⟩
  have k4 : V (.r c4) = some (.cells [u64 n0, u64 n1, u64 n2]) := by rw [hV]; simp only [go_sem]
  have kS : Sub S V := by rw [hV]; exact Sub.set (Sub.refl _) y4 _
  have n1' : V (.v v1) = none := by rw [hV]; simp only [go_sem]; exact hv1
  have n2' : V (.v v2) = none := by rw [hV]; simp only [go_sem]; exact hv2.2
  have hln : l.length ≤ 4 := by omega
  have hok : ∀ x ∈ l, ∀ e ∈ x, e.Ok := fun x hx => (hl x hx).1
  have hHl : (sksV k n0 n1 l).length = l.length := by unfold sksV; rw [List.length_map, List.length_range]
  simp only [go_sem]
  refine AWP.iterE (ι := Option Nat × Option Nat) (fun x i => ⟨Env.get [(0, .p (.sl (k.map iE))), (2, .p (.sl (l.map evlE))), (4, .sp c4 0), (7, bl true), (8, .ts v1 9 x.1 (((sksV k n0 n1 l).take i).map Skt.pv)), (9, .ts v2 9 x.2 (((sksV k n0 n1 l).take i).map Skt.pv)), (10, i64 i)],
    (V.set (.v v1) (.tip 9 i x.1)).set (.v v2) (.tip 9 i x.2), 173, []⟩) l.length (none, none) ?_ ?_ ?_
  · refine le_of (by simp only [go_sem, List.take_zero, List.map_nil] <;> rfl) ?_ rfl rfl (by simp)
    rw [hV]; exact Sub.refl _
  · clear hV h4
    rintro i ⟨loc1, loc2⟩ hi ih
    have hqi : wi ((i : Int) + 1) = ((i + 1 : Nat) : Int) := wi_succ (show i < 4611686018427387904 by clear hv2; omega)
    obtain ⟨ho, hxl⟩ := hl _ (List.getElem_mem hi)
    have hmi : i < (sksV k n0 n1 l).length := by rw [hHl]; exact hi
    have hmg : (sksV k n0 n1 l)[i] = sAt k n0 n1 l i := by simp only [sksV, List.getElem_map, List.getElem_range]
    have hli : l.getD i [] = l[i] := by simp [List.getD_eq_getElem?_getD, hi]
    have htl : ((sksV k n0 n1 l).take i).length = i := by rw [List.length_take]; exact Nat.min_eq_left (Nat.le_of_lt hmi)
    have htl1 : ((sksV k n0 n1 l).take (i + 1)).length = i + 1 := by rw [List.length_take]; exact Nat.min_eq_left hmi
    have hget : (l.map evlE).getD i [] = [.sl ((l[i]).map Event.pv)] := by rw [getD_map' _ _ _ _ hi]; rfl
    refine AWPH.step (xc_ok (bitB 101412048018258352120294904160215) _ _ _ ?_)
    obtain ⟨m, hm⟩ : ∃ m, mK k i = m := ⟨_, rfl⟩
    have hmb : m < 9223372036854775808 := by
      rw [← hm]; unfold mK
      by_cases q : i < k.length
      · rw [show k.getD i 0 = k[i] by simp [List.getD_eq_getElem?_getD, q]]
        have := hk _ (List.getElem_mem q); omega
      · rw [show k.getD i 0 = 0 by simp [List.getD_eq_getElem?_getD, q]]; decide
    have d30 := dq30 m hmb
    have d60 := dq60 m hmb
    have d120 := dq120 m hmb
    have r30 : ((m : Int)).tmod 30 = ((m % 30 : Nat) : Int) := by rw [Int.tmod_eq_emod_of_nonneg (by clear hv2; omega)]; rfl
    have e7 : m64 (7 * (m / 60 % 2)) = 7 * (m / 60 % 2) := m64_id (by clear hv2; omega)
    have e100 : m64 (100 * (m / 120 % 2)) = 100 * (m / 120 % 2) := m64_id (by clear hv2; omega)
    have hM := ref14_Made ((m % 30 : Nat) : Int) (m64 (n0 + m / 30 % 2)) (m64 (m64 (n1 + 7 * (m / 60 % 2)) + 100 * (m / 120 % 2))) l[i] (by clear hv2; omega) (by clear hv2; omega) (by rw [m64_eq]; exact Nat.mod_lt _ (by decide)) (by rw [m64_eq]; exact Nat.mod_lt _ (by decide)) (by clear hv2; omega) ho
    have hG : sAt k n0 n1 l i = (madeK ((m % 30 : Nat) : Int) (m64 (n0 + m / 30 % 2)) (m64 (m64 (n1 + 7 * (m / 60 % 2)) + 100 * (m / 120 % 2))) l[i]).1 := by unfold sAt; rw [hm, hli]
    generalize hRR : madeK ((m % 30 : Nat) : Int) (m64 (n0 + m / 30 % 2)) (m64 (m64 (n1 + 7 * (m / 60 % 2)) + 100 * (m / 120 % 2))) l[i] = RR at *
    obtain ⟨G, AA⟩ := RR
    dsimp only at hG hM
    have hrep : List.map Skt.pv ((sksV k n0 n1 l).take i) ++ [[.int .u64 G.win, .int .u64 G.b.late, .int .i64 G.b.room, .int .u64 G.b.mark, .int .u64 G.b.front, .sl (G.b.evs.map Event.pv), .int .i64 G.past.k, .int .i64 G.past.g, .sl (G.past.ls.map lvE)]] = List.map Skt.pv ((sksV k n0 n1 l).take (i + 1)) := by
      rw [List.take_succ_eq_append_getElem hmi, List.map_append, hmg, hG]; rfl
    by_cases ck : i < k.length
    · have hkg : (k.map iE).getD i [] = [.int .i64 k[i]] := by rw [getD_map' _ _ _ _ ck]; rfl
      have hmv : (if (0 : Int) > k[i] then 0 else k[i]) = (m : Int) := by
        rw [← hm]; unfold mK
        rw [show k.getD i 0 = k[i] by simp [List.getD_eq_getElem?_getD, ck]]
        split <;> omega
      simp only [go_sem, hi, ltN' hi, ck, ltN' ck, hkg, List.length_map, hmv]
      refine AWP.draw2 (bitB 101412048018258352120294904160215) mixed (by kernel_rfl) (fun j => .tuple [G.av, .p (evsP AA)]) ?_
      simp only [go_sem, k4, hi, ltN' hi, hget, d30, d60, d120, e7, e100, List.length_map, r30]
      refine ⟨by decide, by decide, by decide, by decide, by decide, by decide, by decide, by decide, by decide, hM.draw, ?_⟩
      refine alloc_intro fun c12 h12 => ?_
      simp only [fresh_set, fresh_setv] at h12
      have y12 : V (.r c12) = none := h12
      have m4 : ¬ c12 = c4 ∧ ¬ c4 = c12 := by constructor <;> rintro rfl <;> (rw [y12] at k4; cases k4)
      simp only [go_sem, m4, hv2, h12, htl, List.length_map]
      refine ⟨by rintro el rfl; rfl, skt_len, by clear hv2 h12 m4; omega, by clear hv2 h12 m4; omega, grow_intro fun loc1' => ?_⟩
      simp only [go_sem, m4, hv2, h12, htl, hrep, List.length_map]
      refine (made14 G).useA ?_
      simp only [go_sem, m4, hv2, h12, htl, hrep, List.length_map]
      refine ⟨by rintro el rfl; rfl, skt_len, by clear hv2 h12 m4; omega, by clear hv2 h12 m4; omega, grow_intro fun loc2' => ?_⟩
      simp only [go_sem, m4, hv2, h12, htl, hrep, List.length_map]
      refine (ih (loc1', loc2')).back ?_ (by simp) ?_
      · ((try dsimp only); (repeat refine sub_set ?_ ?_) <;> first | ((repeat (first | exact Sub.refl _ | refine Sub.setF ?_ (by first | assumption | simp only [*]) | refine Sub.setV ?_ (by first | assumption | simp only [*]))); done) | (simp only [go_sem, m4, hv2, h12, hrep, htl1, List.length_map]; done) | (simp only [go_sem, m4, hv2, h12, hrep, htl1, List.length_map]; rfl) | rfl)
      · simp only [go_sem, hqi]
    · have hm0 : m = 0 := by rw [← hm]; unfold mK; rw [show k.getD i 0 = 0 by simp [List.getD_eq_getElem?_getD, ck]]; rfl
      have hmv : (if (0 : Int) > 0 then (0 : Int) else 0) = (m : Int) := by rw [hm0]; rfl
      have ck' : ¬ (i : Int) < (k.length : Int) := by clear hv2; omega
      simp only [go_sem, hi, ltN' hi, ck, ck', List.length_map, hmv]
      refine AWP.draw2 (bitB 101412048018258352120294904160215) mixed (by kernel_rfl) (fun j => .tuple [G.av, .p (evsP AA)]) ?_
      simp only [go_sem, k4, hi, ltN' hi, hget, hmv, d30, d60, d120, e7, e100, List.length_map, r30]
      refine ⟨by decide, by decide, by decide, by decide, by decide, by decide, by decide, by decide, by decide, hM.draw, ?_⟩
      refine alloc_intro fun c12 h12 => ?_
      simp only [fresh_set, fresh_setv] at h12
      have y12 : V (.r c12) = none := h12
      have m4 : ¬ c12 = c4 ∧ ¬ c4 = c12 := by constructor <;> rintro rfl <;> (rw [y12] at k4; cases k4)
      simp only [go_sem, m4, hv2, h12, htl, List.length_map]
      refine ⟨by rintro el rfl; rfl, skt_len, by clear hv2 h12 m4; omega, by clear hv2 h12 m4; omega, grow_intro fun loc1' => ?_⟩
      simp only [go_sem, m4, hv2, h12, htl, hrep, List.length_map]
      refine (made14 G).useA ?_
      simp only [go_sem, m4, hv2, h12, htl, hrep, List.length_map]
      refine ⟨by rintro el rfl; rfl, skt_len, by clear hv2 h12 m4; omega, by clear hv2 h12 m4; omega, grow_intro fun loc2' => ?_⟩
      simp only [go_sem, m4, hv2, h12, htl, hrep, List.length_map]
      refine (ih (loc1', loc2')).back ?_ (by simp) ?_
      · ((try dsimp only); (repeat refine sub_set ?_ ?_) <;> first | ((repeat (first | exact Sub.refl _ | refine Sub.setF ?_ (by first | assumption | simp only [*]) | refine Sub.setV ?_ (by first | assumption | simp only [*]))); done) | (simp only [go_sem, m4, hv2, h12, hrep, htl1, List.length_map]; done) | (simp only [go_sem, m4, hv2, h12, hrep, htl1, List.length_map]; rfl) | rfl)
      · simp only [go_sem, hqi]
  · rintro ⟨loc1, loc2⟩
    refine AWPH.step (xc_ok (bitB 101412048018258352120294904160215) _ _ _ ?_)
    rw [← hHl, List.take_length, hHl]
    have hfit : ∀ s ∈ sksV k n0 n1 l, s.Fit := fun s hs => by
      obtain ⟨i, _, rfl⟩ := List.mem_map.1 hs
      exact (sAt_fit k n0 n1 hok i).fit (by decide)
    generalize hL : sksV k n0 n1 l = L at *
    have hnL : L.length ≤ 1000 := by clear hv2; omega
    have hM1 := count_Merge L hnL hfit
    have hM2 := ref14_Merge L hnL hfit
    have hz := mergeK_zero hfit hnL
    have hturn := fun m hp h0 => merge_turn (m := m) hfit hnL hp h0
    have hgd := mergeK_good hfit hnL
    generalize mergeK L = M at *
    have hsm : M.1.Small := by
      rcases hz with ⟨h0, _⟩ | ⟨_, h0⟩
      · exact (hgd h0).1.good.small
      · rw [h0]; exact zeroK_small
    have hsame := same14 M.1 M.1 hsm
    rw [decide_eq_true rfl] at hsame
    have hbb : (M.2 != M.2) = false := by simp
    simp only [go_sem, List.length_map]
    refine hM1.useA ?_
    simp only [go_sem]
    refine alloc_intro fun c14 h14 => ?_
    simp only [fresh_set, fresh_setv] at h14
    simp only [go_sem, h14]
    refine hM2.useA ?_
    simp only [go_sem, h14]
    refine alloc_intro fun c16 h16 => ?_
    simp only [fresh_set, fresh_setv] at h16
    simp only [go_sem, h14, h16, hbb]
    refine hsame.useA ?_
    by_cases h0 : M.2 = 0
    rotate_left
    · have h0b : (M.2 != 0) = true := by simpa using h0
      simp only [go_sem, h14, h16, h0b, Bool.not_true]
      exact ⟨_, Sub.refl _⟩
    have h0b : (M.2 != 0) = false := by simpa using h0
    obtain ⟨hG, hf0, _⟩ := hgd h0
    obtain ⟨hne, _, _⟩ := fits_ok hf0
    obtain ⟨x, r, hxr⟩ : ∃ x r, L = x :: r := by cases L with | nil => exact absurd rfl hne | cons a b => exact ⟨a, b, rfl⟩
    have hperm : L.Perm (r ++ [x]) := by rw [hxr]; exact (List.perm_append_singleton x r).symm
    obtain ⟨t0, tq⟩ := hturn (r ++ [x]) hperm h0
    have hfit' : ∀ s ∈ r ++ [x], s.Fit := fun s hs => hfit s (hperm.mem_iff.2 hs)
    have hlr : (r ++ [x]).length ≤ 1000 := by rw [← hperm.length_eq]; exact hnL
    have hM3 := count_Merge (r ++ [x]) hlr hfit'
    have hG3 := (mergeK_good hfit' hlr t0).1
    generalize mergeK (r ++ [x]) = M3 at *
    have hnl : 0 < L.length := by rw [hxr]; simp
    have hlL : l.length = r.length + 1 := by rw [← hHl, hxr]; rfl
    have hget0 : (L.map Skt.pv).getD 0 [] = [.int .u64 x.win, .int .u64 x.b.late, .int .i64 x.b.room, .int .u64 x.b.mark, .int .u64 x.b.front, .sl (x.b.evs.map Event.pv), .int .i64 x.past.k, .int .i64 x.past.g, .sl (x.past.ls.map lvE)] := by rw [hxr]; rfl
    simp only [go_sem, h14, h16, h0b, Bool.not_true]
    refine AWP.draw4 ([0, 1, 2, 4, 5, 6, 7, 3, 8, 9]) (bitB 101412048018258352120294904160215) mixed (by kernel_rfl) (by kernel_rfl) (fun j => bl false) ?_
    simp only [opsAt, List.getElem?_cons_zero, List.getElem?_cons_succ]
    have e5 : List.take (l.length - 1) (List.drop 1 (List.map Skt.pv L)) = r.map Skt.pv := by
      rw [hlL, hxr, List.map_cons, List.drop_succ_cons, List.drop_zero, Nat.add_sub_cancel]
      exact List.take_of_length_le (by simp)
    have hL0 : 0 < l.length := by clear hv2 h14 h16; omega
    simp only [go_sem, h14, h16, hHl, hnl, hget0, e5, List.length_map]
    refine ⟨skt_len, by decide, by clear hv2 h14 h16; omega, hL0, skt_len, by clear hv2 h14 h16; omega, by clear hv2 h14 h16; omega, tip_intro fun v3 loc3 hv3 => ?_⟩
    simp only [freshv_setr, freshv_set] at hv3
    simp only [go_sem, h14, h16, hv3, hHl, hnl, hL0, hget0, List.length_map]
    refine ⟨by rintro el rfl; rfl, skt_len, by clear hv2 hv3 h14 h16; omega, by clear hv2 hv3 h14 h16; omega, grow_intro fun loc4 => ?_⟩
    have ha1 : r.map Skt.pv ++ [[.int .u64 x.win, .int .u64 x.b.late, .int .i64 x.b.room, .int .u64 x.b.mark, .int .u64 x.b.front, .sl (x.b.evs.map Event.pv), .int .i64 x.past.k, .int .i64 x.past.g, .sl (x.past.ls.map lvE)]] = (r ++ [x]).map Skt.pv := by rw [List.map_append]; rfl
    have hg := hG.good
    have hg3 := hG3.good
    have hQ := count_Query M.1 hg (m64 (M.1.b.front + n2 % 100)) (m64 (1 + n0 % M.1.win))
    have hQ3 := count_Query M3.1 hg3 (m64 (M.1.b.front + n2 % 100)) (m64 (1 + n0 % M.1.win))
    rw [tq] at hQ3
    generalize queryK M.1 (m64 (M.1.b.front + n2 % 100)) (m64 (1 + n0 % M.1.win)) = QQ at *
    have hw1 := hg.w1
    simp only [go_sem, h14, h16, hv3, ha1]
    refine hM3.useA ?_
    simp only [go_sem, h14, h16, hv3]
    refine alloc_intro fun c19 h19 => ?_
    simp only [fresh_set, fresh_setv] at h19
    have m14 : ¬ c14 = c4 ∧ ¬ c4 = c14 := by constructor <;> rintro rfl <;> (have := h14; rw [Fresh, k4] at this; cases this)
    have m16 : ¬ c16 = c4 ∧ ¬ c4 = c16 := by constructor <;> rintro rfl <;> (have := h16.2; rw [Fresh, k4] at this; cases this)
    have m19 : ¬ c19 = c4 ∧ ¬ c4 = c19 := by constructor <;> rintro rfl <;> (have := h19.2.2; rw [Fresh, k4] at this; cases this)
    have z100 : ¬ (100 : Nat) = 0 := by decide
    have zw : ¬ M.1.win = 0 := by clear hv2 hv3 h14 h16 h19 m14 m16 m19; omega
    simp only [go_sem, h14, h16, h19]
    refine AWP.draw2 (bitB 101412048018258352120294904160215) mixed (by kernel_rfl) (fun j => .tuple [u64 QQ.1, i64 QQ.2]) ?_
    simp only [go_sem, h14, h16, h19, k4, m14, m16, m19]
    refine ⟨by decide, by decide, zw, hQ.draw, ?_⟩
    refine AWP.draw2 (bitB 101412048018258352120294904160215) mixed (by kernel_rfl) (fun j => .tuple [u64 QQ.1, i64 QQ.2]) ?_
    simp only [go_sem, h14, h16, h19, k4, m14, m16, m19]
    refine ⟨by decide, by decide, zw, hQ3.draw, ?_⟩
    have t0b : (M3.2 == 0) = true := by rw [t0]; rfl
    have bb1 : (QQ.1 == QQ.1) = true := beq_self_eq_true _
    have bb2 : (QQ.2 == QQ.2) = true := beq_self_eq_true _
    simp only [go_sem, t0b, bb1, bb2]
    exact ⟨_, Sub.refl _⟩
end Go.Sk
end

-- L14d
section
namespace Go.Sk
open Go Go.Proofs Go.ChangeShapes Go.WideShapes Go.ChangeAt Go.RowKit

namespace countMerges
set_option maxRecDepth 100000 in
theorem contract (H : Type) (enc : TypeId × Value → H) (W : World) (base : Nat) (args : Array Value) (ds gs : List (DataW H)) (before : List MemPlace)
    (hval : ∀ (j : Nat) t v, Tryz.f3.params[j]? = some t → args[j]? = some v → Value.okWide Tryz.prog W .any base t v)
    (hW : DataW.Whole enc Tryz.prog Tryz.f3.params.toList YthpfcfacofakoaaGreat.Rows.countMergesSpec.vars false W args.toList ds gs before) (hk : YthpfcfacofakoaaGreat.Rows.uptoSmall H (ds ++ gs) = true) :
    Calls Tryz.prog 3 args W fun e W' => ∃ v, e = .returned v ∧ YthpfcfacofakoaaGreat.Rows.countMergesSpec.post enc Tryz.prog Tryz.f3 false true false false W args v W' := by
  have hW' := hW
  obtain ⟨p, q, hA0, hV, rfl, hfz, hnd⟩ := hW
  have hA : DataW.TrodAll enc Tryz.prog W 0 (fun _ => true) true Tryz.f3.params.toList args.toList ds p := hA0
  rw [Tryz.params3] at hA hval
  obtain ⟨v0, vs0, d0, ds0, p0, q0, hargs, rfl, rfl, h0, r0⟩ := trodAll_cons hA
  obtain ⟨v1, vs1, d1, ds1, p1, q1, rfl, rfl, rfl, h1, r1⟩ := trodAll_cons r0
  obtain ⟨v2, vs2, d2, ds2, p2, q2, rfl, rfl, rfl, h2, r2⟩ := trodAll_cons r1
  obtain ⟨rfl, rfl, rfl⟩ := trodAll_nil r2
  obtain ⟨rfl, rfl⟩ := trodVars_none hV
  obtain rfl : args = #[v0, v1, v2] := by cases args; simp_all
  have hb : YthpfcfacofakoaaGreat.Rows.uptoBulkAll ([d0, d1, d2] ++ []) ≤ 1048576 := of_decide_eq_true hk
  obtain ⟨b0, hb⟩ := small_cons hb
  obtain ⟨b1, hb⟩ := small_cons hb
  obtain ⟨b2, hb⟩ := small_cons hb
  obtain ⟨k, hk, rep0⟩ := arg_intsI (hval 0 22 v0 rfl rfl) h0 b0
  obtain ⟨n0, n1, n2, hn, rep1⟩ := arg_three (hval 1 24 v1 rfl rfl) h1 b1
  obtain ⟨l, hl, rep2⟩ := arg_deedl (hval 2 25 v2 rfl rfl) h2 b2
  refine ((law_CountMerges k n0 n1 n2 l hk.1 hk.2 hn.1 hn.2.1 hn.2.2 hl.1 hl.2) (allD W) W #[v0, v1, v2] (rel_all W) ⟨rfl, fun i hi => ?_⟩).mono ?_
  · match i, hi with
    | 0, _ => exact rep0
    | 1, _ => exact rep1
    | 2, _ => exact rep2
  · rintro e W' ⟨v, rfl, x, S', D', rfl, _, hrep, hE⟩
    cases hrep with
    | p hrep =>
    cases hrep
    exact ⟨_, rfl, bridge kids full hW' rfl (by rw [Tryz.params3]; decide) rfl Tryz.underlying4 rfl rfl rfl hE.still⟩

set_option maxRecDepth 100000 in
theorem lifted (os : Os) (started : os.Started) (H : Type) (enc : TypeId × Value → H) (F : Stop.Interp) :
    ReturnsInHanded {} Tryz.checked os 3 .any ((YthpfcfacofakoaaGreat.Rows.OpenSpec.upto YthpfcfacofakoaaGreat.Rows.countMergesSpec).pre6 enc Tryz.prog Tryz.f3 YthpfcfacofakoaaGreat.Rows.countMergesUptoRow.domain false) (((YthpfcfacofakoaaGreat.Rows.OpenSpec.upto YthpfcfacofakoaaGreat.Rows.countMergesSpec).at F).post enc Tryz.prog Tryz.f3 false true false false) := by
  refine returnsInHanded_of_cond (C := Tryz.checked) (s := YthpfcfacofakoaaGreat.Rows.OpenSpec.upto YthpfcfacofakoaaGreat.Rows.countMergesSpec) (k := YthpfcfacofakoaaGreat.Rows.uptoSmall) rfl own started (by kernel_rfl) Tryz.func3
    (OpenSpec.witness (enc := enc) (C := Tryz.checked) (s := YthpfcfacofakoaaGreat.Rows.OpenSpec.upto YthpfcfacofakoaaGreat.Rows.countMergesSpec) (k := YthpfcfacofakoaaGreat.Rows.uptoSmall) rfl false ⟨#[], #[.slice none 0 0, .agg #[.int .u64 0, .int .u64 0, .int .u64 0], .slice none 0 0], []⟩ 12 (by kernel_rfl) (by kernel_rfl) (by kernel_rfl)
      (x := ([.nil, .agg [.lit (.int .u64 0), .lit (.int .u64 0), .lit (.int .u64 0)], .nil], [], [])) (by kernel_rfl) rfl (by kernel_rfl)) ?_
  intro W base args ds gs before hval hW _ hk _
  exact contract H enc W base args ds gs before hval hW hk

theorem j1 : (YthpfcfacofakoaaGreat.Rows.countMergesUptoRow.inPlace == Tryz.prog.inPlace 3) = true := by kernel_rfl
theorem j2 : (YthpfcfacofakoaaGreat.Rows.countMergesUptoRow.unfollowed == Tryz.prog.unfollowed 3) = true := by kernel_rfl
theorem j3 : (YthpfcfacofakoaaGreat.Rows.countMergesUptoRow.recurses == Tryz.prog.recurses 3) = true := by kernel_rfl
theorem j4 : (YthpfcfacofakoaaGreat.Rows.countMergesUptoRow.named == Tryz.prog.varsNamed 3) = true := by kernel_rfl
theorem j5 : (YthpfcfacofakoaaGreat.Rows.countMergesUptoRow.plainKeys == Tryz.prog.plainKeys) = true := by kernel_rfl
theorem j6 : (YthpfcfacofakoaaGreat.Rows.countMergesUptoRow.lifted == Tryz.prog.liftsFinal) = true := by kernel_rfl
theorem j7 : (Tryz.prog.make == some YthpfcfacofakoaaGreat.Rows.countMergesUptoRow.make) = true := by kernel_rfl
set_option maxRecDepth 100000 in
theorem jf : joinedFacts Tryz.prog 3 Tryz.f3 (YthpfcfacofakoaaGreat.Rows.OpenSpec.upto YthpfcfacofakoaaGreat.Rows.countMergesSpec).bare YthpfcfacofakoaaGreat.Rows.countMergesUptoRow = true := by
  unfold joinedFacts
  exact and_ok (and_ok (and_ok (and_ok (and_ok (and_ok (and_ok (and_ok (and_ok (and_ok (and_ok (and_ok (and_ok (and_ok (and_ok (and_ok (and_ok (and_ok (and_ok (and_ok (and_ok (and_ok (and_ok (and_ok (and_ok (and_ok (and_ok (and_ok (and_ok (and_ok (and_ok (by kernel_rfl) j_laid) j_maps) (by kernel_rfl)) (by kernel_rfl)) (by kernel_rfl)) (by kernel_rfl)) (by kernel_rfl)) (by kernel_rfl)) j1) j2) j3) j4) (by kernel_rfl)) (by kernel_rfl)) (by kernel_rfl)) (by kernel_rfl)) (by kernel_rfl)) (by kernel_rfl)) (by kernel_rfl)) (by kernel_rfl)) (by kernel_rfl)) j5) (by kernel_rfl)) j_heard) j_enter) j6) j7) (by kernel_rfl)) (by kernel_rfl)) (by kernel_rfl)) (by kernel_rfl)
end countMerges
theorem _root_.Go.Proofs.YthpfcfacofakoaaGreat.countMerges_proved : YthpfcfacofakoaaGreat.Rows.CountMergesUptoSaid :=
  OpenClaim.holds_of_cond 3 Tryz.f3 rfl rfl rfl rfl rfl rfl rfl ⟨rfl, rfl, rfl, rfl, rfl⟩ rfl rfl rfl rfl rfl (by kernel_rfl) Tryz.func3 countMerges.jf
    (of_decide_eq_true (by kernel_rfl)) (by unfold Func.isWrapper; first | (rw [if_pos (by decide +kernel)]; kernel_rfl) | (rw [if_neg (by decide +kernel)]; exact ⟨rfl, rfl⟩))
    (fun os started H enc _ F => countMerges.lifted os started H enc F)
#print axioms Go.Proofs.YthpfcfacofakoaaGreat.countMerges_proved
end Go.Sk
end
