/- Texts W6h W6c A7h A20 A14 A31 A32 A33, joined. -/
import Derived.Test.YtmpockfgppcnbaaW6d
import Derived.Test.YtmpockfgppcnbaaW6b
import Derived.Test.YtmpockfgppcnbaaR10B
import Derived.Test.YtmpockfgppcnbaaSkRg
import Derived.Test.YtmpockfgppcnbaaR10A
import Derived.Test.YtmpockfgppcnbaaW0
set_option linter.unusedSimpArgs false
set_option linter.unusedVariables false
set_option linter.unusedSectionVars false
-- W6h
section
namespace Go.Sk
open Go Go.Proofs

noncomputable def addH (h : Hist) (t w : Nat) : Hist × Int := addV h.k.toNat h.g h.ls t w
structure Hist.Ok (h : Hist) : Prop where
  k0 : 0 ≤ h.k
  k1 : h.k < 1073741824
  ls : h.ls.length < 1073741824
  ll : ∀ l ∈ h.ls, l.length < 1073741824
  tot : totN 0 h.ls ≤ 4503599627370496
theorem hist_addH (h : Hist) (ok : h.Ok) (t w : Nat) (hw : w < 18446744073709551616) : Pure Try.prog 26 [h.av, u64 t, u64 w] (.tuple [(addH h t w).1.av, i64 (addH h t w).2]) := by
  obtain ⟨k, g, ls⟩ := h
  obtain ⟨h1, h2, h3, h4, h5⟩ := ok
  dsimp only at h1 h2 h3 h4 h5
  obtain ⟨k, rfl⟩ : ∃ k' : Nat, k = k' := ⟨k.toNat, by omega⟩
  have := hist_Add k g ls t w (by omega) hw h3 h4 h5
  unfold addH; simpa using this
theorem ref06_addH (h : Hist) (ok : h.Ok) (t w : Nat) (hw : w < 18446744073709551616) : Pure Try.prog 31 [h.av, u64 t, u64 w] (.tuple [(addH h t w).1.av, i64 (addH h t w).2]) := by
  obtain ⟨k, g, ls⟩ := h
  obtain ⟨h1, h2, h3, h4, h5⟩ := ok
  dsimp only at h1 h2 h3 h4 h5
  obtain ⟨k, rfl⟩ : ∃ k' : Nat, k = k' := ⟨k.toNat, by omega⟩
  have := ref06_Add k g ls t w (by omega) hw h3 h4 h5
  unfold addH; simpa using this

end Go.Sk
end

-- W6c
section
namespace Go.Sk
open Go Go.Proofs

theorem eq_of_all {α : Type} {a b : List α} (hlen : a.length = b.length) (h : ∀ j (h1 : j < a.length) (h2 : j < b.length), a[j] = b[j]) : a = b := List.ext_getElem hlen h
theorem all_step {α : Type} {a b : List α} {i : Nat} (hall : ∀ j, j < i → ∀ (h1 : j < a.length) (h2 : j < b.length), a[j] = b[j]) (he : ∀ (h1 : i < a.length) (h2 : i < b.length), a[i] = b[i]) :
    ∀ j, j < i + 1 → ∀ (h1 : j < a.length) (h2 : j < b.length), a[j] = b[j] := by
  intro j h h1 h2
  rcases Nat.lt_or_ge j i with hj | hj
  · exact hall j hj h1 h2
  · obtain rfl : j = i := by omega
    exact he h1 h2
theorem span_eq (x y : Span) : (x.a == y.a && x.b == y.b) = decide (x = y) := by
  cases x; cases y
  rw [Bool.eq_iff_iff]; simp

theorem eq_spans (a b : List Span) (ha : a.length < 1099511627776) : Pure Try.prog 77 [.p (lvP a), .p (lvP b)] (bl (decide (a = b))) := fun S => by
  refine callR_of Try.func77 rfl rfl (xc_ok (bitB 16806963) _ _ _ ?_)
  simp only [go_sem, lvP]
  by_cases hlen : a.length = b.length
  rotate_left
  · have hn : (a.length != b.length) = true := by simpa using hlen
    have hne : ¬ a = b := fun e => hlen (by rw [e])
    simp only [go_sem, hn]
    (refine ⟨S, by (repeat (first | exact Sub.refl _ | refine Sub.setF ?_ (by first | assumption | simp only [*]) | refine Sub.setV ?_ (by first | assumption | simp only [*]))), ?_⟩); simp [hne]
  · have hn : (a.length != b.length) = false := by simpa using hlen
    simp only [go_sem, hn]
    refine AWP.roam (fun i : Nat => i ≤ a.length ∧ ∀ j, j < i → ∀ (h1 : j < a.length) (h2 : j < b.length), a[j] = b[j]) (fun i => ⟨Env.get [(0, .p (.sl (a.map Span.pv))), (1, .p (.sl (b.map Span.pv))), (12, i64 a.length), (13, i64 i)], S, 26, []⟩) (fun i => a.length - i) 0 ⟨by omega, fun j h => by omega⟩ ?_ ?_
    · exact le_of (by simp only [go_sem]; simp) (Sub.refl _) rfl rfl (by simp)
    · rintro i ⟨hi, hall⟩ ih
      refine AWPH.step (xc_ok (bitB 16806963) _ _ _ ?_)
      by_cases h : i < a.length
      · have hb : i < b.length := by omega
        simp only [go_sem, h, hb, ltN' h, ltN' hb, getD_map' _ _ _ _ h, getD_map' _ _ _ _ hb]
        refine AWP.draw2 (bitB 16806963) mixed (by kernel_rfl) (fun j => bl false) ?_
        simp only [go_sem, h, hb, ltN' h, ltN' hb, getD_map' _ _ _ _ h, getD_map' _ _ _ _ hb, span_eq]
        by_cases hq : a[i] = b[i]
        · simp only [go_sem, hq, Bool.not_true]
          refine (ih (i + 1) ⟨h, all_step hall fun _ _ => hq⟩ (by omega)).back (by (repeat (first | exact Sub.refl _ | refine Sub.setF ?_ (by first | assumption | simp only [*]) | refine Sub.setV ?_ (by first | assumption | simp only [*])))) (by simp) ?_
          simp only [go_sem, wi_succ (show i < 4611686018427387904 by omega)]
        · simp only [go_sem, hq, Bool.not_false]
          (refine ⟨S, by (repeat (first | exact Sub.refl _ | refine Sub.setF ?_ (by first | assumption | simp only [*]) | refine Sub.setV ?_ (by first | assumption | simp only [*]))), ?_⟩)
          have hne : ¬ a = b := by rintro rfl; exact hq rfl
          simp [hne]
      · obtain rfl : i = a.length := by omega
        simp only [go_sem]
        (refine ⟨S, by (repeat (first | exact Sub.refl _ | refine Sub.setF ?_ (by first | assumption | simp only [*]) | refine Sub.setV ?_ (by first | assumption | simp only [*]))), ?_⟩)
        have : a = b := eq_of_all hlen fun j h1 h2 => hall j h1 h1 h2
        simp [this]

theorem ref05_Same (a b : List Span) (ha : a.length < 1099511627776) : Pure Try.prog 75 [.p (lvP a), .p (lvP b)] (bl (decide (a = b))) := fun S => by
  refine callR_of Try.func75 rfl rfl (xc_ok (bitB 33571891) _ _ _ ?_)
  simp only [go_sem, lvP]
  by_cases hlen : a.length = b.length
  rotate_left
  · have hn : (a.length != b.length) = true := by simpa using hlen
    have hne : ¬ a = b := fun e => hlen (by rw [e])
    simp only [go_sem, hn]
    (refine ⟨S, by (repeat (first | exact Sub.refl _ | refine Sub.setF ?_ (by first | assumption | simp only [*]) | refine Sub.setV ?_ (by first | assumption | simp only [*]))), ?_⟩); simp [hne]
  · have hn : (a.length != b.length) = false := by simpa using hlen
    simp only [go_sem, hn]
    refine AWP.roam (fun i : Nat => i ≤ a.length ∧ ∀ j, j < i → ∀ (h1 : j < a.length) (h2 : j < b.length), a[j] = b[j]) (fun i => ⟨Env.get [(0, .p (.sl (a.map Span.pv))), (1, .p (.sl (b.map Span.pv))), (5, i64 i)], S, 26, []⟩) (fun i => a.length - i) 0 ⟨by omega, fun j h => by omega⟩ ?_ ?_
    · exact le_of (by simp only [go_sem]; simp) (Sub.refl _) rfl rfl (by simp)
    · rintro i ⟨hi, hall⟩ ih
      refine AWPH.step (xc_ok (bitB 33571891) _ _ _ ?_)
      by_cases h : i < a.length
      · have hb : i < b.length := by omega
        simp only [go_sem, h, hb, ltN' h, ltN' hb, getD_map' _ _ _ _ h, getD_map' _ _ _ _ hb]
        refine AWP.draw2 (bitB 33571891) mixed (by kernel_rfl) (fun j => bl false) ?_
        simp only [go_sem, h, hb, ltN' h, ltN' hb, getD_map' _ _ _ _ h, getD_map' _ _ _ _ hb, span_eq]
        by_cases hq : a[i] = b[i]
        · simp only [go_sem, hq, Bool.not_true]
          refine (ih (i + 1) ⟨h, all_step hall fun _ _ => hq⟩ (by omega)).back (by (repeat (first | exact Sub.refl _ | refine Sub.setF ?_ (by first | assumption | simp only [*]) | refine Sub.setV ?_ (by first | assumption | simp only [*])))) (by simp) ?_
          simp only [go_sem, wi_succ (show i < 4611686018427387904 by omega)]
        · simp only [go_sem, hq, Bool.not_false]
          (refine ⟨S, by (repeat (first | exact Sub.refl _ | refine Sub.setF ?_ (by first | assumption | simp only [*]) | refine Sub.setV ?_ (by first | assumption | simp only [*]))), ?_⟩)
          have hne : ¬ a = b := by rintro rfl; exact hq rfl
          simp [hne]
      · obtain rfl : i = a.length := by omega
        simp only [go_sem]
        (refine ⟨S, by (repeat (first | exact Sub.refl _ | refine Sub.setF ?_ (by first | assumption | simp only [*]) | refine Sub.setV ?_ (by first | assumption | simp only [*]))), ?_⟩)
        have : a = b := eq_of_all hlen fun j h1 h2 => hall j h1 h1 h2
        simp [this]

theorem eq_levels (a b : List (List Span)) (ha : a.length < 1099511627776) (hl : ∀ l ∈ a, l.length < 1099511627776) :
    Pure Try.prog 76 [.p (.sl (a.map lvE)), .p (.sl (b.map lvE)), .fn (.func 77) [] []] (bl (decide (a = b))) := fun S => by
  refine callR_of Try.func76 rfl rfl (xc_ok (bitB 1074250695) _ _ _ ?_)
  simp only [go_sem, lvP]
  by_cases hlen : a.length = b.length
  rotate_left
  · have hn : (a.length != b.length) = true := by simpa using hlen
    have hne : ¬ a = b := fun e => hlen (by rw [e])
    simp only [go_sem, hn]
    (refine ⟨S, by (repeat (first | exact Sub.refl _ | refine Sub.setF ?_ (by first | assumption | simp only [*]) | refine Sub.setV ?_ (by first | assumption | simp only [*]))), ?_⟩); simp [hne]
  · have hn : (a.length != b.length) = false := by simpa using hlen
    simp only [go_sem, hn]
    refine AWP.roam (fun i : Nat => i ≤ a.length ∧ ∀ j, j < i → ∀ (h1 : j < a.length) (h2 : j < b.length), a[j] = b[j]) (fun i => ⟨Env.get [(1, .p (.sl (b.map lvE))), (2, .fn (.func 77) [] []), (15, .p (.sl (a.map lvE))), (16, i64 a.length), (17, i64 i)], S, 32, []⟩) (fun i => a.length - i) 0 ⟨by omega, fun j h => by omega⟩ ?_ ?_
    · exact le_of (by simp only [go_sem]; simp) (Sub.refl _) rfl rfl (by simp)
    · rintro i ⟨hi, hall⟩ ih
      refine AWPH.step (xc_ok (bitB 1074250695) _ _ _ ?_)
      by_cases h : i < a.length
      · have hb : i < b.length := by omega
        simp only [go_sem, h, hb, ltN' h, ltN' hb, getD_map' _ _ _ _ h, getD_map' _ _ _ _ hb, lvE_mk]
        refine Pure.useF (first := []) (caps := []) (args := [.p (lvP a[i]), .p (lvP b[i])]) (a2 := [.p (lvP a[i]), .p (lvP b[i])]) (eq_spans a[i] b[i] (hl _ (List.getElem_mem h))) rfl ?_
        by_cases hq : a[i] = b[i]
        · simp only [go_sem, hq, Bool.not_true]
          refine (ih (i + 1) ⟨h, all_step hall fun _ _ => hq⟩ (by omega)).back (by (repeat (first | exact Sub.refl _ | refine Sub.setF ?_ (by first | assumption | simp only [*]) | refine Sub.setV ?_ (by first | assumption | simp only [*])))) (by simp) ?_
          simp only [go_sem, wi_succ (show i < 4611686018427387904 by omega)]
        · simp only [go_sem, hq, Bool.not_false]
          (refine ⟨S, by (repeat (first | exact Sub.refl _ | refine Sub.setF ?_ (by first | assumption | simp only [*]) | refine Sub.setV ?_ (by first | assumption | simp only [*]))), ?_⟩)
          have hne : ¬ a = b := by rintro rfl; exact hq rfl
          simp [hne]
      · obtain rfl : i = a.length := by omega
        simp only [go_sem]
        (refine ⟨S, by (repeat (first | exact Sub.refl _ | refine Sub.setF ?_ (by first | assumption | simp only [*]) | refine Sub.setV ?_ (by first | assumption | simp only [*]))), ?_⟩)
        have : a = b := eq_of_all hlen fun j h1 h2 => hall j h1 h1 h2
        simp [this]

theorem hist_equal (k g : Int) (a b : List (List Span)) (ha : a.length < 1099511627776) (hl : ∀ l ∈ a, l.length < 1099511627776) :
    Pure Try.prog 56 [(Hist.mk k g a).av, .p (.sl (b.map lvE))] (bl (decide (a = b))) := fun S => by
  refine callR_of Try.func56 rfl rfl (xc_ok (bitB 23) _ _ _ ?_)
  simp only [go_sem]
  refine alloc_intro fun c hc => ?_
  simp only [go_sem]
  refine (eq_levels a b ha hl).useA ?_
  simp only [go_sem]
  (refine ⟨S, by (repeat (first | exact Sub.refl _ | refine Sub.setF ?_ (by first | assumption | simp only [*]) | refine Sub.setV ?_ (by first | assumption | simp only [*]))), ?_⟩); simp

def Hist.Small (h : Hist) : Prop := h.ls.length < 1099511627776 ∧ ∀ l ∈ h.ls, l.length < 1099511627776
theorem hist_Same (a b : Hist) (h : a.Small) : Pure Try.prog 29 [a.av, b.av] (bl (decide (a = b))) := fun S => by
  obtain ⟨k, g, ls⟩ := a
  obtain ⟨k', g', ls'⟩ := b
  refine callR_of Try.func29 rfl rfl (xc_ok (bitB 63) _ _ _ ?_)
  simp only [go_sem]
  refine alloc_intro fun c hc => ?_
  simp only [go_sem]
  refine alloc_intro fun d hd => ?_
  simp only [fresh_set] at hd
  simp only [go_sem, hd]
  by_cases h1 : k = k'
  rotate_left
  · have e1 : (k == k') = false := by simpa using h1
    simp only [go_sem, e1]
    (refine ⟨S, by (repeat (first | exact Sub.refl _ | refine Sub.setF ?_ (by first | assumption | simp only [*]) | refine Sub.setV ?_ (by first | assumption | simp only [*]))), ?_⟩); simp [h1]
  subst h1
  simp only [go_sem, hd, beq_self_eq_true]
  by_cases h2 : g = g'
  rotate_left
  · have e1 : (g == g') = false := by simpa using h2
    simp only [go_sem, e1]
    (refine ⟨S, by (repeat (first | exact Sub.refl _ | refine Sub.setF ?_ (by first | assumption | simp only [*]) | refine Sub.setV ?_ (by first | assumption | simp only [*]))), ?_⟩); simp [h2]
  subst h2
  simp only [go_sem, hd, beq_self_eq_true]
  refine Pure.useF (first := [(Hist.mk k g ls).av]) (caps := []) (args := [.p (.sl (ls'.map lvE))]) (a2 := [.p (.sl (ls'.map lvE))]) (hist_equal k g ls ls' h.1 h.2) rfl ?_
  simp only [go_sem]
  (refine ⟨S, by (repeat (first | exact Sub.refl _ | refine Sub.setF ?_ (by first | assumption | simp only [*]) | refine Sub.setV ?_ (by first | assumption | simp only [*]))), ?_⟩); simp

theorem ref06_Same (a b : Hist) (h : a.Small) : Pure Try.prog 55 [a.av, b.av] (bl (decide (a = b))) := fun S => by
  obtain ⟨k, g, ls⟩ := a
  obtain ⟨k', g', ls'⟩ := b
  refine callR_of Try.func55 rfl rfl (xc_ok (bitB 35186586681407) _ _ _ ?_)
  simp only [go_sem]
  refine alloc_intro fun c hc => ?_
  simp only [go_sem]
  refine alloc_intro fun d hd => ?_
  simp only [fresh_set] at hd
  simp only [go_sem, hd]
  by_cases h1 : k = k'
  rotate_left
  · have e1 : (k != k') = true := by simpa using h1
    simp only [go_sem, e1]
    (refine ⟨S, by (repeat (first | exact Sub.refl _ | refine Sub.setF ?_ (by first | assumption | simp only [*]) | refine Sub.setV ?_ (by first | assumption | simp only [*]))), ?_⟩); simp [h1]
  subst h1
  simp only [go_sem, hd, bne_self_eq_false]
  by_cases h2 : g = g'
  rotate_left
  · have e1 : (g != g') = true := by simpa using h2
    simp only [go_sem, e1]
    (refine ⟨S, by (repeat (first | exact Sub.refl _ | refine Sub.setF ?_ (by first | assumption | simp only [*]) | refine Sub.setV ?_ (by first | assumption | simp only [*]))), ?_⟩); simp [h2]
  subst h2
  simp only [go_sem, hd, bne_self_eq_false]
  by_cases hlen : ls.length = ls'.length
  rotate_left
  · have hn : (ls.length != ls'.length) = true := by simpa using hlen
    have hne : ¬ ls = ls' := fun e => hlen (by rw [e])
    simp only [go_sem, hn]
    (refine ⟨S, by (repeat (first | exact Sub.refl _ | refine Sub.setF ?_ (by first | assumption | simp only [*]) | refine Sub.setV ?_ (by first | assumption | simp only [*]))), ?_⟩); simp [hne]
  have hn : (ls.length != ls'.length) = false := by simpa using hlen
  simp only [go_sem, hn]
  refine AWP.roam (fun i : Nat => i ≤ ls.length ∧ ∀ j, j < i → ∀ (h1 : j < ls.length) (h2 : j < ls'.length), ls[j] = ls'[j]) (fun i => ⟨Env.get [(2, .sp c 0), (3, .sp d 0), (5, i64 i)],
    (S.set (.r c) (.cells [i64 k, i64 g, .p (.sl (ls.map lvE))])).set (.r d) (.cells [i64 k, i64 g, .p (.sl (ls'.map lvE))]), 46, []⟩) (fun i => ls.length - i) 0 ⟨by omega, fun j h => by omega⟩ ?_ ?_
  · exact le_of (by simp only [go_sem]; simp) (Sub.refl _) rfl rfl (by simp)
  · rintro i ⟨hi, hall⟩ ih
    refine AWPH.step (xc_ok (bitB 35186586681407) _ _ _ ?_)
    by_cases hx : i < ls.length
    · have hb : i < ls'.length := by omega
      simp only [go_sem, hd, hx, hb, ltN' hx, ltN' hb, getD_map' _ _ _ _ hx, getD_map' _ _ _ _ hb, lvE_mk]
      refine AWP.draw2 (bitB 35186586681407) mixed (by kernel_rfl) (fun j => bl (decide (ls[i] = ls'[i]))) ?_
      simp only [go_sem, hd, hx, hb, ltN' hx, ltN' hb, getD_map' _ _ _ _ hx, getD_map' _ _ _ _ hb, lvE_mk]
      refine ⟨(ref05_Same ls[i] ls'[i] (h.2 _ (List.getElem_mem hx))).draw, ?_⟩
      by_cases hq : ls[i] = ls'[i]
      · simp only [go_sem, hq, Bool.not_true]
        refine (ih (i + 1) ⟨hx, all_step hall fun _ _ => hq⟩ (by omega)).back (by (repeat (first | exact Sub.refl _ | refine Sub.setF ?_ (by first | assumption | simp only [*]) | refine Sub.setV ?_ (by first | assumption | simp only [*])))) (by simp) ?_
        simp only [go_sem, wi_succ (show i < 4611686018427387904 by have := h.1; dsimp only at this; omega)]
      · simp only [go_sem, hq, Bool.not_false]
        (refine ⟨S, by (repeat (first | exact Sub.refl _ | refine Sub.setF ?_ (by first | assumption | simp only [*]) | refine Sub.setV ?_ (by first | assumption | simp only [*]))), ?_⟩)
        have hne : ¬ ls = ls' := by rintro rfl; exact hq rfl
        simp [hne]
    · obtain rfl : i = ls.length := by omega
      simp only [go_sem, hd]
      (refine ⟨S, by (repeat (first | exact Sub.refl _ | refine Sub.setF ?_ (by first | assumption | simp only [*]) | refine Sub.setV ?_ (by first | assumption | simp only [*]))), ?_⟩)
      have : ls = ls' := eq_of_all hlen fun j h1 h2 => hall j h1 h1 h2
      simp [this]
end Go.Sk
end

-- A7h
section
namespace Go.Sk

theorem Hist.Good.ok {h : Hist} (g : h.Good) : h.Ok :=
  ⟨by have := g.k0; omega, by have := g.k1; omega, by have := g.len; omega, fun l hl => by have := g.sm l hl; have := g.k1; omega, g.tot⟩
theorem Hist.Good.small {h : Hist} (g : h.Good) : h.Small := ⟨by have := g.len; omega, fun l hl => by have := g.sm l hl; have := g.k1; omega⟩
theorem addH_good {h : Hist} (g : h.Good) (t w : Nat) (e : (addH h t w).2 = 0) : (addH h t w).1.Good ∧ (addH h t w).1.k = h.k ∧ (addH h t w).1.g = h.g ∧ totN 0 (addH h t w).1.ls = totN 0 h.ls + w := addV_good g t w e
theorem addH_tidy {h : Hist} (g : h.Good) (hT : Tidy h.k.toNat h.ls) (t w : Nat) (e : (addH h t w).2 = 0) : Tidy h.k.toNat (addH h t w).1.ls ∧
    ∀ W, Mono W → loL W 0 (addH h t w).1.ls ≤ loL W 0 h.ls + (if W t = true then w else 0) ∧ hiL W 0 h.ls + (if W t = true then w else 0) ≤ hiL W 0 (addH h t w).1.ls := addV_tidy g hT t w e
end Go.Sk
end

-- A20
section
namespace Go.Sk

/-- Is a tick too old? -/
noncomputable def oldV (f w t : Nat) : Bool := decide (w ≤ f) && decide (t ≤ sub64 f w)
def Anti (o : Nat → Bool) : Prop := ∀ x y, x ≤ y → o y = true → o x = true
theorem oldV_anti (f w : Nat) : Anti (oldV f w) := by
  intro x y h hy
  unfold oldV at *
  simp only [Bool.and_eq_true, decide_eq_true_eq] at *
  exact ⟨hy.1, by omega⟩
/-- How many at the head of a level are too old. -/
def oldN (o : Nat → Bool) : List Span → Nat
  | [] => 0
  | s :: l => if o s.b = true then oldN o l + 1 else 0
/-- What is left: level by level, as long as there is something. -/
def dropG (o : Nat → Bool) : List (List Span) → List (List Span)
  | [] => []
  | l :: r => if oldN o l < l.length then l.drop (oldN o l) :: dropG o r else []
theorem oldN_cons (o : Nat → Bool) (s : Span) (l : List Span) : oldN o (s :: l) = if o s.b = true then oldN o l + 1 else 0 := rfl
theorem oldN_le (o : Nat → Bool) (l : List Span) : oldN o l ≤ l.length := by
  induction l with
  | nil => exact Nat.le_refl _
  | cons s l ih => unfold oldN; split <;> simp <;> omega
theorem oldN_lt (o : Nat → Bool) : ∀ (l : List Span) (i : Nat) (h : i < l.length), i < oldN o l → o (l[i]).b = true := by
  intro l
  induction l with
  | nil => intro i h; simp at h
  | cons s l ih =>
    intro i h hi
    unfold oldN at hi
    split at hi
    · rename_i c
      cases i with
      | zero => exact c
      | succ i => exact ih i (by simpa using h) (by omega)
    · omega
theorem oldN_at (o : Nat → Bool) : ∀ (l : List Span) (h : oldN o l < l.length), o (l[oldN o l]).b = false := by
  intro l
  induction l with
  | nil => intro h; simp at h
  | cons s l ih =>
    intro h
    by_cases c : o s.b = true
    · have e : oldN o (s :: l) = oldN o l + 1 := by rw [oldN_cons, if_pos c]
      have h2 : oldN o l < l.length := by rw [e] at h; simpa using h
      simp only [e, List.getElem_cons_succ]
      exact ih h2
    · have e : oldN o (s :: l) = 0 := by rw [oldN_cons, if_neg c]
      simp only [e, List.getElem_cons_zero]
      simpa using c
/-- One by one: i of a level are too old. -/
theorem oldN_step (o : Nat → Bool) (l : List Span) (i : Nat) (h : i < l.length) (hi : i ≤ oldN o l) : (o (l[i]).b = true → i + 1 ≤ oldN o l) ∧ (o (l[i]).b = false → i = oldN o l) := by
  refine ⟨fun hb => ?_, fun hb => ?_⟩
  · apply Classical.byContradiction
    intro hc
    obtain rfl : i = oldN o l := by omega
    rw [oldN_at o l h] at hb; cases hb
  · apply Classical.byContradiction
    intro hc
    rw [oldN_lt o l i h (by omega)] at hb; cases hb

def stayF (o : Nat → Bool) (l : List Span) : List Span := l.filter (fun s => !o s.b)
def manyF : Nat → Nat → List (List Span) → Nat
  | _, n, [] => n
  | i, n, l :: r => manyF (i + 1) (if l = [] then n else i + 1) r
def dropH (D : List (List Span) → List (List Span)) (h : Hist) : Hist := ⟨h.k, h.g, D h.ls⟩
/-- By the document. -/
def docD (o : Nat → Bool) (ls : List (List Span)) : List (List Span) := (ls.map (stayF o)).take (manyF 0 0 (ls.map (stayF o)))
theorem manyF_snoc (l : List Span) : ∀ (r : List (List Span)) (i n : Nat), manyF i n (r ++ [l]) = if l = [] then manyF i n r else i + r.length + 1 := by
  intro r
  induction r with
  | nil => intro i n; simp [manyF]
  | cons x r ih => intro i n; simp only [List.cons_append, manyF, ih, List.length_cons]; split <;> omega
theorem manyF_all : ∀ (r : List (List Span)) (i n : Nat), (∀ l ∈ r, l = []) → manyF i n r = n := by
  intro r
  induction r with
  | nil => intro i n _; rfl
  | cons x r ih => intro i n h; unfold manyF; rw [if_pos (h x (by simp)), ih _ _ (fun l hl => h l (by simp [hl]))]
theorem manyF_ge : ∀ (r : List (List Span)) (i n : Nat), n ≤ i → manyF i n r = n ∨ i < manyF i n r := by
  intro r
  induction r with
  | nil => intro i n _; exact Or.inl rfl
  | cons x r ih =>
    intro i n h
    unfold manyF
    split
    · rcases ih (i + 1) n (by omega) with e | e
      · exact Or.inl e
      · exact Or.inr (by omega)
    · rcases ih (i + 1) (i + 1) (by omega) with e | e
      · exact Or.inr (by omega)
      · exact Or.inr (by omega)
theorem manyF_le : ∀ (r : List (List Span)) (i n : Nat), n ≤ i → manyF i n r ≤ i + r.length := by
  intro r
  induction r with
  | nil => intro i n h; simpa [manyF] using h
  | cons x r ih =>
    intro i n h
    unfold manyF
    rw [List.length_cons]
    split
    · have := ih (i + 1) n (by omega); omega
    · have := ih (i + 1) (i + 1) (by omega); omega
/-- Of a sorted level, what stays is its end. -/
theorem stay_drop {o : Nat → Bool} (ho : Anti o) : ∀ l : List Span, l.Pairwise Bef → (∀ s ∈ l, s.a ≤ s.b) → stayF o l = l.drop (oldN o l) := by
  intro l
  induction l with
  | nil => intro _ _; rfl
  | cons s l ih =>
    intro h hv
    rw [List.pairwise_cons] at h
    have hvs := fun x hx => hv x (List.mem_cons_of_mem _ hx)
    unfold stayF at *
    rw [oldN_cons]
    by_cases c : o s.b = true
    · rw [if_pos c, List.drop_succ_cons, List.filter_cons_of_neg (by simp [c])]
      exact ih h.2 hvs
    · rw [if_neg c, List.drop_zero, List.filter_eq_self]
      intro x hx
      rcases List.mem_cons.1 hx with rfl | hx
      · simpa using c
      · have h1 : s.b ≤ x.b := Nat.le_trans (h.1 x hx) (hvs x hx)
        cases hb : o x.b with
        | false => rfl
        | true => exact absurd (ho _ _ h1 hb) c
theorem doc_go_aux {o : Nat → Bool} (ho : Anti o) : ∀ (ls : List (List Span)) (i : Nat), (flat ls).Pairwise Bef → (∀ s ∈ flat ls, s.a ≤ s.b) → (∀ l ∈ ls, l ≠ []) →
    (ls.map (stayF o)).take (manyF i i (ls.map (stayF o)) - i) = dropG o ls := by
  intro ls
  induction ls with
  | nil => intro i _ _ _; simp [dropG]
  | cons l r ih =>
    intro i hs hv hne
    obtain ⟨s1, s2, s3⟩ := List.pairwise_append.1 (show (flat r ++ l).Pairwise Bef from hs)
    have hvl : ∀ s ∈ l, s.a ≤ s.b := fun s h => hv s (List.mem_append_right _ h)
    have hvr : ∀ s ∈ flat r, s.a ≤ s.b := fun s h => hv s (List.mem_append_left _ h)
    have hst := stay_drop ho l s2 hvl
    have hle := oldN_le o l
    unfold dropG
    by_cases c : oldN o l < l.length
    · rw [if_pos c]
      have hn : stayF o l ≠ [] := by rw [hst]; intro e; have := congrArg List.length e; simp at this; omega
      have ihr := ih (i + 1) s1 hvr (fun x hx => hne x (by simp [hx]))
      simp only [List.map_cons, manyF]
      rw [if_neg hn]
      have hge : i + 1 ≤ manyF (i + 1) (i + 1) (r.map (stayF o)) := by
        rcases manyF_ge (r.map (stayF o)) (i + 1) (i + 1) (Nat.le_refl _) with e | e <;> omega
      rw [show manyF (i + 1) (i + 1) (r.map (stayF o)) - i = (manyF (i + 1) (i + 1) (r.map (stayF o)) - (i + 1)) + 1 by omega, List.take_succ_cons, ihr, hst]
    · rw [if_neg c]
      have hz : stayF o l = [] := by rw [hst]; exact List.drop_of_length_le (by omega)
      have hl0 : 0 < l.length := List.length_pos_iff.2 (hne l (by simp))
      have hold : o (l[0]).b = true := oldN_lt o l 0 hl0 (by omega)
      have hall : ∀ x ∈ flat r, o x.b = true := fun x hx => by
        have h1 := s3 x hx l[0] (List.getElem_mem hl0)
        exact ho _ _ (Nat.le_trans h1 (hvl _ (List.getElem_mem hl0))) hold
      have hmem : ∀ (r : List (List Span)), ∀ m ∈ r, ∀ x ∈ m, x ∈ flat r := by
        intro r
        induction r with
        | nil => intro m hm; cases hm
        | cons y r ih2 =>
          intro m hm x hx
          rcases List.mem_cons.1 hm with rfl | hm
          · exact List.mem_append_right _ hx
          · exact List.mem_append_left _ (ih2 m hm x hx)
      have he : ∀ m ∈ r.map (stayF o), m = [] := by
        intro m hm
        obtain ⟨y, hy, rfl⟩ := List.mem_map.1 hm
        unfold stayF
        rw [List.filter_eq_nil_iff]
        intro x hx
        rw [hall x (hmem r y hy x hx)]; simp
      simp only [List.map_cons, manyF]
      rw [if_pos hz, manyF_all _ _ _ he, Nat.sub_self, List.take_zero]
/-- Both leave the same. -/
theorem docD_eq {o : Nat → Bool} (ho : Anti o) {k : Nat} {ls : List (List Span)} (h : Tidy k ls) (hne : ∀ l ∈ ls, l ≠ []) : docD o ls = dropG o ls := by
  have := doc_go_aux ho ls 0 h.srt h.val hne
  rw [Nat.sub_zero] at this
  exact this
end Go.Sk
end

-- A14
section
namespace Go.Sk

/-! Adding that is let in. -/
theorem last_mem {ls : List (List Span)} (h : (lastV ls).2 = true) : ∃ x ∈ flat ls, (lastV ls).1 = x.b := by
  unfold lastV at *
  cases ls with
  | nil => simp at h
  | cons l r =>
    dsimp only at h ⊢
    cases hl : l.getLast? with
    | none => rw [hl] at h; simp at h
    | some s => exact ⟨s, List.mem_append_right _ (List.mem_of_getLast? hl), rfl⟩
theorem addH_let {h : Hist} (hT : Tidy h.k.toNat h.ls) {t w : Nat} (ht : t ≤ 9223372036854775807) (hw : 1 ≤ w) (hb : ∀ x ∈ flat h.ls, x.b ≤ t) (htot : totN 0 h.ls + w ≤ 4503599627370496) :
    (addH h t w).2 = 0 ∧ ∀ x ∈ flat (addH h t w).1.ls, x.b ≤ t := by
  have hc : ¬ (9223372036854775807 < t ∨ ((lastV h.ls).2 = true ∧ t < (lastV h.ls).1)) := by
    rintro (c | ⟨c1, c2⟩)
    · omega
    · obtain ⟨x, hx, e⟩ := last_mem c1
      have := hb x hx; omega
  have he : addH h t w = (⟨h.k.toNat, h.g, flowV h.k.toNat t 0 h.ls [] w⟩, 0) := by
    unfold addH addV
    rw [if_neg (by omega), if_neg hc, if_neg (by omega)]
  rw [he]
  refine ⟨rfl, ?_⟩
  have hs : (flat h.ls ++ ([] ++ List.replicate w (⟨t, t⟩ : Span))).Pairwise Bef := by
    refine List.pairwise_append.2 ⟨hT.srt, ?_, ?_⟩
    · rw [List.nil_append]; exact List.pairwise_replicate.2 (Or.inr (Nat.le_refl t))
    · intro x hx y hy
      rw [List.nil_append] at hy
      rw [List.eq_of_mem_replicate hy]; exact hb x hx
  have hv : ∀ s ∈ flat h.ls ++ ([] ++ List.replicate w (⟨t, t⟩ : Span)), s.a ≤ s.b := by
    intro s hs
    rcases List.mem_append.1 hs with hs | hs
    · exact hT.val s hs
    · rw [List.nil_append] at hs; rw [List.eq_of_mem_replicate hs]; exact Nat.le_refl _
  exact (flow_tidy h.k.toNat t h.ls 0 [] w hs hv).2.2.1 t (fun s hs => by
    rcases List.mem_append.1 hs with hs | hs
    · exact hb s hs
    · rw [List.nil_append] at hs; rw [List.eq_of_mem_replicate hs]; exact Nat.le_refl _)

/-! Sums over events. -/
def sumE (f : Event → Nat) (l : List Event) : Nat := (l.map f).sum
theorem sumE_app (f : Event → Nat) (l m : List Event) : sumE f (l ++ m) = sumE f l + sumE f m := by unfold sumE; rw [List.map_append, List.sum_append]
theorem sumE_cons (f : Event → Nat) (e : Event) (l : List Event) : sumE f (e :: l) = f e + sumE f l := by unfold sumE; simp
theorem sumE_nil (f : Event → Nat) : sumE f [] = 0 := rfl
theorem sumE_le {f g : Event → Nat} (h : ∀ e, f e ≤ g e) (l : List Event) : sumE f l ≤ sumE g l := by
  induction l with
  | nil => exact Nat.le_refl _
  | cons e l ih => rw [sumE_cons, sumE_cons]; have := h e; omega
theorem sumE_ins (f : Event → Nat) (l : List Event) (e : Event) : sumE f (insE l e) = sumE f l + f e := by
  unfold insE
  rw [sumE_app, sumE_app, sumE_cons, sumE_nil]
  have := sumE_app f (l.take (belowN e.t l)) (l.drop (belowN e.t l))
  rw [List.take_append_drop] at this; omega
theorem sumE_split (f : Event → Nat) (l : List Event) (n : Nat) : sumE f l = sumE f (l.take n) + sumE f (l.drop n) := by
  rw [← sumE_app, List.take_append_drop]
def wt (W : Nat → Bool) (e : Event) : Nat := if W e.t = true then e.w else 0

/-- Events passed on. -/
noncomputable def passV (h : Hist) (out : List Event) : Hist := out.foldl (fun h e => (addH h e.t e.w).1) h
theorem pass_ok : ∀ (out : List Event) (h : Hist) (f : Nat), h.Good → Tidy h.k.toNat h.ls → (∀ x ∈ flat h.ls, x.b ≤ f) → Srt out → (∀ e ∈ out, f ≤ e.t ∧ e.t ≤ 9223372036854775807 ∧ 1 ≤ e.w) → totN 0 h.ls + sumE Event.w out ≤ 4503599627370496 →
    (passV h out).Good ∧ Tidy (passV h out).k.toNat (passV h out).ls ∧ (passV h out).k = h.k ∧ (passV h out).g = h.g ∧ totN 0 (passV h out).ls = totN 0 h.ls + sumE Event.w out ∧
    (∀ m, f ≤ m → (∀ e ∈ out, e.t ≤ m) → ∀ x ∈ flat (passV h out).ls, x.b ≤ m) ∧
    ∀ W, Mono W → loL W 0 (passV h out).ls ≤ loL W 0 h.ls + sumE (wt W) out ∧ hiL W 0 h.ls + sumE (wt W) out ≤ hiL W 0 (passV h out).ls := by
  intro out
  induction out with
  | nil =>
    intro h f hg hT hb _ _ _
    refine ⟨hg, hT, rfl, rfl, rfl, fun m hm _ x hx => Nat.le_trans (hb x hx) hm, fun W _ => ⟨Nat.le_refl _, Nat.le_refl _⟩⟩
  | cons e l ih =>
    intro h f hg hT hb hs he ht
    unfold Srt at hs
    rw [List.pairwise_cons] at hs
    obtain ⟨e1, e2, e3⟩ := he e (by simp)
    rw [sumE_cons] at ht
    obtain ⟨a1, a2⟩ := addH_let hT e2 e3 (fun x hx => Nat.le_trans (hb x hx) e1) (by omega)
    obtain ⟨b1, b2, b3, b4⟩ := addH_good hg e.t e.w a1
    obtain ⟨c1, c2⟩ := addH_tidy hg hT e.t e.w a1
    have hk : (addH h e.t e.w).1.k.toNat = h.k.toNat := by rw [b2]
    obtain ⟨i1, i2, i3, i4, i5, i6, i7⟩ := ih (addH h e.t e.w).1 e.t b1 (by rw [hk]; exact c1) a2 hs.2 (fun x hx => ⟨hs.1 x hx, (he x (by simp [hx])).2⟩) (by omega)
    show (passV (addH h e.t e.w).1 l).Good ∧ _
    refine ⟨i1, i2, i3.trans b2, i4.trans b3, ?_, ?_, ?_⟩
    · show totN 0 (passV (addH h e.t e.w).1 l).ls = _
      rw [i5, sumE_cons]; omega
    · intro m hm hx
      exact i6 m (hx e (by simp)) (fun x hx2 => hx x (by simp [hx2]))
    · intro W hW
      obtain ⟨j1, j2⟩ := i7 W hW
      obtain ⟨k1, k2⟩ := c2 W hW
      rw [sumE_cons]
      have hwt : wt W e = if W e.t = true then e.w else 0 := rfl
      rw [← hwt] at k1 k2
      refine ⟨?_, ?_⟩
      · show loL W 0 (passV (addH h e.t e.w).1 l).ls ≤ _
        omega
      · show _ ≤ hiL W 0 (passV (addH h e.t e.w).1 l).ls
        omega

/-! What is too old. -/
theorem dropG_sub (o : Nat → Bool) : ∀ ls : List (List Span), (flat (dropG o ls)).Sublist (flat ls) := by
  intro ls
  induction ls with
  | nil => exact List.Sublist.refl _
  | cons l r ih =>
    unfold dropG
    split
    · exact List.Sublist.append ih (List.drop_sublist _ _)
    · exact List.nil_sublist _
theorem dropG_old {o : Nat → Bool} (ho : Anti o) {l : List Span} {r : List (List Span)} (hs : (flat (l :: r)).Pairwise Bef) (hv : ∀ s ∈ flat (l :: r), s.a ≤ s.b) (h : 0 < oldN o l) : (∀ x ∈ flat r, o x.b = true) := by
  obtain ⟨s1, s2, s3⟩ := List.pairwise_append.1 (show (flat r ++ l).Pairwise Bef from hs)
  have hl := oldN_le o l
  intro x hx
  have h0 : 0 < l.length := by omega
  have h1 := s3 x hx l[0] (List.getElem_mem h0)
  exact ho _ _ (Nat.le_trans h1 (hv _ (List.mem_append_right _ (List.getElem_mem h0)))) (oldN_lt o l 0 h0 h)
theorem dropG_nil {o : Nat → Bool} : ∀ {r : List (List Span)}, (∀ x ∈ flat r, o x.b = true) → dropG o r = [] := by
  intro r
  cases r with
  | nil => intro _; rfl
  | cons l r =>
    intro h
    unfold dropG
    rw [if_neg]
    intro hc
    have := oldN_at o l hc
    rw [h _ (List.mem_append_right _ (List.getElem_mem hc))] at this; cases this
theorem dropG_full {o : Nat → Bool} (ho : Anti o) (k : Nat) : ∀ (ls : List (List Span)) (i : Nat), (flat ls).Pairwise Bef → (∀ s ∈ flat ls, s.a ≤ s.b) → Full k i ls → Full k i (dropG o ls) := by
  intro ls
  induction ls with
  | nil => intro i _ _ _; trivial
  | cons l r ih =>
    intro i hs hv hf
    obtain ⟨s1, s2, s3⟩ := List.pairwise_append.1 (show (flat r ++ l).Pairwise Bef from hs)
    unfold dropG
    split
    · refine ⟨fun hne => ?_, ih (i + 1) s1 (fun s h => hv s (List.mem_append_left _ h)) hf.2⟩
      by_cases h0 : 0 < oldN o l
      · exact absurd (dropG_nil (dropG_old ho hs hv h0)) hne
      · have hr : r ≠ [] := by rintro rfl; exact hne rfl
        have := hf.1 hr
        rw [List.length_drop]; omega
    · trivial
theorem dropG_tidy {o : Nat → Bool} (ho : Anti o) {k : Nat} {ls : List (List Span)} (h : Tidy k ls) : Tidy k (dropG o ls) := by
  refine ⟨h.srt.sublist (dropG_sub o ls), fun s hs => h.val s ((dropG_sub o ls).subset hs), fun s hs => ?_, dropG_full ho k ls 0 h.srt h.val h.full⟩
  cases ls with
  | nil => cases hs
  | cons l r =>
    unfold dropG at hs
    split at hs
    · exact h.low s (List.mem_of_mem_drop hs)
    · cases hs
theorem dropG_lvl (o : Nat → Bool) : ∀ (ls : List (List Span)), ∀ l ∈ dropG o ls, l ≠ [] ∧ ∃ m ∈ ls, l.length ≤ m.length := by
  intro ls
  induction ls with
  | nil => intro l hl; cases hl
  | cons l r ih =>
    intro x hx
    unfold dropG at hx
    split at hx
    · rename_i c
      rcases List.mem_cons.1 hx with rfl | hx
      · refine ⟨fun e => ?_, l, by simp, by simp⟩
        have := congrArg List.length e
        simp at this; omega
      · obtain ⟨h1, m, hm, hle⟩ := ih x hx
        exact ⟨h1, m, by simp [hm], hle⟩
    · cases hx
theorem dropG_tot (o : Nat → Bool) : ∀ (ls : List (List Span)) (i : Nat), totN i (dropG o ls) ≤ totN i ls := by
  intro ls
  induction ls with
  | nil => intro i; exact Nat.le_refl _
  | cons l r ih =>
    intro i
    unfold dropG
    split
    · unfold totN
      have h1 : (l.drop (oldN o l)).length * 2 ^ i ≤ l.length * 2 ^ i := Nat.mul_le_mul_right _ (by rw [List.length_drop]; omega)
      have := ih (i + 1)
      show (l.drop (oldN o l)).length * 2 ^ i + totN (i + 1) (dropG o r) ≤ l.length * 2 ^ i + totN (i + 1) r
      omega
    · exact Nat.zero_le _
theorem dropH_good {o : Nat → Bool} {h : Hist} (g : h.Good) : (dropH (dropG o) h).Good :=
  ⟨g.k0, g.k1, fun l hl => (dropG_lvl o h.ls l hl).1, fun l hl => by obtain ⟨_, m, hm, hle⟩ := dropG_lvl o h.ls l hl; have := g.sm m hm; unfold dropH; dsimp only; omega, Nat.le_trans (dropG_tot o h.ls 0) g.tot⟩
/-- Where nothing that is too old is within, dropping it changes nothing. -/
theorem dropG_lo {o : Nat → Bool} (ho : Anti o) {W : Nat → Bool} (hW : Mono W) (hk : ∀ x, o x = true → W x = false) : ∀ (ls : List (List Span)) (i : Nat), (∀ l ∈ ls, l ≠ []) → (flat ls).Pairwise Bef → (∀ s ∈ flat ls, s.a ≤ s.b) →
    loL W i (dropG o ls) = loL W i ls ∧ hiL W i (dropG o ls) = hiL W i ls := by
  have zero : ∀ (ls : List (List Span)) (i : Nat), (∀ s ∈ flat ls, s.a ≤ s.b) → (∀ s ∈ flat ls, o s.b = true) → loL W i ls = 0 ∧ hiL W i ls = 0 := by
    intro ls
    induction ls with
    | nil => intro i _ _; exact ⟨rfl, rfl⟩
    | cons l r ih =>
      intro i hv h
      obtain ⟨i1, i2⟩ := ih (i + 1) (fun s hs => hv s (List.mem_append_left _ hs)) (fun s hs => h s (List.mem_append_left _ hs))
      have hb : ∀ s ∈ l, W s.b = false := fun s hs => hk _ (h s (List.mem_append_right _ hs))
      have ha : ∀ s ∈ l, W s.a = false := fun s hs => by
        cases hc : W s.a with
        | false => rfl
        | true => have := hW _ _ (hv s (List.mem_append_right _ hs)) hc; rw [hb s hs] at this; cases this
      have h1 : lo W l = 0 := by unfold lo; rw [List.countP_eq_zero]; intro s hs; rw [ha s hs]; simp
      have h2 : hi W l = 0 := by unfold hi; rw [List.countP_eq_zero]; intro s hs; rw [hb s hs]; simp
      unfold loL hiL
      rw [h1, h2, i1, i2]; simp
  intro ls
  induction ls with
  | nil => intro i _ _ _; exact ⟨rfl, rfl⟩
  | cons l r ih =>
    intro i hne hs hv
    obtain ⟨s1, s2, s3⟩ := List.pairwise_append.1 (show (flat r ++ l).Pairwise Bef from hs)
    have hvr : ∀ s ∈ flat r, s.a ≤ s.b := fun s h => hv s (List.mem_append_left _ h)
    obtain ⟨i1, i2⟩ := ih (i + 1) (fun l hl => hne l (by simp [hl])) s1 hvr
    have hbt : ∀ s ∈ l.take (oldN o l), W s.b = false := fun s hs => by
      obtain ⟨j, hj, rfl⟩ := List.mem_iff_getElem.1 hs
      rw [List.length_take] at hj
      rw [List.getElem_take]
      exact hk _ (oldN_lt o l j (by omega) (by omega))
    have hat : ∀ s ∈ l.take (oldN o l), W s.a = false := fun s hs => by
      cases hc : W s.a with
      | false => rfl
      | true => have := hW _ _ (hv s (List.mem_append_right _ (List.mem_of_mem_take hs))) hc; rw [hbt s hs] at this; cases this
    have e1 : lo W l = lo W (l.drop (oldN o l)) := by
      have := lo_app W (l.take (oldN o l)) (l.drop (oldN o l))
      rw [List.take_append_drop] at this
      have h0 : lo W (l.take (oldN o l)) = 0 := by unfold lo; rw [List.countP_eq_zero]; intro s hs; rw [hat s hs]; simp
      omega
    have e2 : hi W l = hi W (l.drop (oldN o l)) := by
      have := hi_app W (l.take (oldN o l)) (l.drop (oldN o l))
      rw [List.take_append_drop] at this
      have h0 : hi W (l.take (oldN o l)) = 0 := by unfold hi; rw [List.countP_eq_zero]; intro s hs; rw [hbt s hs]; simp
      omega
    unfold dropG
    split
    · constructor
      · show lo W (l.drop (oldN o l)) * 2 ^ i + loL W (i + 1) (dropG o r) = lo W l * 2 ^ i + loL W (i + 1) r
        rw [i1, e1]
      · show hi W (l.drop (oldN o l)) * 2 ^ i + hiL W (i + 1) (dropG o r) = hi W l * 2 ^ i + hiL W (i + 1) r
        rw [i2, e2]
    · rename_i c
      have hln := oldN_le o l
      have hd : l.drop (oldN o l) = [] := List.drop_of_length_le (by omega)
      rw [hd] at e1 e2
      by_cases h0 : 0 < oldN o l
      · obtain ⟨z1, z2⟩ := zero r (i + 1) hvr (dropG_old ho hs hv h0)
        constructor
        · show 0 = lo W l * 2 ^ i + loL W (i + 1) r
          rw [e1, z1]; simp [lo]
        · show 0 = hi W l * 2 ^ i + hiL W (i + 1) r
          rw [e2, z2]; simp [hi]
      · exact absurd (List.eq_nil_of_length_eq_zero (by omega)) (hne l (by simp))
end Go.Sk
end

-- A31
section
namespace Go.Sk

def sumW (l : List (Nat × Nat)) : Nat := (l.map Prod.snd).sum
theorem sumW_cons (x : Nat × Nat) (l : List (Nat × Nat)) : sumW (x :: l) = x.2 + sumW l := by unfold sumW; simp
theorem sumW_app (l m : List (Nat × Nat)) : sumW (l ++ m) = sumW l + sumW m := by unfold sumW; rw [List.map_append, List.sum_append]
theorem sumW_perm {l m : List (Nat × Nat)} (h : l.Perm m) : sumW l = sumW m := by unfold sumW; exact (h.map _).sum_nat
theorem units_len (l : List (Nat × Nat)) : (unitsE l).length = sumW l := by
  induction l with
  | nil => rfl
  | cons x r ih => rw [unitsE_cons, List.length_append, List.length_replicate, ih, sumW_cons]
theorem addH_val {h : Hist} (hT : Tidy h.k.toNat h.ls) {t w : Nat} (ht : t ≤ 9223372036854775807) (hw : 1 ≤ w) (hb : ∀ x ∈ flat h.ls, x.b ≤ t) (htot : totN 0 h.ls + w ≤ 4503599627370496) :
    addH h t w = (⟨h.k.toNat, h.g, flowS h.k.toNat 0 h.ls (List.replicate w ⟨t, t⟩)⟩, 0) := by
  have hc : ¬ (9223372036854775807 < t ∨ ((lastV h.ls).2 = true ∧ t < (lastV h.ls).1)) := by
    rintro (c | ⟨c1, c2⟩)
    · omega
    · obtain ⟨x, hx, e⟩ := last_mem c1
      have := hb x hx; omega
  unfold addH addV
  rw [if_neg (by omega), if_neg hc, if_neg (by omega), flowS_eq, List.nil_append]
noncomputable def foldH (h : Hist) (l : List (Nat × Nat)) : Hist := l.foldl (fun h x => (addH h x.1 x.2).1) h
/-- Lumps, in turn. -/
theorem fold_ok : ∀ (l : List (Nat × Nat)) (h : Hist) (s : List Span) (f : Nat), h.Good → h.ls = flowS h.k.toNat 0 [] s → Tidy h.k.toNat h.ls → (∀ x ∈ flat h.ls, x.b ≤ f) → Ord l → (∀ x ∈ l, f ≤ x.1 ∧ x.1 ≤ 9223372036854775807 ∧ 1 ≤ x.2) → totN 0 h.ls + sumW l ≤ 4503599627370496 →
    foldH h l = ⟨h.k, h.g, flowS h.k.toNat 0 [] (s ++ unitsE l)⟩ ∧ (foldH h l).Good ∧ Tidy h.k.toNat (foldH h l).ls ∧ totN 0 (foldH h l).ls = totN 0 h.ls + sumW l ∧ (∀ m, f ≤ m → (∀ y ∈ l, y.1 ≤ m) → ∀ x ∈ flat (foldH h l).ls, x.b ≤ m) ∧
    ∀ W, Mono W → loL W 0 (foldH h l).ls ≤ loL W 0 h.ls + lo W (unitsE l) ∧ hiL W 0 h.ls + hi W (unitsE l) ≤ hiL W 0 (foldH h l).ls := by
  intro l
  induction l with
  | nil =>
    intro h s f hg hs hT hb _ _ _
    refine ⟨?_, hg, hT, rfl, fun m hm _ x hx => Nat.le_trans (hb x hx) hm, fun W _ => ⟨Nat.le_refl _, Nat.le_refl _⟩⟩
    show h = ⟨h.k, h.g, flowS h.k.toNat 0 [] (s ++ [])⟩
    rw [List.append_nil, ← hs]
  | cons x r ih =>
    intro h s f hg hs hT hb ho he ht
    unfold Ord at ho
    rw [List.pairwise_cons] at ho
    obtain ⟨e1, e2, e3⟩ := he x (by simp)
    rw [sumW_cons] at ht
    obtain ⟨a1, a2⟩ := addH_let hT e2 e3 (fun y hy => Nat.le_trans (hb y hy) e1) (by omega)
    have av := addH_val hT e2 e3 (fun y hy => Nat.le_trans (hb y hy) e1) (by omega)
    obtain ⟨b1, b2, b3, b4⟩ := addH_good hg x.1 x.2 a1
    obtain ⟨c1, c2⟩ := addH_tidy hg hT x.1 x.2 a1
    have hk : (addH h x.1 x.2).1.k.toNat = h.k.toNat := by rw [b2]
    have hls : (addH h x.1 x.2).1.ls = flowS h.k.toNat 0 [] (s ++ List.replicate x.2 ⟨x.1, x.1⟩) := by rw [av, hs, flowS_two]
    obtain ⟨i1, i2, i3, i4, i5, i6⟩ := ih (addH h x.1 x.2).1 (s ++ List.replicate x.2 ⟨x.1, x.1⟩) x.1 b1 (by rw [hk]; exact hls) (by rw [hk]; exact c1) a2 ho.2 (fun y hy => ⟨ho.1 y hy, (he y (by simp [hy])).2⟩) (by omega)
    rw [hk, b2, b3] at i1
    rw [hk] at i3
    show foldH (addH h x.1 x.2).1 r = _ ∧ _
    refine ⟨?_, i2, i3, ?_, ?_, ?_⟩
    · rw [i1, unitsE_cons, List.append_assoc]
    · show totN 0 (foldH (addH h x.1 x.2).1 r).ls = _
      rw [i4, sumW_cons]; omega
    · intro m hm hx
      exact i5 m (hx x (by simp)) (fun y hy => hx y (by simp [hy]))
    · intro W hW
      obtain ⟨j1, j2⟩ := i6 W hW
      obtain ⟨k1, k2⟩ := c2 W hW
      rw [unitsE_cons, lo_app, hi_app, lo_rep, hi_rep]
      refine ⟨?_, ?_⟩
      · show loL W 0 (foldH (addH h x.1 x.2).1 r).ls ≤ _
        omega
      · show _ ≤ hiL W 0 (foldH (addH h x.1 x.2).1 r).ls
        omega
/-- Lumps come to nothing: in turn. -/
theorem fold_new {k : Int} (h1 : 2 ≤ k) (h2 : k ≤ 1024) {l : List (Nat × Nat)} (ho : Ord l) (he : ∀ x ∈ l, x.1 ≤ 9223372036854775807 ∧ 1 ≤ x.2) (ht : sumW l ≤ 4503599627370496) :
    foldH ⟨k, 0, []⟩ l = ⟨k, 0, flowS k.toNat 0 [] (unitsE l)⟩ ∧ (foldH ⟨k, 0, []⟩ l).Good ∧ Tidy k.toNat (foldH ⟨k, 0, []⟩ l).ls ∧ totN 0 (foldH ⟨k, 0, []⟩ l).ls = sumW l ∧ (∀ m, (∀ y ∈ l, y.1 ≤ m) → ∀ x ∈ flat (foldH ⟨k, 0, []⟩ l).ls, x.b ≤ m) ∧
    ∀ W, Mono W → loL W 0 (foldH ⟨k, 0, []⟩ l).ls ≤ lo W (unitsE l) ∧ hi W (unitsE l) ≤ hiL W 0 (foldH ⟨k, 0, []⟩ l).ls := by
  obtain ⟨a, b, c, d, e, f⟩ := fold_ok l ⟨k, 0, []⟩ [] 0 ⟨h1, h2, fun l hl => (by cases hl), fun l hl => (by cases hl), Nat.zero_le _⟩ (flowS_nil _ _).symm (empty_tidy _) (fun x hx => by cases hx) ho (fun x hx => ⟨Nat.zero_le _, he x hx⟩) (by show 0 + _ ≤ _; omega)
  refine ⟨a, b, c, by rw [d]; show 0 + _ = _; omega, fun m hm => e m (Nat.zero_le _) hm, fun W hW => ?_⟩
  obtain ⟨j1, j2⟩ := f W hW
  have z1 : loL W 0 (Hist.mk k 0 []).ls = 0 := rfl
  have z2 : hiL W 0 (Hist.mk k 0 []).ls = 0 := rfl
  omega
/-- In whatever turn. -/
theorem fold_same {k : Int} (h1 : 2 ≤ k) (h2 : k ≤ 1024) {l m : List (Nat × Nat)} (hp : l.Perm m) (ho : Ord l) (hm : Ord m) (he : ∀ x ∈ l, x.1 ≤ 9223372036854775807 ∧ 1 ≤ x.2) (ht : sumW l ≤ 4503599627370496) : foldH ⟨k, 0, []⟩ l = foldH ⟨k, 0, []⟩ m := by
  rw [(fold_new h1 h2 ho he ht).1, (fold_new h1 h2 hm (fun x hx => he x (hp.mem_iff.2 hx)) (by rw [← sumW_perm hp]; exact ht)).1, unitsE_same hp ho hm]
end Go.Sk
end

-- A32
section
namespace Go.Sk

def lumpsA : Nat → List (List Span) → List (Nat × Nat)
  | _, [] => []
  | i, l :: r => l.map (fun s => (s.b, 2 ^ i)) ++ lumpsA (i + 1) r
def lumpsD : Nat → List (List Span) → List (Nat × Nat)
  | _, [] => []
  | i, l :: r => lumpsD (i + 1) r ++ l.map (fun s => (s.b, 2 ^ i))
theorem lumps_perm : ∀ (ls : List (List Span)) i, (lumpsD i ls).Perm (lumpsA i ls) := by
  intro ls
  induction ls with
  | nil => intro i; exact List.Perm.refl _
  | cons l r ih => intro i; exact List.perm_append_comm.trans (List.Perm.append_left _ (ih (i + 1)))
theorem sumW_level (l : List Span) (c : Nat) : sumW (l.map (fun s => (s.b, c))) = l.length * c := by
  induction l with
  | nil => simp [sumW]
  | cons x r ih => rw [List.map_cons, sumW_cons, ih, List.length_cons, Nat.add_mul]; dsimp only; omega
theorem lumps_sum : ∀ (ls : List (List Span)) i, sumW (lumpsA i ls) = totN i ls := by
  intro ls
  induction ls with
  | nil => intro i; rfl
  | cons l r ih => intro i; show sumW (_ ++ _) = _; rw [sumW_app, sumW_level, ih]; rfl
theorem unitsE_app (l m : List (Nat × Nat)) : unitsE (l ++ m) = unitsE l ++ unitsE m := by unfold unitsE; rw [List.flatMap_append]
theorem hi_level (W : Nat → Bool) (l : List Span) (c : Nat) : hi W (unitsE (l.map (fun s => (s.b, c)))) = hi W l * c := by
  induction l with
  | nil => simp [unitsE, hi]
  | cons x r ih =>
    rw [List.map_cons, unitsE_cons, hi_app, ih, hi_rep]
    have : hi W (x :: r) = hi W r + if W x.b = true then 1 else 0 := by unfold hi; rw [List.countP_cons]
    rw [this, Nat.add_mul]
    split <;> simp <;> omega
theorem lumps_hi (W : Nat → Bool) : ∀ (ls : List (List Span)) i, hi W (unitsE (lumpsA i ls)) = hiL W i ls := by
  intro ls
  induction ls with
  | nil => intro i; simp [lumpsA, unitsE, hi, hiL]
  | cons l r ih =>
    intro i
    show hi W (unitsE (_ ++ _)) = _
    rw [unitsE_app, hi_app, hi_level, ih]; rfl
theorem lo_units (W : Nat → Bool) (l : List (Nat × Nat)) : lo W (unitsE l) = hi W (unitsE l) := by
  unfold lo hi
  apply List.countP_congr
  intro s hs
  rw [unitsE_one s hs]
theorem lumps_mem : ∀ (ls : List (List Span)) i, ∀ x ∈ lumpsA i ls, (∃ s ∈ flat ls, x.1 = s.b) ∧ 1 ≤ x.2 := by
  intro ls
  induction ls with
  | nil => intro i x h; cases h
  | cons l r ih =>
    intro i x h
    rcases List.mem_append.1 (show x ∈ l.map (fun s => (s.b, 2 ^ i)) ++ lumpsA (i + 1) r from h) with h | h
    · obtain ⟨s, hs, rfl⟩ := List.mem_map.1 h
      exact ⟨⟨s, List.mem_append_right _ hs, rfl⟩, Nat.pow_pos (by decide)⟩
    · obtain ⟨⟨s, hs, e⟩, h2⟩ := ih (i + 1) x h
      exact ⟨⟨s, List.mem_append_left _ hs, e⟩, h2⟩

def evL (evs : List Event) : List (Nat × Nat) := evs.map fun e => (e.t, e.w)
def lumpsP (l : List Hist) : List (Nat × Nat) := l.flatMap fun h => lumpsA 0 h.ls
def lumpsR (l : List Hist) : List (Nat × Nat) := l.flatMap fun h => lumpsD 0 h.ls
theorem lumpsR_perm (l : List Hist) : (lumpsR l).Perm (lumpsP l) := by
  induction l with
  | nil => exact List.Perm.refl _
  | cons h r ih => exact List.Perm.append (lumps_perm h.ls 0) ih
def sumT (l : List Hist) : Nat := (l.map fun h => totN 0 h.ls).sum
theorem sumT_cons (h : Hist) (l : List Hist) : sumT (h :: l) = totN 0 h.ls + sumT l := by unfold sumT; simp
theorem lumpsP_sum (l : List Hist) : sumW (lumpsP l) = sumT l := by
  induction l with
  | nil => rfl
  | cons h r ih =>
    have e : lumpsP (h :: r) = lumpsA 0 h.ls ++ lumpsP r := by unfold lumpsP; rw [List.flatMap_cons]
    rw [e, sumW_app, lumps_sum, sumT_cons, ih]
theorem evL_sum (evs : List Event) : sumW (evL evs) = sumE Event.w evs := by unfold sumW evL sumE; rw [List.map_map]; rfl
def leL (x y : Nat × Nat) : Bool := decide (x.1 ≤ y.1)
def sortL (l : List (Nat × Nat)) : List (Nat × Nat) := l.mergeSort leL
theorem sortL_perm (l : List (Nat × Nat)) : (sortL l).Perm l := List.mergeSort_perm l leL
theorem sortL_ord (l : List (Nat × Nat)) : Ord (sortL l) := by
  have h := List.pairwise_mergeSort (le := leL) (fun a b c h1 h2 => by unfold leL at *; simp only [decide_eq_true_eq] at *; omega) (fun a b => by unfold leL; simp only [Bool.or_eq_true, decide_eq_true_eq]; omega) l
  unfold Ord sortL
  refine h.imp (fun h => ?_)
  unfold leL at h; simpa using h
def maxG (l : List Hist) : Int := l.foldl (fun g h => max g h.g) 0
/-- Some as one. -/
noncomputable def withV (evs : List Event) (l : List Hist) : Hist × Int :=
  if l = [] ∨ evs.any (fun e => e.w == 0) = true then (zeroH, 1)
  else if l.any (fun h => h.k != (l.headD zeroH).k) = true then (zeroH, 9)
  else if 4 ≤ maxG l then (zeroH, 10)
  else if evs.any (fun e => decide (9223372036854775807 < e.t)) = true then (zeroH, 6)
  else if 4503599627370496 < sumT l + sumE Event.w evs then (zeroH, 5)
  else (⟨(l.headD zeroH).k, maxG l + 1, (foldH ⟨(l.headD zeroH).k, 0, []⟩ (sortL (lumpsP l ++ evL evs))).ls⟩, 0)
end Go.Sk
end

-- A33
section
namespace Go.Sk

structure Hist.Fine (h : Hist) : Prop where
  good : h.Good
  tidy : Tidy h.k.toNat h.ls
  far : ∀ x ∈ flat h.ls, x.b ≤ 9223372036854775807
  g0 : 0 ≤ h.g
  most : Most h.k.toNat 0 h.ls
def hiS (W : Nat → Bool) (l : List Hist) : Nat := (l.map fun h => hiL W 0 h.ls).sum
theorem hiS_cons (W : Nat → Bool) (h : Hist) (l : List Hist) : hiS W (h :: l) = hiL W 0 h.ls + hiS W l := by unfold hiS; simp
theorem lumpsP_cons (h : Hist) (r : List Hist) : lumpsP (h :: r) = lumpsA 0 h.ls ++ lumpsP r := by unfold lumpsP; rw [List.flatMap_cons]
theorem lumpsP_hi (W : Nat → Bool) (l : List Hist) : hi W (unitsE (lumpsP l)) = hiS W l := by
  induction l with
  | nil => rfl
  | cons h r ih => rw [lumpsP_cons, unitsE_app, hi_app, lumps_hi, ih, hiS_cons]
theorem evL_hi (W : Nat → Bool) (evs : List Event) : hi W (unitsE (evL evs)) = sumE (wt W) evs := by
  induction evs with
  | nil => rfl
  | cons e r ih =>
    have : evL (e :: r) = (e.t, e.w) :: evL r := rfl
    rw [this, unitsE_cons, hi_app, hi_rep, ih, sumE_cons]; rfl
theorem hi_perm {W : Nat → Bool} {l m : List (Nat × Nat)} (h : l.Perm m) : hi W (unitsE l) = hi W (unitsE m) := by
  unfold hi; exact (unitsE_perm h).countP_eq _
theorem lumpsP_mem {l : List Hist} : ∀ x ∈ lumpsP l, (∃ h ∈ l, ∃ s ∈ flat h.ls, x.1 = s.b) ∧ 1 ≤ x.2 := by
  intro x hx
  obtain ⟨h, hh, hx⟩ := List.mem_flatMap.1 hx
  obtain ⟨⟨s, hs, e⟩, h2⟩ := lumps_mem _ _ x hx
  exact ⟨⟨h, hh, s, hs, e⟩, h2⟩
/-- What lumps come to. -/
structure Came (l : List Hist) (evs : List Event) : Prop where
  ne : l ≠ []
  k : ∀ h ∈ l, h.k = (l.headD zeroH).k
  fine : ∀ h ∈ l, h.Fine
  g : maxG l < 4
  w : ∀ e ∈ evs, 1 ≤ e.w ∧ e.t ≤ 9223372036854775807
  tot : sumT l + sumE Event.w evs ≤ 4503599627370496
theorem maxG_ge (l : List Hist) : 0 ≤ maxG l ∧ ∀ h ∈ l, h.g ≤ maxG l := by
  have key : ∀ (l : List Hist) (g : Int), g ≤ l.foldl (fun g h => max g h.g) g ∧ ∀ h ∈ l, h.g ≤ l.foldl (fun g h => max g h.g) g := by
    intro l
    induction l with
    | nil => intro g; exact ⟨Int.le_refl _, fun h hh => by cases hh⟩
    | cons x r ih =>
      intro g
      obtain ⟨i1, i2⟩ := ih (max g x.g)
      refine ⟨by simp only [List.foldl_cons]; omega, fun h hh => ?_⟩
      rcases List.mem_cons.1 hh with rfl | hh
      · simp only [List.foldl_cons]; omega
      · exact i2 h hh
  exact key l 0
theorem with_val {l : List Hist} {evs : List Event} (c : Came l evs) : withV evs l = (⟨(l.headD zeroH).k, maxG l + 1, (foldH ⟨(l.headD zeroH).k, 0, []⟩ (sortL (lumpsP l ++ evL evs))).ls⟩, 0) := by
  unfold withV
  have h1 : ¬ (l = [] ∨ evs.any (fun e => e.w == 0) = true) := by
    rintro (h | h)
    · exact c.ne h
    · obtain ⟨e, he, h⟩ := List.any_eq_true.1 h
      have := (c.w e he).1
      simp at h; omega
  have h2 : ¬ l.any (fun h => h.k != (l.headD zeroH).k) = true := by
    intro h
    obtain ⟨x, hx, h⟩ := List.any_eq_true.1 h
    have := c.k x hx
    simp [this] at h
  have h3 := c.g
  have h4 : ¬ evs.any (fun e => decide (9223372036854775807 < e.t)) = true := by
    intro h
    obtain ⟨e, he, h⟩ := List.any_eq_true.1 h
    have := (c.w e he).2
    simp at h; omega
  have h5 := c.tot
  rw [if_neg h1, if_neg h2, if_neg (by omega), if_neg h4, if_neg (by omega)]
theorem head_mem {l : List Hist} (h : l ≠ []) : l.headD zeroH ∈ l := by
  cases l with
  | nil => exact absurd rfl h
  | cons x r => simp
/-- All lumps. -/
theorem came_lumps {l : List Hist} {evs : List Event} (c : Came l evs) : (∀ x ∈ lumpsP l ++ evL evs, x.1 ≤ 9223372036854775807 ∧ 1 ≤ x.2) ∧ sumW (lumpsP l ++ evL evs) = sumT l + sumE Event.w evs := by
  refine ⟨fun x hx => ?_, by rw [sumW_app, lumpsP_sum, evL_sum]⟩
  rcases List.mem_append.1 hx with hx | hx
  · obtain ⟨⟨h, hh, s, hs, e⟩, h2⟩ := lumpsP_mem x hx
    exact ⟨by rw [e]; exact (c.fine h hh).far s hs, h2⟩
  · obtain ⟨e, he, rfl⟩ := List.mem_map.1 hx
    have := c.w e he
    exact ⟨this.2, this.1⟩
theorem with_ok {l : List Hist} {evs : List Event} (c : Came l evs) : (withV evs l).2 = 0 ∧ (withV evs l).1.Fine ∧ (withV evs l).1.k = (l.headD zeroH).k ∧ (withV evs l).1.g = maxG l + 1 ∧ totN 0 (withV evs l).1.ls = sumT l + sumE Event.w evs ∧
    (withV evs l).1.ls = flowS (l.headD zeroH).k.toNat 0 [] (unitsE (sortL (lumpsP l ++ evL evs))) ∧
    ∀ W, Mono W → loL W 0 (withV evs l).1.ls ≤ hiS W l + sumE (wt W) evs ∧ hiS W l + sumE (wt W) evs ≤ hiL W 0 (withV evs l).1.ls := by
  have hf := (c.fine _ (head_mem c.ne)).good
  obtain ⟨hl, hs⟩ := came_lumps c
  have hp := sortL_perm (lumpsP l ++ evL evs)
  obtain ⟨a1, a2, a3, a4, a5, a6⟩ := fold_new hf.k0 hf.k1 (sortL_ord (lumpsP l ++ evL evs)) (fun x hx => hl x (hp.mem_iff.1 hx)) (by rw [sumW_perm hp, hs]; exact c.tot)
  rw [with_val c]
  have e : (foldH ⟨(l.headD zeroH).k, 0, []⟩ (sortL (lumpsP l ++ evL evs))).ls = flowS (l.headD zeroH).k.toNat 0 [] (unitsE (sortL (lumpsP l ++ evL evs))) := by rw [a1]
  refine ⟨rfl, ⟨⟨hf.k0, hf.k1, a2.ne, fun x hx => ?_, a2.tot⟩, a3, fun x hx => a5 _ (fun y hy => (hl y (hp.mem_iff.1 hy)).1) x hx, ?_, by show Most (l.headD zeroH).k.toNat 0 _; rw [e]; exact flowS_most _ _ _ _⟩, rfl, rfl, ?_, e, fun W hW => ?_⟩
  · have := a2.sm x hx
    rw [a1] at this; exact this
  · have := (maxG_ge l).1; show 0 ≤ maxG l + 1; omega
  · show totN 0 (foldH _ _).ls = _
    rw [a4, sumW_perm hp, hs]
  · obtain ⟨b1, b2⟩ := a6 W hW
    rw [lo_units] at b1
    rw [hi_perm hp, unitsE_app, hi_app, lumpsP_hi, evL_hi] at b1 b2
    exact ⟨b1, b2⟩
/-- In whatever turn. -/
theorem with_turn {l m : List Hist} {evs : List Event} (c : Came l evs) (hp : l.Perm m) : withV evs m = withV evs l := by
  have hk : ∀ h ∈ m, h.k = (l.headD zeroH).k := fun h hh => c.k h (hp.mem_iff.2 hh)
  have hmne : m ≠ [] := fun e => c.ne (by rw [e] at hp; exact hp.eq_nil)
  have hmk : (m.headD zeroH).k = (l.headD zeroH).k := hk _ (head_mem hmne)
  have hg : maxG m = maxG l := by
    have h1 := maxG_ge l
    have h2 := maxG_ge m
    have key : ∀ (l : List Hist), maxG l = 0 ∨ ∃ h ∈ l, maxG l = h.g := by
      intro l
      have : ∀ (l : List Hist) (g : Int), l.foldl (fun g h => max g h.g) g = g ∨ ∃ h ∈ l, l.foldl (fun g h => max g h.g) g = h.g := by
        intro l
        induction l with
        | nil => intro g; exact Or.inl rfl
        | cons x r ih =>
          intro g
          rcases ih (max g x.g) with h | ⟨h, hh, e⟩
          · by_cases c : g ≤ x.g
            · exact Or.inr ⟨x, by simp, by simp only [List.foldl_cons]; omega⟩
            · exact Or.inl (by simp only [List.foldl_cons]; omega)
          · exact Or.inr ⟨h, by simp [hh], e⟩
      exact this l 0
    have a : maxG m ≤ maxG l := by
      rcases key m with h | ⟨h, hh, e⟩
      · omega
      · rw [e]; exact h1.2 h (hp.mem_iff.2 hh)
    have b : maxG l ≤ maxG m := by
      rcases key l with h | ⟨h, hh, e⟩
      · omega
      · rw [e]; exact h2.2 h (hp.mem_iff.1 hh)
    omega
  have ht : sumT m = sumT l := by unfold sumT; exact (hp.symm.map _).sum_nat
  have c' : Came m evs := ⟨hmne, fun h hh => by rw [hmk]; exact hk h hh, fun h hh => c.fine h (hp.mem_iff.2 hh), by rw [hg]; exact c.g, c.w, by rw [ht]; exact c.tot⟩
  rw [with_val c, with_val c', hmk, hg]
  have hf := (c.fine _ (head_mem c.ne)).good
  obtain ⟨hl, hs⟩ := came_lumps c
  have hlp : (lumpsP m ++ evL evs).Perm (lumpsP l ++ evL evs) := List.Perm.append_right _ (List.Perm.flatMap_right _ hp.symm)
  have p1 := sortL_perm (lumpsP l ++ evL evs)
  have p2 := sortL_perm (lumpsP m ++ evL evs)
  rw [fold_same hf.k0 hf.k1 (p2.trans (hlp.trans p1.symm)) (sortL_ord _) (sortL_ord _) (fun x hx => hl x (hlp.mem_iff.1 (p2.mem_iff.1 hx))) (by rw [sumW_perm p2, sumW_perm hlp, hs]; exact c.tot)]
end Go.Sk
end
