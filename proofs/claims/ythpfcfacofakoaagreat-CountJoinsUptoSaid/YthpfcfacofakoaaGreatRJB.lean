/- Texts A12 W5r W6d W5p W6a W6b W6h W6c A7h A20 A14 A30 A31, joined. -/
import Derived.Test.YthpfcfacofakoaaGreatRJA
import Derived.Test.YthpfcfacofakoaaGreatSkRg
set_option linter.unusedSimpArgs false
set_option linter.unusedVariables false
set_option linter.unusedSectionVars false
-- A12
section
namespace Go.Sk

structure Buf where (late : Nat) (room : Int) (mark : Nat) (front : Nat) (evs : List Event)
  deriving DecidableEq
def zeroB : Buf := ⟨0, 0, 0, 0, []⟩
/-- How many, at the head, are of ticks up to one. -/
def belowN (f : Nat) : List Event → Nat
  | [] => 0
  | e :: l => if e.t ≤ f then belowN f l + 1 else 0
theorem belowN_cons (f : Nat) (e : Event) (l : List Event) : belowN f (e :: l) = if e.t ≤ f then belowN f l + 1 else 0 := rfl
theorem belowN_le (f : Nat) (l : List Event) : belowN f l ≤ l.length := by
  induction l with
  | nil => exact Nat.le_refl _
  | cons e l ih => rw [belowN_cons]; split <;> simp <;> omega
theorem belowN_lt (f : Nat) : ∀ (l : List Event) (i : Nat) (h : i < l.length), i < belowN f l → (l[i]).t ≤ f := by
  intro l
  induction l with
  | nil => intro i h; simp at h
  | cons e l ih =>
    intro i h hi
    rw [belowN_cons] at hi
    split at hi
    · rename_i c
      cases i with
      | zero => exact c
      | succ i => exact ih i (by simpa using h) (by omega)
    · omega
theorem belowN_at (f : Nat) : ∀ (l : List Event) (h : belowN f l < l.length), f < (l[belowN f l]).t := by
  intro l
  induction l with
  | nil => intro h; simp at h
  | cons e l ih =>
    intro h
    by_cases c : e.t ≤ f
    · have e1 : belowN f (e :: l) = belowN f l + 1 := by rw [belowN_cons, if_pos c]
      have h2 : belowN f l < l.length := by rw [e1] at h; simpa using h
      simp only [e1, List.getElem_cons_succ]
      exact ih h2
    · have e1 : belowN f (e :: l) = 0 := by rw [belowN_cons, if_neg c]
      simp only [e1, List.getElem_cons_zero]; omega
/-- One by one: i of them are. -/
theorem belowN_step (f : Nat) (l : List Event) (i : Nat) (h : i < l.length) (hi : i ≤ belowN f l) : ((l[i]).t ≤ f → i + 1 ≤ belowN f l) ∧ (f < (l[i]).t → i = belowN f l) := by
  refine ⟨fun hb => ?_, fun hb => ?_⟩
  · apply Classical.byContradiction
    intro hc
    obtain rfl : i = belowN f l := by omega
    have := belowN_at f l h; omega
  · apply Classical.byContradiction
    intro hc
    have := belowN_lt f l i h (by omega); omega
theorem belowN_ge (f : Nat) : ∀ (l : List Event) (n : Nat), n ≤ l.length → (∀ i (h : i < l.length), i < n → (l[i]).t ≤ f) → n ≤ belowN f l := by
  intro l n hn h
  apply Classical.byContradiction
  intro hc
  have hlt : belowN f l < l.length := by omega
  have h1 := belowN_at f l hlt
  have h2 := h _ hlt (by omega)
  omega
theorem belowN_more (f : Nat) (l : List Event) (h : belowN f l < l.length) : belowN f l < belowN (l[belowN f l]).t l := by
  refine belowN_ge _ _ _ (by omega) fun i hi hlt => ?_
  by_cases c : i < belowN f l
  · have h1 := belowN_lt f l i hi c
    have h2 := belowN_at f l h
    omega
  · have : i = belowN f l := by omega
    subst this
    exact Nat.le_refl _
/-- The front, and how many go out. -/
def settleN (room : Nat) (l : List Event) (f : Nat) : Nat × Nat :=
  if h : room < l.length - belowN f l then settleN room l (l[belowN f l]'(by omega)).t else (f, belowN f l)
termination_by l.length - belowN f l
decreasing_by
  have := belowN_more f l (by omega)
  omega
theorem settleN_go {room : Nat} {l : List Event} {f : Nat} (h : room < l.length - belowN f l) : settleN room l f = settleN room l (l[belowN f l]'(by omega)).t := by
  rw [settleN, dif_pos h]
theorem settleN_end {room : Nat} {l : List Event} {f : Nat} (h : ¬ room < l.length - belowN f l) : settleN room l f = (f, belowN f l) := by
  rw [settleN, dif_neg h]
theorem settle_ind (room : Nat) (l : List Event) (p : Nat → Nat × Nat → Prop) (h0 : ∀ f, ¬ room < l.length - belowN f l → p f (f, belowN f l))
    (h1 : ∀ f r, (h : room < l.length - belowN f l) → p (l[belowN f l]'(by omega)).t r → p f r) : ∀ f, p f (settleN room l f) := by
  have key : ∀ n f, l.length - belowN f l ≤ n → p f (settleN room l f) := by
    intro n
    induction n with
    | zero => intro f hn; rw [settleN_end (by omega)]; exact h0 f (by omega)
    | succ n ih =>
      intro f hn
      by_cases c : room < l.length - belowN f l
      · rw [settleN_go c]
        have := belowN_more f l (by omega)
        exact h1 f _ c (ih _ (by omega))
      · rw [settleN_end c]; exact h0 f c
  exact fun f => key _ f (Nat.le_refl _)
theorem settle_facts (room : Nat) (l : List Event) : ∀ f, f ≤ (settleN room l f).1 ∧ (settleN room l f).2 = belowN (settleN room l f).1 l ∧ l.length - (settleN room l f).2 ≤ room ∧ (∀ m, f ≤ m → (∀ e ∈ l, e.t ≤ m) → (settleN room l f).1 ≤ m) := by
  refine settle_ind room l (fun f r => f ≤ r.1 ∧ r.2 = belowN r.1 l ∧ l.length - r.2 ≤ room ∧ (∀ m, f ≤ m → (∀ e ∈ l, e.t ≤ m) → r.1 ≤ m)) ?_ ?_
  · intro f h; exact ⟨Nat.le_refl _, rfl, by dsimp only; omega, fun m hm _ => hm⟩
  · intro f r h ⟨i1, i2, i3, i4⟩
    have := belowN_at f l (by omega)
    exact ⟨by omega, i2, i3, fun m hm hl => i4 m (hl _ (List.getElem_mem _)) hl⟩

/-- A buffer settled, and what goes out. -/
def settleB (b : Buf) : Buf × List Event :=
  (⟨b.late, b.room, b.mark, (settleN b.room.toNat b.evs (max b.front (b.mark - b.late))).1, b.evs.drop (settleN b.room.toNat b.evs (max b.front (b.mark - b.late))).2⟩, b.evs.take (settleN b.room.toNat b.evs (max b.front (b.mark - b.late))).2)
def insE (l : List Event) (e : Event) : List Event := l.take (belowN e.t l) ++ [e] ++ l.drop (belowN e.t l)
/-- An event comes. -/
def pushB (b : Buf) (e : Event) : (Buf × List Event) × Int :=
  if e.w = 0 then ((zeroB, []), 1) else if 9223372036854775807 < e.t then ((zeroB, []), 6) else if e.t < b.front then ((zeroB, []), 4)
  else (settleB ⟨b.late, b.room, max b.mark e.t, b.front, insE b.evs e⟩, 0)
/-- Time goes on. -/
def moveB (b : Buf) (t : Nat) : (Buf × List Event) × Int :=
  if 9223372036854775807 < t then ((zeroB, []), 6) else (settleB ⟨b.late, b.room, max b.mark t, b.front, b.evs⟩, 0)

/-! By the document. -/
def splO (f : Nat) (l : List Event) : List Event := l.filter (fun e => decide (e.t ≤ f))
def splS (f : Nat) (l : List Event) : List Event := l.filter (fun e => !decide (e.t ≤ f))
theorem splS_head (e : Event) (l : List Event) : (splS e.t (e :: l)).length < (e :: l).length := by
  unfold splS
  rw [List.filter_cons_of_neg (by simp)]
  have := List.length_filter_le (fun x => !decide (x.t ≤ e.t)) l
  simp only [List.length_cons]; omega
def docS (room f : Nat) (out stay : List Event) : Nat × List Event × List Event :=
  match stay with
  | [] => (f, out, [])
  | e :: l => if room < (e :: l).length then docS room e.t (out ++ splO e.t (e :: l)) (splS e.t (e :: l)) else (f, out, e :: l)
termination_by stay.length
decreasing_by exact splS_head e l
def Srt (l : List Event) : Prop := l.Pairwise (fun x y => x.t ≤ y.t)
theorem spl_eq (f : Nat) : ∀ l, Srt l → splO f l = l.take (belowN f l) ∧ splS f l = l.drop (belowN f l) := by
  intro l
  induction l with
  | nil => intro _; exact ⟨rfl, rfl⟩
  | cons e l ih =>
    intro h
    unfold Srt at h
    rw [List.pairwise_cons] at h
    obtain ⟨i1, i2⟩ := ih h.2
    unfold splO splS at *
    rw [belowN_cons]
    by_cases c : e.t ≤ f
    · rw [if_pos c, List.take_succ_cons, List.drop_succ_cons, List.filter_cons_of_pos (by simpa using c), List.filter_cons_of_neg (by simp; exact c), i1, i2]
      exact ⟨rfl, rfl⟩
    · rw [if_neg c, List.take_zero, List.drop_zero]
      have hall : ∀ x ∈ e :: l, ¬ x.t ≤ f := by
        intro x hx
        rcases List.mem_cons.1 hx with rfl | hx
        · exact c
        · have := h.1 x hx; omega
      refine ⟨List.filter_eq_nil_iff.2 fun x hx => by simpa using hall x hx, List.filter_eq_self.2 fun x hx => by simpa using hall x hx⟩
theorem Srt.drop {l : List Event} (h : Srt l) (n : Nat) : Srt (l.drop n) := List.Pairwise.sublist (List.drop_sublist n l) h
theorem Srt.take {l : List Event} (h : Srt l) (n : Nat) : Srt (l.take n) := List.Pairwise.sublist (List.take_sublist n l) h
theorem belowN_drop (f : Nat) : ∀ (l : List Event) (n : Nat), n ≤ belowN f l → belowN f (l.drop n) = belowN f l - n := by
  intro l
  induction l with
  | nil => intro n h; simp [belowN] at h ⊢
  | cons e l ih =>
    intro n h
    cases n with
    | zero => rfl
    | succ n =>
      rw [belowN_cons] at h ⊢
      split at h
      · rename_i c; rw [List.drop_succ_cons, ih n (by omega), if_pos c]; omega
      · omega
theorem docS_eq (room : Nat) (l : List Event) (hs : Srt l) : ∀ f, docS room f (l.take (belowN f l)) (l.drop (belowN f l)) = ((settleN room l f).1, l.take (settleN room l f).2, l.drop (settleN room l f).2) := by
  refine settle_ind room l (fun f r => docS room f (l.take (belowN f l)) (l.drop (belowN f l)) = (r.1, l.take r.2, l.drop r.2)) ?_ ?_
  · intro f h
    have hl : ¬ room < (l.drop (belowN f l)).length := by rw [List.length_drop]; exact h
    cases hd : l.drop (belowN f l) with
    | nil => rw [docS]
    | cons e r => rw [docS]; rw [hd] at hl; rw [if_neg hl]
  · intro f r h ih
    have hlt : belowN f l < l.length := by omega
    have hm := belowN_more f l hlt
    rw [List.drop_eq_getElem_cons hlt, docS]
    rw [if_pos (by simp only [List.length_cons, List.length_drop]; omega), ← List.drop_eq_getElem_cons hlt]
    obtain ⟨s1, s2⟩ := spl_eq (l[belowN f l]).t _ (hs.drop (belowN f l))
    rw [s1, s2, belowN_drop _ _ _ (by omega), List.drop_drop, ← List.take_add, show belowN f l + (belowN (l[belowN f l]).t l - belowN f l) = belowN (l[belowN f l]).t l by omega]
    exact ih
end Go.Sk
end

-- W5r
section
namespace Go.Sk
open Go Go.Proofs

set_option maxHeartbeats 1000000 in
set_option maxRecDepth 8000 in
theorem ref05_Push (l : List Span) (most : Nat) (add : List Span) (many tick : Nat) (hm1 : 1 ≤ most) (hm2 : most < 1099511627776) (hl : l.length < 1099511627776) (ha : add.length < 1099511627776) (hmany : many < 4611686018427387904) :
    Pure Tryz.prog 155 [.p (lvP l), i64 most, .p (lvP add), u64 many, u64 tick]
      (.tuple [.p (lvP (stayV l most add many tick)), .p (lvP (outsV l most add many tick)), u64 (leftV l most add many)]) := fun S => by
  refine callR_of Tryz.func155 rfl rfl (xc_ok (bitB 5106502809662176120174279711) _ _ _ ?_)
  have hb1 : ¬ (1 : Int) > most := by omega
  simp only [go_sem, lvP, hb1, if_false]
  refine ⟨span_len, by omega, by omega, tip_intro fun k0 loc0 hk0 => ?_⟩
  simp only [go_sem]
  refine ⟨span_len, span_len, by omega, by omega, grow_intro fun loc1 => ?_⟩
  simp only [go_sem]
  obtain ⟨all, hall⟩ : ∃ all, l ++ add = all := ⟨_, rfl⟩
  have hmapall : List.map Span.pv l ++ List.map Span.pv add = List.map Span.pv all := by rw [← hall, List.map_append]
  obtain ⟨n, hnn⟩ : ∃ n, l.length + add.length = n := ⟨_, rfl⟩
  have hlen : all.length = n := by rw [← hall, List.length_append, hnn]
  have e1 : m64 n = n := m64_id (by omega)
  have e2 : m64 (n + many) = n + many := m64_id (by omega)
  have e3 : m64 most = most := m64_id (by omega)
  simp only [hmapall, hnn, hlen]
  obtain ⟨p, hp⟩ : ∃ p, pairsN (n + many) most = p := ⟨_, rfl⟩
  have hp0 := hp
  unfold pairsN at hp0
  obtain ⟨q, hq⟩ : ∃ q, outsN n most many = q := ⟨_, rfl⟩
  have hq0 : min p ((n + 1) / 2) = q := by rw [← hq]; unfold outsN; rw [hp]
  have hst : stayV l most add many tick = (lineV l add many tick).drop (2 * p) := by unfold stayV; rw [hnn, hp]
  have hout : outsV l most add many tick = (pairUp (lineV l add many tick)).take q := by unfold outsV; rw [hnn, hq]
  have hleft : leftV l most add many = p - q := by unfold leftV; rw [hnn, hp, hq]
  rw [hst, hout, hleft]
  simp only [go_sem, hlen, e1, e2, e3]
  by_cases hc : most < n + many
  rotate_left
  have hp1 : p = 0 := by omega
  simp only [go_sem, hc]
  rotate_left
  have hp1 : True := trivial
  have e4 : sub64 (n + many) most = n + many - most := by rw [sub64_eq]; omega
  have e5 : m64 (n + many - most + 1) = n + many - most + 1 := m64_id (by omega)
  have e6 : m64 ((n + many - most + 1) / 2) = p := by rw [hp0]; exact m64_id (by omega)
  simp only [go_sem, hc, e3, e4, e5, e6]
  all_goals
    refine AWP.data 13 ?_
    refine AWP.tip0 17 2 (by simp only [go_sem]) fun k hk => ?_
    simp only [freshv_set, freshv_setr] at hk
    simp only [go_sem]
    refine AWP.iterE (ι := Option Nat) (fun loc j => ⟨Env.get [(4, u64 tick), (13, .p (.sl (all.map Span.pv))), (14, u64 n), (15, u64 p), (16, u64 (n + many)), (17, .ts k 2 loc (((pairUp (lineV l add many tick)).take j).map Span.pv)), (18, u64 j)],
      S.set (.v k) (.tip 2 ((pairUp (lineV l add many tick)).take j).length loc), 111, []⟩) q none ?_ ?_ ?_
    · refine le_of (by simp only [go_sem, List.take_zero, List.map_nil] <;> first | rfl | rw [hp1]) ?_ rfl rfl (by simp)
      ((try dsimp only); (repeat refine sub_set ?_ ?_) <;> first | ((repeat (first | exact Sub.refl _ | refine Sub.setF ?_ (by first | assumption | simp only [*]) | refine Sub.setV ?_ (by first | assumption | simp only [*]))); done) | (simp only [go_sem, hk, List.take_zero, List.map_nil, List.length_nil]; done) | (simp only [go_sem, hk, List.take_zero, List.map_nil, List.length_nil]; rfl) | rfl)
    · intro j loc hj ih
      obtain ⟨h1, h2, h3, h4, h5⟩ := two_next hlen hm1 (by rw [hq]; exact hj)
      have e7 : m64 (2 * j) = 2 * j := m64_id (by omega)
      have e8 : m64 (2 * j + 1) = 2 * j + 1 := m64_id (by omega)
      have e9 : m64 (j + 1) = j + 1 := m64_id (by omega)
      have hjp : j < p := by omega
      have hjl : 2 * j < all.length := by omega
      have hle : (List.take j (pairUp (lineV l add many tick))).length ≤ j := by rw [List.length_take]; exact Nat.min_le_left _ _
      have hsn := outs_snoc l add many tick most j hm1 (by rw [hnn, hq]; exact hj)
      simp only [hall, hnn] at hsn
      refine AWPH.step (xc_ok (bitB 5106502809662176120174279711) _ _ _ ?_)
      simp only [go_sem, hk, e7, hjp, h1, hjl, ltN' hjl, getD_map' _ _ _ _ hjl, e8]
      by_cases hd : 2 * j + 1 < n
      · have hjl2 : 2 * j + 1 < all.length := by omega
        rw [dif_pos hd] at hsn
        simp only [go_sem, hk, e7, e8, e9, hd, hjl2, ltN' hjl2, getD_map' _ _ _ _ hjl2]
        have e5' : List.map Span.pv ((pairUp (lineV l add many tick)).take j) ++ [[.int .u64 (all[2 * j]).a, .int .u64 (all[2 * j + 1]).b]] = List.map Span.pv ((pairUp (lineV l add many tick)).take (j + 1)) := by
          rw [hsn, List.map_append]; rfl
        refine ⟨by rintro el rfl; rfl, span_len, by omega, by omega, grow_intro fun loc' => ?_⟩
        simp only [go_sem, hk, e9]
        refine (ih loc').back ?_ (by simp) ?_
        · ((try dsimp only); (repeat refine sub_set ?_ ?_) <;> first | ((repeat (first | exact Sub.refl _ | refine Sub.setF ?_ (by first | assumption | simp only [*]) | refine Sub.setV ?_ (by first | assumption | simp only [*]))); done) | (simp only [go_sem, hk, e5', List.length_map]; done) | (simp only [go_sem, hk, e5', List.length_map]; rfl) | rfl)
        · simp only [go_sem, e5', e9]
      · rw [dif_neg hd] at hsn
        simp only [go_sem, hk, e7, e8, e9, hd]
        have e5' : List.map Span.pv ((pairUp (lineV l add many tick)).take j) ++ [[.int .u64 (all[2 * j]).a, .int .u64 tick]] = List.map Span.pv ((pairUp (lineV l add many tick)).take (j + 1)) := by
          rw [hsn, List.map_append]; rfl
        refine ⟨by rintro el rfl; rfl, span_len, by omega, by omega, grow_intro fun loc' => ?_⟩
        simp only [go_sem, hk, e9]
        refine (ih loc').back ?_ (by simp) ?_
        · ((try dsimp only); (repeat refine sub_set ?_ ?_) <;> first | ((repeat (first | exact Sub.refl _ | refine Sub.setF ?_ (by first | assumption | simp only [*]) | refine Sub.setV ?_ (by first | assumption | simp only [*]))); done) | (simp only [go_sem, hk, e5', List.length_map]; done) | (simp only [go_sem, hk, e5', List.length_map]; rfl) | rfl)
        · simp only [go_sem, e5', e9]
    · intro loc
      refine AWPH.step (xc_ok (bitB 5106502809662176120174279711) _ _ _ ?_)
      have e7 : m64 (2 * q) = 2 * q := m64_id (by omega)
      have e8 : m64 (2 * p) = 2 * p := m64_id (by omega)
      have hex : ¬ q < p ∨ ¬ 2 * q < n := by omega
      obtain ⟨lin, hlin⟩ : ∃ lin, lineV l add many tick = lin := ⟨_, rfl⟩
      have hll : lin.length = n + many := by rw [← hlin, lineV_length, hnn]
      obtain ⟨outs, houts⟩ : ∃ outs, (pairUp lin).take q = outs := ⟨_, rfl⟩
      simp only [hlin, houts]
      by_cases hqp : q < p
      rotate_left
      simp only [go_sem, hk, hqp, e7, e8]
      rotate_left
      have hqn : ¬ 2 * q < n := by omega
      simp only [go_sem, hk, hqp, hqn, e7, e8]
      all_goals
        refine AWP.tip0 21 2 (by simp only [go_sem]) fun k3 hk3 => ?_
        simp only [freshv_set, freshv_setr] at hk3
        simp only [go_sem]
        refine AWP.iterE (ι := Option Nat) (fun loc3 i => ⟨Env.get [(4, u64 tick), (13, .p (.sl (all.map Span.pv))), (14, u64 n), (15, u64 p), (16, u64 (n + many)), (17, .ts k 2 loc (outs.map Span.pv)), (18, u64 q), (21, .ts k3 2 loc3 (((lin.drop (2 * p)).take i).map Span.pv)), (22, u64 (2 * p + i))],
          (S.set (.v k) (.tip 2 outs.length loc)).set (.v k3) (.tip 2 ((lin.drop (2 * p)).take i).length loc3), 111, []⟩) (n + many - 2 * p) none ?_ ?_ ?_
        · refine le_of (by simp only [go_sem, List.take_zero, List.map_nil, Nat.add_zero]) ?_ rfl rfl (by simp)
          ((try dsimp only); (repeat refine sub_set ?_ ?_) <;> first | ((repeat (first | exact Sub.refl _ | refine Sub.setF ?_ (by first | assumption | simp only [*]) | refine Sub.setV ?_ (by first | assumption | simp only [*]))); done) | (simp only [go_sem, hk, hk3, List.take_zero, List.map_nil, List.length_nil]; done) | (simp only [go_sem, hk, hk3, List.take_zero, List.map_nil, List.length_nil]; rfl) | rfl)
        · intro i loc3 hi ih
          have hi2 : i < (lin.drop (2 * p)).length := by rw [List.length_drop]; omega
          have f1 : 2 * p + i < n + many := by omega
          have f2 : m64 (2 * p + i + 1) = 2 * p + (i + 1) := by rw [m64_id (by omega)]; omega
          have hle : (List.take i (lin.drop (2 * p))).length ≤ i := by rw [List.length_take]; exact Nat.min_le_left _ _
          have hsize : i ≤ most + 1 := by omega
          have e5' : ∀ s : Span, (lin.drop (2 * p))[i] = s → List.map Span.pv ((lin.drop (2 * p)).take i) ++ [[.int .u64 s.a, .int .u64 s.b]] = List.map Span.pv ((lin.drop (2 * p)).take (i + 1)) := by
            intro s hs
            rw [List.take_succ_eq_append_getElem hi2, List.map_append, hs]; rfl
          refine AWPH.step (xc_ok (bitB 5106502809662176120174279711) _ _ _ ?_)
          simp only [go_sem, hk, hk3, f1]
          by_cases hd : 2 * p + i < n
          · have hjl2 : 2 * p + i < all.length := by omega
            have g := e5' (all[2 * p + i]) (by rw [List.getElem_drop]; simp only [← hlin]; rw [lineV_lt (by omega)]; simp only [hall])
            simp only [go_sem, hk, hk3, hd, hjl2, ltN' hjl2, getD_map' _ _ _ _ hjl2]
            refine ⟨by rintro el rfl; rfl, span_len, by omega, by omega, grow_intro fun loc' => ?_⟩
            simp only [go_sem, hk, hk3, f2]
            refine (ih loc').back ?_ (by simp) ?_
            · ((try dsimp only); (repeat refine sub_set ?_ ?_) <;> first | ((repeat (first | exact Sub.refl _ | refine Sub.setF ?_ (by first | assumption | simp only [*]) | refine Sub.setV ?_ (by first | assumption | simp only [*]))); done) | (simp only [go_sem, hk, hk3, g, List.length_map]; done) | (simp only [go_sem, hk, hk3, g, List.length_map]; rfl) | rfl)
            · simp only [go_sem, g, f2]
          · have g := e5' ⟨tick, tick⟩ (by rw [List.getElem_drop]; simp only [← hlin]; rw [lineV_ge (by omega)])
            simp only [go_sem, hk, hk3, hd]
            refine ⟨by rintro el rfl; rfl, span_len, by omega, by omega, grow_intro fun loc' => ?_⟩
            simp only [go_sem, hk, hk3, f2]
            refine (ih loc').back ?_ (by simp) ?_
            · ((try dsimp only); (repeat refine sub_set ?_ ?_) <;> first | ((repeat (first | exact Sub.refl _ | refine Sub.setF ?_ (by first | assumption | simp only [*]) | refine Sub.setV ?_ (by first | assumption | simp only [*]))); done) | (simp only [go_sem, hk, hk3, g, List.length_map]; done) | (simp only [go_sem, hk, hk3, g, List.length_map]; rfl) | rfl)
            · simp only [go_sem, g, f2]
        · intro loc3
          have f1 : ¬ 2 * p + (n + many - 2 * p) < n + many := by omega
          have f3 : sub64 p q = p - q := by rw [sub64_eq]; omega
          refine AWPH.step (xc_ok (bitB 5106502809662176120174279711) _ _ _ ?_)
          simp only [go_sem, hk, hk3, f1, f3, List.take_of_length_le (show (lin.drop (2 * p)).length ≤ n + many - 2 * p by rw [List.length_drop]; omega)]
          (refine ⟨S, by (repeat (first | exact Sub.refl _ | refine Sub.setF ?_ (by first | assumption | simp only [*]) | refine Sub.setV ?_ (by first | assumption | simp only [*]))), ?_⟩); simp
end Go.Sk
end

-- W6d
section
namespace Go.Sk
open Go Go.Proofs

set_option maxHeartbeats 1000000 in
set_option maxRecDepth 8000 in
theorem ref06_Add (k : Nat) (g : Int) (ls : List (List Span)) (tick w : Nat) (hk : k < 1073741824) (hw : w < 18446744073709551616) (hls : ls.length < 1073741824) (hl : ∀ l ∈ ls, l.length < 1073741824) (ht : totN 0 ls ≤ 4503599627370496) :
    Pure Tryz.prog 98 [(Hist.mk k g ls).av, u64 tick, u64 w] (.tuple [(addV k g ls tick w).1.av, i64 (addV k g ls tick w).2]) := fun S => by
  have htot : totV ls = totN 0 ls := totV_eq (by omega)
  refine callR_of Tryz.func98 rfl rfl (xc_ok (bitB 36893505756785409999) _ _ _ ?_)
  simp only [go_sem]
  refine alloc_intro fun c3 h3 => ?_
  simp only [go_sem]
  refine alloc_intro fun c6 h6 => ?_
  simp only [fresh_set] at h6
  simp only [go_sem, h6]
  by_cases hw0 : w = 0
  · subst hw0
    simp only [go_sem, h6]
    (refine ⟨S, by (repeat (first | exact Sub.refl _ | refine Sub.setF ?_ (by first | assumption | simp only [*]) | refine Sub.setV ?_ (by first | assumption | simp only [*]))), ?_⟩); simp [addV, zeroH]
  have hw0' : (w == 0) = false := by simpa using hw0
  simp only [go_sem, hw0', h6]
  refine (ref06_Last k g ls (fun l hx => by have := hl l hx; omega)).useA ?_
  simp only [go_sem]
  obtain ⟨lt, lb, hlast⟩ : ∃ lt lb, lastV ls = (lt, lb) := ⟨_, _, rfl⟩
  simp only [hlast]
  by_cases t1 : 9223372036854775807 < tick
  · simp only [go_sem, t1, h6]
    (refine ⟨S, by (repeat (first | exact Sub.refl _ | refine Sub.setF ?_ (by first | assumption | simp only [*]) | refine Sub.setV ?_ (by first | assumption | simp only [*]))), ?_⟩); simp [addV, zeroH, hw0, t1]
  simp only [go_sem, t1]
  by_cases t2 : lb = true ∧ tick < lt
  · obtain ⟨rfl, t2⟩ := t2
    simp only [go_sem, t2, h6]
    (refine ⟨S, by (repeat (first | exact Sub.refl _ | refine Sub.setF ?_ (by first | assumption | simp only [*]) | refine Sub.setV ?_ (by first | assumption | simp only [*]))), ?_⟩); simp [addV, zeroH, hw0, t1, t2, hlast]
  have hbad : ¬ (9223372036854775807 < tick ∨ ((lastV ls).2 = true ∧ tick < (lastV ls).1)) := by rw [hlast]; rintro (h | h); exact t1 h; exact t2 h
  cases lb
  rotate_left
  have t3 : ¬ tick < lt := fun h => t2 ⟨rfl, h⟩
  simp only [go_sem, t3, h6]
  rotate_left
  simp only [go_sem, h6]
  all_goals
    by_cases t4 : 4503599627370496 - totN 0 ls < w
    · by_cases t5 : 4503599627370496 < w
      · simp only [go_sem, t5, h6]
        (refine ⟨S, by (repeat (first | exact Sub.refl _ | refine Sub.setF ?_ (by first | assumption | simp only [*]) | refine Sub.setV ?_ (by first | assumption | simp only [*]))), ?_⟩); simp [addV, zeroH, hw0, hbad, t4]
      · simp only [go_sem, t5, h6]
        refine (ref06_Total k g ls (by omega)).useA ?_
        have e1 : m64 (w + totV ls) = w + totN 0 ls := by rw [htot]; exact m64_id (by omega)
        have e2 : 4503599627370496 < w + totN 0 ls := by omega
        simp only [go_sem, e1, e2, h6]
        (refine ⟨S, by (repeat (first | exact Sub.refl _ | refine Sub.setF ?_ (by first | assumption | simp only [*]) | refine Sub.setV ?_ (by first | assumption | simp only [*]))), ?_⟩); simp [addV, zeroH, hw0, hbad, t4]
    have t5 : ¬ 4503599627370496 < w := by omega
    simp only [go_sem, t5, h6]
    refine (ref06_Total k g ls (by omega)).useA ?_
    have e1 : m64 (w + totV ls) = w + totN 0 ls := by rw [htot]; exact m64_id (by omega)
    have e2 : ¬ 4503599627370496 < w + totN 0 ls := by omega
    simp only [go_sem, e1, e2, h6]
    obtain ⟨FL, hFL⟩ : ∃ FL, flowV k tick 0 ls [] w = FL := ⟨_, rfl⟩
    have hww : w ≤ 4611686018427387904 / 4 := by omega
    have hFLn : FL.length ≤ 1073741824 + 62 := by
      have := flow_len k tick 62 0 ls [] w (fun x hx => by have := hl x hx; omega) (by simp; omega)
      rw [hFL] at this; omega
    have hres : addV k g ls tick w = (⟨k, g, FL⟩, 0) := by simp [addV, hw0, hbad, t4, hFL]
    rw [hres]
    refine alloc_intro fun c10 h10 => ?_
    simp only [fresh_set] at h10
    have g3 : S (.r c3) = none := h3
    have g6 : S (.r c6) = none := h6.2
    have g10 : S (.r c10) = none := h10.2.2
    simp only [go_sem, h6, h10]
    refine AWP.data 11 ?_
    refine AWP.tipB c10 2 1 (cs := [i64 k, i64 g, .nils]) (by simp only [go_sem, h6, h10]) rfl fun kk hkk => ?_
    simp only [freshv_setr] at hkk
    simp only [List.set]
    simp only [go_sem]
    refine AWP.roam (ι := Nat × List (List Span) × List Span × Nat × Option Nat) (fun x => x.2.1 = ls.drop x.1 ∧ FL.drop x.1 = flowV k tick x.1 x.2.1 x.2.2.1 x.2.2.2.1 ∧ x.1 ≤ FL.length ∧ x.2.2.1.length ≤ 1073741824 ∧ x.2.2.2.1 ≤ 4611686018427387904 / 4)
      (fun x => ⟨Env.get [(1, u64 tick), (3, .sp c3 0), (6, .sp c6 0), (10, .sp c10 0), (11, .p (lvP x.2.2.1)), (12, u64 x.2.2.2.1), (13, i64 x.1)],
        (((S.set (.r c3) (.cells [i64 k, i64 g, .p (.sl (ls.map lvE))])).set (.r c6) (.cells [i64 0, i64 0, .nils])).set (.v kk) (.tip 1 (FL.take x.1).length x.2.2.2.2)).set (.r c10) (.cells [i64 k, i64 g, .ts kk 1 x.2.2.2.2 ((FL.take x.1).map lvE)]), 92, []⟩) (fun x => FL.length - x.1) (0, ls, [], w, none) ?_ ?_ ?_
    · exact ⟨by simp, by simp [hFL], by simp, by simp, hww⟩
    · refine le_of (by simp only [go_sem, lvP, List.map_nil] <;> rfl) ?_ rfl rfl (by simp)
      ((try dsimp only); (repeat refine sub_set ?_ ?_) <;> first | ((repeat (first | exact Sub.refl _ | refine Sub.setF ?_ (by first | assumption | simp only [*]) | refine Sub.setV ?_ (by first | assumption | simp only [*]))); done) | (simp only [go_sem, h6, h10, hkk, List.take_zero, List.map_nil, List.length_nil]; done) | (simp only [go_sem, h6, h10, hkk, List.take_zero, List.map_nil, List.length_nil]; rfl) | rfl)
    · rintro ⟨i, rest, come, many, loc⟩ ⟨r1, r2, r3, r4, r5⟩ ih
      dsimp only at r1 r2 r3 r4 r5 ⊢
      refine AWPH.step (xc_ok (bitB 36893505756785409999) _ _ _ ?_)
      by_cases hend : rest = [] ∧ come.length + many = 0
      · have hn : FL.length = i := by
          have : FL.drop i = [] := by rw [r2, hend.1, flowV_nil hend.2]
          have := List.drop_eq_nil_iff.1 this
          clear h6 h10; omega
        have hc1 : come = [] := List.eq_nil_of_length_eq_zero (by clear h6 h10; omega)
        have hc2 : many = 0 := by clear h6 h10; omega
        have hc3 : ¬ (i : Int) < (ls.length : Int) := by
          have : ls.drop i = [] := by rw [← r1]; exact hend.1
          have := List.drop_eq_nil_iff.1 this
          clear h6 h10; omega
        subst hc1; subst hc2; subst hn
        simp only [go_sem, h6, h10, hkk, lvP, hc3, List.take_length]
        refine ⟨S, ?_, ?_⟩
        · refine Sub.set (Sub.set (Sub.set (Sub.set (Sub.set (Sub.refl _) g3 _) g6 _) hkk _) g10 _) g6 _
        · simp
      · have hcons := flowV_cons (k := k) (tick := tick) (i := i) hend
        obtain ⟨L, hL⟩ : ∃ L, rest.headD [] = L := ⟨_, rfl⟩
        rw [hL] at hcons
        have hm1 := mostN_pos k i
        have hm2 := mostN_le k i
        have hLi : L = ls.getD i [] := by
          rw [← hL, r1]
          simp [List.headD_eq_head?_getD, List.getD_eq_getElem?_getD]
        have hLl : L.length ≤ 1073741824 := by
          rw [hLi]
          by_cases c : i < ls.length
          · have := hl _ (List.getElem_mem c)
            simp [List.getD_eq_getElem?_getD, c]; clear h6 h10; omega
          · simp [List.getD_eq_getElem?_getD, c]
        have hd' : FL.drop i = stayV L (mostN k i) come many tick :: flowV k tick (i + 1) rest.tail (outsV L (mostN k i) come many tick) (leftV L (mostN k i) come many) := by rw [r2, hcons]
        have hiF : i < FL.length := by
          apply Classical.byContradiction
          intro hc
          rw [List.drop_of_length_le (by clear h6 h10; omega)] at hd'
          cases hd'
        have hget : FL[i] = stayV L (mostN k i) come many tick := by
          have := List.drop_eq_getElem_cons hiF
          rw [hd'] at this
          simp only [List.cons.injEq] at this
          exact this.1.symm
        have hnext : FL.drop (i + 1) = flowV k tick (i + 1) rest.tail (outsV L (mostN k i) come many tick) (leftV L (mostN k i) come many) := by
          have := List.drop_eq_getElem_cons hiF
          rw [hd'] at this
          simp only [List.cons.injEq] at this
          exact this.2.symm
        have hinv := fun loc' => ih (i + 1, rest.tail, outsV L (mostN k i) come many tick, leftV L (mostN k i) come many, loc')
          ⟨by dsimp only; rw [r1, List.tail_drop], hnext, hiF, outs_small hm1 hLl r4, left_small hLl r4 r5 (by decide)⟩ (by dsimp only; clear h6 h10; omega)
        dsimp only at hinv
        have hmost := ref05_Most k i (by clear h6 h10; omega)
        have hpush := ref05_Push L (mostN k i) come many tick hm1 (by clear h6 h10; omega) (by clear h6 h10; omega) (by clear h6 h10; omega) (by clear h6 h10; omega)
        have hat := ref06_at k g ls i
        rw [← hLi] at hat
        have e5 : List.map lvE (List.take i FL) ++ [[lvP (stayV L (mostN k i) come many tick)]] = List.map lvE (FL.take (i + 1)) := by
          rw [List.take_succ_eq_append_getElem hiF, List.map_append, hget]; rfl
        have hle : (List.take i FL).length ≤ i := by rw [List.length_take]; exact Nat.min_le_left _ _
        have q2 : ((List.take i FL).length + 1) * 24 ≤ 140737488355328 := by clear h6 h10; omega
        have q3 : (List.take i FL).length + 1 < 4611686018427387904 := by clear h6 h10; omega
        have q4 : wi ((i : Int) + 1) = ((i + 1 : Nat) : Int) := wi_succ (show i < 4611686018427387904 by clear h6 h10; omega)
        have hab : (come.length : Int) > 0 ∨ many > 0 ∨ (i : Int) < (ls.length : Int) := by
          clear h6 h10
          by_cases a : (come.length : Int) > 0
          · exact Or.inl a
          · by_cases b : many > 0
            · exact Or.inr (Or.inl b)
            · refine Or.inr (Or.inr ?_)
              apply Classical.byContradiction
              intro hc
              exact hend ⟨by rw [r1]; exact List.drop_of_length_le (by omega), by omega⟩
        by_cases a : (come.length : Int) > 0 <;> by_cases b : many > 0 <;> by_cases c : (i : Int) < (ls.length : Int)
        rotate_right
        exact absurd hab (by clear h6 h10; omega)
        all_goals
          simp only [go_sem, h6, h10, hkk, lvP, a, b, c]
          refine AWP.draw2 (bitB 36893505756785409999) mixed (by kernel_rfl) (fun j => if j = 2 then .p (lvP L) else if j = 6 then i64 (mostN k i : Nat) else .tuple [.p (lvP (stayV L (mostN k i) come many tick)), .p (lvP (outsV L (mostN k i) come many tick)), u64 (leftV L (mostN k i) come many)]) ?_
          simp only [go_sem, h6, h10, hkk]
          refine ⟨hat.draw, hmost.draw, hpush.draw, ?_⟩
          refine ⟨by rintro el rfl; rfl, lvE_len, q2, q3, grow_intro fun loc' => ?_⟩
          simp only [go_sem, h6, h10, hkk]
          refine (hinv loc').back ?_ (by simp) ?_
          · ((try dsimp only); (repeat refine sub_set ?_ ?_) <;> first | ((repeat (first | exact Sub.refl _ | refine Sub.setF ?_ (by first | assumption | simp only [*]) | refine Sub.setV ?_ (by first | assumption | simp only [*]))); done) | (simp only [go_sem, h6, h10, hkk, e5, List.length_map]; done) | (simp only [go_sem, h6, h10, hkk, e5, List.length_map]; rfl) | rfl)
          · simp only [go_sem, q4]
end Go.Sk
end

-- W5p
section
namespace Go.Sk
open Go Go.Proofs

set_option maxHeartbeats 4000000 in
set_option maxRecDepth 8000 in
theorem level_Push (l : List Span) (most : Nat) (add : List Span) (many tick : Nat) (hm1 : 1 ≤ most) (hm2 : most < 1099511627776) (hl : l.length < 1099511627776) (ha : add.length < 1099511627776) (hmany : many < 4611686018427387904) :
    Pure Tryz.prog 203 [.p (lvP l), i64 most, .p (lvP add), u64 many, u64 tick]
      (.tuple [.p (lvP (stayV l most add many tick)), .p (lvP (outsV l most add many tick)), u64 (leftV l most add many)]) := fun S => by
  refine callR_of Tryz.func203 rfl rfl (xc_ok (bitB 2417851711286854270565407) _ _ _ ?_)
  simp only [go_sem, lvP]
  refine alloc_intro fun q hq => ?_
  simp only [go_sem]
  refine alloc_intro fun g hg => ?_
  simp only [fresh_set] at hg
  simp only [go_sem, hg]
  refine AWP.head (AWPH.step (xc_ok (bitB 2417851711286854270565407) _ _ _ ?_))
  simp only [go_sem, hg]
  change boolK (AV.p (PV.bool true)) _
  simp only [go_sem, hg]
  refine AWP.draw2 (bitB 2417851711286854270565407) mixed (by kernel_rfl) (fun i => bl false) ?_
  simp only [go_sem, hg]
  refine ⟨span_len, by omega, by omega, tip_intro fun k0 loc0 hk0 => ?_⟩
  simp only [go_sem, hg]
  have w01 : wi (0 + 1) = 1 := by rw [wi_id (by omega) (by omega)]; rfl
  have w11 : wi (1 + 1) = 2 := by rw [wi_id (by omega) (by omega)]; rfl
  refine AWPH.step (xc_ok (bitB 2417851711286854270565407) _ _ _ ?_)
  simp only [go_sem, hg, w01]
  change boolK (AV.p (PV.bool true)) _
  simp only [go_sem, hg]
  refine ⟨by omega, by omega, ?_⟩
  refine AWP.draw2 (bitB 2417851711286854270565407) mixed (by kernel_rfl) (fun i => bl false) ?_
  simp only [go_sem, hg]
  refine ⟨span_len, span_len, by omega, by omega, grow_intro fun loc1 => ?_⟩
  simp only [go_sem, hg]
  refine AWPH.step (xc_ok (bitB 2417851711286854270565407) _ _ _ ?_)
  simp only [go_sem, hg, w11]
  change boolK (AV.p (PV.bool false)) _
  simp only [go_sem, hg]
  refine (bounded_int most 1).useA ?_
  have hb1 : ¬ (most : Int) < 1 := by omega
  have e64 : m64 most = most := m64_id (by omega)
  simp only [go_sem, hg, hb1, if_false, e64]
  refine alloc_intro fun r hr => ?_
  simp only [fresh_set, fresh_setv] at hr
  simp only [go_sem, hg, hr]
  refine AWP.dataB q (cs := [.ts k0 2 loc1 (List.map Span.pv l ++ List.map Span.pv add), u64 many, u64 tick]) (by simp only [go_sem, hg, hr]) ?_
  simp only [go_sem, List.map_cons, List.map_nil, reif1]
  refine AWP.tip0 18 2 (by simp only [go_sem]) fun k hk => ?_
  simp only [go_sem]
  obtain ⟨all, hall⟩ : ∃ all, l ++ add = all := ⟨_, rfl⟩
  have hmapall : List.map Span.pv l ++ List.map Span.pv add = List.map Span.pv all := by rw [← hall, List.map_append]
  obtain ⟨n, hnn⟩ : ∃ n, l.length + add.length = n := ⟨_, rfl⟩
  have hlen : all.length = n := by rw [← hall, List.length_append, hnn]
  simp only [hmapall]
  simp only [freshv_set, freshv_setr] at hk hk0
  refine AWP.iterE (ι := Option Nat) (fun loc j => ⟨Env.get [(13, .sp g 0), (16, .sp r 0), (17, .fn (.func 227) [] [.sp g 0, .sp r 0]), (18, .ts k 2 loc (((pairUp (lineV l add many tick)).take j).map Span.pv))],
    (((S.set (.r g) (.cells [.sp q 0])).set (.r r) (.cells [u64 most])).set (.r q) (.cells [.p (lvP (all.drop (2 * j))), u64 (many - (2 * j - n) : Nat), u64 tick])).set (.v k) (.tip 2 (((pairUp (lineV l add many tick)).take j).map Span.pv).length loc), 90, []⟩) (outsN n most many) none ?_ ?_ ?_
  · refine le_of (by simp only [go_sem, List.take_zero]) ?_ rfl rfl (by simp)
    ((try dsimp only); (repeat refine sub_set ?_ ?_) <;> first | ((repeat (first | exact Sub.refl _ | refine Sub.setF ?_ (by first | assumption | simp only [*]) | refine Sub.setV ?_ (by first | assumption | simp only [*]))); done) | (simp only [go_sem, hg, hr, hk, lvP, Nat.mul_zero, List.drop_zero, Nat.zero_sub, Nat.sub_zero, List.take_zero]; done) | (simp only [go_sem, hg, hr, hk, lvP, Nat.mul_zero, List.drop_zero, Nat.zero_sub, Nat.sub_zero, List.take_zero]; rfl) | rfl)
  · intro j loc hj ih
    obtain ⟨h1, h2, h3, h4, h5⟩ := two_next hlen hm1 hj
    refine AWPH.step (xc_ok (bitB 2417851711286854270565407) _ _ _ ?_)
    simp only [go_sem]
    refine CallR.useF (first := []) (args := []) (caps := [.sp g 0, .sp r 0]) (a2 := []) (push_over (b := q) (r := r) (q := g) (all.drop (2 * j)) (many - (2 * j - n)) tick most ?_ ?_ (by simp; omega) (by omega) ?_) rfl ?_
    · simp only [go_sem, hg, hr]
    · simp only [go_sem, hg, hr]
    · simp only [go_sem, hg, hr]
    rintro _ _ ⟨rfl, rfl⟩
    have hdl : (List.drop (2 * j) all).length = n - 2 * j := by rw [List.length_drop, hlen]
    have hpos : (List.drop (2 * j) all).length + (many - (2 * j - n)) - most > 0 := by omega
    have hl0 : ((List.drop (2 * j) all).length : Int) > 0 := by omega
    simp only [go_sem, hg, hr, hpos, hl0, lvP]
    refine (line_next (b := q) (all.drop (2 * j)) (many - (2 * j - n)) tick ?_ (by omega) (by omega) (by omega)).useA ?_
    · simp only [go_sem, hg, hr, lvP]
    rintro _ _ ⟨rfl, rfl⟩
    simp only [go_sem, hg, hr]
    have q1 : (List.take j (pairUp (lineV l add many tick))).length ≤ j := by rw [List.length_take]; exact Nat.min_le_left _ _
    have q2 : ((List.take j (pairUp (lineV l add many tick))).length + 1) * 16 ≤ 140737488355328 := by clear hg hr hk hk0; omega
    have q3 : (List.take j (pairUp (lineV l add many tick))).length + 1 < 4611686018427387904 := by clear hg hr hk hk0; omega
    have q4 : 0 < ((all.drop (2 * j)).drop 1).length + (many - (2 * j - n) - (1 - (all.drop (2 * j)).length)) := by rw [List.length_drop (i := 1)]; clear hg hr hk hk0; omega
    have q5 : ((all.drop (2 * j)).drop 1).length < 4611686018427387904 := by rw [List.length_drop (i := 1)]; clear hg hr hk hk0; omega
    have q6 : many - (2 * j - n) - (1 - (all.drop (2 * j)).length) < 18446744073709551616 := by clear hg hr hk hk0; omega
    refine alloc_intro fun t ht => ?_
    simp only [fresh_set, fresh_setv] at ht
    simp only [go_sem, hg, hr, ht]
    refine AWP.orders (bitB 2417851711286854270565407) mixed [[0,1,2,3,4,5,6,7],[0,2,1,3,4,5,6,7],[0,2,3,1,4,5,6,7],[1,0,2,3,4,5,6,7],[1,2,0,3,4,5,6,7],[1,2,3,0,4,5,6,7],[1,2,3,4,0,5,6,7],[1,2,3,4,5,0,6,7],[2,0,1,3,4,5,6,7],[2,0,3,1,4,5,6,7],[2,1,0,3,4,5,6,7],[2,1,3,0,4,5,6,7],[2,1,3,4,0,5,6,7],[2,1,3,4,5,0,6,7],[2,3,0,1,4,5,6,7],[2,3,1,0,4,5,6,7],[2,3,1,4,0,5,6,7],[2,3,1,4,5,0,6,7]] (by kernel_rfl) ?_
    simp only [List.forall_mem_cons, List.not_mem_nil, false_implies, implies_true, and_true, opsAt, List.getElem?_cons_zero, List.getElem?_cons_succ]
    obtain ⟨x, hx⟩ : ∃ x : Span, (all.drop (2 * j) ++ List.replicate (many - (2 * j - n)) (⟨tick, tick⟩ : Span)).getD 0 default = x := ⟨_, rfl⟩
    obtain ⟨y, hy⟩ : ∃ y : Span, ((all.drop (2 * j)).drop 1 ++ List.replicate (many - (2 * j - n) - (1 - (all.drop (2 * j)).length)) (⟨tick, tick⟩ : Span)).getD 0 default = y := ⟨_, rfl⟩
    have e3 : ((all.drop (2 * j)).drop 1).drop 1 = all.drop (2 * (j + 1)) := by rw [List.drop_drop, List.drop_drop]; congr 1
    have e4 : many - (2 * j - n) - (1 - (all.drop (2 * j)).length) - (1 - ((all.drop (2 * j)).drop 1).length) = many - (2 * (j + 1) - n) := by
      rw [List.length_drop (i := 1), hdl]; omega
    have hgx : x = all[2 * j]'(by omega) := by rw [← hx]; exact drop_head _
    have hgy : y.b = if h : 2 * j + 1 < n then (all[2 * j + 1]'(by omega)).b else tick := by
      rw [← hy, List.drop_drop]
      split
      · rename_i h; rw [drop_head (by omega)]
      · rename_i h; rw [drop_head2 (by omega) (by omega)]
    have e5 : List.map Span.pv ((pairUp (lineV l add many tick)).take j) ++ [[.int .u64 x.a, .int .u64 y.b]] = List.map Span.pv ((pairUp (lineV l add many tick)).take (j + 1)) := by
      have hsn := outs_snoc l add many tick most j hm1 (by rw [hnn]; exact hj)
      rw [hsn, List.map_append]
      congr 1
      simp only [List.map_cons, List.map_nil, Span.pv, hgx, hgy, hall, hnn]
    have hle : (List.take j (pairUp (lineV l add many tick))).length ≤ j := by rw [List.length_take]; exact Nat.min_le_left _ _
    clear hgx hgy
    refine ⟨?_, ?_, ?_, ?_, ?_, ?_, ?_, ?_, ?_, ?_, ?_, ?_, ?_, ?_, ?_, ?_, ?_, ?_⟩
    rotate_left
    all_goals (first | done | skip)
    all_goals
      simp only [go_sem, hg, hr, ht]
      refine (line_next (b := q) ((all.drop (2 * j)).drop 1) (many - (2 * j - n) - (1 - (all.drop (2 * j)).length)) tick ?_ q4 q5 q6).useA ?_
      · simp only [go_sem, hg, hr, ht, lvP]
      rintro _ _ ⟨rfl, rfl⟩
      simp only [go_sem, hg, hr, ht]
      refine (level_both _ _).useA ?_
      simp only [go_sem, hg, hr, ht, hk]
      simp only [hx, hy, e3, e4]
      refine ⟨by rintro el rfl; rfl, span_len, q2, q3, grow_intro fun loc' => ?_⟩
      simp only [go_sem, hg, hr, ht, hk]
      refine (ih loc').back ?_ (by simp) ?_
      · ((try dsimp only); (repeat refine sub_set ?_ ?_) <;> first | ((repeat (first | exact Sub.refl _ | refine Sub.setF ?_ (by first | assumption | simp only [*]) | refine Sub.setV ?_ (by first | assumption | simp only [*]))); done) | (simp only [go_sem, hg, hr, ht, hk, e5, lvP]; done) | (simp only [go_sem, hg, hr, ht, hk, e5, lvP]; rfl) | rfl)
      · simp only [go_sem, e5]
  · intro loc
    refine AWPH.step (xc_ok (bitB 2417851711286854270565407) _ _ _ ?_)
    simp only [go_sem]
    have hq0 : ∃ qq, outsN n most many = qq := ⟨_, rfl⟩
    obtain ⟨qq, hqq⟩ := hq0
    have hqle : 2 * qq ≤ n + 1 := by rw [← hqq]; unfold outsN; omega
    have hmq : 2 * qq - n ≤ many := by rw [← hqq]; unfold outsN pairsN; omega
    simp only [hqq]
    have hdl : (List.drop (2 * qq) all).length = n - 2 * qq := by rw [List.length_drop, hlen]
    refine CallR.useF (first := []) (args := []) (caps := [.sp g 0, .sp r 0]) (a2 := []) (push_over (b := q) (r := r) (q := g) (all.drop (2 * qq)) (many - (2 * qq - n)) tick most ?_ ?_ (by omega) (by omega) ?_) rfl ?_
    · simp only [go_sem, hg, hr]
    · simp only [go_sem, hg, hr]
    · simp only [go_sem, hg, hr]
    rintro _ _ ⟨rfl, rfl⟩
    obtain ⟨hle1, hle2, hle3⟩ := left_eq (many := many) hm1 hqq
    rw [hdl]
    obtain ⟨left, hleft⟩ : ∃ left, pairsN (n + many) most - qq = left := ⟨_, rfl⟩
    rw [hleft] at hle1 hle2
    have hL : leftV l most add many = left := by unfold leftV; rw [hnn, hqq, hleft]
    have e6 : m64 (n - 2 * qq + (many - (2 * qq - n)) - most + 1) = n - 2 * qq + (many - (2 * qq - n)) - most + 1 := m64_id (by omega)
    have e7 : m64 (m64 (n - 2 * qq + (many - (2 * qq - n)) - most + 1) / 2) = left := by rw [e6, hle1]; exact m64_id (by omega)
    have e8 : sub64 (many - (2 * qq - n)) (m64 (2 * left)) = many - (2 * qq - n) - 2 * left := by rw [m64_id (by omega), sub64_eq]; omega
    have hst := stay_eq l add many tick most hm1
    rw [hall, hnn, hqq, hL] at hst
    have hout : outsV l most add many tick = (pairUp (lineV l add many tick)).take qq := by unfold outsV; rw [hnn, hqq]
    have hstl := stay_le l add many tick most hm1
    rw [hst, hout, hL]
    rw [hst] at hstl
    obtain ⟨rest, hrest⟩ : ∃ rest, List.drop (2 * qq) all = rest := ⟨_, rfl⟩
    obtain ⟨m2, hm2'⟩ : ∃ m2, many - (2 * qq - n) - 2 * left = m2 := ⟨_, rfl⟩
    rw [hm2'] at hst hstl e8
    rw [hrest] at hst hstl hdl
    simp only [hrest, hm2'] at *
    have hrl : rest.length + m2 ≤ most := by simpa using hstl
    simp only [go_sem, hg, hr, lvP]
    have hov := push_over (b := q) (r := r) (q := g) rest (many - (2 * qq - n)) tick most (S := (((S.set (.r g) (.cells [.sp q 0])).set (.r r) (.cells [u64 most])).set (.r q)
            (.cells [.p (.sl (List.map Span.pv rest)), u64 (many - (2 * qq - n) : Nat), u64 tick])).set
        (.v k) (.tip 2 (List.take qq (pairUp (lineV l add many tick))).length loc)) (by simp only [go_sem, hg, hr, lvP]) (by simp only [go_sem, hg, hr]) (by omega) (by omega) (by simp only [go_sem, hg, hr])
    rw [hdl] at hov
    have hzz : ¬ 0 < n - 2 * qq ∨ ¬ 0 < n - 2 * qq + (many - (2 * qq - n)) - most := by omega
    obtain ⟨outs, houts⟩ : ∃ outs, List.take qq (pairUp (lineV l add many tick)) = outs := ⟨_, rfl⟩
    simp only [houts] at hov ⊢
    obtain ⟨ST, hST⟩ : ∃ ST, rest ++ List.replicate m2 (⟨tick, tick⟩ : Span) = ST := ⟨_, rfl⟩
    have hSTl : ST.length = rest.length + m2 := by rw [← hST]; simp
    have happ : ∀ i (h : i < rest.length + m2), (rest.drop i ++ List.replicate (m2 - (i - rest.length)) (⟨tick, tick⟩ : Span)).getD 0 default = ST[i]'(by omega) := fun i h => by
      rw [app_getD h]; simp only [hST]
    simp only [hST]
    by_cases hc : 0 < n - 2 * qq + (many - (2 * qq - n)) - most
    rotate_left
    simp only [go_sem, hg, hr, lvP, hc]
    refine CallR.useF (first := []) (args := []) (caps := [.sp g 0, .sp r 0]) (a2 := []) hov rfl ?_
    rintro _ _ ⟨rfl, rfl⟩
    simp only [go_sem, hg, hr, e7, e8]
    rotate_left
    have hz : ¬ 0 < n - 2 * qq := by omega
    simp only [go_sem, hg, hr, lvP, hc, List.length_map, hdl, hz]
    refine CallR.useF (first := []) (args := []) (caps := [.sp g 0, .sp r 0]) (a2 := []) hov rfl ?_
    rintro _ _ ⟨rfl, rfl⟩
    simp only [go_sem, hg, hr, e7, e8]
    all_goals
      refine AWP.tip0 21 2 (by simp only [go_sem]) fun k3 hk3 => ?_
      simp only [freshv_set, freshv_setr] at hk3
      simp only [go_sem]
      refine AWP.iterE (ι := Option Nat) (fun loc3 i => ⟨Env.get [(13, .sp g 0), (18, .ts k 2 loc (outs.map Span.pv)), (20, u64 left), (21, .ts k3 2 loc3 ((ST.take i).map Span.pv))],
        (((S.set (.r g) (.cells [.sp q 0])).set (.v k) (.tip 2 outs.length loc)).set (.r q) (.cells [.p (lvP (rest.drop i)), u64 (m2 - (i - rest.length) : Nat), u64 tick])).set (.v k3) (.tip 2 (ST.take i).length loc3), 90, []⟩) (rest.length + m2) none ?_ ?_ ?_
      · refine le_of (by simp only [go_sem, List.take_zero]) ?_ rfl rfl (by simp)
        ((try dsimp only); (repeat refine sub_set ?_ ?_) <;> first | ((repeat (first | exact Sub.refl _ | refine Sub.setF ?_ (by first | assumption | simp only [*]) | refine Sub.setV ?_ (by first | assumption | simp only [*]))); done) | (simp only [go_sem, hg, hr, hk, hk3, lvP, Nat.zero_sub, Nat.sub_zero, List.drop_zero, List.take_zero, List.length_map]; done) | (simp only [go_sem, hg, hr, hk, hk3, lvP, Nat.zero_sub, Nat.sub_zero, List.drop_zero, List.take_zero, List.length_map]; rfl) | rfl)
      · intro i loc3 hi ih
        refine AWPH.step (xc_ok (bitB 2417851711286854270565407) _ _ _ ?_)
        simp only [go_sem, hg, hk3]
        refine (line_long (b := q) (rest.drop i) (m2 - (i - rest.length)) tick ?_ (by simp; omega)).useA ?_
        · simp only [go_sem, hg, hk3, lvP]
        rintro _ _ ⟨rfl, rfl⟩
        have hp : (rest.drop i).length + (m2 - (i - rest.length)) > 0 := by rw [List.length_drop]; omega
        simp only [go_sem, hg, hk3, hp]
        refine (line_next (b := q) (rest.drop i) (m2 - (i - rest.length)) tick ?_ hp (by rw [List.length_drop]; omega) (by omega)).useA ?_
        · simp only [go_sem, hg, hk3, lvP]
        rintro _ _ ⟨rfl, rfl⟩
        simp only [go_sem, hg, hk3]
        have hi2 : i < ST.length := by omega
        have e3 : (rest.drop i).drop 1 = rest.drop (i + 1) := by rw [List.drop_drop]
        have e4 : m2 - (i - rest.length) - (1 - (rest.drop i).length) = m2 - (i + 1 - rest.length) := by rw [List.length_drop]; omega
        have e5 : List.map Span.pv (ST.take i) ++ [[.int .u64 (ST[i]).a, .int .u64 (ST[i]).b]] = List.map Span.pv (ST.take (i + 1)) := by
          rw [List.take_succ_eq_append_getElem hi2, List.map_append]; rfl
        have hle : (List.take i ST).length ≤ i := by rw [List.length_take]; exact Nat.min_le_left _ _
        simp only [happ i hi, e3, e4]
        refine ⟨by rintro el rfl; rfl, span_len, by omega, by omega, grow_intro fun loc' => ?_⟩
        simp only [go_sem, hg, hk3]
        refine (ih loc').back ?_ (by simp) ?_
        · ((try dsimp only); (repeat refine sub_set ?_ ?_) <;> first | ((repeat (first | exact Sub.refl _ | refine Sub.setF ?_ (by first | assumption | simp only [*]) | refine Sub.setV ?_ (by first | assumption | simp only [*]))); done) | (simp only [go_sem, hg, hk, hk3, e5, lvP, List.length_map]; done) | (simp only [go_sem, hg, hk, hk3, e5, lvP, List.length_map]; rfl) | rfl)
        · simp only [go_sem, e5]
      · intro loc3
        refine AWPH.step (xc_ok (bitB 2417851711286854270565407) _ _ _ ?_)
        simp only [go_sem, hg, hk3]
        refine (line_long (b := q) (rest.drop (rest.length + m2)) (m2 - (rest.length + m2 - rest.length)) tick ?_ (by rw [List.length_drop]; omega)).useA ?_
        · simp only [go_sem, hg, hk3, lvP]
        rintro _ _ ⟨rfl, rfl⟩
        have hp : ¬ (rest.drop (rest.length + m2)).length + (m2 - (rest.length + m2 - rest.length)) > 0 := by rw [List.length_drop]; omega
        simp only [go_sem, hg, hk3, hp, List.take_of_length_le (show ST.length ≤ rest.length + m2 by omega)]
        (refine ⟨S, by (repeat (first | exact Sub.refl _ | refine Sub.setF ?_ (by first | assumption | simp only [*]) | refine Sub.setV ?_ (by first | assumption | simp only [*]))), ?_⟩); simp
end Go.Sk
end

-- W6a
section
namespace Go.Sk
open Go Go.Proofs

def itemsF (fl : List (List Span)) : Nat → List AV := fun k => [.p (lvP (fl.getD k []))]

set_option maxHeartbeats 1000000 in
set_option maxRecDepth 8000 in
theorem hist_flow1 (k : Nat) (g : Int) (ls : List (List Span)) (tick w : Nat) (hk : k < 1073741824) (hw : w ≤ 4611686018427387904 / 4) (hls : ls.length < 1073741824) (hl : ∀ l ∈ ls, l.length < 1073741824)
    {T0 : Store} {b1 b2 b3 : Nat} (h1 : T0 (.r b1) = some (.cells [u64 w])) (h2 : T0 (.r b2) = some (.cells [i64 k, i64 g, .p (.sl (ls.map lvE))])) (h3 : T0 (.r b3) = some (.cells [u64 tick])) :
    SeqR Tryz.prog 202 [] [.sp b1 0, .sp b2 0, .sp b3 0] T0 (flowV k tick 0 ls [] w).length (itemsF (flowV k tick 0 ls [] w)) := by
  intro l J Jx hy E hd h0
  simp only [List.nil_append, List.singleton_append]
  refine callR_of Tryz.func202 rfl rfl (xc_ok (bitB 36028805676011503) _ _ _ ?_)
  simp only [go_sem, h1, h2, h3]
  obtain ⟨FL, hFL⟩ : ∃ FL, flowV k tick 0 ls [] w = FL := ⟨_, rfl⟩
  rw [hFL] at hy ⊢
  have hFLn : FL.length ≤ 1073741824 + 62 := by
    have := flow_len k tick 62 0 ls [] w (fun x hx => by have := hl x hx; omega) (by simp; omega)
    rw [hFL] at this; omega
  refine AWP.data 5 ?_
  simp only [go_sem]
  refine AWP.roam (ι := Nat × List (List Span) × List Span × Nat × Store) (fun x => x.2.1 = ls.drop x.1 ∧ FL.drop x.1 = flowV k tick x.1 x.2.1 x.2.2.1 x.2.2.2.1 ∧ x.1 ≤ FL.length ∧ x.2.2.1.length ≤ 1073741824 ∧ x.2.2.2.1 ≤ 4611686018427387904 / 4 ∧ Disj T0 x.2.2.2.2 ∧ J x.1 x.2.2.2.2)
    (fun x => ⟨Env.get [(0, .fn (.yield l) [] []), (1, .sp b1 0), (2, .sp b2 0), (3, .sp b3 0), (5, .p (lvP x.2.2.1)), (6, u64 x.2.2.2.1), (7, i64 x.1)], Store.join x.2.2.2.2 T0, 58, []⟩) (fun x => FL.length - x.1) (0, ls, [], w, E) ?_ ?_ ?_
  · exact ⟨by simp, by simp [hFL], by simp, by simp, hw, hd, h0⟩
  · exact le_of (by simp only [go_sem, lvP, List.map_nil] <;> rfl) (Sub.refl _) rfl rfl (by simp)
  · rintro ⟨i, rest, come, many, E⟩ ⟨r1, r2, r3, r4, r5, hd, hJ⟩ ih
    dsimp only at r1 r2 r3 r4 r5 hd hJ ⊢
    refine AWPH.step (xc_ok (bitB 36028805676011503) _ _ _ ?_)
    by_cases hend : rest = [] ∧ come.length + many = 0
    · have hn : FL.length = i := by
        have : FL.drop i = [] := by rw [r2, hend.1, flowV_nil hend.2]
        have := List.drop_eq_nil_iff.1 this
        omega
      have hc1 : come = [] := List.eq_nil_of_length_eq_zero (by omega)
      have hc2 : many = 0 := by omega
      have hc3 : ¬ (i : Int) < (ls.length : Int) := by
        have : ls.drop i = [] := by rw [← r1]; exact hend.1
        have := List.drop_eq_nil_iff.1 this
        omega
      subst hc1; subst hc2
      simp only [go_sem, h1, h2, h3, lvP, hc3]
      exact ⟨_, Sub.refl _, Or.inl ⟨E, rfl, hd, Or.inl (by rw [hn]; exact hJ)⟩⟩
    · have hcons := flowV_cons (k := k) (tick := tick) (i := i) hend
      obtain ⟨L, hL⟩ : ∃ L, rest.headD [] = L := ⟨_, rfl⟩
      rw [hL] at hcons
      have hm1 := mostN_pos k i
      have hm2 := mostN_le k i
      have hLi : L = ls.getD i [] := by
        rw [← hL, r1]
        simp [List.headD_eq_head?_getD, List.getD_eq_getElem?_getD]
      have hLl : L.length ≤ 1073741824 := by
        rw [hLi]
        by_cases c : i < ls.length
        · have := hl _ (List.getElem_mem c)
          simp [List.getD_eq_getElem?_getD, c]; omega
        · simp [List.getD_eq_getElem?_getD, c]
      have hd' : FL.drop i = stayV L (mostN k i) come many tick :: flowV k tick (i + 1) rest.tail (outsV L (mostN k i) come many tick) (leftV L (mostN k i) come many) := by rw [r2, hcons]
      have hiF : i < FL.length := by
        apply Classical.byContradiction
        intro hc
        rw [List.drop_of_length_le (by omega)] at hd'
        cases hd'
      have hget : FL.getD i [] = stayV L (mostN k i) come many tick := by
        have := List.drop_eq_getElem_cons hiF
        rw [hd'] at this
        simp only [List.cons.injEq] at this
        simp [List.getD_eq_getElem?_getD, hiF, this.1]
      have hnext : FL.drop (i + 1) = flowV k tick (i + 1) rest.tail (outsV L (mostN k i) come many tick) (leftV L (mostN k i) come many) := by
        have := List.drop_eq_getElem_cons hiF
        rw [hd'] at this
        simp only [List.cons.injEq] at this
        exact this.2.symm
      have hinv : ∀ E', Disj T0 E' → J (i + 1) E' → AWPH Tryz.prog none _ _ _ := fun E' hE hJ' => ih (i + 1, rest.tail, outsV L (mostN k i) come many tick, leftV L (mostN k i) come many, E')
        ⟨by dsimp only; rw [r1, List.tail_drop], hnext, hiF, outs_small hm1 hLl r4, left_small hLl r4 r5 (by decide), hE, hJ'⟩ (by dsimp only; omega)
      dsimp only at hinv
      have hmost := level_Most k i (by omega)
      have hpush := level_Push L (mostN k i) come many tick hm1 (by omega) (by omega) (by omega) (by omega)
      have hyi := hy i hiF E T0 (Sub.refl _) hd hJ
      simp only [itemsF, hget] at hyi
      by_cases c : i < ls.length
      · have c' : (i : Int) < (ls.length : Int) := by omega
        have hLc : ls[i] = L := by rw [hLi]; simp [List.getD_eq_getElem?_getD, c]
        by_cases a : (come.length : Int) > 0 <;> by_cases b : many > 0
        all_goals
          simp only [go_sem, h1, h2, h3, lvP, a, b, c, c', getD_map' _ _ _ _ c, lvE_mk, hLc]
          refine AWP.data 8 ?_
          simp only [go_sem]
          refine AWP.draw2 (bitB 36028805676011503) mixed (by kernel_rfl) (fun j => if j = 4 then i64 (mostN k i : Nat) else .tuple [.p (lvP (stayV L (mostN k i) come many tick)), .p (lvP (outsV L (mostN k i) come many tick)), u64 (leftV L (mostN k i) come many)]) ?_
          simp only [go_sem, h1, h2, h3]
          refine ⟨hmost.draw, hpush.draw, ?_⟩
          refine hyi.useA rfl ?_
          rintro r S' ⟨E', rfl, hd2, ⟨rfl, hJ2⟩ | ⟨rfl, hJ2⟩⟩
          · simp only [go_sem]
            refine (hinv E' hd2 hJ2).back (Sub.refl _) (by simp) ?_
            simp only [go_sem, wi_succ (show i < 4611686018427387904 by omega)]
          · simp only [go_sem]
            exact ⟨_, Sub.refl _, Or.inl ⟨E', rfl, hd2, Or.inr hJ2⟩⟩
      · have c' : ¬ (i : Int) < (ls.length : Int) := by omega
        have hLc : L = [] := by rw [hLi]; simp [List.getD_eq_getElem?_getD, c]
        subst hLc
        have hab : come.length > 0 ∨ many > 0 := by
          apply Classical.byContradiction
          intro hx
          exact hend ⟨by rw [r1]; exact List.drop_of_length_le (by omega), by omega⟩
        by_cases a : (come.length : Int) > 0 <;> by_cases b : many > 0
        rotate_right
        exact absurd hab (by omega)
        all_goals
          simp only [go_sem, h1, h2, h3, lvP, a, b, c']
          refine AWP.data 8 ?_
          simp only [go_sem]
          refine AWP.draw2 (bitB 36028805676011503) mixed (by kernel_rfl) (fun j => if j = 4 then i64 (mostN k i : Nat) else .tuple [.p (lvP (stayV [] (mostN k i) come many tick)), .p (lvP (outsV [] (mostN k i) come many tick)), u64 (leftV [] (mostN k i) come many)]) ?_
          simp only [go_sem, h1, h2, h3]
          refine ⟨hmost.draw, hpush.draw, ?_⟩
          refine hyi.useA rfl ?_
          rintro r S' ⟨E', rfl, hd2, ⟨rfl, hJ2⟩ | ⟨rfl, hJ2⟩⟩
          · simp only [go_sem]
            refine (hinv E' hd2 hJ2).back (Sub.refl _) (by simp) ?_
            simp only [go_sem, wi_succ (show i < 4611686018427387904 by omega)]
          · simp only [go_sem]
            exact ⟨_, Sub.refl _, Or.inl ⟨E', rfl, hd2, Or.inr hJ2⟩⟩
end Go.Sk
end

-- W6b
section
namespace Go.Sk
open Go Go.Proofs

theorem hist_flow (k : Nat) (g : Int) (ls : List (List Span)) (tick w : Nat) (S : Store) : CallR Tryz.prog 151 [(Hist.mk k g ls).av, u64 tick, u64 w] S
    (fun r S' => ∃ b1 b2 b3, Fresh S b1 ∧ Fresh S b2 ∧ Fresh S b3 ∧ ((¬ b1 = b2 ∧ ¬ b2 = b1) ∧ (¬ b1 = b3 ∧ ¬ b3 = b1) ∧ (¬ b3 = b2 ∧ ¬ b2 = b3)) ∧ r = .fn (.func 202) [] [.sp b1 0, .sp b2 0, .sp b3 0] ∧
      S' = ((S.set (.r b2) (.cells [i64 k, i64 g, .p (.sl (ls.map lvE))])).set (.r b3) (.cells [u64 tick])).set (.r b1) (.cells [u64 w])) := by
  refine callR_of Tryz.func151 rfl rfl (xc_ok (bitB 127) _ _ _ ?_)
  simp only [go_sem]
  refine alloc_intro fun b2 h2 => ?_
  simp only [go_sem]
  refine alloc_intro fun b3 h3 => ?_
  simp only [fresh_set] at h3
  simp only [go_sem, h3]
  refine alloc_intro fun b1 h1 => ?_
  simp only [fresh_set] at h1
  simp only [go_sem, h3, h1]
  refine ⟨_, Sub.refl _, Or.inl ⟨b1, b2, b3, h1.2.2, h2, h3.2, ⟨⟨h1.2.1.1, h1.2.1.2⟩, ⟨h1.1.1, h1.1.2⟩, ⟨h3.1.1, h3.1.2⟩⟩, rfl, rfl⟩⟩

set_option maxHeartbeats 1000000 in
set_option maxRecDepth 8000 in
theorem hist_Add (k : Nat) (g : Int) (ls : List (List Span)) (tick w : Nat) (hk : k < 1073741824) (hw : w < 18446744073709551616) (hls : ls.length < 1073741824) (hl : ∀ l ∈ ls, l.length < 1073741824) (ht : totN 0 ls ≤ 4503599627370496) :
    Pure Tryz.prog 92 [(Hist.mk k g ls).av, u64 tick, u64 w] (.tuple [(addV k g ls tick w).1.av, i64 (addV k g ls tick w).2]) := fun S => by
  have htot : totV ls = totN 0 ls := totV_eq (by omega)
  refine callR_of Tryz.func92 rfl rfl (xc_ok (bitB 844433522298831) _ _ _ ?_)
  simp only [go_sem]
  refine alloc_intro fun c3 h3 => ?_
  simp only [go_sem]
  refine alloc_intro fun c6 h6 => ?_
  simp only [fresh_set] at h6
  simp only [go_sem, h6]
  refine (hist_Last k g ls (fun l hx => by have := hl l hx; omega)).useA ?_
  simp only [go_sem]
  by_cases hw0 : w = 0
  · subst hw0
    simp only [go_sem, h6]
    (refine ⟨S, by (repeat (first | exact Sub.refl _ | refine Sub.setF ?_ (by first | assumption | simp only [*]) | refine Sub.setV ?_ (by first | assumption | simp only [*]))), ?_⟩); simp [addV, zeroH]
  have hw0' : (w == 0) = false := by simpa using hw0
  simp only [go_sem, hw0']
  obtain ⟨lt, lb, hlast⟩ : ∃ lt lb, lastV ls = (lt, lb) := ⟨_, _, rfl⟩
  simp only [hlast]
  by_cases t1 : 9223372036854775807 < tick
  · simp only [go_sem, t1, h6]
    (refine ⟨S, by (repeat (first | exact Sub.refl _ | refine Sub.setF ?_ (by first | assumption | simp only [*]) | refine Sub.setV ?_ (by first | assumption | simp only [*]))), ?_⟩); simp [addV, zeroH, hw0, t1]
  simp only [go_sem, t1]
  by_cases t2 : lb = true ∧ tick < lt
  · obtain ⟨rfl, t2⟩ := t2
    simp only [go_sem, t2, h6]
    (refine ⟨S, by (repeat (first | exact Sub.refl _ | refine Sub.setF ?_ (by first | assumption | simp only [*]) | refine Sub.setV ?_ (by first | assumption | simp only [*]))), ?_⟩); simp [addV, zeroH, hw0, t1, t2, hlast]
  have hbad : ¬ (9223372036854775807 < tick ∨ ((lastV ls).2 = true ∧ tick < (lastV ls).1)) := by rw [hlast]; rintro (h | h); exact t1 h; exact t2 h
  cases lb
  rotate_left
  have t3 : ¬ tick < lt := fun h => t2 ⟨rfl, h⟩
  simp only [go_sem, t3, h6]
  rotate_left
  simp only [go_sem, h6]
  all_goals
    refine (hist_Total k g ls (by omega)).useA ?_
    have e1 : sub64 4503599627370496 (totV ls) = 4503599627370496 - totN 0 ls := by rw [htot, sub64_eq]; omega
    simp only [go_sem, e1]
    by_cases t4 : 4503599627370496 - totN 0 ls < w
    · simp only [go_sem, t4, h6]
      (refine ⟨S, by (repeat (first | exact Sub.refl _ | refine Sub.setF ?_ (by first | assumption | simp only [*]) | refine Sub.setV ?_ (by first | assumption | simp only [*]))), ?_⟩); simp [addV, zeroH, hw0, hbad, t4]
    simp only [go_sem, t4, h6]
    obtain ⟨FL, hFL⟩ : ∃ FL, flowV k tick 0 ls [] w = FL := ⟨_, rfl⟩
    have hww : w ≤ 4611686018427387904 / 4 := by omega
    have hFLn : FL.length ≤ 1073741824 + 62 := by
      have := flow_len k tick 62 0 ls [] w (fun x hx => by have := hl x hx; omega) (by simp; omega)
      rw [hFL] at this; omega
    refine alloc_intro fun c10 h10 => ?_
    simp only [fresh_set] at h10
    simp only [go_sem, h6, h10]
    refine (hist_flow k g ls tick w _).useA ?_
    rintro _ _ ⟨b1, b2, b3, f1, f2, f3, hne, rfl, rfl⟩
    simp only [fresh_set] at f1 f2 f3
    simp only [go_sem, h6, h10, f1, f2, f3, hne]
    refine AWP.tipB c10 2 1 (cs := [i64 k, i64 g, .nils]) (by simp only [go_sem, h6, h10, f1, f2, f3, hne]) rfl fun kk hkk => ?_
    simp only [freshv_setr] at hkk
    simp only [List.set]
    have hseq := hist_flow1 k g ls tick w hk hww hls hl (T0 := ((eS.set (.r b2) (.cells [i64 k, i64 g, .p (.sl (ls.map lvE))])).set (.r b3) (.cells [u64 tick])).set (.r b1) (.cells [u64 w])) (b1 := b1) (b2 := b2) (b3 := b3) (by simp only [go_sem, hne]) (by simp only [go_sem, hne]) (by simp only [go_sem, hne])
    rw [hFL] at hseq
    have g6 : S (.r c6) = none := h6.2
    have g10 : S (.r c10) = none := h10.2.2
    have g1 : S (.r b1) = none := f1.2.2.2
    have g2 : S (.r b2) = none := f2.2.2.2
    have g3 : S (.r b3) = none := f3.2.2.2
    refine AWP.rangeE (ι := Option Nat) (f := 202) (first := []) (caps := [.sp b1 0, .sp b2 0, .sp b3 0]) (by simp only [go_sem]) _
      (fun j loc => ((S.set (.r c6) (.cells [i64 0, i64 0, .nils])).set (.r c10) (.cells [i64 k, i64 g, .ts kk 1 loc ((FL.take j).map lvE)])).set (.v kk) (.tip 1 (FL.take j).length loc)) none
      ?_ ?_ hseq (enterable_of Tryz.func202 rfl rfl) (fun _ _ => False) (fun _ _ => rfl) (by simp) ?_ ?_ ?_
    · refine sub_joinT (sub_joinT (sub_joinT (sub_join0 ?_) ?_ ?_) ?_ ?_) ?_ ?_
      · ((try dsimp only); (repeat refine sub_set ?_ ?_) <;> first | ((repeat (first | exact Sub.refl _ | refine Sub.setF ?_ (by first | assumption | simp only [*]) | refine Sub.setV ?_ (by first | assumption | simp only [*]))); done) | (simp only [go_sem, h6, h10, f1, f2, f3, hne, hkk, List.take_zero, List.map_nil, List.length_nil]; done) | (simp only [go_sem, h6, h10, f1, f2, f3, hne, hkk, List.take_zero, List.map_nil, List.length_nil]; rfl) | rfl)
      all_goals simp only [go_sem, h6, h10, f1, f2, f3, hne, hkk, g1, g2, g3]
    · refine (((Disj.nil _).setT ?_ _).setT ?_ _).setT ?_ _
      all_goals simp only [go_sem, h6, h10, f1, f2, f3, hne, hkk, g1, g2, g3]
    · intro j loc l hj T hT hdT
      refine xc_ok (bitB 844433522298831) _ _ _ ?_
      simp only [go_sem, itemsF]
      refine ⟨_, Sub.refl _, hdT, fun T' hT' hdT' => ?_⟩
      refine xc_ok (bitB 844433522298831) _ _ _ ?_
      simp only [go_sem, h6, h10, hkk]
      have hle : (List.take j FL).length ≤ j := by rw [List.length_take]; exact Nat.min_le_left _ _
      refine ⟨by rintro el rfl; rfl, lvE_len, (by clear h6 h10 hne f1 f2 f3 h3 hdT hdT'; omega), (by clear h6 h10 hne f1 f2 f3 h3 hdT hdT'; omega), grow_intro fun loc' => ?_⟩
      simp only [go_sem, h6, h10, hkk]
      have e5 : List.map lvE (List.take j FL) ++ [[lvP (FL.getD j [])]] = List.map lvE (FL.take (j + 1)) := by
        rw [List.take_succ_eq_append_getElem hj, List.map_append]
        simp [List.getD_eq_getElem?_getD, hj, lvE]
      have hdq := (hdT'.setE (k := .v kk) (y := .tip 1 (FL.take j).length loc) (by simp only [go_sem]) (.tip 1 (List.map lvE (List.take j FL) ++ [[lvP (FL.getD j [])]]).length loc')).setE (k := .r c10) (y := .cells [i64 k, i64 g, .ts kk 1 loc ((FL.take j).map lvE)]) (by simp only [go_sem])
        (.cells [i64 k, i64 g, .ts kk 1 loc' (List.map lvE (List.take j FL) ++ [[lvP (FL.getD j [])]])])
      refine ⟨loc', ?_, ?_⟩
      · rw [join_set, join_set]
        refine Sub.joinD ?_ hdq
        ((try dsimp only); (repeat refine sub_set ?_ ?_) <;> first | ((repeat (first | exact Sub.refl _ | refine Sub.setF ?_ (by first | assumption | simp only [*]) | refine Sub.setV ?_ (by first | assumption | simp only [*]))); done) | (simp only [go_sem, h6, h10, hkk, e5, List.length_map, g6, g10]; done) | (simp only [go_sem, h6, h10, hkk, e5, List.length_map, g6, g10]; rfl) | rfl)
      · intro q
        rcases hdT' q with e | e
        · left
          simp only [Store.set] at e ⊢
          repeat' split at e
          all_goals simp_all
        · exact Or.inr e
    · intro loc d hd
      have n10 : ¬ c10 = d ∧ ¬ d = c10 := by constructor <;> rintro rfl <;> simp [Store.join, Store.set] at hd
      have n6 : ¬ c6 = d ∧ ¬ d = c6 := by constructor <;> rintro rfl <;> simp [Store.join, Store.set, h10] at hd
      have gd : S (.r d) = none := by
        have := (join_none hd).2
        simpa [Store.set, n10, n6] using this
      simp only [go_sem, List.take_length, h6, h10, hkk, n10, n6]
      refine ⟨S, ?_, ?_⟩
      · refine Sub.set (Sub.set (Sub.joinL ?_) gd _) g6 _
        refine Sub.set (Sub.set (Sub.set (Sub.refl _) g6 _) g10 _) hkk _
      · simp [addV, hw0, hbad, t4, hFL, gd]
    · intro e E' d _ h; exact h.elim
end Go.Sk
end

-- W6h
section
namespace Go.Sk
open Go Go.Proofs

noncomputable def addH (h : Hist) (t w : Nat) : Hist × Int := addV h.k.toNat h.g h.ls t w
structure Hist.Ok (h : Hist) : Prop where
  k0 : 0 ≤ h.k
  k1 : h.k < 1073741824
  ls : h.ls.length < 1073741824
  ll : ∀ l ∈ h.ls, l.length < 1073741824
  tot : totN 0 h.ls ≤ 4503599627370496
theorem hist_addH (h : Hist) (ok : h.Ok) (t w : Nat) (hw : w < 18446744073709551616) : Pure Tryz.prog 92 [h.av, u64 t, u64 w] (.tuple [(addH h t w).1.av, i64 (addH h t w).2]) := by
  obtain ⟨k, g, ls⟩ := h
  obtain ⟨h1, h2, h3, h4, h5⟩ := ok
  dsimp only at h1 h2 h3 h4 h5
  obtain ⟨k, rfl⟩ : ∃ k' : Nat, k = k' := ⟨k.toNat, by omega⟩
  have := hist_Add k g ls t w (by omega) hw h3 h4 h5
  unfold addH; simpa using this
theorem ref06_addH (h : Hist) (ok : h.Ok) (t w : Nat) (hw : w < 18446744073709551616) : Pure Tryz.prog 98 [h.av, u64 t, u64 w] (.tuple [(addH h t w).1.av, i64 (addH h t w).2]) := by
  obtain ⟨k, g, ls⟩ := h
  obtain ⟨h1, h2, h3, h4, h5⟩ := ok
  dsimp only at h1 h2 h3 h4 h5
  obtain ⟨k, rfl⟩ : ∃ k' : Nat, k = k' := ⟨k.toNat, by omega⟩
  have := ref06_Add k g ls t w (by omega) hw h3 h4 h5
  unfold addH; simpa using this

end Go.Sk
end

-- W6c
section
namespace Go.Sk
open Go Go.Proofs

theorem eq_of_all {α : Type} {a b : List α} (hlen : a.length = b.length) (h : ∀ j (h1 : j < a.length) (h2 : j < b.length), a[j] = b[j]) : a = b := List.ext_getElem hlen h
theorem all_step {α : Type} {a b : List α} {i : Nat} (hall : ∀ j, j < i → ∀ (h1 : j < a.length) (h2 : j < b.length), a[j] = b[j]) (he : ∀ (h1 : i < a.length) (h2 : i < b.length), a[i] = b[i]) :
    ∀ j, j < i + 1 → ∀ (h1 : j < a.length) (h2 : j < b.length), a[j] = b[j] := by
  intro j h h1 h2
  rcases Nat.lt_or_ge j i with hj | hj
  · exact hall j hj h1 h2
  · obtain rfl : j = i := by omega
    exact he h1 h2
theorem span_eq (x y : Span) : (x.a == y.a && x.b == y.b) = decide (x = y) := by
  cases x; cases y
  rw [Bool.eq_iff_iff]; simp

theorem eq_spans (a b : List Span) (ha : a.length < 1099511627776) : Pure Tryz.prog 189 [.p (lvP a), .p (lvP b)] (bl (decide (a = b))) := fun S => by
  refine callR_of Tryz.func189 rfl rfl (xc_ok (bitB 16806963) _ _ _ ?_)
  simp only [go_sem, lvP]
  by_cases hlen : a.length = b.length
  rotate_left
  · have hn : (a.length != b.length) = true := by simpa using hlen
    have hne : ¬ a = b := fun e => hlen (by rw [e])
    simp only [go_sem, hn]
    (refine ⟨S, by (repeat (first | exact Sub.refl _ | refine Sub.setF ?_ (by first | assumption | simp only [*]) | refine Sub.setV ?_ (by first | assumption | simp only [*]))), ?_⟩); simp [hne]
  · have hn : (a.length != b.length) = false := by simpa using hlen
    simp only [go_sem, hn]
    refine AWP.roam (fun i : Nat => i ≤ a.length ∧ ∀ j, j < i → ∀ (h1 : j < a.length) (h2 : j < b.length), a[j] = b[j]) (fun i => ⟨Env.get [(0, .p (.sl (a.map Span.pv))), (1, .p (.sl (b.map Span.pv))), (12, i64 a.length), (13, i64 i)], S, 26, []⟩) (fun i => a.length - i) 0 ⟨by omega, fun j h => by omega⟩ ?_ ?_
    · exact le_of (by simp only [go_sem]; simp) (Sub.refl _) rfl rfl (by simp)
    · rintro i ⟨hi, hall⟩ ih
      refine AWPH.step (xc_ok (bitB 16806963) _ _ _ ?_)
      by_cases h : i < a.length
      · have hb : i < b.length := by omega
        simp only [go_sem, h, hb, ltN' h, ltN' hb, getD_map' _ _ _ _ h, getD_map' _ _ _ _ hb]
        refine AWP.draw2 (bitB 16806963) mixed (by kernel_rfl) (fun j => bl false) ?_
        simp only [go_sem, h, hb, ltN' h, ltN' hb, getD_map' _ _ _ _ h, getD_map' _ _ _ _ hb, span_eq]
        by_cases hq : a[i] = b[i]
        · simp only [go_sem, hq, Bool.not_true]
          refine (ih (i + 1) ⟨h, all_step hall fun _ _ => hq⟩ (by omega)).back (by (repeat (first | exact Sub.refl _ | refine Sub.setF ?_ (by first | assumption | simp only [*]) | refine Sub.setV ?_ (by first | assumption | simp only [*])))) (by simp) ?_
          simp only [go_sem, wi_succ (show i < 4611686018427387904 by omega)]
        · simp only [go_sem, hq, Bool.not_false]
          (refine ⟨S, by (repeat (first | exact Sub.refl _ | refine Sub.setF ?_ (by first | assumption | simp only [*]) | refine Sub.setV ?_ (by first | assumption | simp only [*]))), ?_⟩)
          have hne : ¬ a = b := by rintro rfl; exact hq rfl
          simp [hne]
      · obtain rfl : i = a.length := by omega
        simp only [go_sem]
        (refine ⟨S, by (repeat (first | exact Sub.refl _ | refine Sub.setF ?_ (by first | assumption | simp only [*]) | refine Sub.setV ?_ (by first | assumption | simp only [*]))), ?_⟩)
        have : a = b := eq_of_all hlen fun j h1 h2 => hall j h1 h1 h2
        simp [this]

theorem eq_levels (a b : List (List Span)) (ha : a.length < 1099511627776) (hl : ∀ l ∈ a, l.length < 1099511627776) :
    Pure Tryz.prog 188 [.p (.sl (a.map lvE)), .p (.sl (b.map lvE)), .fn (.func 189) [] []] (bl (decide (a = b))) := fun S => by
  refine callR_of Tryz.func188 rfl rfl (xc_ok (bitB 1074250695) _ _ _ ?_)
  simp only [go_sem, lvP]
  by_cases hlen : a.length = b.length
  rotate_left
  · have hn : (a.length != b.length) = true := by simpa using hlen
    have hne : ¬ a = b := fun e => hlen (by rw [e])
    simp only [go_sem, hn]
    (refine ⟨S, by (repeat (first | exact Sub.refl _ | refine Sub.setF ?_ (by first | assumption | simp only [*]) | refine Sub.setV ?_ (by first | assumption | simp only [*]))), ?_⟩); simp [hne]
  · have hn : (a.length != b.length) = false := by simpa using hlen
    simp only [go_sem, hn]
    refine AWP.roam (fun i : Nat => i ≤ a.length ∧ ∀ j, j < i → ∀ (h1 : j < a.length) (h2 : j < b.length), a[j] = b[j]) (fun i => ⟨Env.get [(1, .p (.sl (b.map lvE))), (2, .fn (.func 189) [] []), (15, .p (.sl (a.map lvE))), (16, i64 a.length), (17, i64 i)], S, 32, []⟩) (fun i => a.length - i) 0 ⟨by omega, fun j h => by omega⟩ ?_ ?_
    · exact le_of (by simp only [go_sem]; simp) (Sub.refl _) rfl rfl (by simp)
    · rintro i ⟨hi, hall⟩ ih
      refine AWPH.step (xc_ok (bitB 1074250695) _ _ _ ?_)
      by_cases h : i < a.length
      · have hb : i < b.length := by omega
        simp only [go_sem, h, hb, ltN' h, ltN' hb, getD_map' _ _ _ _ h, getD_map' _ _ _ _ hb, lvE_mk]
        refine Pure.useF (first := []) (caps := []) (args := [.p (lvP a[i]), .p (lvP b[i])]) (a2 := [.p (lvP a[i]), .p (lvP b[i])]) (eq_spans a[i] b[i] (hl _ (List.getElem_mem h))) rfl ?_
        by_cases hq : a[i] = b[i]
        · simp only [go_sem, hq, Bool.not_true]
          refine (ih (i + 1) ⟨h, all_step hall fun _ _ => hq⟩ (by omega)).back (by (repeat (first | exact Sub.refl _ | refine Sub.setF ?_ (by first | assumption | simp only [*]) | refine Sub.setV ?_ (by first | assumption | simp only [*])))) (by simp) ?_
          simp only [go_sem, wi_succ (show i < 4611686018427387904 by omega)]
        · simp only [go_sem, hq, Bool.not_false]
          (refine ⟨S, by (repeat (first | exact Sub.refl _ | refine Sub.setF ?_ (by first | assumption | simp only [*]) | refine Sub.setV ?_ (by first | assumption | simp only [*]))), ?_⟩)
          have hne : ¬ a = b := by rintro rfl; exact hq rfl
          simp [hne]
      · obtain rfl : i = a.length := by omega
        simp only [go_sem]
        (refine ⟨S, by (repeat (first | exact Sub.refl _ | refine Sub.setF ?_ (by first | assumption | simp only [*]) | refine Sub.setV ?_ (by first | assumption | simp only [*]))), ?_⟩)
        have : a = b := eq_of_all hlen fun j h1 h2 => hall j h1 h1 h2
        simp [this]

theorem hist_equal (k g : Int) (a b : List (List Span)) (ha : a.length < 1099511627776) (hl : ∀ l ∈ a, l.length < 1099511627776) :
    Pure Tryz.prog 138 [(Hist.mk k g a).av, .p (.sl (b.map lvE))] (bl (decide (a = b))) := fun S => by
  refine callR_of Tryz.func138 rfl rfl (xc_ok (bitB 23) _ _ _ ?_)
  simp only [go_sem]
  refine alloc_intro fun c hc => ?_
  simp only [go_sem]
  refine (eq_levels a b ha hl).useA ?_
  simp only [go_sem]
  (refine ⟨S, by (repeat (first | exact Sub.refl _ | refine Sub.setF ?_ (by first | assumption | simp only [*]) | refine Sub.setV ?_ (by first | assumption | simp only [*]))), ?_⟩); simp

def Hist.Small (h : Hist) : Prop := h.ls.length < 1099511627776 ∧ ∀ l ∈ h.ls, l.length < 1099511627776
theorem hist_Same (a b : Hist) (h : a.Small) : Pure Tryz.prog 77 [a.av, b.av] (bl (decide (a = b))) := fun S => by
  obtain ⟨k, g, ls⟩ := a
  obtain ⟨k', g', ls'⟩ := b
  refine callR_of Tryz.func77 rfl rfl (xc_ok (bitB 63) _ _ _ ?_)
  simp only [go_sem]
  refine alloc_intro fun c hc => ?_
  simp only [go_sem]
  refine alloc_intro fun d hd => ?_
  simp only [fresh_set] at hd
  simp only [go_sem, hd]
  by_cases h1 : k = k'
  rotate_left
  · have e1 : (k == k') = false := by simpa using h1
    simp only [go_sem, e1]
    (refine ⟨S, by (repeat (first | exact Sub.refl _ | refine Sub.setF ?_ (by first | assumption | simp only [*]) | refine Sub.setV ?_ (by first | assumption | simp only [*]))), ?_⟩); simp [h1]
  subst h1
  simp only [go_sem, hd, beq_self_eq_true]
  by_cases h2 : g = g'
  rotate_left
  · have e1 : (g == g') = false := by simpa using h2
    simp only [go_sem, e1]
    (refine ⟨S, by (repeat (first | exact Sub.refl _ | refine Sub.setF ?_ (by first | assumption | simp only [*]) | refine Sub.setV ?_ (by first | assumption | simp only [*]))), ?_⟩); simp [h2]
  subst h2
  simp only [go_sem, hd, beq_self_eq_true]
  refine Pure.useF (first := [(Hist.mk k g ls).av]) (caps := []) (args := [.p (.sl (ls'.map lvE))]) (a2 := [.p (.sl (ls'.map lvE))]) (hist_equal k g ls ls' h.1 h.2) rfl ?_
  simp only [go_sem]
  (refine ⟨S, by (repeat (first | exact Sub.refl _ | refine Sub.setF ?_ (by first | assumption | simp only [*]) | refine Sub.setV ?_ (by first | assumption | simp only [*]))), ?_⟩); simp

end Go.Sk
end

-- A7h
section
namespace Go.Sk

theorem Hist.Good.ok {h : Hist} (g : h.Good) : h.Ok :=
  ⟨by have := g.k0; omega, by have := g.k1; omega, by have := g.len; omega, fun l hl => by have := g.sm l hl; have := g.k1; omega, g.tot⟩
theorem Hist.Good.small {h : Hist} (g : h.Good) : h.Small := ⟨by have := g.len; omega, fun l hl => by have := g.sm l hl; have := g.k1; omega⟩
theorem addH_good {h : Hist} (g : h.Good) (t w : Nat) (e : (addH h t w).2 = 0) : (addH h t w).1.Good ∧ (addH h t w).1.k = h.k ∧ (addH h t w).1.g = h.g ∧ totN 0 (addH h t w).1.ls = totN 0 h.ls + w := addV_good g t w e
theorem addH_tidy {h : Hist} (g : h.Good) (hT : Tidy h.k.toNat h.ls) (t w : Nat) (e : (addH h t w).2 = 0) : Tidy h.k.toNat (addH h t w).1.ls ∧
    ∀ W, Mono W → loL W 0 (addH h t w).1.ls ≤ loL W 0 h.ls + (if W t = true then w else 0) ∧ hiL W 0 h.ls + (if W t = true then w else 0) ≤ hiL W 0 (addH h t w).1.ls := addV_tidy g hT t w e
end Go.Sk
end

-- A20
section
namespace Go.Sk

/-- Is a tick too old? -/
noncomputable def oldV (f w t : Nat) : Bool := decide (w ≤ f) && decide (t ≤ sub64 f w)
def Anti (o : Nat → Bool) : Prop := ∀ x y, x ≤ y → o y = true → o x = true
theorem oldV_anti (f w : Nat) : Anti (oldV f w) := by
  intro x y h hy
  unfold oldV at *
  simp only [Bool.and_eq_true, decide_eq_true_eq] at *
  exact ⟨hy.1, by omega⟩
/-- How many at the head of a level are too old. -/
def oldN (o : Nat → Bool) : List Span → Nat
  | [] => 0
  | s :: l => if o s.b = true then oldN o l + 1 else 0
/-- What is left: level by level, as long as there is something. -/
def dropG (o : Nat → Bool) : List (List Span) → List (List Span)
  | [] => []
  | l :: r => if oldN o l < l.length then l.drop (oldN o l) :: dropG o r else []
theorem oldN_cons (o : Nat → Bool) (s : Span) (l : List Span) : oldN o (s :: l) = if o s.b = true then oldN o l + 1 else 0 := rfl
theorem oldN_le (o : Nat → Bool) (l : List Span) : oldN o l ≤ l.length := by
  induction l with
  | nil => exact Nat.le_refl _
  | cons s l ih => unfold oldN; split <;> simp <;> omega
theorem oldN_lt (o : Nat → Bool) : ∀ (l : List Span) (i : Nat) (h : i < l.length), i < oldN o l → o (l[i]).b = true := by
  intro l
  induction l with
  | nil => intro i h; simp at h
  | cons s l ih =>
    intro i h hi
    unfold oldN at hi
    split at hi
    · rename_i c
      cases i with
      | zero => exact c
      | succ i => exact ih i (by simpa using h) (by omega)
    · omega
theorem oldN_at (o : Nat → Bool) : ∀ (l : List Span) (h : oldN o l < l.length), o (l[oldN o l]).b = false := by
  intro l
  induction l with
  | nil => intro h; simp at h
  | cons s l ih =>
    intro h
    by_cases c : o s.b = true
    · have e : oldN o (s :: l) = oldN o l + 1 := by rw [oldN_cons, if_pos c]
      have h2 : oldN o l < l.length := by rw [e] at h; simpa using h
      simp only [e, List.getElem_cons_succ]
      exact ih h2
    · have e : oldN o (s :: l) = 0 := by rw [oldN_cons, if_neg c]
      simp only [e, List.getElem_cons_zero]
      simpa using c
/-- One by one: i of a level are too old. -/
theorem oldN_step (o : Nat → Bool) (l : List Span) (i : Nat) (h : i < l.length) (hi : i ≤ oldN o l) : (o (l[i]).b = true → i + 1 ≤ oldN o l) ∧ (o (l[i]).b = false → i = oldN o l) := by
  refine ⟨fun hb => ?_, fun hb => ?_⟩
  · apply Classical.byContradiction
    intro hc
    obtain rfl : i = oldN o l := by omega
    rw [oldN_at o l h] at hb; cases hb
  · apply Classical.byContradiction
    intro hc
    rw [oldN_lt o l i h (by omega)] at hb; cases hb

def stayF (o : Nat → Bool) (l : List Span) : List Span := l.filter (fun s => !o s.b)
def manyF : Nat → Nat → List (List Span) → Nat
  | _, n, [] => n
  | i, n, l :: r => manyF (i + 1) (if l = [] then n else i + 1) r
def dropH (D : List (List Span) → List (List Span)) (h : Hist) : Hist := ⟨h.k, h.g, D h.ls⟩
/-- By the document. -/
def docD (o : Nat → Bool) (ls : List (List Span)) : List (List Span) := (ls.map (stayF o)).take (manyF 0 0 (ls.map (stayF o)))
theorem manyF_snoc (l : List Span) : ∀ (r : List (List Span)) (i n : Nat), manyF i n (r ++ [l]) = if l = [] then manyF i n r else i + r.length + 1 := by
  intro r
  induction r with
  | nil => intro i n; simp [manyF]
  | cons x r ih => intro i n; simp only [List.cons_append, manyF, ih, List.length_cons]; split <;> omega
theorem manyF_all : ∀ (r : List (List Span)) (i n : Nat), (∀ l ∈ r, l = []) → manyF i n r = n := by
  intro r
  induction r with
  | nil => intro i n _; rfl
  | cons x r ih => intro i n h; unfold manyF; rw [if_pos (h x (by simp)), ih _ _ (fun l hl => h l (by simp [hl]))]
theorem manyF_ge : ∀ (r : List (List Span)) (i n : Nat), n ≤ i → manyF i n r = n ∨ i < manyF i n r := by
  intro r
  induction r with
  | nil => intro i n _; exact Or.inl rfl
  | cons x r ih =>
    intro i n h
    unfold manyF
    split
    · rcases ih (i + 1) n (by omega) with e | e
      · exact Or.inl e
      · exact Or.inr (by omega)
    · rcases ih (i + 1) (i + 1) (by omega) with e | e
      · exact Or.inr (by omega)
      · exact Or.inr (by omega)
theorem manyF_le : ∀ (r : List (List Span)) (i n : Nat), n ≤ i → manyF i n r ≤ i + r.length := by
  intro r
  induction r with
  | nil => intro i n h; simpa [manyF] using h
  | cons x r ih =>
    intro i n h
    unfold manyF
    rw [List.length_cons]
    split
    · have := ih (i + 1) n (by omega); omega
    · have := ih (i + 1) (i + 1) (by omega); omega
/-- Of a sorted level, what stays is its end. -/
theorem stay_drop {o : Nat → Bool} (ho : Anti o) : ∀ l : List Span, l.Pairwise Bef → (∀ s ∈ l, s.a ≤ s.b) → stayF o l = l.drop (oldN o l) := by
  intro l
  induction l with
  | nil => intro _ _; rfl
  | cons s l ih =>
    intro h hv
    rw [List.pairwise_cons] at h
    have hvs := fun x hx => hv x (List.mem_cons_of_mem _ hx)
    unfold stayF at *
    rw [oldN_cons]
    by_cases c : o s.b = true
    · rw [if_pos c, List.drop_succ_cons, List.filter_cons_of_neg (by simp [c])]
      exact ih h.2 hvs
    · rw [if_neg c, List.drop_zero, List.filter_eq_self]
      intro x hx
      rcases List.mem_cons.1 hx with rfl | hx
      · simpa using c
      · have h1 : s.b ≤ x.b := Nat.le_trans (h.1 x hx) (hvs x hx)
        cases hb : o x.b with
        | false => rfl
        | true => exact absurd (ho _ _ h1 hb) c
theorem doc_go_aux {o : Nat → Bool} (ho : Anti o) : ∀ (ls : List (List Span)) (i : Nat), (flat ls).Pairwise Bef → (∀ s ∈ flat ls, s.a ≤ s.b) → (∀ l ∈ ls, l ≠ []) →
    (ls.map (stayF o)).take (manyF i i (ls.map (stayF o)) - i) = dropG o ls := by
  intro ls
  induction ls with
  | nil => intro i _ _ _; simp [dropG]
  | cons l r ih =>
    intro i hs hv hne
    obtain ⟨s1, s2, s3⟩ := List.pairwise_append.1 (show (flat r ++ l).Pairwise Bef from hs)
    have hvl : ∀ s ∈ l, s.a ≤ s.b := fun s h => hv s (List.mem_append_right _ h)
    have hvr : ∀ s ∈ flat r, s.a ≤ s.b := fun s h => hv s (List.mem_append_left _ h)
    have hst := stay_drop ho l s2 hvl
    have hle := oldN_le o l
    unfold dropG
    by_cases c : oldN o l < l.length
    · rw [if_pos c]
      have hn : stayF o l ≠ [] := by rw [hst]; intro e; have := congrArg List.length e; simp at this; omega
      have ihr := ih (i + 1) s1 hvr (fun x hx => hne x (by simp [hx]))
      simp only [List.map_cons, manyF]
      rw [if_neg hn]
      have hge : i + 1 ≤ manyF (i + 1) (i + 1) (r.map (stayF o)) := by
        rcases manyF_ge (r.map (stayF o)) (i + 1) (i + 1) (Nat.le_refl _) with e | e <;> omega
      rw [show manyF (i + 1) (i + 1) (r.map (stayF o)) - i = (manyF (i + 1) (i + 1) (r.map (stayF o)) - (i + 1)) + 1 by omega, List.take_succ_cons, ihr, hst]
    · rw [if_neg c]
      have hz : stayF o l = [] := by rw [hst]; exact List.drop_of_length_le (by omega)
      have hl0 : 0 < l.length := List.length_pos_iff.2 (hne l (by simp))
      have hold : o (l[0]).b = true := oldN_lt o l 0 hl0 (by omega)
      have hall : ∀ x ∈ flat r, o x.b = true := fun x hx => by
        have h1 := s3 x hx l[0] (List.getElem_mem hl0)
        exact ho _ _ (Nat.le_trans h1 (hvl _ (List.getElem_mem hl0))) hold
      have hmem : ∀ (r : List (List Span)), ∀ m ∈ r, ∀ x ∈ m, x ∈ flat r := by
        intro r
        induction r with
        | nil => intro m hm; cases hm
        | cons y r ih2 =>
          intro m hm x hx
          rcases List.mem_cons.1 hm with rfl | hm
          · exact List.mem_append_right _ hx
          · exact List.mem_append_left _ (ih2 m hm x hx)
      have he : ∀ m ∈ r.map (stayF o), m = [] := by
        intro m hm
        obtain ⟨y, hy, rfl⟩ := List.mem_map.1 hm
        unfold stayF
        rw [List.filter_eq_nil_iff]
        intro x hx
        rw [hall x (hmem r y hy x hx)]; simp
      simp only [List.map_cons, manyF]
      rw [if_pos hz, manyF_all _ _ _ he, Nat.sub_self, List.take_zero]
/-- Both leave the same. -/
theorem docD_eq {o : Nat → Bool} (ho : Anti o) {k : Nat} {ls : List (List Span)} (h : Tidy k ls) (hne : ∀ l ∈ ls, l ≠ []) : docD o ls = dropG o ls := by
  have := doc_go_aux ho ls 0 h.srt h.val hne
  rw [Nat.sub_zero] at this
  exact this
end Go.Sk
end

-- A14
section
namespace Go.Sk

/-! Adding that is let in. -/
theorem last_mem {ls : List (List Span)} (h : (lastV ls).2 = true) : ∃ x ∈ flat ls, (lastV ls).1 = x.b := by
  unfold lastV at *
  cases ls with
  | nil => simp at h
  | cons l r =>
    dsimp only at h ⊢
    cases hl : l.getLast? with
    | none => rw [hl] at h; simp at h
    | some s => exact ⟨s, List.mem_append_right _ (List.mem_of_getLast? hl), rfl⟩
theorem addH_let {h : Hist} (hT : Tidy h.k.toNat h.ls) {t w : Nat} (ht : t ≤ 9223372036854775807) (hw : 1 ≤ w) (hb : ∀ x ∈ flat h.ls, x.b ≤ t) (htot : totN 0 h.ls + w ≤ 4503599627370496) :
    (addH h t w).2 = 0 ∧ ∀ x ∈ flat (addH h t w).1.ls, x.b ≤ t := by
  have hc : ¬ (9223372036854775807 < t ∨ ((lastV h.ls).2 = true ∧ t < (lastV h.ls).1)) := by
    rintro (c | ⟨c1, c2⟩)
    · omega
    · obtain ⟨x, hx, e⟩ := last_mem c1
      have := hb x hx; omega
  have he : addH h t w = (⟨h.k.toNat, h.g, flowV h.k.toNat t 0 h.ls [] w⟩, 0) := by
    unfold addH addV
    rw [if_neg (by omega), if_neg hc, if_neg (by omega)]
  rw [he]
  refine ⟨rfl, ?_⟩
  have hs : (flat h.ls ++ ([] ++ List.replicate w (⟨t, t⟩ : Span))).Pairwise Bef := by
    refine List.pairwise_append.2 ⟨hT.srt, ?_, ?_⟩
    · rw [List.nil_append]; exact List.pairwise_replicate.2 (Or.inr (Nat.le_refl t))
    · intro x hx y hy
      rw [List.nil_append] at hy
      rw [List.eq_of_mem_replicate hy]; exact hb x hx
  have hv : ∀ s ∈ flat h.ls ++ ([] ++ List.replicate w (⟨t, t⟩ : Span)), s.a ≤ s.b := by
    intro s hs
    rcases List.mem_append.1 hs with hs | hs
    · exact hT.val s hs
    · rw [List.nil_append] at hs; rw [List.eq_of_mem_replicate hs]; exact Nat.le_refl _
  exact (flow_tidy h.k.toNat t h.ls 0 [] w hs hv).2.2.1 t (fun s hs => by
    rcases List.mem_append.1 hs with hs | hs
    · exact hb s hs
    · rw [List.nil_append] at hs; rw [List.eq_of_mem_replicate hs]; exact Nat.le_refl _)

/-! Sums over events. -/
def sumE (f : Event → Nat) (l : List Event) : Nat := (l.map f).sum
theorem sumE_app (f : Event → Nat) (l m : List Event) : sumE f (l ++ m) = sumE f l + sumE f m := by unfold sumE; rw [List.map_append, List.sum_append]
theorem sumE_cons (f : Event → Nat) (e : Event) (l : List Event) : sumE f (e :: l) = f e + sumE f l := by unfold sumE; simp
theorem sumE_nil (f : Event → Nat) : sumE f [] = 0 := rfl
theorem sumE_le {f g : Event → Nat} (h : ∀ e, f e ≤ g e) (l : List Event) : sumE f l ≤ sumE g l := by
  induction l with
  | nil => exact Nat.le_refl _
  | cons e l ih => rw [sumE_cons, sumE_cons]; have := h e; omega
theorem sumE_ins (f : Event → Nat) (l : List Event) (e : Event) : sumE f (insE l e) = sumE f l + f e := by
  unfold insE
  rw [sumE_app, sumE_app, sumE_cons, sumE_nil]
  have := sumE_app f (l.take (belowN e.t l)) (l.drop (belowN e.t l))
  rw [List.take_append_drop] at this; omega
theorem sumE_split (f : Event → Nat) (l : List Event) (n : Nat) : sumE f l = sumE f (l.take n) + sumE f (l.drop n) := by
  rw [← sumE_app, List.take_append_drop]
def wt (W : Nat → Bool) (e : Event) : Nat := if W e.t = true then e.w else 0

/-- Events passed on. -/
noncomputable def passV (h : Hist) (out : List Event) : Hist := out.foldl (fun h e => (addH h e.t e.w).1) h
theorem pass_ok : ∀ (out : List Event) (h : Hist) (f : Nat), h.Good → Tidy h.k.toNat h.ls → (∀ x ∈ flat h.ls, x.b ≤ f) → Srt out → (∀ e ∈ out, f ≤ e.t ∧ e.t ≤ 9223372036854775807 ∧ 1 ≤ e.w) → totN 0 h.ls + sumE Event.w out ≤ 4503599627370496 →
    (passV h out).Good ∧ Tidy (passV h out).k.toNat (passV h out).ls ∧ (passV h out).k = h.k ∧ (passV h out).g = h.g ∧ totN 0 (passV h out).ls = totN 0 h.ls + sumE Event.w out ∧
    (∀ m, f ≤ m → (∀ e ∈ out, e.t ≤ m) → ∀ x ∈ flat (passV h out).ls, x.b ≤ m) ∧
    ∀ W, Mono W → loL W 0 (passV h out).ls ≤ loL W 0 h.ls + sumE (wt W) out ∧ hiL W 0 h.ls + sumE (wt W) out ≤ hiL W 0 (passV h out).ls := by
  intro out
  induction out with
  | nil =>
    intro h f hg hT hb _ _ _
    refine ⟨hg, hT, rfl, rfl, rfl, fun m hm _ x hx => Nat.le_trans (hb x hx) hm, fun W _ => ⟨Nat.le_refl _, Nat.le_refl _⟩⟩
  | cons e l ih =>
    intro h f hg hT hb hs he ht
    unfold Srt at hs
    rw [List.pairwise_cons] at hs
    obtain ⟨e1, e2, e3⟩ := he e (by simp)
    rw [sumE_cons] at ht
    obtain ⟨a1, a2⟩ := addH_let hT e2 e3 (fun x hx => Nat.le_trans (hb x hx) e1) (by omega)
    obtain ⟨b1, b2, b3, b4⟩ := addH_good hg e.t e.w a1
    obtain ⟨c1, c2⟩ := addH_tidy hg hT e.t e.w a1
    have hk : (addH h e.t e.w).1.k.toNat = h.k.toNat := by rw [b2]
    obtain ⟨i1, i2, i3, i4, i5, i6, i7⟩ := ih (addH h e.t e.w).1 e.t b1 (by rw [hk]; exact c1) a2 hs.2 (fun x hx => ⟨hs.1 x hx, (he x (by simp [hx])).2⟩) (by omega)
    show (passV (addH h e.t e.w).1 l).Good ∧ _
    refine ⟨i1, i2, i3.trans b2, i4.trans b3, ?_, ?_, ?_⟩
    · show totN 0 (passV (addH h e.t e.w).1 l).ls = _
      rw [i5, sumE_cons]; omega
    · intro m hm hx
      exact i6 m (hx e (by simp)) (fun x hx2 => hx x (by simp [hx2]))
    · intro W hW
      obtain ⟨j1, j2⟩ := i7 W hW
      obtain ⟨k1, k2⟩ := c2 W hW
      rw [sumE_cons]
      have hwt : wt W e = if W e.t = true then e.w else 0 := rfl
      rw [← hwt] at k1 k2
      refine ⟨?_, ?_⟩
      · show loL W 0 (passV (addH h e.t e.w).1 l).ls ≤ _
        omega
      · show _ ≤ hiL W 0 (passV (addH h e.t e.w).1 l).ls
        omega

/-! What is too old. -/
theorem dropG_sub (o : Nat → Bool) : ∀ ls : List (List Span), (flat (dropG o ls)).Sublist (flat ls) := by
  intro ls
  induction ls with
  | nil => exact List.Sublist.refl _
  | cons l r ih =>
    unfold dropG
    split
    · exact List.Sublist.append ih (List.drop_sublist _ _)
    · exact List.nil_sublist _
theorem dropG_old {o : Nat → Bool} (ho : Anti o) {l : List Span} {r : List (List Span)} (hs : (flat (l :: r)).Pairwise Bef) (hv : ∀ s ∈ flat (l :: r), s.a ≤ s.b) (h : 0 < oldN o l) : (∀ x ∈ flat r, o x.b = true) := by
  obtain ⟨s1, s2, s3⟩ := List.pairwise_append.1 (show (flat r ++ l).Pairwise Bef from hs)
  have hl := oldN_le o l
  intro x hx
  have h0 : 0 < l.length := by omega
  have h1 := s3 x hx l[0] (List.getElem_mem h0)
  exact ho _ _ (Nat.le_trans h1 (hv _ (List.mem_append_right _ (List.getElem_mem h0)))) (oldN_lt o l 0 h0 h)
theorem dropG_nil {o : Nat → Bool} : ∀ {r : List (List Span)}, (∀ x ∈ flat r, o x.b = true) → dropG o r = [] := by
  intro r
  cases r with
  | nil => intro _; rfl
  | cons l r =>
    intro h
    unfold dropG
    rw [if_neg]
    intro hc
    have := oldN_at o l hc
    rw [h _ (List.mem_append_right _ (List.getElem_mem hc))] at this; cases this
theorem dropG_full {o : Nat → Bool} (ho : Anti o) (k : Nat) : ∀ (ls : List (List Span)) (i : Nat), (flat ls).Pairwise Bef → (∀ s ∈ flat ls, s.a ≤ s.b) → Full k i ls → Full k i (dropG o ls) := by
  intro ls
  induction ls with
  | nil => intro i _ _ _; trivial
  | cons l r ih =>
    intro i hs hv hf
    obtain ⟨s1, s2, s3⟩ := List.pairwise_append.1 (show (flat r ++ l).Pairwise Bef from hs)
    unfold dropG
    split
    · refine ⟨fun hne => ?_, ih (i + 1) s1 (fun s h => hv s (List.mem_append_left _ h)) hf.2⟩
      by_cases h0 : 0 < oldN o l
      · exact absurd (dropG_nil (dropG_old ho hs hv h0)) hne
      · have hr : r ≠ [] := by rintro rfl; exact hne rfl
        have := hf.1 hr
        rw [List.length_drop]; omega
    · trivial
theorem dropG_tidy {o : Nat → Bool} (ho : Anti o) {k : Nat} {ls : List (List Span)} (h : Tidy k ls) : Tidy k (dropG o ls) := by
  refine ⟨h.srt.sublist (dropG_sub o ls), fun s hs => h.val s ((dropG_sub o ls).subset hs), fun s hs => ?_, dropG_full ho k ls 0 h.srt h.val h.full⟩
  cases ls with
  | nil => cases hs
  | cons l r =>
    unfold dropG at hs
    split at hs
    · exact h.low s (List.mem_of_mem_drop hs)
    · cases hs
theorem dropG_lvl (o : Nat → Bool) : ∀ (ls : List (List Span)), ∀ l ∈ dropG o ls, l ≠ [] ∧ ∃ m ∈ ls, l.length ≤ m.length := by
  intro ls
  induction ls with
  | nil => intro l hl; cases hl
  | cons l r ih =>
    intro x hx
    unfold dropG at hx
    split at hx
    · rename_i c
      rcases List.mem_cons.1 hx with rfl | hx
      · refine ⟨fun e => ?_, l, by simp, by simp⟩
        have := congrArg List.length e
        simp at this; omega
      · obtain ⟨h1, m, hm, hle⟩ := ih x hx
        exact ⟨h1, m, by simp [hm], hle⟩
    · cases hx
theorem dropG_tot (o : Nat → Bool) : ∀ (ls : List (List Span)) (i : Nat), totN i (dropG o ls) ≤ totN i ls := by
  intro ls
  induction ls with
  | nil => intro i; exact Nat.le_refl _
  | cons l r ih =>
    intro i
    unfold dropG
    split
    · unfold totN
      have h1 : (l.drop (oldN o l)).length * 2 ^ i ≤ l.length * 2 ^ i := Nat.mul_le_mul_right _ (by rw [List.length_drop]; omega)
      have := ih (i + 1)
      show (l.drop (oldN o l)).length * 2 ^ i + totN (i + 1) (dropG o r) ≤ l.length * 2 ^ i + totN (i + 1) r
      omega
    · exact Nat.zero_le _
theorem dropH_good {o : Nat → Bool} {h : Hist} (g : h.Good) : (dropH (dropG o) h).Good :=
  ⟨g.k0, g.k1, fun l hl => (dropG_lvl o h.ls l hl).1, fun l hl => by obtain ⟨_, m, hm, hle⟩ := dropG_lvl o h.ls l hl; have := g.sm m hm; unfold dropH; dsimp only; omega, Nat.le_trans (dropG_tot o h.ls 0) g.tot⟩
/-- Where nothing that is too old is within, dropping it changes nothing. -/
theorem dropG_lo {o : Nat → Bool} (ho : Anti o) {W : Nat → Bool} (hW : Mono W) (hk : ∀ x, o x = true → W x = false) : ∀ (ls : List (List Span)) (i : Nat), (∀ l ∈ ls, l ≠ []) → (flat ls).Pairwise Bef → (∀ s ∈ flat ls, s.a ≤ s.b) →
    loL W i (dropG o ls) = loL W i ls ∧ hiL W i (dropG o ls) = hiL W i ls := by
  have zero : ∀ (ls : List (List Span)) (i : Nat), (∀ s ∈ flat ls, s.a ≤ s.b) → (∀ s ∈ flat ls, o s.b = true) → loL W i ls = 0 ∧ hiL W i ls = 0 := by
    intro ls
    induction ls with
    | nil => intro i _ _; exact ⟨rfl, rfl⟩
    | cons l r ih =>
      intro i hv h
      obtain ⟨i1, i2⟩ := ih (i + 1) (fun s hs => hv s (List.mem_append_left _ hs)) (fun s hs => h s (List.mem_append_left _ hs))
      have hb : ∀ s ∈ l, W s.b = false := fun s hs => hk _ (h s (List.mem_append_right _ hs))
      have ha : ∀ s ∈ l, W s.a = false := fun s hs => by
        cases hc : W s.a with
        | false => rfl
        | true => have := hW _ _ (hv s (List.mem_append_right _ hs)) hc; rw [hb s hs] at this; cases this
      have h1 : lo W l = 0 := by unfold lo; rw [List.countP_eq_zero]; intro s hs; rw [ha s hs]; simp
      have h2 : hi W l = 0 := by unfold hi; rw [List.countP_eq_zero]; intro s hs; rw [hb s hs]; simp
      unfold loL hiL
      rw [h1, h2, i1, i2]; simp
  intro ls
  induction ls with
  | nil => intro i _ _ _; exact ⟨rfl, rfl⟩
  | cons l r ih =>
    intro i hne hs hv
    obtain ⟨s1, s2, s3⟩ := List.pairwise_append.1 (show (flat r ++ l).Pairwise Bef from hs)
    have hvr : ∀ s ∈ flat r, s.a ≤ s.b := fun s h => hv s (List.mem_append_left _ h)
    obtain ⟨i1, i2⟩ := ih (i + 1) (fun l hl => hne l (by simp [hl])) s1 hvr
    have hbt : ∀ s ∈ l.take (oldN o l), W s.b = false := fun s hs => by
      obtain ⟨j, hj, rfl⟩ := List.mem_iff_getElem.1 hs
      rw [List.length_take] at hj
      rw [List.getElem_take]
      exact hk _ (oldN_lt o l j (by omega) (by omega))
    have hat : ∀ s ∈ l.take (oldN o l), W s.a = false := fun s hs => by
      cases hc : W s.a with
      | false => rfl
      | true => have := hW _ _ (hv s (List.mem_append_right _ (List.mem_of_mem_take hs))) hc; rw [hbt s hs] at this; cases this
    have e1 : lo W l = lo W (l.drop (oldN o l)) := by
      have := lo_app W (l.take (oldN o l)) (l.drop (oldN o l))
      rw [List.take_append_drop] at this
      have h0 : lo W (l.take (oldN o l)) = 0 := by unfold lo; rw [List.countP_eq_zero]; intro s hs; rw [hat s hs]; simp
      omega
    have e2 : hi W l = hi W (l.drop (oldN o l)) := by
      have := hi_app W (l.take (oldN o l)) (l.drop (oldN o l))
      rw [List.take_append_drop] at this
      have h0 : hi W (l.take (oldN o l)) = 0 := by unfold hi; rw [List.countP_eq_zero]; intro s hs; rw [hbt s hs]; simp
      omega
    unfold dropG
    split
    · constructor
      · show lo W (l.drop (oldN o l)) * 2 ^ i + loL W (i + 1) (dropG o r) = lo W l * 2 ^ i + loL W (i + 1) r
        rw [i1, e1]
      · show hi W (l.drop (oldN o l)) * 2 ^ i + hiL W (i + 1) (dropG o r) = hi W l * 2 ^ i + hiL W (i + 1) r
        rw [i2, e2]
    · rename_i c
      have hln := oldN_le o l
      have hd : l.drop (oldN o l) = [] := List.drop_of_length_le (by omega)
      rw [hd] at e1 e2
      by_cases h0 : 0 < oldN o l
      · obtain ⟨z1, z2⟩ := zero r (i + 1) hvr (dropG_old ho hs hv h0)
        constructor
        · show 0 = lo W l * 2 ^ i + loL W (i + 1) r
          rw [e1, z1]; simp [lo]
        · show 0 = hi W l * 2 ^ i + hiL W (i + 1) r
          rw [e2, z2]; simp [hi]
      · exact absurd (List.eq_nil_of_length_eq_zero (by omega)) (hne l (by simp))
end Go.Sk
end

-- A30
section
namespace Go.Sk

theorem pairUp_app (Q : List Span) : ∀ P : List Span, P.length % 2 = 0 → pairUp (P ++ Q) = pairUp P ++ pairUp Q := by
  intro P
  induction P using pairUp.induct with
  | case1 a b r ih =>
    intro h
    simp only [List.cons_append, pairUp]
    rw [ih (by simp only [List.length_cons] at h; omega)]
  | case2 l h =>
    intro he
    match l, h with
    | [], _ => rfl
    | [x], _ => simp at he
    | x :: y :: r, h => exact absurd rfl (h x y r)
/-- What stays on each level, of a stream. -/
def flowS (k : Nat) (i : Nat) (ls : List (List Span)) (c : List Span) : List (List Span) :=
  match ls with
  | l :: r => (l ++ c).drop (2 * pairsN (l ++ c).length (mostN k i)) :: flowS k (i + 1) r (pairUp ((l ++ c).take (2 * pairsN (l ++ c).length (mostN k i))))
  | [] => if _h : c.length = 0 then [] else c.drop (2 * pairsN c.length (mostN k i)) :: flowS k (i + 1) [] (pairUp (c.take (2 * pairsN c.length (mostN k i))))
termination_by (ls.length, c.length)
decreasing_by
  · exact Prod.Lex.left _ _ (by simp)
  · refine Prod.Lex.right _ ?_
    rw [pairUp_length, List.length_take]
    have := mostN_pos k i
    unfold pairsN; omega
theorem flowS_nil (k i : Nat) : flowS k i [] [] = [] := by rw [flowS, dif_pos List.length_nil]
theorem flowS_cons {k i : Nat} {ls : List (List Span)} {c : List Span} (h : ¬ (ls = [] ∧ c = [])) :
    flowS k i ls c = (ls.headD [] ++ c).drop (2 * pairsN (ls.headD [] ++ c).length (mostN k i)) :: flowS k (i + 1) ls.tail (pairUp ((ls.headD [] ++ c).take (2 * pairsN (ls.headD [] ++ c).length (mostN k i)))) := by
  cases ls with
  | cons l r => rw [flowS]; rfl
  | nil =>
    have hc : ¬ c.length = 0 := fun e => h ⟨rfl, List.eq_nil_of_length_eq_zero e⟩
    rw [flowS, dif_neg hc]; rfl
theorem flowS_eq (k tick : Nat) (ls : List (List Span)) (i : Nat) (come : List Span) (many : Nat) : flowV k tick i ls come many = flowS k i ls (come ++ List.replicate many (⟨tick, tick⟩ : Span)) := by
  refine flow_c k tick (fun i ls c out => out = flowS k i ls c) ?_ ?_ ls i come many
  · intro i; rw [flowS_nil]
  · intro i ls c out hne ih
    rw [flowS_cons hne, ih]
/-- One by one is as all at once. -/
theorem flowS_ind (k : Nat) (p : Nat → List (List Span) → List Span → Prop) (h0 : ∀ i, p i [] [])
    (h1 : ∀ i ls c, ¬ (ls = [] ∧ c = []) → p (i + 1) ls.tail (pairUp ((ls.headD [] ++ c).take (2 * pairsN (ls.headD [] ++ c).length (mostN k i)))) → p i ls c) : ∀ ls i c, p i ls c := by
  have hnil : ∀ b i (c : List Span), c.length ≤ b → p i [] c := by
    intro b
    induction b with
    | zero => intro i c h; obtain rfl := List.eq_nil_of_length_eq_zero (Nat.le_zero.1 h); exact h0 i
    | succ b ih =>
      intro i c h
      by_cases hz : c = []
      · subst hz; exact h0 i
      · refine h1 i [] c (fun e => hz e.2) (ih _ _ ?_)
        rw [pairUp_length, List.length_take]
        have := mostN_pos k i
        have : 0 < c.length := List.length_pos_iff.2 hz
        unfold pairsN; simp only [List.headD_nil, List.nil_append]; omega
  intro ls
  induction ls with
  | nil => intro i c; exact hnil _ i c (Nat.le_refl _)
  | cons l r ih => intro i c; exact h1 i (l :: r) c (by simp) (ih _ _)
theorem flowS_ne {k i : Nat} {ls : List (List Span)} {c : List Span} (h : ¬ (ls = [] ∧ c = [])) : flowS k i ls c ≠ [] := by rw [flowS_cons h]; simp
theorem flowS_two (k : Nat) : ∀ ls i (c d : List Span), flowS k i (flowS k i ls c) d = flowS k i ls (c ++ d) := by
  intro ls i c
  refine flowS_ind k (fun i ls c => ∀ d, flowS k i (flowS k i ls c) d = flowS k i ls (c ++ d)) ?_ ?_ ls i c
  · intro i d; rw [flowS_nil, List.nil_append]
  · intro i ls c hne ih d
    have hne2 : ¬ (ls = [] ∧ c ++ d = []) := fun e => hne ⟨e.1, (List.append_eq_nil_iff.1 e.2).1⟩
    rw [flowS_cons (ls := flowS k i ls c) (fun e => flowS_ne hne e.1), flowS_cons hne, flowS_cons hne2]
    simp only [List.headD_cons, List.tail_cons]
    have e1 : ls.headD [] ++ (c ++ d) = (ls.headD [] ++ c) ++ d := (List.append_assoc _ _ _).symm
    rw [e1]
    generalize ls.headD [] ++ c = L at *
    have hm := mostN_pos k i
    have hp1 : 2 * pairsN L.length (mostN k i) ≤ L.length := by unfold pairsN; omega
    have hn : (L.drop (2 * pairsN L.length (mostN k i)) ++ d).length = L.length - 2 * pairsN L.length (mostN k i) + d.length := by simp
    have hp : pairsN (L ++ d).length (mostN k i) = pairsN L.length (mostN k i) + pairsN (L.drop (2 * pairsN L.length (mostN k i)) ++ d).length (mostN k i) := by
      rw [hn, List.length_append]; unfold pairsN; omega
    rw [hp]
    generalize pairsN (L.drop (2 * pairsN L.length (mostN k i)) ++ d).length (mostN k i) = p2
    generalize pairsN L.length (mostN k i) = p1 at *
    have ed : (L ++ d).drop (2 * (p1 + p2)) = (L.drop (2 * p1) ++ d).drop (2 * p2) := by
      rw [Nat.mul_add, ← List.drop_drop, List.drop_append_of_le_length hp1]
    have et : (L ++ d).take (2 * (p1 + p2)) = L.take (2 * p1) ++ (L.drop (2 * p1) ++ d).take (2 * p2) := by
      rw [Nat.mul_add, List.take_add, List.take_append_of_le_length hp1, List.drop_append_of_le_length hp1]
    rw [ed, et, pairUp_app _ _ (by rw [List.length_take]; omega), ih]
/-- Each level has at most so many. -/
def Most (k : Nat) : Nat → List (List Span) → Prop
  | _, [] => True
  | i, l :: r => l.length ≤ mostN k i ∧ Most k (i + 1) r
theorem flowS_most (k : Nat) : ∀ ls i (c : List Span), Most k i (flowS k i ls c) := by
  refine flowS_ind k (fun i ls c => Most k i (flowS k i ls c)) ?_ ?_
  · intro i; rw [flowS_nil]; exact True.intro
  · intro i ls c hne ih
    rw [flowS_cons hne]
    refine ⟨?_, ih⟩
    rw [List.length_drop]; unfold pairsN; omega
/-- Units of lumps. -/
def unitsE (l : List (Nat × Nat)) : List Span := l.flatMap fun x => List.replicate x.2 ⟨x.1, x.1⟩
theorem unitsE_cons (x : Nat × Nat) (l : List (Nat × Nat)) : unitsE (x :: l) = List.replicate x.2 ⟨x.1, x.1⟩ ++ unitsE l := rfl
theorem unitsE_perm {l m : List (Nat × Nat)} (h : l.Perm m) : (unitsE l).Perm (unitsE m) := List.Perm.flatMap_right _ h
def Ord (l : List (Nat × Nat)) : Prop := l.Pairwise (fun x y => x.1 ≤ y.1)
theorem unitsE_srt {l : List (Nat × Nat)} (h : Ord l) : (unitsE l).Pairwise (fun x y => x.a ≤ y.a) := by
  induction l with
  | nil => exact List.Pairwise.nil
  | cons x r ih =>
    unfold Ord at h
    rw [List.pairwise_cons] at h
    rw [unitsE_cons]
    refine List.pairwise_append.2 ⟨List.pairwise_replicate.2 (Or.inr (Nat.le_refl _)), ih h.2, fun a ha b hb => ?_⟩
    rw [List.eq_of_mem_replicate ha]
    obtain ⟨y, hy, hb⟩ := List.mem_flatMap.1 hb
    rw [List.eq_of_mem_replicate hb]
    exact h.1 y hy
theorem unitsE_one {l : List (Nat × Nat)} : ∀ s ∈ unitsE l, s.a = s.b := by
  intro s hs
  obtain ⟨y, _, hb⟩ := List.mem_flatMap.1 hs
  rw [List.eq_of_mem_replicate hb]
/-- In whatever turn lumps of one tick stand. -/
theorem unitsE_same {l m : List (Nat × Nat)} (h : l.Perm m) (hl : Ord l) (hm : Ord m) : unitsE l = unitsE m := by
  refine List.Perm.eq_of_pairwise (le := fun x y : Span => x.a ≤ y.a) (fun a b ha hb h1 h2 => ?_) (unitsE_srt hl) (unitsE_srt hm) (unitsE_perm h)
  have e1 := unitsE_one a ha
  have e2 := unitsE_one b hb
  cases a; cases b
  simp only at *
  simp only [Span.mk.injEq]
  omega
end Go.Sk
end

-- A31
section
namespace Go.Sk

def sumW (l : List (Nat × Nat)) : Nat := (l.map Prod.snd).sum
theorem sumW_cons (x : Nat × Nat) (l : List (Nat × Nat)) : sumW (x :: l) = x.2 + sumW l := by unfold sumW; simp
theorem sumW_app (l m : List (Nat × Nat)) : sumW (l ++ m) = sumW l + sumW m := by unfold sumW; rw [List.map_append, List.sum_append]
theorem sumW_perm {l m : List (Nat × Nat)} (h : l.Perm m) : sumW l = sumW m := by unfold sumW; exact (h.map _).sum_nat
theorem addH_val {h : Hist} (hT : Tidy h.k.toNat h.ls) {t w : Nat} (ht : t ≤ 9223372036854775807) (hw : 1 ≤ w) (hb : ∀ x ∈ flat h.ls, x.b ≤ t) (htot : totN 0 h.ls + w ≤ 4503599627370496) :
    addH h t w = (⟨h.k.toNat, h.g, flowS h.k.toNat 0 h.ls (List.replicate w ⟨t, t⟩)⟩, 0) := by
  have hc : ¬ (9223372036854775807 < t ∨ ((lastV h.ls).2 = true ∧ t < (lastV h.ls).1)) := by
    rintro (c | ⟨c1, c2⟩)
    · omega
    · obtain ⟨x, hx, e⟩ := last_mem c1
      have := hb x hx; omega
  unfold addH addV
  rw [if_neg (by omega), if_neg hc, if_neg (by omega), flowS_eq, List.nil_append]
noncomputable def foldH (h : Hist) (l : List (Nat × Nat)) : Hist := l.foldl (fun h x => (addH h x.1 x.2).1) h
/-- Lumps, in turn. -/
theorem fold_ok : ∀ (l : List (Nat × Nat)) (h : Hist) (s : List Span) (f : Nat), h.Good → h.ls = flowS h.k.toNat 0 [] s → Tidy h.k.toNat h.ls → (∀ x ∈ flat h.ls, x.b ≤ f) → Ord l → (∀ x ∈ l, f ≤ x.1 ∧ x.1 ≤ 9223372036854775807 ∧ 1 ≤ x.2) → totN 0 h.ls + sumW l ≤ 4503599627370496 →
    foldH h l = ⟨h.k, h.g, flowS h.k.toNat 0 [] (s ++ unitsE l)⟩ ∧ (foldH h l).Good ∧ Tidy h.k.toNat (foldH h l).ls ∧ totN 0 (foldH h l).ls = totN 0 h.ls + sumW l ∧ (∀ m, f ≤ m → (∀ y ∈ l, y.1 ≤ m) → ∀ x ∈ flat (foldH h l).ls, x.b ≤ m) ∧
    ∀ W, Mono W → loL W 0 (foldH h l).ls ≤ loL W 0 h.ls + lo W (unitsE l) ∧ hiL W 0 h.ls + hi W (unitsE l) ≤ hiL W 0 (foldH h l).ls := by
  intro l
  induction l with
  | nil =>
    intro h s f hg hs hT hb _ _ _
    refine ⟨?_, hg, hT, rfl, fun m hm _ x hx => Nat.le_trans (hb x hx) hm, fun W _ => ⟨Nat.le_refl _, Nat.le_refl _⟩⟩
    show h = ⟨h.k, h.g, flowS h.k.toNat 0 [] (s ++ [])⟩
    rw [List.append_nil, ← hs]
  | cons x r ih =>
    intro h s f hg hs hT hb ho he ht
    unfold Ord at ho
    rw [List.pairwise_cons] at ho
    obtain ⟨e1, e2, e3⟩ := he x (by simp)
    rw [sumW_cons] at ht
    obtain ⟨a1, a2⟩ := addH_let hT e2 e3 (fun y hy => Nat.le_trans (hb y hy) e1) (by omega)
    have av := addH_val hT e2 e3 (fun y hy => Nat.le_trans (hb y hy) e1) (by omega)
    obtain ⟨b1, b2, b3, b4⟩ := addH_good hg x.1 x.2 a1
    obtain ⟨c1, c2⟩ := addH_tidy hg hT x.1 x.2 a1
    have hk : (addH h x.1 x.2).1.k.toNat = h.k.toNat := by rw [b2]
    have hls : (addH h x.1 x.2).1.ls = flowS h.k.toNat 0 [] (s ++ List.replicate x.2 ⟨x.1, x.1⟩) := by rw [av, hs, flowS_two]
    obtain ⟨i1, i2, i3, i4, i5, i6⟩ := ih (addH h x.1 x.2).1 (s ++ List.replicate x.2 ⟨x.1, x.1⟩) x.1 b1 (by rw [hk]; exact hls) (by rw [hk]; exact c1) a2 ho.2 (fun y hy => ⟨ho.1 y hy, (he y (by simp [hy])).2⟩) (by omega)
    rw [hk, b2, b3] at i1
    rw [hk] at i3
    show foldH (addH h x.1 x.2).1 r = _ ∧ _
    refine ⟨?_, i2, i3, ?_, ?_, ?_⟩
    · rw [i1, unitsE_cons, List.append_assoc]
    · show totN 0 (foldH (addH h x.1 x.2).1 r).ls = _
      rw [i4, sumW_cons]; omega
    · intro m hm hx
      exact i5 m (hx x (by simp)) (fun y hy => hx y (by simp [hy]))
    · intro W hW
      obtain ⟨j1, j2⟩ := i6 W hW
      obtain ⟨k1, k2⟩ := c2 W hW
      rw [unitsE_cons, lo_app, hi_app, lo_rep, hi_rep]
      refine ⟨?_, ?_⟩
      · show loL W 0 (foldH (addH h x.1 x.2).1 r).ls ≤ _
        omega
      · show _ ≤ hiL W 0 (foldH (addH h x.1 x.2).1 r).ls
        omega
/-- Lumps come to nothing: in turn. -/
theorem fold_new {k : Int} (h1 : 2 ≤ k) (h2 : k ≤ 1024) {l : List (Nat × Nat)} (ho : Ord l) (he : ∀ x ∈ l, x.1 ≤ 9223372036854775807 ∧ 1 ≤ x.2) (ht : sumW l ≤ 4503599627370496) :
    foldH ⟨k, 0, []⟩ l = ⟨k, 0, flowS k.toNat 0 [] (unitsE l)⟩ ∧ (foldH ⟨k, 0, []⟩ l).Good ∧ Tidy k.toNat (foldH ⟨k, 0, []⟩ l).ls ∧ totN 0 (foldH ⟨k, 0, []⟩ l).ls = sumW l ∧ (∀ m, (∀ y ∈ l, y.1 ≤ m) → ∀ x ∈ flat (foldH ⟨k, 0, []⟩ l).ls, x.b ≤ m) ∧
    ∀ W, Mono W → loL W 0 (foldH ⟨k, 0, []⟩ l).ls ≤ lo W (unitsE l) ∧ hi W (unitsE l) ≤ hiL W 0 (foldH ⟨k, 0, []⟩ l).ls := by
  obtain ⟨a, b, c, d, e, f⟩ := fold_ok l ⟨k, 0, []⟩ [] 0 ⟨h1, h2, fun l hl => (by cases hl), fun l hl => (by cases hl), Nat.zero_le _⟩ (flowS_nil _ _).symm (empty_tidy _) (fun x hx => by cases hx) ho (fun x hx => ⟨Nat.zero_le _, he x hx⟩) (by show 0 + _ ≤ _; omega)
  refine ⟨a, b, c, by rw [d]; show 0 + _ = _; omega, fun m hm => e m (Nat.zero_le _) hm, fun W hW => ?_⟩
  obtain ⟨j1, j2⟩ := f W hW
  have z1 : loL W 0 (Hist.mk k 0 []).ls = 0 := rfl
  have z2 : hiL W 0 (Hist.mk k 0 []).ls = 0 := rfl
  omega
/-- In whatever turn. -/
theorem fold_same {k : Int} (h1 : 2 ≤ k) (h2 : k ≤ 1024) {l m : List (Nat × Nat)} (hp : l.Perm m) (ho : Ord l) (hm : Ord m) (he : ∀ x ∈ l, x.1 ≤ 9223372036854775807 ∧ 1 ≤ x.2) (ht : sumW l ≤ 4503599627370496) : foldH ⟨k, 0, []⟩ l = foldH ⟨k, 0, []⟩ m := by
  rw [(fold_new h1 h2 ho he ht).1, (fold_new h1 h2 hm (fun x hx => he x (hp.mem_iff.2 hx)) (by rw [← sumW_perm hp]; exact ht)).1, unitsE_same hp ho hm]
end Go.Sk
end
