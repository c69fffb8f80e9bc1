/- Texts A52 A14b A14c A14d A32 A33 A34 A49 A57 A35 A36 A37 A38 A39 W10a A40 A58 A60 A61, joined. -/
import Derived.Test.YthpfcfacofakoaaGreatRJB
import Derived.Test.YthpfcfacofakoaaGreatRJA
import Derived.Test.YthpfcfacofakoaaGreatSkTp
import Derived.Test.YthpfcfacofakoaaGreatSkRg
set_option linter.unusedSimpArgs false
set_option linter.unusedVariables false
set_option linter.unusedSectionVars false
-- A52
section
namespace Go.Sk

def atE (t : Nat) (e : Event) : Bool := decide (e.t = t)
def Feq (X Y : List Event) : Prop := ∀ t, X.filter (atE t) = Y.filter (atE t)
theorem Feq.refl (X : List Event) : Feq X X := fun _ => rfl
theorem Feq.symm {X Y : List Event} (h : Feq X Y) : Feq Y X := fun t => (h t).symm
theorem Feq.trans {X Y Z : List Event} (h : Feq X Y) (k : Feq Y Z) : Feq X Z := fun t => (h t).trans (k t)
theorem Feq.app {X X' Y Y' : List Event} (h : Feq X X') (k : Feq Y Y') : Feq (X ++ Y) (X' ++ Y') := fun t => by rw [List.filter_append, List.filter_append, h t, k t]
theorem atE_nil {t : Nat} {l : List Event} (h : ∀ e ∈ l, e.t ≠ t) : l.filter (atE t) = [] := by
  rw [List.filter_eq_nil_iff]
  intro e he
  unfold atE
  simpa using h e he
theorem Feq.swap {U V : List Event} (h : ∀ u ∈ U, ∀ v ∈ V, u.t ≠ v.t) : Feq (U ++ V) (V ++ U) := fun t => by
  rw [List.filter_append, List.filter_append]
  by_cases c : ∃ u ∈ U, u.t = t
  · obtain ⟨u, hu, rfl⟩ := c
    rw [atE_nil (l := V) (fun v hv e => h u hu v hv e.symm), List.append_nil, List.nil_append]
  · rw [atE_nil (l := U) (fun u hu e => c ⟨u, hu, e⟩), List.append_nil, List.nil_append]
theorem Feq.mem {X Y : List Event} (h : Feq X Y) {e : Event} : e ∈ X ↔ e ∈ Y := by
  have hh := h e.t
  have key : ∀ l : List Event, e ∈ l ↔ e ∈ l.filter (atE e.t) := fun l => by
    rw [List.mem_filter]; unfold atE; simp
  rw [key X, key Y, hh]
theorem Feq.perm {X Y : List Event} (h : Feq X Y) : X.Perm Y := by
  rw [List.perm_iff_count]
  intro e
  have key : ∀ l : List Event, l.count e = (l.filter (atE e.t)).count e := fun l => by
    rw [List.count_filter]; unfold atE; simp
  rw [key X, key Y, h e.t]
theorem Feq.len {X Y : List Event} (h : Feq X Y) : X.length = Y.length := h.perm.length_eq
theorem feq_cons {x : Event} {X Y : List Event} (h : Feq (x :: X) (x :: Y)) : Feq X Y := fun t => by
  have := h t
  rw [List.filter_cons, List.filter_cons] at this
  split at this
  · exact List.cons.inj this |>.2
  · exact this
/-- There is one such turn. -/
theorem srt_uniq : ∀ (Y Z : List Event), Srt Y → Srt Z → Feq Y Z → Y = Z := by
  intro Y
  induction Y with
  | nil => intro Z _ _ h; exact (List.eq_nil_of_length_eq_zero (by rw [← h.len]; rfl)).symm
  | cons y Y ih =>
    intro Z hy hz h
    cases Z with
    | nil => have := h.len; simp at this
    | cons z Z =>
      unfold Srt at hy hz
      rw [List.pairwise_cons] at hy hz
      have hle : ∀ {a : Event} {l : List Event}, (∀ x ∈ l, a.t ≤ x.t) → ∀ x ∈ a :: l, a.t ≤ x.t := fun h x hx => by
        rcases List.mem_cons.1 hx with rfl | hx
        · exact Nat.le_refl _
        · exact h x hx
      have h1 : y.t ≤ z.t := hle hy.1 z (h.mem.2 (by simp))
      have h2 : z.t ≤ y.t := hle hz.1 y (h.mem.1 (by simp))
      have hyz : y = z := by
        have := h y.t
        rw [List.filter_cons, List.filter_cons, if_pos (by unfold atE; simp), if_pos (by unfold atE; simp; omega)] at this
        exact (List.cons.inj this).1
      subst hyz
      rw [ih Z hy.2 hz.2 (feq_cons h)]

/-! The document's way: one by one. -/
def putE (l : List Event) (e : Event) : List Event := l.filter (fun x => decide (x.t ≤ e.t)) ++ e :: l.filter (fun x => !decide (x.t ≤ e.t))
def gatherE (l : List Event) : List Event := l.foldl putE []
theorem putE_ok {l : List Event} (h : Srt l) (e : Event) : Srt (putE l e) ∧ Feq (l ++ [e]) (putE l e) := by
  unfold putE
  refine ⟨?_, fun t => ?_⟩
  · unfold Srt at h ⊢
    refine List.pairwise_append.2 ⟨h.filter _, List.pairwise_cons.2 ⟨fun x hx => ?_, h.filter _⟩, fun x hx y hy => ?_⟩
    · have := (List.mem_filter.1 hx).2
      simp at this; omega
    · have h1 := (List.mem_filter.1 hx).2
      simp at h1
      rcases List.mem_cons.1 hy with rfl | hy
      · exact h1
      · have h2 := (List.mem_filter.1 hy).2
        simp at h2; omega
  · rw [List.filter_append, List.filter_append, show e :: l.filter (fun x => !decide (x.t ≤ e.t)) = [e] ++ l.filter (fun x => !decide (x.t ≤ e.t)) from rfl, List.filter_append, List.filter_filter, List.filter_filter]
    by_cases c : t ≤ e.t
    · have e1 : l.filter (fun x => atE t x && decide (x.t ≤ e.t)) = l.filter (atE t) := by
        congr 1; funext x; unfold atE
        by_cases q : x.t = t
        · subst q; simp [c]
        · simp [q]
      have e2 : l.filter (fun x => atE t x && !decide (x.t ≤ e.t)) = [] := by
        rw [List.filter_eq_nil_iff]
        intro x _
        unfold atE
        by_cases q : x.t = t
        · subst q; simp [c]
        · simp [q]
      rw [e1, e2, List.append_nil]
    · have e1 : l.filter (fun x => atE t x && decide (x.t ≤ e.t)) = [] := by
        rw [List.filter_eq_nil_iff]
        intro x _
        unfold atE
        by_cases q : x.t = t
        · subst q; simp [c]
        · simp [q]
      have e2 : l.filter (fun x => atE t x && !decide (x.t ≤ e.t)) = l.filter (atE t) := by
        congr 1; funext x; unfold atE
        by_cases q : x.t = t
        · subst q; simp [c]
        · simp [q]
      have e3 : [e].filter (atE t) = [] := atE_nil (fun x hx q => by obtain rfl := List.mem_singleton.1 hx; omega)
      rw [e1, e2, e3, List.append_nil, List.nil_append, List.nil_append]
theorem gather_go : ∀ (l Y : List Event), Srt Y → Srt (l.foldl putE Y) ∧ Feq (Y ++ l) (l.foldl putE Y) := by
  intro l
  induction l with
  | nil => intro Y h; exact ⟨h, by rw [List.append_nil]; exact Feq.refl _⟩
  | cons e l ih =>
    intro Y h
    obtain ⟨h1, h2⟩ := putE_ok h e
    obtain ⟨i1, i2⟩ := ih (putE Y e) h1
    refine ⟨i1, Feq.trans ?_ i2⟩
    have := h2.app (Feq.refl l)
    rw [List.append_assoc] at this
    exact this
theorem gather_ok (l : List Event) : Srt (gatherE l) ∧ Feq l (gatherE l) := gather_go l [] List.Pairwise.nil
theorem gather_eq {l Y : List Event} (h : Srt Y) (k : Feq l Y) : Y = gatherE l := srt_uniq _ _ h (gather_ok l).1 (k.symm.trans (gather_ok l).2)
theorem gather_len (l : List Event) : (gatherE l).length = l.length := (gather_ok l).2.len.symm

/-! Merging. -/
theorem srt_app {X Y : List Event} (h : Srt X) (k : Srt Y) (hxy : ∀ x ∈ X, ∀ y ∈ Y, x.t ≤ y.t) : Srt (X ++ Y) := List.pairwise_append.2 ⟨h, k, hxy⟩
theorem srt_of_app {X Y : List Event} (h : Srt (X ++ Y)) : Srt X ∧ Srt Y ∧ ∀ x ∈ X, ∀ y ∈ Y, x.t ≤ y.t := List.pairwise_append.1 h
theorem merge_two {U1 U2 V1 V2 W1 W2 : List Event} (h1 : Srt W1) (k1 : Feq (U1 ++ V1) W1) (h2 : Srt W2) (k2 : Feq (U2 ++ V2) W2)
    (a : ∀ x ∈ U1, ∀ y ∈ U2, x.t ≤ y.t) (b : ∀ x ∈ U1, ∀ y ∈ V2, x.t ≤ y.t) (c : ∀ x ∈ V1, ∀ y ∈ U2, x.t < y.t) (d : ∀ x ∈ V1, ∀ y ∈ V2, x.t ≤ y.t) :
    Srt (W1 ++ W2) ∧ Feq (U1 ++ U2 ++ (V1 ++ V2)) (W1 ++ W2) := by
  refine ⟨srt_app h1 h2 fun x hx y hy => ?_, ?_⟩
  · rcases List.mem_append.1 (k1.mem.2 hx) with hx | hx <;> rcases List.mem_append.1 (k2.mem.2 hy) with hy | hy
    · exact a x hx y hy
    · exact b x hx y hy
    · exact Nat.le_of_lt (c x hx y hy)
    · exact d x hx y hy
  · have s : Feq (U2 ++ V1) (V1 ++ U2) := Feq.swap fun u hu v hv e => by have := c v hv u hu; omega
    have e1 : U1 ++ U2 ++ (V1 ++ V2) = U1 ++ (U2 ++ V1) ++ V2 := by simp
    have e2 : U1 ++ V1 ++ (U2 ++ V2) = U1 ++ (V1 ++ U2) ++ V2 := by simp
    have := ((Feq.refl U1).app s).app (Feq.refl V2)
    rw [← e1, ← e2] at this
    exact this.trans (k1.app k2)
theorem put_ins {Y1 Y2 : List Event} {e : Event} (h : Srt (Y1 ++ Y2)) (h1 : ∀ y ∈ Y1, y.t ≤ e.t) (h2 : ∀ y ∈ Y2, e.t < y.t) : Srt (Y1 ++ e :: Y2) ∧ Feq (Y1 ++ Y2 ++ [e]) (Y1 ++ e :: Y2) := by
  obtain ⟨a, b, c⟩ := srt_of_app h
  refine ⟨srt_app a (List.pairwise_cons.2 ⟨fun y hy => Nat.le_of_lt (h2 y hy), b⟩) fun x hx y hy => ?_, ?_⟩
  · rcases List.mem_cons.1 hy with rfl | hy
    · exact h1 x hx
    · exact c x hx y hy
  · have s : Feq (Y2 ++ [e]) ([e] ++ Y2) := Feq.swap fun u hu v hv q => by
      obtain rfl := List.mem_singleton.1 hv
      have := h2 u hu; omega
    have := (Feq.refl Y1).app s
    rw [← List.append_assoc] at this
    exact this
end Go.Sk
end

-- A14b
section
namespace Go.Sk

theorem insE_mem {l : List Event} {e x : Event} : x ∈ insE l e ↔ x = e ∨ x ∈ l := by
  unfold insE
  simp only [List.mem_append, List.mem_singleton]
  constructor
  · rintro ((h | h) | h)
    · exact Or.inr (List.mem_of_mem_take h)
    · exact Or.inl h
    · exact Or.inr (List.mem_of_mem_drop h)
  · rintro (h | h)
    · exact Or.inl (Or.inr h)
    · rw [← List.take_append_drop (belowN e.t l) l] at h
      rcases List.mem_append.1 h with h | h
      · exact Or.inl (Or.inl h)
      · exact Or.inr h
theorem take_below {f : Nat} {l : List Event} : ∀ e ∈ l.take (belowN f l), e.t ≤ f := by
  intro e he
  obtain ⟨j, hj, rfl⟩ := List.mem_iff_getElem.1 he
  rw [List.length_take] at hj
  rw [List.getElem_take]
  exact belowN_lt f l j (by omega) (by omega)
theorem drop_below {f : Nat} {l : List Event} (hs : Srt l) : ∀ e ∈ l.drop (belowN f l), f < e.t := by
  intro e he
  obtain ⟨j, hj, rfl⟩ := List.mem_iff_getElem.1 he
  rw [List.length_drop] at hj
  rw [List.getElem_drop]
  have h0 := belowN_at f l (by omega)
  by_cases c : j = 0
  · subst c; simpa using h0
  · have := List.pairwise_iff_getElem.1 hs (belowN f l) (belowN f l + j) (by omega) (by omega) (by omega)
    omega
theorem insE_srt {l : List Event} (hs : Srt l) (e : Event) : Srt (insE l e) := by
  unfold insE Srt
  refine List.pairwise_append.2 ⟨List.pairwise_append.2 ⟨hs.take _, List.pairwise_singleton _ _, fun x hx y hy => ?_⟩, hs.drop _, fun x hx y hy => ?_⟩
  · simp only [List.mem_singleton] at hy; subst hy; exact take_below x hx
  · have h2 := drop_below hs y hy
    rcases List.mem_append.1 hx with hx | hx
    · have := take_below x hx; omega
    · simp only [List.mem_singleton] at hx; subst hx; omega
theorem insE_len (l : List Event) (e : Event) : (insE l e).length = l.length + 1 := by
  unfold insE
  have := belowN_le e.t l
  simp only [List.length_append, List.length_take, List.length_drop, List.length_singleton]; omega

/-- What settling does. -/
theorem settleB_ok {b : Buf} (hs : Srt b.evs) (hf : b.front ≤ b.mark) (hm : ∀ e ∈ b.evs, e.t ≤ b.mark) :
    (settleB b).1.late = b.late ∧ (settleB b).1.room = b.room ∧ (settleB b).1.mark = b.mark ∧ b.front ≤ (settleB b).1.front ∧ (settleB b).1.front ≤ b.mark ∧ b.evs = (settleB b).2 ++ (settleB b).1.evs ∧
    (∀ e ∈ (settleB b).2, e.t ≤ (settleB b).1.front) ∧ (∀ e ∈ (settleB b).1.evs, (settleB b).1.front < e.t) ∧ Srt (settleB b).2 ∧ Srt (settleB b).1.evs ∧ (settleB b).1.evs.length ≤ b.room.toNat := by
  obtain ⟨h1, h2, h3, h4⟩ := settle_facts b.room.toNat b.evs (max b.front (b.mark - b.late))
  have h5 := h4 b.mark (by omega) hm
  unfold settleB
  dsimp only
  refine ⟨rfl, rfl, rfl, by omega, h5, (List.take_append_drop _ _).symm, ?_, ?_, hs.take _, hs.drop _, by rw [List.length_drop]; exact h3⟩
  · rw [h2]; exact take_below
  · rw [h2]; exact drop_below hs

structure Skt where (win : Nat) (b : Buf) (past : Hist)
  deriving DecidableEq
def zeroK : Skt := ⟨0, zeroB, zeroH⟩
noncomputable def passK (s : Skt) (b : Buf) (out : List Event) : Skt := ⟨s.win, b, dropH (dropG (oldV b.front s.win)) (passV s.past out)⟩
noncomputable def addK (s : Skt) (e : Event) : Skt × Int :=
  if (pushB s.b e).2 = 0 then (if 4503599627370496 < totN 0 s.past.ls + sumE Event.w s.b.evs + e.w then (zeroK, 5) else (passK s (pushB s.b e).1.1 (pushB s.b e).1.2, 0)) else (zeroK, (pushB s.b e).2)
noncomputable def moveK (s : Skt) (t : Nat) : Skt × Int := if (moveB s.b t).2 = 0 then (passK s (moveB s.b t).1.1 (moveB s.b t).1.2, 0) else (zeroK, (moveB s.b t).2)
/-- A deed. -/
noncomputable def oneK (s : Skt) (e : Event) : Skt × Int := if e.w = 0 then moveK s e.t else addK s e

structure Skt.Good (s : Skt) : Prop where
  w1 : 1 ≤ s.win
  w2 : s.win ≤ 4611686018427387904
  lt : s.b.late ≤ 4611686018427387904
  r1 : 1 ≤ s.b.room
  r2 : s.b.room ≤ 1024
  mkk : s.b.mark ≤ 9223372036854775807
  fm : s.b.front ≤ s.b.mark
  ev : ∀ e ∈ s.b.evs, s.b.front < e.t ∧ e.t ≤ s.b.mark ∧ 1 ≤ e.w
  sr : Srt s.b.evs
  len : s.b.evs.length ≤ s.b.room.toNat
  pg : s.past.Good
  pt : Tidy s.past.k.toNat s.past.ls
  pf : ∀ x ∈ flat s.past.ls, x.b ≤ s.b.front
  tot : totN 0 s.past.ls + sumE Event.w s.b.evs ≤ 4503599627370496
/-- A sketch, and all that came to it. -/
def Skt.Led (s : Skt) (all : List Event) : Prop := ∃ P : List Event, (∀ f, sumE f all = sumE f P + sumE f s.b.evs) ∧
  (∀ W, Mono W → (∀ x, oldV s.b.front s.win x = true → W x = false) → loL W 0 s.past.ls ≤ sumE (wt W) P ∧ sumE (wt W) P ≤ hiL W 0 s.past.ls) ∧ ∀ e ∈ P, e.t ≤ s.b.front
theorem sub64_eq' {f w : Nat} (h : w ≤ f) (hf : f < 18446744073709551616) : sub64 f w = f - w := sub64_le hf h
theorem oldV_more {f f' w x : Nat} (hf : f ≤ f') (hb : f' < 18446744073709551616) (h : oldV f w x = true) : oldV f' w x = true := by
  unfold oldV at *
  simp only [Bool.and_eq_true, decide_eq_true_eq] at *
  rw [sub64_eq' h.1 (by omega)] at h
  rw [sub64_eq' (by omega) hb]
  omega
/-- Passed on, out of what there was. -/
theorem passK_gen {s : Skt} (hg : s.Good) {b' : Buf} {out evs : List Event} (q1 : b'.late = s.b.late) (q2 : b'.room = s.b.room) (q3 : s.b.mark ≤ b'.mark) (q3' : b'.mark ≤ 9223372036854775807) (q4 : s.b.front ≤ b'.front) (q5 : b'.front ≤ b'.mark)
    (q6 : evs = out ++ b'.evs) (q7 : ∀ e ∈ out, e.t ≤ b'.front) (q8 : ∀ e ∈ b'.evs, b'.front < e.t) (q9 : Srt out) (q10 : Srt b'.evs) (q11 : b'.evs.length ≤ b'.room.toNat)
    (hev : ∀ e ∈ evs, s.b.front ≤ e.t ∧ e.t ≤ b'.mark ∧ 1 ≤ e.w) (htot : totN 0 s.past.ls + sumE Event.w evs ≤ 4503599627370496) :
    (passK s b' out).Good ∧ (passK s b' out).past.k = s.past.k ∧ (passK s b' out).past.g = s.past.g ∧ (passV s.past out).Good ∧
    (∀ all new, s.Led all → (∀ f, sumE f evs = sumE f s.b.evs + sumE f new) → (passK s b' out).Led (all ++ new)) := by
  have hfm := hg.fm
  have hout : ∀ e ∈ out, s.b.front ≤ e.t ∧ e.t ≤ 9223372036854775807 ∧ 1 ≤ e.w := fun e he => by
    have h1 := hev e (by rw [q6]; exact List.mem_append_left _ he)
    exact ⟨h1.1, by omega, h1.2.2⟩
  have hsum : ∀ f, sumE f evs = sumE f out + sumE f b'.evs := fun f => by rw [q6, sumE_app]
  have hst := hsum Event.w
  obtain ⟨p1, p2, p3, p4, p5, p6, p7⟩ := pass_ok out s.past s.b.front hg.pg hg.pt hg.pf q9 hout (by omega)
  have ho := oldV_anti b'.front s.win
  have ht := dropG_tidy ho p2
  have hpf : ∀ x ∈ flat (passV s.past out).ls, x.b ≤ b'.front := p6 b'.front (by omega) q7
  have hdt := dropG_tot (oldV b'.front s.win) (passV s.past out).ls 0
  refine ⟨⟨hg.w1, hg.w2, by show b'.late ≤ _; rw [q1]; exact hg.lt, by show 1 ≤ b'.room; rw [q2]; exact hg.r1, by show b'.room ≤ _; rw [q2]; exact hg.r2, by show b'.mark ≤ _; omega, by show b'.front ≤ b'.mark; omega, ?_, q10, ?_, dropH_good p1, ht, ?_, ?_⟩, p3, p4, p1, ?_⟩
  · intro e he
    have h1 := hev e (by rw [q6]; exact List.mem_append_right _ he)
    exact ⟨q8 e he, by show e.t ≤ b'.mark; omega, h1.2.2⟩
  · exact q11
  · intro x hx; exact hpf x ((dropG_sub _ _).subset hx)
  · show totN 0 (dropG _ (passV s.past out).ls) + sumE Event.w b'.evs ≤ _; omega
  · rintro all new ⟨P, l1, l2, l3⟩ hnew
    refine ⟨P ++ out, fun f => ?_, fun W hW hk => ?_, fun e he => ?_⟩
    · have h1 := l1 f; have h2 := hnew f; have h3 := hsum f
      show sumE f (all ++ new) = sumE f (P ++ out) + sumE f b'.evs
      rw [sumE_app, sumE_app]; omega
    · have hk0 : ∀ x, oldV s.b.front s.win x = true → W x = false := fun x hx => hk x (oldV_more (by show s.b.front ≤ b'.front; omega) (by show b'.front < _; omega) hx)
      obtain ⟨c1, c2⟩ := l2 W hW hk0
      obtain ⟨d1, d2⟩ := p7 W hW
      obtain ⟨e1, e2⟩ := dropG_lo ho hW hk (passV s.past out).ls 0 p1.ne p2.srt p2.val
      rw [sumE_app]
      constructor
      · show loL W 0 (dropG (oldV b'.front s.win) (passV s.past out).ls) ≤ _
        rw [e1]; omega
      · show _ ≤ hiL W 0 (dropG (oldV b'.front s.win) (passV s.past out).ls)
        rw [e2]; omega
    · rcases List.mem_append.1 he with he | he
      · have := l3 e he; show e.t ≤ b'.front; omega
      · exact q7 e he
/-- From a buffer, that was good and has what else came, on. -/
theorem passK_ok {s : Skt} (hg : s.Good) {b : Buf} (hb1 : b.late = s.b.late) (hb2 : b.room = s.b.room) (hb3 : b.front = s.b.front) (hb4 : s.b.mark ≤ b.mark) (hb5 : b.mark ≤ 9223372036854775807) (hs : Srt b.evs)
    (hev : ∀ e ∈ b.evs, s.b.front ≤ e.t ∧ e.t ≤ b.mark ∧ 1 ≤ e.w) (htot : totN 0 s.past.ls + sumE Event.w b.evs ≤ 4503599627370496) :
    (passK s (settleB b).1 (settleB b).2).Good ∧ (passK s (settleB b).1 (settleB b).2).past.k = s.past.k ∧ (passK s (settleB b).1 (settleB b).2).past.g = s.past.g ∧ (passV s.past (settleB b).2).Good ∧
    (∀ all new, s.Led all → (∀ f, sumE f b.evs = sumE f s.b.evs + sumE f new) → (passK s (settleB b).1 (settleB b).2).Led (all ++ new)) := by
  have hfm := hg.fm
  obtain ⟨q1, q2, q3, q4, q5, q6, q7, q8, q9, q10, q11⟩ := settleB_ok hs (by omega) (fun e he => (hev e he).2.1)
  exact passK_gen hg (q1.trans hb1) (q2.trans hb2) (by omega) (by omega) (by omega) (by omega) q6 q7 q8 q9 q10 (by rw [q2]; exact q11) (fun e he => by have := hev e he; omega) htot
/-- A deed that is done. -/
theorem oneK_ok {s : Skt} (hg : s.Good) (e : Event) (h0 : (oneK s e).2 = 0) : (oneK s e).1.Good ∧ (oneK s e).1.past.k = s.past.k ∧ (oneK s e).1.win = s.win ∧ e.w ≤ 4503599627370496 ∧
    ∀ all, s.Led all → (oneK s e).1.Led (if 0 < e.w then all ++ [e] else all) := by
  unfold oneK at h0 ⊢
  by_cases hw : e.w = 0
  · rw [if_pos hw] at h0 ⊢
    unfold moveK at h0 ⊢
    by_cases hm : (moveB s.b e.t).2 = 0
    rotate_left
    · rw [if_neg hm] at h0; exact absurd h0 hm
    rw [if_pos hm] at h0 ⊢
    unfold moveB at hm ⊢
    by_cases ht : 9223372036854775807 < e.t
    · rw [if_pos ht] at hm; simp at hm
    rw [if_neg ht]
    have hmk := hg.mkk
    obtain ⟨r1, r2, _, _, r3⟩ := passK_ok hg (b := ⟨s.b.late, s.b.room, max s.b.mark e.t, s.b.front, s.b.evs⟩) rfl rfl rfl (by dsimp only; omega) (by dsimp only; omega) hg.sr
      (fun x hx => by have := hg.ev x hx; dsimp only; omega) hg.tot
    refine ⟨r1, r2, rfl, by omega, fun all hl => ?_⟩
    rw [if_neg (by omega)]
    have := r3 all [] hl (fun f => by rw [sumE_nil]; rfl)
    rwa [List.append_nil] at this
  · rw [if_neg hw] at h0 ⊢
    unfold addK at h0 ⊢
    by_cases hm : (pushB s.b e).2 = 0
    rotate_left
    · rw [if_neg hm] at h0; exact absurd h0 hm
    rw [if_pos hm] at h0 ⊢
    by_cases hh : 4503599627370496 < totN 0 s.past.ls + sumE Event.w s.b.evs + e.w
    · rw [if_pos hh] at h0; simp at h0
    rw [if_neg hh]
    unfold pushB at hm ⊢
    rw [if_neg hw] at hm ⊢
    by_cases ht : 9223372036854775807 < e.t
    · rw [if_pos ht] at hm; simp at hm
    rw [if_neg ht] at hm ⊢
    by_cases hf : e.t < s.b.front
    · rw [if_pos hf] at hm; simp at hm
    rw [if_neg hf]
    have hmk := hg.mkk
    have hse := sumE_ins Event.w s.b.evs e
    obtain ⟨r1, r2, _, _, r3⟩ := passK_ok hg (b := ⟨s.b.late, s.b.room, max s.b.mark e.t, s.b.front, insE s.b.evs e⟩) rfl rfl rfl (by dsimp only; omega) (by dsimp only; omega) (insE_srt hg.sr e)
      (fun x hx => by
        dsimp only at hx ⊢
        rcases insE_mem.1 hx with rfl | hx
        · omega
        · have := hg.ev x hx; omega) (by dsimp only; omega)
    refine ⟨r1, r2, rfl, by omega, fun all hl => ?_⟩
    rw [if_pos (by omega)]
    exact r3 all [e] hl (fun f => by rw [sumE_ins, sumE_cons, sumE_nil, Nat.add_zero])
end Go.Sk
end

-- A14c
section
namespace Go.Sk

noncomputable def wtT (tick span : Nat) (e : Event) : Nat := if e.t ≤ tick ∧ inW tick span e.t = true then e.w else 0
theorem within_eq (tick span : Nat) (e : Event) : withinV tick span e = true ↔ (e.t ≤ tick ∧ inW tick span e.t = true) := by
  unfold withinV inW
  simp only [Bool.and_eq_true, decide_eq_true_eq, Bool.or_eq_true, gt_iff_lt]
theorem spanV_eq (tick span : Nat) : ∀ (l : List Event) (n : Nat), n + sumE (wtT tick span) l < 18446744073709551616 → sumV (withinV tick span) Event.w n l = n + sumE (wtT tick span) l := by
  intro l
  induction l with
  | nil => intro n _; rfl
  | cons e r ih =>
    intro n h
    rw [sumE_cons] at h ⊢
    show sumV _ _ (if withinV tick span e = true then m64 (n + e.w) else n) r = _
    unfold wtT at h ⊢
    by_cases c : withinV tick span e = true
    · rw [if_pos ((within_eq tick span e).1 c)] at h ⊢
      rw [if_pos c, m64_id (by omega), ih _ (by unfold wtT; omega)]; unfold wtT; omega
    · rw [if_neg (fun h => c ((within_eq tick span e).2 h))] at h ⊢
      rw [if_neg c, ih _ (by unfold wtT; omega)]; unfold wtT; omega
theorem wtT_le (tick span : Nat) (e : Event) : wtT tick span e ≤ e.w := by unfold wtT; split <;> omega
theorem sumE_congr {f g : Event → Nat} {l : List Event} (h : ∀ e ∈ l, f e = g e) : sumE f l = sumE g l := by
  unfold sumE; rw [List.map_congr_left h]
theorem win_old {front win tick span : Nat} (h1 : front ≤ tick) (h2 : tick ≤ 9223372036854775807) (h3 : span ≤ win) : ∀ x, oldV front win x = true → inW tick span x = false := by
  intro x hx
  unfold oldV at hx
  unfold inW
  simp only [Bool.and_eq_true, decide_eq_true_eq] at hx
  rw [sub64_eq' hx.1 (by omega)] at hx
  rw [sub64_eq' (f := tick) (by omega) (by omega)]
  simp only [Bool.or_eq_false_iff, decide_eq_false_iff_not]
  omega
/-- What a query tells, in plain numbers. -/
theorem told_eq {s : Skt} (hg : s.Good) (tick span : Nat) : spanV s.b.evs tick span = sumE (wtT tick span) s.b.evs ∧ estV s.past.ls tick span + spanV s.b.evs tick span ≤ 4503599627370496 ∧
    estV s.past.ls tick span = loL (inW tick span) 0 s.past.ls + (hiL (inW tick span) 0 s.past.ls - loL (inW tick span) 0 s.past.ls) / 2 := by
  have h1 := sumE_le (wtT_le tick span) s.b.evs
  have ht := hg.tot
  have e1 : spanV s.b.evs tick span = sumE (wtT tick span) s.b.evs := by
    unfold spanV; rw [spanV_eq _ _ _ _ (by omega), Nat.zero_add]
  obtain ⟨g1, g2, g3⟩ := est_eq hg.pt.val (by have := hg.pg.len; omega) hg.pg.tot tick span
  have g4 := hiL_le_tot (inW tick span) s.past.ls 0
  refine ⟨e1, by omega, g1⟩
/-- An empty one. -/
def newK (k : Int) (win late : Nat) (room : Int) : Skt := ⟨win, ⟨late, room, 0, 0, []⟩, ⟨k, 0, []⟩⟩
theorem newK_good {k : Int} {win late : Nat} {room : Int} (h1 : 2 ≤ k) (h2 : k ≤ 1024) (h3 : 1 ≤ win) (h4 : win ≤ 4611686018427387904) (h5 : late ≤ 4611686018427387904) (h6 : 1 ≤ room) (h7 : room ≤ 1024) : (newK k win late room).Good ∧ (newK k win late room).Led [] :=
  ⟨⟨h3, h4, h5, h6, h7, Nat.zero_le _, Nat.zero_le _, fun e he => (by cases he), List.Pairwise.nil, Nat.zero_le _, ⟨h1, h2, fun l hl => (by cases hl), fun l hl => (by cases hl), Nat.zero_le _⟩, empty_tidy _, fun x hx => (by cases hx), Nat.zero_le _⟩,
   ⟨[], fun f => rfl, fun W _ _ => ⟨Nat.le_refl _, Nat.le_refl _⟩, fun e he => (by cases he)⟩⟩
noncomputable def madeKo : List Event → Skt → List Event → Skt × List Event
  | [], s, all => (s, all)
  | e :: r, s, all => if (oneK s e).2 = 0 then madeKo r (oneK s e).1 (if 0 < e.w then all ++ [e] else all) else madeKo r s all
noncomputable def madeK (k : Int) (n0 n1 : Nat) (l : List Event) : Skt × List Event := madeKo (l.take 30) (newK (2 + max k 0 % 30) (1 + n0 % 1000) (n1 % 100) (1 + (n1 % 7 : Nat))) []
theorem madeKo_ok : ∀ (l : List Event) (s : Skt) (all : List Event), s.Good → s.Led all → (madeKo l s all).1.Good ∧ (madeKo l s all).1.Led (madeKo l s all).2 ∧ (madeKo l s all).1.past.k = s.past.k ∧ (madeKo l s all).1.win = s.win ∧
    (madeKo l s all).2.length ≤ all.length + l.length ∧ ((∀ e ∈ all, e.w ≤ 4503599627370496) → ∀ e ∈ (madeKo l s all).2, e.w ≤ 4503599627370496) := by
  intro l
  induction l with
  | nil => intro s all hg hl; exact ⟨hg, hl, rfl, rfl, Nat.le_refl _, fun h => h⟩
  | cons e r ih =>
    intro s all hg hl
    unfold madeKo
    by_cases c : (oneK s e).2 = 0
    · rw [if_pos c]
      obtain ⟨o1, o2, o3, o4, o5⟩ := oneK_ok hg e c
      obtain ⟨i1, i2, i3, i4, i5, i6⟩ := ih _ _ o1 (o5 all hl)
      refine ⟨i1, i2, i3.trans o2, i4.trans o3, ?_, fun h => i6 fun x hx => ?_⟩
      · refine Nat.le_trans i5 ?_
        split <;> simp <;> omega
      · split at hx
        · rcases List.mem_append.1 hx with hx | hx
          · exact h x hx
          · simp only [List.mem_singleton] at hx; subst hx; exact o4
        · exact h x hx
    · rw [if_neg c]
      obtain ⟨i1, i2, i3, i4, i5, i6⟩ := ih s all hg hl
      exact ⟨i1, i2, i3, i4, by simp only [List.length_cons]; omega, i6⟩
end Go.Sk
end

-- A14d
section
namespace Go.Sk

structure Pre (s : Skt) (out : List Event) : Prop where
  good : ∀ i, i ≤ out.length → (passV s.past (out.take i)).Good
  tidy : Tidy (passV s.past out).k.toNat (passV s.past out).ls
  len : out.length < 1048576
  w : ∀ e ∈ out, e.w < 18446744073709551616
theorem mem_sumE (f : Event → Nat) {l : List Event} {e : Event} (h : e ∈ l) : f e ≤ sumE f l := by
  induction l with
  | nil => cases h
  | cons x r ih =>
    rw [sumE_cons]
    rcases List.mem_cons.1 h with rfl | h
    · omega
    · have := ih h; omega
theorem passK_pre {s : Skt} (hg : s.Good) {b : Buf} (hb1 : b.late = s.b.late) (hb2 : b.room = s.b.room) (hb3 : b.front = s.b.front) (hb4 : s.b.mark ≤ b.mark) (hb5 : b.mark ≤ 9223372036854775807) (hs : Srt b.evs)
    (hev : ∀ e ∈ b.evs, s.b.front ≤ e.t ∧ e.t ≤ b.mark ∧ 1 ≤ e.w) (htot : totN 0 s.past.ls + sumE Event.w b.evs ≤ 4503599627370496) (hl : b.evs.length < 1048576) : Pre s (settleB b).2 := by
  have hfm := hg.fm
  obtain ⟨q1, q2, q3, q4, q5, q6, q7, q8, q9, q10, q11⟩ := settleB_ok hs (by omega) (fun e he => (hev e he).2.1)
  generalize settleB b = R at *
  obtain ⟨b', out⟩ := R
  dsimp only at q6 q7 q9 ⊢
  have hout : ∀ e ∈ out, s.b.front ≤ e.t ∧ e.t ≤ 9223372036854775807 ∧ 1 ≤ e.w := fun e he => by
    have h1 := hev e (by rw [q6]; exact List.mem_append_left _ he)
    exact ⟨h1.1, by omega, h1.2.2⟩
  have hsum : sumE Event.w b.evs = sumE Event.w out + sumE Event.w b'.evs := by rw [q6, sumE_app]
  have hlen : b.evs.length = out.length + b'.evs.length := by rw [q6, List.length_append]
  obtain ⟨p1, p2, _⟩ := pass_ok out s.past s.b.front hg.pg hg.pt hg.pf q9 hout (by omega)
  refine ⟨fun i hi => ?_, p2, by omega, fun e he => by have := mem_sumE Event.w he; omega⟩
  have hsp := sumE_split Event.w out i
  exact (pass_ok (out.take i) s.past s.b.front hg.pg hg.pt hg.pf (q9.take i) (fun e he => hout e (List.mem_of_mem_take he)) (by omega)).1
theorem move_pre {s : Skt} (hg : s.Good) (t : Nat) (h : (moveB s.b t).2 = 0) : Pre s (moveB s.b t).1.2 := by
  unfold moveB at h ⊢
  by_cases ht : 9223372036854775807 < t
  · rw [if_pos ht] at h; simp at h
  rw [if_neg ht]
  have hmk := hg.mkk
  have hln := hg.len
  have hr2 := hg.r2
  exact passK_pre hg (b := ⟨s.b.late, s.b.room, max s.b.mark t, s.b.front, s.b.evs⟩) rfl rfl rfl (by dsimp only; omega) (by dsimp only; omega) hg.sr
    (fun x hx => by have := hg.ev x hx; dsimp only; omega) hg.tot (by dsimp only; omega)
theorem push_pre {s : Skt} (hg : s.Good) (e : Event) (h : (pushB s.b e).2 = 0) (hh : ¬ 4503599627370496 < totN 0 s.past.ls + sumE Event.w s.b.evs + e.w) : Pre s (pushB s.b e).1.2 := by
  unfold pushB at h ⊢
  by_cases hw : e.w = 0
  · rw [if_pos hw] at h; simp at h
  rw [if_neg hw] at h ⊢
  by_cases ht : 9223372036854775807 < e.t
  · rw [if_pos ht] at h; simp at h
  rw [if_neg ht] at h ⊢
  by_cases hf : e.t < s.b.front
  · rw [if_pos hf] at h; simp at h
  rw [if_neg hf]
  have hmk := hg.mkk
  have hln := hg.len
  have hr2 := hg.r2
  have hse := sumE_ins Event.w s.b.evs e
  have hil := insE_len s.b.evs e
  exact passK_pre hg (b := ⟨s.b.late, s.b.room, max s.b.mark e.t, s.b.front, insE s.b.evs e⟩) rfl rfl rfl (by dsimp only; omega) (by dsimp only; omega) (insE_srt hg.sr e)
    (fun x hx => by
      dsimp only at hx ⊢
      rcases insE_mem.1 hx with rfl | hx
      · omega
      · have := hg.ev x hx; omega) (by dsimp only; omega) (by dsimp only; omega)
/-- The weight of what waits. -/
theorem weight_eq : ∀ (l : List Event) (n : Nat), n + sumE Event.w l < 18446744073709551616 → sumV (fun _ => true) Event.w n l = n + sumE Event.w l := by
  intro l
  induction l with
  | nil => intro n _; rfl
  | cons e r ih =>
    intro n h
    rw [sumE_cons] at h ⊢
    show sumV _ _ (if true = true then m64 (n + e.w) else n) r = _
    rw [if_pos rfl, m64_id (by omega), ih _ (by omega)]; omega
theorem Skt.Good.wt {s : Skt} (hg : s.Good) : totV s.past.ls = totN 0 s.past.ls ∧ sumV (fun _ => true) Event.w 0 s.b.evs = sumE Event.w s.b.evs := by
  have := hg.tot
  refine ⟨totV_eq (by omega), ?_⟩
  rw [weight_eq _ _ (by omega), Nat.zero_add]
/-- What a query tells. -/
noncomputable def queryK (s : Skt) (tick span : Nat) : Nat × Int :=
  if tick < s.b.front ∨ 9223372036854775807 < tick then (0, 6) else if span = 0 ∨ s.win < span then (0, 8) else (m64 (estV s.past.ls tick span + spanV s.b.evs tick span), 0)
def sumU (l : List Nat) : Nat := l.sum
end Go.Sk
end

-- A32
section
namespace Go.Sk

def lumpsA : Nat → List (List Span) → List (Nat × Nat)
  | _, [] => []
  | i, l :: r => l.map (fun s => (s.b, 2 ^ i)) ++ lumpsA (i + 1) r
def lumpsD : Nat → List (List Span) → List (Nat × Nat)
  | _, [] => []
  | i, l :: r => lumpsD (i + 1) r ++ l.map (fun s => (s.b, 2 ^ i))
theorem lumps_perm : ∀ (ls : List (List Span)) i, (lumpsD i ls).Perm (lumpsA i ls) := by
  intro ls
  induction ls with
  | nil => intro i; exact List.Perm.refl _
  | cons l r ih => intro i; exact List.perm_append_comm.trans (List.Perm.append_left _ (ih (i + 1)))
theorem sumW_level (l : List Span) (c : Nat) : sumW (l.map (fun s => (s.b, c))) = l.length * c := by
  induction l with
  | nil => simp [sumW]
  | cons x r ih => rw [List.map_cons, sumW_cons, ih, List.length_cons, Nat.add_mul]; dsimp only; omega
theorem lumps_sum : ∀ (ls : List (List Span)) i, sumW (lumpsA i ls) = totN i ls := by
  intro ls
  induction ls with
  | nil => intro i; rfl
  | cons l r ih => intro i; show sumW (_ ++ _) = _; rw [sumW_app, sumW_level, ih]; rfl
theorem unitsE_app (l m : List (Nat × Nat)) : unitsE (l ++ m) = unitsE l ++ unitsE m := by unfold unitsE; rw [List.flatMap_append]
theorem hi_level (W : Nat → Bool) (l : List Span) (c : Nat) : hi W (unitsE (l.map (fun s => (s.b, c)))) = hi W l * c := by
  induction l with
  | nil => simp [unitsE, hi]
  | cons x r ih =>
    rw [List.map_cons, unitsE_cons, hi_app, ih, hi_rep]
    have : hi W (x :: r) = hi W r + if W x.b = true then 1 else 0 := by unfold hi; rw [List.countP_cons]
    rw [this, Nat.add_mul]
    split <;> simp <;> omega
theorem lumps_hi (W : Nat → Bool) : ∀ (ls : List (List Span)) i, hi W (unitsE (lumpsA i ls)) = hiL W i ls := by
  intro ls
  induction ls with
  | nil => intro i; simp [lumpsA, unitsE, hi, hiL]
  | cons l r ih =>
    intro i
    show hi W (unitsE (_ ++ _)) = _
    rw [unitsE_app, hi_app, hi_level, ih]; rfl
theorem lo_units (W : Nat → Bool) (l : List (Nat × Nat)) : lo W (unitsE l) = hi W (unitsE l) := by
  unfold lo hi
  apply List.countP_congr
  intro s hs
  rw [unitsE_one s hs]
theorem lumps_mem : ∀ (ls : List (List Span)) i, ∀ x ∈ lumpsA i ls, (∃ s ∈ flat ls, x.1 = s.b) ∧ 1 ≤ x.2 := by
  intro ls
  induction ls with
  | nil => intro i x h; cases h
  | cons l r ih =>
    intro i x h
    rcases List.mem_append.1 (show x ∈ l.map (fun s => (s.b, 2 ^ i)) ++ lumpsA (i + 1) r from h) with h | h
    · obtain ⟨s, hs, rfl⟩ := List.mem_map.1 h
      exact ⟨⟨s, List.mem_append_right _ hs, rfl⟩, Nat.pow_pos (by decide)⟩
    · obtain ⟨⟨s, hs, e⟩, h2⟩ := ih (i + 1) x h
      exact ⟨⟨s, List.mem_append_left _ hs, e⟩, h2⟩

def evL (evs : List Event) : List (Nat × Nat) := evs.map fun e => (e.t, e.w)
def lumpsP (l : List Hist) : List (Nat × Nat) := l.flatMap fun h => lumpsA 0 h.ls
def lumpsR (l : List Hist) : List (Nat × Nat) := l.flatMap fun h => lumpsD 0 h.ls
theorem lumpsR_perm (l : List Hist) : (lumpsR l).Perm (lumpsP l) := by
  induction l with
  | nil => exact List.Perm.refl _
  | cons h r ih => exact List.Perm.append (lumps_perm h.ls 0) ih
def sumT (l : List Hist) : Nat := (l.map fun h => totN 0 h.ls).sum
theorem sumT_cons (h : Hist) (l : List Hist) : sumT (h :: l) = totN 0 h.ls + sumT l := by unfold sumT; simp
theorem lumpsP_sum (l : List Hist) : sumW (lumpsP l) = sumT l := by
  induction l with
  | nil => rfl
  | cons h r ih =>
    have e : lumpsP (h :: r) = lumpsA 0 h.ls ++ lumpsP r := by unfold lumpsP; rw [List.flatMap_cons]
    rw [e, sumW_app, lumps_sum, sumT_cons, ih]
theorem evL_sum (evs : List Event) : sumW (evL evs) = sumE Event.w evs := by unfold sumW evL sumE; rw [List.map_map]; rfl
def leL (x y : Nat × Nat) : Bool := decide (x.1 ≤ y.1)
def sortL (l : List (Nat × Nat)) : List (Nat × Nat) := l.mergeSort leL
theorem sortL_perm (l : List (Nat × Nat)) : (sortL l).Perm l := List.mergeSort_perm l leL
theorem sortL_ord (l : List (Nat × Nat)) : Ord (sortL l) := by
  have h := List.pairwise_mergeSort (le := leL) (fun a b c h1 h2 => by unfold leL at *; simp only [decide_eq_true_eq] at *; omega) (fun a b => by unfold leL; simp only [Bool.or_eq_true, decide_eq_true_eq]; omega) l
  unfold Ord sortL
  refine h.imp (fun h => ?_)
  unfold leL at h; simpa using h
def maxG (l : List Hist) : Int := l.foldl (fun g h => max g h.g) 0
/-- Some as one. -/
noncomputable def withV (evs : List Event) (l : List Hist) : Hist × Int :=
  if l = [] ∨ evs.any (fun e => e.w == 0) = true then (zeroH, 1)
  else if l.any (fun h => h.k != (l.headD zeroH).k) = true then (zeroH, 9)
  else if 4 ≤ maxG l then (zeroH, 10)
  else if evs.any (fun e => decide (9223372036854775807 < e.t)) = true then (zeroH, 6)
  else if 4503599627370496 < sumT l + sumE Event.w evs then (zeroH, 5)
  else (⟨(l.headD zeroH).k, maxG l + 1, (foldH ⟨(l.headD zeroH).k, 0, []⟩ (sortL (lumpsP l ++ evL evs))).ls⟩, 0)
end Go.Sk
end

-- A33
section
namespace Go.Sk

structure Hist.Fine (h : Hist) : Prop where
  good : h.Good
  tidy : Tidy h.k.toNat h.ls
  far : ∀ x ∈ flat h.ls, x.b ≤ 9223372036854775807
  g0 : 0 ≤ h.g
  most : Most h.k.toNat 0 h.ls
def hiS (W : Nat → Bool) (l : List Hist) : Nat := (l.map fun h => hiL W 0 h.ls).sum
theorem hiS_cons (W : Nat → Bool) (h : Hist) (l : List Hist) : hiS W (h :: l) = hiL W 0 h.ls + hiS W l := by unfold hiS; simp
theorem lumpsP_cons (h : Hist) (r : List Hist) : lumpsP (h :: r) = lumpsA 0 h.ls ++ lumpsP r := by unfold lumpsP; rw [List.flatMap_cons]
theorem lumpsP_hi (W : Nat → Bool) (l : List Hist) : hi W (unitsE (lumpsP l)) = hiS W l := by
  induction l with
  | nil => rfl
  | cons h r ih => rw [lumpsP_cons, unitsE_app, hi_app, lumps_hi, ih, hiS_cons]
theorem evL_hi (W : Nat → Bool) (evs : List Event) : hi W (unitsE (evL evs)) = sumE (wt W) evs := by
  induction evs with
  | nil => rfl
  | cons e r ih =>
    have : evL (e :: r) = (e.t, e.w) :: evL r := rfl
    rw [this, unitsE_cons, hi_app, hi_rep, ih, sumE_cons]; rfl
theorem hi_perm {W : Nat → Bool} {l m : List (Nat × Nat)} (h : l.Perm m) : hi W (unitsE l) = hi W (unitsE m) := by
  unfold hi; exact (unitsE_perm h).countP_eq _
theorem lumpsP_mem {l : List Hist} : ∀ x ∈ lumpsP l, (∃ h ∈ l, ∃ s ∈ flat h.ls, x.1 = s.b) ∧ 1 ≤ x.2 := by
  intro x hx
  obtain ⟨h, hh, hx⟩ := List.mem_flatMap.1 hx
  obtain ⟨⟨s, hs, e⟩, h2⟩ := lumps_mem _ _ x hx
  exact ⟨⟨h, hh, s, hs, e⟩, h2⟩
/-- What lumps come to. -/
structure Came (l : List Hist) (evs : List Event) : Prop where
  ne : l ≠ []
  k : ∀ h ∈ l, h.k = (l.headD zeroH).k
  fine : ∀ h ∈ l, h.Fine
  g : maxG l < 4
  w : ∀ e ∈ evs, 1 ≤ e.w ∧ e.t ≤ 9223372036854775807
  tot : sumT l + sumE Event.w evs ≤ 4503599627370496
theorem maxG_ge (l : List Hist) : 0 ≤ maxG l ∧ ∀ h ∈ l, h.g ≤ maxG l := by
  have key : ∀ (l : List Hist) (g : Int), g ≤ l.foldl (fun g h => max g h.g) g ∧ ∀ h ∈ l, h.g ≤ l.foldl (fun g h => max g h.g) g := by
    intro l
    induction l with
    | nil => intro g; exact ⟨Int.le_refl _, fun h hh => by cases hh⟩
    | cons x r ih =>
      intro g
      obtain ⟨i1, i2⟩ := ih (max g x.g)
      refine ⟨by simp only [List.foldl_cons]; omega, fun h hh => ?_⟩
      rcases List.mem_cons.1 hh with rfl | hh
      · simp only [List.foldl_cons]; omega
      · exact i2 h hh
  exact key l 0
theorem with_val {l : List Hist} {evs : List Event} (c : Came l evs) : withV evs l = (⟨(l.headD zeroH).k, maxG l + 1, (foldH ⟨(l.headD zeroH).k, 0, []⟩ (sortL (lumpsP l ++ evL evs))).ls⟩, 0) := by
  unfold withV
  have h1 : ¬ (l = [] ∨ evs.any (fun e => e.w == 0) = true) := by
    rintro (h | h)
    · exact c.ne h
    · obtain ⟨e, he, h⟩ := List.any_eq_true.1 h
      have := (c.w e he).1
      simp at h; omega
  have h2 : ¬ l.any (fun h => h.k != (l.headD zeroH).k) = true := by
    intro h
    obtain ⟨x, hx, h⟩ := List.any_eq_true.1 h
    have := c.k x hx
    simp [this] at h
  have h3 := c.g
  have h4 : ¬ evs.any (fun e => decide (9223372036854775807 < e.t)) = true := by
    intro h
    obtain ⟨e, he, h⟩ := List.any_eq_true.1 h
    have := (c.w e he).2
    simp at h; omega
  have h5 := c.tot
  rw [if_neg h1, if_neg h2, if_neg (by omega), if_neg h4, if_neg (by omega)]
theorem head_mem {l : List Hist} (h : l ≠ []) : l.headD zeroH ∈ l := by
  cases l with
  | nil => exact absurd rfl h
  | cons x r => simp
/-- All lumps. -/
theorem came_lumps {l : List Hist} {evs : List Event} (c : Came l evs) : (∀ x ∈ lumpsP l ++ evL evs, x.1 ≤ 9223372036854775807 ∧ 1 ≤ x.2) ∧ sumW (lumpsP l ++ evL evs) = sumT l + sumE Event.w evs := by
  refine ⟨fun x hx => ?_, by rw [sumW_app, lumpsP_sum, evL_sum]⟩
  rcases List.mem_append.1 hx with hx | hx
  · obtain ⟨⟨h, hh, s, hs, e⟩, h2⟩ := lumpsP_mem x hx
    exact ⟨by rw [e]; exact (c.fine h hh).far s hs, h2⟩
  · obtain ⟨e, he, rfl⟩ := List.mem_map.1 hx
    have := c.w e he
    exact ⟨this.2, this.1⟩
theorem with_ok {l : List Hist} {evs : List Event} (c : Came l evs) : (withV evs l).2 = 0 ∧ (withV evs l).1.Fine ∧ (withV evs l).1.k = (l.headD zeroH).k ∧ (withV evs l).1.g = maxG l + 1 ∧ totN 0 (withV evs l).1.ls = sumT l + sumE Event.w evs ∧
    (withV evs l).1.ls = flowS (l.headD zeroH).k.toNat 0 [] (unitsE (sortL (lumpsP l ++ evL evs))) ∧
    ∀ W, Mono W → loL W 0 (withV evs l).1.ls ≤ hiS W l + sumE (wt W) evs ∧ hiS W l + sumE (wt W) evs ≤ hiL W 0 (withV evs l).1.ls := by
  have hf := (c.fine _ (head_mem c.ne)).good
  obtain ⟨hl, hs⟩ := came_lumps c
  have hp := sortL_perm (lumpsP l ++ evL evs)
  obtain ⟨a1, a2, a3, a4, a5, a6⟩ := fold_new hf.k0 hf.k1 (sortL_ord (lumpsP l ++ evL evs)) (fun x hx => hl x (hp.mem_iff.1 hx)) (by rw [sumW_perm hp, hs]; exact c.tot)
  rw [with_val c]
  have e : (foldH ⟨(l.headD zeroH).k, 0, []⟩ (sortL (lumpsP l ++ evL evs))).ls = flowS (l.headD zeroH).k.toNat 0 [] (unitsE (sortL (lumpsP l ++ evL evs))) := by rw [a1]
  refine ⟨rfl, ⟨⟨hf.k0, hf.k1, a2.ne, fun x hx => ?_, a2.tot⟩, a3, fun x hx => a5 _ (fun y hy => (hl y (hp.mem_iff.1 hy)).1) x hx, ?_, by show Most (l.headD zeroH).k.toNat 0 _; rw [e]; exact flowS_most _ _ _ _⟩, rfl, rfl, ?_, e, fun W hW => ?_⟩
  · have := a2.sm x hx
    rw [a1] at this; exact this
  · have := (maxG_ge l).1; show 0 ≤ maxG l + 1; omega
  · show totN 0 (foldH _ _).ls = _
    rw [a4, sumW_perm hp, hs]
  · obtain ⟨b1, b2⟩ := a6 W hW
    rw [lo_units] at b1
    rw [hi_perm hp, unitsE_app, hi_app, lumpsP_hi, evL_hi] at b1 b2
    exact ⟨b1, b2⟩
end Go.Sk
end

-- A34
section
namespace Go.Sk

theorem hi_lo {k : Nat} {ls : List (List Span)} (hT : Tidy k ls) (W : Nat → Bool) (hW : Mono W) : k * hiL W 0 ls ≤ (k + 2) * loL W 0 ls := by
  rcases cut_all k W hW ls 0 hT.srt hT.val (fun _ => hT.low) hT.full with e | ⟨j, _, _, e, hb⟩
  · rw [e]; exact Nat.mul_le_mul_right _ (by omega)
  · rw [if_pos rfl, Nat.add_zero] at hb
    rw [e, Nat.mul_add, Nat.add_mul]; omega
/-- Merged so often, of so much. -/
structure Deep (g : Nat) (h : Hist) (n : (Nat → Bool) → Nat) : Prop where
  fine : h.Fine
  gen : h.g = g
  b : ∀ W, Mono W → n W ≤ hiL W 0 h.ls ∧ h.k.toNat ^ g * loL W 0 h.ls ≤ (h.k.toNat + 2) ^ g * n W
  all : ∀ W, (∀ x, W x = true) → n W = totN 0 h.ls
theorem deep_side {k g G lo hi n : Nat} (hg : g ≤ G) (h1 : k * hi ≤ (k + 2) * lo) (h2 : k ^ g * lo ≤ (k + 2) ^ g * n) : k ^ (G + 1) * hi ≤ (k + 2) ^ (G + 1) * n := by
  obtain ⟨d, rfl⟩ : ∃ d, G = g + d := ⟨G - g, by omega⟩
  have a1 : k ^ (g + d + 1) * hi = k ^ d * (k ^ g * (k * hi)) := by rw [Nat.pow_succ, Nat.pow_add]; simp only [Nat.mul_comm, Nat.mul_left_comm, Nat.mul_assoc]
  have a2 : (k + 2) ^ (g + d + 1) * n = (k + 2) ^ d * ((k + 2) * ((k + 2) ^ g * n)) := by rw [Nat.pow_succ, Nat.pow_add]; simp only [Nat.mul_comm, Nat.mul_left_comm, Nat.mul_assoc]
  have a3 : k ^ g * (k * hi) ≤ (k + 2) * ((k + 2) ^ g * n) := by
    refine Nat.le_trans (Nat.mul_le_mul_left _ h1) ?_
    have : k ^ g * ((k + 2) * lo) = (k + 2) * (k ^ g * lo) := Nat.mul_left_comm _ _ _
    rw [this]; exact Nat.mul_le_mul_left _ h2
  rw [a1, a2]
  exact Nat.mul_le_mul (Nat.pow_le_pow_left (by omega) d) a3
end Go.Sk
end

-- A49
section
namespace Go.Sk

theorem flowS_far (k F : Nat) : ∀ ls i (c : List Span), (∀ s ∈ flat ls, s.b ≤ F) → (∀ s ∈ c, s.b ≤ F) → ∀ s ∈ flat (flowS k i ls c), s.b ≤ F := by
  refine flowS_ind k (fun i ls c => (∀ s ∈ flat ls, s.b ≤ F) → (∀ s ∈ c, s.b ≤ F) → ∀ s ∈ flat (flowS k i ls c), s.b ≤ F) ?_ ?_
  · intro i _ _ s hs; rw [flowS_nil] at hs; cases hs
  · intro i ls c hne ih h1 h2 s hs
    rw [flowS_cons hne] at hs
    rw [flat_tail] at h1
    have hall : ∀ s ∈ ls.headD [] ++ c, s.b ≤ F := fun s hs => by
      rcases List.mem_append.1 hs with hs | hs
      · exact h1 s (List.mem_append_right _ hs)
      · exact h2 s hs
    rcases List.mem_append.1 hs with hs | hs
    · refine ih (fun s hs => h1 s (List.mem_append_left _ hs)) (fun s hs => ?_) s hs
      obtain ⟨x, _, y, hy, rfl⟩ := pairUp_mem _ s hs
      exact hall y (List.mem_of_mem_take hy)
    · exact hall s (List.mem_of_mem_drop hs)
theorem addH_fine {h : Hist} (f : h.Fine) (t w : Nat) (e : (addH h t w).2 = 0) : (addH h t w).1.Fine := by
  obtain ⟨b1, b2, b3, b4⟩ := addH_good f.good t w e
  obtain ⟨c1, _⟩ := addH_tidy f.good f.tidy t w e
  have hv : (addH h t w).1.ls = flowS h.k.toNat 0 h.ls (List.replicate w ⟨t, t⟩) ∧ t ≤ 9223372036854775807 := by
    unfold addH addV at e ⊢
    by_cases h1 : w = 0
    · rw [if_pos h1] at e; simp at e
    rw [if_neg h1] at e ⊢
    by_cases h2 : 9223372036854775807 < t ∨ ((lastV h.ls).2 = true ∧ t < (lastV h.ls).1)
    · rw [if_pos h2] at e; simp at e
    rw [if_neg h2] at e ⊢
    by_cases h3 : 4503599627370496 - totN 0 h.ls < w
    · rw [if_pos h3] at e; simp at e
    rw [if_neg h3, flowS_eq, List.nil_append]
    exact ⟨rfl, by omega⟩
  obtain ⟨hls, ht⟩ := hv
  refine ⟨b1, by rw [b2]; exact c1, ?_, by rw [b3]; exact f.g0, by rw [b2, hls]; exact flowS_most _ _ _ _⟩
  rw [hls]
  exact flowS_far _ _ _ _ _ f.far (fun s hs => by rw [List.eq_of_mem_replicate hs]; exact ht)
end Go.Sk
end

-- A57
section
namespace Go.Sk

theorem dropG_most {o : Nat → Bool} {k : Nat} : ∀ {ls : List (List Span)} {i : Nat}, Most k i ls → Most k i (dropG o ls) := by
  intro ls
  induction ls with
  | nil => intro i h; exact h
  | cons l r ih =>
    intro i h
    unfold dropG
    split
    · exact ⟨by rw [List.length_drop]; have := h.1; omega, ih h.2⟩
    · exact True.intro
theorem dropH_fine {o : Nat → Bool} (ho : Anti o) {h : Hist} (f : h.Fine) : (dropH (dropG o) h).Fine :=
  ⟨dropH_good f.good, dropG_tidy ho f.tidy, fun x hx => f.far x ((dropG_sub o h.ls).subset hx), f.g0, dropG_most f.most⟩
theorem passV_fine : ∀ (out : List Event) (h : Hist) (f : Nat), h.Fine → (∀ x ∈ flat h.ls, x.b ≤ f) → Srt out → (∀ e ∈ out, f ≤ e.t ∧ e.t ≤ 9223372036854775807 ∧ 1 ≤ e.w) → totN 0 h.ls + sumE Event.w out ≤ 4503599627370496 → (passV h out).Fine := by
  intro out
  induction out with
  | nil => intro h f hf _ _ _ _; exact hf
  | cons e l ih =>
    intro h f hf hb hs he ht
    unfold Srt at hs
    rw [List.pairwise_cons] at hs
    obtain ⟨e1, e2, e3⟩ := he e (by simp)
    rw [sumE_cons] at ht
    obtain ⟨a1, a2⟩ := addH_let hf.tidy e2 e3 (fun x hx => Nat.le_trans (hb x hx) e1) (by omega)
    obtain ⟨_, _, _, b4⟩ := addH_good hf.good e.t e.w a1
    exact ih _ e.t (addH_fine hf e.t e.w a1) a2 hs.2 (fun x hx => ⟨hs.1 x hx, (he x (by simp [hx])).2⟩) (by rw [b4]; omega)

/-- As a good one, but that too much may wait. -/
structure Skt.Lax (s : Skt) : Prop where
  w1 : 1 ≤ s.win
  w2 : s.win ≤ 4611686018427387904
  lt : s.b.late ≤ 4611686018427387904
  r1 : 1 ≤ s.b.room
  r2 : s.b.room ≤ 1024
  mkk : s.b.mark ≤ 9223372036854775807
  fm : s.b.front ≤ s.b.mark
  ev : ∀ e ∈ s.b.evs, s.b.front < e.t ∧ e.t ≤ s.b.mark ∧ 1 ≤ e.w
  sr : Srt s.b.evs
  len : s.b.evs.length < 1048576
  pg : s.past.Good
  pt : Tidy s.past.k.toNat s.past.ls
  pf : ∀ x ∈ flat s.past.ls, x.b ≤ s.b.front
  tot : totN 0 s.past.ls + sumE Event.w s.b.evs ≤ 4503599627370496
theorem Skt.Good.lax {s : Skt} (h : s.Good) : s.Lax := ⟨h.w1, h.w2, h.lt, h.r1, h.r2, h.mkk, h.fm, h.ev, h.sr, by have := h.len; have := h.r2; omega, h.pg, h.pt, h.pf, h.tot⟩
/-- A sketch that was merged so often, and all that came to it. -/
def Skt.LedG (s : Skt) (g : Nat) (all : List Event) : Prop := ∃ P : List Event, (∀ f, sumE f all = sumE f P + sumE f s.b.evs) ∧
  (∀ W, Mono W → (∀ x, oldV s.b.front s.win x = true → W x = false) → sumE (wt W) P ≤ hiL W 0 s.past.ls ∧ s.past.k.toNat ^ g * loL W 0 s.past.ls ≤ (s.past.k.toNat + 2) ^ g * sumE (wt W) P) ∧ ∀ e ∈ P, e.t ≤ s.b.front
theorem Skt.Led.gen {s : Skt} {all : List Event} (h : s.Led all) : s.LedG 0 all := by
  obtain ⟨P, h1, h2, h3⟩ := h
  refine ⟨P, h1, fun W hW hk => ?_, h3⟩
  obtain ⟨a, b⟩ := h2 W hW hk
  exact ⟨b, by simpa using a⟩
/-- Passed on, out of what there was. -/
theorem passK_lax {s : Skt} (hg : s.Lax) {b' : Buf} {out evs : List Event} (q1 : b'.late = s.b.late) (q2 : b'.room = s.b.room) (q3 : s.b.mark ≤ b'.mark) (q3' : b'.mark ≤ 9223372036854775807) (q4 : s.b.front ≤ b'.front) (q5 : b'.front ≤ b'.mark)
    (q6 : evs = out ++ b'.evs) (q7 : ∀ e ∈ out, e.t ≤ b'.front) (q8 : ∀ e ∈ b'.evs, b'.front < e.t) (q9 : Srt out) (q10 : Srt b'.evs) (q11 : b'.evs.length ≤ b'.room.toNat)
    (hev : ∀ e ∈ evs, s.b.front ≤ e.t ∧ e.t ≤ b'.mark ∧ 1 ≤ e.w) (htot : totN 0 s.past.ls + sumE Event.w evs ≤ 4503599627370496) :
    (passK s b' out).Good ∧ (passK s b' out).past.k = s.past.k ∧ (passK s b' out).past.g = s.past.g ∧ (passV s.past out).Good ∧
    (∀ g all new, s.LedG g all → (∀ f, sumE f evs = sumE f s.b.evs + sumE f new) → (passK s b' out).LedG g (all ++ new)) := by
  have hfm := hg.fm
  have hout : ∀ e ∈ out, s.b.front ≤ e.t ∧ e.t ≤ 9223372036854775807 ∧ 1 ≤ e.w := fun e he => by
    have h1 := hev e (by rw [q6]; exact List.mem_append_left _ he)
    exact ⟨h1.1, by omega, h1.2.2⟩
  have hsum : ∀ f, sumE f evs = sumE f out + sumE f b'.evs := fun f => by rw [q6, sumE_app]
  have hst := hsum Event.w
  obtain ⟨p1, p2, p3, p4, p5, p6, p7⟩ := pass_ok out s.past s.b.front hg.pg hg.pt hg.pf q9 hout (by omega)
  have ho := oldV_anti b'.front s.win
  have ht := dropG_tidy ho p2
  have hpf : ∀ x ∈ flat (passV s.past out).ls, x.b ≤ b'.front := p6 b'.front (by omega) q7
  have hdt := dropG_tot (oldV b'.front s.win) (passV s.past out).ls 0
  refine ⟨⟨hg.w1, hg.w2, by show b'.late ≤ _; rw [q1]; exact hg.lt, by show 1 ≤ b'.room; rw [q2]; exact hg.r1, by show b'.room ≤ _; rw [q2]; exact hg.r2, by show b'.mark ≤ _; omega, by show b'.front ≤ b'.mark; omega, ?_, q10, ?_, dropH_good p1, ht, ?_, ?_⟩, p3, p4, p1, ?_⟩
  · intro e he
    have h1 := hev e (by rw [q6]; exact List.mem_append_right _ he)
    exact ⟨q8 e he, by show e.t ≤ b'.mark; omega, h1.2.2⟩
  · exact q11
  · intro x hx; exact hpf x ((dropG_sub _ _).subset hx)
  · show totN 0 (dropG _ (passV s.past out).ls) + sumE Event.w b'.evs ≤ _; omega
  · rintro g all new ⟨P, l1, l2, l3⟩ hnew
    refine ⟨P ++ out, fun f => ?_, fun W hW hk => ?_, fun e he => ?_⟩
    · have h1 := l1 f; have h2 := hnew f; have h3 := hsum f
      show sumE f (all ++ new) = sumE f (P ++ out) + sumE f b'.evs
      rw [sumE_app, sumE_app]; omega
    · have hk0 : ∀ x, oldV s.b.front s.win x = true → W x = false := fun x hx => hk x (oldV_more (by show s.b.front ≤ b'.front; omega) (by show b'.front < _; omega) hx)
      obtain ⟨c1, c2⟩ := l2 W hW hk0
      obtain ⟨d1, d2⟩ := p7 W hW
      obtain ⟨e1, e2⟩ := dropG_lo ho hW hk (passV s.past out).ls 0 p1.ne p2.srt p2.val
      rw [sumE_app]
      constructor
      · show _ ≤ hiL W 0 (dropG (oldV b'.front s.win) (passV s.past out).ls)
        rw [e2]; omega
      · show (passV s.past out).k.toNat ^ g * loL W 0 (dropG (oldV b'.front s.win) (passV s.past out).ls) ≤ ((passV s.past out).k.toNat + 2) ^ g * _
        rw [e1, p3]
        refine Nat.le_trans (Nat.mul_le_mul_left _ d1) ?_
        rw [Nat.mul_add, Nat.mul_add]
        exact Nat.add_le_add c2 (Nat.mul_le_mul_right _ (Nat.pow_le_pow_left (by omega) g))
    · rcases List.mem_append.1 he with he | he
      · have := l3 e he; show e.t ≤ b'.front; omega
      · exact q7 e he
/-- How time goes on. -/
theorem moveK_lax {s : Skt} (hg : s.Lax) (hf : s.past.Fine) {t : Nat} (ht : t ≤ 9223372036854775807) : (moveK s t).2 = 0 ∧ (moveK s t).1.Good ∧ (moveK s t).1.past.Fine ∧ (moveK s t).1.past.k = s.past.k ∧ (moveK s t).1.past.g = s.past.g ∧ (moveK s t).1.win = s.win ∧
    (moveK s t).1.b.late = s.b.late ∧ (moveK s t).1.b.room = s.b.room ∧ ∀ g all, s.LedG g all → (moveK s t).1.LedG g all := by
  have hfm := hg.fm
  have hmk := hg.mkk
  have hm : moveB s.b t = (settleB ⟨s.b.late, s.b.room, max s.b.mark t, s.b.front, s.b.evs⟩, 0) := by unfold moveB; rw [if_neg (by omega)]
  have hk : moveK s t = (passK s (settleB ⟨s.b.late, s.b.room, max s.b.mark t, s.b.front, s.b.evs⟩).1 (settleB ⟨s.b.late, s.b.room, max s.b.mark t, s.b.front, s.b.evs⟩).2, 0) := by unfold moveK; rw [hm]; rfl
  rw [hk]
  obtain ⟨q1, q2, q3, q4, q5, q6, q7, q8, q9, q10, q11⟩ := settleB_ok (b := ⟨s.b.late, s.b.room, max s.b.mark t, s.b.front, s.b.evs⟩) hg.sr (by dsimp only; omega) (fun e he => by have := hg.ev e he; dsimp only; omega)
  generalize settleB ⟨s.b.late, s.b.room, max s.b.mark t, s.b.front, s.b.evs⟩ = R at *
  obtain ⟨b', out⟩ := R
  dsimp only at *
  have hev : ∀ e ∈ s.b.evs, s.b.front ≤ e.t ∧ e.t ≤ b'.mark ∧ 1 ≤ e.w := fun e he => by have := hg.ev e he; omega
  obtain ⟨a1, a2, a3, a4, a5⟩ := passK_lax hg q1 q2 (by omega) (by omega) (by omega) (by omega) q6 q7 q8 q9 q10 (by rw [q2]; exact q11) hev hg.tot
  have hout : ∀ e ∈ out, s.b.front ≤ e.t ∧ e.t ≤ 9223372036854775807 ∧ 1 ≤ e.w := fun e he => by
    have h1 := hev e (by rw [q6]; exact List.mem_append_left _ he)
    exact ⟨h1.1, by omega, h1.2.2⟩
  have hsum : sumE Event.w s.b.evs = sumE Event.w out + sumE Event.w b'.evs := by rw [q6, sumE_app]
  have htot := hg.tot
  refine ⟨rfl, a1, dropH_fine (oldV_anti _ _) (passV_fine out s.past s.b.front hf hg.pf q9 hout (by omega)), a2, a3, rfl, q1, q2, fun g all h => ?_⟩
  have := a5 g all [] h (fun f => by rw [sumE_nil, Nat.add_zero])
  rwa [List.append_nil] at this
theorem passK_preL {s : Skt} (hg : s.Lax) {b : Buf} (hb1 : b.late = s.b.late) (hb2 : b.room = s.b.room) (hb3 : b.front = s.b.front) (hb4 : s.b.mark ≤ b.mark) (hb5 : b.mark ≤ 9223372036854775807) (hs : Srt b.evs)
    (hev : ∀ e ∈ b.evs, s.b.front ≤ e.t ∧ e.t ≤ b.mark ∧ 1 ≤ e.w) (htot : totN 0 s.past.ls + sumE Event.w b.evs ≤ 4503599627370496) (hl : b.evs.length < 1048576) : Pre s (settleB b).2 := by
  have hfm := hg.fm
  obtain ⟨q1, q2, q3, q4, q5, q6, q7, q8, q9, q10, q11⟩ := settleB_ok hs (by omega) (fun e he => (hev e he).2.1)
  generalize settleB b = R at *
  obtain ⟨b', out⟩ := R
  dsimp only at q6 q7 q9 ⊢
  have hout : ∀ e ∈ out, s.b.front ≤ e.t ∧ e.t ≤ 9223372036854775807 ∧ 1 ≤ e.w := fun e he => by
    have h1 := hev e (by rw [q6]; exact List.mem_append_left _ he)
    exact ⟨h1.1, by omega, h1.2.2⟩
  have hsum : sumE Event.w b.evs = sumE Event.w out + sumE Event.w b'.evs := by rw [q6, sumE_app]
  have hlen : b.evs.length = out.length + b'.evs.length := by rw [q6, List.length_append]
  obtain ⟨p1, p2, _⟩ := pass_ok out s.past s.b.front hg.pg hg.pt hg.pf q9 hout (by omega)
  refine ⟨fun i hi => ?_, p2, by omega, fun e he => by have := mem_sumE Event.w he; omega⟩
  have hsp := sumE_split Event.w out i
  exact (pass_ok (out.take i) s.past s.b.front hg.pg hg.pt hg.pf (q9.take i) (fun e he => hout e (List.mem_of_mem_take he)) (by omega)).1
theorem move_preL {s : Skt} (hg : s.Lax) (t : Nat) (h : (moveB s.b t).2 = 0) : Pre s (moveB s.b t).1.2 := by
  unfold moveB at h ⊢
  by_cases ht : 9223372036854775807 < t
  · rw [if_pos ht] at h; simp at h
  rw [if_neg ht]
  have hmk := hg.mkk
  exact passK_preL hg (b := ⟨s.b.late, s.b.room, max s.b.mark t, s.b.front, s.b.evs⟩) rfl rfl rfl (by dsimp only; omega) (by dsimp only; omega) hg.sr
    (fun x hx => by have := hg.ev x hx; dsimp only; omega) hg.tot hg.len
end Go.Sk
end

-- A35
section
namespace Go.Sk

/-- Weight that comes: so many ticks later, so much. -/
structure Deed where
  gap : Nat
  w : Nat
noncomputable def madeS (s : Hist × Nat) (d : Deed) : Hist × Nat :=
  (if (addH s.1 (s.2 + d.gap % 1000) d.w).2 = 0 then (addH s.1 (s.2 + d.gap % 1000) d.w).1 else s.1, s.2 + d.gap % 1000)
noncomputable def madeF (s : Hist × Nat) (l : List Deed) : Hist × Nat := l.foldl madeS s
def newM (k : Int) : Hist := ⟨2 + max k 0 % 30, 0, []⟩
noncomputable def madeD (k : Int) (l : List Deed) : Hist := (madeF (newM k, 0) (l.take 30)).1
noncomputable def cameS (W : Nat → Bool) (s : (Hist × Nat) × Nat) (d : Deed) : (Hist × Nat) × Nat :=
  (madeS s.1 d, if (addH s.1.1 (s.1.2 + d.gap % 1000) d.w).2 = 0 then (s.2 + if W (s.1.2 + d.gap % 1000) = true then d.w else 0) else s.2)
noncomputable def cameF (W : Nat → Bool) (s : (Hist × Nat) × Nat) (l : List Deed) : (Hist × Nat) × Nat := l.foldl (cameS W) s
noncomputable def cameD (k : Int) (l : List Deed) (W : Nat → Bool) : Nat := (cameF W ((newM k, 0), 0) (l.take 30)).2
theorem cameF_fst (W : Nat → Bool) (l : List Deed) : ∀ s, (cameF W s l).1 = madeF s.1 l := by
  induction l with
  | nil => intro s; rfl
  | cons d r ih => intro s; show (cameF W (cameS W s d) r).1 = madeF (madeS s.1 d) r; rw [ih]; rfl

theorem addH_w {h : Hist} {t w : Nat} (e : (addH h t w).2 = 0) : 1 ≤ w ∧ totN 0 h.ls + w ≤ 4503599627370496 ∨ totN 0 h.ls > 4503599627370496 := by
  unfold addH addV at e
  by_cases h1 : w = 0
  · rw [if_pos h1] at e; simp at e
  rw [if_neg h1] at e
  by_cases h2 : 9223372036854775807 < t ∨ ((lastV h.ls).2 = true ∧ t < (lastV h.ls).1)
  · rw [if_pos h2] at e; simp at e
  rw [if_neg h2] at e
  by_cases h3 : 4503599627370496 - totN 0 h.ls < w
  · rw [if_pos h3] at e; simp at e
  omega
/-- What is so of a histogram to which weight came. -/
structure MadeOk (k : Int) (s : (Hist × Nat) × Nat) (W : Nat → Bool) : Prop where
  fine : s.1.1.Fine
  k : s.1.1.k = 2 + max k 0 % 30
  g : s.1.1.g = 0
  at_ : ∀ x ∈ flat s.1.1.ls, x.b ≤ s.1.2
  bd : Mono W → loL W 0 s.1.1.ls ≤ s.2 ∧ s.2 ≤ hiL W 0 s.1.1.ls
  all : (∀ t, W t = true) → s.2 = totN 0 s.1.1.ls
  le : s.2 ≤ totN 0 s.1.1.ls
theorem newM_ok (k : Int) (W : Nat → Bool) : MadeOk k ((newM k, 0), 0) W :=
  ⟨⟨⟨by show 2 ≤ 2 + max k 0 % 30; omega, by show 2 + max k 0 % 30 ≤ 1024; omega, fun l hl => (by cases hl), fun l hl => (by cases hl), Nat.zero_le _⟩, empty_tidy _, fun x hx => (by cases hx), Int.le_refl _, True.intro⟩, rfl, rfl, fun x hx => (by cases hx), fun _ => ⟨Nat.le_refl _, Nat.le_refl _⟩, fun _ => rfl, Nat.le_refl _⟩
theorem cameS_ok {k : Int} {s : (Hist × Nat) × Nat} {W : Nat → Bool} (m : MadeOk k s W) (ht : s.1.2 ≤ 1000000) (d : Deed) : MadeOk k (cameS W s d) W ∧ (cameS W s d).1.2 ≤ s.1.2 + 999 := by
  obtain ⟨T, hT⟩ : ∃ T, s.1.2 + d.gap % 1000 = T := ⟨_, rfl⟩
  refine ⟨?_, by show s.1.2 + d.gap % 1000 ≤ _; omega⟩
  unfold cameS madeS
  rw [hT]
  by_cases e : (addH s.1.1 T d.w).2 = 0
  · rw [if_pos e, if_pos e]
    have hg := m.fine.good
    have ho := addH_w e
    have := hg.tot
    obtain ⟨a1, a2⟩ := addH_let m.fine.tidy (t := T) (w := d.w) (by omega) (by omega) (fun x hx => by have := m.at_ x hx; omega) (by omega)
    obtain ⟨b1, b2, b3, b4⟩ := addH_good hg T d.w e
    obtain ⟨c1, c2⟩ := addH_tidy hg m.fine.tidy T d.w e
    refine ⟨⟨b1, by rw [b2]; exact c1, fun x hx => by have := a2 x hx; omega, by rw [b3]; exact m.fine.g0, by rw [b2, addH_val m.fine.tidy (t := T) (w := d.w) (by omega) (by omega) (fun x hx => by have := m.at_ x hx; omega) (by omega)]; exact flowS_most _ _ _ _⟩, by rw [b2]; exact m.k, by rw [b3]; exact m.g, a2, fun hW => ?_, fun hW => ?_, ?_⟩
    · obtain ⟨p, q⟩ := m.bd hW
      obtain ⟨p2, q2⟩ := c2 W hW
      dsimp only
      omega
    · dsimp only
      rw [b4, m.all hW, hW T, if_pos rfl]
    · dsimp only
      rw [b4]; have := m.le; split <;> omega
  · rw [if_neg e, if_neg e]
    exact ⟨m.fine, m.k, m.g, fun x hx => by have := m.at_ x hx; dsimp only; omega, m.bd, m.all, m.le⟩
theorem cameF_ok {k : Int} {W : Nat → Bool} : ∀ (l : List Deed) (s : (Hist × Nat) × Nat), MadeOk k s W → s.1.2 + l.length * 999 ≤ 1000000 → MadeOk k (cameF W s l) W ∧ (cameF W s l).1.2 ≤ s.1.2 + l.length * 999 := by
  intro l
  induction l with
  | nil => intro s m _; exact ⟨m, Nat.le_refl _⟩
  | cons d r ih =>
    intro s m h
    rw [List.length_cons] at h
    obtain ⟨a, b⟩ := cameS_ok m (by omega) d
    obtain ⟨c, e⟩ := ih (cameS W s d) a (by omega)
    exact ⟨c, by rw [List.length_cons]; show (cameF W (cameS W s d) r).1.2 ≤ _; omega⟩
theorem cameF_at {k : Int} (W : Nat → Bool) (l : List Deed) (i : Nat) : MadeOk k (cameF W ((newM k, 0), 0) ((l.take 30).take i)) W ∧ (cameF W ((newM k, 0), 0) ((l.take 30).take i)).1.2 ≤ 30000 := by
  have hl : ((l.take 30).take i).length ≤ 30 := by simp only [List.length_take]; omega
  obtain ⟨a, b⟩ := cameF_ok (W := W) ((l.take 30).take i) ((newM k, 0), 0) (newM_ok k W) (by dsimp only; omega)
  exact ⟨a, by dsimp only at b; omega⟩
theorem made_came (k : Int) (l : List Deed) (W : Nat → Bool) : MadeOk k (cameF W ((newM k, 0), 0) (l.take 30)) W := by
  have := (cameF_at (k := k) W l 30).1
  rwa [List.take_of_length_le (by simp only [List.length_take]; omega)] at this
theorem made_all (k : Int) (l : List Deed) {W : Nat → Bool} (hW : ∀ t, W t = true) : cameD k l W = totN 0 (madeD k l).ls := by
  have key : (cameF W ((newM k, 0), 0) (l.take 30)).1.1 = madeD k l := by rw [cameF_fst]; rfl
  have := (made_came k l W).all hW
  rw [key] at this; exact this
/-- How much weight there may be. -/
theorem came_sum {c : Nat} : ∀ (l : List Deed) (s : (Hist × Nat) × Nat), (∀ d ∈ l, d.w ≤ c) → (cameF (fun _ => true) s l).2 ≤ s.2 + l.length * c := by
  intro l
  induction l with
  | nil => intro s _; show s.2 ≤ _; omega
  | cons d r ih =>
    intro s h
    have h1 := h d (by simp)
    have h3 := ih (cameS (fun _ => true) s d) (fun x hx => h x (by simp [hx]))
    have h2 : (cameS (fun _ => true) s d).2 ≤ s.2 + c := by
      show (if _ then (s.2 + if true = true then d.w else 0) else s.2) ≤ _
      split
      · rw [if_pos rfl]; exact Nat.add_le_add_left h1 _
      · exact Nat.le_add_right _ _
    have e : cameF (fun _ => true) s (d :: r) = cameF (fun _ => true) (cameS (fun _ => true) s d) r := rfl
    rw [e, List.length_cons, Nat.add_mul, Nat.one_mul]
    generalize cameS (fun _ => true) s d = s1 at *
    generalize cameF (fun _ => true) s1 r = s2 at *
    omega
theorem made_sum (k : Int) (l : List Deed) {c : Nat} (h : ∀ d ∈ l, d.w ≤ c) : totN 0 (madeD k l).ls ≤ 30 * c := by
  rw [← made_all k l (W := fun _ => true) (fun _ => rfl)]
  have := came_sum (c := c) (l.take 30) ((newM k, 0), 0) (fun d hd => h d (List.mem_of_mem_take hd))
  have h2 : (l.take 30).length * c ≤ 30 * c := Nat.mul_le_mul_right _ (by rw [List.length_take]; omega)
  unfold cameD
  dsimp only at this
  omega
end Go.Sk
end

-- A36
section
namespace Go.Sk

structure Tree where
  k : Int
  l0 : List Deed
  l1 : List Deed
  l2 : List Deed
  l3 : List Deed
  deep : Nat
noncomputable def mrg (l : List Hist) : Hist := (withV [] l).1
noncomputable def againV (h x : Hist) : Nat → Hist
  | 0 => x
  | n + 1 => mrg [againV h x n, h]
noncomputable def baseV (t : Tree) : Hist :=
  if t.deep % 5 = 0 then madeD t.k t.l0
  else if t.deep % 5 = 1 then mrg [madeD t.k t.l0, madeD t.k t.l1]
  else mrg [mrg [madeD t.k t.l0, madeD t.k t.l1], mrg [madeD t.k t.l2, madeD t.k t.l3]]
noncomputable def buildV (t : Tree) : Hist := againV (madeD t.k t.l0) (baseV t) (t.deep % 5 - 2)
def timesV (d : Nat) : Nat × Nat × Nat × Nat := if d = 0 then (1, 0, 0, 0) else if d = 1 then (1, 1, 0, 0) else (d - 1, 1, 1, 1)
noncomputable def realW (t : Tree) (W : Nat → Bool) : Nat :=
  (timesV (t.deep % 5)).1 * cameD t.k t.l0 W + (timesV (t.deep % 5)).2.1 * cameD t.k t.l1 W + (timesV (t.deep % 5)).2.2.1 * cameD t.k t.l2 W + (timesV (t.deep % 5)).2.2.2 * cameD t.k t.l3 W
structure Tree.Light (t : Tree) : Prop where
  l0 : ∀ d ∈ t.l0, d.w ≤ 1099511627776
  l1 : ∀ d ∈ t.l1, d.w ≤ 1099511627776
  l2 : ∀ d ∈ t.l2, d.w ≤ 1099511627776
  l3 : ∀ d ∈ t.l3, d.w ≤ 1099511627776
/-- Sizes of the four. -/
structure Tree.Sz (t : Tree) (c : Nat) : Prop where
  a0 : totN 0 (madeD t.k t.l0).ls ≤ c
  a1 : totN 0 (madeD t.k t.l1).ls ≤ c
  a2 : totN 0 (madeD t.k t.l2).ls ≤ c
  a3 : totN 0 (madeD t.k t.l3).ls ≤ c
theorem Tree.Light.sz {t : Tree} (l : t.Light) : t.Sz 32985348833280 :=
  ⟨made_sum _ _ l.l0, made_sum _ _ l.l1, made_sum _ _ l.l2, made_sum _ _ l.l3⟩
end Go.Sk
end

-- A37
section
namespace Go.Sk

def digV (n : Nat) : Nat := if _h : n = 0 then 0 else 1 + digV (n / 2)
termination_by n
decreasing_by omega
def bksN (ls : List (List Span)) : Nat := (ls.map List.length).sum
theorem bks_le {c : Nat} : ∀ (ls : List (List Span)), (∀ l ∈ ls, l.length ≤ c) → bksN ls ≤ c * ls.length := by
  intro ls
  induction ls with
  | nil => intro _; exact Nat.zero_le _
  | cons l r ih =>
    intro h
    have h1 := h l (by simp)
    have h2 := ih (fun x hx => h x (by simp [hx]))
    unfold bksN at *
    rw [List.map_cons, List.sum_cons, List.length_cons, Nat.mul_add, Nat.mul_one]; omega
noncomputable def boundB (k g : Int) (n : Nat) : Int := if n = 0 ∨ ¬ (2 ≤ k ∧ k ≤ 1024) ∨ g < 0 ∨ 4 < g then 0 else (k + 1) * ((digV n : Int) + g)
end Go.Sk
end

-- A38
section
namespace Go.Sk

end Go.Sk
end

-- A39
section
namespace Go.Sk

theorem fold_newG {k : Int} (h1 : 2 ≤ k) (h2 : k ≤ 1024) (g : Int) {l : List (Nat × Nat)} (ho : Ord l) (he : ∀ x ∈ l, x.1 ≤ 9223372036854775807 ∧ 1 ≤ x.2) (ht : sumW l ≤ 4503599627370496) :
    foldH ⟨k, g, []⟩ l = ⟨k, g, (foldH ⟨k, 0, []⟩ l).ls⟩ := by
  obtain ⟨a, _, _, _, _, _⟩ := fold_ok l ⟨k, g, []⟩ [] 0 ⟨h1, h2, fun l hl => (by cases hl), fun l hl => (by cases hl), Nat.zero_le _⟩ (flowS_nil _ _).symm (empty_tidy _) (fun x hx => by cases hx) ho (fun x hx => ⟨Nat.zero_le _, he x hx⟩) (by show 0 + _ ≤ _; omega)
  rw [a, (fold_new h1 h2 ho he ht).1]; rfl
theorem foldH_snoc (h : Hist) (l : List (Nat × Nat)) (x : Nat × Nat) : foldH h (l ++ [x]) = (addH (foldH h l) x.1 x.2).1 := by unfold foldH; rw [List.foldl_append]; rfl
theorem Ord.take {l : List (Nat × Nat)} (h : Ord l) (i : Nat) : Ord (l.take i) := List.Pairwise.sublist (List.take_sublist i l) h
theorem sumW_take (l : List (Nat × Nat)) (i : Nat) : sumW (l.take i) ≤ sumW l := by
  have := sumW_app (l.take i) (l.drop i)
  rw [List.take_append_drop] at this; omega
/-- On the way. -/
theorem fold_good {k : Int} (h1 : 2 ≤ k) (h2 : k ≤ 1024) (g : Int) {l : List (Nat × Nat)} (ho : Ord l) (he : ∀ x ∈ l, x.1 ≤ 9223372036854775807 ∧ 1 ≤ x.2) (ht : sumW l ≤ 4503599627370496) : (foldH ⟨k, g, []⟩ l).Good := by
  exact (fold_ok l ⟨k, g, []⟩ [] 0 ⟨h1, h2, fun l hl => (by cases hl), fun l hl => (by cases hl), Nat.zero_le _⟩ (flowS_nil _ _).symm (empty_tidy _) (fun x hx => by cases hx) ho (fun x hx => ⟨Nat.zero_le _, he x hx⟩) (by show 0 + _ ≤ _; omega)).2.1
/-- However lumps were put in turn. -/
theorem with_any {l : List Hist} {evs : List Event} (c : Came l evs) {m : List (Nat × Nat)} (hp : m.Perm (lumpsP l ++ evL evs)) (ho : Ord m) (g : Int) :
    foldH ⟨(l.headD zeroH).k, g, []⟩ m = ⟨(l.headD zeroH).k, g, (withV evs l).1.ls⟩ ∧ ∀ i, (foldH ⟨(l.headD zeroH).k, g, []⟩ (m.take i)).Good := by
  have hf := (c.fine _ (head_mem c.ne)).good
  obtain ⟨hl, hs⟩ := came_lumps c
  have p1 := sortL_perm (lumpsP l ++ evL evs)
  have hm : ∀ x ∈ m, x.1 ≤ 9223372036854775807 ∧ 1 ≤ x.2 := fun x hx => hl x (hp.mem_iff.1 hx)
  have ht : sumW m ≤ 4503599627370496 := by rw [sumW_perm hp, hs]; exact c.tot
  refine ⟨?_, fun i => fold_good hf.k0 hf.k1 g (ho.take i) (fun x hx => hm x (List.mem_of_mem_take hx)) (Nat.le_trans (sumW_take m i) ht)⟩
  rw [fold_newG hf.k0 hf.k1 g ho hm ht, with_val c]
  congr 1
  rw [fold_same hf.k0 hf.k1 (hp.trans p1.symm) ho (sortL_ord _) hm ht]
end Go.Sk
end

-- W10a
section
namespace Go.Sk
open Go Go.Proofs

theorem with_empty (e : Event) : Pure Tryz.prog 85 [e.av] (bl (e.w == 0)) := fun S => by
  refine callR_of Tryz.func85 rfl rfl (xc_ok (bitB 7) _ _ _ ?_)
  simp only [go_sem]
  refine alloc_intro fun b hb => ?_
  simp only [go_sem]
  (refine ⟨S, by (repeat (first | exact Sub.refl _ | refine Sub.setF ?_ (by first | assumption | simp only [*]) | refine Sub.setV ?_ (by first | assumption | simp only [*]))), ?_⟩); simp
theorem with_far (e : Event) : Pure Tryz.prog 86 [e.av] (bl (decide (9223372036854775807 < e.t))) := fun S => by
  refine callR_of Tryz.func86 rfl rfl (xc_ok (bitB 7) _ _ _ ?_)
  simp only [go_sem]
  refine alloc_intro fun b hb => ?_
  simp only [go_sem]
  (refine ⟨S, by (repeat (first | exact Sub.refl _ | refine Sub.setF ?_ (by first | assumption | simp only [*]) | refine Sub.setV ?_ (by first | assumption | simp only [*]))), ?_⟩); simp
theorem index_any (f : Nat) (p : Event → Bool) (hp : ∀ e : Event, Pure Tryz.prog f [e.av] (bl (p e))) (l : List Event) (hn : l.length < 1099511627776) :
    Pure Tryz.prog 145 [.p (evsP l), .fn (.func f) [] []] (i64 (if l.any p = true then (l.findIdx p : Int) else -1)) := fun S => by
  refine callR_of Tryz.func145 rfl rfl (xc_ok (bitB 66483) _ _ _ ?_)
  simp only [go_sem, evsP]
  refine AWP.roam (ι := Nat) (fun i => i ≤ l.length ∧ ∀ j (h : j < i) (h2 : j < l.length), p l[j] = false)
    (fun i => ⟨Env.get [(0, .p (evsP l)), (1, .fn (.func f) [] []), (7, i64 l.length), (8, i64 i)], S, 19, []⟩) (fun i => l.length - i) 0 ⟨by simp, fun j h => by omega⟩ ?_ ?_
  · exact le_of (by simp only [go_sem, evsP, List.length_map] <;> rfl) (Sub.refl _) rfl rfl (by simp)
  · rintro i ⟨hi, hall⟩ ih
    refine AWPH.step (xc_ok (bitB 66483) _ _ _ ?_)
    by_cases c : i < l.length
    · simp only [go_sem, evsP, c, ltN' c, getD_map' _ _ _ _ c, List.length_map]
      refine Pure.useF (first := []) (caps := []) (args := [(l[i]).av]) (a2 := [(l[i]).av]) (hp l[i]) rfl ?_
      cases ho : p l[i]
      · simp only [go_sem]
        refine (ih (i + 1) ⟨c, fun j h h2 => ?_⟩ (by omega)).back (by (repeat (first | exact Sub.refl _ | refine Sub.setF ?_ (by first | assumption | simp only [*]) | refine Sub.setV ?_ (by first | assumption | simp only [*])))) (by simp) ?_
        · rcases Nat.lt_or_ge j i with hj | hj
          · exact hall j hj h2
          · obtain rfl : j = i := by omega
            exact ho
        · simp only [go_sem, evsP, wi_succ (show i < 4611686018427387904 by omega)]
      · simp only [go_sem]
        have h1 : l.any p = true := List.any_eq_true.2 ⟨_, List.getElem_mem c, ho⟩
        have h2 : l.findIdx p = i := (List.findIdx_eq c).2 ⟨ho, fun j hj => hall j hj (by omega)⟩
        (refine ⟨S, by (repeat (first | exact Sub.refl _ | refine Sub.setF ?_ (by first | assumption | simp only [*]) | refine Sub.setV ?_ (by first | assumption | simp only [*]))), ?_⟩); rw [if_pos h1, h2]; simp
    · obtain rfl : i = l.length := by omega
      simp only [go_sem, evsP, c, List.length_map]
      have h1 : ¬ l.any p = true := fun h => by
        obtain ⟨x, hx, h⟩ := List.any_eq_true.1 h
        obtain ⟨j, hj, rfl⟩ := List.getElem_of_mem hx
        rw [hall j hj hj] at h; cases h
      (refine ⟨S, by (repeat (first | exact Sub.refl _ | refine Sub.setF ?_ (by first | assumption | simp only [*]) | refine Sub.setV ?_ (by first | assumption | simp only [*]))), ?_⟩); rw [if_neg h1]; simp
theorem contains_any (f : Nat) (p : Event → Bool) (hp : ∀ e : Event, Pure Tryz.prog f [e.av] (bl (p e))) (l : List Event) (hn : l.length < 1099511627776) :
    Pure Tryz.prog 87 [.p (evsP l), .fn (.func f) [] []] (bl (l.any p)) := fun S => by
  refine callR_of Tryz.func87 rfl rfl (xc_ok (bitB 19) _ _ _ ?_)
  simp only [go_sem]
  refine (index_any f p hp l hn).useA ?_
  simp only [go_sem]
  have e : decide ((if l.any p = true then (l.findIdx p : Int) else -1) ≥ 0) = l.any p := by
    cases l.any p <;> simp
  simp only [go_sem, e]
  (refine ⟨S, by (repeat (first | exact Sub.refl _ | refine Sub.setF ?_ (by first | assumption | simp only [*]) | refine Sub.setV ?_ (by first | assumption | simp only [*]))), ?_⟩); simp

/-- How much weight there still may be, and whether there was more. -/
def layS (s : Nat × Bool) (n : Nat) : Nat × Bool := (s.1 - min n s.1, s.2 || decide (s.1 < n))
def scaleC (s : Nat × Bool) : List AV := [u64 s.1, bl s.2]
theorem lay_in {S : Store} {b : Nat} (s : Nat × Bool) (n : Nat) (hs : s.1 < 18446744073709551616) (h1 : S (.r b) = some (.cells (scaleC s))) :
    CallR Tryz.prog 88 [.sp b 0, u64 n] S (fun r S' => r = .tuple [] ∧ S' = S.set (.r b) (.cells (scaleC (layS s n)))) := by
  obtain ⟨a, o⟩ := s
  unfold scaleC at h1 ⊢
  dsimp only at hs h1 ⊢
  refine callR_of Tryz.func88 rfl rfl (xc_ok (bitB 3) _ _ _ ?_)
  have hm : min n a ≤ a := Nat.min_le_right _ _
  by_cases c : a < n
  · have e1 : min n a = a := by omega
    have e2 : sub64 a a = 0 := by rw [sub64_le hs (Nat.le_refl a)]; omega
    cases o
    · simp only [go_sem, h1]
      refine AWP.draw2 (bitB 3) mixed (by kernel_rfl) (fun j => bl false) ?_
      simp only [go_sem, c, e2]
      exact ⟨_, Sub.refl _, Or.inl (by simp [layS, c, e1, e2] <;> rfl)⟩
    · simp only [go_sem, h1]
      refine AWP.draw2 (bitB 3) mixed (by kernel_rfl) (fun j => bl false) ?_
      simp only [go_sem, c, e2]
      exact ⟨_, Sub.refl _, Or.inl (by simp [layS, c, e1, e2] <;> rfl)⟩
  · have e1 : min n a = n := by omega
    have e2 : sub64 a n = a - n := sub64_le hs (by omega)
    cases o
    · simp only [go_sem, h1]
      refine AWP.draw2 (bitB 3) mixed (by kernel_rfl) (fun j => bl false) ?_
      simp only [go_sem, c, e2]
      exact ⟨_, Sub.refl _, Or.inl (by simp [layS, c, e1, e2] <;> rfl)⟩
    · simp only [go_sem, h1]
      refine AWP.draw2 (bitB 3) mixed (by kernel_rfl) (fun j => bl false) ?_
      simp only [go_sem, c, e2]
      exact ⟨_, Sub.refl _, Or.inl (by simp [layS, c, e1, e2] <;> rfl)⟩
end Go.Sk
end

-- A40
section
namespace Go.Sk

def gA (l : List Hist) : Int := l.foldl (fun g h => max g (h.g + 1)) 0
theorem gA_snoc (l : List Hist) (i : Nat) (hi : i < l.length) : gA (l.take (i + 1)) = max (gA (l.take i)) ((l[i]).g + 1) := by
  unfold gA; rw [List.take_succ_eq_append_getElem hi, List.foldl_append]; rfl
theorem gA_eq {l : List Hist} (hne : l ≠ []) (hg : ∀ h ∈ l, 0 ≤ h.g) : gA l = maxG l + 1 := by
  have key : ∀ (l : List Hist) (g : Int), l.foldl (fun g h => max g (h.g + 1)) (g + 1) = l.foldl (fun g h => max g h.g) g + 1 := by
    intro l
    induction l with
    | nil => intro g; rfl
    | cons x r ih =>
      intro g
      simp only [List.foldl_cons]
      rw [← ih (max g x.g)]
      congr 1; omega
  cases l with
  | nil => exact absurd rfl hne
  | cons x r =>
    have hx := hg x (by simp)
    unfold gA maxG
    simp only [List.foldl_cons]
    rw [show max (0 : Int) (x.g + 1) = x.g + 1 by omega, show max (0 : Int) x.g = x.g by omega]
    exact key r x.g
theorem gA_le {l : List Hist} (hg : ∀ h ∈ l, h.g ≤ 4) : 0 ≤ gA l ∧ gA l ≤ 5 := by
  have key : ∀ (l : List Hist) (g : Int), (∀ h ∈ l, h.g ≤ 4) → 0 ≤ g → g ≤ 5 → 0 ≤ l.foldl (fun g h => max g (h.g + 1)) g ∧ l.foldl (fun g h => max g (h.g + 1)) g ≤ 5 := by
    intro l
    induction l with
    | nil => intro g _ h1 h2; exact ⟨h1, h2⟩
    | cons x r ih =>
      intro g h h1 h2
      have := h x (by simp)
      exact ih _ (fun y hy => h y (by simp [hy])) (by dsimp only; omega) (by dsimp only; omega)
  exact key l 0 hg (by omega) (by omega)
theorem maxG_le {l : List Hist} (hg : ∀ h ∈ l, h.g ≤ 4) : 0 ≤ maxG l ∧ maxG l ≤ 4 := by
  have key : ∀ (l : List Hist) (g : Int), (∀ h ∈ l, h.g ≤ 4) → 0 ≤ g → g ≤ 4 → 0 ≤ l.foldl (fun g h => max g h.g) g ∧ l.foldl (fun g h => max g h.g) g ≤ 4 := by
    intro l
    induction l with
    | nil => intro g _ h1 h2; exact ⟨h1, h2⟩
    | cons x r ih =>
      intro g h h1 h2
      have := h x (by simp)
      exact ih _ (fun y hy => h y (by simp [hy])) (by dsimp only; omega) (by dsimp only; omega)
  exact key l 0 hg (by omega) (by omega)
def layN (s : Nat × Bool) (ns : List Nat) : Nat × Bool := ns.foldl layS s
theorem layN_eq (ns : List Nat) : ∀ s : Nat × Bool, layN s ns = (s.1 - ns.sum, s.2 || decide (s.1 < ns.sum)) := by
  induction ns with
  | nil => intro s; obtain ⟨a, o⟩ := s; simp [layN]
  | cons n r ih =>
    intro s
    obtain ⟨a, o⟩ := s
    show layN (layS (a, o) n) r = _
    rw [ih]
    unfold layS
    simp only [List.sum_cons]
    refine Prod.ext ?_ ?_
    · show a - min n a - r.sum = a - (n + r.sum); omega
    · show ((o || decide (a < n)) || decide (a - min n a < r.sum)) = (o || decide (a < n + r.sum))
      rw [Bool.or_assoc]
      congr 1
      by_cases h1 : a < n
      · simp [h1]; omega
      · have e : (a - min n a < r.sum) ↔ (a < n + r.sum) := by omega
        simp [h1, e]
theorem layN_lt (ns : List Nat) (s : Nat × Bool) : (layN s ns).1 ≤ s.1 := by rw [layN_eq]; exact Nat.sub_le _ _
def totsL (l : List Hist) : List Nat := l.map fun h => totN 0 h.ls
theorem layN_snoc (s : Nat × Bool) (ns : List Nat) (n : Nat) : layN s (ns ++ [n]) = layS (layN s ns) n := by unfold layN; rw [List.foldl_append]; rfl
theorem totsL_snoc (l : List Hist) (i : Nat) (hi : i < l.length) : totsL (l.take (i + 1)) = totsL (l.take i) ++ [totN 0 (l[i]).ls] := by
  unfold totsL; rw [List.take_succ_eq_append_getElem hi, List.map_append]; rfl
theorem evW_snoc (l : List Event) (i : Nat) (hi : i < l.length) : (l.take (i + 1)).map Event.w = (l.take i).map Event.w ++ [(l[i]).w] := by
  rw [List.take_succ_eq_append_getElem hi, List.map_append]; rfl
theorem withV_k {evs : List Event} {l : List Hist} (hl : l ≠ []) (h1 : evs.any (fun e => e.w == 0) = false) (h2 : l.any (fun h => h.k != (l.headD zeroH).k) = true) : withV evs l = (zeroH, 9) := by
  unfold withV
  rw [if_neg (by rw [h1]; simp [hl]), if_pos h2]
theorem withV_g {evs : List Event} {l : List Hist} (hl : l ≠ []) (h1 : evs.any (fun e => e.w == 0) = false) (h2 : l.any (fun h => h.k != (l.headD zeroH).k) = false) (h3 : 4 ≤ maxG l) : withV evs l = (zeroH, 10) := by
  unfold withV
  rw [if_neg (by rw [h1]; simp [hl]), if_neg (by rw [h2]; simp), if_pos h3]
theorem withV_t {evs : List Event} {l : List Hist} (hl : l ≠ []) (h1 : evs.any (fun e => e.w == 0) = false) (h2 : l.any (fun h => h.k != (l.headD zeroH).k) = false) (h3 : ¬ 4 ≤ maxG l) (h4 : evs.any (fun e => decide (9223372036854775807 < e.t)) = true) : withV evs l = (zeroH, 6) := by
  unfold withV
  rw [if_neg (by rw [h1]; simp [hl]), if_neg (by rw [h2]; simp), if_neg h3, if_pos h4]
theorem withV_o {evs : List Event} {l : List Hist} (hl : l ≠ []) (h1 : evs.any (fun e => e.w == 0) = false) (h2 : l.any (fun h => h.k != (l.headD zeroH).k) = false) (h3 : ¬ 4 ≤ maxG l) (h4 : evs.any (fun e => decide (9223372036854775807 < e.t)) = false) (h5 : 4503599627370496 < sumT l + sumE Event.w evs) : withV evs l = (zeroH, 5) := by
  unfold withV
  rw [if_neg (by rw [h1]; simp [hl]), if_neg (by rw [h2]; simp), if_neg h3, if_neg (by rw [h4]; simp), if_pos h5]
theorem came_of {evs : List Event} {l : List Hist} (hf : ∀ h ∈ l, h.Fine) (hl : l ≠ []) (h1 : evs.any (fun e => e.w == 0) = false) (h2 : l.any (fun h => h.k != (l.headD zeroH).k) = false) (h3 : ¬ 4 ≤ maxG l) (h4 : evs.any (fun e => decide (9223372036854775807 < e.t)) = false) (h5 : ¬ 4503599627370496 < sumT l + sumE Event.w evs) : Came l evs := by
  refine ⟨hl, fun h hh => ?_, hf, by omega, fun e he => ⟨?_, ?_⟩, by omega⟩
  · rw [List.any_eq_false] at h2
    have := h2 h hh
    simpa using this
  · rw [List.any_eq_false] at h1
    have := h1 e he
    simp at this; omega
  · rw [List.any_eq_false] at h4
    have := h4 e he
    simp at this; omega
theorem over_eq (l : List Hist) (evs : List Event) : (layN (layN (4503599627370496, false) (totsL l)) (evs.map Event.w)).2 = decide (4503599627370496 < sumT l + sumE Event.w evs) := by
  rw [layN_eq, layN_eq]
  have h1 : (totsL l).sum = sumT l := rfl
  have h2 : (evs.map Event.w).sum = sumE Event.w evs := rfl
  rw [h1, h2]
  dsimp only
  by_cases a : 4503599627370496 < sumT l
  · simp [a]; omega
  · have e : (4503599627370496 - sumT l < sumE Event.w evs) ↔ (4503599627370496 < sumT l + sumE Event.w evs) := by omega
    simp [a, e]
end Go.Sk
end

-- A58
section
namespace Go.Sk

def maxK (f : Buf → Nat) (l : List Buf) : Nat := l.foldl (fun m x => max m (f x)) 0
theorem maxK_snoc (f : Buf → Nat) (l : List Buf) (i : Nat) (h : i < l.length) : maxK f (l.take (i + 1)) = max (maxK f (l.take i)) (f l[i]) := by
  unfold maxK; rw [List.take_succ_eq_append_getElem h, List.foldl_append]; rfl
def allE (l : List Buf) : List Event := (l.map Buf.evs).flatten
theorem allE_snoc (l : List Buf) (i : Nat) (h : i < l.length) : allE (l.take (i + 1)) = allE (l.take i) ++ (l[i]).evs := by
  unfold allE; rw [List.take_succ_eq_append_getElem h, List.map_append, List.flatten_append]; simp
theorem allE_le (l : List Buf) (i : Nat) : (allE (l.take i)).length ≤ (allE l).length := by
  have : allE l = allE (l.take i) ++ allE (l.drop i) := by unfold allE; rw [← List.flatten_append, ← List.map_append, List.take_append_drop]
  rw [this, List.length_append]; omega
/-- Buffers as one, and what goes out by its front. -/
def joinB (l : List Buf) : Buf × List Event :=
  if l = [] then (zeroB, []) else
    (⟨(l.headD zeroB).late, (l.headD zeroB).room, maxK Buf.mark l, maxK Buf.front l, (gatherE (allE l)).drop (belowN (maxK Buf.front l) (gatherE (allE l)))⟩, (gatherE (allE l)).take (belowN (maxK Buf.front l) (gatherE (allE l))))
theorem maxK_go (f : Buf → Nat) : ∀ (l : List Buf) (m : Nat), m ≤ l.foldl (fun m x => max m (f x)) m ∧ (∀ b ∈ l, f b ≤ l.foldl (fun m x => max m (f x)) m) ∧ ∀ c, m ≤ c → (∀ b ∈ l, f b ≤ c) → l.foldl (fun m x => max m (f x)) m ≤ c := by
  intro l
  induction l with
  | nil => intro m; exact ⟨Nat.le_refl _, fun b hb => (by cases hb), fun c h _ => h⟩
  | cons x r ih =>
    intro m
    obtain ⟨i1, i2, i3⟩ := ih (max m (f x))
    simp only [List.foldl_cons]
    refine ⟨by omega, fun b hb => ?_, fun c h1 h2 => i3 c (by have := h2 x (by simp); omega) (fun b hb => h2 b (by simp [hb]))⟩
    rcases List.mem_cons.1 hb with rfl | hb
    · omega
    · exact i2 b hb
theorem maxK_ge (f : Buf → Nat) (l : List Buf) : ∀ b ∈ l, f b ≤ maxK f l := (maxK_go f l 0).2.1
theorem maxK_le (f : Buf → Nat) (l : List Buf) {c : Nat} (h : ∀ b ∈ l, f b ≤ c) : maxK f l ≤ c := (maxK_go f l 0).2.2 c (Nat.zero_le _) h
theorem gather_perm (l : List Event) : (gatherE l).Perm l := (gather_ok l).2.perm.symm
theorem sumE_perm (f : Event → Nat) {l m : List Event} (h : l.Perm m) : sumE f l = sumE f m := by unfold sumE; exact (h.map f).sum_nat
theorem mem_allE {l : List Buf} {e : Event} : e ∈ allE l ↔ ∃ b ∈ l, e ∈ b.evs := by
  unfold allE; rw [List.mem_flatten]
  constructor
  · rintro ⟨x, hx, he⟩; obtain ⟨b, hb, rfl⟩ := List.mem_map.1 hx; exact ⟨b, hb, he⟩
  · rintro ⟨b, hb, he⟩; exact ⟨_, List.mem_map.2 ⟨b, hb, rfl⟩, he⟩

/-- Sketches that may be merged: what is known of each. -/
structure Skt.Fit (s : Skt) : Prop where
  good : s.Good
  fine : s.past.Fine
  gen : s.past.g ≤ 4
  ok : ∀ e ∈ s.b.evs, e.Ok
def likeK (a b : Skt) : Bool := decide (a.win = b.win ∧ a.b.late = b.b.late ∧ a.b.room = b.b.room ∧ a.past.k = b.past.k)
def waitsK (l : List Skt) : List Buf := l.map Skt.b
def pastsK (l : List Skt) : List Hist := l.map Skt.past
def sumsK (l : List Skt) : List Nat := l.flatMap fun s => [totN 0 s.past.ls, sumE Event.w s.b.evs]
def fitsK (l : List Skt) : Int := if l = [] then 1 else if l.any (fun s => !likeK s (l.headD zeroK)) = true then 9 else if maxG (pastsK l) = 4 then 10 else 0
noncomputable def mixK (l : List Skt) : Skt := ⟨(l.headD zeroK).win, (joinB (waitsK l)).1, (withV (joinB (waitsK l)).2 (pastsK l)).1⟩
/-- Some as one. -/
noncomputable def mergeK (l : List Skt) : Skt × Int :=
  if fitsK l ≠ 0 then (zeroK, fitsK l) else if 4503599627370496 < (sumsK l).sum then (zeroK, 5) else moveK (mixK l) (mixK l).b.mark
theorem sums_sum (l : List Skt) : (sumsK l).sum = sumT (pastsK l) + sumE Event.w (allE (waitsK l)) := by
  induction l with
  | nil => rfl
  | cons s r ih =>
    have e1 : (sumsK (s :: r)).sum = totN 0 s.past.ls + sumE Event.w s.b.evs + (sumsK r).sum := by unfold sumsK; simp; omega
    have e2 : sumT (pastsK (s :: r)) = totN 0 s.past.ls + sumT (pastsK r) := sumT_cons _ _
    have e3 : allE (waitsK (s :: r)) = s.b.evs ++ allE (waitsK r) := by unfold allE waitsK; simp
    rw [e1, e2, e3, sumE_app, ih]; omega
theorem fits_ok {l : List Skt} (h : fitsK l = 0) : l ≠ [] ∧ (∀ s ∈ l, s.win = (l.headD zeroK).win ∧ s.b.late = (l.headD zeroK).b.late ∧ s.b.room = (l.headD zeroK).b.room ∧ s.past.k = (l.headD zeroK).past.k) ∧ maxG (pastsK l) ≠ 4 := by
  unfold fitsK at h
  by_cases h1 : l = []
  · rw [if_pos h1] at h; simp at h
  rw [if_neg h1] at h
  by_cases h2 : l.any (fun s => !likeK s (l.headD zeroK)) = true
  · rw [if_pos h2] at h; simp at h
  rw [if_neg h2] at h
  by_cases h3 : maxG (pastsK l) = 4
  · rw [if_pos h3] at h; simp at h
  refine ⟨h1, fun s hs => ?_, h3⟩
  have h4 := List.any_eq_false.1 (by simpa using h2 : l.any (fun s => !likeK s (l.headD zeroK)) = false) s hs
  unfold likeK at h4
  simpa using h4
theorem head_in {l : List Skt} (h : l ≠ []) : l.headD zeroK ∈ l := by cases l with | nil => exact absurd rfl h | cons a r => simp
theorem head_maps {l : List Skt} (h : l ≠ []) : (waitsK l).headD zeroB = (l.headD zeroK).b ∧ (pastsK l).headD zeroH = (l.headD zeroK).past ∧ waitsK l ≠ [] ∧ pastsK l ≠ [] := by
  cases l with
  | nil => exact absurd rfl h
  | cons a r => exact ⟨rfl, rfl, by simp [waitsK], by simp [pastsK]⟩
structure MixOk (l : List Skt) : Prop where
  came : Came (pastsK l) (joinB (waitsK l)).2
  lax : (mixK l).Lax
  fine : (mixK l).past.Fine
  k : (mixK l).past.k = (l.headD zeroK).past.k
  g : (mixK l).past.g = maxG (pastsK l) + 1
  early : ∀ e ∈ (joinB (waitsK l)).2, e.Ok
  elen : (joinB (waitsK l)).2.length < 1048576
theorem mix_ok {l : List Skt} (hf : ∀ s ∈ l, s.Fit) (hn : l.length ≤ 1000) (h0 : fitsK l = 0) (ht : ¬ 4503599627370496 < (sumsK l).sum) : MixOk l := by
  obtain ⟨hne, hc, hg4⟩ := fits_ok h0
  obtain ⟨hw1, hp1, hwn, hpn⟩ := head_maps hne
  have hd := (hf _ (head_in hne)).good
  rw [sums_sum] at ht
  have hj : joinB (waitsK l) = (⟨(l.headD zeroK).b.late, (l.headD zeroK).b.room, maxK Buf.mark (waitsK l), maxK Buf.front (waitsK l), (gatherE (allE (waitsK l))).drop (belowN (maxK Buf.front (waitsK l)) (gatherE (allE (waitsK l))))⟩, (gatherE (allE (waitsK l))).take (belowN (maxK Buf.front (waitsK l)) (gatherE (allE (waitsK l))))) := by
    unfold joinB; rw [if_neg hwn, hw1]
  have hbm : ∀ b ∈ waitsK l, ∃ s ∈ l, b = s.b := fun b hb => by obtain ⟨s, hs, rfl⟩ := List.mem_map.1 hb; exact ⟨s, hs, rfl⟩
  have hM : maxK Buf.mark (waitsK l) ≤ 9223372036854775807 := maxK_le _ _ fun b hb => by obtain ⟨s, hs, rfl⟩ := hbm b hb; exact (hf s hs).good.mkk
  have hFM : maxK Buf.front (waitsK l) ≤ maxK Buf.mark (waitsK l) := maxK_le _ _ fun b hb => by
    have := maxK_ge Buf.mark _ b hb
    obtain ⟨s, hs, rfl⟩ := hbm b hb
    exact Nat.le_trans (hf s hs).good.fm this
  have hev : ∀ e ∈ gatherE (allE (waitsK l)), e.t ≤ maxK Buf.mark (waitsK l) ∧ 1 ≤ e.w := fun e he => by
    obtain ⟨b, hb, he⟩ := mem_allE.1 ((gather_perm _).mem_iff.1 he)
    have := maxK_ge Buf.mark _ b hb
    obtain ⟨s, hs, rfl⟩ := hbm b hb
    have := (hf s hs).good.ev e he
    exact ⟨by omega, this.2.2⟩
  obtain ⟨gs, gf⟩ := gather_ok (allE (waitsK l))
  have hsplit : sumE Event.w (allE (waitsK l)) = sumE Event.w (joinB (waitsK l)).2 + sumE Event.w (joinB (waitsK l)).1.evs := by
    rw [hj, ← sumE_app, List.take_append_drop]; exact (sumE_perm _ (gather_perm _)).symm
  have hlen : (gatherE (allE (waitsK l))).length ≤ l.length * 1024 := by
    rw [gather_len]
    clear ht h0 hc hg4 hd hw1 hp1 hwn hpn hj hbm hM hFM hev gs gf hsplit hne hn
    induction l with
    | nil => exact Nat.le_refl _
    | cons s r ih =>
      have e3 : allE (waitsK (s :: r)) = s.b.evs ++ allE (waitsK r) := by unfold allE waitsK; simp
      have h1 := (hf s (by simp)).good
      have h2 := ih fun s hs => hf s (by simp [hs])
      have h3 := h1.len; have h4 := h1.r2
      rw [e3, List.length_append, List.length_cons, Nat.add_mul]; omega
  have hpm : ∀ h ∈ pastsK l, ∃ s ∈ l, h = s.past := fun b hb => by obtain ⟨s, hs, rfl⟩ := List.mem_map.1 hb; exact ⟨s, hs, rfl⟩
  have hgl : maxG (pastsK l) ≤ 4 := (maxG_le fun h hh => by obtain ⟨s, hs, rfl⟩ := hpm h hh; exact (hf s hs).gen).2
  have came : Came (pastsK l) (joinB (waitsK l)).2 := ⟨hpn, fun h hh => by rw [hp1]; obtain ⟨s, hs, rfl⟩ := hpm h hh; exact (hc s hs).2.2.2, fun h hh => by obtain ⟨s, hs, rfl⟩ := hpm h hh; exact (hf s hs).fine, by omega,
    fun e he => by rw [hj] at he; have := hev e (List.mem_of_mem_take he); omega, by omega⟩
  obtain ⟨a1, a2, a3, a4, a5, a6, a7⟩ := with_ok came
  have he1 : ∀ e ∈ (joinB (waitsK l)).2, e.t ≤ maxK Buf.front (waitsK l) := by rw [hj]; exact take_below
  have he2 : ∀ e ∈ (joinB (waitsK l)).1.evs, maxK Buf.front (waitsK l) < e.t := by rw [hj]; exact drop_below gs
  have hlow : ∀ x ∈ flat (withV (joinB (waitsK l)).2 (pastsK l)).1.ls, x.b ≤ maxK Buf.front (waitsK l) := by
    rw [a6]
    refine flowS_far _ _ _ _ _ (fun s hs => by cases hs) fun s hs => ?_
    obtain ⟨x, hx, hs⟩ := List.mem_flatMap.1 hs
    rw [List.eq_of_mem_replicate hs]
    rcases List.mem_append.1 ((sortL_perm _).mem_iff.1 hx) with hx | hx
    · obtain ⟨⟨h, hh, y, hy, e⟩, _⟩ := lumpsP_mem x hx
      obtain ⟨s, hs, rfl⟩ := hpm h hh
      have h1 := (hf s hs).good.pf y hy
      have h2 := maxK_ge Buf.front (waitsK l) s.b (List.mem_map.2 ⟨s, hs, rfl⟩)
      show x.1 ≤ _; omega
    · obtain ⟨e, he, rfl⟩ := List.mem_map.1 hx
      exact he1 e he
  refine ⟨came, ⟨hd.w1, hd.w2, ?_, ?_, ?_, ?_, ?_, fun e he => ?_, ?_, ?_, a2.good, a2.tidy, ?_, ?_⟩, a2, ?_, a4, fun e he => ?_, ?_⟩
  · show (joinB (waitsK l)).1.late ≤ _; rw [hj]; exact hd.lt
  · show 1 ≤ (joinB (waitsK l)).1.room; rw [hj]; exact hd.r1
  · show (joinB (waitsK l)).1.room ≤ _; rw [hj]; exact hd.r2
  · show (joinB (waitsK l)).1.mark ≤ _; rw [hj]; exact hM
  · show (joinB (waitsK l)).1.front ≤ (joinB (waitsK l)).1.mark; rw [hj]; exact hFM
  · have h1 := he2 e he
    have h2 : e ∈ gatherE (allE (waitsK l)) := by
      have he : e ∈ (joinB (waitsK l)).1.evs := he
      rw [hj] at he; exact List.mem_of_mem_drop he
    have h3 := hev e h2
    have e1 : (mixK l).b.front = maxK Buf.front (waitsK l) := by show (joinB (waitsK l)).1.front = _; rw [hj]
    have e2 : (mixK l).b.mark = maxK Buf.mark (waitsK l) := by show (joinB (waitsK l)).1.mark = _; rw [hj]
    rw [e1, e2]; exact ⟨h1, h3⟩
  · show Srt (joinB (waitsK l)).1.evs; rw [hj]; exact gs.drop _
  · show (joinB (waitsK l)).1.evs.length < _; rw [hj]; simp only [List.length_drop]; omega
  · have e1 : (mixK l).b.front = maxK Buf.front (waitsK l) := by show (joinB (waitsK l)).1.front = _; rw [hj]
    rw [e1]; exact hlow
  · show totN 0 (withV (joinB (waitsK l)).2 (pastsK l)).1.ls + sumE Event.w (joinB (waitsK l)).1.evs ≤ _; rw [a5]; omega
  · show (withV (joinB (waitsK l)).2 (pastsK l)).1.k = _; rw [a3, hp1]
  · obtain ⟨b, hb, hbe⟩ := mem_allE.1 ((gather_perm _).mem_iff.1 (show e ∈ gatherE (allE (waitsK l)) by rw [hj] at he; exact List.mem_of_mem_take he))
    obtain ⟨s, hs, rfl⟩ := hbm b hb
    exact (hf s hs).ok e hbe
  · rw [hj]; simp only [List.length_take]; omega
end Go.Sk
end

-- A60
section
namespace Go.Sk

theorem settle_sub (b : Buf) : (∀ e ∈ (settleB b).1.evs, e ∈ b.evs) ∧ ∀ e ∈ (settleB b).2, e ∈ b.evs := ⟨fun e he => List.mem_of_mem_drop he, fun e he => List.mem_of_mem_take he⟩
theorem moveK_sub (s : Skt) (t : Nat) : ∀ e ∈ (moveK s t).1.b.evs, e ∈ s.b.evs := by
  intro e he
  unfold moveK at he
  split at he
  · have he : e ∈ (moveB s.b t).1.1.evs := he
    unfold moveB at he
    split at he
    · cases he
    · exact (settle_sub ⟨s.b.late, s.b.room, max s.b.mark t, s.b.front, s.b.evs⟩).1 e he
  · cases he
/-- A sketch, fine and so often merged. -/
structure Skt.FitG (s : Skt) (g : Int) : Prop where
  good : s.Good
  fine : s.past.Fine
  gen : s.past.g = g
  ok : ∀ e ∈ s.b.evs, e.Ok
theorem Skt.FitG.fit {s : Skt} {g : Int} (h : s.FitG g) (hg : g ≤ 4) : s.Fit := ⟨h.good, h.fine, by rw [h.gen]; exact hg, h.ok⟩
theorem oneK_fit {s : Skt} {g : Int} (hf : s.FitG g) {e : Event} (he : e.Ok) (h0 : (oneK s e).2 = 0) : (oneK s e).1.FitG g := by
  have hg := hf.good
  have o1 := (oneK_ok hg e h0).1
  unfold oneK at h0 o1 ⊢
  by_cases hw : e.w = 0
  · rw [if_pos hw] at h0 o1 ⊢
    have ht : e.t ≤ 9223372036854775807 := by
      apply Classical.byContradiction
      intro hc
      have hm : moveB s.b e.t = ((zeroB, []), 6) := by unfold moveB; rw [if_pos (by omega)]
      unfold moveK at h0
      rw [hm] at h0
      simp at h0
    obtain ⟨_, _, m3, _, m5, _⟩ := moveK_lax hg.lax hf.fine ht
    exact ⟨o1, m3, by rw [m5]; exact hf.gen, fun x hx => hf.ok x (moveK_sub s e.t x hx)⟩
  · rw [if_neg hw] at h0 o1 ⊢
    unfold addK pushB at h0 o1 ⊢
    rw [if_neg hw] at h0 o1 ⊢
    by_cases ht : 9223372036854775807 < e.t
    · rw [if_pos ht, if_neg (by decide)] at h0; simp at h0
    rw [if_neg ht] at h0 o1 ⊢
    by_cases hfr : e.t < s.b.front
    · rw [if_pos hfr, if_neg (by decide)] at h0; simp at h0
    rw [if_neg hfr] at h0 o1 ⊢
    dsimp only at h0 o1 ⊢
    rw [if_pos rfl] at h0 o1 ⊢
    by_cases hh : 4503599627370496 < totN 0 s.past.ls + sumE Event.w s.b.evs + e.w
    · rw [if_pos hh] at h0; simp at h0
    rw [if_neg hh] at h0 o1 ⊢
    have hsub := settle_sub ⟨s.b.late, s.b.room, max s.b.mark e.t, s.b.front, insE s.b.evs e⟩
    have hmk := hg.mkk
    have hfm := hg.fm
    have hins : ∀ x ∈ insE s.b.evs e, s.b.front ≤ x.t ∧ x.t ≤ max s.b.mark e.t ∧ 1 ≤ x.w := fun x hx => by
      rcases insE_mem.1 hx with rfl | hx
      · omega
      · have := hg.ev x hx; omega
    obtain ⟨q1, q2, q3, q4, q5, q6, q7, q8, q9, q10, q11⟩ := settleB_ok (b := ⟨s.b.late, s.b.room, max s.b.mark e.t, s.b.front, insE s.b.evs e⟩) (insE_srt hg.sr e) (by dsimp only; omega) (fun x hx => (hins x hx).2.1)
    have hse := sumE_ins Event.w s.b.evs e
    generalize settleB ⟨s.b.late, s.b.room, max s.b.mark e.t, s.b.front, insE s.b.evs e⟩ = R at *
    obtain ⟨b', out⟩ := R
    dsimp only at *
    have hsum : sumE Event.w (insE s.b.evs e) = sumE Event.w out + sumE Event.w b'.evs := by rw [q6, sumE_app]
    have hout : ∀ x ∈ out, s.b.front ≤ x.t ∧ x.t ≤ 9223372036854775807 ∧ 1 ≤ x.w := fun x hx => by have := hins x (hsub.2 x hx); omega
    have htot := hg.tot
    obtain ⟨_, _, _, p4, _⟩ := pass_ok out s.past s.b.front hg.pg hg.pt hg.pf q9 hout (by omega)
    refine ⟨o1, dropH_fine (oldV_anti _ _) (passV_fine out s.past s.b.front hf.fine hg.pf q9 hout (by omega)), ?_, fun x hx => ?_⟩
    · show (passV s.past out).g = g; rw [p4]; exact hf.gen
    · rcases insE_mem.1 (hsub.1 x hx) with rfl | hx
      · exact he
      · exact hf.ok x hx
theorem madeKo_fit : ∀ (l : List Event) (s : Skt) (all : List Event), s.FitG 0 → (∀ e ∈ l, e.Ok) → (madeKo l s all).1.FitG 0 := by
  intro l
  induction l with
  | nil => intro s all h _; exact h
  | cons e r ih =>
    intro s all h he
    unfold madeKo
    by_cases c : (oneK s e).2 = 0
    · rw [if_pos c]; exact ih _ _ (oneK_fit h (he e (by simp)) c) fun x hx => he x (by simp [hx])
    · rw [if_neg c]; exact ih _ _ h fun x hx => he x (by simp [hx])
theorem madeK_fit (k : Int) (n0 n1 : Nat) {l : List Event} (hl : ∀ e ∈ l, e.Ok) : (madeK k n0 n1 l).1.FitG 0 := by
  obtain ⟨h1, h2⟩ := newK_good (k := 2 + max k 0 % 30) (win := 1 + n0 % 1000) (late := n1 % 100) (room := 1 + (n1 % 7 : Nat)) (by omega) (by omega) (by omega) (by omega) (by omega) (by omega) (by omega)
  refine madeKo_fit _ _ _ ⟨h1, ⟨h1.pg, h1.pt, fun x hx => (by cases hx), Int.le_refl _, True.intro⟩, rfl, fun e he => (by cases he)⟩ fun e he => hl e (List.mem_of_mem_take he)
/-- What they are merged to. -/
theorem mergeK_good {l : List Skt} (hf : ∀ s ∈ l, s.Fit) (hn : l.length ≤ 1000) (h0 : (mergeK l).2 = 0) : (mergeK l).1.FitG (maxG (pastsK l) + 1) ∧ fitsK l = 0 ∧ ¬ 4503599627370496 < (sumsK l).sum := by
  by_cases hz : fitsK l = 0
  rotate_left
  · unfold mergeK at h0; rw [if_pos hz] at h0; exact absurd h0 hz
  by_cases ht : 4503599627370496 < (sumsK l).sum
  · unfold mergeK at h0; rw [if_neg (by simpa using hz), if_pos ht] at h0; simp at h0
  have ok := mix_ok hf hn hz ht
  have hv : mergeK l = moveK (mixK l) (mixK l).b.mark := by unfold mergeK; rw [if_neg (by simpa using hz), if_neg ht]
  obtain ⟨_, m2, m3, _, m5, _⟩ := moveK_lax ok.lax ok.fine ok.lax.mkk
  rw [hv]
  refine ⟨⟨m2, m3, by rw [m5, ok.g], fun e he => ?_⟩, hz, ht⟩
  have he := moveK_sub _ _ e he
  obtain ⟨hne, _, _⟩ := fits_ok hz
  obtain ⟨_, _, hwn, _⟩ := head_maps hne
  have he : e ∈ (joinB (waitsK l)).1.evs := he
  unfold joinB at he
  rw [if_neg hwn] at he
  obtain ⟨b, hb, hbe⟩ := mem_allE.1 ((gather_perm _).mem_iff.1 (List.mem_of_mem_drop he))
  obtain ⟨s, hs, rfl⟩ := List.mem_map.1 hb
  exact (hf s hs).ok e hbe
end Go.Sk
end

-- A61
section
namespace Go.Sk

/-- No more is held than came. -/
def Skt.Less (s : Skt) (all : List Event) : Prop := totN 0 s.past.ls + sumE Event.w s.b.evs ≤ sumE Event.w all
theorem passK_less {s : Skt} (hg : s.Lax) {b' : Buf} {out evs : List Event} (q4 : s.b.front ≤ b'.front) (q5 : b'.front ≤ 9223372036854775807) (q6 : evs = out ++ b'.evs) (q7 : ∀ e ∈ out, e.t ≤ b'.front) (q9 : Srt out) (hev : ∀ e ∈ evs, s.b.front ≤ e.t ∧ 1 ≤ e.w) (htot : totN 0 s.past.ls + sumE Event.w evs ≤ 4503599627370496) :
    totN 0 (passK s b' out).past.ls + sumE Event.w (passK s b' out).b.evs ≤ totN 0 s.past.ls + sumE Event.w evs := by
  have hsum : sumE Event.w evs = sumE Event.w out + sumE Event.w b'.evs := by rw [q6, sumE_app]
  obtain ⟨p1, p2, p3, p4, p5, p6, p7⟩ := pass_ok out s.past s.b.front hg.pg hg.pt hg.pf q9 (fun e he => by
    have := hev e (by rw [q6]; exact List.mem_append_left _ he)
    have := q7 e he; omega) (by omega)
  have := dropG_tot (oldV b'.front s.win) (passV s.past out).ls 0
  show totN 0 (dropG (oldV b'.front s.win) (passV s.past out).ls) + sumE Event.w b'.evs ≤ _
  omega
theorem moveK_less {s : Skt} (hg : s.Lax) {t : Nat} (ht : t ≤ 9223372036854775807) : totN 0 (moveK s t).1.past.ls + sumE Event.w (moveK s t).1.b.evs ≤ totN 0 s.past.ls + sumE Event.w s.b.evs := by
  have hfm := hg.fm
  have hmk := hg.mkk
  have hm : moveB s.b t = (settleB ⟨s.b.late, s.b.room, max s.b.mark t, s.b.front, s.b.evs⟩, 0) := by unfold moveB; rw [if_neg (by omega)]
  have hk : moveK s t = (passK s (settleB ⟨s.b.late, s.b.room, max s.b.mark t, s.b.front, s.b.evs⟩).1 (settleB ⟨s.b.late, s.b.room, max s.b.mark t, s.b.front, s.b.evs⟩).2, 0) := by unfold moveK; rw [hm]; rfl
  rw [hk]
  obtain ⟨q1, q2, q3, q4, q5, q6, q7, q8, q9, q10, q11⟩ := settleB_ok (b := ⟨s.b.late, s.b.room, max s.b.mark t, s.b.front, s.b.evs⟩) hg.sr (by dsimp only; omega) (fun e he => by have := hg.ev e he; dsimp only; omega)
  exact passK_less hg q4 (by dsimp only at q5; omega) q6 q7 q9 (fun e he => by have := hg.ev e he; omega) hg.tot
theorem oneK_less {s : Skt} (hg : s.Good) {e : Event} (h0 : (oneK s e).2 = 0) {all : List Event} (hl : s.Less all) : (oneK s e).1.Less (if 0 < e.w then all ++ [e] else all) := by
  unfold oneK at h0 ⊢
  unfold Skt.Less at hl ⊢
  by_cases hw : e.w = 0
  · rw [if_pos hw] at h0 ⊢
    rw [if_neg (by omega)]
    have ht : e.t ≤ 9223372036854775807 := by
      apply Classical.byContradiction
      intro hc
      have hm : moveB s.b e.t = ((zeroB, []), 6) := by unfold moveB; rw [if_pos (by omega)]
      unfold moveK at h0
      rw [hm] at h0
      simp at h0
    exact Nat.le_trans (moveK_less hg.lax ht) hl
  · rw [if_neg hw] at h0 ⊢
    rw [if_pos (by omega), sumE_app, sumE_cons, sumE_nil]
    unfold addK pushB at h0 ⊢
    rw [if_neg hw] at h0 ⊢
    by_cases ht : 9223372036854775807 < e.t
    · rw [if_pos ht, if_neg (by decide)] at h0; simp at h0
    rw [if_neg ht] at h0 ⊢
    by_cases hfr : e.t < s.b.front
    · rw [if_pos hfr, if_neg (by decide)] at h0; simp at h0
    rw [if_neg hfr] at h0 ⊢
    dsimp only at h0 ⊢
    rw [if_pos rfl] at h0 ⊢
    by_cases hh : 4503599627370496 < totN 0 s.past.ls + sumE Event.w s.b.evs + e.w
    · rw [if_pos hh] at h0; simp at h0
    rw [if_neg hh]
    have hmk := hg.mkk
    have hfm := hg.fm
    have hins : ∀ x ∈ insE s.b.evs e, s.b.front ≤ x.t ∧ x.t ≤ max s.b.mark e.t ∧ 1 ≤ x.w := fun x hx => by
      rcases insE_mem.1 hx with rfl | hx
      · omega
      · have := hg.ev x hx; omega
    obtain ⟨q1, q2, q3, q4, q5, q6, q7, q8, q9, q10, q11⟩ := settleB_ok (b := ⟨s.b.late, s.b.room, max s.b.mark e.t, s.b.front, insE s.b.evs e⟩) (insE_srt hg.sr e) (by dsimp only; omega) (fun x hx => (hins x hx).2.1)
    have hse := sumE_ins Event.w s.b.evs e
    have := passK_less hg.lax q4 (by dsimp only at q5; omega) q6 q7 q9 (fun x hx => ⟨(hins x hx).1, (hins x hx).2.2⟩) (by dsimp only; omega)
    dsimp only at this ⊢
    omega
theorem madeKo_less : ∀ (l : List Event) (s : Skt) (all : List Event), s.Good → s.Less all → (madeKo l s all).1.Less (madeKo l s all).2 := by
  intro l
  induction l with
  | nil => intro s all _ h; exact h
  | cons e r ih =>
    intro s all hg h
    unfold madeKo
    by_cases c : (oneK s e).2 = 0
    · rw [if_pos c]; exact ih _ _ (oneK_ok hg e c).1 (oneK_less hg c h)
    · rw [if_neg c]; exact ih _ _ hg h
/-- A sketch, so often merged, of all that came. -/
structure Skt.Of (s : Skt) (g : Nat) (all : List Event) : Prop where
  fit : s.FitG g
  led : s.LedG g all
  less : s.Less all
theorem madeK_of (k : Int) (n0 n1 : Nat) {l : List Event} (hl : ∀ e ∈ l, e.Ok) : (madeK k n0 n1 l).1.Of 0 (madeK k n0 n1 l).2 ∧ (madeK k n0 n1 l).1.past.k = 2 + max k 0 % 30 ∧ (madeK k n0 n1 l).1.win = 1 + n0 % 1000 ∧ (madeK k n0 n1 l).2.length ≤ 30 ∧ ∀ e ∈ (madeK k n0 n1 l).2, e.w ≤ 4503599627370496 := by
  obtain ⟨h1, h2⟩ := newK_good (k := 2 + max k 0 % 30) (win := 1 + n0 % 1000) (late := n1 % 100) (room := 1 + (n1 % 7 : Nat)) (by omega) (by omega) (by omega) (by omega) (by omega) (by omega) (by omega)
  obtain ⟨a, b, c, d, e, f⟩ := madeKo_ok (l.take 30) _ [] h1 h2
  refine ⟨⟨madeK_fit k n0 n1 hl, b.gen, madeKo_less _ _ _ h1 (Nat.le_refl _)⟩, c, d, ?_, f (fun e h => by cases h)⟩
  refine Nat.le_trans e ?_
  simp; omega
/-- Late and room stay. -/
theorem oneK_conf {s : Skt} (e : Event) (h0 : (oneK s e).2 = 0) : (oneK s e).1.b.late = s.b.late ∧ (oneK s e).1.b.room = s.b.room := by
  unfold oneK at h0 ⊢
  by_cases hw : e.w = 0
  · rw [if_pos hw] at h0 ⊢
    unfold moveK at h0 ⊢
    by_cases hm : (moveB s.b e.t).2 = 0
    · rw [if_pos hm]
      unfold moveB at hm ⊢
      by_cases ht : 9223372036854775807 < e.t
      · rw [if_pos ht] at hm; simp at hm
      rw [if_neg ht]; exact ⟨rfl, rfl⟩
    · rw [if_neg hm] at h0; exact absurd h0 hm
  · rw [if_neg hw] at h0 ⊢
    unfold addK at h0 ⊢
    by_cases hm : (pushB s.b e).2 = 0
    · rw [if_pos hm] at h0 ⊢
      by_cases hh : 4503599627370496 < totN 0 s.past.ls + sumE Event.w s.b.evs + e.w
      · rw [if_pos hh] at h0; simp at h0
      rw [if_neg hh]
      unfold pushB at hm ⊢
      rw [if_neg hw] at hm ⊢
      by_cases ht : 9223372036854775807 < e.t
      · rw [if_pos ht] at hm; simp at hm
      rw [if_neg ht] at hm ⊢
      by_cases hf : e.t < s.b.front
      · rw [if_pos hf] at hm; simp at hm
      rw [if_neg hf]; exact ⟨rfl, rfl⟩
    · rw [if_neg hm] at h0; exact absurd h0 hm
theorem madeKo_conf : ∀ (l : List Event) (s : Skt) (all : List Event), (madeKo l s all).1.b.late = s.b.late ∧ (madeKo l s all).1.b.room = s.b.room := by
  intro l
  induction l with
  | nil => intro s all; exact ⟨rfl, rfl⟩
  | cons e r ih =>
    intro s all
    unfold madeKo
    by_cases c : (oneK s e).2 = 0
    · rw [if_pos c]
      obtain ⟨a, b⟩ := oneK_conf e c
      obtain ⟨i, j⟩ := ih (oneK s e).1 (if 0 < e.w then all ++ [e] else all)
      exact ⟨i.trans a, j.trans b⟩
    · rw [if_neg c]; exact ih s all
theorem madeK_conf (k : Int) (n0 n1 : Nat) (l : List Event) : (madeK k n0 n1 l).1.b.late = n1 % 100 ∧ (madeK k n0 n1 l).1.b.room = 1 + (n1 % 7 : Nat) := madeKo_conf _ _ _
/-- Two as one. -/
theorem merge_of {x y : Skt} {gx gy : Nat} {ax ay : List Event} (hx : x.Of gx ax) (hy : y.Of gy ay) (hl : y.win = x.win ∧ y.b.late = x.b.late ∧ y.b.room = x.b.room ∧ y.past.k = x.past.k) (hg : max gx gy < 4) (ht : sumE Event.w ax + sumE Event.w ay ≤ 4503599627370496) :
    (mergeK [x, y]).2 = 0 ∧ (mergeK [x, y]).1.Of (max gx gy + 1) (ax ++ ay) ∧ (mergeK [x, y]).1.win = x.win ∧ (mergeK [x, y]).1.b.late = x.b.late ∧ (mergeK [x, y]).1.b.room = x.b.room ∧ (mergeK [x, y]).1.past.k = x.past.k := by
  have hG : maxG (pastsK [x, y]) = ((max gx gy : Nat) : Int) := by
    show max (max 0 x.past.g) y.past.g = _
    rw [hx.fit.gen, hy.fit.gen]; omega
  have hf : ∀ s ∈ [x, y], s.Fit := fun s hs => by
    simp only [List.mem_cons, List.not_mem_nil, or_false] at hs
    rcases hs with rfl | rfl
    · exact hx.fit.fit (by omega)
    · exact hy.fit.fit (by omega)
  have hz : fitsK [x, y] = 0 := by
    unfold fitsK
    rw [if_neg (by simp), if_neg ?_, if_neg (by rw [hG]; omega)]
    intro h
    obtain ⟨s, hs, h⟩ := List.any_eq_true.1 h
    simp only [List.mem_cons, List.not_mem_nil, or_false] at hs
    rcases hs with rfl | rfl
    · simp [likeK] at h
    · unfold likeK at h
      simp only [List.headD_cons, Bool.not_eq_true'] at h
      exact of_decide_eq_false h hl
  have hlx := hx.less
  have hly := hy.less
  unfold Skt.Less at hlx hly
  have hss : (sumsK [x, y]).sum = totN 0 x.past.ls + sumE Event.w x.b.evs + (totN 0 y.past.ls + sumE Event.w y.b.evs) := by unfold sumsK; simp; omega
  have hh : ¬ 4503599627370496 < (sumsK [x, y]).sum := by rw [hss]; omega
  have ok := mix_ok hf (by simp) hz hh
  have hv : mergeK [x, y] = moveK (mixK [x, y]) (mixK [x, y]).b.mark := by unfold mergeK; rw [if_neg (by simpa using hz), if_neg hh]
  have hgood := mergeK_good hf (by simp) (by rw [hv]; exact (moveK_lax ok.lax ok.fine ok.lax.mkk).1)
  obtain ⟨m1, m2, m3, m4, m5, m6, m7, m8, m9⟩ := moveK_lax ok.lax ok.fine ok.lax.mkk
  have mless := moveK_less ok.lax ok.lax.mkk
  rw [← hv] at m1 m2 m3 m4 m5 m6 m7 m8 m9 mless
  have hall : allE (waitsK [x, y]) = x.b.evs ++ y.b.evs := by unfold allE waitsK; simp
  have hj : joinB (waitsK [x, y]) = (⟨x.b.late, x.b.room, maxK Buf.mark (waitsK [x, y]), maxK Buf.front (waitsK [x, y]), (gatherE (x.b.evs ++ y.b.evs)).drop (belowN (maxK Buf.front (waitsK [x, y])) (gatherE (x.b.evs ++ y.b.evs)))⟩, (gatherE (x.b.evs ++ y.b.evs)).take (belowN (maxK Buf.front (waitsK [x, y])) (gatherE (x.b.evs ++ y.b.evs)))) := by
    unfold joinB; rw [if_neg (by simp [waitsK]), hall]; rfl
  have hfr : (mixK [x, y]).b.front = maxK Buf.front (waitsK [x, y]) := by show (joinB (waitsK [x, y])).1.front = _; rw [hj]
  have fx : x.b.front ≤ (mixK [x, y]).b.front := by rw [hfr]; exact maxK_ge Buf.front _ _ (by simp [waitsK])
  have fy : y.b.front ≤ (mixK [x, y]).b.front := by rw [hfr]; exact maxK_ge Buf.front _ _ (by simp [waitsK])
  have hfb : (mixK [x, y]).b.front < 18446744073709551616 := by have := ok.lax.fm; have := ok.lax.mkk; omega
  obtain ⟨w1, w2, w3, w4, w5, w6, w7⟩ := with_ok ok.came
  have hparts : ∀ f, sumE f (joinB (waitsK [x, y])).2 + sumE f (mixK [x, y]).b.evs = sumE f x.b.evs + sumE f y.b.evs := fun f => by
    show sumE f (joinB (waitsK [x, y])).2 + sumE f (joinB (waitsK [x, y])).1.evs = _
    rw [hj, ← sumE_app, List.take_append_drop, sumE_perm f (gather_perm _), sumE_app]
  have hearly : ∀ e ∈ (joinB (waitsK [x, y])).2, e.t ≤ (mixK [x, y]).b.front := by rw [hfr, hj]; exact take_below
  have hK : (mixK [x, y]).past.k = x.past.k := ok.k
  have hled : (mixK [x, y]).LedG (max gx gy + 1) (ax ++ ay) := by
    obtain ⟨Px, x1, x2, x3⟩ := hx.led
    obtain ⟨Py, y1, y2, y3⟩ := hy.led
    refine ⟨Px ++ Py ++ (joinB (waitsK [x, y])).2, fun f => ?_, fun W hW ho => ?_, fun e he => ?_⟩
    · have := x1 f; have := y1 f; have := hparts f
      rw [sumE_app, sumE_app, sumE_app]; omega
    · obtain ⟨a1, a2⟩ := x2 W hW (fun t h => ho t (oldV_more fx hfb h))
      obtain ⟨b1, b2⟩ := y2 W hW (fun t h => ho t (oldV_more fy hfb (by rw [hl.1] at h; exact h)))
      obtain ⟨c1, c2⟩ := w7 W hW
      have eS : hiS W (pastsK [x, y]) = hiL W 0 x.past.ls + hiL W 0 y.past.ls := by show hiL W 0 x.past.ls + (hiL W 0 y.past.ls + 0) = _; omega
      rw [eS] at c1 c2
      rw [hl.2.2.2] at b2
      have p1 := deep_side (G := max gx gy) (by omega) (hi_lo hx.fit.good.pt W hW) a2
      have hy1 := hi_lo hy.fit.good.pt W hW
      rw [hl.2.2.2] at hy1
      have p2 := deep_side (G := max gx gy) (by omega) hy1 b2
      rw [sumE_app, sumE_app, hK]
      refine ⟨Nat.le_trans (by omega) c2, ?_⟩
      refine Nat.le_trans (Nat.mul_le_mul_left _ c1) ?_
      have p3 := Nat.mul_le_mul_right (sumE (wt W) (joinB (waitsK [x, y])).2) (Nat.pow_le_pow_left (show x.past.k.toNat ≤ x.past.k.toNat + 2 by omega) (max gx gy + 1))
      simp only [Nat.mul_add]
      omega
    · rcases List.mem_append.1 he with he | he
      · rcases List.mem_append.1 he with he | he
        · exact Nat.le_trans (x3 e he) fx
        · exact Nat.le_trans (y3 e he) fy
      · exact hearly e he
  refine ⟨m1, ⟨by have := hgood.1; rw [hG] at this; exact this, m9 _ _ hled, ?_⟩, m6, ?_, ?_, by rw [m4, hK]⟩
  · unfold Skt.Less
    have e1 : totN 0 (mixK [x, y]).past.ls = totN 0 x.past.ls + (totN 0 y.past.ls + 0) + sumE Event.w (joinB (waitsK [x, y])).2 := w5
    have := hparts Event.w
    rw [sumE_app]; omega
  · rw [m7]; show (joinB (waitsK [x, y])).1.late = _; rw [hj]
  · rw [m8]; show (joinB (waitsK [x, y])).1.room = _; rw [hj]
/-- The bound. -/
theorem of_bound {s : Skt} {g : Nat} {all : List Event} (h : s.Of g all) {tick span : Nat} (h1 : s.b.front ≤ tick) (h2 : tick ≤ 9223372036854775807) (h3 : span ≤ s.win) :
    ∃ E, estV s.past.ls tick span + spanV s.b.evs tick span = E ∧ E ≤ 4503599627370496 ∧
      (s.past.k.toNat - 1) * sumE (wtT tick span) all ≤ s.past.k.toNat * E ∧ s.past.k.toNat ^ (g + 1) * E ≤ (s.past.k.toNat + 1) * ((s.past.k.toNat + 2) ^ g * sumE (wtT tick span) all) := by
  have hg := h.fit.good
  obtain ⟨e1, e2, e3⟩ := told_eq hg tick span
  obtain ⟨P, l1, l2, l3⟩ := h.led
  have hW := inW_mono tick span
  obtain ⟨b1, b2⟩ := l2 _ hW (win_old h1 h2 h3)
  have hP : sumE (wtT tick span) P = sumE (wt (inW tick span)) P := sumE_congr fun e he => by
    have := l3 e he
    unfold wtT wt
    by_cases c : inW tick span e.t = true
    · rw [if_pos ⟨by omega, c⟩, if_pos c]
    · rw [if_neg (fun h => c h.2), if_neg c]
  have hA := l1 (wtT tick span)
  rw [hP] at hA
  have hk : 2 ≤ s.past.k.toNat := by have := hg.pg.k0; omega
  have hlh : loL (inW tick span) 0 s.past.ls ≤ hiL (inW tick span) 0 s.past.ls := by
    rcases cut_all s.past.k.toNat _ hW s.past.ls 0 hg.pt.srt hg.pt.val (fun _ => hg.pt.low) hg.pt.full with e | ⟨j, _, _, e, _⟩
    · rw [e]; exact Nat.le_refl _
    · rw [e]; exact Nat.le_add_right _ _
  obtain ⟨u1, u2⟩ := est_bound hk hg.pt _ hW (Nat.le_refl _) hlh
  rw [← e3] at u1 u2
  refine ⟨_, rfl, e2, ?_, ?_⟩
  · have c1 : (s.past.k.toNat - 1) * sumE (wt (inW tick span)) P ≤ s.past.k.toNat * estV s.past.ls tick span := by
      by_cases c : sumE (wt (inW tick span)) P ≤ loL (inW tick span) 0 s.past.ls
      · exact Nat.le_trans (Nat.mul_le_mul_left _ c) u1
      · obtain ⟨v1, _⟩ := est_bound hk hg.pt _ hW (R := sumE (wt (inW tick span)) P) (by omega) b1
        rw [← e3] at v1; exact v1
    rw [hA, e1, Nat.mul_add, Nat.mul_add]
    exact Nat.add_le_add c1 (Nat.mul_le_mul_right _ (by omega))
  · have a1 : s.past.k.toNat ^ (g + 1) * estV s.past.ls tick span = s.past.k.toNat ^ g * (s.past.k.toNat * estV s.past.ls tick span) := by rw [Nat.pow_succ, Nat.mul_assoc]
    have c2 : s.past.k.toNat ^ (g + 1) * estV s.past.ls tick span ≤ (s.past.k.toNat + 1) * ((s.past.k.toNat + 2) ^ g * sumE (wt (inW tick span)) P) := by
      rw [a1]
      refine Nat.le_trans (Nat.mul_le_mul_left _ u2) ?_
      rw [Nat.mul_left_comm]
      exact Nat.mul_le_mul_left _ b2
    rw [hA, e1, Nat.mul_add, Nat.mul_add, Nat.mul_add]
    refine Nat.add_le_add c2 ?_
    rw [← Nat.mul_assoc, Nat.pow_succ, Nat.mul_comm (s.past.k.toNat ^ g)]
    exact Nat.mul_le_mul_right _ (Nat.mul_le_mul (by omega) (Nat.pow_le_pow_left (by omega) g))
end Go.Sk
end
