/- Texts A12 W13p W12a A7 A18 A7h A20 A14 A14b W12f W12b W12g W12h A19a A14c A14d W12c W12d W12e, joined. -/
import Derived.Test.YtlbjacoigdpgfaaW0
import Derived.Test.YtlbjacoigdpgfaaWMx
import Derived.Test.YtlbjacoigdpgfaaSkTp
import Derived.Test.YtlbjacoigdpgfaaSkRg
import Derived.Test.YtlbjacoigdpgfaaA6
import Derived.Test.YtlbjacoigdpgfaaW6h
import Derived.Test.YtlbjacoigdpgfaaW6c
import Derived.Test.YtlbjacoigdpgfaaW8
set_option linter.unusedSimpArgs false
set_option linter.unusedVariables false
set_option linter.unusedSectionVars false
-- A12
section
namespace Go.Sk

structure Buf where (late : Nat) (room : Int) (mark : Nat) (front : Nat) (evs : List Event)
  deriving DecidableEq
def zeroB : Buf := ⟨0, 0, 0, 0, []⟩
/-- How many, at the head, are of ticks up to one. -/
def belowN (f : Nat) : List Event → Nat
  | [] => 0
  | e :: l => if e.t ≤ f then belowN f l + 1 else 0
theorem belowN_cons (f : Nat) (e : Event) (l : List Event) : belowN f (e :: l) = if e.t ≤ f then belowN f l + 1 else 0 := rfl
theorem belowN_le (f : Nat) (l : List Event) : belowN f l ≤ l.length := by
  induction l with
  | nil => exact Nat.le_refl _
  | cons e l ih => rw [belowN_cons]; split <;> simp <;> omega
theorem belowN_lt (f : Nat) : ∀ (l : List Event) (i : Nat) (h : i < l.length), i < belowN f l → (l[i]).t ≤ f := by
  intro l
  induction l with
  | nil => intro i h; simp at h
  | cons e l ih =>
    intro i h hi
    rw [belowN_cons] at hi
    split at hi
    · rename_i c
      cases i with
      | zero => exact c
      | succ i => exact ih i (by simpa using h) (by omega)
    · omega
theorem belowN_at (f : Nat) : ∀ (l : List Event) (h : belowN f l < l.length), f < (l[belowN f l]).t := by
  intro l
  induction l with
  | nil => intro h; simp at h
  | cons e l ih =>
    intro h
    by_cases c : e.t ≤ f
    · have e1 : belowN f (e :: l) = belowN f l + 1 := by rw [belowN_cons, if_pos c]
      have h2 : belowN f l < l.length := by rw [e1] at h; simpa using h
      simp only [e1, List.getElem_cons_succ]
      exact ih h2
    · have e1 : belowN f (e :: l) = 0 := by rw [belowN_cons, if_neg c]
      simp only [e1, List.getElem_cons_zero]; omega
/-- One by one: i of them are. -/
theorem belowN_step (f : Nat) (l : List Event) (i : Nat) (h : i < l.length) (hi : i ≤ belowN f l) : ((l[i]).t ≤ f → i + 1 ≤ belowN f l) ∧ (f < (l[i]).t → i = belowN f l) := by
  refine ⟨fun hb => ?_, fun hb => ?_⟩
  · apply Classical.byContradiction
    intro hc
    obtain rfl : i = belowN f l := by omega
    have := belowN_at f l h; omega
  · apply Classical.byContradiction
    intro hc
    have := belowN_lt f l i h (by omega); omega
theorem belowN_ge (f : Nat) : ∀ (l : List Event) (n : Nat), n ≤ l.length → (∀ i (h : i < l.length), i < n → (l[i]).t ≤ f) → n ≤ belowN f l := by
  intro l n hn h
  apply Classical.byContradiction
  intro hc
  have hlt : belowN f l < l.length := by omega
  have h1 := belowN_at f l hlt
  have h2 := h _ hlt (by omega)
  omega
theorem belowN_more (f : Nat) (l : List Event) (h : belowN f l < l.length) : belowN f l < belowN (l[belowN f l]).t l := by
  refine belowN_ge _ _ _ (by omega) fun i hi hlt => ?_
  by_cases c : i < belowN f l
  · have h1 := belowN_lt f l i hi c
    have h2 := belowN_at f l h
    omega
  · have : i = belowN f l := by omega
    subst this
    exact Nat.le_refl _
/-- The front, and how many go out. -/
def settleN (room : Nat) (l : List Event) (f : Nat) : Nat × Nat :=
  if h : room < l.length - belowN f l then settleN room l (l[belowN f l]'(by omega)).t else (f, belowN f l)
termination_by l.length - belowN f l
decreasing_by
  have := belowN_more f l (by omega)
  omega
theorem settleN_go {room : Nat} {l : List Event} {f : Nat} (h : room < l.length - belowN f l) : settleN room l f = settleN room l (l[belowN f l]'(by omega)).t := by
  rw [settleN, dif_pos h]
theorem settleN_end {room : Nat} {l : List Event} {f : Nat} (h : ¬ room < l.length - belowN f l) : settleN room l f = (f, belowN f l) := by
  rw [settleN, dif_neg h]
theorem settle_ind (room : Nat) (l : List Event) (p : Nat → Nat × Nat → Prop) (h0 : ∀ f, ¬ room < l.length - belowN f l → p f (f, belowN f l))
    (h1 : ∀ f r, (h : room < l.length - belowN f l) → p (l[belowN f l]'(by omega)).t r → p f r) : ∀ f, p f (settleN room l f) := by
  have key : ∀ n f, l.length - belowN f l ≤ n → p f (settleN room l f) := by
    intro n
    induction n with
    | zero => intro f hn; rw [settleN_end (by omega)]; exact h0 f (by omega)
    | succ n ih =>
      intro f hn
      by_cases c : room < l.length - belowN f l
      · rw [settleN_go c]
        have := belowN_more f l (by omega)
        exact h1 f _ c (ih _ (by omega))
      · rw [settleN_end c]; exact h0 f c
  exact fun f => key _ f (Nat.le_refl _)
theorem settle_facts (room : Nat) (l : List Event) : ∀ f, f ≤ (settleN room l f).1 ∧ (settleN room l f).2 = belowN (settleN room l f).1 l ∧ l.length - (settleN room l f).2 ≤ room ∧ (∀ m, f ≤ m → (∀ e ∈ l, e.t ≤ m) → (settleN room l f).1 ≤ m) := by
  refine settle_ind room l (fun f r => f ≤ r.1 ∧ r.2 = belowN r.1 l ∧ l.length - r.2 ≤ room ∧ (∀ m, f ≤ m → (∀ e ∈ l, e.t ≤ m) → r.1 ≤ m)) ?_ ?_
  · intro f h; exact ⟨Nat.le_refl _, rfl, by dsimp only; omega, fun m hm _ => hm⟩
  · intro f r h ⟨i1, i2, i3, i4⟩
    have := belowN_at f l (by omega)
    exact ⟨by omega, i2, i3, fun m hm hl => i4 m (hl _ (List.getElem_mem _)) hl⟩

/-- A buffer settled, and what goes out. -/
def settleB (b : Buf) : Buf × List Event :=
  (⟨b.late, b.room, b.mark, (settleN b.room.toNat b.evs (max b.front (b.mark - b.late))).1, b.evs.drop (settleN b.room.toNat b.evs (max b.front (b.mark - b.late))).2⟩, b.evs.take (settleN b.room.toNat b.evs (max b.front (b.mark - b.late))).2)
def insE (l : List Event) (e : Event) : List Event := l.take (belowN e.t l) ++ [e] ++ l.drop (belowN e.t l)
/-- An event comes. -/
def pushB (b : Buf) (e : Event) : (Buf × List Event) × Int :=
  if e.w = 0 then ((zeroB, []), 1) else if 9223372036854775807 < e.t then ((zeroB, []), 6) else if e.t < b.front then ((zeroB, []), 4)
  else (settleB ⟨b.late, b.room, max b.mark e.t, b.front, insE b.evs e⟩, 0)
/-- Time goes on. -/
def moveB (b : Buf) (t : Nat) : (Buf × List Event) × Int :=
  if 9223372036854775807 < t then ((zeroB, []), 6) else (settleB ⟨b.late, b.room, max b.mark t, b.front, b.evs⟩, 0)

/-! By the document. -/
def splO (f : Nat) (l : List Event) : List Event := l.filter (fun e => decide (e.t ≤ f))
def splS (f : Nat) (l : List Event) : List Event := l.filter (fun e => !decide (e.t ≤ f))
theorem splS_head (e : Event) (l : List Event) : (splS e.t (e :: l)).length < (e :: l).length := by
  unfold splS
  rw [List.filter_cons_of_neg (by simp)]
  have := List.length_filter_le (fun x => !decide (x.t ≤ e.t)) l
  simp only [List.length_cons]; omega
def docS (room f : Nat) (out stay : List Event) : Nat × List Event × List Event :=
  match stay with
  | [] => (f, out, [])
  | e :: l => if room < (e :: l).length then docS room e.t (out ++ splO e.t (e :: l)) (splS e.t (e :: l)) else (f, out, e :: l)
termination_by stay.length
decreasing_by exact splS_head e l
def Srt (l : List Event) : Prop := l.Pairwise (fun x y => x.t ≤ y.t)
theorem spl_eq (f : Nat) : ∀ l, Srt l → splO f l = l.take (belowN f l) ∧ splS f l = l.drop (belowN f l) := by
  intro l
  induction l with
  | nil => intro _; exact ⟨rfl, rfl⟩
  | cons e l ih =>
    intro h
    unfold Srt at h
    rw [List.pairwise_cons] at h
    obtain ⟨i1, i2⟩ := ih h.2
    unfold splO splS at *
    rw [belowN_cons]
    by_cases c : e.t ≤ f
    · rw [if_pos c, List.take_succ_cons, List.drop_succ_cons, List.filter_cons_of_pos (by simpa using c), List.filter_cons_of_neg (by simp; exact c), i1, i2]
      exact ⟨rfl, rfl⟩
    · rw [if_neg c, List.take_zero, List.drop_zero]
      have hall : ∀ x ∈ e :: l, ¬ x.t ≤ f := by
        intro x hx
        rcases List.mem_cons.1 hx with rfl | hx
        · exact c
        · have := h.1 x hx; omega
      refine ⟨List.filter_eq_nil_iff.2 fun x hx => by simpa using hall x hx, List.filter_eq_self.2 fun x hx => by simpa using hall x hx⟩
theorem Srt.drop {l : List Event} (h : Srt l) (n : Nat) : Srt (l.drop n) := List.Pairwise.sublist (List.drop_sublist n l) h
theorem Srt.take {l : List Event} (h : Srt l) (n : Nat) : Srt (l.take n) := List.Pairwise.sublist (List.take_sublist n l) h
theorem belowN_drop (f : Nat) : ∀ (l : List Event) (n : Nat), n ≤ belowN f l → belowN f (l.drop n) = belowN f l - n := by
  intro l
  induction l with
  | nil => intro n h; simp [belowN] at h ⊢
  | cons e l ih =>
    intro n h
    cases n with
    | zero => rfl
    | succ n =>
      rw [belowN_cons] at h ⊢
      split at h
      · rename_i c; rw [List.drop_succ_cons, ih n (by omega), if_pos c]; omega
      · omega
theorem docS_eq (room : Nat) (l : List Event) (hs : Srt l) : ∀ f, docS room f (l.take (belowN f l)) (l.drop (belowN f l)) = ((settleN room l f).1, l.take (settleN room l f).2, l.drop (settleN room l f).2) := by
  refine settle_ind room l (fun f r => docS room f (l.take (belowN f l)) (l.drop (belowN f l)) = (r.1, l.take r.2, l.drop r.2)) ?_ ?_
  · intro f h
    have hl : ¬ room < (l.drop (belowN f l)).length := by rw [List.length_drop]; exact h
    cases hd : l.drop (belowN f l) with
    | nil => rw [docS]
    | cons e r => rw [docS]; rw [hd] at hl; rw [if_neg hl]
  · intro f r h ih
    have hlt : belowN f l < l.length := by omega
    have hm := belowN_more f l hlt
    rw [List.drop_eq_getElem_cons hlt, docS]
    rw [if_pos (by simp only [List.length_cons, List.length_drop]; omega), ← List.drop_eq_getElem_cons hlt]
    obtain ⟨s1, s2⟩ := spl_eq (l[belowN f l]).t _ (hs.drop (belowN f l))
    rw [s1, s2, belowN_drop _ _ _ (by omega), List.drop_drop, ← List.take_add, show belowN f l + (belowN (l[belowN f l]).t l - belowN f l) = belowN (l[belowN f l]).t l by omega]
    exact ih
end Go.Sk
end

-- W13p
section
namespace Go.Sk

structure Event.Ok (e : Event) : Prop where
  t : e.t < 18446744073709551616
  k : e.k < 18446744073709551616
  w : e.w < 18446744073709551616
noncomputable def withinV (tick span : Nat) (e : Event) : Bool := decide (e.t ≤ tick) && (decide (span > tick) || decide (e.t > sub64 tick span))

noncomputable def sumV (p : Event → Bool) (q : Event → Nat) (n : Nat) (l : List Event) : Nat := l.foldl (fun n e => if p e = true then m64 (n + q e) else n) n
theorem sumV_snoc (p : Event → Bool) (q : Event → Nat) (n : Nat) (l : List Event) (i : Nat) (hi : i < l.length) : sumV p q n (l.take (i + 1)) = if p l[i] = true then m64 (sumV p q n (l.take i) + q l[i]) else sumV p q n (l.take i) := by
  unfold sumV; rw [List.take_succ_eq_append_getElem hi, List.foldl_append]; rfl

noncomputable def spanV (l : List Event) (tick span : Nat) : Nat := sumV (withinV tick span) Event.w 0 l

end Go.Sk
end

-- W12a
section
namespace Go.Sk
open Go Go.Proofs

def Buf.pv (b : Buf) : List PV := [.int .u64 b.late, .int .i64 b.room, .int .u64 b.mark, .int .u64 b.front, .sl (b.evs.map Event.pv)]
def Buf.av (b : Buf) : AV := .agg (b.pv.map .p)
attribute [go_sem] Buf.pv Buf.av
theorem evn_len {l : List Event} : ∀ el ∈ l.map Event.pv, el.length = 3 := by
  intro el h; obtain ⟨x, _, rfl⟩ := List.mem_map.1 h; rfl

theorem latest_two (a b : Nat) : Pure Try.prog 53 [.p (.sl [[.int .u64 a], [.int .u64 b]])] (u64 (max a b)) := fun S => by
  refine callR_of Try.func53 rfl rfl (xc_ok (bitB 5) _ _ _ ?_)
  simp only [go_sem, decide_true, decide_false, Nat.lt_irrefl]
  have hm : Pure Try.prog 72 [.p (.sl [[.int .u64 a], [.int .u64 b]])] (u64 (max a b)) := fun S => by
    refine callR_of Try.func72 rfl rfl (xc_ok (bitB 32925) _ _ _ ?_)
    have q0 : decide (((2 : Nat) : Int) < 1) = false := by decide
    have q1 : decide ((2 : Int) < ((2 : Nat) : Int)) = false := by decide
    have q2 : decide ((1 : Int) < ((2 : Nat) : Int)) = true := by decide
    simp only [go_sem, decide_true, decide_false, Nat.lt_irrefl, q0]
    refine AWP.roam (ι := Bool) (fun _ => True) (fun t => ⟨Env.get [(0, .p (.sl [[.int .u64 a], [.int .u64 b]])), (3, u64 (if t = true then max a b else a)), (4, i64 (if t = true then 2 else 1))], S, 25, []⟩) (fun t => if t = true then 0 else 1) false trivial ?_ ?_
    · exact le_of (by simp only [go_sem, decide_true, decide_false, Nat.lt_irrefl] <;> simp) (Sub.refl _) rfl rfl (by simp)
    · intro t _ ih
      refine AWPH.step (xc_ok (bitB 32925) _ _ _ ?_)
      cases t with
      | true =>
        simp only [go_sem, decide_true, decide_false, Nat.lt_irrefl, q1]
        (refine ⟨S, by (repeat (first | exact Sub.refl _ | refine Sub.setF ?_ (by first | assumption | exact And.right (by assumption) | exact And.right (And.right (by assumption)) | exact And.right (And.right (And.right (by assumption))) | exact And.right (And.right (And.right (And.right (by assumption)))) | exact And.right (And.right (And.right (And.right (And.right (by assumption))))) | exact And.right (And.right (And.right (And.right (And.right (And.right (by assumption)))))) | exact And.right (And.right (And.right (And.right (And.right (And.right (And.right (by assumption))))))) | exact And.right (And.right (And.right (And.right (And.right (And.right (And.right (And.right (by assumption)))))))) | exact And.right (And.right (And.right (And.right (And.right (And.right (And.right (And.right (And.right (by assumption)))))))))) | refine Sub.setV ?_ (by first | assumption | exact And.right (by assumption) | exact And.right (And.right (by assumption)) | exact And.right (And.right (And.right (by assumption))) | exact And.right (And.right (And.right (And.right (by assumption)))) | exact And.right (And.right (And.right (And.right (And.right (by assumption))))) | exact And.right (And.right (And.right (And.right (And.right (And.right (by assumption)))))) | exact And.right (And.right (And.right (And.right (And.right (And.right (And.right (by assumption))))))) | exact And.right (And.right (And.right (And.right (And.right (And.right (And.right (And.right (by assumption)))))))) | exact And.right (And.right (And.right (And.right (And.right (And.right (And.right (And.right (And.right (by assumption)))))))))))), ?_⟩); simp
      | false =>
        simp only [go_sem, decide_true, decide_false, Nat.lt_irrefl, q2]
        refine ⟨by decide, by decide, ?_⟩
        refine (ih true trivial (by simp)).back (by (repeat (first | exact Sub.refl _ | refine Sub.setF ?_ (by first | assumption | exact And.right (by assumption) | exact And.right (And.right (by assumption)) | exact And.right (And.right (And.right (by assumption))) | exact And.right (And.right (And.right (And.right (by assumption)))) | exact And.right (And.right (And.right (And.right (And.right (by assumption))))) | exact And.right (And.right (And.right (And.right (And.right (And.right (by assumption)))))) | exact And.right (And.right (And.right (And.right (And.right (And.right (And.right (by assumption))))))) | exact And.right (And.right (And.right (And.right (And.right (And.right (And.right (And.right (by assumption)))))))) | exact And.right (And.right (And.right (And.right (And.right (And.right (And.right (And.right (And.right (by assumption)))))))))) | refine Sub.setV ?_ (by first | assumption | exact And.right (by assumption) | exact And.right (And.right (by assumption)) | exact And.right (And.right (And.right (by assumption))) | exact And.right (And.right (And.right (And.right (by assumption)))) | exact And.right (And.right (And.right (And.right (And.right (by assumption))))) | exact And.right (And.right (And.right (And.right (And.right (And.right (by assumption)))))) | exact And.right (And.right (And.right (And.right (And.right (And.right (And.right (by assumption))))))) | exact And.right (And.right (And.right (And.right (And.right (And.right (And.right (And.right (by assumption)))))))) | exact And.right (And.right (And.right (And.right (And.right (And.right (And.right (And.right (And.right (by assumption))))))))))))) (by simp) ?_
        have q3 : wi (2 : Int) = 2 := wi_id (by decide) (by decide)
        have q4 : wi ((1 : Int) + 1) = 2 := wi_id (by decide) (by decide)
        simp only [go_sem, decide_true, decide_false, Nat.lt_irrefl, q3, q4] <;> simp [q3, q4] <;> omega
  refine hm.useA ?_
  simp only [go_sem, decide_true, decide_false, Nat.lt_irrefl]
  (refine ⟨S, by (repeat (first | exact Sub.refl _ | refine Sub.setF ?_ (by first | assumption | exact And.right (by assumption) | exact And.right (And.right (by assumption)) | exact And.right (And.right (And.right (by assumption))) | exact And.right (And.right (And.right (And.right (by assumption)))) | exact And.right (And.right (And.right (And.right (And.right (by assumption))))) | exact And.right (And.right (And.right (And.right (And.right (And.right (by assumption)))))) | exact And.right (And.right (And.right (And.right (And.right (And.right (And.right (by assumption))))))) | exact And.right (And.right (And.right (And.right (And.right (And.right (And.right (And.right (by assumption)))))))) | exact And.right (And.right (And.right (And.right (And.right (And.right (And.right (And.right (And.right (by assumption)))))))))) | refine Sub.setV ?_ (by first | assumption | exact And.right (by assumption) | exact And.right (And.right (by assumption)) | exact And.right (And.right (And.right (by assumption))) | exact And.right (And.right (And.right (And.right (by assumption)))) | exact And.right (And.right (And.right (And.right (And.right (by assumption))))) | exact And.right (And.right (And.right (And.right (And.right (And.right (by assumption)))))) | exact And.right (And.right (And.right (And.right (And.right (And.right (And.right (by assumption))))))) | exact And.right (And.right (And.right (And.right (And.right (And.right (And.right (And.right (by assumption)))))))) | exact And.right (And.right (And.right (And.right (And.right (And.right (And.right (And.right (And.right (by assumption)))))))))))), ?_⟩); simp
theorem below1 {S : Store} {b1 : Nat} (e : Event) (f : Nat) (h1 : S (.r b1) = some (.cells [u64 f])) :
    CallR Try.prog 77 [e.av, .sp b1 0] S (fun r S' => r = bl (decide (f < e.t)) ∧ S' = S) := by
  refine callR_of Try.func77 rfl rfl (xc_ok (bitB 15) _ _ _ ?_)
  simp only [go_sem, decide_true, decide_false, Nat.lt_irrefl]
  refine alloc_intro fun b hb => ?_
  have n1 := hb.ne h1
  simp only [go_sem, decide_true, decide_false, Nat.lt_irrefl, h1, n1]
  (refine ⟨S, by (repeat (first | exact Sub.refl _ | refine Sub.setF ?_ (by first | assumption | exact And.right (by assumption) | exact And.right (And.right (by assumption)) | exact And.right (And.right (And.right (by assumption))) | exact And.right (And.right (And.right (And.right (by assumption)))) | exact And.right (And.right (And.right (And.right (And.right (by assumption))))) | exact And.right (And.right (And.right (And.right (And.right (And.right (by assumption)))))) | exact And.right (And.right (And.right (And.right (And.right (And.right (And.right (by assumption))))))) | exact And.right (And.right (And.right (And.right (And.right (And.right (And.right (And.right (by assumption)))))))) | exact And.right (And.right (And.right (And.right (And.right (And.right (And.right (And.right (And.right (by assumption)))))))))) | refine Sub.setV ?_ (by first | assumption | exact And.right (by assumption) | exact And.right (And.right (by assumption)) | exact And.right (And.right (And.right (by assumption))) | exact And.right (And.right (And.right (And.right (by assumption)))) | exact And.right (And.right (And.right (And.right (And.right (by assumption))))) | exact And.right (And.right (And.right (And.right (And.right (And.right (by assumption)))))) | exact And.right (And.right (And.right (And.right (And.right (And.right (And.right (by assumption))))))) | exact And.right (And.right (And.right (And.right (And.right (And.right (And.right (And.right (by assumption)))))))) | exact And.right (And.right (And.right (And.right (And.right (And.right (And.right (And.right (And.right (by assumption)))))))))))), ?_⟩); simp
theorem index_ev {S : Store} {b1 : Nat} (l : List Event) (f : Nat) (hl : l.length < 4611686018427387904) (h1 : S (.r b1) = some (.cells [u64 f])) :
    CallR Try.prog 76 [.p (evsP l), .fn (.func 77) [] [.sp b1 0]] S (fun r S' => r = i64 (if belowN f l < l.length then (belowN f l : Int) else -1) ∧ S' = S) := by
  refine callR_of Try.func76 rfl rfl (xc_ok (bitB 66483) _ _ _ ?_)
  simp only [go_sem, decide_true, decide_false, Nat.lt_irrefl, evsP]
  refine AWP.roam (ι := Nat) (fun i => i ≤ belowN f l)
    (fun i => ⟨Env.get [(0, .p (evsP l)), (1, .fn (.func 77) [] [.sp b1 0]), (7, i64 l.length), (8, i64 i)], S, 19, []⟩) (fun i => l.length - i) 0 (Nat.zero_le _) ?_ ?_
  · exact le_of (by simp only [go_sem, decide_true, decide_false, Nat.lt_irrefl, evsP, List.length_map] <;> rfl) (Sub.refl _) rfl rfl (by simp)
  · intro i hi ih
    have hle := belowN_le f l
    refine AWPH.step (xc_ok (bitB 66483) _ _ _ ?_)
    by_cases c : i < l.length
    · have hst := belowN_step f l i c hi
      simp only [go_sem, decide_true, decide_false, Nat.lt_irrefl, evsP, c, ltN' c, getD_map' _ _ _ _ c, List.length_map]
      refine (below1 l[i] f h1).useA ?_
      rintro _ S' ⟨rfl, hS⟩
      rw [hS]
      by_cases hc : f < (l[i]).t
      · have := hst.2 hc
        simp only [go_sem, decide_true, decide_false, Nat.lt_irrefl, hc]
        (refine ⟨S, by (repeat (first | exact Sub.refl _ | refine Sub.setF ?_ (by first | assumption | exact And.right (by assumption) | exact And.right (And.right (by assumption)) | exact And.right (And.right (And.right (by assumption))) | exact And.right (And.right (And.right (And.right (by assumption)))) | exact And.right (And.right (And.right (And.right (And.right (by assumption))))) | exact And.right (And.right (And.right (And.right (And.right (And.right (by assumption)))))) | exact And.right (And.right (And.right (And.right (And.right (And.right (And.right (by assumption))))))) | exact And.right (And.right (And.right (And.right (And.right (And.right (And.right (And.right (by assumption)))))))) | exact And.right (And.right (And.right (And.right (And.right (And.right (And.right (And.right (And.right (by assumption)))))))))) | refine Sub.setV ?_ (by first | assumption | exact And.right (by assumption) | exact And.right (And.right (by assumption)) | exact And.right (And.right (And.right (by assumption))) | exact And.right (And.right (And.right (And.right (by assumption)))) | exact And.right (And.right (And.right (And.right (And.right (by assumption))))) | exact And.right (And.right (And.right (And.right (And.right (And.right (by assumption)))))) | exact And.right (And.right (And.right (And.right (And.right (And.right (And.right (by assumption))))))) | exact And.right (And.right (And.right (And.right (And.right (And.right (And.right (And.right (by assumption)))))))) | exact And.right (And.right (And.right (And.right (And.right (And.right (And.right (And.right (And.right (by assumption)))))))))))), ?_⟩); rw [← this, if_pos c]; simp
      · simp only [go_sem, decide_true, decide_false, Nat.lt_irrefl, hc]
        refine (ih (i + 1) (hst.1 (by omega)) (by omega)).back (by (repeat (first | exact Sub.refl _ | refine Sub.setF ?_ (by first | assumption | exact And.right (by assumption) | exact And.right (And.right (by assumption)) | exact And.right (And.right (And.right (by assumption))) | exact And.right (And.right (And.right (And.right (by assumption)))) | exact And.right (And.right (And.right (And.right (And.right (by assumption))))) | exact And.right (And.right (And.right (And.right (And.right (And.right (by assumption)))))) | exact And.right (And.right (And.right (And.right (And.right (And.right (And.right (by assumption))))))) | exact And.right (And.right (And.right (And.right (And.right (And.right (And.right (And.right (by assumption)))))))) | exact And.right (And.right (And.right (And.right (And.right (And.right (And.right (And.right (And.right (by assumption)))))))))) | refine Sub.setV ?_ (by first | assumption | exact And.right (by assumption) | exact And.right (And.right (by assumption)) | exact And.right (And.right (And.right (by assumption))) | exact And.right (And.right (And.right (And.right (by assumption)))) | exact And.right (And.right (And.right (And.right (And.right (by assumption))))) | exact And.right (And.right (And.right (And.right (And.right (And.right (by assumption)))))) | exact And.right (And.right (And.right (And.right (And.right (And.right (And.right (by assumption))))))) | exact And.right (And.right (And.right (And.right (And.right (And.right (And.right (And.right (by assumption)))))))) | exact And.right (And.right (And.right (And.right (And.right (And.right (And.right (And.right (And.right (by assumption))))))))))))) (by simp) ?_
        simp only [go_sem, decide_true, decide_false, Nat.lt_irrefl, evsP, wi_succ (show i < 4611686018427387904 by omega)]
    · obtain rfl : i = l.length := by omega
      simp only [go_sem, decide_true, decide_false, Nat.lt_irrefl, evsP, c, List.length_map]
      (refine ⟨S, by (repeat (first | exact Sub.refl _ | refine Sub.setF ?_ (by first | assumption | exact And.right (by assumption) | exact And.right (And.right (by assumption)) | exact And.right (And.right (And.right (by assumption))) | exact And.right (And.right (And.right (And.right (by assumption)))) | exact And.right (And.right (And.right (And.right (And.right (by assumption))))) | exact And.right (And.right (And.right (And.right (And.right (And.right (by assumption)))))) | exact And.right (And.right (And.right (And.right (And.right (And.right (And.right (by assumption))))))) | exact And.right (And.right (And.right (And.right (And.right (And.right (And.right (And.right (by assumption)))))))) | exact And.right (And.right (And.right (And.right (And.right (And.right (And.right (And.right (And.right (by assumption)))))))))) | refine Sub.setV ?_ (by first | assumption | exact And.right (by assumption) | exact And.right (And.right (by assumption)) | exact And.right (And.right (And.right (by assumption))) | exact And.right (And.right (And.right (And.right (by assumption)))) | exact And.right (And.right (And.right (And.right (And.right (by assumption))))) | exact And.right (And.right (And.right (And.right (And.right (And.right (by assumption)))))) | exact And.right (And.right (And.right (And.right (And.right (And.right (And.right (by assumption))))))) | exact And.right (And.right (And.right (And.right (And.right (And.right (And.right (And.right (by assumption)))))))) | exact And.right (And.right (And.right (And.right (And.right (And.right (And.right (And.right (And.right (by assumption)))))))))))), ?_⟩); rw [if_neg (by omega)]; simp
theorem below (b : Buf) (f : Nat) (hl : b.evs.length < 4611686018427387904) : Pure Try.prog 58 [b.av, u64 f] (i64 (belowN f b.evs)) := fun S => by
  refine callR_of Try.func58 rfl rfl (xc_ok (bitB 2111) _ _ _ ?_)
  simp only [go_sem, decide_true, decide_false, Nat.lt_irrefl]
  refine alloc_intro fun c2 h2 => ?_
  simp only [go_sem, decide_true, decide_false, Nat.lt_irrefl]
  refine alloc_intro fun c3 h3 => ?_
  simp only [fresh_set] at h3
  simp only [go_sem, decide_true, decide_false, Nat.lt_irrefl, h3]
  refine (index_ev (b1 := c3) b.evs f hl (by simp only [go_sem, decide_true, decide_false, Nat.lt_irrefl])).useA ?_
  rintro _ _ ⟨rfl, rfl⟩
  have hle := belowN_le f b.evs
  by_cases c : belowN f b.evs < b.evs.length
  · rw [if_pos c]
    simp only [go_sem, decide_true, decide_false, Nat.lt_irrefl, h3]
    (refine ⟨S, by (repeat (first | exact Sub.refl _ | refine Sub.setF ?_ (by first | assumption | exact And.right (by assumption) | exact And.right (And.right (by assumption)) | exact And.right (And.right (And.right (by assumption))) | exact And.right (And.right (And.right (And.right (by assumption)))) | exact And.right (And.right (And.right (And.right (And.right (by assumption))))) | exact And.right (And.right (And.right (And.right (And.right (And.right (by assumption)))))) | exact And.right (And.right (And.right (And.right (And.right (And.right (And.right (by assumption))))))) | exact And.right (And.right (And.right (And.right (And.right (And.right (And.right (And.right (by assumption)))))))) | exact And.right (And.right (And.right (And.right (And.right (And.right (And.right (And.right (And.right (by assumption)))))))))) | refine Sub.setV ?_ (by first | assumption | exact And.right (by assumption) | exact And.right (And.right (by assumption)) | exact And.right (And.right (And.right (by assumption))) | exact And.right (And.right (And.right (And.right (by assumption)))) | exact And.right (And.right (And.right (And.right (And.right (by assumption))))) | exact And.right (And.right (And.right (And.right (And.right (And.right (by assumption)))))) | exact And.right (And.right (And.right (And.right (And.right (And.right (And.right (by assumption))))))) | exact And.right (And.right (And.right (And.right (And.right (And.right (And.right (And.right (by assumption)))))))) | exact And.right (And.right (And.right (And.right (And.right (And.right (And.right (And.right (And.right (by assumption)))))))))))), ?_⟩); simp
  · rw [if_neg c]
    have q0 : decide ((-1 : Int) < 0) = true := by decide
    simp only [go_sem, decide_true, decide_false, Nat.lt_irrefl, h3, List.length_map, q0]
    (refine ⟨S, by (repeat (first | exact Sub.refl _ | refine Sub.setF ?_ (by first | assumption | exact And.right (by assumption) | exact And.right (And.right (by assumption)) | exact And.right (And.right (And.right (by assumption))) | exact And.right (And.right (And.right (And.right (by assumption)))) | exact And.right (And.right (And.right (And.right (And.right (by assumption))))) | exact And.right (And.right (And.right (And.right (And.right (And.right (by assumption)))))) | exact And.right (And.right (And.right (And.right (And.right (And.right (And.right (by assumption))))))) | exact And.right (And.right (And.right (And.right (And.right (And.right (And.right (And.right (by assumption)))))))) | exact And.right (And.right (And.right (And.right (And.right (And.right (And.right (And.right (And.right (by assumption)))))))))) | refine Sub.setV ?_ (by first | assumption | exact And.right (by assumption) | exact And.right (And.right (by assumption)) | exact And.right (And.right (And.right (by assumption))) | exact And.right (And.right (And.right (And.right (by assumption)))) | exact And.right (And.right (And.right (And.right (And.right (by assumption))))) | exact And.right (And.right (And.right (And.right (And.right (And.right (by assumption)))))) | exact And.right (And.right (And.right (And.right (And.right (And.right (And.right (by assumption))))))) | exact And.right (And.right (And.right (And.right (And.right (And.right (And.right (And.right (by assumption)))))))) | exact And.right (And.right (And.right (And.right (And.right (And.right (And.right (And.right (And.right (by assumption)))))))))))), ?_⟩); simp; omega
theorem clone_ev (l : List Event) (hn : l.length < 1099511627776) : Pure Try.prog 54 [.p (.sl (l.map Event.pv))] (.p (.sl (l.map Event.pv))) := fun S => by
  refine callR_of Try.func54 rfl rfl (xc_ok (bitB 21) _ _ _ ?_)
  simp only [go_sem, decide_true, decide_false, Nat.lt_irrefl]
  refine ⟨fun h => ⟨S, Sub.refl _, by rw [h], rfl⟩, evn_len, by omega, by omega, tip_intro fun k loc hk => ?_⟩
  simp only [go_sem, decide_true, decide_false, Nat.lt_irrefl]
  (refine ⟨S, by (repeat (first | exact Sub.refl _ | refine Sub.setF ?_ (by first | assumption | exact And.right (by assumption) | exact And.right (And.right (by assumption)) | exact And.right (And.right (And.right (by assumption))) | exact And.right (And.right (And.right (And.right (by assumption)))) | exact And.right (And.right (And.right (And.right (And.right (by assumption))))) | exact And.right (And.right (And.right (And.right (And.right (And.right (by assumption)))))) | exact And.right (And.right (And.right (And.right (And.right (And.right (And.right (by assumption))))))) | exact And.right (And.right (And.right (And.right (And.right (And.right (And.right (And.right (by assumption)))))))) | exact And.right (And.right (And.right (And.right (And.right (And.right (And.right (And.right (And.right (by assumption)))))))))) | refine Sub.setV ?_ (by first | assumption | exact And.right (by assumption) | exact And.right (And.right (by assumption)) | exact And.right (And.right (And.right (by assumption))) | exact And.right (And.right (And.right (And.right (by assumption)))) | exact And.right (And.right (And.right (And.right (And.right (by assumption))))) | exact And.right (And.right (And.right (And.right (And.right (And.right (by assumption)))))) | exact And.right (And.right (And.right (And.right (And.right (And.right (And.right (by assumption))))))) | exact And.right (And.right (And.right (And.right (And.right (And.right (And.right (And.right (by assumption)))))))) | exact And.right (And.right (And.right (And.right (And.right (And.right (And.right (And.right (And.right (by assumption)))))))))))), ?_⟩); simp

theorem buf_New (late : Nat) (room : Int) : Pure Try.prog 21 [u64 late, i64 room] (.tuple (if 4611686018427387904 < late ∨ room < 1 ∨ 1024 < room then [zeroB.av, i64 9] else [(Buf.mk late room 0 0 []).av, i64 0])) := fun S => by
  refine callR_of Try.func21 rfl rfl (xc_ok (bitB 32819) _ _ _ ?_)
  simp only [go_sem, decide_true, decide_false, Nat.lt_irrefl]
  refine alloc_intro fun c4 h4 => ?_
  simp only [go_sem, decide_true, decide_false, Nat.lt_irrefl]
  by_cases c1 : 4611686018427387904 < late
  · simp only [go_sem, decide_true, decide_false, Nat.lt_irrefl, c1]
    (refine ⟨S, by (repeat (first | exact Sub.refl _ | refine Sub.setF ?_ (by first | assumption | exact And.right (by assumption) | exact And.right (And.right (by assumption)) | exact And.right (And.right (And.right (by assumption))) | exact And.right (And.right (And.right (And.right (by assumption)))) | exact And.right (And.right (And.right (And.right (And.right (by assumption))))) | exact And.right (And.right (And.right (And.right (And.right (And.right (by assumption)))))) | exact And.right (And.right (And.right (And.right (And.right (And.right (And.right (by assumption))))))) | exact And.right (And.right (And.right (And.right (And.right (And.right (And.right (And.right (by assumption)))))))) | exact And.right (And.right (And.right (And.right (And.right (And.right (And.right (And.right (And.right (by assumption)))))))))) | refine Sub.setV ?_ (by first | assumption | exact And.right (by assumption) | exact And.right (And.right (by assumption)) | exact And.right (And.right (And.right (by assumption))) | exact And.right (And.right (And.right (And.right (by assumption)))) | exact And.right (And.right (And.right (And.right (And.right (by assumption))))) | exact And.right (And.right (And.right (And.right (And.right (And.right (by assumption)))))) | exact And.right (And.right (And.right (And.right (And.right (And.right (And.right (by assumption))))))) | exact And.right (And.right (And.right (And.right (And.right (And.right (And.right (And.right (by assumption)))))))) | exact And.right (And.right (And.right (And.right (And.right (And.right (And.right (And.right (And.right (by assumption)))))))))))), ?_⟩); simp [c1, zeroB]
  by_cases c2 : room < 1
  · simp only [go_sem, decide_true, decide_false, Nat.lt_irrefl, c1, c2]
    (refine ⟨S, by (repeat (first | exact Sub.refl _ | refine Sub.setF ?_ (by first | assumption | exact And.right (by assumption) | exact And.right (And.right (by assumption)) | exact And.right (And.right (And.right (by assumption))) | exact And.right (And.right (And.right (And.right (by assumption)))) | exact And.right (And.right (And.right (And.right (And.right (by assumption))))) | exact And.right (And.right (And.right (And.right (And.right (And.right (by assumption)))))) | exact And.right (And.right (And.right (And.right (And.right (And.right (And.right (by assumption))))))) | exact And.right (And.right (And.right (And.right (And.right (And.right (And.right (And.right (by assumption)))))))) | exact And.right (And.right (And.right (And.right (And.right (And.right (And.right (And.right (And.right (by assumption)))))))))) | refine Sub.setV ?_ (by first | assumption | exact And.right (by assumption) | exact And.right (And.right (by assumption)) | exact And.right (And.right (And.right (by assumption))) | exact And.right (And.right (And.right (And.right (by assumption)))) | exact And.right (And.right (And.right (And.right (And.right (by assumption))))) | exact And.right (And.right (And.right (And.right (And.right (And.right (by assumption)))))) | exact And.right (And.right (And.right (And.right (And.right (And.right (And.right (by assumption))))))) | exact And.right (And.right (And.right (And.right (And.right (And.right (And.right (And.right (by assumption)))))))) | exact And.right (And.right (And.right (And.right (And.right (And.right (And.right (And.right (And.right (by assumption)))))))))))), ?_⟩); simp [c1, c2, zeroB]
  by_cases c3 : 1024 < room
  · simp only [go_sem, decide_true, decide_false, Nat.lt_irrefl, c1, c2, c3]
    (refine ⟨S, by (repeat (first | exact Sub.refl _ | refine Sub.setF ?_ (by first | assumption | exact And.right (by assumption) | exact And.right (And.right (by assumption)) | exact And.right (And.right (And.right (by assumption))) | exact And.right (And.right (And.right (And.right (by assumption)))) | exact And.right (And.right (And.right (And.right (And.right (by assumption))))) | exact And.right (And.right (And.right (And.right (And.right (And.right (by assumption)))))) | exact And.right (And.right (And.right (And.right (And.right (And.right (And.right (by assumption))))))) | exact And.right (And.right (And.right (And.right (And.right (And.right (And.right (And.right (by assumption)))))))) | exact And.right (And.right (And.right (And.right (And.right (And.right (And.right (And.right (And.right (by assumption)))))))))) | refine Sub.setV ?_ (by first | assumption | exact And.right (by assumption) | exact And.right (And.right (by assumption)) | exact And.right (And.right (And.right (by assumption))) | exact And.right (And.right (And.right (And.right (by assumption)))) | exact And.right (And.right (And.right (And.right (And.right (by assumption))))) | exact And.right (And.right (And.right (And.right (And.right (And.right (by assumption)))))) | exact And.right (And.right (And.right (And.right (And.right (And.right (And.right (by assumption))))))) | exact And.right (And.right (And.right (And.right (And.right (And.right (And.right (And.right (by assumption)))))))) | exact And.right (And.right (And.right (And.right (And.right (And.right (And.right (And.right (And.right (by assumption)))))))))))), ?_⟩); simp [c1, c2, c3, zeroB]
  · simp only [go_sem, decide_true, decide_false, Nat.lt_irrefl, c1, c2, c3]
    (refine ⟨S, by (repeat (first | exact Sub.refl _ | refine Sub.setF ?_ (by first | assumption | exact And.right (by assumption) | exact And.right (And.right (by assumption)) | exact And.right (And.right (And.right (by assumption))) | exact And.right (And.right (And.right (And.right (by assumption)))) | exact And.right (And.right (And.right (And.right (And.right (by assumption))))) | exact And.right (And.right (And.right (And.right (And.right (And.right (by assumption)))))) | exact And.right (And.right (And.right (And.right (And.right (And.right (And.right (by assumption))))))) | exact And.right (And.right (And.right (And.right (And.right (And.right (And.right (And.right (by assumption)))))))) | exact And.right (And.right (And.right (And.right (And.right (And.right (And.right (And.right (And.right (by assumption)))))))))) | refine Sub.setV ?_ (by first | assumption | exact And.right (by assumption) | exact And.right (And.right (by assumption)) | exact And.right (And.right (And.right (by assumption))) | exact And.right (And.right (And.right (And.right (by assumption)))) | exact And.right (And.right (And.right (And.right (And.right (by assumption))))) | exact And.right (And.right (And.right (And.right (And.right (And.right (by assumption)))))) | exact And.right (And.right (And.right (And.right (And.right (And.right (And.right (by assumption))))))) | exact And.right (And.right (And.right (And.right (And.right (And.right (And.right (And.right (by assumption)))))))) | exact And.right (And.right (And.right (And.right (And.right (And.right (And.right (And.right (And.right (by assumption)))))))))))), ?_⟩); simp [c1, c2, c3]
theorem buf_Weight (b : Buf) (hl : b.evs.length < 4611686018427387904) : Pure Try.prog 37 [b.av] (u64 (sumV (fun _ => true) Event.w 0 b.evs)) := fun S => by
  refine callR_of Try.func37 rfl rfl (xc_ok (bitB 1967) _ _ _ ?_)
  simp only [go_sem, decide_true, decide_false, Nat.lt_irrefl]
  refine alloc_intro fun c1 h1 => ?_
  simp only [go_sem, decide_true, decide_false, Nat.lt_irrefl]
  refine AWP.iter (fun i => ⟨Env.get [(3, u64 (sumV (fun _ => true) Event.w 0 (b.evs.take i))), (7, .p (evsP b.evs)), (8, i64 b.evs.length), (9, i64 i)], S.set (.r c1) (.cells [u64 b.late, i64 b.room, u64 b.mark, u64 b.front, .p (.sl (b.evs.map Event.pv))]), 19, []⟩) b.evs.length ?_ ?_ ?_
  · exact le_of (by simp only [go_sem, decide_true, decide_false, Nat.lt_irrefl, evsP, List.length_map, List.take_zero] <;> simp [sumV]) (Sub.refl _) rfl rfl (by simp)
  · intro i hi ih
    refine AWPH.step (xc_ok (bitB 1967) _ _ _ ?_)
    simp only [go_sem, decide_true, decide_false, Nat.lt_irrefl, evsP, hi, ltN' hi, getD_map' _ _ _ _ hi, List.length_map]
    refine alloc_intro fun c5 h5 => ?_
    simp only [fresh_set] at h5
    simp only [go_sem, decide_true, decide_false, Nat.lt_irrefl, h5]
    refine ih.back (by ((try dsimp only); (repeat refine sub_set ?_ ?_) <;> first | ((repeat (first | exact Sub.refl _ | refine Sub.setF ?_ (by first | assumption | exact And.right (by assumption) | exact And.right (And.right (by assumption)) | exact And.right (And.right (And.right (by assumption))) | exact And.right (And.right (And.right (And.right (by assumption)))) | exact And.right (And.right (And.right (And.right (And.right (by assumption))))) | exact And.right (And.right (And.right (And.right (And.right (And.right (by assumption)))))) | exact And.right (And.right (And.right (And.right (And.right (And.right (And.right (by assumption))))))) | exact And.right (And.right (And.right (And.right (And.right (And.right (And.right (And.right (by assumption)))))))) | exact And.right (And.right (And.right (And.right (And.right (And.right (And.right (And.right (And.right (by assumption)))))))))) | refine Sub.setV ?_ (by first | assumption | exact And.right (by assumption) | exact And.right (And.right (by assumption)) | exact And.right (And.right (And.right (by assumption))) | exact And.right (And.right (And.right (And.right (by assumption)))) | exact And.right (And.right (And.right (And.right (And.right (by assumption))))) | exact And.right (And.right (And.right (And.right (And.right (And.right (by assumption)))))) | exact And.right (And.right (And.right (And.right (And.right (And.right (And.right (by assumption))))))) | exact And.right (And.right (And.right (And.right (And.right (And.right (And.right (And.right (by assumption)))))))) | exact And.right (And.right (And.right (And.right (And.right (And.right (And.right (And.right (And.right (by assumption)))))))))))); done) | (simp only [go_sem, decide_true, decide_false, Nat.lt_irrefl, h5]; done) | (simp only [go_sem, decide_true, decide_false, Nat.lt_irrefl, h5]; rfl) | rfl)) (by simp) ?_
    simp only [go_sem, decide_true, decide_false, Nat.lt_irrefl, evsP, sumV_snoc _ _ 0 b.evs i hi, wi_succ (show i < 4611686018427387904 by omega)]
  · refine AWPH.step (xc_ok (bitB 1967) _ _ _ ?_)
    simp only [go_sem, decide_true, decide_false, Nat.lt_irrefl, List.take_length]
    (refine ⟨S, by (repeat (first | exact Sub.refl _ | refine Sub.setF ?_ (by first | assumption | exact And.right (by assumption) | exact And.right (And.right (by assumption)) | exact And.right (And.right (And.right (by assumption))) | exact And.right (And.right (And.right (And.right (by assumption)))) | exact And.right (And.right (And.right (And.right (And.right (by assumption))))) | exact And.right (And.right (And.right (And.right (And.right (And.right (by assumption)))))) | exact And.right (And.right (And.right (And.right (And.right (And.right (And.right (by assumption))))))) | exact And.right (And.right (And.right (And.right (And.right (And.right (And.right (And.right (by assumption)))))))) | exact And.right (And.right (And.right (And.right (And.right (And.right (And.right (And.right (And.right (by assumption)))))))))) | refine Sub.setV ?_ (by first | assumption | exact And.right (by assumption) | exact And.right (And.right (by assumption)) | exact And.right (And.right (And.right (by assumption))) | exact And.right (And.right (And.right (And.right (by assumption)))) | exact And.right (And.right (And.right (And.right (And.right (by assumption))))) | exact And.right (And.right (And.right (And.right (And.right (And.right (by assumption)))))) | exact And.right (And.right (And.right (And.right (And.right (And.right (And.right (by assumption))))))) | exact And.right (And.right (And.right (And.right (And.right (And.right (And.right (And.right (by assumption)))))))) | exact And.right (And.right (And.right (And.right (And.right (And.right (And.right (And.right (And.right (by assumption)))))))))))), ?_⟩); simp
end Go.Sk
end

-- A7
section
namespace Go.Sk

theorem stay_all (l add : List Span) (many tick most : Nat) (hm : 1 ≤ most) : (stayV l most add many tick).length + 2 * ((outsV l most add many tick).length + leftV l most add many) = l.length + add.length + many := by
  rw [go_less _ _ _ _ _ hm, stay_len]; unfold pairsN; omega
theorem stay_ne (l add : List Span) (many tick most : Nat) (hm : 2 ≤ most) (h : 0 < l.length + add.length + many) : stayV l most add many tick ≠ [] := by
  intro e
  have := congrArg List.length e
  rw [stay_len] at this; unfold pairsN at this; simp at this; omega
theorem mostN_two {k : Nat} (hk : 2 ≤ k) (i : Nat) : 2 ≤ mostN k i := by unfold mostN; split <;> omega

theorem flow_nil_ind (k tick : Nat) (p : Nat → List Span → Nat → Prop) (h0 : ∀ i come many, come.length + many = 0 → p i come many)
    (h1 : ∀ i come many, ¬ come.length + many = 0 → p (i + 1) (outsV [] (mostN k i) come many tick) (leftV [] (mostN k i) come many) → p i come many) : ∀ b i come many, come.length + many ≤ b → p i come many := by
  intro b
  induction b with
  | zero => intro i come many h; exact h0 _ _ _ (by omega)
  | succ b ih =>
    intro i come many h
    by_cases hz : come.length + many = 0
    · exact h0 _ _ _ hz
    · refine h1 i come many hz (ih _ _ _ ?_)
      rw [go_less _ _ _ _ _ (mostN_pos k i)]
      have := mostN_pos k i
      unfold pairsN; simp; omega
theorem flow_ind (k tick : Nat) (p : Nat → List (List Span) → List Span → Nat → Prop) (h0 : ∀ i come many, come.length + many = 0 → p i [] come many)
    (h1 : ∀ i ls come many, ¬ (ls = [] ∧ come.length + many = 0) → p (i + 1) ls.tail (outsV (ls.headD []) (mostN k i) come many tick) (leftV (ls.headD []) (mostN k i) come many) → p i ls come many) : ∀ ls i come many, p i ls come many := by
  have hnil : ∀ i come many, p i [] come many := fun i come many =>
    flow_nil_ind k tick (fun i come many => p i [] come many) h0 (fun i come many hz hp => h1 i [] come many (by simpa using hz) hp) _ i come many (Nat.le_refl _)
  intro ls
  induction ls with
  | nil => exact hnil
  | cons l r ih => intro i come many; exact h1 i (l :: r) come many (by simp) (ih _ _ _)

theorem flow_tot (k tick : Nat) : ∀ ls i come many, totN i (flowV k tick i ls come many) = totN i ls + (come.length + many) * 2 ^ i := by
  refine flow_ind k tick (fun i ls come many => totN i (flowV k tick i ls come many) = totN i ls + (come.length + many) * 2 ^ i) ?_ ?_
  · intro i come many h; rw [flowV_nil h, h]; simp
  · intro i ls come many h ih
    rw [flowV_cons h]
    simp only [totN]
    rw [ih]
    have hs := stay_all (ls.headD []) come many tick (mostN k i) (mostN_pos k i)
    have ht : totN i ls = (ls.headD []).length * 2 ^ i + totN (i + 1) ls.tail := by cases ls <;> simp [totN]
    rw [ht]
    generalize (stayV (ls.headD []) (mostN k i) come many tick).length = A at *
    generalize (outsV (ls.headD []) (mostN k i) come many tick).length + leftV (ls.headD []) (mostN k i) come many = B at *
    generalize (ls.headD []).length = C at *
    have e : C * 2 ^ i + (come.length + many) * 2 ^ i = A * 2 ^ i + (2 * B) * 2 ^ i := by
      rw [← Nat.add_mul, ← Nat.add_mul]; congr 1; omega
    have e2 : B * 2 ^ (i + 1) = (2 * B) * 2 ^ i := by rw [Nat.pow_succ, Nat.mul_comm 2 B, Nat.mul_assoc, Nat.mul_comm 2]
    omega
theorem flow_small (k tick : Nat) : ∀ ls i come many, ∀ l ∈ flowV k tick i ls come many, l.length ≤ k + 2 := by
  refine flow_ind k tick (fun i ls come many => ∀ l ∈ flowV k tick i ls come many, l.length ≤ k + 2) ?_ ?_
  · intro i come many h l hl; rw [flowV_nil h] at hl; cases hl
  · intro i ls come many h ih l hl
    rw [flowV_cons h] at hl
    rcases List.mem_cons.1 hl with rfl | hl
    · exact Nat.le_trans (stay_le _ _ _ _ _ (mostN_pos k i)) (mostN_le k i)
    · exact ih l hl
theorem flow_ne (k tick : Nat) (hk : 2 ≤ k) : ∀ ls i come many, (∀ l ∈ ls, l ≠ []) → ∀ l ∈ flowV k tick i ls come many, l ≠ [] := by
  refine flow_ind k tick (fun i ls come many => (∀ l ∈ ls, l ≠ []) → ∀ l ∈ flowV k tick i ls come many, l ≠ []) ?_ ?_
  · intro i come many h _ l hl; rw [flowV_nil h] at hl; cases hl
  · intro i ls come many h ih hne l hl
    rw [flowV_cons h] at hl
    rcases List.mem_cons.1 hl with rfl | hl
    · refine stay_ne _ _ _ _ _ (mostN_two hk i) ?_
      cases ls with
      | nil => simp only [true_and] at h; simp; omega
      | cons x r =>
        have := hne x List.mem_cons_self
        cases x with
        | nil => exact absurd rfl this
        | cons a b => simp; omega
    · exact ih (fun x hx => hne x (List.mem_of_mem_tail hx)) l hl
theorem tot_levels : ∀ (ls : List (List Span)) (i : Nat), (∀ l ∈ ls, l ≠ []) → 2 ^ (i + ls.length) ≤ totN i ls + 2 ^ i := by
  intro ls
  induction ls with
  | nil => intro i _; simp
  | cons l r ih =>
    intro i h
    have := ih (i + 1) (fun x hx => h x (List.mem_cons_of_mem _ hx))
    have hl : 1 ≤ l.length := by have := h l List.mem_cons_self; cases l with | nil => exact absurd rfl this | cons a b => simp
    have h2 := Nat.mul_le_mul_right (2 ^ i) hl
    simp only [totN, List.length_cons]
    rw [show i + (r.length + 1) = i + 1 + r.length by omega]
    rw [Nat.pow_succ 2 i] at this
    omega

/-- A histogram that came to be by adding alone. -/
structure Hist.Good (h : Hist) : Prop where
  k0 : 2 ≤ h.k
  k1 : h.k ≤ 1024
  ne : ∀ l ∈ h.ls, l ≠ []
  sm : ∀ l ∈ h.ls, l.length ≤ h.k.toNat + 2
  tot : totN 0 h.ls ≤ 4503599627370496
theorem Hist.Good.len {h : Hist} (g : h.Good) : h.ls.length ≤ 53 := by
  have := tot_levels h.ls 0 g.ne
  have h2 := g.tot
  apply Classical.byContradiction
  intro hc
  have : (2 : Nat) ^ 54 ≤ 2 ^ (0 + h.ls.length) := Nat.pow_le_pow_right (by decide) (by omega)
  have e : (2 : Nat) ^ 54 = 18014398509481984 := by decide
  omega
theorem addV_good {h : Hist} (g : h.Good) (t w : Nat) (e : (addV h.k.toNat h.g h.ls t w).2 = 0) : (addV h.k.toNat h.g h.ls t w).1.Good ∧ (addV h.k.toNat h.g h.ls t w).1.k = h.k ∧ (addV h.k.toNat h.g h.ls t w).1.g = h.g ∧ totN 0 (addV h.k.toNat h.g h.ls t w).1.ls = totN 0 h.ls + w := by
  obtain ⟨k, gg, ls⟩ := h
  obtain ⟨h1, h2, h3, h4, h5⟩ := g
  dsimp only at h1 h2 h3 h4 h5 e ⊢
  obtain ⟨k, rfl⟩ : ∃ k' : Nat, k = k' := ⟨k.toNat, by omega⟩
  rw [Int.toNat_natCast] at *
  unfold addV at e ⊢
  split
  · rename_i c; rw [if_pos c] at e; simp at e
  · rename_i c; rw [if_neg c] at e
    split
    · rename_i c; rw [if_pos c] at e; simp at e
    · rename_i c; rw [if_neg c] at e
      split
      · rename_i c; rw [if_pos c] at e; simp at e
      · rename_i c2
        have ht := flow_tot k t ls 0 [] w
        simp only [List.length_nil, Nat.zero_add, Nat.pow_zero, Nat.mul_one] at ht
        refine ⟨⟨h1, h2, flow_ne k t (by omega) ls 0 [] w h3, ?_, ?_⟩, rfl, rfl, ht⟩
        · intro l hl; rw [Int.toNat_natCast]; exact flow_small k t ls 0 [] w l hl
        · dsimp only; rw [ht]; omega
end Go.Sk
end

-- A18
section
namespace Go.Sk

/-- All buckets, the oldest ones first. -/
def flat : List (List Span) → List Span
  | [] => []
  | l :: r => flat r ++ l
theorem flat_tail (ls : List (List Span)) : flat ls = flat ls.tail ++ ls.headD [] := by cases ls <;> simp [flat]
def Bef (x y : Span) : Prop := x.b ≤ y.a
def Mono (W : Nat → Bool) : Prop := ∀ x y, x ≤ y → W x = true → W y = true
def lo (W : Nat → Bool) (l : List Span) : Nat := l.countP (fun s => W s.a)
def hi (W : Nat → Bool) (l : List Span) : Nat := l.countP (fun s => W s.b)
def loL (W : Nat → Bool) : Nat → List (List Span) → Nat
  | _, [] => 0
  | i, l :: r => lo W l * 2 ^ i + loL W (i + 1) r
def hiL (W : Nat → Bool) : Nat → List (List Span) → Nat
  | _, [] => 0
  | i, l :: r => hi W l * 2 ^ i + hiL W (i + 1) r
theorem loL_tail (W : Nat → Bool) (i : Nat) (ls : List (List Span)) : loL W i ls = lo W (ls.headD []) * 2 ^ i + loL W (i + 1) ls.tail := by cases ls <;> simp [loL, lo]
theorem hiL_tail (W : Nat → Bool) (i : Nat) (ls : List (List Span)) : hiL W i ls = hi W (ls.headD []) * 2 ^ i + hiL W (i + 1) ls.tail := by cases ls <;> simp [hiL, hi]
theorem lo_app (W : Nat → Bool) (l m : List Span) : lo W (l ++ m) = lo W l + lo W m := List.countP_append
theorem hi_app (W : Nat → Bool) (l m : List Span) : hi W (l ++ m) = hi W l + hi W m := List.countP_append
theorem lo_rep (W : Nat → Bool) (n t : Nat) : lo W (List.replicate n ⟨t, t⟩) = if W t = true then n else 0 := by unfold lo; rw [List.countP_replicate]
theorem hi_rep (W : Nat → Bool) (n t : Nat) : hi W (List.replicate n ⟨t, t⟩) = if W t = true then n else 0 := by unfold hi; rw [List.countP_replicate]

theorem pairUp_take (l : List Span) : ∀ p, pairUp (l.take (2 * p)) = (pairUp l).take p := by
  induction l using pairUp.induct with
  | case1 a b r ih =>
    intro p
    cases p with
    | zero => simp [pairUp]
    | succ p =>
      rw [show 2 * (p + 1) = 2 * p + 1 + 1 by omega]
      simp only [List.take_succ_cons, pairUp, ih]
  | case2 l h =>
    intro p
    match l, h with
    | [], _ => simp [pairUp]
    | [x], _ =>
      cases p with
      | zero => simp [pairUp]
      | succ p => rw [show 2 * (p + 1) = 2 * p + 1 + 1 by omega]; simp [pairUp]
    | x :: y :: r, h => exact absurd rfl (h x y r)
/-- What leaves a level. -/
theorem pair_all (l add : List Span) (many tick most : Nat) (hm : 1 ≤ most) :
    outsV l most add many tick ++ List.replicate (leftV l most add many) ⟨tick, tick⟩ = pairUp ((lineV l add many tick).take (2 * pairsN (l.length + add.length + many) most)) := by
  rw [pairUp_take]
  have h2 : outsN (l.length + add.length) most many ≤ pairsN (l.length + add.length + many) most := by unfold outsN; omega
  have hlen : (pairUp (lineV l add many tick)).length = (l.length + add.length + many) / 2 := by rw [pairUp_length, lineV_length]
  have hp : pairsN (l.length + add.length + many) most ≤ (l.length + add.length + many) / 2 := by unfold pairsN; omega
  apply List.ext_getElem
  · rw [List.length_append, List.length_replicate, outs_len _ _ _ _ _ hm, List.length_take, hlen]
    unfold leftV; omega
  · intro i h3 h4
    rw [List.length_take, hlen] at h4
    have hol := outs_len l add many tick most hm
    have hi : i < (pairUp (lineV l add many tick)).length := by omega
    rw [List.getElem_take]
    by_cases hc : i < (outsV l most add many tick).length
    · rw [List.getElem_append_left hc]
      exact List.getElem_take
    · rw [List.getElem_append_right (by omega), List.getElem_replicate]
      rw [hol] at hc
      have hj : (l.length + add.length + 1) / 2 ≤ i := by unfold outsN at hc; omega
      rw [pairUp_get _ i hi (by rw [lineV_length]; omega) (by rw [lineV_length]; omega)]
      rw [lineV_ge (by omega), lineV_ge (by omega)]
theorem flow_c (k tick : Nat) (p : Nat → List (List Span) → List Span → List (List Span) → Prop) (h0 : ∀ i, p i [] [] [])
    (h1 : ∀ i ls c out, ¬ (ls = [] ∧ c = []) → p (i + 1) ls.tail (pairUp ((ls.headD [] ++ c).take (2 * pairsN (ls.headD [] ++ c).length (mostN k i)))) out →
      p i ls c ((ls.headD [] ++ c).drop (2 * pairsN (ls.headD [] ++ c).length (mostN k i)) :: out)) :
    ∀ ls i come many, p i ls (come ++ List.replicate many (⟨tick, tick⟩ : Span)) (flowV k tick i ls come many) := by
  refine flow_ind k tick (fun i ls come many => p i ls (come ++ List.replicate many (⟨tick, tick⟩ : Span)) (flowV k tick i ls come many)) ?_ ?_
  · intro i come many h
    rw [flowV_nil h]
    obtain rfl : come = [] := List.eq_nil_of_length_eq_zero (by omega)
    obtain rfl : many = 0 := by simpa using h
    exact h0 i
  · intro i ls come many h ih
    rw [flowV_cons h]
    rw [pair_all _ _ _ _ _ (mostN_pos k i)] at ih
    have e1 : lineV (ls.headD []) come many tick = ls.headD [] ++ (come ++ List.replicate many (⟨tick, tick⟩ : Span)) := by unfold lineV; rw [List.append_assoc]
    have e2 : (ls.headD []).length + come.length + many = (ls.headD [] ++ (come ++ List.replicate many (⟨tick, tick⟩ : Span))).length := by simp; omega
    rw [e2, e1] at ih
    have := h1 i ls (come ++ List.replicate many (⟨tick, tick⟩ : Span)) _ (by
      rintro ⟨rfl, hc⟩
      apply h
      have := congrArg List.length hc
      simp at this
      refine ⟨rfl, ?_⟩
      simp [this]) ih
    unfold stayV
    rw [e2, e1]
    exact this

theorem pairUp_none {l : List Span} (h : ∀ a b r, ¬ l = a :: b :: r) : pairUp l = [] := by
  match l, h with
  | [], _ => rfl
  | [x], _ => rfl
  | x :: y :: r, h => exact absurd rfl (h x y r)
theorem pairUp_mem (P : List Span) : ∀ z ∈ pairUp P, ∃ x ∈ P, ∃ y ∈ P, z = ⟨x.a, y.b⟩ := by
  induction P using pairUp.induct with
  | case1 a b r ih =>
    intro z hz
    rcases List.mem_cons.1 hz with rfl | hz
    · exact ⟨a, by simp, b, by simp, rfl⟩
    · obtain ⟨x, hx, y, hy, rfl⟩ := ih z hz
      exact ⟨x, by simp [hx], y, by simp [hy], rfl⟩
  | case2 l h =>
    intro z hz
    rw [pairUp_none h] at hz; cases hz
theorem pairUp_srt (P : List Span) : P.Pairwise Bef → (∀ s ∈ P, s.a ≤ s.b) → (pairUp P).Pairwise Bef ∧ ∀ s ∈ pairUp P, s.a ≤ s.b := by
  induction P using pairUp.induct with
  | case1 a b r ih =>
    intro h hv
    rw [List.pairwise_cons, List.pairwise_cons] at h
    obtain ⟨h1, h2, h3⟩ := h
    obtain ⟨i1, i2⟩ := ih h3 (fun s hs => hv s (by simp [hs]))
    have hab : a.b ≤ b.a := h1 b (by simp)
    have hva := hv a (by simp); have hvb := hv b (by simp)
    refine ⟨?_, ?_⟩
    · simp only [pairUp, List.pairwise_cons]
      refine ⟨fun z hz => ?_, i1⟩
      obtain ⟨x, hx, y, hy, rfl⟩ := pairUp_mem r z hz
      exact h2 x hx
    · intro s hs
      rcases List.mem_cons.1 hs with rfl | hs
      · show a.a ≤ b.b; omega
      · exact i2 s hs
  | case2 l h =>
    intro _ _
    have : pairUp l = [] := pairUp_none h
    rw [this]; exact ⟨List.Pairwise.nil, fun s hs => (by cases hs)⟩
theorem pairUp_lo (W : Nat → Bool) (hW : Mono W) (P : List Span) : P.Pairwise Bef → (∀ s ∈ P, s.a ≤ s.b) → 2 * lo W (pairUp P) ≤ lo W P := by
  induction P using pairUp.induct with
  | case1 a b r ih =>
    intro h hv
    rw [List.pairwise_cons, List.pairwise_cons] at h
    obtain ⟨h1, h2, h3⟩ := h
    have i1 := ih h3 (fun s hs => hv s (by simp [hs]))
    have hab : a.b ≤ b.a := h1 b (by simp)
    have hva := hv a (by simp)
    unfold lo at i1 ⊢
    simp only [pairUp, List.countP_cons]
    cases hc : W a.a with
    | false => simp; omega
    | true => rw [hW a.a b.a (by omega) hc]; simp; omega
  | case2 l h =>
    intro _ _
    have : pairUp l = [] := pairUp_none h
    rw [this]; simp [lo]
theorem pairUp_hi (W : Nat → Bool) (hW : Mono W) (P : List Span) : P.Pairwise Bef → (∀ s ∈ P, s.a ≤ s.b) → P.length % 2 = 0 → hi W P ≤ 2 * hi W (pairUp P) := by
  induction P using pairUp.induct with
  | case1 a b r ih =>
    intro h hv he
    rw [List.pairwise_cons, List.pairwise_cons] at h
    obtain ⟨h1, h2, h3⟩ := h
    have i1 := ih h3 (fun s hs => hv s (by simp [hs])) (by simp only [List.length_cons] at he; omega)
    have hab : a.b ≤ b.a := h1 b (by simp)
    have hvb := hv b (by simp)
    unfold hi at i1 ⊢
    simp only [pairUp, List.countP_cons]
    cases hc : W b.b with
    | true => cases W a.b <;> simp <;> omega
    | false =>
      have : W a.b = false := by
        cases hd : W a.b with
        | false => rfl
        | true => rw [hW a.b b.b (by omega) hd] at hc; exact hc
      rw [this]; simp; omega
  | case2 l h =>
    intro _ _ he
    match l, h with
    | [], _ => simp [hi]
    | [x], _ => simp at he
    | x :: y :: r, h => exact absurd rfl (h x y r)

theorem flow_tidy (k tick : Nat) : ∀ ls i come many, (flat ls ++ (come ++ List.replicate many (⟨tick, tick⟩ : Span))).Pairwise Bef → (∀ s ∈ flat ls ++ (come ++ List.replicate many (⟨tick, tick⟩ : Span)), s.a ≤ s.b) →
    (flat (flowV k tick i ls come many)).Pairwise Bef ∧ (∀ s ∈ flat (flowV k tick i ls come many), s.a ≤ s.b) ∧
    (∀ m, (∀ s ∈ flat ls ++ (come ++ List.replicate many (⟨tick, tick⟩ : Span)), s.b ≤ m) → ∀ s ∈ flat (flowV k tick i ls come many), s.b ≤ m) ∧
    ∀ W, Mono W → loL W i (flowV k tick i ls come many) ≤ loL W i ls + lo W (come ++ List.replicate many (⟨tick, tick⟩ : Span)) * 2 ^ i ∧
      hiL W i ls + hi W (come ++ List.replicate many (⟨tick, tick⟩ : Span)) * 2 ^ i ≤ hiL W i (flowV k tick i ls come many) := by
  refine flow_c k tick (fun i ls c out => (flat ls ++ c).Pairwise Bef → (∀ s ∈ flat ls ++ c, s.a ≤ s.b) → (flat out).Pairwise Bef ∧ (∀ s ∈ flat out, s.a ≤ s.b) ∧
    (∀ m, (∀ s ∈ flat ls ++ c, s.b ≤ m) → ∀ s ∈ flat out, s.b ≤ m) ∧ ∀ W, Mono W → loL W i out ≤ loL W i ls + lo W c * 2 ^ i ∧ hiL W i ls + hi W c * 2 ^ i ≤ hiL W i out) ?_ ?_
  · intro i _ _
    refine ⟨List.Pairwise.nil, fun s hs => (by cases hs), fun m _ s hs => (by cases hs), fun W _ => ?_⟩
    simp [loL, hiL, lo, hi]
  · intro i ls c out hne ih hs hv
    have hm := mostN_pos k i
    have hq : 2 * pairsN (ls.headD [] ++ c).length (mostN k i) ≤ (ls.headD [] ++ c).length := by unfold pairsN; omega
    rw [flat_tail ls, List.append_assoc] at hs hv
    have hfl : flat ls ++ c = flat ls.tail ++ (ls.headD [] ++ c) := by rw [flat_tail ls, List.append_assoc]
    rw [hfl]
    have hl1 : ∀ W, lo W (ls.headD [] ++ c) = lo W (ls.headD []) + lo W c := fun W => lo_app W _ _
    have hh1 : ∀ W, hi W (ls.headD [] ++ c) = hi W (ls.headD []) + hi W c := fun W => hi_app W _ _
    generalize hL : ls.headD [] ++ c = L at *
    generalize hQ : 2 * pairsN L.length (mostN k i) = q at *
    have hev : q % 2 = 0 := by omega
    have hsp : L.take q ++ L.drop q = L := List.take_append_drop q L
    have hs' := hs
    rw [← hsp, List.pairwise_append, List.pairwise_append] at hs'
    obtain ⟨s1, ⟨s2, s3, s4⟩, s5⟩ := hs'
    have hvL : ∀ s ∈ L, s.a ≤ s.b := fun s h => hv s (List.mem_append_right _ h)
    have hvT : ∀ s ∈ L.take q, s.a ≤ s.b := fun s h => hvL s (List.mem_of_mem_take h)
    obtain ⟨p1, p2⟩ := pairUp_srt (L.take q) s2 hvT
    have cross : ∀ x ∈ flat ls.tail, ∀ z ∈ pairUp (L.take q), Bef x z := by
      intro x hx z hz
      obtain ⟨u, hu, v, hv2, rfl⟩ := pairUp_mem _ z hz
      exact s5 x hx u (by rw [List.take_append_drop]; exact List.mem_of_mem_take hu)
    obtain ⟨i1, i2, i3, i4⟩ := ih (List.pairwise_append.2 ⟨s1, p1, cross⟩) (fun s h => by
      rcases List.mem_append.1 h with h | h
      · exact hv s (List.mem_append_left _ h)
      · exact p2 s h)
    refine ⟨?_, ?_, ?_, ?_⟩
    · show (flat out ++ L.drop q).Pairwise Bef
      refine List.pairwise_append.2 ⟨i1, s3, fun x hx y hy => ?_⟩
      refine i3 y.a (fun s h => ?_) x hx
      rcases List.mem_append.1 h with h | h
      · exact s5 s h y (by rw [List.take_append_drop]; exact List.mem_of_mem_drop hy)
      · obtain ⟨u, hu, v, hv2, rfl⟩ := pairUp_mem _ s h
        exact s4 v hv2 y hy
    · intro s h
      rcases List.mem_append.1 h with h | h
      · exact i2 s h
      · exact hvL s (List.mem_of_mem_drop h)
    · intro m hm2 s h
      rcases List.mem_append.1 h with h | h
      · refine i3 m (fun z hz => ?_) s h
        rcases List.mem_append.1 hz with hz | hz
        · exact hm2 z (List.mem_append_left _ hz)
        · obtain ⟨u, hu, v, hv2, rfl⟩ := pairUp_mem _ z hz
          exact hm2 v (List.mem_append_right _ (List.mem_of_mem_take hv2))
      · exact hm2 s (List.mem_append_right _ (List.mem_of_mem_drop h))
    · intro W hW
      obtain ⟨j1, j2⟩ := i4 W hW
      have k1 := pairUp_lo W hW (L.take q) s2 hvT
      have k2 := pairUp_hi W hW (L.take q) s2 hvT (by rw [List.length_take]; omega)
      have k3 : lo W L = lo W (L.take q) + lo W (L.drop q) := by rw [← lo_app, hsp]
      have k4 : hi W L = hi W (L.take q) + hi W (L.drop q) := by rw [← hi_app, hsp]
      have k5 := hl1 W; have k6 := hh1 W
      rw [loL_tail W i ls, hiL_tail W i ls]
      show lo W (L.drop q) * 2 ^ i + loL W (i + 1) out ≤ _ ∧ _ ≤ hi W (L.drop q) * 2 ^ i + hiL W (i + 1) out
      rw [Nat.pow_succ] at j1 j2
      have m1 : 2 * lo W (pairUp (L.take q)) * 2 ^ i ≤ lo W (L.take q) * 2 ^ i := Nat.mul_le_mul_right _ k1
      have m2 : hi W (L.take q) * 2 ^ i ≤ 2 * hi W (pairUp (L.take q)) * 2 ^ i := Nat.mul_le_mul_right _ k2
      have e1 : lo W (pairUp (L.take q)) * (2 ^ i * 2) = 2 * lo W (pairUp (L.take q)) * 2 ^ i := by rw [Nat.mul_comm (2 ^ i) 2, ← Nat.mul_assoc, Nat.mul_comm _ 2]
      have e2 : hi W (pairUp (L.take q)) * (2 ^ i * 2) = 2 * hi W (pairUp (L.take q)) * 2 ^ i := by rw [Nat.mul_comm (2 ^ i) 2, ← Nat.mul_assoc, Nat.mul_comm _ 2]
      have e3 : lo W (ls.headD []) * 2 ^ i + lo W c * 2 ^ i = lo W (L.take q) * 2 ^ i + lo W (L.drop q) * 2 ^ i := by rw [← Nat.add_mul, ← Nat.add_mul]; congr 1; omega
      have e4 : hi W (ls.headD []) * 2 ^ i + hi W c * 2 ^ i = hi W (L.take q) * 2 ^ i + hi W (L.drop q) * 2 ^ i := by rw [← Nat.add_mul, ← Nat.add_mul]; congr 1; omega
      omega

/-- Each level, but the last one, is full. -/
def Full (k : Nat) : Nat → List (List Span) → Prop
  | _, [] => True
  | i, l :: r => (r ≠ [] → mostN k i ≤ l.length + 1) ∧ Full k (i + 1) r
theorem flow_full (k tick : Nat) : ∀ ls i come many, Full k i ls → Full k i (flowV k tick i ls come many) := by
  intro ls i come many
  refine (flow_c k tick (fun i ls c out => (ls = [] → c = [] → out = []) ∧ (Full k i ls → Full k i out)) ?_ ?_ ls i come many).2
  · intro i; exact ⟨fun _ _ => rfl, id⟩
  · intro i ls c out hne ih
    refine ⟨fun h1 h2 => absurd ⟨h1, h2⟩ hne, fun hf => ?_⟩
    have hm := mostN_pos k i
    refine ⟨fun ho => ?_, ih.2 (by cases ls with | nil => trivial | cons l r => exact hf.2)⟩
    rw [List.length_drop]
    by_cases hp : pairsN (ls.headD [] ++ c).length (mostN k i) = 0
    · rw [hp] at ih ⊢
      have ht : ls.tail ≠ [] := fun ht => ho (ih.1 ht (by simp [pairUp]))
      cases ls with
      | nil => exact absurd rfl ht
      | cons l r => have := hf.1 ht; simp only [List.headD_cons, List.length_append]; omega
    · unfold pairsN at hp ⊢; omega

/-- As a histogram is that no merge made. -/
structure Tidy (k : Nat) (ls : List (List Span)) : Prop where
  srt : (flat ls).Pairwise Bef
  val : ∀ s ∈ flat ls, s.a ≤ s.b
  low : ∀ s ∈ ls.headD [], s.a = s.b
  full : Full k 0 ls
theorem last_le {k : Nat} {ls : List (List Span)} (h : Tidy k ls) (hne : ∀ l ∈ ls, l ≠ []) {t : Nat} (ht : ¬ ((lastV ls).2 = true ∧ t < (lastV ls).1)) : ∀ s ∈ flat ls, s.b ≤ t := by
  cases ls with
  | nil => intro s hs; cases hs
  | cons l r =>
    have hl := hne l (by simp)
    obtain ⟨d, x, rfl⟩ : ∃ d x, l = d ++ [x] := ⟨l.dropLast, l.getLast hl, (List.dropLast_concat_getLast hl).symm⟩
    have hx : lastV ((d ++ [x]) :: r) = (x.b, true) := by simp [lastV]
    rw [hx] at ht
    simp only [true_and] at ht
    have e : flat ((d ++ [x]) :: r) = (flat r ++ d) ++ [x] := by simp [flat]
    have hs := h.srt
    have hv := h.val
    rw [e] at hs hv ⊢
    obtain ⟨_, _, h3⟩ := List.pairwise_append.1 hs
    have hvx := hv x (by simp)
    intro s h
    rcases List.mem_append.1 h with h | h
    · have := h3 s h x (by simp)
      unfold Bef at this; omega
    · simp only [List.mem_singleton] at h; subst h; omega
theorem addV_tidy {h : Hist} (g : h.Good) (hT : Tidy h.k.toNat h.ls) (t w : Nat) (e : (addV h.k.toNat h.g h.ls t w).2 = 0) : Tidy h.k.toNat (addV h.k.toNat h.g h.ls t w).1.ls ∧
    ∀ W, Mono W → loL W 0 (addV h.k.toNat h.g h.ls t w).1.ls ≤ loL W 0 h.ls + (if W t = true then w else 0) ∧ hiL W 0 h.ls + (if W t = true then w else 0) ≤ hiL W 0 (addV h.k.toNat h.g h.ls t w).1.ls := by
  unfold addV at e ⊢
  split
  · rename_i c; rw [if_pos c] at e; simp at e
  rename_i c; rw [if_neg c] at e
  split
  · rename_i c; rw [if_pos c] at e; simp at e
  rename_i c2; rw [if_neg c2] at e
  split
  · rename_i c; rw [if_pos c] at e; simp at e
  have hle := last_le hT g.ne (t := t) (fun hc => c2 (Or.inr hc))
  have hs : (flat h.ls ++ ([] ++ List.replicate w (⟨t, t⟩ : Span))).Pairwise Bef := by
    refine List.pairwise_append.2 ⟨hT.srt, ?_, ?_⟩
    · rw [List.nil_append]; exact List.pairwise_replicate.2 (Or.inr (Nat.le_refl t))
    · intro x hx y hy
      rw [List.nil_append] at hy
      rw [List.eq_of_mem_replicate hy]; exact hle x hx
  have hv : ∀ s ∈ flat h.ls ++ ([] ++ List.replicate w (⟨t, t⟩ : Span)), s.a ≤ s.b := by
    intro s hs
    rcases List.mem_append.1 hs with hs | hs
    · exact hT.val s hs
    · rw [List.nil_append] at hs; rw [List.eq_of_mem_replicate hs]; exact Nat.le_refl _
  obtain ⟨r1, r2, _, r4⟩ := flow_tidy h.k.toNat t h.ls 0 [] w hs hv
  refine ⟨⟨r1, r2, ?_, flow_full _ _ _ _ _ _ hT.full⟩, fun W hW => ?_⟩
  · intro s hs
    dsimp only at hs
    rw [flowV_cons (by rintro ⟨_, h0⟩; simp at h0; exact c h0)] at hs
    simp only [List.headD_cons] at hs
    unfold stayV lineV at hs
    have := List.mem_of_mem_drop hs
    rw [List.append_nil] at this
    rcases List.mem_append.1 this with h1 | h1
    · exact hT.low s h1
    · rw [List.eq_of_mem_replicate h1]
  · have := r4 W hW
    rw [List.nil_append, lo_rep, hi_rep, Nat.pow_zero, Nat.mul_one] at this
    exact this
theorem empty_tidy (k : Nat) : Tidy k [] := ⟨List.Pairwise.nil, fun s hs => (by cases hs), fun s hs => (by cases hs), trivial⟩

/-- Of a level, one bucket at most is cut. -/
theorem cut_one (W : Nat → Bool) (hW : Mono W) : ∀ l : List Span, l.Pairwise Bef → (∀ s ∈ l, s.a ≤ s.b) → hi W l = lo W l ∨ hi W l = lo W l + 1 := by
  intro l
  induction l with
  | nil => intro _ _; exact Or.inl rfl
  | cons x t ih =>
    intro h hv
    rw [List.pairwise_cons] at h
    have hx := hv x (by simp)
    have i := ih h.2 (fun s hs => hv s (by simp [hs]))
    cases hc : W x.b with
    | true =>
      have h1 : lo W t = t.length := by
        unfold lo; rw [List.countP_eq_length]
        intro y hy; exact hW x.b y.a (h.1 y hy) hc
      have h2 : hi W t = t.length := by
        unfold hi; rw [List.countP_eq_length]
        intro y hy; exact hW x.b y.b (Nat.le_trans (h.1 y hy) (hv y (by simp [hy]))) hc
      unfold lo at h1 ⊢
      unfold hi at h2 ⊢
      simp only [List.countP_cons, hc]
      cases W x.a <;> simp <;> omega
    | false =>
      have : W x.a = false := by
        cases hd : W x.a with
        | false => rfl
        | true => rw [hW x.a x.b hx hd] at hc; exact hc
      unfold lo hi at i
      unfold lo hi
      simp only [List.countP_cons, hc, this]
      simpa using i
theorem hi_pos (W : Nat → Bool) : ∀ (ls : List (List Span)) (i : Nat), 0 < hiL W i ls → ∃ s ∈ flat ls, W s.b = true := by
  intro ls
  induction ls with
  | nil => intro i h; simp [hiL] at h
  | cons l r ih =>
    intro i h
    unfold hiL at h
    by_cases hc : hi W l = 0
    · rw [hc] at h
      obtain ⟨s, hs, hb⟩ := ih (i + 1) (by omega)
      exact ⟨s, List.mem_append_left _ hs, hb⟩
    · obtain ⟨s, hs, hb⟩ := List.countP_pos_iff.1 (Nat.pos_of_ne_zero hc)
      exact ⟨s, List.mem_append_right _ hs, hb⟩
theorem cut_all (k : Nat) (W : Nat → Bool) (hW : Mono W) : ∀ (ls : List (List Span)) (i : Nat), (flat ls).Pairwise Bef → (∀ s ∈ flat ls, s.a ≤ s.b) → (i = 0 → ∀ s ∈ ls.headD [], s.a = s.b) → Full k i ls →
    hiL W i ls = loL W i ls ∨ ∃ j, i ≤ j ∧ 1 ≤ j ∧ hiL W i ls = loL W i ls + 2 ^ j ∧ k * 2 ^ j ≤ 2 * loL W i ls + (if i = 0 then 0 else k * 2 ^ i) := by
  intro ls
  induction ls with
  | nil => intro i _ _ _ _; exact Or.inl rfl
  | cons l r ih =>
    intro i hs hv hlow hf
    obtain ⟨s1, s2, s3⟩ := List.pairwise_append.1 (show (flat r ++ l).Pairwise Bef from hs)
    have hvl : ∀ s ∈ l, s.a ≤ s.b := fun s h => hv s (List.mem_append_right _ h)
    have hvr : ∀ s ∈ flat r, s.a ≤ s.b := fun s h => hv s (List.mem_append_left _ h)
    have c1 := cut_one W hW l s2 hvl
    unfold hiL loL
    rcases ih (i + 1) s1 hvr (by omega) hf.2 with hr | ⟨j, hj, hj1, hr, hb⟩
    · rcases c1 with c1 | c1
      · left; rw [c1, hr]
      · right
        by_cases h0 : i = 0
        · exfalso
          have : hi W l = lo W l := by
            unfold hi lo
            apply List.countP_congr
            intro s hs; rw [hlow h0 s hs]
          omega
        · refine ⟨i, Nat.le_refl _, by omega, ?_, ?_⟩
          · rw [c1, hr, Nat.add_mul, Nat.one_mul]; omega
          · rw [if_neg h0]; omega
    · right
      have hpos : 0 < 2 ^ j := Nat.pow_pos (by decide)
      obtain ⟨s, hsm, hsb⟩ := hi_pos W r (i + 1) (by omega)
      have h1 : lo W l = l.length := by
        unfold lo; rw [List.countP_eq_length]
        intro y hy; exact hW s.b y.a (s3 s hsm y hy) hsb
      have h2 : hi W l = l.length := by
        unfold hi; rw [List.countP_eq_length]
        intro y hy; exact hW s.b y.b (Nat.le_trans (s3 s hsm y hy) (hvl y hy)) hsb
      have hrne : r ≠ [] := by rintro rfl; cases hsm
      have hfl := hf.1 hrne
      refine ⟨j, by omega, hj1, by rw [h1, h2, hr]; omega, ?_⟩
      rw [if_neg (by omega), Nat.pow_succ] at hb
      rw [h1]
      unfold mostN at hfl
      by_cases h0 : i = 0
      · subst h0
        rw [if_pos rfl] at hfl ⊢
        simp only [Nat.pow_zero, Nat.one_mul, Nat.mul_one, Nat.zero_add] at hb ⊢
        omega
      · rw [if_neg h0] at hfl ⊢
        have m1 : k * 2 ^ i ≤ 2 * l.length * 2 ^ i := Nat.mul_le_mul_right _ (by omega)
        have e1 : k * (2 ^ i * 2) = k * 2 ^ i + k * 2 ^ i := by rw [Nat.mul_comm (2 ^ i) 2, ← Nat.mul_assoc, Nat.mul_comm k 2, Nat.mul_assoc]; omega
        have e2 : 2 * l.length * 2 ^ i = 2 * (l.length * 2 ^ i) := Nat.mul_assoc _ _ _
        omega
/-- The bound. -/
theorem est_bound {k : Nat} {ls : List (List Span)} (hk : 2 ≤ k) (h : Tidy k ls) (W : Nat → Bool) (hW : Mono W) {R : Nat} (h1 : loL W 0 ls ≤ R) (h2 : R ≤ hiL W 0 ls) :
    (k - 1) * R ≤ k * (loL W 0 ls + (hiL W 0 ls - loL W 0 ls) / 2) ∧ k * (loL W 0 ls + (hiL W 0 ls - loL W 0 ls) / 2) ≤ (k + 1) * R := by
  obtain ⟨k, rfl⟩ : ∃ m, k = m + 1 := ⟨k - 1, by omega⟩
  rcases cut_all (k + 1) W hW ls 0 h.srt h.val (fun _ => h.low) h.full with e | ⟨j, _, hj, e, hb⟩
  · obtain rfl : R = loL W 0 ls := by omega
    rw [e, Nat.sub_self, Nat.zero_div, Nat.add_zero, Nat.add_sub_cancel]
    exact ⟨Nat.mul_le_mul_right _ (by omega), Nat.mul_le_mul_right _ (by omega)⟩
  · obtain ⟨i, rfl⟩ : ∃ i, j = i + 1 := ⟨j - 1, by omega⟩
    rw [if_pos rfl, Nat.pow_succ, Nat.add_zero] at hb
    rw [e, Nat.pow_succ] at h2
    rw [e, Nat.add_sub_cancel_left, Nat.pow_succ, Nat.mul_div_cancel _ (by decide), Nat.add_sub_cancel]
    generalize loL W 0 ls = L at *
    generalize 2 ^ i = c at *
    have e1 : (k + 1) * (c * 2) = 2 * (k * c) + 2 * c := by rw [Nat.add_mul, ← Nat.mul_assoc]; omega
    have m1 : k * R ≤ k * (L + c * 2) := Nat.mul_le_mul_left _ h2
    have e2 : k * (L + c * 2) = k * L + 2 * (k * c) := by rw [Nat.mul_add, ← Nat.mul_assoc]; omega
    have e3 : (k + 1) * (L + c) = k * L + k * c + L + c := by rw [Nat.add_mul, Nat.mul_add]; omega
    have m2 : (k + 1 + 1) * L ≤ (k + 1 + 1) * R := Nat.mul_le_mul_left _ h1
    have e4 : (k + 1 + 1) * L = k * L + 2 * L := by rw [Nat.add_mul, Nat.add_mul]; omega
    omega
end Go.Sk
end

-- A7h
section
namespace Go.Sk

theorem Hist.Good.ok {h : Hist} (g : h.Good) : h.Ok :=
  ⟨by have := g.k0; omega, by have := g.k1; omega, by have := g.len; omega, fun l hl => by have := g.sm l hl; have := g.k1; omega, g.tot⟩
theorem Hist.Good.small {h : Hist} (g : h.Good) : h.Small := ⟨by have := g.len; omega, fun l hl => by have := g.sm l hl; have := g.k1; omega⟩
theorem addH_good {h : Hist} (g : h.Good) (t w : Nat) (e : (addH h t w).2 = 0) : (addH h t w).1.Good ∧ (addH h t w).1.k = h.k ∧ (addH h t w).1.g = h.g ∧ totN 0 (addH h t w).1.ls = totN 0 h.ls + w := addV_good g t w e
theorem addH_tidy {h : Hist} (g : h.Good) (hT : Tidy h.k.toNat h.ls) (t w : Nat) (e : (addH h t w).2 = 0) : Tidy h.k.toNat (addH h t w).1.ls ∧
    ∀ W, Mono W → loL W 0 (addH h t w).1.ls ≤ loL W 0 h.ls + (if W t = true then w else 0) ∧ hiL W 0 h.ls + (if W t = true then w else 0) ≤ hiL W 0 (addH h t w).1.ls := addV_tidy g hT t w e
end Go.Sk
end

-- A20
section
namespace Go.Sk

/-- Is a tick too old? -/
noncomputable def oldV (f w t : Nat) : Bool := decide (w ≤ f) && decide (t ≤ sub64 f w)
def Anti (o : Nat → Bool) : Prop := ∀ x y, x ≤ y → o y = true → o x = true
theorem oldV_anti (f w : Nat) : Anti (oldV f w) := by
  intro x y h hy
  unfold oldV at *
  simp only [Bool.and_eq_true, decide_eq_true_eq] at *
  exact ⟨hy.1, by omega⟩
/-- How many at the head of a level are too old. -/
def oldN (o : Nat → Bool) : List Span → Nat
  | [] => 0
  | s :: l => if o s.b = true then oldN o l + 1 else 0
/-- What is left: level by level, as long as there is something. -/
def dropG (o : Nat → Bool) : List (List Span) → List (List Span)
  | [] => []
  | l :: r => if oldN o l < l.length then l.drop (oldN o l) :: dropG o r else []
theorem oldN_cons (o : Nat → Bool) (s : Span) (l : List Span) : oldN o (s :: l) = if o s.b = true then oldN o l + 1 else 0 := rfl
theorem oldN_le (o : Nat → Bool) (l : List Span) : oldN o l ≤ l.length := by
  induction l with
  | nil => exact Nat.le_refl _
  | cons s l ih => unfold oldN; split <;> simp <;> omega
theorem oldN_lt (o : Nat → Bool) : ∀ (l : List Span) (i : Nat) (h : i < l.length), i < oldN o l → o (l[i]).b = true := by
  intro l
  induction l with
  | nil => intro i h; simp at h
  | cons s l ih =>
    intro i h hi
    unfold oldN at hi
    split at hi
    · rename_i c
      cases i with
      | zero => exact c
      | succ i => exact ih i (by simpa using h) (by omega)
    · omega
theorem oldN_at (o : Nat → Bool) : ∀ (l : List Span) (h : oldN o l < l.length), o (l[oldN o l]).b = false := by
  intro l
  induction l with
  | nil => intro h; simp at h
  | cons s l ih =>
    intro h
    by_cases c : o s.b = true
    · have e : oldN o (s :: l) = oldN o l + 1 := by rw [oldN_cons, if_pos c]
      have h2 : oldN o l < l.length := by rw [e] at h; simpa using h
      simp only [e, List.getElem_cons_succ]
      exact ih h2
    · have e : oldN o (s :: l) = 0 := by rw [oldN_cons, if_neg c]
      simp only [e, List.getElem_cons_zero]
      simpa using c
/-- One by one: i of a level are too old. -/
theorem oldN_step (o : Nat → Bool) (l : List Span) (i : Nat) (h : i < l.length) (hi : i ≤ oldN o l) : (o (l[i]).b = true → i + 1 ≤ oldN o l) ∧ (o (l[i]).b = false → i = oldN o l) := by
  refine ⟨fun hb => ?_, fun hb => ?_⟩
  · apply Classical.byContradiction
    intro hc
    obtain rfl : i = oldN o l := by omega
    rw [oldN_at o l h] at hb; cases hb
  · apply Classical.byContradiction
    intro hc
    rw [oldN_lt o l i h (by omega)] at hb; cases hb

def stayF (o : Nat → Bool) (l : List Span) : List Span := l.filter (fun s => !o s.b)
def manyF : Nat → Nat → List (List Span) → Nat
  | _, n, [] => n
  | i, n, l :: r => manyF (i + 1) (if l = [] then n else i + 1) r
def dropH (D : List (List Span) → List (List Span)) (h : Hist) : Hist := ⟨h.k, h.g, D h.ls⟩
/-- By the document. -/
def docD (o : Nat → Bool) (ls : List (List Span)) : List (List Span) := (ls.map (stayF o)).take (manyF 0 0 (ls.map (stayF o)))
theorem manyF_snoc (l : List Span) : ∀ (r : List (List Span)) (i n : Nat), manyF i n (r ++ [l]) = if l = [] then manyF i n r else i + r.length + 1 := by
  intro r
  induction r with
  | nil => intro i n; simp [manyF]
  | cons x r ih => intro i n; simp only [List.cons_append, manyF, ih, List.length_cons]; split <;> omega
theorem manyF_all : ∀ (r : List (List Span)) (i n : Nat), (∀ l ∈ r, l = []) → manyF i n r = n := by
  intro r
  induction r with
  | nil => intro i n _; rfl
  | cons x r ih => intro i n h; unfold manyF; rw [if_pos (h x (by simp)), ih _ _ (fun l hl => h l (by simp [hl]))]
theorem manyF_ge : ∀ (r : List (List Span)) (i n : Nat), n ≤ i → manyF i n r = n ∨ i < manyF i n r := by
  intro r
  induction r with
  | nil => intro i n _; exact Or.inl rfl
  | cons x r ih =>
    intro i n h
    unfold manyF
    split
    · rcases ih (i + 1) n (by omega) with e | e
      · exact Or.inl e
      · exact Or.inr (by omega)
    · rcases ih (i + 1) (i + 1) (by omega) with e | e
      · exact Or.inr (by omega)
      · exact Or.inr (by omega)
theorem manyF_le : ∀ (r : List (List Span)) (i n : Nat), n ≤ i → manyF i n r ≤ i + r.length := by
  intro r
  induction r with
  | nil => intro i n h; simpa [manyF] using h
  | cons x r ih =>
    intro i n h
    unfold manyF
    rw [List.length_cons]
    split
    · have := ih (i + 1) n (by omega); omega
    · have := ih (i + 1) (i + 1) (by omega); omega
/-- Of a sorted level, what stays is its end. -/
theorem stay_drop {o : Nat → Bool} (ho : Anti o) : ∀ l : List Span, l.Pairwise Bef → (∀ s ∈ l, s.a ≤ s.b) → stayF o l = l.drop (oldN o l) := by
  intro l
  induction l with
  | nil => intro _ _; rfl
  | cons s l ih =>
    intro h hv
    rw [List.pairwise_cons] at h
    have hvs := fun x hx => hv x (List.mem_cons_of_mem _ hx)
    unfold stayF at *
    rw [oldN_cons]
    by_cases c : o s.b = true
    · rw [if_pos c, List.drop_succ_cons, List.filter_cons_of_neg (by simp [c])]
      exact ih h.2 hvs
    · rw [if_neg c, List.drop_zero, List.filter_eq_self]
      intro x hx
      rcases List.mem_cons.1 hx with rfl | hx
      · simpa using c
      · have h1 : s.b ≤ x.b := Nat.le_trans (h.1 x hx) (hvs x hx)
        cases hb : o x.b with
        | false => rfl
        | true => exact absurd (ho _ _ h1 hb) c
theorem doc_go_aux {o : Nat → Bool} (ho : Anti o) : ∀ (ls : List (List Span)) (i : Nat), (flat ls).Pairwise Bef → (∀ s ∈ flat ls, s.a ≤ s.b) → (∀ l ∈ ls, l ≠ []) →
    (ls.map (stayF o)).take (manyF i i (ls.map (stayF o)) - i) = dropG o ls := by
  intro ls
  induction ls with
  | nil => intro i _ _ _; simp [dropG]
  | cons l r ih =>
    intro i hs hv hne
    obtain ⟨s1, s2, s3⟩ := List.pairwise_append.1 (show (flat r ++ l).Pairwise Bef from hs)
    have hvl : ∀ s ∈ l, s.a ≤ s.b := fun s h => hv s (List.mem_append_right _ h)
    have hvr : ∀ s ∈ flat r, s.a ≤ s.b := fun s h => hv s (List.mem_append_left _ h)
    have hst := stay_drop ho l s2 hvl
    have hle := oldN_le o l
    unfold dropG
    by_cases c : oldN o l < l.length
    · rw [if_pos c]
      have hn : stayF o l ≠ [] := by rw [hst]; intro e; have := congrArg List.length e; simp at this; omega
      have ihr := ih (i + 1) s1 hvr (fun x hx => hne x (by simp [hx]))
      simp only [List.map_cons, manyF]
      rw [if_neg hn]
      have hge : i + 1 ≤ manyF (i + 1) (i + 1) (r.map (stayF o)) := by
        rcases manyF_ge (r.map (stayF o)) (i + 1) (i + 1) (Nat.le_refl _) with e | e <;> omega
      rw [show manyF (i + 1) (i + 1) (r.map (stayF o)) - i = (manyF (i + 1) (i + 1) (r.map (stayF o)) - (i + 1)) + 1 by omega, List.take_succ_cons, ihr, hst]
    · rw [if_neg c]
      have hz : stayF o l = [] := by rw [hst]; exact List.drop_of_length_le (by omega)
      have hl0 : 0 < l.length := List.length_pos_iff.2 (hne l (by simp))
      have hold : o (l[0]).b = true := oldN_lt o l 0 hl0 (by omega)
      have hall : ∀ x ∈ flat r, o x.b = true := fun x hx => by
        have h1 := s3 x hx l[0] (List.getElem_mem hl0)
        exact ho _ _ (Nat.le_trans h1 (hvl _ (List.getElem_mem hl0))) hold
      have hmem : ∀ (r : List (List Span)), ∀ m ∈ r, ∀ x ∈ m, x ∈ flat r := by
        intro r
        induction r with
        | nil => intro m hm; cases hm
        | cons y r ih2 =>
          intro m hm x hx
          rcases List.mem_cons.1 hm with rfl | hm
          · exact List.mem_append_right _ hx
          · exact List.mem_append_left _ (ih2 m hm x hx)
      have he : ∀ m ∈ r.map (stayF o), m = [] := by
        intro m hm
        obtain ⟨y, hy, rfl⟩ := List.mem_map.1 hm
        unfold stayF
        rw [List.filter_eq_nil_iff]
        intro x hx
        rw [hall x (hmem r y hy x hx)]; simp
      simp only [List.map_cons, manyF]
      rw [if_pos hz, manyF_all _ _ _ he, Nat.sub_self, List.take_zero]
/-- Both leave the same. -/
theorem docD_eq {o : Nat → Bool} (ho : Anti o) {k : Nat} {ls : List (List Span)} (h : Tidy k ls) (hne : ∀ l ∈ ls, l ≠ []) : docD o ls = dropG o ls := by
  have := doc_go_aux ho ls 0 h.srt h.val hne
  rw [Nat.sub_zero] at this
  exact this
end Go.Sk
end

-- A14
section
namespace Go.Sk

/-! Adding that is let in. -/
theorem last_mem {ls : List (List Span)} (h : (lastV ls).2 = true) : ∃ x ∈ flat ls, (lastV ls).1 = x.b := by
  unfold lastV at *
  cases ls with
  | nil => simp at h
  | cons l r =>
    dsimp only at h ⊢
    cases hl : l.getLast? with
    | none => rw [hl] at h; simp at h
    | some s => exact ⟨s, List.mem_append_right _ (List.mem_of_getLast? hl), rfl⟩
theorem addH_let {h : Hist} (hT : Tidy h.k.toNat h.ls) {t w : Nat} (ht : t ≤ 9223372036854775807) (hw : 1 ≤ w) (hb : ∀ x ∈ flat h.ls, x.b ≤ t) (htot : totN 0 h.ls + w ≤ 4503599627370496) :
    (addH h t w).2 = 0 ∧ ∀ x ∈ flat (addH h t w).1.ls, x.b ≤ t := by
  have hc : ¬ (9223372036854775807 < t ∨ ((lastV h.ls).2 = true ∧ t < (lastV h.ls).1)) := by
    rintro (c | ⟨c1, c2⟩)
    · omega
    · obtain ⟨x, hx, e⟩ := last_mem c1
      have := hb x hx; omega
  have he : addH h t w = (⟨h.k.toNat, h.g, flowV h.k.toNat t 0 h.ls [] w⟩, 0) := by
    unfold addH addV
    rw [if_neg (by omega), if_neg hc, if_neg (by omega)]
  rw [he]
  refine ⟨rfl, ?_⟩
  have hs : (flat h.ls ++ ([] ++ List.replicate w (⟨t, t⟩ : Span))).Pairwise Bef := by
    refine List.pairwise_append.2 ⟨hT.srt, ?_, ?_⟩
    · rw [List.nil_append]; exact List.pairwise_replicate.2 (Or.inr (Nat.le_refl t))
    · intro x hx y hy
      rw [List.nil_append] at hy
      rw [List.eq_of_mem_replicate hy]; exact hb x hx
  have hv : ∀ s ∈ flat h.ls ++ ([] ++ List.replicate w (⟨t, t⟩ : Span)), s.a ≤ s.b := by
    intro s hs
    rcases List.mem_append.1 hs with hs | hs
    · exact hT.val s hs
    · rw [List.nil_append] at hs; rw [List.eq_of_mem_replicate hs]; exact Nat.le_refl _
  exact (flow_tidy h.k.toNat t h.ls 0 [] w hs hv).2.2.1 t (fun s hs => by
    rcases List.mem_append.1 hs with hs | hs
    · exact hb s hs
    · rw [List.nil_append] at hs; rw [List.eq_of_mem_replicate hs]; exact Nat.le_refl _)

/-! Sums over events. -/
def sumE (f : Event → Nat) (l : List Event) : Nat := (l.map f).sum
theorem sumE_app (f : Event → Nat) (l m : List Event) : sumE f (l ++ m) = sumE f l + sumE f m := by unfold sumE; rw [List.map_append, List.sum_append]
theorem sumE_cons (f : Event → Nat) (e : Event) (l : List Event) : sumE f (e :: l) = f e + sumE f l := by unfold sumE; simp
theorem sumE_nil (f : Event → Nat) : sumE f [] = 0 := rfl
theorem sumE_le {f g : Event → Nat} (h : ∀ e, f e ≤ g e) (l : List Event) : sumE f l ≤ sumE g l := by
  induction l with
  | nil => exact Nat.le_refl _
  | cons e l ih => rw [sumE_cons, sumE_cons]; have := h e; omega
theorem sumE_ins (f : Event → Nat) (l : List Event) (e : Event) : sumE f (insE l e) = sumE f l + f e := by
  unfold insE
  rw [sumE_app, sumE_app, sumE_cons, sumE_nil]
  have := sumE_app f (l.take (belowN e.t l)) (l.drop (belowN e.t l))
  rw [List.take_append_drop] at this; omega
theorem sumE_split (f : Event → Nat) (l : List Event) (n : Nat) : sumE f l = sumE f (l.take n) + sumE f (l.drop n) := by
  rw [← sumE_app, List.take_append_drop]
def wt (W : Nat → Bool) (e : Event) : Nat := if W e.t = true then e.w else 0

/-- Events passed on. -/
noncomputable def passV (h : Hist) (out : List Event) : Hist := out.foldl (fun h e => (addH h e.t e.w).1) h
theorem pass_ok : ∀ (out : List Event) (h : Hist) (f : Nat), h.Good → Tidy h.k.toNat h.ls → (∀ x ∈ flat h.ls, x.b ≤ f) → Srt out → (∀ e ∈ out, f ≤ e.t ∧ e.t ≤ 9223372036854775807 ∧ 1 ≤ e.w) → totN 0 h.ls + sumE Event.w out ≤ 4503599627370496 →
    (passV h out).Good ∧ Tidy (passV h out).k.toNat (passV h out).ls ∧ (passV h out).k = h.k ∧ (passV h out).g = h.g ∧ totN 0 (passV h out).ls = totN 0 h.ls + sumE Event.w out ∧
    (∀ m, f ≤ m → (∀ e ∈ out, e.t ≤ m) → ∀ x ∈ flat (passV h out).ls, x.b ≤ m) ∧
    ∀ W, Mono W → loL W 0 (passV h out).ls ≤ loL W 0 h.ls + sumE (wt W) out ∧ hiL W 0 h.ls + sumE (wt W) out ≤ hiL W 0 (passV h out).ls := by
  intro out
  induction out with
  | nil =>
    intro h f hg hT hb _ _ _
    refine ⟨hg, hT, rfl, rfl, rfl, fun m hm _ x hx => Nat.le_trans (hb x hx) hm, fun W _ => ⟨Nat.le_refl _, Nat.le_refl _⟩⟩
  | cons e l ih =>
    intro h f hg hT hb hs he ht
    unfold Srt at hs
    rw [List.pairwise_cons] at hs
    obtain ⟨e1, e2, e3⟩ := he e (by simp)
    rw [sumE_cons] at ht
    obtain ⟨a1, a2⟩ := addH_let hT e2 e3 (fun x hx => Nat.le_trans (hb x hx) e1) (by omega)
    obtain ⟨b1, b2, b3, b4⟩ := addH_good hg e.t e.w a1
    obtain ⟨c1, c2⟩ := addH_tidy hg hT e.t e.w a1
    have hk : (addH h e.t e.w).1.k.toNat = h.k.toNat := by rw [b2]
    obtain ⟨i1, i2, i3, i4, i5, i6, i7⟩ := ih (addH h e.t e.w).1 e.t b1 (by rw [hk]; exact c1) a2 hs.2 (fun x hx => ⟨hs.1 x hx, (he x (by simp [hx])).2⟩) (by omega)
    show (passV (addH h e.t e.w).1 l).Good ∧ _
    refine ⟨i1, i2, i3.trans b2, i4.trans b3, ?_, ?_, ?_⟩
    · show totN 0 (passV (addH h e.t e.w).1 l).ls = _
      rw [i5, sumE_cons]; omega
    · intro m hm hx
      exact i6 m (hx e (by simp)) (fun x hx2 => hx x (by simp [hx2]))
    · intro W hW
      obtain ⟨j1, j2⟩ := i7 W hW
      obtain ⟨k1, k2⟩ := c2 W hW
      rw [sumE_cons]
      have hwt : wt W e = if W e.t = true then e.w else 0 := rfl
      rw [← hwt] at k1 k2
      refine ⟨?_, ?_⟩
      · show loL W 0 (passV (addH h e.t e.w).1 l).ls ≤ _
        omega
      · show _ ≤ hiL W 0 (passV (addH h e.t e.w).1 l).ls
        omega

/-! What is too old. -/
theorem dropG_sub (o : Nat → Bool) : ∀ ls : List (List Span), (flat (dropG o ls)).Sublist (flat ls) := by
  intro ls
  induction ls with
  | nil => exact List.Sublist.refl _
  | cons l r ih =>
    unfold dropG
    split
    · exact List.Sublist.append ih (List.drop_sublist _ _)
    · exact List.nil_sublist _
theorem dropG_old {o : Nat → Bool} (ho : Anti o) {l : List Span} {r : List (List Span)} (hs : (flat (l :: r)).Pairwise Bef) (hv : ∀ s ∈ flat (l :: r), s.a ≤ s.b) (h : 0 < oldN o l) : (∀ x ∈ flat r, o x.b = true) := by
  obtain ⟨s1, s2, s3⟩ := List.pairwise_append.1 (show (flat r ++ l).Pairwise Bef from hs)
  have hl := oldN_le o l
  intro x hx
  have h0 : 0 < l.length := by omega
  have h1 := s3 x hx l[0] (List.getElem_mem h0)
  exact ho _ _ (Nat.le_trans h1 (hv _ (List.mem_append_right _ (List.getElem_mem h0)))) (oldN_lt o l 0 h0 h)
theorem dropG_nil {o : Nat → Bool} : ∀ {r : List (List Span)}, (∀ x ∈ flat r, o x.b = true) → dropG o r = [] := by
  intro r
  cases r with
  | nil => intro _; rfl
  | cons l r =>
    intro h
    unfold dropG
    rw [if_neg]
    intro hc
    have := oldN_at o l hc
    rw [h _ (List.mem_append_right _ (List.getElem_mem hc))] at this; cases this
theorem dropG_full {o : Nat → Bool} (ho : Anti o) (k : Nat) : ∀ (ls : List (List Span)) (i : Nat), (flat ls).Pairwise Bef → (∀ s ∈ flat ls, s.a ≤ s.b) → Full k i ls → Full k i (dropG o ls) := by
  intro ls
  induction ls with
  | nil => intro i _ _ _; trivial
  | cons l r ih =>
    intro i hs hv hf
    obtain ⟨s1, s2, s3⟩ := List.pairwise_append.1 (show (flat r ++ l).Pairwise Bef from hs)
    unfold dropG
    split
    · refine ⟨fun hne => ?_, ih (i + 1) s1 (fun s h => hv s (List.mem_append_left _ h)) hf.2⟩
      by_cases h0 : 0 < oldN o l
      · exact absurd (dropG_nil (dropG_old ho hs hv h0)) hne
      · have hr : r ≠ [] := by rintro rfl; exact hne rfl
        have := hf.1 hr
        rw [List.length_drop]; omega
    · trivial
theorem dropG_tidy {o : Nat → Bool} (ho : Anti o) {k : Nat} {ls : List (List Span)} (h : Tidy k ls) : Tidy k (dropG o ls) := by
  refine ⟨h.srt.sublist (dropG_sub o ls), fun s hs => h.val s ((dropG_sub o ls).subset hs), fun s hs => ?_, dropG_full ho k ls 0 h.srt h.val h.full⟩
  cases ls with
  | nil => cases hs
  | cons l r =>
    unfold dropG at hs
    split at hs
    · exact h.low s (List.mem_of_mem_drop hs)
    · cases hs
theorem dropG_lvl (o : Nat → Bool) : ∀ (ls : List (List Span)), ∀ l ∈ dropG o ls, l ≠ [] ∧ ∃ m ∈ ls, l.length ≤ m.length := by
  intro ls
  induction ls with
  | nil => intro l hl; cases hl
  | cons l r ih =>
    intro x hx
    unfold dropG at hx
    split at hx
    · rename_i c
      rcases List.mem_cons.1 hx with rfl | hx
      · refine ⟨fun e => ?_, l, by simp, by simp⟩
        have := congrArg List.length e
        simp at this; omega
      · obtain ⟨h1, m, hm, hle⟩ := ih x hx
        exact ⟨h1, m, by simp [hm], hle⟩
    · cases hx
theorem dropG_tot (o : Nat → Bool) : ∀ (ls : List (List Span)) (i : Nat), totN i (dropG o ls) ≤ totN i ls := by
  intro ls
  induction ls with
  | nil => intro i; exact Nat.le_refl _
  | cons l r ih =>
    intro i
    unfold dropG
    split
    · unfold totN
      have h1 : (l.drop (oldN o l)).length * 2 ^ i ≤ l.length * 2 ^ i := Nat.mul_le_mul_right _ (by rw [List.length_drop]; omega)
      have := ih (i + 1)
      show (l.drop (oldN o l)).length * 2 ^ i + totN (i + 1) (dropG o r) ≤ l.length * 2 ^ i + totN (i + 1) r
      omega
    · exact Nat.zero_le _
theorem dropH_good {o : Nat → Bool} {h : Hist} (g : h.Good) : (dropH (dropG o) h).Good :=
  ⟨g.k0, g.k1, fun l hl => (dropG_lvl o h.ls l hl).1, fun l hl => by obtain ⟨_, m, hm, hle⟩ := dropG_lvl o h.ls l hl; have := g.sm m hm; unfold dropH; dsimp only; omega, Nat.le_trans (dropG_tot o h.ls 0) g.tot⟩
/-- Where nothing that is too old is within, dropping it changes nothing. -/
theorem dropG_lo {o : Nat → Bool} (ho : Anti o) {W : Nat → Bool} (hW : Mono W) (hk : ∀ x, o x = true → W x = false) : ∀ (ls : List (List Span)) (i : Nat), (∀ l ∈ ls, l ≠ []) → (flat ls).Pairwise Bef → (∀ s ∈ flat ls, s.a ≤ s.b) →
    loL W i (dropG o ls) = loL W i ls ∧ hiL W i (dropG o ls) = hiL W i ls := by
  have zero : ∀ (ls : List (List Span)) (i : Nat), (∀ s ∈ flat ls, s.a ≤ s.b) → (∀ s ∈ flat ls, o s.b = true) → loL W i ls = 0 ∧ hiL W i ls = 0 := by
    intro ls
    induction ls with
    | nil => intro i _ _; exact ⟨rfl, rfl⟩
    | cons l r ih =>
      intro i hv h
      obtain ⟨i1, i2⟩ := ih (i + 1) (fun s hs => hv s (List.mem_append_left _ hs)) (fun s hs => h s (List.mem_append_left _ hs))
      have hb : ∀ s ∈ l, W s.b = false := fun s hs => hk _ (h s (List.mem_append_right _ hs))
      have ha : ∀ s ∈ l, W s.a = false := fun s hs => by
        cases hc : W s.a with
        | false => rfl
        | true => have := hW _ _ (hv s (List.mem_append_right _ hs)) hc; rw [hb s hs] at this; cases this
      have h1 : lo W l = 0 := by unfold lo; rw [List.countP_eq_zero]; intro s hs; rw [ha s hs]; simp
      have h2 : hi W l = 0 := by unfold hi; rw [List.countP_eq_zero]; intro s hs; rw [hb s hs]; simp
      unfold loL hiL
      rw [h1, h2, i1, i2]; simp
  intro ls
  induction ls with
  | nil => intro i _ _ _; exact ⟨rfl, rfl⟩
  | cons l r ih =>
    intro i hne hs hv
    obtain ⟨s1, s2, s3⟩ := List.pairwise_append.1 (show (flat r ++ l).Pairwise Bef from hs)
    have hvr : ∀ s ∈ flat r, s.a ≤ s.b := fun s h => hv s (List.mem_append_left _ h)
    obtain ⟨i1, i2⟩ := ih (i + 1) (fun l hl => hne l (by simp [hl])) s1 hvr
    have hbt : ∀ s ∈ l.take (oldN o l), W s.b = false := fun s hs => by
      obtain ⟨j, hj, rfl⟩ := List.mem_iff_getElem.1 hs
      rw [List.length_take] at hj
      rw [List.getElem_take]
      exact hk _ (oldN_lt o l j (by omega) (by omega))
    have hat : ∀ s ∈ l.take (oldN o l), W s.a = false := fun s hs => by
      cases hc : W s.a with
      | false => rfl
      | true => have := hW _ _ (hv s (List.mem_append_right _ (List.mem_of_mem_take hs))) hc; rw [hbt s hs] at this; cases this
    have e1 : lo W l = lo W (l.drop (oldN o l)) := by
      have := lo_app W (l.take (oldN o l)) (l.drop (oldN o l))
      rw [List.take_append_drop] at this
      have h0 : lo W (l.take (oldN o l)) = 0 := by unfold lo; rw [List.countP_eq_zero]; intro s hs; rw [hat s hs]; simp
      omega
    have e2 : hi W l = hi W (l.drop (oldN o l)) := by
      have := hi_app W (l.take (oldN o l)) (l.drop (oldN o l))
      rw [List.take_append_drop] at this
      have h0 : hi W (l.take (oldN o l)) = 0 := by unfold hi; rw [List.countP_eq_zero]; intro s hs; rw [hbt s hs]; simp
      omega
    unfold dropG
    split
    · constructor
      · show lo W (l.drop (oldN o l)) * 2 ^ i + loL W (i + 1) (dropG o r) = lo W l * 2 ^ i + loL W (i + 1) r
        rw [i1, e1]
      · show hi W (l.drop (oldN o l)) * 2 ^ i + hiL W (i + 1) (dropG o r) = hi W l * 2 ^ i + hiL W (i + 1) r
        rw [i2, e2]
    · rename_i c
      have hln := oldN_le o l
      have hd : l.drop (oldN o l) = [] := List.drop_of_length_le (by omega)
      rw [hd] at e1 e2
      by_cases h0 : 0 < oldN o l
      · obtain ⟨z1, z2⟩ := zero r (i + 1) hvr (dropG_old ho hs hv h0)
        constructor
        · show 0 = lo W l * 2 ^ i + loL W (i + 1) r
          rw [e1, z1]; simp [lo]
        · show 0 = hi W l * 2 ^ i + hiL W (i + 1) r
          rw [e2, z2]; simp [hi]
      · exact absurd (List.eq_nil_of_length_eq_zero (by omega)) (hne l (by simp))
end Go.Sk
end

-- A14b
section
namespace Go.Sk

theorem insE_mem {l : List Event} {e x : Event} : x ∈ insE l e ↔ x = e ∨ x ∈ l := by
  unfold insE
  simp only [List.mem_append, List.mem_singleton]
  constructor
  · rintro ((h | h) | h)
    · exact Or.inr (List.mem_of_mem_take h)
    · exact Or.inl h
    · exact Or.inr (List.mem_of_mem_drop h)
  · rintro (h | h)
    · exact Or.inl (Or.inr h)
    · rw [← List.take_append_drop (belowN e.t l) l] at h
      rcases List.mem_append.1 h with h | h
      · exact Or.inl (Or.inl h)
      · exact Or.inr h
theorem take_below {f : Nat} {l : List Event} : ∀ e ∈ l.take (belowN f l), e.t ≤ f := by
  intro e he
  obtain ⟨j, hj, rfl⟩ := List.mem_iff_getElem.1 he
  rw [List.length_take] at hj
  rw [List.getElem_take]
  exact belowN_lt f l j (by omega) (by omega)
theorem drop_below {f : Nat} {l : List Event} (hs : Srt l) : ∀ e ∈ l.drop (belowN f l), f < e.t := by
  intro e he
  obtain ⟨j, hj, rfl⟩ := List.mem_iff_getElem.1 he
  rw [List.length_drop] at hj
  rw [List.getElem_drop]
  have h0 := belowN_at f l (by omega)
  by_cases c : j = 0
  · subst c; simpa using h0
  · have := List.pairwise_iff_getElem.1 hs (belowN f l) (belowN f l + j) (by omega) (by omega) (by omega)
    omega
theorem insE_srt {l : List Event} (hs : Srt l) (e : Event) : Srt (insE l e) := by
  unfold insE Srt
  refine List.pairwise_append.2 ⟨List.pairwise_append.2 ⟨hs.take _, List.pairwise_singleton _ _, fun x hx y hy => ?_⟩, hs.drop _, fun x hx y hy => ?_⟩
  · simp only [List.mem_singleton] at hy; subst hy; exact take_below x hx
  · have h2 := drop_below hs y hy
    rcases List.mem_append.1 hx with hx | hx
    · have := take_below x hx; omega
    · simp only [List.mem_singleton] at hx; subst hx; omega
theorem insE_len (l : List Event) (e : Event) : (insE l e).length = l.length + 1 := by
  unfold insE
  have := belowN_le e.t l
  simp only [List.length_append, List.length_take, List.length_drop, List.length_singleton]; omega

/-- What settling does. -/
theorem settleB_ok {b : Buf} (hs : Srt b.evs) (hf : b.front ≤ b.mark) (hm : ∀ e ∈ b.evs, e.t ≤ b.mark) :
    (settleB b).1.late = b.late ∧ (settleB b).1.room = b.room ∧ (settleB b).1.mark = b.mark ∧ b.front ≤ (settleB b).1.front ∧ (settleB b).1.front ≤ b.mark ∧ b.evs = (settleB b).2 ++ (settleB b).1.evs ∧
    (∀ e ∈ (settleB b).2, e.t ≤ (settleB b).1.front) ∧ (∀ e ∈ (settleB b).1.evs, (settleB b).1.front < e.t) ∧ Srt (settleB b).2 ∧ Srt (settleB b).1.evs ∧ (settleB b).1.evs.length ≤ b.room.toNat := by
  obtain ⟨h1, h2, h3, h4⟩ := settle_facts b.room.toNat b.evs (max b.front (b.mark - b.late))
  have h5 := h4 b.mark (by omega) hm
  unfold settleB
  dsimp only
  refine ⟨rfl, rfl, rfl, by omega, h5, (List.take_append_drop _ _).symm, ?_, ?_, hs.take _, hs.drop _, by rw [List.length_drop]; exact h3⟩
  · rw [h2]; exact take_below
  · rw [h2]; exact drop_below hs

structure Skt where (win : Nat) (b : Buf) (past : Hist)
  deriving DecidableEq
def zeroK : Skt := ⟨0, zeroB, zeroH⟩
noncomputable def passK (s : Skt) (b : Buf) (out : List Event) : Skt := ⟨s.win, b, dropH (dropG (oldV b.front s.win)) (passV s.past out)⟩
noncomputable def addK (s : Skt) (e : Event) : Skt × Int :=
  if (pushB s.b e).2 = 0 then (if 4503599627370496 < totN 0 s.past.ls + sumE Event.w s.b.evs + e.w then (zeroK, 5) else (passK s (pushB s.b e).1.1 (pushB s.b e).1.2, 0)) else (zeroK, (pushB s.b e).2)
noncomputable def moveK (s : Skt) (t : Nat) : Skt × Int := if (moveB s.b t).2 = 0 then (passK s (moveB s.b t).1.1 (moveB s.b t).1.2, 0) else (zeroK, (moveB s.b t).2)
/-- A deed. -/
noncomputable def oneK (s : Skt) (e : Event) : Skt × Int := if e.w = 0 then moveK s e.t else addK s e

structure Skt.Good (s : Skt) : Prop where
  w1 : 1 ≤ s.win
  w2 : s.win ≤ 4611686018427387904
  lt : s.b.late ≤ 4611686018427387904
  r1 : 1 ≤ s.b.room
  r2 : s.b.room ≤ 1024
  mkk : s.b.mark ≤ 9223372036854775807
  fm : s.b.front ≤ s.b.mark
  ev : ∀ e ∈ s.b.evs, s.b.front < e.t ∧ e.t ≤ s.b.mark ∧ 1 ≤ e.w
  sr : Srt s.b.evs
  len : s.b.evs.length ≤ s.b.room.toNat
  pg : s.past.Good
  pt : Tidy s.past.k.toNat s.past.ls
  pf : ∀ x ∈ flat s.past.ls, x.b ≤ s.b.front
  tot : totN 0 s.past.ls + sumE Event.w s.b.evs ≤ 4503599627370496
/-- A sketch, and all that came to it. -/
def Skt.Led (s : Skt) (all : List Event) : Prop := ∃ P : List Event, (∀ f, sumE f all = sumE f P + sumE f s.b.evs) ∧
  (∀ W, Mono W → (∀ x, oldV s.b.front s.win x = true → W x = false) → loL W 0 s.past.ls ≤ sumE (wt W) P ∧ sumE (wt W) P ≤ hiL W 0 s.past.ls) ∧ ∀ e ∈ P, e.t ≤ s.b.front
theorem sub64_eq' {f w : Nat} (h : w ≤ f) (hf : f < 18446744073709551616) : sub64 f w = f - w := sub64_le hf h
theorem oldV_more {f f' w x : Nat} (hf : f ≤ f') (hb : f' < 18446744073709551616) (h : oldV f w x = true) : oldV f' w x = true := by
  unfold oldV at *
  simp only [Bool.and_eq_true, decide_eq_true_eq] at *
  rw [sub64_eq' h.1 (by omega)] at h
  rw [sub64_eq' (by omega) hb]
  omega
/-- From a buffer, that was good and has what else came, on. -/
theorem passK_ok {s : Skt} (hg : s.Good) {b : Buf} (hb1 : b.late = s.b.late) (hb2 : b.room = s.b.room) (hb3 : b.front = s.b.front) (hb4 : s.b.mark ≤ b.mark) (hb5 : b.mark ≤ 9223372036854775807) (hs : Srt b.evs)
    (hev : ∀ e ∈ b.evs, s.b.front ≤ e.t ∧ e.t ≤ b.mark ∧ 1 ≤ e.w) (htot : totN 0 s.past.ls + sumE Event.w b.evs ≤ 4503599627370496) :
    (passK s (settleB b).1 (settleB b).2).Good ∧ (passK s (settleB b).1 (settleB b).2).past.k = s.past.k ∧ (passK s (settleB b).1 (settleB b).2).past.g = s.past.g ∧ (passV s.past (settleB b).2).Good ∧
    (∀ all new, s.Led all → (∀ f, sumE f b.evs = sumE f s.b.evs + sumE f new) → (passK s (settleB b).1 (settleB b).2).Led (all ++ new)) := by
  have hfm := hg.fm
  obtain ⟨q1, q2, q3, q4, q5, q6, q7, q8, q9, q10, q11⟩ := settleB_ok hs (by omega) (fun e he => (hev e he).2.1)
  generalize settleB b = R at *
  obtain ⟨b', out⟩ := R
  dsimp only at q1 q2 q3 q4 q5 q6 q7 q8 q9 q10 q11 ⊢
  have hout : ∀ e ∈ out, s.b.front ≤ e.t ∧ e.t ≤ 9223372036854775807 ∧ 1 ≤ e.w := fun e he => by
    have h1 := hev e (by rw [q6]; exact List.mem_append_left _ he)
    exact ⟨h1.1, by omega, h1.2.2⟩
  have hsum : ∀ f, sumE f b.evs = sumE f out + sumE f b'.evs := fun f => by rw [q6, sumE_app]
  have hst := hsum Event.w
  obtain ⟨p1, p2, p3, p4, p5, p6, p7⟩ := pass_ok out s.past s.b.front hg.pg hg.pt hg.pf q9 hout (by omega)
  have ho := oldV_anti b'.front s.win
  have ht := dropG_tidy ho p2
  have hpf : ∀ x ∈ flat (passV s.past out).ls, x.b ≤ b'.front := p6 b'.front (by omega) q7
  have hdt := dropG_tot (oldV b'.front s.win) (passV s.past out).ls 0
  refine ⟨⟨hg.w1, hg.w2, by show b'.late ≤ _; rw [q1, hb1]; exact hg.lt, by show 1 ≤ b'.room; rw [q2, hb2]; exact hg.r1, by show b'.room ≤ _; rw [q2, hb2]; exact hg.r2, by show b'.mark ≤ _; omega, by show b'.front ≤ b'.mark; omega, ?_, q10, ?_, dropH_good p1, ht, ?_, ?_⟩, p3, p4, p1, ?_⟩
  · intro e he
    have h1 := hev e (by rw [q6]; exact List.mem_append_right _ he)
    exact ⟨q8 e he, by show e.t ≤ b'.mark; omega, h1.2.2⟩
  · show b'.evs.length ≤ b'.room.toNat; rw [q2]; exact q11
  · intro x hx; exact hpf x ((dropG_sub _ _).subset hx)
  · show totN 0 (dropG _ (passV s.past out).ls) + sumE Event.w b'.evs ≤ _; omega
  · rintro all new ⟨P, l1, l2, l3⟩ hnew
    refine ⟨P ++ out, fun f => ?_, fun W hW hk => ?_, fun e he => ?_⟩
    · have h1 := l1 f; have h2 := hnew f; have h3 := hsum f
      show sumE f (all ++ new) = sumE f (P ++ out) + sumE f b'.evs
      rw [sumE_app, sumE_app]; omega
    · have hk0 : ∀ x, oldV s.b.front s.win x = true → W x = false := fun x hx => hk x (oldV_more (by show s.b.front ≤ b'.front; omega) (by show b'.front < _; omega) hx)
      obtain ⟨c1, c2⟩ := l2 W hW hk0
      obtain ⟨d1, d2⟩ := p7 W hW
      obtain ⟨e1, e2⟩ := dropG_lo ho hW hk (passV s.past out).ls 0 p1.ne p2.srt p2.val
      rw [sumE_app]
      constructor
      · show loL W 0 (dropG (oldV b'.front s.win) (passV s.past out).ls) ≤ _
        rw [e1]; omega
      · show _ ≤ hiL W 0 (dropG (oldV b'.front s.win) (passV s.past out).ls)
        rw [e2]; omega
    · rcases List.mem_append.1 he with he | he
      · have := l3 e he; show e.t ≤ b'.front; omega
      · exact q7 e he
/-- A deed that is done. -/
theorem oneK_ok {s : Skt} (hg : s.Good) (e : Event) (h0 : (oneK s e).2 = 0) : (oneK s e).1.Good ∧ (oneK s e).1.past.k = s.past.k ∧ (oneK s e).1.win = s.win ∧ e.w ≤ 4503599627370496 ∧
    ∀ all, s.Led all → (oneK s e).1.Led (if 0 < e.w then all ++ [e] else all) := by
  unfold oneK at h0 ⊢
  by_cases hw : e.w = 0
  · rw [if_pos hw] at h0 ⊢
    unfold moveK at h0 ⊢
    by_cases hm : (moveB s.b e.t).2 = 0
    rotate_left
    · rw [if_neg hm] at h0; exact absurd h0 hm
    rw [if_pos hm] at h0 ⊢
    unfold moveB at hm ⊢
    by_cases ht : 9223372036854775807 < e.t
    · rw [if_pos ht] at hm; simp at hm
    rw [if_neg ht]
    have hmk := hg.mkk
    obtain ⟨r1, r2, _, _, r3⟩ := passK_ok hg (b := ⟨s.b.late, s.b.room, max s.b.mark e.t, s.b.front, s.b.evs⟩) rfl rfl rfl (by dsimp only; omega) (by dsimp only; omega) hg.sr
      (fun x hx => by have := hg.ev x hx; dsimp only; omega) hg.tot
    refine ⟨r1, r2, rfl, by omega, fun all hl => ?_⟩
    rw [if_neg (by omega)]
    have := r3 all [] hl (fun f => by rw [sumE_nil]; rfl)
    rwa [List.append_nil] at this
  · rw [if_neg hw] at h0 ⊢
    unfold addK at h0 ⊢
    by_cases hm : (pushB s.b e).2 = 0
    rotate_left
    · rw [if_neg hm] at h0; exact absurd h0 hm
    rw [if_pos hm] at h0 ⊢
    by_cases hh : 4503599627370496 < totN 0 s.past.ls + sumE Event.w s.b.evs + e.w
    · rw [if_pos hh] at h0; simp at h0
    rw [if_neg hh]
    unfold pushB at hm ⊢
    rw [if_neg hw] at hm ⊢
    by_cases ht : 9223372036854775807 < e.t
    · rw [if_pos ht] at hm; simp at hm
    rw [if_neg ht] at hm ⊢
    by_cases hf : e.t < s.b.front
    · rw [if_pos hf] at hm; simp at hm
    rw [if_neg hf]
    have hmk := hg.mkk
    have hse := sumE_ins Event.w s.b.evs e
    obtain ⟨r1, r2, _, _, r3⟩ := passK_ok hg (b := ⟨s.b.late, s.b.room, max s.b.mark e.t, s.b.front, insE s.b.evs e⟩) rfl rfl rfl (by dsimp only; omega) (by dsimp only; omega) (insE_srt hg.sr e)
      (fun x hx => by
        dsimp only at hx ⊢
        rcases insE_mem.1 hx with rfl | hx
        · omega
        · have := hg.ev x hx; omega) (by dsimp only; omega)
    refine ⟨r1, r2, rfl, by omega, fun all hl => ?_⟩
    rw [if_pos (by omega)]
    exact r3 all [e] hl (fun f => by rw [sumE_ins, sumE_cons, sumE_nil, Nat.add_zero])
end Go.Sk
end

-- W12f
section
namespace Go.Sk
open Go Go.Proofs

theorem splO_snoc (f : Nat) (l : List Event) (i : Nat) (h : i < l.length) : splO f (l.take (i + 1)) = if (l[i]).t ≤ f then splO f (l.take i) ++ [l[i]] else splO f (l.take i) := by
  unfold splO
  rw [List.take_succ_eq_append_getElem h, List.filter_append]
  by_cases c : (l[i]).t ≤ f
  · rw [if_pos c]; simp [c]
  · rw [if_neg c]; simp [c]
theorem splS_snoc (f : Nat) (l : List Event) (i : Nat) (h : i < l.length) : splS f (l.take (i + 1)) = if (l[i]).t ≤ f then splS f (l.take i) else splS f (l.take i) ++ [l[i]] := by
  unfold splS
  rw [List.take_succ_eq_append_getElem h, List.filter_append]
  by_cases c : (l[i]).t ≤ f
  · rw [if_pos c]; simp [c]
  · rw [if_neg c]; simp [c]
theorem splO_len (f : Nat) (l : List Event) : (splO f l).length ≤ l.length := List.length_filter_le _ _
theorem splS_len (f : Nat) (l : List Event) : (splS f l).length ≤ l.length := List.length_filter_le _ _
set_option maxHeartbeats 1000000 in
set_option maxRecDepth 4000 in
theorem ref12_split (l : List Event) (f : Nat) (hl : l.length < 1073741824) (S : Store) : CallR Try.prog 71 [.p (evsP l), u64 f] S
    (fun r S' => ∃ k1 k2 loc1 loc2, FreshV S k1 ∧ FreshV S k2 ∧ (¬ k2 = k1 ∧ ¬ k1 = k2) ∧ r = .tuple [.ts k1 3 loc1 ((splO f l).map Event.pv), .ts k2 3 loc2 ((splS f l).map Event.pv)] ∧
      S' = (S.set (.v k1) (.tip 3 (splO f l).length loc1)).set (.v k2) (.tip 3 (splS f l).length loc2)) := by
  refine callR_of Try.func71 rfl rfl (xc_ok (bitB 2101747) _ _ _ ?_)
  simp only [go_sem, decide_true, decide_false, Nat.lt_irrefl, evsP]
  refine AWP.tip0 6 3 (by simp only [go_sem, decide_true, decide_false, Nat.lt_irrefl]) fun k1 hk1 => ?_
  simp only [go_sem, decide_true, decide_false, Nat.lt_irrefl]
  refine AWP.tip0 7 3 (by simp only [go_sem, decide_true, decide_false, Nat.lt_irrefl]) fun k2 hk2 => ?_
  simp only [freshv_set] at hk2
  simp only [go_sem, decide_true, decide_false, Nat.lt_irrefl]
  refine AWP.iterE (ι := Option Nat × Option Nat) (fun x i => ⟨Env.get [(0, .p (.sl (l.map Event.pv))), (1, u64 f), (6, .ts k1 3 x.1 ((splO f (l.take i)).map Event.pv)), (7, .ts k2 3 x.2 ((splS f (l.take i)).map Event.pv)), (8, i64 i)],
      (S.set (.v k1) (.tip 3 (splO f (l.take i)).length x.1)).set (.v k2) (.tip 3 (splS f (l.take i)).length x.2), 38, []⟩) l.length (none, none) ?_ ?_ ?_
  · have h1 : splO f [] = [] := rfl
    have h2 : splS f [] = [] := rfl
    refine le_of (by simp only [go_sem, decide_true, decide_false, Nat.lt_irrefl, List.take_zero, List.map_nil, h1, h2] <;> rfl) ?_ rfl rfl (by simp)
    ((try dsimp only); (repeat refine sub_set ?_ ?_) <;> first | ((repeat (first | exact Sub.refl _ | refine Sub.setF ?_ (by first | assumption | exact And.right (by assumption) | exact And.right (And.right (by assumption)) | exact And.right (And.right (And.right (by assumption))) | exact And.right (And.right (And.right (And.right (by assumption)))) | exact And.right (And.right (And.right (And.right (And.right (by assumption))))) | exact And.right (And.right (And.right (And.right (And.right (And.right (by assumption)))))) | exact And.right (And.right (And.right (And.right (And.right (And.right (And.right (by assumption))))))) | exact And.right (And.right (And.right (And.right (And.right (And.right (And.right (And.right (by assumption)))))))) | exact And.right (And.right (And.right (And.right (And.right (And.right (And.right (And.right (And.right (by assumption)))))))))) | refine Sub.setV ?_ (by first | assumption | exact And.right (by assumption) | exact And.right (And.right (by assumption)) | exact And.right (And.right (And.right (by assumption))) | exact And.right (And.right (And.right (And.right (by assumption)))) | exact And.right (And.right (And.right (And.right (And.right (by assumption))))) | exact And.right (And.right (And.right (And.right (And.right (And.right (by assumption)))))) | exact And.right (And.right (And.right (And.right (And.right (And.right (And.right (by assumption))))))) | exact And.right (And.right (And.right (And.right (And.right (And.right (And.right (And.right (by assumption)))))))) | exact And.right (And.right (And.right (And.right (And.right (And.right (And.right (And.right (And.right (by assumption)))))))))))); done) | (simp only [go_sem, decide_true, decide_false, Nat.lt_irrefl, hk2, List.take_zero, h1, h2, List.length_nil]; done) | (simp only [go_sem, decide_true, decide_false, Nat.lt_irrefl, hk2, List.take_zero, h1, h2, List.length_nil]; rfl) | rfl)
  · rintro i ⟨loc1, loc2⟩ hi ih
    have q := wi_succ (show i < 4611686018427387904 by omega)
    have n1 := splO_len f (l.take i)
    have n2 := splS_len f (l.take i)
    rw [List.length_take] at n1 n2
    have s1 := splO_snoc f l i hi
    have s2 := splS_snoc f l i hi
    refine AWPH.step (xc_ok (bitB 2101747) _ _ _ ?_)
    by_cases c : (l[i]).t ≤ f
    · rw [if_pos c] at s1 s2
      have hm : (splO f (l.take i)).map Event.pv ++ [[.int .u64 (l[i]).t, .int .u64 (l[i]).k, .int .u64 (l[i]).w]] = (splO f (l.take (i + 1))).map Event.pv := by rw [s1, List.map_append]; rfl
      have hn : (splO f (l.take (i + 1))).length = (splO f (l.take i)).length + 1 := by rw [s1]; simp
      simp only [go_sem, decide_true, decide_false, Nat.lt_irrefl, hi, ltN' hi, getD_map' _ _ _ _ hi, c, hk2]
      refine ⟨by rintro el rfl; rfl, evn_len, by omega, by omega, grow_intro fun loc' => ?_⟩
      simp only [go_sem, decide_true, decide_false, Nat.lt_irrefl, hk2, hm]
      refine (ih (loc', loc2)).back ?_ (by simp) ?_
      · ((try dsimp only); (repeat refine sub_set ?_ ?_) <;> first | ((repeat (first | exact Sub.refl _ | refine Sub.setF ?_ (by first | assumption | exact And.right (by assumption) | exact And.right (And.right (by assumption)) | exact And.right (And.right (And.right (by assumption))) | exact And.right (And.right (And.right (And.right (by assumption)))) | exact And.right (And.right (And.right (And.right (And.right (by assumption))))) | exact And.right (And.right (And.right (And.right (And.right (And.right (by assumption)))))) | exact And.right (And.right (And.right (And.right (And.right (And.right (And.right (by assumption))))))) | exact And.right (And.right (And.right (And.right (And.right (And.right (And.right (And.right (by assumption)))))))) | exact And.right (And.right (And.right (And.right (And.right (And.right (And.right (And.right (And.right (by assumption)))))))))) | refine Sub.setV ?_ (by first | assumption | exact And.right (by assumption) | exact And.right (And.right (by assumption)) | exact And.right (And.right (And.right (by assumption))) | exact And.right (And.right (And.right (And.right (by assumption)))) | exact And.right (And.right (And.right (And.right (And.right (by assumption))))) | exact And.right (And.right (And.right (And.right (And.right (And.right (by assumption)))))) | exact And.right (And.right (And.right (And.right (And.right (And.right (And.right (by assumption))))))) | exact And.right (And.right (And.right (And.right (And.right (And.right (And.right (And.right (by assumption)))))))) | exact And.right (And.right (And.right (And.right (And.right (And.right (And.right (And.right (And.right (by assumption)))))))))))); done) | (simp only [go_sem, decide_true, decide_false, Nat.lt_irrefl, hk2, hm, hn, s2, List.length_map]; done) | (simp only [go_sem, decide_true, decide_false, Nat.lt_irrefl, hk2, hm, hn, s2, List.length_map]; rfl) | rfl)
      · simp only [go_sem, decide_true, decide_false, Nat.lt_irrefl, q, s2, hm]
    · rw [if_neg c] at s1 s2
      have hm : (splS f (l.take i)).map Event.pv ++ [[.int .u64 (l[i]).t, .int .u64 (l[i]).k, .int .u64 (l[i]).w]] = (splS f (l.take (i + 1))).map Event.pv := by rw [s2, List.map_append]; rfl
      have hn : (splS f (l.take (i + 1))).length = (splS f (l.take i)).length + 1 := by rw [s2]; simp
      simp only [go_sem, decide_true, decide_false, Nat.lt_irrefl, hi, ltN' hi, getD_map' _ _ _ _ hi, c, hk2]
      refine ⟨by rintro el rfl; rfl, evn_len, by omega, by omega, grow_intro fun loc' => ?_⟩
      simp only [go_sem, decide_true, decide_false, Nat.lt_irrefl, hk2, hm]
      refine (ih (loc1, loc')).back ?_ (by simp) ?_
      · ((try dsimp only); (repeat refine sub_set ?_ ?_) <;> first | ((repeat (first | exact Sub.refl _ | refine Sub.setF ?_ (by first | assumption | exact And.right (by assumption) | exact And.right (And.right (by assumption)) | exact And.right (And.right (And.right (by assumption))) | exact And.right (And.right (And.right (And.right (by assumption)))) | exact And.right (And.right (And.right (And.right (And.right (by assumption))))) | exact And.right (And.right (And.right (And.right (And.right (And.right (by assumption)))))) | exact And.right (And.right (And.right (And.right (And.right (And.right (And.right (by assumption))))))) | exact And.right (And.right (And.right (And.right (And.right (And.right (And.right (And.right (by assumption)))))))) | exact And.right (And.right (And.right (And.right (And.right (And.right (And.right (And.right (And.right (by assumption)))))))))) | refine Sub.setV ?_ (by first | assumption | exact And.right (by assumption) | exact And.right (And.right (by assumption)) | exact And.right (And.right (And.right (by assumption))) | exact And.right (And.right (And.right (And.right (by assumption)))) | exact And.right (And.right (And.right (And.right (And.right (by assumption))))) | exact And.right (And.right (And.right (And.right (And.right (And.right (by assumption)))))) | exact And.right (And.right (And.right (And.right (And.right (And.right (And.right (by assumption))))))) | exact And.right (And.right (And.right (And.right (And.right (And.right (And.right (And.right (by assumption)))))))) | exact And.right (And.right (And.right (And.right (And.right (And.right (And.right (And.right (And.right (by assumption)))))))))))); done) | (simp only [go_sem, decide_true, decide_false, Nat.lt_irrefl, hk2, hm, hn, s1, List.length_map]; done) | (simp only [go_sem, decide_true, decide_false, Nat.lt_irrefl, hk2, hm, hn, s1, List.length_map]; rfl) | rfl)
      · simp only [go_sem, decide_true, decide_false, Nat.lt_irrefl, q, s1, hm]
  · rintro ⟨loc1, loc2⟩
    refine AWPH.step (xc_ok (bitB 2101747) _ _ _ ?_)
    simp only [go_sem, decide_true, decide_false, Nat.lt_irrefl, List.take_length]
    exact ⟨_, Sub.refl _, Or.inr ⟨k1, k2, loc1, loc2, hk1, hk2.2, ⟨hk2.1.1, hk2.1.2⟩, rfl, rfl⟩⟩
end Go.Sk
end

-- W12b
section
namespace Go.Sk
open Go Go.Proofs

structure Buf.Sz (b : Buf) : Prop where
  r : 0 ≤ b.room
  m : b.mark < 18446744073709551616
  n : b.evs.length < 1073741824
set_option maxHeartbeats 1000000 in
set_option maxRecDepth 4000 in
theorem buf_settle (b : Buf) (hb : b.Sz) : Pure Try.prog 55 [b.av] (.tuple [(settleB b).1.av, .p (evsP (settleB b).2)]) := fun S => by
  obtain ⟨late, rm, mark, front, evs⟩ := b
  have hn := hb.n
  have hr := hb.r
  have hm := hb.m
  dsimp only at hn hr hm
  clear hb
  obtain ⟨room, rfl⟩ : ∃ room : Nat, rm = room := ⟨rm.toNat, by omega⟩
  refine callR_of Try.func55 rfl rfl (xc_ok (bitB 4294968383) _ _ _ ?_)
  simp only [go_sem, decide_true, decide_false, Nat.lt_irrefl]
  refine alloc_intro fun c1 h1 => ?_
  simp only [go_sem, decide_true, decide_false, Nat.lt_irrefl]
  refine alloc_intro fun c2 h2 => ?_
  simp only [fresh_set] at h2
  have y1 : S (.r c1) = none := h1
  have y2 : S (.r c2) = none := h2.2
  obtain ⟨f0, hf0⟩ : ∃ f0, max front (mark - late) = f0 := ⟨_, rfl⟩
  have hres : settleB ⟨late, room, mark, front, evs⟩ = (⟨late, room, mark, (settleN room evs f0).1, evs.drop (settleN room evs f0).2⟩, evs.take (settleN room evs f0).2) := by
    unfold settleB; dsimp only; rw [hf0, Int.toNat_natCast]
  rw [hres]
  by_cases cm : late < mark
  have e1 : sub64 mark late = mark - late := sub64_le hm (by omega)
  simp only [go_sem, decide_true, decide_false, Nat.lt_irrefl, cm, h2, e1]
  refine (latest_two front (mark - late)).useA ?_
  rw [hf0]
  simp only [go_sem, decide_true, decide_false, Nat.lt_irrefl, h2]
  refine (below ⟨late, room, mark, f0, evs⟩ f0 (by dsimp only; omega)).useA ?_
  simp only [go_sem, decide_true, decide_false, Nat.lt_irrefl, h2]
  rotate_left
  have e0 : f0 = front := by omega
  simp only [go_sem, decide_true, decide_false, Nat.lt_irrefl, cm, h2]
  refine (below ⟨late, room, mark, front, evs⟩ front (by dsimp only; omega)).useA ?_
  rw [← e0]
  simp only [go_sem, decide_true, decide_false, Nat.lt_irrefl, h2]
  all_goals
    refine AWP.roam (ι := Nat) (fun f => settleN room evs f = settleN room evs f0)
      (fun f => ⟨Env.get [(1, .sp c1 0), (2, .sp c2 0), (4, i64 (belowN f evs))], (S.set (.r c1) (.cells [u64 late, i64 room, u64 mark, u64 f, .p (.sl (evs.map Event.pv))])).set (.r c2) (.cells [u64 0, i64 0, u64 0, u64 0, .nils]), 57, []⟩) (fun f => evs.length - belowN f evs) f0 rfl ?_ ?_
    · refine le_of (by simp only [go_sem, decide_true, decide_false, Nat.lt_irrefl] <;> simp) ?_ rfl rfl (by simp)
      ((try dsimp only); (repeat refine sub_set ?_ ?_) <;> first | ((repeat (first | exact Sub.refl _ | refine Sub.setF ?_ (by first | assumption | exact And.right (by assumption) | exact And.right (And.right (by assumption)) | exact And.right (And.right (And.right (by assumption))) | exact And.right (And.right (And.right (And.right (by assumption)))) | exact And.right (And.right (And.right (And.right (And.right (by assumption))))) | exact And.right (And.right (And.right (And.right (And.right (And.right (by assumption)))))) | exact And.right (And.right (And.right (And.right (And.right (And.right (And.right (by assumption))))))) | exact And.right (And.right (And.right (And.right (And.right (And.right (And.right (And.right (by assumption)))))))) | exact And.right (And.right (And.right (And.right (And.right (And.right (And.right (And.right (And.right (by assumption)))))))))) | refine Sub.setV ?_ (by first | assumption | exact And.right (by assumption) | exact And.right (And.right (by assumption)) | exact And.right (And.right (And.right (by assumption))) | exact And.right (And.right (And.right (And.right (by assumption)))) | exact And.right (And.right (And.right (And.right (And.right (by assumption))))) | exact And.right (And.right (And.right (And.right (And.right (And.right (by assumption)))))) | exact And.right (And.right (And.right (And.right (And.right (And.right (And.right (by assumption))))))) | exact And.right (And.right (And.right (And.right (And.right (And.right (And.right (And.right (by assumption)))))))) | exact And.right (And.right (And.right (And.right (And.right (And.right (And.right (And.right (And.right (by assumption)))))))))))); done) | (simp only [go_sem, decide_true, decide_false, Nat.lt_irrefl, h2]; done) | (simp only [go_sem, decide_true, decide_false, Nat.lt_irrefl, h2]; rfl) | rfl)
      done
    intro f hf ih
    have hle := belowN_le f evs
    refine AWPH.step (xc_ok (bitB 4294968383) _ _ _ ?_)
    have hsub : wi ((evs.length : Int) - (belowN f evs : Int)) = ((evs.length - belowN f evs : Nat) : Int) := by rw [wi_id (by omega) (by omega)]; omega
    by_cases c : room < evs.length - belowN f evs
    · have hlt : belowN f evs < evs.length := by omega
      have hmore := belowN_more f evs hlt
      have hgo := settleN_go c
      simp only [go_sem, decide_true, decide_false, Nat.lt_irrefl, h2, hsub, c, hlt, ltN' hlt, getD_map' _ _ _ _ hlt, List.length_map]
      refine (below ⟨late, room, mark, (evs[belowN f evs]).t, evs⟩ (evs[belowN f evs]).t (by dsimp only; omega)).useA ?_
      simp only [go_sem, decide_true, decide_false, Nat.lt_irrefl, h2]
      refine (ih (evs[belowN f evs]).t (by rw [← hgo]; exact hf) (by omega)).back ?_ (by simp) ?_
      · ((try dsimp only); (repeat refine sub_set ?_ ?_) <;> first | ((repeat (first | exact Sub.refl _ | refine Sub.setF ?_ (by first | assumption | exact And.right (by assumption) | exact And.right (And.right (by assumption)) | exact And.right (And.right (And.right (by assumption))) | exact And.right (And.right (And.right (And.right (by assumption)))) | exact And.right (And.right (And.right (And.right (And.right (by assumption))))) | exact And.right (And.right (And.right (And.right (And.right (And.right (by assumption)))))) | exact And.right (And.right (And.right (And.right (And.right (And.right (And.right (by assumption))))))) | exact And.right (And.right (And.right (And.right (And.right (And.right (And.right (And.right (by assumption)))))))) | exact And.right (And.right (And.right (And.right (And.right (And.right (And.right (And.right (And.right (by assumption)))))))))) | refine Sub.setV ?_ (by first | assumption | exact And.right (by assumption) | exact And.right (And.right (by assumption)) | exact And.right (And.right (And.right (by assumption))) | exact And.right (And.right (And.right (And.right (by assumption)))) | exact And.right (And.right (And.right (And.right (And.right (by assumption))))) | exact And.right (And.right (And.right (And.right (And.right (And.right (by assumption)))))) | exact And.right (And.right (And.right (And.right (And.right (And.right (And.right (by assumption))))))) | exact And.right (And.right (And.right (And.right (And.right (And.right (And.right (And.right (by assumption)))))))) | exact And.right (And.right (And.right (And.right (And.right (And.right (And.right (And.right (And.right (by assumption)))))))))))); done) | (simp only [go_sem, decide_true, decide_false, Nat.lt_irrefl, h2]; done) | (simp only [go_sem, decide_true, decide_false, Nat.lt_irrefl, h2]; rfl) | rfl)
      · simp only [go_sem, decide_true, decide_false, Nat.lt_irrefl] <;> simp
    · have hen := settleN_end c
      rw [hen] at hf
      rw [← hf]
      have e5 : List.take (belowN f evs - 0) (List.map Event.pv evs) = List.map Event.pv (evs.take (belowN f evs)) := by rw [Nat.sub_zero, List.map_take]
      have e6 : List.take (evs.length - belowN f evs) (List.drop (belowN f evs) (List.map Event.pv evs)) = List.map Event.pv (evs.drop (belowN f evs)) := by
        rw [← List.map_drop]; exact List.take_of_length_le (by simp)
      simp only [go_sem, decide_true, decide_false, Nat.lt_irrefl, h2, hsub, c, List.length_map, e5, e6]
      refine ⟨evn_len, hle, evn_len, hle, ?_⟩
      refine AWP.draw2 (bitB 4294968383) mixed (by kernel_rfl) (fun j => .p (evsP (evs.take (belowN f evs)))) ?_
      simp only [go_sem, decide_true, decide_false, Nat.lt_irrefl, h2, evsP]
      refine ⟨(clone_ev (evs.take (belowN f evs)) (by rw [List.length_take]; omega)).draw, S, ?_, ?_⟩
      · exact Sub.set (Sub.set (Sub.set (Sub.set (Sub.refl _) y1 _) y2 _) y1 _) y2 _
      · simp
end Go.Sk
end

-- W12g
section
namespace Go.Sk
open Go Go.Proofs

theorem docS_stop {room f : Nat} {out stay : List Event} (h : ¬ room < stay.length) : docS room f out stay = (f, out, stay) := by
  cases stay with
  | nil => rw [docS]
  | cons e l => rw [docS, if_neg h]
theorem docS_go {room f : Nat} {out l : List Event} {e : Event} (h : room < (e :: l).length) : docS room f out (e :: l) = docS room e.t (out ++ splO e.t (e :: l)) (splS e.t (e :: l)) := by
  rw [docS, if_pos h]
theorem spl_len (f : Nat) (l : List Event) : (splO f l).length + (splS f l).length = l.length := by
  induction l with
  | nil => rfl
  | cons e l ih =>
    unfold splO splS at *
    by_cases c : e.t ≤ f
    · rw [List.filter_cons_of_pos (by simpa using c), List.filter_cons_of_neg (by simp; exact c)]; simp only [List.length_cons]; omega
    · rw [List.filter_cons_of_neg (by simpa using c), List.filter_cons_of_pos (by simp; omega)]; simp only [List.length_cons]; omega
set_option maxHeartbeats 2000000 in
set_option maxRecDepth 8000 in
theorem ref12_settle (b : Buf) (hb : b.Sz) (hs : Srt b.evs) : Pure Try.prog 68 [b.av] (.tuple [(settleB b).1.av, .p (evsP (settleB b).2)]) := fun S => by
  obtain ⟨late, rm, mark, front, evs⟩ := b
  have hn := hb.n
  have hr := hb.r
  have hm := hb.m
  dsimp only at hn hr hm hs
  clear hb
  obtain ⟨room, rfl⟩ : ∃ room : Nat, rm = room := ⟨rm.toNat, by omega⟩
  refine callR_of Try.func68 rfl rfl (xc_ok (bitB 2199027450111) _ _ _ ?_)
  simp only [go_sem, decide_true, decide_false, Nat.lt_irrefl]
  refine alloc_intro fun c1 h1 => ?_
  simp only [go_sem, decide_true, decide_false, Nat.lt_irrefl]
  refine alloc_intro fun c2 h2 => ?_
  simp only [fresh_set] at h2
  have y1 : S (.r c1) = none := h1
  have y2 : S (.r c2) = none := h2.2
  have n21 : ¬ c2 = c1 ∧ ¬ c1 = c2 := h2.1
  obtain ⟨f0, hf0⟩ : ∃ f0, max front (mark - late) = f0 := ⟨_, rfl⟩
  obtain ⟨p1, p2⟩ := spl_eq f0 evs hs
  have hdoc := docS_eq room evs hs f0
  rw [← p1, ← p2] at hdoc
  have hpl := spl_len f0 evs
  have hres : settleB ⟨late, room, mark, front, evs⟩ = (⟨late, room, mark, (settleN room evs f0).1, evs.drop (settleN room evs f0).2⟩, evs.take (settleN room evs f0).2) := by
    unfold settleB; dsimp only; rw [hf0, Int.toNat_natCast]
  rw [hres]
  generalize settleN room evs f0 = R at *
  clear hres p1 p2
  by_cases cm : late ≤ mark
  have e1 : sub64 mark late = mark - late := sub64_le hm cm
  by_cases cf : front < mark - late
  have e0 : f0 = mark - late := by omega
  simp only [go_sem, decide_true, decide_false, Nat.lt_irrefl, cm, h2, e1, cf]
  rw [← e0]
  refine (ref12_split evs f0 hn _).useA ?_
  rotate_left
  have e0 : f0 = front := by omega
  simp only [go_sem, decide_true, decide_false, Nat.lt_irrefl, cm, h2, e1, cf]
  rw [← e0]
  refine (ref12_split evs f0 hn _).useA ?_
  rotate_left
  have e0 : f0 = front := by omega
  simp only [go_sem, decide_true, decide_false, Nat.lt_irrefl, cm, h2]
  rw [← e0]
  refine (ref12_split evs f0 hn _).useA ?_
  all_goals
    rintro _ _ ⟨k1, k2, loc1, loc2, hk1, hk2, hkk, rfl, rfl⟩
    simp only [freshv_setr] at hk1 hk2
    simp only [go_sem, decide_true, decide_false, Nat.lt_irrefl, n21, hkk]
    have z1 : S (.v k1) = none := hk1
    have z2 : S (.v k2) = none := hk2
    refine AWP.roam (ι := Nat × List Event × List Event × Nat × Option Nat × Option Nat) (fun x => docS room x.1 x.2.1 x.2.2.1 = (R.1, evs.take R.2, evs.drop R.2) ∧ (¬ x.2.2.2.1 = k1 ∧ ¬ k1 = x.2.2.2.1) ∧ S (.v x.2.2.2.1) = none ∧ x.2.1.length + x.2.2.1.length ≤ evs.length)
      (fun x => ⟨Env.get [(1, .sp c1 0), (2, .sp c2 0), (4, .ts k1 3 x.2.2.2.2.1 (x.2.1.map Event.pv)), (5, .ts x.2.2.2.1 3 x.2.2.2.2.2 (x.2.2.1.map Event.pv))],
        (((S.set (.r c1) (.cells [u64 late, i64 room, u64 mark, u64 x.1, .p (.sl (evs.map Event.pv))])).set (.r c2) (.cells [u64 0, i64 0, u64 0, u64 0, .nils])).set (.v k1) (.tip 3 x.2.1.length x.2.2.2.2.1)).set (.v x.2.2.2.1) (.tip 3 x.2.2.1.length x.2.2.2.2.2), 62, []⟩)
      (fun x => x.2.2.1.length) (f0, splO f0 evs, splS f0 evs, k2, loc1, loc2) ⟨hdoc, ⟨hkk.1, hkk.2⟩, z2, by dsimp only; omega⟩ ?_ ?_
    · refine le_of (by simp only [go_sem, decide_true, decide_false, Nat.lt_irrefl] <;> rfl) ?_ rfl rfl (by simp)
      ((try dsimp only); (repeat refine sub_set ?_ ?_) <;> first | ((repeat (first | exact Sub.refl _ | refine Sub.setF ?_ (by first | assumption | exact And.right (by assumption) | exact And.right (And.right (by assumption)) | exact And.right (And.right (And.right (by assumption))) | exact And.right (And.right (And.right (And.right (by assumption)))) | exact And.right (And.right (And.right (And.right (And.right (by assumption))))) | exact And.right (And.right (And.right (And.right (And.right (And.right (by assumption)))))) | exact And.right (And.right (And.right (And.right (And.right (And.right (And.right (by assumption))))))) | exact And.right (And.right (And.right (And.right (And.right (And.right (And.right (And.right (by assumption)))))))) | exact And.right (And.right (And.right (And.right (And.right (And.right (And.right (And.right (And.right (by assumption)))))))))) | refine Sub.setV ?_ (by first | assumption | exact And.right (by assumption) | exact And.right (And.right (by assumption)) | exact And.right (And.right (And.right (by assumption))) | exact And.right (And.right (And.right (And.right (by assumption)))) | exact And.right (And.right (And.right (And.right (And.right (by assumption))))) | exact And.right (And.right (And.right (And.right (And.right (And.right (by assumption)))))) | exact And.right (And.right (And.right (And.right (And.right (And.right (And.right (by assumption))))))) | exact And.right (And.right (And.right (And.right (And.right (And.right (And.right (And.right (by assumption)))))))) | exact And.right (And.right (And.right (And.right (And.right (And.right (And.right (And.right (And.right (by assumption)))))))))))); done) | (simp only [go_sem, decide_true, decide_false, Nat.lt_irrefl, n21, hkk]; done) | (simp only [go_sem, decide_true, decide_false, Nat.lt_irrefl, n21, hkk]; rfl) | rfl)
    rintro ⟨f, out, stay, k2', loc1', loc2'⟩ ⟨hd, hne, z2', hln⟩ ih
    dsimp only at hd hne z2' hln ⊢
    refine AWPH.step (xc_ok (bitB 2199027450111) _ _ _ ?_)
    by_cases c : room < stay.length
    rotate_left
    · have hst := docS_stop (f := f) (out := out) c
      rw [hst] at hd
      injection hd with d1 d2
      injection d2 with d2 d3
      simp only [go_sem, decide_true, decide_false, Nat.lt_irrefl, n21, hne, c, List.length_map]
      refine ⟨S, ?_, ?_⟩
      · repeat' first
          | exact Sub.refl _
          | refine Sub.set ?_ (by assumption) _
      · simp [evsP, d1, d2, d3]
    · cases stay with
      | nil => simp at c
      | cons e l =>
        have hgo := docS_go (f := f) (out := out) c
        rw [hgo] at hd
        have c' : room < l.length + 1 := by simpa using c
        have hsl := spl_len e.t (e :: l)
        have hsh := splS_head e l
        simp only [go_sem, decide_true, decide_false, Nat.lt_irrefl, n21, hne, c', List.length_map, List.length_cons, List.map_cons]
        refine (ref12_split (e :: l) e.t (by omega) _).useA ?_
        rintro _ _ ⟨k3, k4, loc3, loc4, hk3, hk4, h34, rfl, rfl⟩
        simp only [freshv_setr, freshv_set] at hk3 hk4
        obtain ⟨O, hO⟩ : ∃ O, splO e.t (e :: l) = O := ⟨_, rfl⟩
        obtain ⟨T, hT⟩ : ∃ T, splS e.t (e :: l) = T := ⟨_, rfl⟩
        rw [hO, hT] at hsl hd
        rw [hT] at hsh
        simp only [hO, hT]
        simp only [go_sem, decide_true, decide_false, Nat.lt_irrefl, n21, hne, hk3, hk4, h34]
        refine ⟨evn_len, evn_len, by simp only [List.length_map, List.length_cons] at *; omega, by simp only [List.length_map, List.length_cons] at *; omega, grow_intro fun loc' => ?_⟩
        have hap : out.map Event.pv ++ O.map Event.pv = (out ++ O).map Event.pv := by rw [List.map_append]
        simp only [go_sem, decide_true, decide_false, Nat.lt_irrefl, n21, hne, hk3, hk4, h34, hap]
        refine (ih (e.t, out ++ O, T, k4, loc', loc4) ⟨hd, ⟨hk4.2.1.1, hk4.2.1.2⟩, hk4.2.2, by simp only [List.length_append, List.length_cons] at *; omega⟩ hsh).back ?_ (by simp) ?_
        · ((try dsimp only); (repeat refine sub_set ?_ ?_) <;> first | ((repeat (first | exact Sub.refl _ | refine Sub.setF ?_ (by first | assumption | exact And.right (by assumption) | exact And.right (And.right (by assumption)) | exact And.right (And.right (And.right (by assumption))) | exact And.right (And.right (And.right (And.right (by assumption)))) | exact And.right (And.right (And.right (And.right (And.right (by assumption))))) | exact And.right (And.right (And.right (And.right (And.right (And.right (by assumption)))))) | exact And.right (And.right (And.right (And.right (And.right (And.right (And.right (by assumption))))))) | exact And.right (And.right (And.right (And.right (And.right (And.right (And.right (And.right (by assumption)))))))) | exact And.right (And.right (And.right (And.right (And.right (And.right (And.right (And.right (And.right (by assumption)))))))))) | refine Sub.setV ?_ (by first | assumption | exact And.right (by assumption) | exact And.right (And.right (by assumption)) | exact And.right (And.right (And.right (by assumption))) | exact And.right (And.right (And.right (And.right (by assumption)))) | exact And.right (And.right (And.right (And.right (And.right (by assumption))))) | exact And.right (And.right (And.right (And.right (And.right (And.right (by assumption)))))) | exact And.right (And.right (And.right (And.right (And.right (And.right (And.right (by assumption))))))) | exact And.right (And.right (And.right (And.right (And.right (And.right (And.right (And.right (by assumption)))))))) | exact And.right (And.right (And.right (And.right (And.right (And.right (And.right (And.right (And.right (by assumption)))))))))))); done) | (simp only [go_sem, decide_true, decide_false, Nat.lt_irrefl, n21, hne, hk3, hk4, h34, hap, List.length_map]; done) | (simp only [go_sem, decide_true, decide_false, Nat.lt_irrefl, n21, hne, hk3, hk4, h34, hap, List.length_map]; rfl) | rfl)
        · simp only [go_sem, decide_true, decide_false, Nat.lt_irrefl] <;> rfl
end Go.Sk
end

-- W12h
section
namespace Go.Sk
open Go Go.Proofs

set_option maxHeartbeats 1000000 in
set_option maxRecDepth 4000 in
theorem ref12_Push (b : Buf) (hb : b.Sz) (hn : b.evs.length < 1048576) (hs : Srt b.evs) (e : Event) : Pure Try.prog 49 [b.av, e.av] (.tuple [(pushB b e).1.1.av, .p (evsP (pushB b e).1.2), i64 (pushB b e).2]) := fun S => by
  have hm := hb.m
  have hr := hb.r
  refine callR_of Try.func49 rfl rfl (xc_ok (bitB 4333567) _ _ _ ?_)
  simp only [go_sem, decide_true, decide_false, Nat.lt_irrefl]
  refine alloc_intro fun c2 h2 => ?_
  simp only [go_sem, decide_true, decide_false, Nat.lt_irrefl]
  refine alloc_intro fun c3 h3 => ?_
  simp only [fresh_set] at h3
  simp only [go_sem, decide_true, decide_false, Nat.lt_irrefl, h3]
  refine alloc_intro fun c4 h4 => ?_
  simp only [fresh_set] at h4
  have y2 : S (.r c2) = none := h2
  have y3 : S (.r c3) = none := h3.2
  have y4 : S (.r c4) = none := h4.2.2
  by_cases c1 : e.w = 0
  · have q1 : (e.w == 0) = true := by simpa using c1
    simp only [go_sem, decide_true, decide_false, Nat.lt_irrefl, q1, h3, h4]
    (refine ⟨S, by (repeat (first | exact Sub.refl _ | refine Sub.setF ?_ (by first | assumption | exact And.right (by assumption) | exact And.right (And.right (by assumption)) | exact And.right (And.right (And.right (by assumption))) | exact And.right (And.right (And.right (And.right (by assumption)))) | exact And.right (And.right (And.right (And.right (And.right (by assumption))))) | exact And.right (And.right (And.right (And.right (And.right (And.right (by assumption)))))) | exact And.right (And.right (And.right (And.right (And.right (And.right (And.right (by assumption))))))) | exact And.right (And.right (And.right (And.right (And.right (And.right (And.right (And.right (by assumption)))))))) | exact And.right (And.right (And.right (And.right (And.right (And.right (And.right (And.right (And.right (by assumption)))))))))) | refine Sub.setV ?_ (by first | assumption | exact And.right (by assumption) | exact And.right (And.right (by assumption)) | exact And.right (And.right (And.right (by assumption))) | exact And.right (And.right (And.right (And.right (by assumption)))) | exact And.right (And.right (And.right (And.right (And.right (by assumption))))) | exact And.right (And.right (And.right (And.right (And.right (And.right (by assumption)))))) | exact And.right (And.right (And.right (And.right (And.right (And.right (And.right (by assumption))))))) | exact And.right (And.right (And.right (And.right (And.right (And.right (And.right (And.right (by assumption)))))))) | exact And.right (And.right (And.right (And.right (And.right (And.right (And.right (And.right (And.right (by assumption)))))))))))), ?_⟩); simp [pushB, c1, zeroB, evsP]
  have q1 : (e.w == 0) = false := by simpa using c1
  by_cases c2' : 9223372036854775807 < e.t
  · simp only [go_sem, decide_true, decide_false, Nat.lt_irrefl, q1, c2', h3, h4]
    (refine ⟨S, by (repeat (first | exact Sub.refl _ | refine Sub.setF ?_ (by first | assumption | exact And.right (by assumption) | exact And.right (And.right (by assumption)) | exact And.right (And.right (And.right (by assumption))) | exact And.right (And.right (And.right (And.right (by assumption)))) | exact And.right (And.right (And.right (And.right (And.right (by assumption))))) | exact And.right (And.right (And.right (And.right (And.right (And.right (by assumption)))))) | exact And.right (And.right (And.right (And.right (And.right (And.right (And.right (by assumption))))))) | exact And.right (And.right (And.right (And.right (And.right (And.right (And.right (And.right (by assumption)))))))) | exact And.right (And.right (And.right (And.right (And.right (And.right (And.right (And.right (And.right (by assumption)))))))))) | refine Sub.setV ?_ (by first | assumption | exact And.right (by assumption) | exact And.right (And.right (by assumption)) | exact And.right (And.right (And.right (by assumption))) | exact And.right (And.right (And.right (And.right (by assumption)))) | exact And.right (And.right (And.right (And.right (And.right (by assumption))))) | exact And.right (And.right (And.right (And.right (And.right (And.right (by assumption)))))) | exact And.right (And.right (And.right (And.right (And.right (And.right (And.right (by assumption))))))) | exact And.right (And.right (And.right (And.right (And.right (And.right (And.right (And.right (by assumption)))))))) | exact And.right (And.right (And.right (And.right (And.right (And.right (And.right (And.right (And.right (by assumption)))))))))))), ?_⟩); simp [pushB, c1, c2', zeroB, evsP]
  by_cases c3' : e.t < b.front
  · simp only [go_sem, decide_true, decide_false, Nat.lt_irrefl, q1, c2', c3', h3, h4]
    (refine ⟨S, by (repeat (first | exact Sub.refl _ | refine Sub.setF ?_ (by first | assumption | exact And.right (by assumption) | exact And.right (And.right (by assumption)) | exact And.right (And.right (And.right (by assumption))) | exact And.right (And.right (And.right (And.right (by assumption)))) | exact And.right (And.right (And.right (And.right (And.right (by assumption))))) | exact And.right (And.right (And.right (And.right (And.right (And.right (by assumption)))))) | exact And.right (And.right (And.right (And.right (And.right (And.right (And.right (by assumption))))))) | exact And.right (And.right (And.right (And.right (And.right (And.right (And.right (And.right (by assumption)))))))) | exact And.right (And.right (And.right (And.right (And.right (And.right (And.right (And.right (And.right (by assumption)))))))))) | refine Sub.setV ?_ (by first | assumption | exact And.right (by assumption) | exact And.right (And.right (by assumption)) | exact And.right (And.right (And.right (by assumption))) | exact And.right (And.right (And.right (And.right (by assumption)))) | exact And.right (And.right (And.right (And.right (And.right (by assumption))))) | exact And.right (And.right (And.right (And.right (And.right (And.right (by assumption)))))) | exact And.right (And.right (And.right (And.right (And.right (And.right (And.right (by assumption))))))) | exact And.right (And.right (And.right (And.right (And.right (And.right (And.right (And.right (by assumption)))))))) | exact And.right (And.right (And.right (And.right (And.right (And.right (And.right (And.right (And.right (by assumption)))))))))))), ?_⟩); simp [pushB, c1, c2', c3', zeroB, evsP]
  have hres : pushB b e = (settleB ⟨b.late, b.room, max b.mark e.t, b.front, insE b.evs e⟩, 0) := by unfold pushB; rw [if_neg c1, if_neg c2', if_neg c3']
  rw [hres]
  have hst := ref12_settle ⟨b.late, b.room, max b.mark e.t, b.front, insE b.evs e⟩ ⟨hr, by dsimp only; omega, by dsimp only; rw [insE_len]; omega⟩ (insE_srt hs e)
  have hil := insE_len b.evs e
  obtain ⟨p1, p2⟩ := spl_eq e.t b.evs hs
  have hie : splO e.t b.evs ++ [e] ++ splS e.t b.evs = insE b.evs e := by rw [p1, p2]; rfl
  have hpl := spl_len e.t b.evs
  generalize settleB ⟨b.late, b.room, max b.mark e.t, b.front, insE b.evs e⟩ = R at *
  have hmx : (if b.mark < e.t then ((e.t : Nat) : Int) else ((b.mark : Nat) : Int)) = ((max b.mark e.t : Nat) : Int) := by split <;> omega
  simp only [go_sem, decide_true, decide_false, Nat.lt_irrefl, q1, c2', c3', h3, h4]
  simp only [hmx]
  refine (ref12_split b.evs e.t (by omega) _).useA ?_
  rintro _ _ ⟨k1, k2, loc1, loc2, hk1, hk2, hkk, rfl, rfl⟩
  simp only [freshv_setr] at hk1 hk2
  have z1 : S (.v k1) = none := hk1
  have z2 : S (.v k2) = none := hk2
  obtain ⟨O, hO⟩ : ∃ O, splO e.t b.evs = O := ⟨_, rfl⟩
  obtain ⟨T, hT⟩ : ∃ T, splS e.t b.evs = T := ⟨_, rfl⟩
  rw [hO, hT] at hpl hie
  simp only [hO, hT]
  simp only [go_sem, decide_true, decide_false, Nat.lt_irrefl, h3, h4, hkk]
  refine ⟨evn_len, by omega, by omega, tip_intro fun k3 loc3 hk3 => ?_⟩
  simp only [freshv_setr, freshv_set] at hk3
  have z3 : S (.v k3) = none := hk3.2.2
  simp only [go_sem, decide_true, decide_false, Nat.lt_irrefl, h3, h4, hkk, hk3, List.length_map]
  refine ⟨by rintro el rfl; rfl, evn_len, by omega, by omega, grow_intro fun loc4 => ?_⟩
  have ha1 : O.map Event.pv ++ [[.int .u64 e.t, .int .u64 e.k, .int .u64 e.w]] = (O ++ [e]).map Event.pv := by rw [List.map_append]; rfl
  have ha2 : (O ++ [e]).map Event.pv ++ T.map Event.pv = (insE b.evs e).map Event.pv := by rw [← hie, ← List.map_append]
  simp only [go_sem, decide_true, decide_false, Nat.lt_irrefl, h3, h4, hkk, hk3, ha1]
  refine ⟨evn_len, evn_len, by simp only [List.length_append, List.length_singleton]; omega, by simp only [List.length_append, List.length_singleton]; omega, grow_intro fun loc5 => ?_⟩
  simp only [go_sem, decide_true, decide_false, Nat.lt_irrefl, h3, h4, hkk, hk3, ha2]
  refine hst.useA ?_
  simp only [go_sem, decide_true, decide_false, Nat.lt_irrefl, h3, h4, hkk, hk3]
  refine alloc_intro fun c10 h10 => ?_
  simp only [fresh_set, fresh_setv] at h10
  simp only [go_sem, decide_true, decide_false, Nat.lt_irrefl, h3, h4, h10]
  have y10 : S (.r c10) = none := h10.2.2.2.2.2
  refine ⟨S, ?_, ?_⟩
  · repeat' first
      | exact Sub.refl _
      | refine Sub.set ?_ (by assumption) _
  · simp [evsP]
set_option maxHeartbeats 1000000 in
set_option maxRecDepth 4000 in
theorem ref12_Move (b : Buf) (hb : b.Sz) (hs : Srt b.evs) (t : Nat) : Pure Try.prog 47 [b.av, u64 t] (.tuple [(moveB b t).1.1.av, .p (evsP (moveB b t).1.2), i64 (moveB b t).2]) := fun S => by
  have hm := hb.m
  have hr := hb.r
  have hn := hb.n
  refine callR_of Try.func47 rfl rfl (xc_ok (bitB 1527) _ _ _ ?_)
  simp only [go_sem, decide_true, decide_false, Nat.lt_irrefl]
  refine alloc_intro fun c2 h2 => ?_
  simp only [go_sem, decide_true, decide_false, Nat.lt_irrefl]
  refine alloc_intro fun c4 h4 => ?_
  simp only [fresh_set] at h4
  have y2 : S (.r c2) = none := h2
  have y4 : S (.r c4) = none := h4.2
  by_cases c1 : 9223372036854775807 < t
  · simp only [go_sem, decide_true, decide_false, Nat.lt_irrefl, c1, h4]
    (refine ⟨S, by (repeat (first | exact Sub.refl _ | refine Sub.setF ?_ (by first | assumption | exact And.right (by assumption) | exact And.right (And.right (by assumption)) | exact And.right (And.right (And.right (by assumption))) | exact And.right (And.right (And.right (And.right (by assumption)))) | exact And.right (And.right (And.right (And.right (And.right (by assumption))))) | exact And.right (And.right (And.right (And.right (And.right (And.right (by assumption)))))) | exact And.right (And.right (And.right (And.right (And.right (And.right (And.right (by assumption))))))) | exact And.right (And.right (And.right (And.right (And.right (And.right (And.right (And.right (by assumption)))))))) | exact And.right (And.right (And.right (And.right (And.right (And.right (And.right (And.right (And.right (by assumption)))))))))) | refine Sub.setV ?_ (by first | assumption | exact And.right (by assumption) | exact And.right (And.right (by assumption)) | exact And.right (And.right (And.right (by assumption))) | exact And.right (And.right (And.right (And.right (by assumption)))) | exact And.right (And.right (And.right (And.right (And.right (by assumption))))) | exact And.right (And.right (And.right (And.right (And.right (And.right (by assumption)))))) | exact And.right (And.right (And.right (And.right (And.right (And.right (And.right (by assumption))))))) | exact And.right (And.right (And.right (And.right (And.right (And.right (And.right (And.right (by assumption)))))))) | exact And.right (And.right (And.right (And.right (And.right (And.right (And.right (And.right (And.right (by assumption)))))))))))), ?_⟩); simp [moveB, c1, zeroB, evsP]
  have hres : moveB b t = (settleB ⟨b.late, b.room, max b.mark t, b.front, b.evs⟩, 0) := by unfold moveB; rw [if_neg c1]
  rw [hres]
  have hst := ref12_settle ⟨b.late, b.room, max b.mark t, b.front, b.evs⟩ ⟨hr, by dsimp only; omega, hn⟩ hs
  have hmx : (if b.mark < t then ((t : Nat) : Int) else ((b.mark : Nat) : Int)) = ((max b.mark t : Nat) : Int) := by split <;> omega
  generalize settleB ⟨b.late, b.room, max b.mark t, b.front, b.evs⟩ = R at *
  simp only [go_sem, decide_true, decide_false, Nat.lt_irrefl, c1, h4]
  simp only [hmx]
  refine hst.useA ?_
  simp only [go_sem, decide_true, decide_false, Nat.lt_irrefl, h4]
  refine alloc_intro fun c7 h7 => ?_
  simp only [fresh_set] at h7
  simp only [go_sem, decide_true, decide_false, Nat.lt_irrefl, h4, h7]
  have y7 : S (.r c7) = none := h7.2.2.2
  refine ⟨S, ?_, ?_⟩
  · repeat' first
      | exact Sub.refl _
      | refine Sub.set ?_ (by assumption) _
  · simp [evsP]
end Go.Sk
end

-- A19a
section
namespace Go.Sk

theorem inW_mono (tick span : Nat) : Mono (inW tick span) := by
  intro x y h hx
  unfold inW at *
  simp only [Bool.or_eq_true, decide_eq_true_eq] at *
  omega
theorem lo_le_hi {W : Nat → Bool} (hW : Mono W) {l : List Span} (hv : ∀ s ∈ l, s.a ≤ s.b) : lo W l ≤ hi W l :=
  List.countP_mono_left (fun s hs h => hW _ _ (hv s hs) h)
theorem loL_le_hiL {W : Nat → Bool} (hW : Mono W) : ∀ (ls : List (List Span)) (i : Nat), (∀ s ∈ flat ls, s.a ≤ s.b) → loL W i ls ≤ hiL W i ls := by
  intro ls
  induction ls with
  | nil => intro i _; exact Nat.le_refl _
  | cons l r ih =>
    intro i hv
    have h1 := Nat.mul_le_mul_right (2 ^ i) (lo_le_hi hW (l := l) (fun s hs => hv s (List.mem_append_right _ hs)))
    have h2 := ih (i + 1) (fun s hs => hv s (List.mem_append_left _ hs))
    unfold loL hiL; omega
theorem hiL_le_tot (W : Nat → Bool) : ∀ (ls : List (List Span)) (i : Nat), hiL W i ls ≤ totN i ls := by
  intro ls
  induction ls with
  | nil => intro i; exact Nat.le_refl _
  | cons l r ih =>
    intro i
    have h1 : hi W l * 2 ^ i ≤ l.length * 2 ^ i := Nat.mul_le_mul_right _ List.countP_le_length
    have h2 := ih (i + 1)
    unfold hiL totN; omega
theorem part_level (tick span i : Nat) (hi64 : i < 64) : ∀ (l : List Span), (∀ s ∈ l, s.a ≤ s.b) → ∀ p : Nat × Nat, p.1 + p.2 + l.length * 2 ^ i < 18446744073709551616 →
    partsF tick span p (l.map (fun s => (s, i))) = (p.1 + lo (inW tick span) l * 2 ^ i, p.2 + (hi (inW tick span) l - lo (inW tick span) l) * 2 ^ i) := by
  have hpow : (2 : Nat) ^ i < 18446744073709551616 := by
    have h1 : (2 : Nat) ^ i < 2 ^ 64 := Nat.pow_lt_pow_right (by decide) hi64
    have e : (2 : Nat) ^ 64 = 18446744073709551616 := by decide
    omega
  have hu : units i = 2 ^ i := by unfold units; rw [Nat.min_eq_left (by omega), Nat.one_mul, m64_id hpow]
  intro l
  induction l with
  | nil => intro _ p _; simp [partsF, lo, hi]
  | cons s t ih =>
    intro hv p hp
    have hvs := hv s (by simp)
    have hvt : ∀ s ∈ t, s.a ≤ s.b := fun s hs => hv s (by simp [hs])
    have hlh := lo_le_hi (inW_mono tick span) hvt
    rw [List.length_cons, Nat.add_mul, Nat.one_mul] at hp
    show partsF tick span (partStep tick span p (s, i)) (t.map (fun s => (s, i))) = _
    unfold partStep
    dsimp only
    rw [hu]
    unfold lo hi at ih hlh ⊢
    simp only [List.countP_cons]
    cases ha : inW tick span s.a with
    | true =>
      have hb := inW_mono tick span s.a s.b hvs ha
      rw [if_pos rfl, m64_id (by omega), ih hvt _ (by dsimp only; omega)]
      rw [hb]
      simp only [if_true, Nat.add_sub_add_right, Nat.add_mul, Nat.one_mul]
      congr 1; omega
    | false =>
      cases hb : inW tick span s.b with
      | true =>
        simp only [Bool.false_eq_true, if_false, if_true]
        rw [m64_id (by omega), ih hvt _ (by dsimp only; omega)]
        rw [Nat.add_zero, show ∀ a b : Nat, b ≤ a → a + 1 - b = (a - b) + 1 from fun a b h => by omega]
        · rw [Nat.add_mul, Nat.one_mul]; congr 1; omega
        · exact hlh
      | false =>
        simp only [Bool.false_eq_true, if_false, Nat.add_zero]
        exact ih hvt _ (by omega)
theorem parts_eq (tick span : Nat) : ∀ (ls : List (List Span)) (i : Nat), i + ls.length ≤ 64 → (∀ s ∈ flat ls, s.a ≤ s.b) → ∀ p : Nat × Nat, p.1 + p.2 + totN i ls < 18446744073709551616 →
    partsF tick span p (bucksF i ls) = (p.1 + loL (inW tick span) i ls, p.2 + (hiL (inW tick span) i ls - loL (inW tick span) i ls)) := by
  intro ls
  induction ls with
  | nil => intro i _ _ p _; simp [partsF, bucksF, loL, hiL]
  | cons l r ih =>
    intro i hi64 hv p hp
    have hvl : ∀ s ∈ l, s.a ≤ s.b := fun s hs => hv s (List.mem_append_right _ hs)
    have hvr : ∀ s ∈ flat r, s.a ≤ s.b := fun s hs => hv s (List.mem_append_left _ hs)
    rw [List.length_cons] at hi64
    unfold totN at hp
    have e : partsF tick span p (bucksF i (l :: r)) = partsF tick span (partsF tick span p (l.map (fun s => (s, i)))) (bucksF (i + 1) r) := by
      unfold partsF; rw [← List.foldl_append]; rfl
    have hlo := lo_le_hi (inW_mono tick span) hvl
    have hloL := loL_le_hiL (inW_mono tick span) r (i + 1) hvr
    have m1 : lo (inW tick span) l * 2 ^ i ≤ hi (inW tick span) l * 2 ^ i := Nat.mul_le_mul_right _ hlo
    have m2 : hi (inW tick span) l * 2 ^ i ≤ l.length * 2 ^ i := Nat.mul_le_mul_right _ List.countP_le_length
    rw [e, part_level tick span i (by omega) l hvl p (by omega), Nat.sub_mul, ih (i + 1) (by omega) hvr _ (by dsimp only; omega)]
    dsimp only
    rw [show loL (inW tick span) i (l :: r) = lo (inW tick span) l * 2 ^ i + loL (inW tick span) (i + 1) r from rfl, show hiL (inW tick span) i (l :: r) = hi (inW tick span) l * 2 ^ i + hiL (inW tick span) (i + 1) r from rfl]
    congr 1 <;> omega
/-- The estimate, in plain numbers. -/
theorem est_eq {ls : List (List Span)} (hv : ∀ s ∈ flat ls, s.a ≤ s.b) (hl : ls.length ≤ 64) (ht : totN 0 ls ≤ 4503599627370496) (tick span : Nat) :
    estV ls tick span = loL (inW tick span) 0 ls + (hiL (inW tick span) 0 ls - loL (inW tick span) 0 ls) / 2 ∧ hiL (inW tick span) 0 ls ≤ 4503599627370496 ∧ loL (inW tick span) 0 ls ≤ hiL (inW tick span) 0 ls := by
  have h1 := hiL_le_tot (inW tick span) ls 0
  have h2 := loL_le_hiL (inW_mono tick span) ls 0 hv
  refine ⟨?_, by omega, h2⟩
  unfold estV partsV
  rw [parts_eq tick span ls 0 (by omega) hv (0, 0) (by dsimp only; omega)]
  dsimp only
  rw [Nat.zero_add, Nat.zero_add, m64_id (by omega)]

end Go.Sk
end

-- A14c
section
namespace Go.Sk

noncomputable def wtT (tick span : Nat) (e : Event) : Nat := if e.t ≤ tick ∧ inW tick span e.t = true then e.w else 0
theorem within_eq (tick span : Nat) (e : Event) : withinV tick span e = true ↔ (e.t ≤ tick ∧ inW tick span e.t = true) := by
  unfold withinV inW
  simp only [Bool.and_eq_true, decide_eq_true_eq, Bool.or_eq_true, gt_iff_lt]
theorem spanV_eq (tick span : Nat) : ∀ (l : List Event) (n : Nat), n + sumE (wtT tick span) l < 18446744073709551616 → sumV (withinV tick span) Event.w n l = n + sumE (wtT tick span) l := by
  intro l
  induction l with
  | nil => intro n _; rfl
  | cons e r ih =>
    intro n h
    rw [sumE_cons] at h ⊢
    show sumV _ _ (if withinV tick span e = true then m64 (n + e.w) else n) r = _
    unfold wtT at h ⊢
    by_cases c : withinV tick span e = true
    · rw [if_pos ((within_eq tick span e).1 c)] at h ⊢
      rw [if_pos c, m64_id (by omega), ih _ (by unfold wtT; omega)]; unfold wtT; omega
    · rw [if_neg (fun h => c ((within_eq tick span e).2 h))] at h ⊢
      rw [if_neg c, ih _ (by unfold wtT; omega)]; unfold wtT; omega
theorem wtT_le (tick span : Nat) (e : Event) : wtT tick span e ≤ e.w := by unfold wtT; split <;> omega
theorem sumE_congr {f g : Event → Nat} {l : List Event} (h : ∀ e ∈ l, f e = g e) : sumE f l = sumE g l := by
  unfold sumE; rw [List.map_congr_left h]
theorem win_old {front win tick span : Nat} (h1 : front ≤ tick) (h2 : tick ≤ 9223372036854775807) (h3 : span ≤ win) : ∀ x, oldV front win x = true → inW tick span x = false := by
  intro x hx
  unfold oldV at hx
  unfold inW
  simp only [Bool.and_eq_true, decide_eq_true_eq] at hx
  rw [sub64_eq' hx.1 (by omega)] at hx
  rw [sub64_eq' (f := tick) (by omega) (by omega)]
  simp only [Bool.or_eq_false_iff, decide_eq_false_iff_not]
  omega
/-- What a query tells, in plain numbers. -/
theorem told_eq {s : Skt} (hg : s.Good) (tick span : Nat) : spanV s.b.evs tick span = sumE (wtT tick span) s.b.evs ∧ estV s.past.ls tick span + spanV s.b.evs tick span ≤ 4503599627370496 ∧
    estV s.past.ls tick span = loL (inW tick span) 0 s.past.ls + (hiL (inW tick span) 0 s.past.ls - loL (inW tick span) 0 s.past.ls) / 2 := by
  have h1 := sumE_le (wtT_le tick span) s.b.evs
  have ht := hg.tot
  have e1 : spanV s.b.evs tick span = sumE (wtT tick span) s.b.evs := by
    unfold spanV; rw [spanV_eq _ _ _ _ (by omega), Nat.zero_add]
  obtain ⟨g1, g2, g3⟩ := est_eq hg.pt.val (by have := hg.pg.len; omega) hg.pg.tot tick span
  have g4 := hiL_le_tot (inW tick span) s.past.ls 0
  refine ⟨e1, by omega, g1⟩
theorem count_bound {s : Skt} (hg : s.Good) {all : List Event} (hl : s.Led all) {tick span : Nat} (h1 : s.b.front ≤ tick) (h2 : tick ≤ 9223372036854775807) (h3 : span ≤ s.win) :
    ∃ E, estV s.past.ls tick span + spanV s.b.evs tick span = E ∧ E ≤ 4503599627370496 ∧
      (s.past.k.toNat - 1) * sumE (wtT tick span) all ≤ s.past.k.toNat * E ∧ s.past.k.toNat * E ≤ (s.past.k.toNat + 1) * sumE (wtT tick span) all := by
  obtain ⟨e1, e2, e3⟩ := told_eq hg tick span
  obtain ⟨P, l1, l2, l3⟩ := hl
  obtain ⟨b1, b2⟩ := l2 _ (inW_mono tick span) (win_old h1 h2 h3)
  have hP : sumE (wtT tick span) P = sumE (wt (inW tick span)) P := sumE_congr fun e he => by
    have := l3 e he
    unfold wtT wt
    by_cases c : inW tick span e.t = true
    · rw [if_pos ⟨by omega, c⟩, if_pos c]
    · rw [if_neg (fun h => c h.2), if_neg c]
  have hA := l1 (wtT tick span)
  rw [hP] at hA
  have hk : 2 ≤ s.past.k.toNat := by have := hg.pg.k0; omega
  obtain ⟨c1, c2⟩ := est_bound hk hg.pt _ (inW_mono tick span) b1 b2
  rw [← e3] at c1 c2
  refine ⟨_, rfl, e2, ?_, ?_⟩
  · rw [hA, e1]
    have m1 : (s.past.k.toNat - 1) * (sumE (wt (inW tick span)) P + sumE (wtT tick span) s.b.evs) = (s.past.k.toNat - 1) * sumE (wt (inW tick span)) P + (s.past.k.toNat - 1) * sumE (wtT tick span) s.b.evs := Nat.mul_add _ _ _
    have m2 : s.past.k.toNat * (estV s.past.ls tick span + sumE (wtT tick span) s.b.evs) = s.past.k.toNat * estV s.past.ls tick span + s.past.k.toNat * sumE (wtT tick span) s.b.evs := Nat.mul_add _ _ _
    have := Nat.mul_le_mul_right (sumE (wtT tick span) s.b.evs) (show s.past.k.toNat - 1 ≤ s.past.k.toNat by omega)
    omega
  · rw [hA, e1]
    have m1 : (s.past.k.toNat + 1) * (sumE (wt (inW tick span)) P + sumE (wtT tick span) s.b.evs) = (s.past.k.toNat + 1) * sumE (wt (inW tick span)) P + (s.past.k.toNat + 1) * sumE (wtT tick span) s.b.evs := Nat.mul_add _ _ _
    have m2 : s.past.k.toNat * (estV s.past.ls tick span + sumE (wtT tick span) s.b.evs) = s.past.k.toNat * estV s.past.ls tick span + s.past.k.toNat * sumE (wtT tick span) s.b.evs := Nat.mul_add _ _ _
    have := Nat.mul_le_mul_right (sumE (wtT tick span) s.b.evs) (show s.past.k.toNat ≤ s.past.k.toNat + 1 by omega)
    omega

/-- An empty one. -/
def newK (k : Int) (win late : Nat) (room : Int) : Skt := ⟨win, ⟨late, room, 0, 0, []⟩, ⟨k, 0, []⟩⟩
theorem newK_good {k : Int} {win late : Nat} {room : Int} (h1 : 2 ≤ k) (h2 : k ≤ 1024) (h3 : 1 ≤ win) (h4 : win ≤ 4611686018427387904) (h5 : late ≤ 4611686018427387904) (h6 : 1 ≤ room) (h7 : room ≤ 1024) : (newK k win late room).Good ∧ (newK k win late room).Led [] :=
  ⟨⟨h3, h4, h5, h6, h7, Nat.zero_le _, Nat.zero_le _, fun e he => (by cases he), List.Pairwise.nil, Nat.zero_le _, ⟨h1, h2, fun l hl => (by cases hl), fun l hl => (by cases hl), Nat.zero_le _⟩, empty_tidy _, fun x hx => (by cases hx), Nat.zero_le _⟩,
   ⟨[], fun f => rfl, fun W _ _ => ⟨Nat.le_refl _, Nat.le_refl _⟩, fun e he => (by cases he)⟩⟩
noncomputable def madeKo : List Event → Skt → List Event → Skt × List Event
  | [], s, all => (s, all)
  | e :: r, s, all => if (oneK s e).2 = 0 then madeKo r (oneK s e).1 (if 0 < e.w then all ++ [e] else all) else madeKo r s all
noncomputable def madeK (k : Int) (n0 n1 : Nat) (l : List Event) : Skt × List Event := madeKo (l.take 30) (newK (2 + max k 0 % 30) (1 + n0 % 1000) (n1 % 100) (1 + (n1 % 7 : Nat))) []
theorem madeKo_ok : ∀ (l : List Event) (s : Skt) (all : List Event), s.Good → s.Led all → (madeKo l s all).1.Good ∧ (madeKo l s all).1.Led (madeKo l s all).2 ∧ (madeKo l s all).1.past.k = s.past.k ∧ (madeKo l s all).1.win = s.win ∧
    (madeKo l s all).2.length ≤ all.length + l.length ∧ ((∀ e ∈ all, e.w ≤ 4503599627370496) → ∀ e ∈ (madeKo l s all).2, e.w ≤ 4503599627370496) := by
  intro l
  induction l with
  | nil => intro s all hg hl; exact ⟨hg, hl, rfl, rfl, Nat.le_refl _, fun h => h⟩
  | cons e r ih =>
    intro s all hg hl
    unfold madeKo
    by_cases c : (oneK s e).2 = 0
    · rw [if_pos c]
      obtain ⟨o1, o2, o3, o4, o5⟩ := oneK_ok hg e c
      obtain ⟨i1, i2, i3, i4, i5, i6⟩ := ih _ _ o1 (o5 all hl)
      refine ⟨i1, i2, i3.trans o2, i4.trans o3, ?_, fun h => i6 fun x hx => ?_⟩
      · refine Nat.le_trans i5 ?_
        split <;> simp <;> omega
      · split at hx
        · rcases List.mem_append.1 hx with hx | hx
          · exact h x hx
          · simp only [List.mem_singleton] at hx; subst hx; exact o4
        · exact h x hx
    · rw [if_neg c]
      obtain ⟨i1, i2, i3, i4, i5, i6⟩ := ih s all hg hl
      exact ⟨i1, i2, i3, i4, by simp only [List.length_cons]; omega, i6⟩
end Go.Sk
end

-- A14d
section
namespace Go.Sk

structure Pre (s : Skt) (out : List Event) : Prop where
  good : ∀ i, i ≤ out.length → (passV s.past (out.take i)).Good
  tidy : Tidy (passV s.past out).k.toNat (passV s.past out).ls
  len : out.length < 1048576
  w : ∀ e ∈ out, e.w < 18446744073709551616
theorem mem_sumE (f : Event → Nat) {l : List Event} {e : Event} (h : e ∈ l) : f e ≤ sumE f l := by
  induction l with
  | nil => cases h
  | cons x r ih =>
    rw [sumE_cons]
    rcases List.mem_cons.1 h with rfl | h
    · omega
    · have := ih h; omega
theorem passK_pre {s : Skt} (hg : s.Good) {b : Buf} (hb1 : b.late = s.b.late) (hb2 : b.room = s.b.room) (hb3 : b.front = s.b.front) (hb4 : s.b.mark ≤ b.mark) (hb5 : b.mark ≤ 9223372036854775807) (hs : Srt b.evs)
    (hev : ∀ e ∈ b.evs, s.b.front ≤ e.t ∧ e.t ≤ b.mark ∧ 1 ≤ e.w) (htot : totN 0 s.past.ls + sumE Event.w b.evs ≤ 4503599627370496) (hl : b.evs.length < 1048576) : Pre s (settleB b).2 := by
  have hfm := hg.fm
  obtain ⟨q1, q2, q3, q4, q5, q6, q7, q8, q9, q10, q11⟩ := settleB_ok hs (by omega) (fun e he => (hev e he).2.1)
  generalize settleB b = R at *
  obtain ⟨b', out⟩ := R
  dsimp only at q6 q7 q9 ⊢
  have hout : ∀ e ∈ out, s.b.front ≤ e.t ∧ e.t ≤ 9223372036854775807 ∧ 1 ≤ e.w := fun e he => by
    have h1 := hev e (by rw [q6]; exact List.mem_append_left _ he)
    exact ⟨h1.1, by omega, h1.2.2⟩
  have hsum : sumE Event.w b.evs = sumE Event.w out + sumE Event.w b'.evs := by rw [q6, sumE_app]
  have hlen : b.evs.length = out.length + b'.evs.length := by rw [q6, List.length_append]
  obtain ⟨p1, p2, _⟩ := pass_ok out s.past s.b.front hg.pg hg.pt hg.pf q9 hout (by omega)
  refine ⟨fun i hi => ?_, p2, by omega, fun e he => by have := mem_sumE Event.w he; omega⟩
  have hsp := sumE_split Event.w out i
  exact (pass_ok (out.take i) s.past s.b.front hg.pg hg.pt hg.pf (q9.take i) (fun e he => hout e (List.mem_of_mem_take he)) (by omega)).1
theorem move_pre {s : Skt} (hg : s.Good) (t : Nat) (h : (moveB s.b t).2 = 0) : Pre s (moveB s.b t).1.2 := by
  unfold moveB at h ⊢
  by_cases ht : 9223372036854775807 < t
  · rw [if_pos ht] at h; simp at h
  rw [if_neg ht]
  have hmk := hg.mkk
  have hln := hg.len
  have hr2 := hg.r2
  exact passK_pre hg (b := ⟨s.b.late, s.b.room, max s.b.mark t, s.b.front, s.b.evs⟩) rfl rfl rfl (by dsimp only; omega) (by dsimp only; omega) hg.sr
    (fun x hx => by have := hg.ev x hx; dsimp only; omega) hg.tot (by dsimp only; omega)
theorem push_pre {s : Skt} (hg : s.Good) (e : Event) (h : (pushB s.b e).2 = 0) (hh : ¬ 4503599627370496 < totN 0 s.past.ls + sumE Event.w s.b.evs + e.w) : Pre s (pushB s.b e).1.2 := by
  unfold pushB at h ⊢
  by_cases hw : e.w = 0
  · rw [if_pos hw] at h; simp at h
  rw [if_neg hw] at h ⊢
  by_cases ht : 9223372036854775807 < e.t
  · rw [if_pos ht] at h; simp at h
  rw [if_neg ht] at h ⊢
  by_cases hf : e.t < s.b.front
  · rw [if_pos hf] at h; simp at h
  rw [if_neg hf]
  have hmk := hg.mkk
  have hln := hg.len
  have hr2 := hg.r2
  have hse := sumE_ins Event.w s.b.evs e
  have hil := insE_len s.b.evs e
  exact passK_pre hg (b := ⟨s.b.late, s.b.room, max s.b.mark e.t, s.b.front, insE s.b.evs e⟩) rfl rfl rfl (by dsimp only; omega) (by dsimp only; omega) (insE_srt hg.sr e)
    (fun x hx => by
      dsimp only at hx ⊢
      rcases insE_mem.1 hx with rfl | hx
      · omega
      · have := hg.ev x hx; omega) (by dsimp only; omega) (by dsimp only; omega)
/-- The weight of what waits. -/
theorem weight_eq : ∀ (l : List Event) (n : Nat), n + sumE Event.w l < 18446744073709551616 → sumV (fun _ => true) Event.w n l = n + sumE Event.w l := by
  intro l
  induction l with
  | nil => intro n _; rfl
  | cons e r ih =>
    intro n h
    rw [sumE_cons] at h ⊢
    show sumV _ _ (if true = true then m64 (n + e.w) else n) r = _
    rw [if_pos rfl, m64_id (by omega), ih _ (by omega)]; omega
theorem Skt.Good.wt {s : Skt} (hg : s.Good) : totV s.past.ls = totN 0 s.past.ls ∧ sumV (fun _ => true) Event.w 0 s.b.evs = sumE Event.w s.b.evs := by
  have := hg.tot
  refine ⟨totV_eq (by omega), ?_⟩
  rw [weight_eq _ _ (by omega), Nat.zero_add]
/-- What a query tells. -/
noncomputable def queryK (s : Skt) (tick span : Nat) : Nat × Int :=
  if tick < s.b.front ∨ 9223372036854775807 < tick then (0, 6) else if span = 0 ∨ s.win < span then (0, 8) else (m64 (estV s.past.ls tick span + spanV s.b.evs tick span), 0)
def sumU (l : List Nat) : Nat := l.sum
end Go.Sk
end

-- W12c
section
namespace Go.Sk
open Go Go.Proofs

def zE : List AV := [u64 0, u64 0, u64 0]
theorem grow_ev (n : Nat) (h0 : 0 < n) (hn : n < 1073741824) (S : Store) : CallR Try.prog 78 [.nils, i64 n] S
    (fun r S' => ∃ b c, Fresh S b ∧ n ≤ c ∧ r = .ms b 3 0 0 c ∧ S' = S.set (.r b) (.cells (zcs zE c))) := by
  refine callR_of Try.func78 rfl rfl (xc_ok (bitB 65619) _ _ _ ?_)
  have q0 : decide ((n : Int) < 0) = false := by simp
  have q1 : wi ((n : Int) - wi ((0 : Int) - 0)) = n := by rw [wi_id (x := (0 : Int) - 0) (by decide) (by decide), wi_id (by omega) (by omega)]; omega
  have q2 : decide (0 < n) = true := by simpa using h0
  have q3 : ((n : Int)).toNat = n := Int.toNat_natCast n
  simp only [go_sem, decide_true, decide_false, Nat.lt_irrefl, q0, q1, q2, q3]
  refine ⟨h0, by omega, by rw [show (2 : Int) ^ 62 = 4611686018427387904 by decide]; omega, zero_intro fun b c hb hc => ?_⟩
  simp only [go_sem, decide_true, decide_false, Nat.lt_irrefl]
  refine ⟨by omega, _, Sub.refl _, Or.inl ⟨b, c, hb, hc, ?_, rfl⟩⟩
  simp

theorem flat_scalar (els : List (List PV)) : (flatA els).all scalar = true := by
  rw [List.all_eq_true]
  intro x hx
  unfold flatA at hx
  obtain ⟨el, _, h⟩ := List.mem_flatMap.1 hx
  obtain ⟨y, _, rfl⟩ := List.mem_map.1 h
  rfl
def lstE (l : List Event) : List PV := [.sl (l.map Event.pv)]
theorem splice_pre (cs : List AV) (m : Nat) (l : List AV) (h : m + l.length ≤ cs.length) : (splice cs m l).length = cs.length ∧ (splice cs m l).take (m + l.length) = cs.take m ++ l := by
  unfold splice
  refine ⟨by simp; omega, ?_⟩
  rw [List.take_append_of_le_length (by simp; omega), List.take_of_length_le (by simp; omega)]
def sumL (ls : List (List Event)) : Nat := (ls.map List.length).sum
theorem sumL_take (ls : List (List Event)) (i : Nat) (h : i < ls.length) : sumL (ls.take (i + 1)) = sumL (ls.take i) + (ls[i]).length := by
  unfold sumL; rw [List.take_succ_eq_append_getElem h, List.map_append, List.sum_append]; simp only [List.map_cons, List.map_nil, List.sum_cons, List.sum_nil, Nat.add_zero]
theorem sumL_le (ls : List (List Event)) (i : Nat) : sumL (ls.take i) ≤ sumL ls := by
  have : sumL (ls.take i ++ ls.drop i) = sumL (ls.take i) + sumL (ls.drop i) := by unfold sumL; rw [List.map_append, List.sum_append]
  rw [List.take_append_drop] at this
  omega
theorem flat_take (ls : List (List Event)) (i : Nat) (h : i < ls.length) : (ls.take (i + 1)).flatten = (ls.take i).flatten ++ ls[i] := by
  rw [List.take_succ_eq_append_getElem h, List.flatten_append]; simp
theorem flat_len3 (l : List Event) : (flatA (l.map Event.pv)).length = l.length * 3 := by rw [flatA_length (sz := 3) evn_len]; simp
theorem sumL_flat (ls : List (List Event)) : ls.flatten.length = sumL ls := by unfold sumL; rw [List.length_flatten]

set_option maxHeartbeats 1000000 in
set_option maxRecDepth 4000 in
theorem concat_ev (ls : List (List Event)) (h0 : 0 < sumL ls) (hn : sumL ls < 1073741824) (hl : ls.length < 1073741824) : Pure Try.prog 59 [.p (.sl (ls.map lstE))] (.p (.sl (ls.flatten.map Event.pv))) := fun S => by
  refine CallR.frz (R := fun r S' => ∃ b c cs, Fresh S b ∧ sumL ls ≤ c ∧ r = .ms b 3 0 (sumL ls) c ∧ S' = S.set (.r b) (.cells cs) ∧ cs.length = c * 3 ∧ cs.take (sumL ls * 3) = flatA (ls.flatten.map Event.pv)) ?_ ?_
  rotate_left
  · rintro r S' ⟨b, c, cs, hb, hc, rfl, rfl, hcl, hct⟩
    refine ⟨.p (.sl (ls.flatten.map Event.pv)), S, Frz.freeze (b := b) (m := sumL ls * 3) (Store.set_same _ _ _) (by omega) (fun k y hk => ?_) (Or.inl (Or.inl (Or.inr (Or.inr ⟨3, 0, sumL ls, c, ls.flatten.map Event.pv, rfl, ?_⟩)))), rfl, rfl⟩
    · have hne : k ≠ .r b := by rintro rfl; rw [hb] at hk; cases hk
      exact ⟨hne, Or.inl (by rw [Store.set_other _ _ hne]; exact hk)⟩
    · exact ⟨by omega, rfl, by rw [List.length_map, sumL_flat], evn_len, by rw [List.drop_zero]; exact hct⟩
  refine callR_of Try.func59 rfl rfl (xc_ok (bitB 504373101) _ _ _ ?_)
  simp only [go_sem, decide_true, decide_false, Nat.lt_irrefl]
  refine AWP.iter (fun i => ⟨Env.get [(0, .p (.sl (ls.map lstE))), (3, i64 (sumL (ls.take i))), (9, .p (.sl (ls.map lstE))), (10, i64 ls.length), (11, i64 i)], S, 36, []⟩) ls.length ?_ ?_ ?_
  · exact le_of (by simp only [go_sem, decide_true, decide_false, Nat.lt_irrefl, List.length_map, List.take_zero] <;> simp [sumL]) (Sub.refl _) rfl rfl (by simp)
  · intro i hi ih
    have h1 := sumL_take ls i hi
    have h2 := sumL_le ls (i + 1)
    have q1 : wi ((sumL (ls.take i) : Int) + ((ls[i]).length : Int)) = ((sumL (ls.take (i + 1)) : Nat) : Int) := by rw [wi_id (by omega) (by omega)]; omega
    have q2 : decide (((sumL (ls.take (i + 1)) : Nat) : Int) < 0) = false := by simp
    refine AWPH.step (xc_ok (bitB 504373101) _ _ _ ?_)
    simp only [go_sem, decide_true, decide_false, Nat.lt_irrefl, hi, ltN' hi, getD_map' _ _ _ _ hi, lstE, List.length_map, q1, q2]
    refine ih.back (Sub.refl _) (by simp) ?_
    simp only [go_sem, decide_true, decide_false, Nat.lt_irrefl, lstE, List.length_map, wi_succ (show i < 4611686018427387904 by omega), q1]
  · refine AWPH.step (xc_ok (bitB 504373101) _ _ _ ?_)
    simp only [go_sem, decide_true, decide_false, Nat.lt_irrefl, List.take_length, List.length_map]
    refine (grow_ev (sumL ls) h0 hn S).useB ?_
    rintro _ _ ⟨b, c, hb, hc, rfl, rfl⟩
    simp only [go_sem, decide_true, decide_false, Nat.lt_irrefl, List.length_map]
    refine AWP.roam (ι := Nat × List AV) (fun x => x.1 ≤ ls.length ∧ x.2.length = c * 3 ∧ x.2.take (sumL (ls.take x.1) * 3) = flatA ((ls.take x.1).flatten.map Event.pv))
      (fun x => ⟨Env.get [(6, .ms b 3 0 (sumL (ls.take x.1)) c), (25, .p (.sl (ls.map lstE))), (26, i64 ls.length), (27, i64 x.1)], S.set (.r b) (.cells x.2), 36, []⟩) (fun x => ls.length - x.1) (0, zcs zE c) ⟨Nat.zero_le _, by rw [zcs_length]; rfl, by simp [sumL, flatA]⟩ ?_ ?_
    · exact le_of (by simp only [go_sem, decide_true, decide_false, Nat.lt_irrefl, List.length_map, List.take_zero] <;> simp [sumL]) (Sub.refl _) rfl rfl (by simp)
    · rintro ⟨i, cs⟩ ⟨hi, hcl, hct⟩ ih
      dsimp only at hi hcl hct ⊢
      refine AWPH.step (xc_ok (bitB 504373101) _ _ _ ?_)
      by_cases ci : i < ls.length
      · have h1 := sumL_take ls i ci
        have h2 := sumL_le ls (i + 1)
        have hfl := flat_len3 ls[i]
        have hsp := splice_pre cs (0 + sumL (ls.take i) * 3) (flatA ((ls[i]).map Event.pv)) (by omega)
        simp only [go_sem, decide_true, decide_false, Nat.lt_irrefl, ci, ltN' ci, getD_map' _ _ _ _ ci, lstE, List.length_map]
        refine ⟨evn_len, by omega, flat_scalar _, more_in (by omega) (by omega) ?_⟩
        simp only [go_sem, decide_true, decide_false, Nat.lt_irrefl, lstE]
        refine (ih (i + 1, splice cs (0 + sumL (ls.take i) * 3) (flatA ((ls[i]).map Event.pv))) ⟨ci, by dsimp only; rw [hsp.1]; exact hcl, ?_⟩ (by dsimp only; omega)).back ?_ (by simp) ?_
        · dsimp only
          rw [h1, flat_take ls i ci, List.map_append, Nat.add_mul]
          have h5 := hsp.2
          rw [hfl, Nat.zero_add, hct] at h5
          rw [Nat.zero_add, h5]; simp [flatA]
        · ((try dsimp only); (repeat refine sub_set ?_ ?_) <;> first | ((repeat (first | exact Sub.refl _ | refine Sub.setF ?_ (by first | assumption | exact And.right (by assumption) | exact And.right (And.right (by assumption)) | exact And.right (And.right (And.right (by assumption))) | exact And.right (And.right (And.right (And.right (by assumption)))) | exact And.right (And.right (And.right (And.right (And.right (by assumption))))) | exact And.right (And.right (And.right (And.right (And.right (And.right (by assumption)))))) | exact And.right (And.right (And.right (And.right (And.right (And.right (And.right (by assumption))))))) | exact And.right (And.right (And.right (And.right (And.right (And.right (And.right (And.right (by assumption)))))))) | exact And.right (And.right (And.right (And.right (And.right (And.right (And.right (And.right (And.right (by assumption)))))))))) | refine Sub.setV ?_ (by first | assumption | exact And.right (by assumption) | exact And.right (And.right (by assumption)) | exact And.right (And.right (And.right (by assumption))) | exact And.right (And.right (And.right (And.right (by assumption)))) | exact And.right (And.right (And.right (And.right (And.right (by assumption))))) | exact And.right (And.right (And.right (And.right (And.right (And.right (by assumption)))))) | exact And.right (And.right (And.right (And.right (And.right (And.right (And.right (by assumption))))))) | exact And.right (And.right (And.right (And.right (And.right (And.right (And.right (And.right (by assumption)))))))) | exact And.right (And.right (And.right (And.right (And.right (And.right (And.right (And.right (And.right (by assumption)))))))))))); done) | (simp only [go_sem, decide_true, decide_false, Nat.lt_irrefl]; done) | (simp only [go_sem, decide_true, decide_false, Nat.lt_irrefl]; rfl) | rfl)
          done
        · simp only [go_sem, decide_true, decide_false, Nat.lt_irrefl, lstE, wi_succ (show i < 4611686018427387904 by omega), h1]
          done
      · obtain rfl : i = ls.length := by omega
        rw [List.take_length] at hct
        simp only [go_sem, decide_true, decide_false, Nat.lt_irrefl, ci, List.length_map, List.take_length]
        exact ⟨_, Sub.refl _, Or.inl ⟨b, c, cs, hb, hc, by simp, rfl, hcl, hct⟩⟩
end Go.Sk
end

-- W12d
section
namespace Go.Sk
open Go Go.Proofs

theorem insL (l : List Event) (e : Event) : [l.take (belowN e.t l), [e], l.drop (belowN e.t l)].flatten = insE l e := by
  unfold insE; simp
theorem insL_sum (l : List Event) (e : Event) : sumL [l.take (belowN e.t l), [e], l.drop (belowN e.t l)] = l.length + 1 := by
  have := belowN_le e.t l
  simp [sumL]; omega
set_option maxHeartbeats 1000000 in
set_option maxRecDepth 4000 in
theorem buf_Push (b : Buf) (hb : b.Sz) (hn : b.evs.length < 1048576) (e : Event) : Pure Try.prog 34 [b.av, e.av] (.tuple [(pushB b e).1.1.av, .p (evsP (pushB b e).1.2), i64 (pushB b e).2]) := fun S => by
  have hm := hb.m
  have hr := hb.r
  refine callR_of Try.func34 rfl rfl (xc_ok (bitB 1083391) _ _ _ ?_)
  simp only [go_sem, decide_true, decide_false, Nat.lt_irrefl]
  refine alloc_intro fun c2 h2 => ?_
  simp only [go_sem, decide_true, decide_false, Nat.lt_irrefl]
  refine alloc_intro fun c3 h3 => ?_
  simp only [fresh_set] at h3
  simp only [go_sem, decide_true, decide_false, Nat.lt_irrefl, h3]
  refine alloc_intro fun c4 h4 => ?_
  simp only [fresh_set] at h4
  have y2 : S (.r c2) = none := h2
  have y3 : S (.r c3) = none := h3.2
  have y4 : S (.r c4) = none := h4.2.2
  by_cases c1 : e.w = 0
  · have q1 : (e.w == 0) = true := by simpa using c1
    simp only [go_sem, decide_true, decide_false, Nat.lt_irrefl, q1, h3, h4]
    (refine ⟨S, by (repeat (first | exact Sub.refl _ | refine Sub.setF ?_ (by first | assumption | exact And.right (by assumption) | exact And.right (And.right (by assumption)) | exact And.right (And.right (And.right (by assumption))) | exact And.right (And.right (And.right (And.right (by assumption)))) | exact And.right (And.right (And.right (And.right (And.right (by assumption))))) | exact And.right (And.right (And.right (And.right (And.right (And.right (by assumption)))))) | exact And.right (And.right (And.right (And.right (And.right (And.right (And.right (by assumption))))))) | exact And.right (And.right (And.right (And.right (And.right (And.right (And.right (And.right (by assumption)))))))) | exact And.right (And.right (And.right (And.right (And.right (And.right (And.right (And.right (And.right (by assumption)))))))))) | refine Sub.setV ?_ (by first | assumption | exact And.right (by assumption) | exact And.right (And.right (by assumption)) | exact And.right (And.right (And.right (by assumption))) | exact And.right (And.right (And.right (And.right (by assumption)))) | exact And.right (And.right (And.right (And.right (And.right (by assumption))))) | exact And.right (And.right (And.right (And.right (And.right (And.right (by assumption)))))) | exact And.right (And.right (And.right (And.right (And.right (And.right (And.right (by assumption))))))) | exact And.right (And.right (And.right (And.right (And.right (And.right (And.right (And.right (by assumption)))))))) | exact And.right (And.right (And.right (And.right (And.right (And.right (And.right (And.right (And.right (by assumption)))))))))))), ?_⟩); simp [pushB, c1, zeroB, evsP]
  have q1 : (e.w == 0) = false := by simpa using c1
  by_cases c2' : 9223372036854775807 < e.t
  · simp only [go_sem, decide_true, decide_false, Nat.lt_irrefl, q1, c2', h3, h4]
    (refine ⟨S, by (repeat (first | exact Sub.refl _ | refine Sub.setF ?_ (by first | assumption | exact And.right (by assumption) | exact And.right (And.right (by assumption)) | exact And.right (And.right (And.right (by assumption))) | exact And.right (And.right (And.right (And.right (by assumption)))) | exact And.right (And.right (And.right (And.right (And.right (by assumption))))) | exact And.right (And.right (And.right (And.right (And.right (And.right (by assumption)))))) | exact And.right (And.right (And.right (And.right (And.right (And.right (And.right (by assumption))))))) | exact And.right (And.right (And.right (And.right (And.right (And.right (And.right (And.right (by assumption)))))))) | exact And.right (And.right (And.right (And.right (And.right (And.right (And.right (And.right (And.right (by assumption)))))))))) | refine Sub.setV ?_ (by first | assumption | exact And.right (by assumption) | exact And.right (And.right (by assumption)) | exact And.right (And.right (And.right (by assumption))) | exact And.right (And.right (And.right (And.right (by assumption)))) | exact And.right (And.right (And.right (And.right (And.right (by assumption))))) | exact And.right (And.right (And.right (And.right (And.right (And.right (by assumption)))))) | exact And.right (And.right (And.right (And.right (And.right (And.right (And.right (by assumption))))))) | exact And.right (And.right (And.right (And.right (And.right (And.right (And.right (And.right (by assumption)))))))) | exact And.right (And.right (And.right (And.right (And.right (And.right (And.right (And.right (And.right (by assumption)))))))))))), ?_⟩); simp [pushB, c1, c2', zeroB, evsP]
  by_cases c3' : e.t < b.front
  · simp only [go_sem, decide_true, decide_false, Nat.lt_irrefl, q1, c2', c3', h3, h4]
    (refine ⟨S, by (repeat (first | exact Sub.refl _ | refine Sub.setF ?_ (by first | assumption | exact And.right (by assumption) | exact And.right (And.right (by assumption)) | exact And.right (And.right (And.right (by assumption))) | exact And.right (And.right (And.right (And.right (by assumption)))) | exact And.right (And.right (And.right (And.right (And.right (by assumption))))) | exact And.right (And.right (And.right (And.right (And.right (And.right (by assumption)))))) | exact And.right (And.right (And.right (And.right (And.right (And.right (And.right (by assumption))))))) | exact And.right (And.right (And.right (And.right (And.right (And.right (And.right (And.right (by assumption)))))))) | exact And.right (And.right (And.right (And.right (And.right (And.right (And.right (And.right (And.right (by assumption)))))))))) | refine Sub.setV ?_ (by first | assumption | exact And.right (by assumption) | exact And.right (And.right (by assumption)) | exact And.right (And.right (And.right (by assumption))) | exact And.right (And.right (And.right (And.right (by assumption)))) | exact And.right (And.right (And.right (And.right (And.right (by assumption))))) | exact And.right (And.right (And.right (And.right (And.right (And.right (by assumption)))))) | exact And.right (And.right (And.right (And.right (And.right (And.right (And.right (by assumption))))))) | exact And.right (And.right (And.right (And.right (And.right (And.right (And.right (And.right (by assumption)))))))) | exact And.right (And.right (And.right (And.right (And.right (And.right (And.right (And.right (And.right (by assumption)))))))))))), ?_⟩); simp [pushB, c1, c2', c3', zeroB, evsP]
  have hres : pushB b e = (settleB ⟨b.late, b.room, max b.mark e.t, b.front, insE b.evs e⟩, 0) := by unfold pushB; rw [if_neg c1, if_neg c2', if_neg c3']
  rw [hres]
  have hst := buf_settle ⟨b.late, b.room, max b.mark e.t, b.front, insE b.evs e⟩ ⟨hr, by dsimp only; omega, by
    dsimp only
    have := insL_sum b.evs e
    rw [← sumL_flat, insL] at this; omega⟩
  generalize settleB ⟨b.late, b.room, max b.mark e.t, b.front, insE b.evs e⟩ = R at *
  simp only [go_sem, decide_true, decide_false, Nat.lt_irrefl, q1, c2', c3', h3, h4]
  refine (below b e.t (by omega)).useA ?_
  have hle := belowN_le e.t b.evs
  simp only [go_sem, decide_true, decide_false, Nat.lt_irrefl, h3, h4]
  refine (latest_two b.mark e.t).useA ?_
  simp only [go_sem, decide_true, decide_false, Nat.lt_irrefl, h3, h4]
  have e5 : List.take (belowN e.t b.evs - 0) (List.map Event.pv b.evs) = List.map Event.pv (b.evs.take (belowN e.t b.evs)) := by rw [Nat.sub_zero, List.map_take]
  have e6 : List.take (b.evs.length - belowN e.t b.evs) (List.drop (belowN e.t b.evs) (List.map Event.pv b.evs)) = List.map Event.pv (b.evs.drop (belowN e.t b.evs)) := by
    rw [← List.map_drop]; exact List.take_of_length_le (by simp)
  have hcon := concat_ev [b.evs.take (belowN e.t b.evs), [e], b.evs.drop (belowN e.t b.evs)] (by rw [insL_sum]; omega) (by rw [insL_sum]; omega) (by simp)
  rw [insL] at hcon
  refine AWP.draw2 (bitB 1083391) mixed (by kernel_rfl) (fun j => .p (evsP (insE b.evs e))) ?_
  simp only [go_sem, decide_true, decide_false, Nat.lt_irrefl, h3, h4, e5, e6, List.length_map, evsP]
  refine ⟨evn_len, hle, evn_len, hle, hcon.draw, ?_⟩
  refine hst.useA ?_
  simp only [go_sem, decide_true, decide_false, Nat.lt_irrefl, h3, h4]
  refine alloc_intro fun c8 h8 => ?_
  simp only [fresh_set] at h8
  simp only [go_sem, decide_true, decide_false, Nat.lt_irrefl, h3, h4, h8]
  have y8 : S (.r c8) = none := h8.2.2.2.2
  refine ⟨S, ?_, ?_⟩
  · repeat' first
      | exact Sub.refl _
      | refine Sub.set ?_ (by assumption) _
  · simp [evsP]
set_option maxHeartbeats 1000000 in
set_option maxRecDepth 4000 in
theorem buf_Move (b : Buf) (hb : b.Sz) (t : Nat) : Pure Try.prog 32 [b.av, u64 t] (.tuple [(moveB b t).1.1.av, .p (evsP (moveB b t).1.2), i64 (moveB b t).2]) := fun S => by
  have hm := hb.m
  have hr := hb.r
  have hn := hb.n
  refine callR_of Try.func32 rfl rfl (xc_ok (bitB 1527) _ _ _ ?_)
  simp only [go_sem, decide_true, decide_false, Nat.lt_irrefl]
  refine alloc_intro fun c2 h2 => ?_
  simp only [go_sem, decide_true, decide_false, Nat.lt_irrefl]
  refine alloc_intro fun c4 h4 => ?_
  simp only [fresh_set] at h4
  have y2 : S (.r c2) = none := h2
  have y4 : S (.r c4) = none := h4.2
  by_cases c1 : 9223372036854775807 < t
  · simp only [go_sem, decide_true, decide_false, Nat.lt_irrefl, c1, h4]
    (refine ⟨S, by (repeat (first | exact Sub.refl _ | refine Sub.setF ?_ (by first | assumption | exact And.right (by assumption) | exact And.right (And.right (by assumption)) | exact And.right (And.right (And.right (by assumption))) | exact And.right (And.right (And.right (And.right (by assumption)))) | exact And.right (And.right (And.right (And.right (And.right (by assumption))))) | exact And.right (And.right (And.right (And.right (And.right (And.right (by assumption)))))) | exact And.right (And.right (And.right (And.right (And.right (And.right (And.right (by assumption))))))) | exact And.right (And.right (And.right (And.right (And.right (And.right (And.right (And.right (by assumption)))))))) | exact And.right (And.right (And.right (And.right (And.right (And.right (And.right (And.right (And.right (by assumption)))))))))) | refine Sub.setV ?_ (by first | assumption | exact And.right (by assumption) | exact And.right (And.right (by assumption)) | exact And.right (And.right (And.right (by assumption))) | exact And.right (And.right (And.right (And.right (by assumption)))) | exact And.right (And.right (And.right (And.right (And.right (by assumption))))) | exact And.right (And.right (And.right (And.right (And.right (And.right (by assumption)))))) | exact And.right (And.right (And.right (And.right (And.right (And.right (And.right (by assumption))))))) | exact And.right (And.right (And.right (And.right (And.right (And.right (And.right (And.right (by assumption)))))))) | exact And.right (And.right (And.right (And.right (And.right (And.right (And.right (And.right (And.right (by assumption)))))))))))), ?_⟩); simp [moveB, c1, zeroB, evsP]
  have hres : moveB b t = (settleB ⟨b.late, b.room, max b.mark t, b.front, b.evs⟩, 0) := by unfold moveB; rw [if_neg c1]
  rw [hres]
  have hst := buf_settle ⟨b.late, b.room, max b.mark t, b.front, b.evs⟩ ⟨hr, by dsimp only; omega, hn⟩
  generalize settleB ⟨b.late, b.room, max b.mark t, b.front, b.evs⟩ = R at *
  simp only [go_sem, decide_true, decide_false, Nat.lt_irrefl, c1, h4]
  refine (latest_two b.mark t).useA ?_
  simp only [go_sem, decide_true, decide_false, Nat.lt_irrefl, h4]
  refine (clone_ev b.evs (by omega)).useA ?_
  simp only [go_sem, decide_true, decide_false, Nat.lt_irrefl, h4]
  refine hst.useA ?_
  simp only [go_sem, decide_true, decide_false, Nat.lt_irrefl, h4]
  refine alloc_intro fun c7 h7 => ?_
  simp only [fresh_set] at h7
  simp only [go_sem, decide_true, decide_false, Nat.lt_irrefl, h4, h7]
  have y7 : S (.r c7) = none := h7.2.2.2
  refine ⟨S, ?_, ?_⟩
  · repeat' first
      | exact Sub.refl _
      | refine Sub.set ?_ (by assumption) _
  · simp [evsP]
end Go.Sk
end

-- W12e
section
namespace Go.Sk
open Go Go.Proofs

theorem event_eq (x y : Event) : (x.t == y.t && (x.k == y.k && x.w == y.w)) = decide (x = y) := by
  cases x; cases y
  rw [Bool.eq_iff_iff]; simp
theorem eq_events (a b : List Event) (ha : a.length < 1099511627776) : Pure Try.prog 60 [.p (evsP a), .p (evsP b)] (bl (decide (a = b))) := fun S => by
  refine callR_of Try.func60 rfl rfl (xc_ok (bitB 16806963) _ _ _ ?_)
  simp only [go_sem, decide_true, decide_false, Nat.lt_irrefl, evsP]
  by_cases hlen : a.length = b.length
  rotate_left
  · have hn : (a.length != b.length) = true := by simpa using hlen
    have hne : ¬ a = b := fun e => hlen (by rw [e])
    simp only [go_sem, decide_true, decide_false, Nat.lt_irrefl, hn]
    (refine ⟨S, by (repeat (first | exact Sub.refl _ | refine Sub.setF ?_ (by first | assumption | exact And.right (by assumption) | exact And.right (And.right (by assumption)) | exact And.right (And.right (And.right (by assumption))) | exact And.right (And.right (And.right (And.right (by assumption)))) | exact And.right (And.right (And.right (And.right (And.right (by assumption))))) | exact And.right (And.right (And.right (And.right (And.right (And.right (by assumption)))))) | exact And.right (And.right (And.right (And.right (And.right (And.right (And.right (by assumption))))))) | exact And.right (And.right (And.right (And.right (And.right (And.right (And.right (And.right (by assumption)))))))) | exact And.right (And.right (And.right (And.right (And.right (And.right (And.right (And.right (And.right (by assumption)))))))))) | refine Sub.setV ?_ (by first | assumption | exact And.right (by assumption) | exact And.right (And.right (by assumption)) | exact And.right (And.right (And.right (by assumption))) | exact And.right (And.right (And.right (And.right (by assumption)))) | exact And.right (And.right (And.right (And.right (And.right (by assumption))))) | exact And.right (And.right (And.right (And.right (And.right (And.right (by assumption)))))) | exact And.right (And.right (And.right (And.right (And.right (And.right (And.right (by assumption))))))) | exact And.right (And.right (And.right (And.right (And.right (And.right (And.right (And.right (by assumption)))))))) | exact And.right (And.right (And.right (And.right (And.right (And.right (And.right (And.right (And.right (by assumption)))))))))))), ?_⟩); simp [hne]
  · have hn : (a.length != b.length) = false := by simpa using hlen
    simp only [go_sem, decide_true, decide_false, Nat.lt_irrefl, hn]
    refine AWP.roam (fun i : Nat => i ≤ a.length ∧ ∀ j, j < i → ∀ (h1 : j < a.length) (h2 : j < b.length), a[j] = b[j]) (fun i => ⟨Env.get [(0, .p (.sl (a.map Event.pv))), (1, .p (.sl (b.map Event.pv))), (12, i64 a.length), (13, i64 i)], S, 26, []⟩) (fun i => a.length - i) 0 ⟨by omega, fun j h => by omega⟩ ?_ ?_
    · exact le_of (by simp only [go_sem, decide_true, decide_false, Nat.lt_irrefl]; simp) (Sub.refl _) rfl rfl (by simp)
    · rintro i ⟨hi, hall⟩ ih
      refine AWPH.step (xc_ok (bitB 16806963) _ _ _ ?_)
      by_cases h : i < a.length
      · have hb : i < b.length := by omega
        simp only [go_sem, decide_true, decide_false, Nat.lt_irrefl, h, hb, ltN' h, ltN' hb, getD_map' _ _ _ _ h, getD_map' _ _ _ _ hb]
        refine AWP.draw2 (bitB 16806963) mixed (by kernel_rfl) (fun j => bl false) ?_
        simp only [go_sem, decide_true, decide_false, Nat.lt_irrefl, h, hb, ltN' h, ltN' hb, getD_map' _ _ _ _ h, getD_map' _ _ _ _ hb, event_eq]
        by_cases hq : a[i] = b[i]
        · simp only [go_sem, decide_true, decide_false, Nat.lt_irrefl, hq, Bool.not_true]
          refine (ih (i + 1) ⟨h, all_step hall fun _ _ => hq⟩ (by omega)).back (by (repeat (first | exact Sub.refl _ | refine Sub.setF ?_ (by first | assumption | exact And.right (by assumption) | exact And.right (And.right (by assumption)) | exact And.right (And.right (And.right (by assumption))) | exact And.right (And.right (And.right (And.right (by assumption)))) | exact And.right (And.right (And.right (And.right (And.right (by assumption))))) | exact And.right (And.right (And.right (And.right (And.right (And.right (by assumption)))))) | exact And.right (And.right (And.right (And.right (And.right (And.right (And.right (by assumption))))))) | exact And.right (And.right (And.right (And.right (And.right (And.right (And.right (And.right (by assumption)))))))) | exact And.right (And.right (And.right (And.right (And.right (And.right (And.right (And.right (And.right (by assumption)))))))))) | refine Sub.setV ?_ (by first | assumption | exact And.right (by assumption) | exact And.right (And.right (by assumption)) | exact And.right (And.right (And.right (by assumption))) | exact And.right (And.right (And.right (And.right (by assumption)))) | exact And.right (And.right (And.right (And.right (And.right (by assumption))))) | exact And.right (And.right (And.right (And.right (And.right (And.right (by assumption)))))) | exact And.right (And.right (And.right (And.right (And.right (And.right (And.right (by assumption))))))) | exact And.right (And.right (And.right (And.right (And.right (And.right (And.right (And.right (by assumption)))))))) | exact And.right (And.right (And.right (And.right (And.right (And.right (And.right (And.right (And.right (by assumption))))))))))))) (by simp) ?_
          simp only [go_sem, decide_true, decide_false, Nat.lt_irrefl, wi_succ (show i < 4611686018427387904 by omega)]
        · simp only [go_sem, decide_true, decide_false, Nat.lt_irrefl, hq, Bool.not_false]
          (refine ⟨S, by (repeat (first | exact Sub.refl _ | refine Sub.setF ?_ (by first | assumption | exact And.right (by assumption) | exact And.right (And.right (by assumption)) | exact And.right (And.right (And.right (by assumption))) | exact And.right (And.right (And.right (And.right (by assumption)))) | exact And.right (And.right (And.right (And.right (And.right (by assumption))))) | exact And.right (And.right (And.right (And.right (And.right (And.right (by assumption)))))) | exact And.right (And.right (And.right (And.right (And.right (And.right (And.right (by assumption))))))) | exact And.right (And.right (And.right (And.right (And.right (And.right (And.right (And.right (by assumption)))))))) | exact And.right (And.right (And.right (And.right (And.right (And.right (And.right (And.right (And.right (by assumption)))))))))) | refine Sub.setV ?_ (by first | assumption | exact And.right (by assumption) | exact And.right (And.right (by assumption)) | exact And.right (And.right (And.right (by assumption))) | exact And.right (And.right (And.right (And.right (by assumption)))) | exact And.right (And.right (And.right (And.right (And.right (by assumption))))) | exact And.right (And.right (And.right (And.right (And.right (And.right (by assumption)))))) | exact And.right (And.right (And.right (And.right (And.right (And.right (And.right (by assumption))))))) | exact And.right (And.right (And.right (And.right (And.right (And.right (And.right (And.right (by assumption)))))))) | exact And.right (And.right (And.right (And.right (And.right (And.right (And.right (And.right (And.right (by assumption)))))))))))), ?_⟩)
          have hne : ¬ a = b := by rintro rfl; exact hq rfl
          simp [hne]
      · obtain rfl : i = a.length := by omega
        simp only [go_sem, decide_true, decide_false, Nat.lt_irrefl]
        (refine ⟨S, by (repeat (first | exact Sub.refl _ | refine Sub.setF ?_ (by first | assumption | exact And.right (by assumption) | exact And.right (And.right (by assumption)) | exact And.right (And.right (And.right (by assumption))) | exact And.right (And.right (And.right (And.right (by assumption)))) | exact And.right (And.right (And.right (And.right (And.right (by assumption))))) | exact And.right (And.right (And.right (And.right (And.right (And.right (by assumption)))))) | exact And.right (And.right (And.right (And.right (And.right (And.right (And.right (by assumption))))))) | exact And.right (And.right (And.right (And.right (And.right (And.right (And.right (And.right (by assumption)))))))) | exact And.right (And.right (And.right (And.right (And.right (And.right (And.right (And.right (And.right (by assumption)))))))))) | refine Sub.setV ?_ (by first | assumption | exact And.right (by assumption) | exact And.right (And.right (by assumption)) | exact And.right (And.right (And.right (by assumption))) | exact And.right (And.right (And.right (And.right (by assumption)))) | exact And.right (And.right (And.right (And.right (And.right (by assumption))))) | exact And.right (And.right (And.right (And.right (And.right (And.right (by assumption)))))) | exact And.right (And.right (And.right (And.right (And.right (And.right (And.right (by assumption))))))) | exact And.right (And.right (And.right (And.right (And.right (And.right (And.right (And.right (by assumption)))))))) | exact And.right (And.right (And.right (And.right (And.right (And.right (And.right (And.right (And.right (by assumption)))))))))))), ?_⟩)
        have : a = b := eq_of_all hlen fun j h1 h2 => hall j h1 h1 h2
        simp [this]

theorem ref12_Events (a b : List Event) (ha : a.length < 1099511627776) : Pure Try.prog 62 [.p (evsP a), .p (evsP b)] (bl (decide (a = b))) := fun S => by
  refine callR_of Try.func62 rfl rfl (xc_ok (bitB 33571891) _ _ _ ?_)
  simp only [go_sem, decide_true, decide_false, Nat.lt_irrefl, evsP]
  by_cases hlen : a.length = b.length
  rotate_left
  · have hn : (a.length != b.length) = true := by simpa using hlen
    have hne : ¬ a = b := fun e => hlen (by rw [e])
    simp only [go_sem, decide_true, decide_false, Nat.lt_irrefl, hn]
    (refine ⟨S, by (repeat (first | exact Sub.refl _ | refine Sub.setF ?_ (by first | assumption | exact And.right (by assumption) | exact And.right (And.right (by assumption)) | exact And.right (And.right (And.right (by assumption))) | exact And.right (And.right (And.right (And.right (by assumption)))) | exact And.right (And.right (And.right (And.right (And.right (by assumption))))) | exact And.right (And.right (And.right (And.right (And.right (And.right (by assumption)))))) | exact And.right (And.right (And.right (And.right (And.right (And.right (And.right (by assumption))))))) | exact And.right (And.right (And.right (And.right (And.right (And.right (And.right (And.right (by assumption)))))))) | exact And.right (And.right (And.right (And.right (And.right (And.right (And.right (And.right (And.right (by assumption)))))))))) | refine Sub.setV ?_ (by first | assumption | exact And.right (by assumption) | exact And.right (And.right (by assumption)) | exact And.right (And.right (And.right (by assumption))) | exact And.right (And.right (And.right (And.right (by assumption)))) | exact And.right (And.right (And.right (And.right (And.right (by assumption))))) | exact And.right (And.right (And.right (And.right (And.right (And.right (by assumption)))))) | exact And.right (And.right (And.right (And.right (And.right (And.right (And.right (by assumption))))))) | exact And.right (And.right (And.right (And.right (And.right (And.right (And.right (And.right (by assumption)))))))) | exact And.right (And.right (And.right (And.right (And.right (And.right (And.right (And.right (And.right (by assumption)))))))))))), ?_⟩); simp [hne]
  · have hn : (a.length != b.length) = false := by simpa using hlen
    simp only [go_sem, decide_true, decide_false, Nat.lt_irrefl, hn]
    refine AWP.roam (fun i : Nat => i ≤ a.length ∧ ∀ j, j < i → ∀ (h1 : j < a.length) (h2 : j < b.length), a[j] = b[j]) (fun i => ⟨Env.get [(0, .p (.sl (a.map Event.pv))), (1, .p (.sl (b.map Event.pv))), (5, i64 i)], S, 26, []⟩) (fun i => a.length - i) 0 ⟨by omega, fun j h => by omega⟩ ?_ ?_
    · exact le_of (by simp only [go_sem, decide_true, decide_false, Nat.lt_irrefl]; simp) (Sub.refl _) rfl rfl (by simp)
    · rintro i ⟨hi, hall⟩ ih
      refine AWPH.step (xc_ok (bitB 33571891) _ _ _ ?_)
      by_cases h : i < a.length
      · have hb : i < b.length := by omega
        simp only [go_sem, decide_true, decide_false, Nat.lt_irrefl, h, hb, ltN' h, ltN' hb, getD_map' _ _ _ _ h, getD_map' _ _ _ _ hb]
        refine AWP.draw2 (bitB 33571891) mixed (by kernel_rfl) (fun j => bl false) ?_
        simp only [go_sem, decide_true, decide_false, Nat.lt_irrefl, h, hb, ltN' h, ltN' hb, getD_map' _ _ _ _ h, getD_map' _ _ _ _ hb, event_eq]
        by_cases hq : a[i] = b[i]
        · simp only [go_sem, decide_true, decide_false, Nat.lt_irrefl, hq, Bool.not_true]
          refine (ih (i + 1) ⟨h, all_step hall fun _ _ => hq⟩ (by omega)).back (by (repeat (first | exact Sub.refl _ | refine Sub.setF ?_ (by first | assumption | exact And.right (by assumption) | exact And.right (And.right (by assumption)) | exact And.right (And.right (And.right (by assumption))) | exact And.right (And.right (And.right (And.right (by assumption)))) | exact And.right (And.right (And.right (And.right (And.right (by assumption))))) | exact And.right (And.right (And.right (And.right (And.right (And.right (by assumption)))))) | exact And.right (And.right (And.right (And.right (And.right (And.right (And.right (by assumption))))))) | exact And.right (And.right (And.right (And.right (And.right (And.right (And.right (And.right (by assumption)))))))) | exact And.right (And.right (And.right (And.right (And.right (And.right (And.right (And.right (And.right (by assumption)))))))))) | refine Sub.setV ?_ (by first | assumption | exact And.right (by assumption) | exact And.right (And.right (by assumption)) | exact And.right (And.right (And.right (by assumption))) | exact And.right (And.right (And.right (And.right (by assumption)))) | exact And.right (And.right (And.right (And.right (And.right (by assumption))))) | exact And.right (And.right (And.right (And.right (And.right (And.right (by assumption)))))) | exact And.right (And.right (And.right (And.right (And.right (And.right (And.right (by assumption))))))) | exact And.right (And.right (And.right (And.right (And.right (And.right (And.right (And.right (by assumption)))))))) | exact And.right (And.right (And.right (And.right (And.right (And.right (And.right (And.right (And.right (by assumption))))))))))))) (by simp) ?_
          simp only [go_sem, decide_true, decide_false, Nat.lt_irrefl, wi_succ (show i < 4611686018427387904 by omega)]
        · simp only [go_sem, decide_true, decide_false, Nat.lt_irrefl, hq, Bool.not_false]
          (refine ⟨S, by (repeat (first | exact Sub.refl _ | refine Sub.setF ?_ (by first | assumption | exact And.right (by assumption) | exact And.right (And.right (by assumption)) | exact And.right (And.right (And.right (by assumption))) | exact And.right (And.right (And.right (And.right (by assumption)))) | exact And.right (And.right (And.right (And.right (And.right (by assumption))))) | exact And.right (And.right (And.right (And.right (And.right (And.right (by assumption)))))) | exact And.right (And.right (And.right (And.right (And.right (And.right (And.right (by assumption))))))) | exact And.right (And.right (And.right (And.right (And.right (And.right (And.right (And.right (by assumption)))))))) | exact And.right (And.right (And.right (And.right (And.right (And.right (And.right (And.right (And.right (by assumption)))))))))) | refine Sub.setV ?_ (by first | assumption | exact And.right (by assumption) | exact And.right (And.right (by assumption)) | exact And.right (And.right (And.right (by assumption))) | exact And.right (And.right (And.right (And.right (by assumption)))) | exact And.right (And.right (And.right (And.right (And.right (by assumption))))) | exact And.right (And.right (And.right (And.right (And.right (And.right (by assumption)))))) | exact And.right (And.right (And.right (And.right (And.right (And.right (And.right (by assumption))))))) | exact And.right (And.right (And.right (And.right (And.right (And.right (And.right (And.right (by assumption)))))))) | exact And.right (And.right (And.right (And.right (And.right (And.right (And.right (And.right (And.right (by assumption)))))))))))), ?_⟩)
          have hne : ¬ a = b := by rintro rfl; exact hq rfl
          simp [hne]
      · obtain rfl : i = a.length := by omega
        simp only [go_sem, decide_true, decide_false, Nat.lt_irrefl]
        (refine ⟨S, by (repeat (first | exact Sub.refl _ | refine Sub.setF ?_ (by first | assumption | exact And.right (by assumption) | exact And.right (And.right (by assumption)) | exact And.right (And.right (And.right (by assumption))) | exact And.right (And.right (And.right (And.right (by assumption)))) | exact And.right (And.right (And.right (And.right (And.right (by assumption))))) | exact And.right (And.right (And.right (And.right (And.right (And.right (by assumption)))))) | exact And.right (And.right (And.right (And.right (And.right (And.right (And.right (by assumption))))))) | exact And.right (And.right (And.right (And.right (And.right (And.right (And.right (And.right (by assumption)))))))) | exact And.right (And.right (And.right (And.right (And.right (And.right (And.right (And.right (And.right (by assumption)))))))))) | refine Sub.setV ?_ (by first | assumption | exact And.right (by assumption) | exact And.right (And.right (by assumption)) | exact And.right (And.right (And.right (by assumption))) | exact And.right (And.right (And.right (And.right (by assumption)))) | exact And.right (And.right (And.right (And.right (And.right (by assumption))))) | exact And.right (And.right (And.right (And.right (And.right (And.right (by assumption)))))) | exact And.right (And.right (And.right (And.right (And.right (And.right (And.right (by assumption))))))) | exact And.right (And.right (And.right (And.right (And.right (And.right (And.right (And.right (by assumption)))))))) | exact And.right (And.right (And.right (And.right (And.right (And.right (And.right (And.right (And.right (by assumption)))))))))))), ?_⟩)
        have : a = b := eq_of_all hlen fun j h1 h2 => hall j h1 h1 h2
        simp [this]


set_option maxRecDepth 16000 in
set_option maxHeartbeats 1000000 in
theorem buf_Same (a b : Buf) (ha : a.evs.length < 1099511627776) : Pure Try.prog 38 [a.av, b.av] (bl (decide (a = b))) := fun S => by
  obtain ⟨l1, r1, m1, f1, e1⟩ := a
  obtain ⟨l2, r2, m2, f2, e2⟩ := b
  dsimp only at ha
  refine callR_of Try.func38 rfl rfl (xc_ok (bitB 63) _ _ _ ?_)
  simp only [go_sem, decide_true, decide_false, Nat.lt_irrefl]
  refine alloc_intro fun c2 h2 => ?_
  simp only [go_sem, decide_true, decide_false, Nat.lt_irrefl]
  refine alloc_intro fun c3 h3 => ?_
  simp only [fresh_set] at h3
  by_cases q1 : l1 = l2
  rotate_left
  · have g1 : (l1 == l2) = false := by simpa using q1
    simp only [go_sem, decide_true, decide_false, Nat.lt_irrefl, h3, g1]
    (refine ⟨S, by (repeat (first | exact Sub.refl _ | refine Sub.setF ?_ (by first | assumption | exact And.right (by assumption) | exact And.right (And.right (by assumption)) | exact And.right (And.right (And.right (by assumption))) | exact And.right (And.right (And.right (And.right (by assumption)))) | exact And.right (And.right (And.right (And.right (And.right (by assumption))))) | exact And.right (And.right (And.right (And.right (And.right (And.right (by assumption)))))) | exact And.right (And.right (And.right (And.right (And.right (And.right (And.right (by assumption))))))) | exact And.right (And.right (And.right (And.right (And.right (And.right (And.right (And.right (by assumption)))))))) | exact And.right (And.right (And.right (And.right (And.right (And.right (And.right (And.right (And.right (by assumption)))))))))) | refine Sub.setV ?_ (by first | assumption | exact And.right (by assumption) | exact And.right (And.right (by assumption)) | exact And.right (And.right (And.right (by assumption))) | exact And.right (And.right (And.right (And.right (by assumption)))) | exact And.right (And.right (And.right (And.right (And.right (by assumption))))) | exact And.right (And.right (And.right (And.right (And.right (And.right (by assumption)))))) | exact And.right (And.right (And.right (And.right (And.right (And.right (And.right (by assumption))))))) | exact And.right (And.right (And.right (And.right (And.right (And.right (And.right (And.right (by assumption)))))))) | exact And.right (And.right (And.right (And.right (And.right (And.right (And.right (And.right (And.right (by assumption)))))))))))), ?_⟩); simp [q1]
  have g1 : (l1 == l2) = true := by simpa using q1
  by_cases q2 : m1 = m2
  rotate_left
  · have g2 : (m1 == m2) = false := by simpa using q2
    simp only [go_sem, decide_true, decide_false, Nat.lt_irrefl, h3, g1, g2]
    (refine ⟨S, by (repeat (first | exact Sub.refl _ | refine Sub.setF ?_ (by first | assumption | exact And.right (by assumption) | exact And.right (And.right (by assumption)) | exact And.right (And.right (And.right (by assumption))) | exact And.right (And.right (And.right (And.right (by assumption)))) | exact And.right (And.right (And.right (And.right (And.right (by assumption))))) | exact And.right (And.right (And.right (And.right (And.right (And.right (by assumption)))))) | exact And.right (And.right (And.right (And.right (And.right (And.right (And.right (by assumption))))))) | exact And.right (And.right (And.right (And.right (And.right (And.right (And.right (And.right (by assumption)))))))) | exact And.right (And.right (And.right (And.right (And.right (And.right (And.right (And.right (And.right (by assumption)))))))))) | refine Sub.setV ?_ (by first | assumption | exact And.right (by assumption) | exact And.right (And.right (by assumption)) | exact And.right (And.right (And.right (by assumption))) | exact And.right (And.right (And.right (And.right (by assumption)))) | exact And.right (And.right (And.right (And.right (And.right (by assumption))))) | exact And.right (And.right (And.right (And.right (And.right (And.right (by assumption)))))) | exact And.right (And.right (And.right (And.right (And.right (And.right (And.right (by assumption))))))) | exact And.right (And.right (And.right (And.right (And.right (And.right (And.right (And.right (by assumption)))))))) | exact And.right (And.right (And.right (And.right (And.right (And.right (And.right (And.right (And.right (by assumption)))))))))))), ?_⟩); simp [q2]
  have g2 : (m1 == m2) = true := by simpa using q2
  by_cases q3 : f1 = f2
  rotate_left
  · have g3 : (f1 == f2) = false := by simpa using q3
    simp only [go_sem, decide_true, decide_false, Nat.lt_irrefl, h3, g1, g2, g3]
    (refine ⟨S, by (repeat (first | exact Sub.refl _ | refine Sub.setF ?_ (by first | assumption | exact And.right (by assumption) | exact And.right (And.right (by assumption)) | exact And.right (And.right (And.right (by assumption))) | exact And.right (And.right (And.right (And.right (by assumption)))) | exact And.right (And.right (And.right (And.right (And.right (by assumption))))) | exact And.right (And.right (And.right (And.right (And.right (And.right (by assumption)))))) | exact And.right (And.right (And.right (And.right (And.right (And.right (And.right (by assumption))))))) | exact And.right (And.right (And.right (And.right (And.right (And.right (And.right (And.right (by assumption)))))))) | exact And.right (And.right (And.right (And.right (And.right (And.right (And.right (And.right (And.right (by assumption)))))))))) | refine Sub.setV ?_ (by first | assumption | exact And.right (by assumption) | exact And.right (And.right (by assumption)) | exact And.right (And.right (And.right (by assumption))) | exact And.right (And.right (And.right (And.right (by assumption)))) | exact And.right (And.right (And.right (And.right (And.right (by assumption))))) | exact And.right (And.right (And.right (And.right (And.right (And.right (by assumption)))))) | exact And.right (And.right (And.right (And.right (And.right (And.right (And.right (by assumption))))))) | exact And.right (And.right (And.right (And.right (And.right (And.right (And.right (And.right (by assumption)))))))) | exact And.right (And.right (And.right (And.right (And.right (And.right (And.right (And.right (And.right (by assumption)))))))))))), ?_⟩); simp [q3]
  have g3 : (f1 == f2) = true := by simpa using q3
  by_cases q4 : r1 = r2
  rotate_left
  · have g4 : (r1 == r2) = false := by simpa using q4
    simp only [go_sem, decide_true, decide_false, Nat.lt_irrefl, h3, g1, g2, g3, g4]
    (refine ⟨S, by (repeat (first | exact Sub.refl _ | refine Sub.setF ?_ (by first | assumption | exact And.right (by assumption) | exact And.right (And.right (by assumption)) | exact And.right (And.right (And.right (by assumption))) | exact And.right (And.right (And.right (And.right (by assumption)))) | exact And.right (And.right (And.right (And.right (And.right (by assumption))))) | exact And.right (And.right (And.right (And.right (And.right (And.right (by assumption)))))) | exact And.right (And.right (And.right (And.right (And.right (And.right (And.right (by assumption))))))) | exact And.right (And.right (And.right (And.right (And.right (And.right (And.right (And.right (by assumption)))))))) | exact And.right (And.right (And.right (And.right (And.right (And.right (And.right (And.right (And.right (by assumption)))))))))) | refine Sub.setV ?_ (by first | assumption | exact And.right (by assumption) | exact And.right (And.right (by assumption)) | exact And.right (And.right (And.right (by assumption))) | exact And.right (And.right (And.right (And.right (by assumption)))) | exact And.right (And.right (And.right (And.right (And.right (by assumption))))) | exact And.right (And.right (And.right (And.right (And.right (And.right (by assumption)))))) | exact And.right (And.right (And.right (And.right (And.right (And.right (And.right (by assumption))))))) | exact And.right (And.right (And.right (And.right (And.right (And.right (And.right (And.right (by assumption)))))))) | exact And.right (And.right (And.right (And.right (And.right (And.right (And.right (And.right (And.right (by assumption)))))))))))), ?_⟩); simp [q4]
  have g4 : (r1 == r2) = true := by simpa using q4
  simp only [go_sem, decide_true, decide_false, Nat.lt_irrefl, h3, g1, g2, g3, g4]
  refine (eq_events e1 e2 ha).useA ?_
  simp only [go_sem, decide_true, decide_false, Nat.lt_irrefl, h3]
  (refine ⟨S, by (repeat (first | exact Sub.refl _ | refine Sub.setF ?_ (by first | assumption | exact And.right (by assumption) | exact And.right (And.right (by assumption)) | exact And.right (And.right (And.right (by assumption))) | exact And.right (And.right (And.right (And.right (by assumption)))) | exact And.right (And.right (And.right (And.right (And.right (by assumption))))) | exact And.right (And.right (And.right (And.right (And.right (And.right (by assumption)))))) | exact And.right (And.right (And.right (And.right (And.right (And.right (And.right (by assumption))))))) | exact And.right (And.right (And.right (And.right (And.right (And.right (And.right (And.right (by assumption)))))))) | exact And.right (And.right (And.right (And.right (And.right (And.right (And.right (And.right (And.right (by assumption)))))))))) | refine Sub.setV ?_ (by first | assumption | exact And.right (by assumption) | exact And.right (And.right (by assumption)) | exact And.right (And.right (And.right (by assumption))) | exact And.right (And.right (And.right (And.right (by assumption)))) | exact And.right (And.right (And.right (And.right (And.right (by assumption))))) | exact And.right (And.right (And.right (And.right (And.right (And.right (by assumption)))))) | exact And.right (And.right (And.right (And.right (And.right (And.right (And.right (by assumption))))))) | exact And.right (And.right (And.right (And.right (And.right (And.right (And.right (And.right (by assumption)))))))) | exact And.right (And.right (And.right (And.right (And.right (And.right (And.right (And.right (And.right (by assumption)))))))))))), ?_⟩); simp [q1, q2, q3, q4]
set_option maxRecDepth 16000 in
set_option maxHeartbeats 1000000 in
theorem ref12_Same (a b : Buf) (ha : a.evs.length < 1099511627776) : Pure Try.prog 40 [a.av, b.av] (bl (decide (a = b))) := fun S => by
  obtain ⟨l1, r1, m1, f1, e1⟩ := a
  obtain ⟨l2, r2, m2, f2, e2⟩ := b
  dsimp only at ha
  refine callR_of Try.func40 rfl rfl (xc_ok (bitB 31) _ _ _ ?_)
  simp only [go_sem, decide_true, decide_false, Nat.lt_irrefl]
  refine alloc_intro fun c2 h2 => ?_
  simp only [go_sem, decide_true, decide_false, Nat.lt_irrefl]
  refine alloc_intro fun c3 h3 => ?_
  simp only [fresh_set] at h3
  by_cases q1 : l1 = l2
  rotate_left
  · have g1 : (l1 == l2) = false := by simpa using q1
    simp only [go_sem, decide_true, decide_false, Nat.lt_irrefl, h3, g1]
    (refine ⟨S, by (repeat (first | exact Sub.refl _ | refine Sub.setF ?_ (by first | assumption | exact And.right (by assumption) | exact And.right (And.right (by assumption)) | exact And.right (And.right (And.right (by assumption))) | exact And.right (And.right (And.right (And.right (by assumption)))) | exact And.right (And.right (And.right (And.right (And.right (by assumption))))) | exact And.right (And.right (And.right (And.right (And.right (And.right (by assumption)))))) | exact And.right (And.right (And.right (And.right (And.right (And.right (And.right (by assumption))))))) | exact And.right (And.right (And.right (And.right (And.right (And.right (And.right (And.right (by assumption)))))))) | exact And.right (And.right (And.right (And.right (And.right (And.right (And.right (And.right (And.right (by assumption)))))))))) | refine Sub.setV ?_ (by first | assumption | exact And.right (by assumption) | exact And.right (And.right (by assumption)) | exact And.right (And.right (And.right (by assumption))) | exact And.right (And.right (And.right (And.right (by assumption)))) | exact And.right (And.right (And.right (And.right (And.right (by assumption))))) | exact And.right (And.right (And.right (And.right (And.right (And.right (by assumption)))))) | exact And.right (And.right (And.right (And.right (And.right (And.right (And.right (by assumption))))))) | exact And.right (And.right (And.right (And.right (And.right (And.right (And.right (And.right (by assumption)))))))) | exact And.right (And.right (And.right (And.right (And.right (And.right (And.right (And.right (And.right (by assumption)))))))))))), ?_⟩); simp [q1]
  have g1 : (l1 == l2) = true := by simpa using q1
  by_cases q4 : r1 = r2
  rotate_left
  · have g4 : (r1 == r2) = false := by simpa using q4
    simp only [go_sem, decide_true, decide_false, Nat.lt_irrefl, h3, g1, g4]
    (refine ⟨S, by (repeat (first | exact Sub.refl _ | refine Sub.setF ?_ (by first | assumption | exact And.right (by assumption) | exact And.right (And.right (by assumption)) | exact And.right (And.right (And.right (by assumption))) | exact And.right (And.right (And.right (And.right (by assumption)))) | exact And.right (And.right (And.right (And.right (And.right (by assumption))))) | exact And.right (And.right (And.right (And.right (And.right (And.right (by assumption)))))) | exact And.right (And.right (And.right (And.right (And.right (And.right (And.right (by assumption))))))) | exact And.right (And.right (And.right (And.right (And.right (And.right (And.right (And.right (by assumption)))))))) | exact And.right (And.right (And.right (And.right (And.right (And.right (And.right (And.right (And.right (by assumption)))))))))) | refine Sub.setV ?_ (by first | assumption | exact And.right (by assumption) | exact And.right (And.right (by assumption)) | exact And.right (And.right (And.right (by assumption))) | exact And.right (And.right (And.right (And.right (by assumption)))) | exact And.right (And.right (And.right (And.right (And.right (by assumption))))) | exact And.right (And.right (And.right (And.right (And.right (And.right (by assumption)))))) | exact And.right (And.right (And.right (And.right (And.right (And.right (And.right (by assumption))))))) | exact And.right (And.right (And.right (And.right (And.right (And.right (And.right (And.right (by assumption)))))))) | exact And.right (And.right (And.right (And.right (And.right (And.right (And.right (And.right (And.right (by assumption)))))))))))), ?_⟩); simp [q4]
  have g4 : (r1 == r2) = true := by simpa using q4
  by_cases q2 : m1 = m2
  rotate_left
  · have g2 : (m1 == m2) = false := by simpa using q2
    simp only [go_sem, decide_true, decide_false, Nat.lt_irrefl, h3, g1, g4, g2]
    (refine ⟨S, by (repeat (first | exact Sub.refl _ | refine Sub.setF ?_ (by first | assumption | exact And.right (by assumption) | exact And.right (And.right (by assumption)) | exact And.right (And.right (And.right (by assumption))) | exact And.right (And.right (And.right (And.right (by assumption)))) | exact And.right (And.right (And.right (And.right (And.right (by assumption))))) | exact And.right (And.right (And.right (And.right (And.right (And.right (by assumption)))))) | exact And.right (And.right (And.right (And.right (And.right (And.right (And.right (by assumption))))))) | exact And.right (And.right (And.right (And.right (And.right (And.right (And.right (And.right (by assumption)))))))) | exact And.right (And.right (And.right (And.right (And.right (And.right (And.right (And.right (And.right (by assumption)))))))))) | refine Sub.setV ?_ (by first | assumption | exact And.right (by assumption) | exact And.right (And.right (by assumption)) | exact And.right (And.right (And.right (by assumption))) | exact And.right (And.right (And.right (And.right (by assumption)))) | exact And.right (And.right (And.right (And.right (And.right (by assumption))))) | exact And.right (And.right (And.right (And.right (And.right (And.right (by assumption)))))) | exact And.right (And.right (And.right (And.right (And.right (And.right (And.right (by assumption))))))) | exact And.right (And.right (And.right (And.right (And.right (And.right (And.right (And.right (by assumption)))))))) | exact And.right (And.right (And.right (And.right (And.right (And.right (And.right (And.right (And.right (by assumption)))))))))))), ?_⟩); simp [q2]
  have g2 : (m1 == m2) = true := by simpa using q2
  by_cases q3 : f1 = f2
  rotate_left
  · have g3 : (f1 == f2) = false := by simpa using q3
    simp only [go_sem, decide_true, decide_false, Nat.lt_irrefl, h3, g1, g2, g3, g4]
    (refine ⟨S, by (repeat (first | exact Sub.refl _ | refine Sub.setF ?_ (by first | assumption | exact And.right (by assumption) | exact And.right (And.right (by assumption)) | exact And.right (And.right (And.right (by assumption))) | exact And.right (And.right (And.right (And.right (by assumption)))) | exact And.right (And.right (And.right (And.right (And.right (by assumption))))) | exact And.right (And.right (And.right (And.right (And.right (And.right (by assumption)))))) | exact And.right (And.right (And.right (And.right (And.right (And.right (And.right (by assumption))))))) | exact And.right (And.right (And.right (And.right (And.right (And.right (And.right (And.right (by assumption)))))))) | exact And.right (And.right (And.right (And.right (And.right (And.right (And.right (And.right (And.right (by assumption)))))))))) | refine Sub.setV ?_ (by first | assumption | exact And.right (by assumption) | exact And.right (And.right (by assumption)) | exact And.right (And.right (And.right (by assumption))) | exact And.right (And.right (And.right (And.right (by assumption)))) | exact And.right (And.right (And.right (And.right (And.right (by assumption))))) | exact And.right (And.right (And.right (And.right (And.right (And.right (by assumption)))))) | exact And.right (And.right (And.right (And.right (And.right (And.right (And.right (by assumption))))))) | exact And.right (And.right (And.right (And.right (And.right (And.right (And.right (And.right (by assumption)))))))) | exact And.right (And.right (And.right (And.right (And.right (And.right (And.right (And.right (And.right (by assumption)))))))))))), ?_⟩); simp [q3]
  have g3 : (f1 == f2) = true := by simpa using q3
  simp only [go_sem, decide_true, decide_false, Nat.lt_irrefl, h3, g1, g2, g3, g4]
  refine (ref12_Events e1 e2 ha).useA ?_
  simp only [go_sem, decide_true, decide_false, Nat.lt_irrefl, h3]
  (refine ⟨S, by (repeat (first | exact Sub.refl _ | refine Sub.setF ?_ (by first | assumption | exact And.right (by assumption) | exact And.right (And.right (by assumption)) | exact And.right (And.right (And.right (by assumption))) | exact And.right (And.right (And.right (And.right (by assumption)))) | exact And.right (And.right (And.right (And.right (And.right (by assumption))))) | exact And.right (And.right (And.right (And.right (And.right (And.right (by assumption)))))) | exact And.right (And.right (And.right (And.right (And.right (And.right (And.right (by assumption))))))) | exact And.right (And.right (And.right (And.right (And.right (And.right (And.right (And.right (by assumption)))))))) | exact And.right (And.right (And.right (And.right (And.right (And.right (And.right (And.right (And.right (by assumption)))))))))) | refine Sub.setV ?_ (by first | assumption | exact And.right (by assumption) | exact And.right (And.right (by assumption)) | exact And.right (And.right (And.right (by assumption))) | exact And.right (And.right (And.right (And.right (by assumption)))) | exact And.right (And.right (And.right (And.right (And.right (by assumption))))) | exact And.right (And.right (And.right (And.right (And.right (And.right (by assumption)))))) | exact And.right (And.right (And.right (And.right (And.right (And.right (And.right (by assumption))))))) | exact And.right (And.right (And.right (And.right (And.right (And.right (And.right (And.right (by assumption)))))))) | exact And.right (And.right (And.right (And.right (And.right (And.right (And.right (And.right (And.right (by assumption)))))))))))), ?_⟩); simp [q1, q2, q3, q4]
theorem ref12_Conf (late : Nat) (room : Int) : Pure Try.prog 23 [u64 late, i64 room] (bl (decide (late ≤ 4611686018427387904 ∧ 1 ≤ room ∧ room ≤ 1024))) := fun S => by
  refine callR_of Try.func23 rfl rfl (xc_ok (bitB 19) _ _ _ ?_)
  simp only [go_sem, decide_true, decide_false, Nat.lt_irrefl]
  by_cases c1 : late ≤ 4611686018427387904
  rotate_left
  · simp only [go_sem, decide_true, decide_false, Nat.lt_irrefl, c1]
    (refine ⟨S, by (repeat (first | exact Sub.refl _ | refine Sub.setF ?_ (by first | assumption | exact And.right (by assumption) | exact And.right (And.right (by assumption)) | exact And.right (And.right (And.right (by assumption))) | exact And.right (And.right (And.right (And.right (by assumption)))) | exact And.right (And.right (And.right (And.right (And.right (by assumption))))) | exact And.right (And.right (And.right (And.right (And.right (And.right (by assumption)))))) | exact And.right (And.right (And.right (And.right (And.right (And.right (And.right (by assumption))))))) | exact And.right (And.right (And.right (And.right (And.right (And.right (And.right (And.right (by assumption)))))))) | exact And.right (And.right (And.right (And.right (And.right (And.right (And.right (And.right (And.right (by assumption)))))))))) | refine Sub.setV ?_ (by first | assumption | exact And.right (by assumption) | exact And.right (And.right (by assumption)) | exact And.right (And.right (And.right (by assumption))) | exact And.right (And.right (And.right (And.right (by assumption)))) | exact And.right (And.right (And.right (And.right (And.right (by assumption))))) | exact And.right (And.right (And.right (And.right (And.right (And.right (by assumption)))))) | exact And.right (And.right (And.right (And.right (And.right (And.right (And.right (by assumption))))))) | exact And.right (And.right (And.right (And.right (And.right (And.right (And.right (And.right (by assumption)))))))) | exact And.right (And.right (And.right (And.right (And.right (And.right (And.right (And.right (And.right (by assumption)))))))))))), ?_⟩); simp [c1]
  by_cases c2 : 1 ≤ room
  rotate_left
  · simp only [go_sem, decide_true, decide_false, Nat.lt_irrefl, c1, c2]
    (refine ⟨S, by (repeat (first | exact Sub.refl _ | refine Sub.setF ?_ (by first | assumption | exact And.right (by assumption) | exact And.right (And.right (by assumption)) | exact And.right (And.right (And.right (by assumption))) | exact And.right (And.right (And.right (And.right (by assumption)))) | exact And.right (And.right (And.right (And.right (And.right (by assumption))))) | exact And.right (And.right (And.right (And.right (And.right (And.right (by assumption)))))) | exact And.right (And.right (And.right (And.right (And.right (And.right (And.right (by assumption))))))) | exact And.right (And.right (And.right (And.right (And.right (And.right (And.right (And.right (by assumption)))))))) | exact And.right (And.right (And.right (And.right (And.right (And.right (And.right (And.right (And.right (by assumption)))))))))) | refine Sub.setV ?_ (by first | assumption | exact And.right (by assumption) | exact And.right (And.right (by assumption)) | exact And.right (And.right (And.right (by assumption))) | exact And.right (And.right (And.right (And.right (by assumption)))) | exact And.right (And.right (And.right (And.right (And.right (by assumption))))) | exact And.right (And.right (And.right (And.right (And.right (And.right (by assumption)))))) | exact And.right (And.right (And.right (And.right (And.right (And.right (And.right (by assumption))))))) | exact And.right (And.right (And.right (And.right (And.right (And.right (And.right (And.right (by assumption)))))))) | exact And.right (And.right (And.right (And.right (And.right (And.right (And.right (And.right (And.right (by assumption)))))))))))), ?_⟩); simp [c1, c2]
  · simp only [go_sem, decide_true, decide_false, Nat.lt_irrefl, c1, c2]
    (refine ⟨S, by (repeat (first | exact Sub.refl _ | refine Sub.setF ?_ (by first | assumption | exact And.right (by assumption) | exact And.right (And.right (by assumption)) | exact And.right (And.right (And.right (by assumption))) | exact And.right (And.right (And.right (And.right (by assumption)))) | exact And.right (And.right (And.right (And.right (And.right (by assumption))))) | exact And.right (And.right (And.right (And.right (And.right (And.right (by assumption)))))) | exact And.right (And.right (And.right (And.right (And.right (And.right (And.right (by assumption))))))) | exact And.right (And.right (And.right (And.right (And.right (And.right (And.right (And.right (by assumption)))))))) | exact And.right (And.right (And.right (And.right (And.right (And.right (And.right (And.right (And.right (by assumption)))))))))) | refine Sub.setV ?_ (by first | assumption | exact And.right (by assumption) | exact And.right (And.right (by assumption)) | exact And.right (And.right (And.right (by assumption))) | exact And.right (And.right (And.right (And.right (by assumption)))) | exact And.right (And.right (And.right (And.right (And.right (by assumption))))) | exact And.right (And.right (And.right (And.right (And.right (And.right (by assumption)))))) | exact And.right (And.right (And.right (And.right (And.right (And.right (And.right (by assumption))))))) | exact And.right (And.right (And.right (And.right (And.right (And.right (And.right (And.right (by assumption)))))))) | exact And.right (And.right (And.right (And.right (And.right (And.right (And.right (And.right (And.right (by assumption)))))))))))), ?_⟩); simp [c1, c2]
theorem ref12_Weight (b : Buf) (hl : b.evs.length < 4611686018427387904) : Pure Try.prog 52 [b.av] (u64 (sumV (fun _ => true) Event.w 0 b.evs)) := fun S => by
  refine callR_of Try.func52 rfl rfl (xc_ok (bitB 543) _ _ _ ?_)
  simp only [go_sem, decide_true, decide_false, Nat.lt_irrefl]
  refine alloc_intro fun c1 h1 => ?_
  simp only [go_sem, decide_true, decide_false, Nat.lt_irrefl]
  refine AWP.iter (fun i => ⟨Env.get [(1, .sp c1 0), (3, u64 (sumV (fun _ => true) Event.w 0 (b.evs.take i))), (4, i64 i)], S.set (.r c1) (.cells [u64 b.late, i64 b.room, u64 b.mark, u64 b.front, .p (.sl (b.evs.map Event.pv))]), 21, []⟩) b.evs.length ?_ ?_ ?_
  · exact le_of (by simp only [go_sem, decide_true, decide_false, Nat.lt_irrefl, List.take_zero] <;> simp [sumV]) (Sub.refl _) rfl rfl (by simp)
  · intro i hi ih
    refine AWPH.step (xc_ok (bitB 543) _ _ _ ?_)
    simp only [go_sem, decide_true, decide_false, Nat.lt_irrefl, hi, ltN' hi, getD_map' _ _ _ _ hi, List.length_map]
    refine ih.back (Sub.refl _) (by simp) ?_
    simp only [go_sem, decide_true, decide_false, Nat.lt_irrefl, sumV_snoc _ _ 0 b.evs i hi, wi_succ (show i < 4611686018427387904 by omega)]
  · refine AWPH.step (xc_ok (bitB 543) _ _ _ ?_)
    simp only [go_sem, decide_true, decide_false, Nat.lt_irrefl, List.take_length, List.length_map]
    (refine ⟨S, by (repeat (first | exact Sub.refl _ | refine Sub.setF ?_ (by first | assumption | exact And.right (by assumption) | exact And.right (And.right (by assumption)) | exact And.right (And.right (And.right (by assumption))) | exact And.right (And.right (And.right (And.right (by assumption)))) | exact And.right (And.right (And.right (And.right (And.right (by assumption))))) | exact And.right (And.right (And.right (And.right (And.right (And.right (by assumption)))))) | exact And.right (And.right (And.right (And.right (And.right (And.right (And.right (by assumption))))))) | exact And.right (And.right (And.right (And.right (And.right (And.right (And.right (And.right (by assumption)))))))) | exact And.right (And.right (And.right (And.right (And.right (And.right (And.right (And.right (And.right (by assumption)))))))))) | refine Sub.setV ?_ (by first | assumption | exact And.right (by assumption) | exact And.right (And.right (by assumption)) | exact And.right (And.right (And.right (by assumption))) | exact And.right (And.right (And.right (And.right (by assumption)))) | exact And.right (And.right (And.right (And.right (And.right (by assumption))))) | exact And.right (And.right (And.right (And.right (And.right (And.right (by assumption)))))) | exact And.right (And.right (And.right (And.right (And.right (And.right (And.right (by assumption))))))) | exact And.right (And.right (And.right (And.right (And.right (And.right (And.right (And.right (by assumption)))))))) | exact And.right (And.right (And.right (And.right (And.right (And.right (And.right (And.right (And.right (by assumption)))))))))))), ?_⟩); simp
end Go.Sk
end
