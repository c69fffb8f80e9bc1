/- Texts A20 W7 W15p A21 W15q A22 W15s LE L15a L15e, joined. -/
import Derived.Test.YtjiechgnlcpllaaL15R1
import Derived.Test.YtjiechgnlcpllaaW0
import Derived.Test.YtjiechgnlcpllaaW6d
import Derived.Test.YtjiechgnlcpllaaSkSc
import Derived.Test.YtjiechgnlcpllaaSkRg
import Derived.Test.YtjiechgnlcpllaaLB
set_option linter.unusedSimpArgs false
set_option linter.unusedVariables false
set_option linter.unusedSectionVars false
-- A20
section
namespace Go.Sk

/-- Is a tick too old? -/
noncomputable def oldV (f w t : Nat) : Bool := decide (w ≤ f) && decide (t ≤ sub64 f w)
def Anti (o : Nat → Bool) : Prop := ∀ x y, x ≤ y → o y = true → o x = true
theorem oldV_anti (f w : Nat) : Anti (oldV f w) := by
  intro x y h hy
  unfold oldV at *
  simp only [Bool.and_eq_true, decide_eq_true_eq] at *
  exact ⟨hy.1, by omega⟩
/-- How many at the head of a level are too old. -/
def oldN (o : Nat → Bool) : List Span → Nat
  | [] => 0
  | s :: l => if o s.b = true then oldN o l + 1 else 0
/-- What is left: level by level, as long as there is something. -/
def dropG (o : Nat → Bool) : List (List Span) → List (List Span)
  | [] => []
  | l :: r => if oldN o l < l.length then l.drop (oldN o l) :: dropG o r else []
theorem oldN_cons (o : Nat → Bool) (s : Span) (l : List Span) : oldN o (s :: l) = if o s.b = true then oldN o l + 1 else 0 := rfl
theorem oldN_le (o : Nat → Bool) (l : List Span) : oldN o l ≤ l.length := by
  induction l with
  | nil => exact Nat.le_refl _
  | cons s l ih => unfold oldN; split <;> simp <;> omega
theorem oldN_lt (o : Nat → Bool) : ∀ (l : List Span) (i : Nat) (h : i < l.length), i < oldN o l → o (l[i]).b = true := by
  intro l
  induction l with
  | nil => intro i h; simp at h
  | cons s l ih =>
    intro i h hi
    unfold oldN at hi
    split at hi
    · rename_i c
      cases i with
      | zero => exact c
      | succ i => exact ih i (by simpa using h) (by omega)
    · omega
theorem oldN_at (o : Nat → Bool) : ∀ (l : List Span) (h : oldN o l < l.length), o (l[oldN o l]).b = false := by
  intro l
  induction l with
  | nil => intro h; simp at h
  | cons s l ih =>
    intro h
    by_cases c : o s.b = true
    · have e : oldN o (s :: l) = oldN o l + 1 := by rw [oldN_cons, if_pos c]
      have h2 : oldN o l < l.length := by rw [e] at h; simpa using h
      simp only [e, List.getElem_cons_succ]
      exact ih h2
    · have e : oldN o (s :: l) = 0 := by rw [oldN_cons, if_neg c]
      simp only [e, List.getElem_cons_zero]
      simpa using c
/-- One by one: i of a level are too old. -/
theorem oldN_step (o : Nat → Bool) (l : List Span) (i : Nat) (h : i < l.length) (hi : i ≤ oldN o l) : (o (l[i]).b = true → i + 1 ≤ oldN o l) ∧ (o (l[i]).b = false → i = oldN o l) := by
  refine ⟨fun hb => ?_, fun hb => ?_⟩
  · apply Classical.byContradiction
    intro hc
    obtain rfl : i = oldN o l := by omega
    rw [oldN_at o l h] at hb; cases hb
  · apply Classical.byContradiction
    intro hc
    rw [oldN_lt o l i h (by omega)] at hb; cases hb

def stayF (o : Nat → Bool) (l : List Span) : List Span := l.filter (fun s => !o s.b)
def manyF : Nat → Nat → List (List Span) → Nat
  | _, n, [] => n
  | i, n, l :: r => manyF (i + 1) (if l = [] then n else i + 1) r
def dropH (D : List (List Span) → List (List Span)) (h : Hist) : Hist := ⟨h.k, h.g, D h.ls⟩
/-- By the document. -/
def docD (o : Nat → Bool) (ls : List (List Span)) : List (List Span) := (ls.map (stayF o)).take (manyF 0 0 (ls.map (stayF o)))
theorem manyF_snoc (l : List Span) : ∀ (r : List (List Span)) (i n : Nat), manyF i n (r ++ [l]) = if l = [] then manyF i n r else i + r.length + 1 := by
  intro r
  induction r with
  | nil => intro i n; simp [manyF]
  | cons x r ih => intro i n; simp only [List.cons_append, manyF, ih, List.length_cons]; split <;> omega
theorem manyF_all : ∀ (r : List (List Span)) (i n : Nat), (∀ l ∈ r, l = []) → manyF i n r = n := by
  intro r
  induction r with
  | nil => intro i n _; rfl
  | cons x r ih => intro i n h; unfold manyF; rw [if_pos (h x (by simp)), ih _ _ (fun l hl => h l (by simp [hl]))]
theorem manyF_ge : ∀ (r : List (List Span)) (i n : Nat), n ≤ i → manyF i n r = n ∨ i < manyF i n r := by
  intro r
  induction r with
  | nil => intro i n _; exact Or.inl rfl
  | cons x r ih =>
    intro i n h
    unfold manyF
    split
    · rcases ih (i + 1) n (by omega) with e | e
      · exact Or.inl e
      · exact Or.inr (by omega)
    · rcases ih (i + 1) (i + 1) (by omega) with e | e
      · exact Or.inr (by omega)
      · exact Or.inr (by omega)
theorem manyF_le : ∀ (r : List (List Span)) (i n : Nat), n ≤ i → manyF i n r ≤ i + r.length := by
  intro r
  induction r with
  | nil => intro i n h; simpa [manyF] using h
  | cons x r ih =>
    intro i n h
    unfold manyF
    rw [List.length_cons]
    split
    · have := ih (i + 1) n (by omega); omega
    · have := ih (i + 1) (i + 1) (by omega); omega
/-- Of a sorted level, what stays is its end. -/
theorem stay_drop {o : Nat → Bool} (ho : Anti o) : ∀ l : List Span, l.Pairwise Bef → (∀ s ∈ l, s.a ≤ s.b) → stayF o l = l.drop (oldN o l) := by
  intro l
  induction l with
  | nil => intro _ _; rfl
  | cons s l ih =>
    intro h hv
    rw [List.pairwise_cons] at h
    have hvs := fun x hx => hv x (List.mem_cons_of_mem _ hx)
    unfold stayF at *
    rw [oldN_cons]
    by_cases c : o s.b = true
    · rw [if_pos c, List.drop_succ_cons, List.filter_cons_of_neg (by simp [c])]
      exact ih h.2 hvs
    · rw [if_neg c, List.drop_zero, List.filter_eq_self]
      intro x hx
      rcases List.mem_cons.1 hx with rfl | hx
      · simpa using c
      · have h1 : s.b ≤ x.b := Nat.le_trans (h.1 x hx) (hvs x hx)
        cases hb : o x.b with
        | false => rfl
        | true => exact absurd (ho _ _ h1 hb) c
theorem doc_go_aux {o : Nat → Bool} (ho : Anti o) : ∀ (ls : List (List Span)) (i : Nat), (flat ls).Pairwise Bef → (∀ s ∈ flat ls, s.a ≤ s.b) → (∀ l ∈ ls, l ≠ []) →
    (ls.map (stayF o)).take (manyF i i (ls.map (stayF o)) - i) = dropG o ls := by
  intro ls
  induction ls with
  | nil => intro i _ _ _; simp [dropG]
  | cons l r ih =>
    intro i hs hv hne
    obtain ⟨s1, s2, s3⟩ := List.pairwise_append.1 (show (flat r ++ l).Pairwise Bef from hs)
    have hvl : ∀ s ∈ l, s.a ≤ s.b := fun s h => hv s (List.mem_append_right _ h)
    have hvr : ∀ s ∈ flat r, s.a ≤ s.b := fun s h => hv s (List.mem_append_left _ h)
    have hst := stay_drop ho l s2 hvl
    have hle := oldN_le o l
    unfold dropG
    by_cases c : oldN o l < l.length
    · rw [if_pos c]
      have hn : stayF o l ≠ [] := by rw [hst]; intro e; have := congrArg List.length e; simp at this; omega
      have ihr := ih (i + 1) s1 hvr (fun x hx => hne x (by simp [hx]))
      simp only [List.map_cons, manyF]
      rw [if_neg hn]
      have hge : i + 1 ≤ manyF (i + 1) (i + 1) (r.map (stayF o)) := by
        rcases manyF_ge (r.map (stayF o)) (i + 1) (i + 1) (Nat.le_refl _) with e | e <;> omega
      rw [show manyF (i + 1) (i + 1) (r.map (stayF o)) - i = (manyF (i + 1) (i + 1) (r.map (stayF o)) - (i + 1)) + 1 by omega, List.take_succ_cons, ihr, hst]
    · rw [if_neg c]
      have hz : stayF o l = [] := by rw [hst]; exact List.drop_of_length_le (by omega)
      have hl0 : 0 < l.length := List.length_pos_iff.2 (hne l (by simp))
      have hold : o (l[0]).b = true := oldN_lt o l 0 hl0 (by omega)
      have hall : ∀ x ∈ flat r, o x.b = true := fun x hx => by
        have h1 := s3 x hx l[0] (List.getElem_mem hl0)
        exact ho _ _ (Nat.le_trans h1 (hvl _ (List.getElem_mem hl0))) hold
      have hmem : ∀ (r : List (List Span)), ∀ m ∈ r, ∀ x ∈ m, x ∈ flat r := by
        intro r
        induction r with
        | nil => intro m hm; cases hm
        | cons y r ih2 =>
          intro m hm x hx
          rcases List.mem_cons.1 hm with rfl | hm
          · exact List.mem_append_right _ hx
          · exact List.mem_append_left _ (ih2 m hm x hx)
      have he : ∀ m ∈ r.map (stayF o), m = [] := by
        intro m hm
        obtain ⟨y, hy, rfl⟩ := List.mem_map.1 hm
        unfold stayF
        rw [List.filter_eq_nil_iff]
        intro x hx
        rw [hall x (hmem r y hy x hx)]; simp
      simp only [List.map_cons, manyF]
      rw [if_pos hz, manyF_all _ _ _ he, Nat.sub_self, List.take_zero]
/-- Both leave the same. -/
theorem docD_eq {o : Nat → Bool} (ho : Anti o) {k : Nat} {ls : List (List Span)} (h : Tidy k ls) (hne : ∀ l ∈ ls, l ≠ []) : docD o ls = dropG o ls := by
  have := doc_go_aux ho ls 0 h.srt h.val hne
  rw [Nat.sub_zero] at this
  exact this
end Go.Sk
end

-- W7
section
namespace Go.Sk
open Go Go.Proofs

theorem exp_Old (t f w : Nat) : Pure Try.prog 80 [u64 t, u64 f, u64 w] (bl (oldV f w t)) := fun S => by
  refine callR_of Try.func80 rfl rfl (xc_ok (bitB 71) _ _ _ ?_)
  simp only [go_sem, decide_true, decide_false, Nat.lt_irrefl]
  by_cases h1 : w ≤ f
  · simp only [go_sem, decide_true, decide_false, Nat.lt_irrefl, h1]
    (refine ⟨S, by (repeat (first | exact Sub.refl _ | refine Sub.setF ?_ (by first | assumption | exact And.right (by assumption) | exact And.right (And.right (by assumption)) | exact And.right (And.right (And.right (by assumption))) | exact And.right (And.right (And.right (And.right (by assumption)))) | exact And.right (And.right (And.right (And.right (And.right (by assumption))))) | exact And.right (And.right (And.right (And.right (And.right (And.right (by assumption)))))) | exact And.right (And.right (And.right (And.right (And.right (And.right (And.right (by assumption))))))) | exact And.right (And.right (And.right (And.right (And.right (And.right (And.right (And.right (by assumption)))))))) | exact And.right (And.right (And.right (And.right (And.right (And.right (And.right (And.right (And.right (by assumption)))))))))) | refine Sub.setV ?_ (by first | assumption | exact And.right (by assumption) | exact And.right (And.right (by assumption)) | exact And.right (And.right (And.right (by assumption))) | exact And.right (And.right (And.right (And.right (by assumption)))) | exact And.right (And.right (And.right (And.right (And.right (by assumption))))) | exact And.right (And.right (And.right (And.right (And.right (And.right (by assumption)))))) | exact And.right (And.right (And.right (And.right (And.right (And.right (And.right (by assumption))))))) | exact And.right (And.right (And.right (And.right (And.right (And.right (And.right (And.right (by assumption)))))))) | exact And.right (And.right (And.right (And.right (And.right (And.right (And.right (And.right (And.right (by assumption)))))))))))), ?_⟩); simp [oldV, h1]
  · simp only [go_sem, decide_true, decide_false, Nat.lt_irrefl, h1]
    (refine ⟨S, by (repeat (first | exact Sub.refl _ | refine Sub.setF ?_ (by first | assumption | exact And.right (by assumption) | exact And.right (And.right (by assumption)) | exact And.right (And.right (And.right (by assumption))) | exact And.right (And.right (And.right (And.right (by assumption)))) | exact And.right (And.right (And.right (And.right (And.right (by assumption))))) | exact And.right (And.right (And.right (And.right (And.right (And.right (by assumption)))))) | exact And.right (And.right (And.right (And.right (And.right (And.right (And.right (by assumption))))))) | exact And.right (And.right (And.right (And.right (And.right (And.right (And.right (And.right (by assumption)))))))) | exact And.right (And.right (And.right (And.right (And.right (And.right (And.right (And.right (And.right (by assumption)))))))))) | refine Sub.setV ?_ (by first | assumption | exact And.right (by assumption) | exact And.right (And.right (by assumption)) | exact And.right (And.right (And.right (by assumption))) | exact And.right (And.right (And.right (And.right (by assumption)))) | exact And.right (And.right (And.right (And.right (And.right (by assumption))))) | exact And.right (And.right (And.right (And.right (And.right (And.right (by assumption)))))) | exact And.right (And.right (And.right (And.right (And.right (And.right (And.right (by assumption))))))) | exact And.right (And.right (And.right (And.right (And.right (And.right (And.right (And.right (by assumption)))))))) | exact And.right (And.right (And.right (And.right (And.right (And.right (And.right (And.right (And.right (by assumption)))))))))))), ?_⟩); simp [oldV, h1]
theorem ref07_Old (t f w : Nat) : Pure Try.prog 82 [u64 t, u64 f, u64 w] (bl (oldV f w t)) := fun S => by
  refine callR_of Try.func82 rfl rfl (xc_ok (bitB 71) _ _ _ ?_)
  simp only [go_sem, decide_true, decide_false, Nat.lt_irrefl]
  by_cases h1 : w ≤ f
  · simp only [go_sem, decide_true, decide_false, Nat.lt_irrefl, h1]
    (refine ⟨S, by (repeat (first | exact Sub.refl _ | refine Sub.setF ?_ (by first | assumption | exact And.right (by assumption) | exact And.right (And.right (by assumption)) | exact And.right (And.right (And.right (by assumption))) | exact And.right (And.right (And.right (And.right (by assumption)))) | exact And.right (And.right (And.right (And.right (And.right (by assumption))))) | exact And.right (And.right (And.right (And.right (And.right (And.right (by assumption)))))) | exact And.right (And.right (And.right (And.right (And.right (And.right (And.right (by assumption))))))) | exact And.right (And.right (And.right (And.right (And.right (And.right (And.right (And.right (by assumption)))))))) | exact And.right (And.right (And.right (And.right (And.right (And.right (And.right (And.right (And.right (by assumption)))))))))) | refine Sub.setV ?_ (by first | assumption | exact And.right (by assumption) | exact And.right (And.right (by assumption)) | exact And.right (And.right (And.right (by assumption))) | exact And.right (And.right (And.right (And.right (by assumption)))) | exact And.right (And.right (And.right (And.right (And.right (by assumption))))) | exact And.right (And.right (And.right (And.right (And.right (And.right (by assumption)))))) | exact And.right (And.right (And.right (And.right (And.right (And.right (And.right (by assumption))))))) | exact And.right (And.right (And.right (And.right (And.right (And.right (And.right (And.right (by assumption)))))))) | exact And.right (And.right (And.right (And.right (And.right (And.right (And.right (And.right (And.right (by assumption)))))))))))), ?_⟩); simp [oldV, h1]
  · simp only [go_sem, decide_true, decide_false, Nat.lt_irrefl, h1]
    (refine ⟨S, by (repeat (first | exact Sub.refl _ | refine Sub.setF ?_ (by first | assumption | exact And.right (by assumption) | exact And.right (And.right (by assumption)) | exact And.right (And.right (And.right (by assumption))) | exact And.right (And.right (And.right (And.right (by assumption)))) | exact And.right (And.right (And.right (And.right (And.right (by assumption))))) | exact And.right (And.right (And.right (And.right (And.right (And.right (by assumption)))))) | exact And.right (And.right (And.right (And.right (And.right (And.right (And.right (by assumption))))))) | exact And.right (And.right (And.right (And.right (And.right (And.right (And.right (And.right (by assumption)))))))) | exact And.right (And.right (And.right (And.right (And.right (And.right (And.right (And.right (And.right (by assumption)))))))))) | refine Sub.setV ?_ (by first | assumption | exact And.right (by assumption) | exact And.right (And.right (by assumption)) | exact And.right (And.right (And.right (by assumption))) | exact And.right (And.right (And.right (And.right (by assumption)))) | exact And.right (And.right (And.right (And.right (And.right (by assumption))))) | exact And.right (And.right (And.right (And.right (And.right (And.right (by assumption)))))) | exact And.right (And.right (And.right (And.right (And.right (And.right (And.right (by assumption))))))) | exact And.right (And.right (And.right (And.right (And.right (And.right (And.right (And.right (by assumption)))))))) | exact And.right (And.right (And.right (And.right (And.right (And.right (And.right (And.right (And.right (by assumption)))))))))))), ?_⟩); simp [oldV, h1]
theorem exp_Drop1 {S : Store} {b1 b2 : Nat} (s : Span) (f w : Nat) (h1 : S (.r b1) = some (.cells [u64 f])) (h2 : S (.r b2) = some (.cells [u64 w])) :
    CallR Try.prog 79 [s.av, .sp b1 0, .sp b2 0] S (fun r S' => r = bl (oldV f w s.b) ∧ S' = S) := by
  refine callR_of Try.func79 rfl rfl (xc_ok (bitB 31) _ _ _ ?_)
  simp only [go_sem, decide_true, decide_false, Nat.lt_irrefl]
  refine alloc_intro fun b hb => ?_
  have n1 := hb.ne h1; have n2 := hb.ne h2
  simp only [go_sem, decide_true, decide_false, Nat.lt_irrefl, h1, h2, n1, n2]
  refine (exp_Old s.b f w).useA ?_
  simp only [go_sem, decide_true, decide_false, Nat.lt_irrefl]
  (refine ⟨S, by (repeat (first | exact Sub.refl _ | refine Sub.setF ?_ (by first | assumption | exact And.right (by assumption) | exact And.right (And.right (by assumption)) | exact And.right (And.right (And.right (by assumption))) | exact And.right (And.right (And.right (And.right (by assumption)))) | exact And.right (And.right (And.right (And.right (And.right (by assumption))))) | exact And.right (And.right (And.right (And.right (And.right (And.right (by assumption)))))) | exact And.right (And.right (And.right (And.right (And.right (And.right (And.right (by assumption))))))) | exact And.right (And.right (And.right (And.right (And.right (And.right (And.right (And.right (by assumption)))))))) | exact And.right (And.right (And.right (And.right (And.right (And.right (And.right (And.right (And.right (by assumption)))))))))) | refine Sub.setV ?_ (by first | assumption | exact And.right (by assumption) | exact And.right (And.right (by assumption)) | exact And.right (And.right (And.right (by assumption))) | exact And.right (And.right (And.right (And.right (by assumption)))) | exact And.right (And.right (And.right (And.right (And.right (by assumption))))) | exact And.right (And.right (And.right (And.right (And.right (And.right (by assumption)))))) | exact And.right (And.right (And.right (And.right (And.right (And.right (And.right (by assumption))))))) | exact And.right (And.right (And.right (And.right (And.right (And.right (And.right (And.right (by assumption)))))))) | exact And.right (And.right (And.right (And.right (And.right (And.right (And.right (And.right (And.right (by assumption)))))))))))), ?_⟩); simp

set_option maxHeartbeats 1000000 in
set_option maxRecDepth 8000 in
theorem exp_Drop (k g : Int) (ls : List (List Span)) (f w : Nat) (hn : ls.length < 1048576) (hl : ∀ l ∈ ls, l.length < 1048576) :
    Pure Try.prog 56 [(Hist.mk k g ls).av, u64 f, u64 w] (Hist.mk k g (dropG (oldV f w) ls)).av := fun S => by
  refine callR_of Try.func56 rfl rfl (xc_ok (bitB 69741846015) _ _ _ ?_)
  simp only [go_sem, decide_true, decide_false, Nat.lt_irrefl]
  refine alloc_intro fun c3 h3 => ?_
  simp only [go_sem, decide_true, decide_false, Nat.lt_irrefl]
  refine alloc_intro fun c4 h4 => ?_
  simp only [fresh_set] at h4
  simp only [go_sem, decide_true, decide_false, Nat.lt_irrefl, h4]
  refine alloc_intro fun c5 h5 => ?_
  simp only [fresh_set] at h5
  simp only [go_sem, decide_true, decide_false, Nat.lt_irrefl, h4, h5]
  refine alloc_intro fun c6 h6 => ?_
  simp only [fresh_set] at h6
  simp only [go_sem, decide_true, decide_false, Nat.lt_irrefl, h4, h5, h6]
  refine AWP.scope (xc_ok (bitB 69741846015) _ _ _ ?_)
  simp only [go_sem, decide_true, decide_false, Nat.lt_irrefl, h4, h5, h6]
  refine alloc_intro fun c8 h8 => ?_
  simp only [fresh_set] at h8
  simp only [go_sem, decide_true, decide_false, Nat.lt_irrefl, h4, h5, h6, h8]
  refine AWP.tipB c8 2 1 (cs := [i64 k, i64 g, .nils]) (by simp only [go_sem, decide_true, decide_false, Nat.lt_irrefl, h8]) rfl fun kk hkk => ?_
  simp only [freshv_setr] at hkk
  simp only [List.set]
  have y3 : S (.r c3) = none := h3
  have y4 : S (.r c4) = none := h4.2
  have y5 : S (.r c5) = none := h5.2.2
  have y6 : S (.r c6) = none := h6.2.2.2
  obtain ⟨o, ho⟩ : ∃ o, oldV f w = o := ⟨_, rfl⟩
  obtain ⟨V, hV⟩ : ∃ V : Store, V = (((S.set (.r c3) (.cells [i64 k, i64 g, .p (.sl (ls.map lvE))])).set (.r c4) (.cells [u64 f])).set (.r c5) (.cells [u64 w])).set (.r c6) (.cells [i64 0, i64 0, .nils]) := ⟨_, rfl⟩
  have v4 : V (.r c4) = some (.cells [u64 f]) := by rw [hV]; simp only [go_sem, decide_true, decide_false, Nat.lt_irrefl, h4, h5, h6]
  have v5 : V (.r c5) = some (.cells [u64 w]) := by rw [hV]; simp only [go_sem, decide_true, decide_false, Nat.lt_irrefl, h4, h5, h6]
  have v6 : V (.r c6) = some (.cells [i64 0, i64 0, .nils]) := by rw [hV]; simp only [go_sem, decide_true, decide_false, Nat.lt_irrefl, h4, h5, h6]
  have v8 : V (.r c8) = none := by rw [hV]; simp only [go_sem, decide_true, decide_false, Nat.lt_irrefl, h8]; exact h8.2.2.2.2
  have vk : V (.v kk) = none := by rw [hV]; simp only [go_sem, decide_true, decide_false, Nat.lt_irrefl]; exact hkk
  have vS : Sub S V := by rw [hV]; exact Sub.set (Sub.set (Sub.set (Sub.set (Sub.refl _) y3 _) y4 _) y5 _) y6 _
  have y8 : S (.r c8) = none := h8.2.2.2.2
  have yk : S (.v kk) = none := hkk
  have n84 : ¬ c4 = c8 ∧ ¬ c8 = c4 := ⟨h8.2.2.1.2, h8.2.2.1.1⟩
  have n85 : ¬ c5 = c8 ∧ ¬ c8 = c5 := ⟨h8.2.1.2, h8.2.1.1⟩
  have n86 : ¬ c6 = c8 ∧ ¬ c8 = c6 := ⟨h8.1.2, h8.1.1⟩
  rw [ho]
  refine AWP.roam (ι := Nat × Option Nat) (fun x => x.1 ≤ ls.length ∧ dropG o ls = (ls.take x.1).map (fun l => l.drop (oldN o l)) ++ dropG o (ls.drop x.1))
    (fun x => ⟨Env.get [(4, .sp c4 0), (5, .sp c5 0), (6, .sp c6 0), (7, .fn (.func 79) [] [.sp c4 0, .sp c5 0]), (8, .sp c8 0), (20, .p (.sl (ls.map lvE))), (21, i64 ls.length), (22, i64 x.1)],
      (V.set (.v kk) (.tip 1 x.1 x.2)).set (.r c8) (.cells [i64 k, i64 g, .ts kk 1 x.2 ((((ls.take x.1).map (fun l => l.drop (oldN o l)))).map lvE)]), 52, []⟩) (fun x => ls.length - x.1) (0, none) ⟨Nat.zero_le _, by simp⟩ ?_ ?_
  · refine le_of (by simp only [go_sem, decide_true, decide_false, Nat.lt_irrefl, List.length_map] <;> rfl) ?_ rfl rfl (by simp)
    rw [hV]
    ((try dsimp only); (repeat refine sub_set ?_ ?_) <;> first | ((repeat (first | exact Sub.refl _ | refine Sub.setF ?_ (by first | assumption | exact And.right (by assumption) | exact And.right (And.right (by assumption)) | exact And.right (And.right (And.right (by assumption))) | exact And.right (And.right (And.right (And.right (by assumption)))) | exact And.right (And.right (And.right (And.right (And.right (by assumption))))) | exact And.right (And.right (And.right (And.right (And.right (And.right (by assumption)))))) | exact And.right (And.right (And.right (And.right (And.right (And.right (And.right (by assumption))))))) | exact And.right (And.right (And.right (And.right (And.right (And.right (And.right (And.right (by assumption)))))))) | exact And.right (And.right (And.right (And.right (And.right (And.right (And.right (And.right (And.right (by assumption)))))))))) | refine Sub.setV ?_ (by first | assumption | exact And.right (by assumption) | exact And.right (And.right (by assumption)) | exact And.right (And.right (And.right (by assumption))) | exact And.right (And.right (And.right (And.right (by assumption)))) | exact And.right (And.right (And.right (And.right (And.right (by assumption))))) | exact And.right (And.right (And.right (And.right (And.right (And.right (by assumption)))))) | exact And.right (And.right (And.right (And.right (And.right (And.right (And.right (by assumption))))))) | exact And.right (And.right (And.right (And.right (And.right (And.right (And.right (And.right (by assumption)))))))) | exact And.right (And.right (And.right (And.right (And.right (And.right (And.right (And.right (And.right (by assumption)))))))))))); done) | (simp only [go_sem, decide_true, decide_false, Nat.lt_irrefl, h4, h5, h6, h8, hkk, List.take_zero, List.map_nil]; done) | (simp only [go_sem, decide_true, decide_false, Nat.lt_irrefl, h4, h5, h6, h8, hkk, List.take_zero, List.map_nil]; rfl) | rfl)
  clear hV h4 h5 h6 h8 hkk y3 y4 y5
  rintro ⟨i, loc⟩ ⟨hi, hG⟩ ih
  dsimp only at hi hG ⊢
  refine AWPH.step (xc_ok (bitB 69741846015) _ _ _ ?_)
  by_cases ci : i < ls.length
  rotate_left
  · obtain rfl : i = ls.length := by omega
    rw [List.drop_length, List.take_length] at hG
    simp only [dropG, List.append_nil] at hG
    simp only [go_sem, decide_true, decide_false, Nat.lt_irrefl, n86, v6, List.take_length, ← hG]
    refine ⟨S, ?_, ?_⟩
    · exact Sub.set (Sub.set (Sub.set vS yk _) y8 _) y6 _
    · simp
  simp only [go_sem, decide_true, decide_false, Nat.lt_irrefl, ci, ltN' ci, getD_map' _ _ _ _ ci, lvE_mk, List.length_map]
  have hlen := hl _ (List.getElem_mem ci)
  have hcons : ls.drop i = ls[i] :: ls.drop (i + 1) := List.drop_eq_getElem_cons ci
  have hgi : dropG o (ls.drop i) = if oldN o ls[i] < (ls[i]).length then (ls[i]).drop (oldN o ls[i]) :: dropG o (ls.drop (i + 1)) else [] := by rw [hcons]; rfl
  refine AWP.roam (ι := Nat) (fun j => j ≤ oldN o ls[i]) (fun j => ⟨Env.get [(4, .sp c4 0), (5, .sp c5 0), (6, .sp c6 0), (7, .fn (.func 79) [] [.sp c4 0, .sp c5 0]), (8, .sp c8 0), (10, .p (lvP ls[i])), (20, .p (.sl (ls.map lvE))), (21, i64 ls.length), (22, i64 i), (26, .p (lvP ls[i])), (27, i64 (ls[i]).length), (28, i64 j)],
      (V.set (.v kk) (.tip 1 i loc)).set (.r c8) (.cells [i64 k, i64 g, .ts kk 1 loc ((((ls.take i).map (fun l => l.drop (oldN o l)))).map lvE)]), 52, []⟩) (fun j => (ls[i]).length - j) 0 (Nat.zero_le _) ?_ ?_
  · exact le_of (by simp only [go_sem, decide_true, decide_false, Nat.lt_irrefl, lvP, List.length_map] <;> simp) (Sub.refl _) rfl rfl (by simp)
  intro j hj jh
  have hol := oldN_le o ls[i]
  refine AWPH.step (xc_ok (bitB 69741846015) _ _ _ ?_)
  by_cases cj : j < (ls[i]).length
  rotate_left
  · have hz : ¬ oldN o ls[i] < (ls[i]).length := by omega
    rw [hgi, if_neg hz, List.append_nil] at hG
    simp only [go_sem, decide_true, decide_false, Nat.lt_irrefl, n86, v6, cj, ← hG]
    refine ⟨S, ?_, ?_⟩
    · exact Sub.set (Sub.set (Sub.set vS yk _) y8 _) y6 _
    · simp
  simp only [go_sem, decide_true, decide_false, Nat.lt_irrefl, cj, ltN' cj, lvP, getD_map' _ _ _ _ cj]
  refine alloc_intro fun c12 h12 => ?_
  simp only [fresh_set, fresh_setv] at h12
  have n4 := h12.2.ne v4
  have n5 := h12.2.ne v5
  simp only [go_sem, decide_true, decide_false, Nat.lt_irrefl, h12]
  refine (exp_Drop1 ls[i][j] f w (b1 := c4) (b2 := c5) ?_ ?_).useA ?_
  · simp only [go_sem, decide_true, decide_false, Nat.lt_irrefl, n84, n4, v4]
  · simp only [go_sem, decide_true, decide_false, Nat.lt_irrefl, n85, n5, v5]
  rintro _ _ ⟨rfl, rfl⟩
  rw [ho]
  have hst := oldN_step o ls[i] j cj hj
  cases hc : o (ls[i][j]).b
  · obtain rfl := hst.2 hc
    simp only [go_sem, decide_true, decide_false, Nat.lt_irrefl, h12]
    refine AWP.draw2 (bitB 69741846015) mixed (by kernel_rfl) (fun j => bl false) ?_
    have htl : (ls.take i).length = i := by rw [List.length_take]; omega
    have htl1 : (ls.take (i + 1)).length = i + 1 := by rw [List.length_take]; omega
    have hsl : List.take ((ls[i]).length - oldN o ls[i]) (List.drop (oldN o ls[i]) (List.map Span.pv ls[i])) = ((ls[i]).drop (oldN o ls[i])).map Span.pv := by
      rw [← List.map_drop]
      exact List.take_of_length_le (by simp)
    have hrow : List.map lvE (List.map (fun l => l.drop (oldN o l)) (ls.take i)) ++ [[.sl (((ls[i]).drop (oldN o ls[i])).map Span.pv)]] = List.map lvE (List.map (fun l => l.drop (oldN o l)) (ls.take (i + 1))) := by
      rw [List.take_succ_eq_append_getElem ci, List.map_append, List.map_append]; rfl
    simp only [go_sem, decide_true, decide_false, Nat.lt_irrefl, n84, n85, h12, n4, n5, htl, hsl, hrow]
    refine ⟨span_len, hol, by rintro el rfl; rfl, lvE_len, by omega, by omega, grow_intro fun loc' => ?_⟩
    simp only [go_sem, decide_true, decide_false, Nat.lt_irrefl, n84, n85, h12, n4, n5, vk]
    refine (ih (i + 1, loc') ⟨ci, ?_⟩ (by dsimp only; omega)).back ?_ (by simp) ?_
    · rw [hG, hgi, if_pos cj, List.take_succ_eq_append_getElem ci, List.map_append, List.append_assoc]; rfl
    · ((try dsimp only); (repeat refine sub_set ?_ ?_) <;> first | ((repeat (first | exact Sub.refl _ | refine Sub.setF ?_ (by first | assumption | exact And.right (by assumption) | exact And.right (And.right (by assumption)) | exact And.right (And.right (And.right (by assumption))) | exact And.right (And.right (And.right (And.right (by assumption)))) | exact And.right (And.right (And.right (And.right (And.right (by assumption))))) | exact And.right (And.right (And.right (And.right (And.right (And.right (by assumption)))))) | exact And.right (And.right (And.right (And.right (And.right (And.right (And.right (by assumption))))))) | exact And.right (And.right (And.right (And.right (And.right (And.right (And.right (And.right (by assumption)))))))) | exact And.right (And.right (And.right (And.right (And.right (And.right (And.right (And.right (And.right (by assumption)))))))))) | refine Sub.setV ?_ (by first | assumption | exact And.right (by assumption) | exact And.right (And.right (by assumption)) | exact And.right (And.right (And.right (by assumption))) | exact And.right (And.right (And.right (And.right (by assumption)))) | exact And.right (And.right (And.right (And.right (And.right (by assumption))))) | exact And.right (And.right (And.right (And.right (And.right (And.right (by assumption)))))) | exact And.right (And.right (And.right (And.right (And.right (And.right (And.right (by assumption))))))) | exact And.right (And.right (And.right (And.right (And.right (And.right (And.right (And.right (by assumption)))))))) | exact And.right (And.right (And.right (And.right (And.right (And.right (And.right (And.right (And.right (by assumption)))))))))))); done) | (simp only [go_sem, decide_true, decide_false, Nat.lt_irrefl, h12, n4, n5, vk, htl1, hrow]; done) | (simp only [go_sem, decide_true, decide_false, Nat.lt_irrefl, h12, n4, n5, vk, htl1, hrow]; rfl) | rfl)
    · simp only [go_sem, decide_true, decide_false, Nat.lt_irrefl, wi_succ (show i < 4611686018427387904 by omega)]
  · simp only [go_sem, decide_true, decide_false, Nat.lt_irrefl, h12]
    refine (jh (j + 1) (hst.1 hc) (by omega)).back ?_ (by simp) ?_
    · ((try dsimp only); (repeat refine sub_set ?_ ?_) <;> first | ((repeat (first | exact Sub.refl _ | refine Sub.setF ?_ (by first | assumption | exact And.right (by assumption) | exact And.right (And.right (by assumption)) | exact And.right (And.right (And.right (by assumption))) | exact And.right (And.right (And.right (And.right (by assumption)))) | exact And.right (And.right (And.right (And.right (And.right (by assumption))))) | exact And.right (And.right (And.right (And.right (And.right (And.right (by assumption)))))) | exact And.right (And.right (And.right (And.right (And.right (And.right (And.right (by assumption))))))) | exact And.right (And.right (And.right (And.right (And.right (And.right (And.right (And.right (by assumption)))))))) | exact And.right (And.right (And.right (And.right (And.right (And.right (And.right (And.right (And.right (by assumption)))))))))) | refine Sub.setV ?_ (by first | assumption | exact And.right (by assumption) | exact And.right (And.right (by assumption)) | exact And.right (And.right (And.right (by assumption))) | exact And.right (And.right (And.right (And.right (by assumption)))) | exact And.right (And.right (And.right (And.right (And.right (by assumption))))) | exact And.right (And.right (And.right (And.right (And.right (And.right (by assumption)))))) | exact And.right (And.right (And.right (And.right (And.right (And.right (And.right (by assumption))))))) | exact And.right (And.right (And.right (And.right (And.right (And.right (And.right (And.right (by assumption)))))))) | exact And.right (And.right (And.right (And.right (And.right (And.right (And.right (And.right (And.right (by assumption)))))))))))); done) | (simp only [go_sem, decide_true, decide_false, Nat.lt_irrefl, h12]; done) | (simp only [go_sem, decide_true, decide_false, Nat.lt_irrefl, h12]; rfl) | rfl)
    · simp only [go_sem, decide_true, decide_false, Nat.lt_irrefl, lvP, wi_succ (show j < 4611686018427387904 by omega)]
theorem stayF_snoc (o : Nat → Bool) (l : List Span) (j : Nat) (h : j < l.length) : stayF o (l.take (j + 1)) = if o (l[j]).b = true then stayF o (l.take j) else stayF o (l.take j) ++ [l[j]] := by
  unfold stayF
  rw [List.take_succ_eq_append_getElem h, List.filter_append]
  by_cases c : o (l[j]).b = true
  · rw [if_pos c]; simp [c]
  · rw [if_neg c]; simp [c]
theorem stayF_len (o : Nat → Bool) (l : List Span) : (stayF o l).length ≤ l.length := List.length_filter_le _ _
theorem docD_snoc (o : Nat → Bool) (ls : List (List Span)) (i : Nat) (h : i < ls.length) : manyF 0 0 ((ls.take (i + 1)).map (stayF o)) = if stayF o ls[i] = [] then manyF 0 0 ((ls.take i).map (stayF o)) else i + 1 := by
  rw [List.take_succ_eq_append_getElem h, List.map_append]
  simp only [List.map_cons, List.map_nil]
  rw [manyF_snoc]
  simp [Nat.min_eq_left (Nat.le_of_lt h)]

set_option maxHeartbeats 1000000 in
set_option maxRecDepth 8000 in
theorem ref07_Drop (k g : Int) (ls : List (List Span)) (f w : Nat) (hn : ls.length < 1048576) (hl : ∀ l ∈ ls, l.length < 1048576) :
    Pure Try.prog 58 [(Hist.mk k g ls).av, u64 f, u64 w] (Hist.mk k g (docD (oldV f w) ls)).av := fun S => by
  refine callR_of Try.func58 rfl rfl (xc_ok (bitB 73787046665731968975) _ _ _ ?_)
  simp only [go_sem, decide_true, decide_false, Nat.lt_irrefl]
  refine alloc_intro fun c3 h3 => ?_
  simp only [go_sem, decide_true, decide_false, Nat.lt_irrefl]
  refine alloc_intro fun c6 h6 => ?_
  simp only [fresh_set] at h6
  simp only [go_sem, decide_true, decide_false, Nat.lt_irrefl, h6]
  refine alloc_intro fun c7 h7 => ?_
  simp only [fresh_set] at h7
  simp only [go_sem, decide_true, decide_false, Nat.lt_irrefl, h6, h7]
  refine AWP.tipB c7 2 1 (cs := [i64 k, i64 g, .nils]) (by simp only [go_sem, decide_true, decide_false, Nat.lt_irrefl, h7]) rfl fun kk hkk => ?_
  simp only [freshv_setr] at hkk
  simp only [List.set]
  have y3 : S (.r c3) = none := h3
  have y6 : S (.r c6) = none := h6.2
  have y7 : S (.r c7) = none := h7.2.2
  have yk : S (.v kk) = none := hkk
  obtain ⟨o, ho⟩ : ∃ o, oldV f w = o := ⟨_, rfl⟩
  obtain ⟨V, hV⟩ : ∃ V : Store, V = (S.set (.r c3) (.cells [i64 k, i64 g, .p (.sl (ls.map lvE))])).set (.r c6) (.cells [i64 0, i64 0, .nils]) := ⟨_, rfl⟩
  have v3 : V (.r c3) = some (.cells [i64 k, i64 g, .p (.sl (ls.map lvE))]) := by rw [hV]; simp only [go_sem, decide_true, decide_false, Nat.lt_irrefl, h6]
  have v6 : V (.r c6) = some (.cells [i64 0, i64 0, .nils]) := by rw [hV]; simp only [go_sem, decide_true, decide_false, Nat.lt_irrefl, h6]
  have v7 : V (.r c7) = none := by rw [hV]; simp only [go_sem, decide_true, decide_false, Nat.lt_irrefl, h7]; exact h7.2.2
  have vk : V (.v kk) = none := by rw [hV]; simp only [go_sem, decide_true, decide_false, Nat.lt_irrefl]; exact hkk
  have vS : Sub S V := by rw [hV]; exact Sub.set (Sub.set (Sub.refl _) y3 _) y6 _
  have n73 : ¬ c3 = c7 ∧ ¬ c7 = c3 := ⟨h7.2.1.2, h7.2.1.1⟩
  have n76 : ¬ c6 = c7 ∧ ¬ c7 = c6 := ⟨h7.1.2, h7.1.1⟩
  rw [ho]
  refine AWP.iterE (ι := Option Nat) (fun loc i => ⟨Env.get [(1, u64 f), (2, u64 w), (3, .sp c3 0), (6, .sp c6 0), (7, .sp c7 0), (8, i64 (manyF 0 0 ((ls.take i).map (stayF o)))), (9, i64 i)],
      (V.set (.v kk) (.tip 1 i loc)).set (.r c7) (.cells [i64 k, i64 g, .ts kk 1 loc (((ls.take i).map (stayF o)).map lvE)]), 75, []⟩) ls.length none ?_ ?_ ?_
  · refine le_of (by simp only [go_sem, decide_true, decide_false, Nat.lt_irrefl, List.take_zero, List.map_nil, manyF] <;> simp) ?_ rfl rfl (by simp)
    rw [hV]
    ((try dsimp only); (repeat refine sub_set ?_ ?_) <;> first | ((repeat (first | exact Sub.refl _ | refine Sub.setF ?_ (by first | assumption | exact And.right (by assumption) | exact And.right (And.right (by assumption)) | exact And.right (And.right (And.right (by assumption))) | exact And.right (And.right (And.right (And.right (by assumption)))) | exact And.right (And.right (And.right (And.right (And.right (by assumption))))) | exact And.right (And.right (And.right (And.right (And.right (And.right (by assumption)))))) | exact And.right (And.right (And.right (And.right (And.right (And.right (And.right (by assumption))))))) | exact And.right (And.right (And.right (And.right (And.right (And.right (And.right (And.right (by assumption)))))))) | exact And.right (And.right (And.right (And.right (And.right (And.right (And.right (And.right (And.right (by assumption)))))))))) | refine Sub.setV ?_ (by first | assumption | exact And.right (by assumption) | exact And.right (And.right (by assumption)) | exact And.right (And.right (And.right (by assumption))) | exact And.right (And.right (And.right (And.right (by assumption)))) | exact And.right (And.right (And.right (And.right (And.right (by assumption))))) | exact And.right (And.right (And.right (And.right (And.right (And.right (by assumption)))))) | exact And.right (And.right (And.right (And.right (And.right (And.right (And.right (by assumption))))))) | exact And.right (And.right (And.right (And.right (And.right (And.right (And.right (And.right (by assumption)))))))) | exact And.right (And.right (And.right (And.right (And.right (And.right (And.right (And.right (And.right (by assumption)))))))))))); done) | (simp only [go_sem, decide_true, decide_false, Nat.lt_irrefl, h6, h7, hkk, List.take_zero, List.map_nil]; done) | (simp only [go_sem, decide_true, decide_false, Nat.lt_irrefl, h6, h7, hkk, List.take_zero, List.map_nil]; rfl) | rfl)
  · clear hV h6 h7 hkk
    intro i loc hi ih
    have hlen := hl _ (List.getElem_mem hi)
    refine AWPH.step (xc_ok (bitB 73787046665731968975) _ _ _ ?_)
    simp only [go_sem, decide_true, decide_false, Nat.lt_irrefl, hi, ltN' hi, n73, v3, List.length_map]
    refine AWP.tip0 10 2 (by simp only [go_sem, decide_true, decide_false, Nat.lt_irrefl]) fun k2 hk2 => ?_
    simp only [freshv_setr, freshv_set] at hk2
    have htl : (ls.take i).length = i := by rw [List.length_take]; omega
    have htl1 : (ls.take (i + 1)).length = i + 1 := by rw [List.length_take]; omega
    have hrow : List.map lvE (List.map (stayF o) (ls.take i)) ++ [[.sl ((stayF o ls[i]).map Span.pv)]] = List.map lvE (List.map (stayF o) (ls.take (i + 1))) := by
      rw [List.take_succ_eq_append_getElem hi, List.map_append, List.map_append]; rfl
    have hsn := docD_snoc o ls i hi
    have hq : wi ((i : Int) + 1) = ((i + 1 : Nat) : Int) := wi_succ (show i < 4611686018427387904 by omega)
    refine AWP.iterE (ι := Option Nat) (fun loc2 j => ⟨Env.get [(1, u64 f), (2, u64 w), (3, .sp c3 0), (6, .sp c6 0), (7, .sp c7 0), (8, i64 (manyF 0 0 ((ls.take i).map (stayF o)))), (9, i64 i), (10, .ts k2 2 loc2 ((stayF o ((ls[i]).take j)).map Span.pv)), (11, i64 j)],
      ((V.set (.v kk) (.tip 1 i loc)).set (.r c7) (.cells [i64 k, i64 g, .ts kk 1 loc (((ls.take i).map (stayF o)).map lvE)])).set (.v k2) (.tip 2 (stayF o ((ls[i]).take j)).length loc2), 75, []⟩) (ls[i]).length none ?_ ?_ ?_
    · have h00 : stayF o [] = [] := rfl
      refine le_of (by simp only [go_sem, decide_true, decide_false, Nat.lt_irrefl, List.take_zero, List.map_nil, h00] <;> rfl) ?_ rfl rfl (by simp)
      ((try dsimp only); (repeat refine sub_set ?_ ?_) <;> first | ((repeat (first | exact Sub.refl _ | refine Sub.setF ?_ (by first | assumption | exact And.right (by assumption) | exact And.right (And.right (by assumption)) | exact And.right (And.right (And.right (by assumption))) | exact And.right (And.right (And.right (And.right (by assumption)))) | exact And.right (And.right (And.right (And.right (And.right (by assumption))))) | exact And.right (And.right (And.right (And.right (And.right (And.right (by assumption)))))) | exact And.right (And.right (And.right (And.right (And.right (And.right (And.right (by assumption))))))) | exact And.right (And.right (And.right (And.right (And.right (And.right (And.right (And.right (by assumption)))))))) | exact And.right (And.right (And.right (And.right (And.right (And.right (And.right (And.right (And.right (by assumption)))))))))) | refine Sub.setV ?_ (by first | assumption | exact And.right (by assumption) | exact And.right (And.right (by assumption)) | exact And.right (And.right (And.right (by assumption))) | exact And.right (And.right (And.right (And.right (by assumption)))) | exact And.right (And.right (And.right (And.right (And.right (by assumption))))) | exact And.right (And.right (And.right (And.right (And.right (And.right (by assumption)))))) | exact And.right (And.right (And.right (And.right (And.right (And.right (And.right (by assumption))))))) | exact And.right (And.right (And.right (And.right (And.right (And.right (And.right (And.right (by assumption)))))))) | exact And.right (And.right (And.right (And.right (And.right (And.right (And.right (And.right (And.right (by assumption)))))))))))); done) | (simp only [go_sem, decide_true, decide_false, Nat.lt_irrefl, hk2, List.take_zero, h00, List.length_nil]; done) | (simp only [go_sem, decide_true, decide_false, Nat.lt_irrefl, hk2, List.take_zero, h00, List.length_nil]; rfl) | rfl)
    · intro j loc2 hj jh
      have hqj : wi ((j : Int) + 1) = ((j + 1 : Nat) : Int) := wi_succ (show j < 4611686018427387904 by omega)
      have hsj := stayF_snoc o ls[i] j hj
      have hsl := stayF_len o ((ls[i]).take j)
      rw [List.length_take] at hsl
      refine AWPH.step (xc_ok (bitB 73787046665731968975) _ _ _ ?_)
      simp only [go_sem, decide_true, decide_false, Nat.lt_irrefl, hi, ltN' hi, n73, v3, List.length_map, getD_map' _ _ _ _ hi, lvE_mk, hj, ltN' hj, getD_map' _ _ _ _ hj]
      refine (ref07_Old (ls[i][j]).b f w).useA ?_
      rw [ho]
      cases hc : o (ls[i][j]).b
      · rw [hc, if_neg (by decide)] at hsj
        have hmj : (stayF o ((ls[i]).take j)).map Span.pv ++ [[.int .u64 (ls[i][j]).a, .int .u64 (ls[i][j]).b]] = (stayF o ((ls[i]).take (j + 1))).map Span.pv := by rw [hsj, List.map_append]; rfl
        have hlj : (stayF o ((ls[i]).take (j + 1))).length = (stayF o ((ls[i]).take j)).length + 1 := by rw [hsj]; simp
        simp only [go_sem, decide_true, decide_false, Nat.lt_irrefl, hk2, hi, ltN' hi, n73, v3, List.length_map, getD_map' _ _ _ _ hi, lvE_mk, hj, ltN' hj, getD_map' _ _ _ _ hj]
        refine ⟨by rintro el rfl; rfl, span_len, by omega, by omega, grow_intro fun loc' => ?_⟩
        simp only [go_sem, decide_true, decide_false, Nat.lt_irrefl, hk2, hmj]
        refine (jh loc').back ?_ (by simp) ?_
        · ((try dsimp only); (repeat refine sub_set ?_ ?_) <;> first | ((repeat (first | exact Sub.refl _ | refine Sub.setF ?_ (by first | assumption | exact And.right (by assumption) | exact And.right (And.right (by assumption)) | exact And.right (And.right (And.right (by assumption))) | exact And.right (And.right (And.right (And.right (by assumption)))) | exact And.right (And.right (And.right (And.right (And.right (by assumption))))) | exact And.right (And.right (And.right (And.right (And.right (And.right (by assumption)))))) | exact And.right (And.right (And.right (And.right (And.right (And.right (And.right (by assumption))))))) | exact And.right (And.right (And.right (And.right (And.right (And.right (And.right (And.right (by assumption)))))))) | exact And.right (And.right (And.right (And.right (And.right (And.right (And.right (And.right (And.right (by assumption)))))))))) | refine Sub.setV ?_ (by first | assumption | exact And.right (by assumption) | exact And.right (And.right (by assumption)) | exact And.right (And.right (And.right (by assumption))) | exact And.right (And.right (And.right (And.right (by assumption)))) | exact And.right (And.right (And.right (And.right (And.right (by assumption))))) | exact And.right (And.right (And.right (And.right (And.right (And.right (by assumption)))))) | exact And.right (And.right (And.right (And.right (And.right (And.right (And.right (by assumption))))))) | exact And.right (And.right (And.right (And.right (And.right (And.right (And.right (And.right (by assumption)))))))) | exact And.right (And.right (And.right (And.right (And.right (And.right (And.right (And.right (And.right (by assumption)))))))))))); done) | (simp only [go_sem, decide_true, decide_false, Nat.lt_irrefl, hk2, hmj, hlj, List.length_map]; done) | (simp only [go_sem, decide_true, decide_false, Nat.lt_irrefl, hk2, hmj, hlj, List.length_map]; rfl) | rfl)
        · simp only [go_sem, decide_true, decide_false, Nat.lt_irrefl, hqj]
      · rw [hc, if_pos rfl] at hsj
        simp only [go_sem, decide_true, decide_false, Nat.lt_irrefl]
        refine (jh loc2).back ?_ (by simp) ?_
        · ((try dsimp only); (repeat refine sub_set ?_ ?_) <;> first | ((repeat (first | exact Sub.refl _ | refine Sub.setF ?_ (by first | assumption | exact And.right (by assumption) | exact And.right (And.right (by assumption)) | exact And.right (And.right (And.right (by assumption))) | exact And.right (And.right (And.right (And.right (by assumption)))) | exact And.right (And.right (And.right (And.right (And.right (by assumption))))) | exact And.right (And.right (And.right (And.right (And.right (And.right (by assumption)))))) | exact And.right (And.right (And.right (And.right (And.right (And.right (And.right (by assumption))))))) | exact And.right (And.right (And.right (And.right (And.right (And.right (And.right (And.right (by assumption)))))))) | exact And.right (And.right (And.right (And.right (And.right (And.right (And.right (And.right (And.right (by assumption)))))))))) | refine Sub.setV ?_ (by first | assumption | exact And.right (by assumption) | exact And.right (And.right (by assumption)) | exact And.right (And.right (And.right (by assumption))) | exact And.right (And.right (And.right (And.right (by assumption)))) | exact And.right (And.right (And.right (And.right (And.right (by assumption))))) | exact And.right (And.right (And.right (And.right (And.right (And.right (by assumption)))))) | exact And.right (And.right (And.right (And.right (And.right (And.right (And.right (by assumption))))))) | exact And.right (And.right (And.right (And.right (And.right (And.right (And.right (And.right (by assumption)))))))) | exact And.right (And.right (And.right (And.right (And.right (And.right (And.right (And.right (And.right (by assumption)))))))))))); done) | (simp only [go_sem, decide_true, decide_false, Nat.lt_irrefl, hk2, hsj]; done) | (simp only [go_sem, decide_true, decide_false, Nat.lt_irrefl, hk2, hsj]; rfl) | rfl)
        · simp only [go_sem, decide_true, decide_false, Nat.lt_irrefl, hqj, hsj]
    · intro loc2
      refine AWPH.step (xc_ok (bitB 73787046665731968975) _ _ _ ?_)
      simp only [go_sem, decide_true, decide_false, Nat.lt_irrefl, hi, ltN' hi, n73, v3, vk, hk2, List.length_map, getD_map' _ _ _ _ hi, lvE_mk, List.take_length, htl, hrow]
      refine ⟨by rintro el rfl; rfl, lvE_len, by omega, by omega, grow_intro fun loc' => ?_⟩
      simp only [go_sem, decide_true, decide_false, Nat.lt_irrefl, n73, vk, hk2, hrow]
      by_cases he : stayF o ls[i] = []
      · rw [if_pos he] at hsn
        have hd0 : decide (0 < (stayF o ls[i]).length) = false := by rw [he]; rfl
        simp only [go_sem, decide_true, decide_false, Nat.lt_irrefl, hd0]
        refine (ih loc').back ?_ (by simp) ?_
        · ((try dsimp only); (repeat refine sub_set ?_ ?_) <;> first | ((repeat (first | exact Sub.refl _ | refine Sub.setF ?_ (by first | assumption | exact And.right (by assumption) | exact And.right (And.right (by assumption)) | exact And.right (And.right (And.right (by assumption))) | exact And.right (And.right (And.right (And.right (by assumption)))) | exact And.right (And.right (And.right (And.right (And.right (by assumption))))) | exact And.right (And.right (And.right (And.right (And.right (And.right (by assumption)))))) | exact And.right (And.right (And.right (And.right (And.right (And.right (And.right (by assumption))))))) | exact And.right (And.right (And.right (And.right (And.right (And.right (And.right (And.right (by assumption)))))))) | exact And.right (And.right (And.right (And.right (And.right (And.right (And.right (And.right (And.right (by assumption)))))))))) | refine Sub.setV ?_ (by first | assumption | exact And.right (by assumption) | exact And.right (And.right (by assumption)) | exact And.right (And.right (And.right (by assumption))) | exact And.right (And.right (And.right (And.right (by assumption)))) | exact And.right (And.right (And.right (And.right (And.right (by assumption))))) | exact And.right (And.right (And.right (And.right (And.right (And.right (by assumption)))))) | exact And.right (And.right (And.right (And.right (And.right (And.right (And.right (by assumption))))))) | exact And.right (And.right (And.right (And.right (And.right (And.right (And.right (And.right (by assumption)))))))) | exact And.right (And.right (And.right (And.right (And.right (And.right (And.right (And.right (And.right (by assumption)))))))))))); done) | (simp only [go_sem, decide_true, decide_false, Nat.lt_irrefl, n73, hk2, vk, htl1, hrow, List.length_map]; done) | (simp only [go_sem, decide_true, decide_false, Nat.lt_irrefl, n73, hk2, vk, htl1, hrow, List.length_map]; rfl) | rfl)
        · simp only [go_sem, decide_true, decide_false, Nat.lt_irrefl, hq, hsn]
      · rw [if_neg he] at hsn
        have hd0 : decide (0 < (stayF o ls[i]).length) = true := decide_eq_true (List.length_pos_iff.2 he)
        simp only [go_sem, decide_true, decide_false, Nat.lt_irrefl, hd0]
        refine (ih loc').back ?_ (by simp) ?_
        · ((try dsimp only); (repeat refine sub_set ?_ ?_) <;> first | ((repeat (first | exact Sub.refl _ | refine Sub.setF ?_ (by first | assumption | exact And.right (by assumption) | exact And.right (And.right (by assumption)) | exact And.right (And.right (And.right (by assumption))) | exact And.right (And.right (And.right (And.right (by assumption)))) | exact And.right (And.right (And.right (And.right (And.right (by assumption))))) | exact And.right (And.right (And.right (And.right (And.right (And.right (by assumption)))))) | exact And.right (And.right (And.right (And.right (And.right (And.right (And.right (by assumption))))))) | exact And.right (And.right (And.right (And.right (And.right (And.right (And.right (And.right (by assumption)))))))) | exact And.right (And.right (And.right (And.right (And.right (And.right (And.right (And.right (And.right (by assumption)))))))))) | refine Sub.setV ?_ (by first | assumption | exact And.right (by assumption) | exact And.right (And.right (by assumption)) | exact And.right (And.right (And.right (by assumption))) | exact And.right (And.right (And.right (And.right (by assumption)))) | exact And.right (And.right (And.right (And.right (And.right (by assumption))))) | exact And.right (And.right (And.right (And.right (And.right (And.right (by assumption)))))) | exact And.right (And.right (And.right (And.right (And.right (And.right (And.right (by assumption))))))) | exact And.right (And.right (And.right (And.right (And.right (And.right (And.right (And.right (by assumption)))))))) | exact And.right (And.right (And.right (And.right (And.right (And.right (And.right (And.right (And.right (by assumption)))))))))))); done) | (simp only [go_sem, decide_true, decide_false, Nat.lt_irrefl, n73, hk2, vk, htl1, hrow, List.length_map]; done) | (simp only [go_sem, decide_true, decide_false, Nat.lt_irrefl, n73, hk2, vk, htl1, hrow, List.length_map]; rfl) | rfl)
        · simp only [go_sem, decide_true, decide_false, Nat.lt_irrefl, hq, hsn]
  · intro loc
    refine AWPH.step (xc_ok (bitB 73787046665731968975) _ _ _ ?_)
    simp only [go_sem, decide_true, decide_false, Nat.lt_irrefl, n73, v3, n76, v6, List.take_length, List.length_map]
    refine ⟨lvE_len, by have := manyF_le (List.map (stayF o) ls) 0 0 (Nat.le_refl _); simpa using this, S, Sub.set (Sub.set (Sub.set vS yk _) y7 _) y6 _, ?_⟩
    simp [docD, List.map_take]
end Go.Sk
end

-- W15p
section
namespace Go.Sk
open Go Go.Proofs

/-- A grid without what is too old. -/
def dropGr (D : List (List Span) → List (List Span)) (g : Grid) : Grid := ⟨g.w, g.sd, g.rows.map (fun r => r.map (dropH D)), dropH D g.all⟩
structure Grid.Lo (g : Grid) : Prop where
  n : g.rows.length < 1048576
  w : ∀ r ∈ g.rows, r.length < 1048576
  all : g.all.ls.length < 1048576 ∧ ∀ l ∈ g.all.ls, l.length < 1048576
  hs : ∀ r ∈ g.rows, ∀ h ∈ r, h.ls.length < 1048576 ∧ ∀ l ∈ h.ls, l.length < 1048576

set_option maxHeartbeats 1000000 in
set_option maxRecDepth 8000 in
theorem ref15_Drop (g : Grid) (hg : g.Lo) (f w : Nat) : Pure Try.prog 28 [g.av, u64 f, u64 w] (dropGr (docD (oldV f w)) g).av := fun S => by
  have hnn := hg.n
  refine callR_of Try.func28 rfl rfl (xc_ok (bitB 34393294799) _ _ _ ?_)
  simp only [go_sem, decide_true, decide_false, Nat.lt_irrefl]
  refine alloc_intro fun c3 h3 => ?_
  simp only [go_sem, decide_true, decide_false, Nat.lt_irrefl]
  refine alloc_intro fun c6 h6 => ?_
  simp only [fresh_set] at h6
  simp only [go_sem, decide_true, decide_false, Nat.lt_irrefl, h6]
  refine AWP.draw2 (bitB 34393294799) mixed (by kernel_rfl) (fun j => (dropH (docD (oldV f w)) g.all).av) ?_
  simp only [go_sem, decide_true, decide_false, Nat.lt_irrefl, h6]
  refine ⟨(ref07_Drop g.all.k g.all.g g.all.ls f w hg.all.1 hg.all.2).draw, alloc_intro fun c7 h7 => ?_⟩
  simp only [fresh_set] at h7
  simp only [go_sem, decide_true, decide_false, Nat.lt_irrefl, h6, h7]
  obtain ⟨D, hD⟩ : ∃ D, docD (oldV f w) = D := ⟨_, rfl⟩
  rw [hD]
  refine AWP.tipB c7 2 1 (cs := [i64 g.w, .p (.sl (g.sd.map Seed.pv)), .nils, i64 g.all.k, i64 g.all.g, .p (.sl ((D g.all.ls).map lvE))]) (by simp only [go_sem, decide_true, decide_false, Nat.lt_irrefl, h7] <;> rfl) rfl fun kk hkk => ?_
  simp only [freshv_setr] at hkk
  simp only [List.set]
  have y3 : S (.r c3) = none := h3
  have y6 : S (.r c6) = none := h6.2
  have y7 : S (.r c7) = none := h7.2.2
  have yk : S (.v kk) = none := hkk
  obtain ⟨V, hV⟩ : ∃ V : Store, V = (S.set (.r c3) (.cells [i64 g.w, .p (.sl (g.sd.map Seed.pv)), .p (.sl (g.rows.map rowE)), i64 g.all.k, i64 g.all.g, .p (.sl (g.all.ls.map lvE))])).set (.r c6) (.cells [i64 0, .nils, .nils, i64 0, i64 0, .nils]) := ⟨_, rfl⟩
  have v3 : V (.r c3) = some (.cells [i64 g.w, .p (.sl (g.sd.map Seed.pv)), .p (.sl (g.rows.map rowE)), i64 g.all.k, i64 g.all.g, .p (.sl (g.all.ls.map lvE))]) := by rw [hV]; simp only [go_sem, decide_true, decide_false, Nat.lt_irrefl, h6]
  have v6 : V (.r c6) = some (.cells [i64 0, .nils, .nils, i64 0, i64 0, .nils]) := by rw [hV]; simp only [go_sem, decide_true, decide_false, Nat.lt_irrefl, h6]
  have v7 : V (.r c7) = none := by rw [hV]; simp only [go_sem, decide_true, decide_false, Nat.lt_irrefl, h7]; exact h7.2.2
  have vk : V (.v kk) = none := by rw [hV]; simp only [go_sem, decide_true, decide_false, Nat.lt_irrefl]; exact hkk
  have vS : Sub S V := by rw [hV]; exact Sub.set (Sub.set (Sub.refl _) y3 _) y6 _
  have n73 : ¬ c3 = c7 ∧ ¬ c7 = c3 := ⟨h7.2.1.2, h7.2.1.1⟩
  have n76 : ¬ c6 = c7 ∧ ¬ c7 = c6 := ⟨h7.1.2, h7.1.1⟩
  refine AWP.iterE (ι := Option Nat) (fun loc i => ⟨Env.get [(1, u64 f), (2, u64 w), (3, .sp c3 0), (6, .sp c6 0), (7, .sp c7 0), (8, i64 i)],
      (V.set (.v kk) (.tip 1 i loc)).set (.r c7) (.cells [i64 g.w, .p (.sl (g.sd.map Seed.pv)), .ts kk 1 loc (((g.rows.take i).map (fun r => r.map (dropH D))).map rowE), i64 g.all.k, i64 g.all.g, .p (.sl ((D g.all.ls).map lvE))]), 59, []⟩) g.rows.length none ?_ ?_ ?_
  · refine le_of (by simp only [go_sem, decide_true, decide_false, Nat.lt_irrefl] <;> simp) ?_ rfl rfl (by simp)
    rw [hV]
    ((try dsimp only); (repeat refine sub_set ?_ ?_) <;> first | ((repeat (first | exact Sub.refl _ | refine Sub.setF ?_ (by first | assumption | exact And.right (by assumption) | exact And.right (And.right (by assumption)) | exact And.right (And.right (And.right (by assumption))) | exact And.right (And.right (And.right (And.right (by assumption)))) | exact And.right (And.right (And.right (And.right (And.right (by assumption))))) | exact And.right (And.right (And.right (And.right (And.right (And.right (by assumption)))))) | exact And.right (And.right (And.right (And.right (And.right (And.right (And.right (by assumption))))))) | exact And.right (And.right (And.right (And.right (And.right (And.right (And.right (And.right (by assumption)))))))) | exact And.right (And.right (And.right (And.right (And.right (And.right (And.right (And.right (And.right (by assumption)))))))))) | refine Sub.setV ?_ (by first | assumption | exact And.right (by assumption) | exact And.right (And.right (by assumption)) | exact And.right (And.right (And.right (by assumption))) | exact And.right (And.right (And.right (And.right (by assumption)))) | exact And.right (And.right (And.right (And.right (And.right (by assumption))))) | exact And.right (And.right (And.right (And.right (And.right (And.right (by assumption)))))) | exact And.right (And.right (And.right (And.right (And.right (And.right (And.right (by assumption))))))) | exact And.right (And.right (And.right (And.right (And.right (And.right (And.right (And.right (by assumption)))))))) | exact And.right (And.right (And.right (And.right (And.right (And.right (And.right (And.right (And.right (by assumption)))))))))))); done) | (simp only [go_sem, decide_true, decide_false, Nat.lt_irrefl, h6, h7, hkk, List.take_zero, List.map_nil, dropH]; done) | (simp only [go_sem, decide_true, decide_false, Nat.lt_irrefl, h6, h7, hkk, List.take_zero, List.map_nil, dropH]; rfl) | rfl)
  · clear hV h6 h7 hkk
    intro i loc hi ih
    have hlen := hg.w _ (List.getElem_mem hi)
    refine AWPH.step (xc_ok (bitB 34393294799) _ _ _ ?_)
    simp only [go_sem, decide_true, decide_false, Nat.lt_irrefl, hi, ltN' hi, n73, v3, List.length_map]
    refine AWP.tip0 9 3 (by simp only [go_sem, decide_true, decide_false, Nat.lt_irrefl]) fun k2 hk2 => ?_
    simp only [freshv_setr, freshv_set] at hk2
    simp only [go_sem, decide_true, decide_false, Nat.lt_irrefl]
    have htl : (g.rows.take i).length = i := by rw [List.length_take]; omega
    have htl1 : (g.rows.take (i + 1)).length = i + 1 := by rw [List.length_take]; omega
    have hrow : List.map rowE (List.map (fun r => r.map (dropH D)) (g.rows.take i)) ++ [[.sl (((g.rows[i]).map (dropH D)).map Hist.cs)]] = List.map rowE (List.map (fun r => r.map (dropH D)) (g.rows.take (i + 1))) := by
      rw [List.take_succ_eq_append_getElem hi, List.map_append, List.map_append]; rfl
    have hq : wi ((i : Int) + 1) = ((i + 1 : Nat) : Int) := wi_succ (show i < 4611686018427387904 by omega)
    refine AWP.iterE (ι := Option Nat) (fun loc2 j => ⟨Env.get [(1, u64 f), (2, u64 w), (3, .sp c3 0), (6, .sp c6 0), (7, .sp c7 0), (8, i64 i), (9, .ts k2 3 loc2 ((((g.rows[i]).take j).map (dropH D)).map Hist.cs)), (10, i64 j)],
      ((V.set (.v kk) (.tip 1 i loc)).set (.r c7) (.cells [i64 g.w, .p (.sl (g.sd.map Seed.pv)), .ts kk 1 loc (((g.rows.take i).map (fun r => r.map (dropH D))).map rowE), i64 g.all.k, i64 g.all.g, .p (.sl ((D g.all.ls).map lvE))])).set (.v k2) (.tip 3 j loc2), 59, []⟩) (g.rows[i]).length none ?_ ?_ ?_
    · refine le_of (by simp only [go_sem, decide_true, decide_false, Nat.lt_irrefl, List.take_zero, List.map_nil] <;> rfl) ?_ rfl rfl (by simp)
      ((try dsimp only); (repeat refine sub_set ?_ ?_) <;> first | ((repeat (first | exact Sub.refl _ | refine Sub.setF ?_ (by first | assumption | exact And.right (by assumption) | exact And.right (And.right (by assumption)) | exact And.right (And.right (And.right (by assumption))) | exact And.right (And.right (And.right (And.right (by assumption)))) | exact And.right (And.right (And.right (And.right (And.right (by assumption))))) | exact And.right (And.right (And.right (And.right (And.right (And.right (by assumption)))))) | exact And.right (And.right (And.right (And.right (And.right (And.right (And.right (by assumption))))))) | exact And.right (And.right (And.right (And.right (And.right (And.right (And.right (And.right (by assumption)))))))) | exact And.right (And.right (And.right (And.right (And.right (And.right (And.right (And.right (And.right (by assumption)))))))))) | refine Sub.setV ?_ (by first | assumption | exact And.right (by assumption) | exact And.right (And.right (by assumption)) | exact And.right (And.right (And.right (by assumption))) | exact And.right (And.right (And.right (And.right (by assumption)))) | exact And.right (And.right (And.right (And.right (And.right (by assumption))))) | exact And.right (And.right (And.right (And.right (And.right (And.right (by assumption)))))) | exact And.right (And.right (And.right (And.right (And.right (And.right (And.right (by assumption))))))) | exact And.right (And.right (And.right (And.right (And.right (And.right (And.right (And.right (by assumption)))))))) | exact And.right (And.right (And.right (And.right (And.right (And.right (And.right (And.right (And.right (by assumption)))))))))))); done) | (simp only [go_sem, decide_true, decide_false, Nat.lt_irrefl, hk2]; done) | (simp only [go_sem, decide_true, decide_false, Nat.lt_irrefl, hk2]; rfl) | rfl)
    · intro j loc2 hj jh
      have hqj : wi ((j : Int) + 1) = ((j + 1 : Nat) : Int) := wi_succ (show j < 4611686018427387904 by omega)
      have htj : ((g.rows[i]).take j).length = j := by rw [List.length_take]; omega
      have htj1 : ((g.rows[i]).take (j + 1)).length = j + 1 := by rw [List.length_take]; omega
      have hcell : List.map Hist.cs (List.map (dropH D) ((g.rows[i]).take j)) ++ [[.int .i64 (g.rows[i][j]).k, .int .i64 (g.rows[i][j]).g, .sl ((D (g.rows[i][j]).ls).map lvE)]] = List.map Hist.cs (List.map (dropH D) ((g.rows[i]).take (j + 1))) := by
        rw [List.take_succ_eq_append_getElem hj, List.map_append, List.map_append]; rfl
      obtain ⟨q1, q2⟩ := hg.hs _ (List.getElem_mem hi) _ (List.getElem_mem hj)
      refine AWPH.step (xc_ok (bitB 34393294799) _ _ _ ?_)
      simp only [go_sem, decide_true, decide_false, Nat.lt_irrefl, hi, ltN' hi, n73, v3, List.length_map, getD_map' _ _ _ _ hi, rowE_mk, rowP, hj, ltN' hj, getD_map' _ _ _ _ hj]
      refine (ref07_Drop (g.rows[i][j]).k (g.rows[i][j]).g (g.rows[i][j]).ls f w q1 q2).useA ?_
      rw [hD]
      simp only [go_sem, decide_true, decide_false, Nat.lt_irrefl, hk2, htj, hcell]
      refine ⟨by rintro el rfl; rfl, hist_len, by omega, by omega, grow_intro fun loc' => ?_⟩
      simp only [go_sem, decide_true, decide_false, Nat.lt_irrefl, hk2, hcell]
      refine (jh loc').back ?_ (by simp) ?_
      · ((try dsimp only); (repeat refine sub_set ?_ ?_) <;> first | ((repeat (first | exact Sub.refl _ | refine Sub.setF ?_ (by first | assumption | exact And.right (by assumption) | exact And.right (And.right (by assumption)) | exact And.right (And.right (And.right (by assumption))) | exact And.right (And.right (And.right (And.right (by assumption)))) | exact And.right (And.right (And.right (And.right (And.right (by assumption))))) | exact And.right (And.right (And.right (And.right (And.right (And.right (by assumption)))))) | exact And.right (And.right (And.right (And.right (And.right (And.right (And.right (by assumption))))))) | exact And.right (And.right (And.right (And.right (And.right (And.right (And.right (And.right (by assumption)))))))) | exact And.right (And.right (And.right (And.right (And.right (And.right (And.right (And.right (And.right (by assumption)))))))))) | refine Sub.setV ?_ (by first | assumption | exact And.right (by assumption) | exact And.right (And.right (by assumption)) | exact And.right (And.right (And.right (by assumption))) | exact And.right (And.right (And.right (And.right (by assumption)))) | exact And.right (And.right (And.right (And.right (And.right (by assumption))))) | exact And.right (And.right (And.right (And.right (And.right (And.right (by assumption)))))) | exact And.right (And.right (And.right (And.right (And.right (And.right (And.right (by assumption))))))) | exact And.right (And.right (And.right (And.right (And.right (And.right (And.right (And.right (by assumption)))))))) | exact And.right (And.right (And.right (And.right (And.right (And.right (And.right (And.right (And.right (by assumption)))))))))))); done) | (simp only [go_sem, decide_true, decide_false, Nat.lt_irrefl, hk2, hcell, htj1, List.length_map]; done) | (simp only [go_sem, decide_true, decide_false, Nat.lt_irrefl, hk2, hcell, htj1, List.length_map]; rfl) | rfl)
      · simp only [go_sem, decide_true, decide_false, Nat.lt_irrefl, hqj]
    · intro loc2
      refine AWPH.step (xc_ok (bitB 34393294799) _ _ _ ?_)
      simp only [go_sem, decide_true, decide_false, Nat.lt_irrefl, hi, ltN' hi, n73, v3, vk, hk2, List.length_map, getD_map' _ _ _ _ hi, rowE_mk, rowP, List.take_length, htl, hrow]
      refine ⟨by rintro el rfl; rfl, row_len, by omega, by omega, grow_intro fun loc' => ?_⟩
      simp only [go_sem, decide_true, decide_false, Nat.lt_irrefl, n73, vk, hk2, hrow]
      refine (ih loc').back ?_ (by simp) ?_
      · ((try dsimp only); (repeat refine sub_set ?_ ?_) <;> first | ((repeat (first | exact Sub.refl _ | refine Sub.setF ?_ (by first | assumption | exact And.right (by assumption) | exact And.right (And.right (by assumption)) | exact And.right (And.right (And.right (by assumption))) | exact And.right (And.right (And.right (And.right (by assumption)))) | exact And.right (And.right (And.right (And.right (And.right (by assumption))))) | exact And.right (And.right (And.right (And.right (And.right (And.right (by assumption)))))) | exact And.right (And.right (And.right (And.right (And.right (And.right (And.right (by assumption))))))) | exact And.right (And.right (And.right (And.right (And.right (And.right (And.right (And.right (by assumption)))))))) | exact And.right (And.right (And.right (And.right (And.right (And.right (And.right (And.right (And.right (by assumption)))))))))) | refine Sub.setV ?_ (by first | assumption | exact And.right (by assumption) | exact And.right (And.right (by assumption)) | exact And.right (And.right (And.right (by assumption))) | exact And.right (And.right (And.right (And.right (by assumption)))) | exact And.right (And.right (And.right (And.right (And.right (by assumption))))) | exact And.right (And.right (And.right (And.right (And.right (And.right (by assumption)))))) | exact And.right (And.right (And.right (And.right (And.right (And.right (And.right (by assumption))))))) | exact And.right (And.right (And.right (And.right (And.right (And.right (And.right (And.right (by assumption)))))))) | exact And.right (And.right (And.right (And.right (And.right (And.right (And.right (And.right (And.right (by assumption)))))))))))); done) | (simp only [go_sem, decide_true, decide_false, Nat.lt_irrefl, n73, hk2, vk, htl1, hrow, List.length_map]; done) | (simp only [go_sem, decide_true, decide_false, Nat.lt_irrefl, n73, hk2, vk, htl1, hrow, List.length_map]; rfl) | rfl)
      · simp only [go_sem, decide_true, decide_false, Nat.lt_irrefl, hq]
  · intro loc
    refine AWPH.step (xc_ok (bitB 34393294799) _ _ _ ?_)
    simp only [go_sem, decide_true, decide_false, Nat.lt_irrefl, n73, v3, n76, v6, List.take_length, List.length_map]
    refine ⟨S, Sub.set (Sub.set (Sub.set vS yk _) y7 _) y6 _, ?_⟩
    simp [dropGr, dropH]
end Go.Sk
end

-- A21
section
namespace Go.Sk
open Go Go.Proofs

open Classical in
/-- A store in which the rows' blocks are as given. -/
noncomputable def rowsS (E : Store) (w : Nat) (rb : List (Nat × Nat)) (rows : List (List Hist)) : Store := fun k =>
  if h : ∃ i, ∃ hi : i < rb.length, k = .r (rb[i]).1 then some (rowB w ((rb.getD h.choose (0, 0)).2) (rows.getD h.choose [])) else E k
def NoDup (rb : List (Nat × Nat)) : Prop := ∀ i j (hi : i < rb.length) (hj : j < rb.length), (rb[i]).1 = (rb[j]).1 → i = j
theorem rowsS_at {E : Store} {w : Nat} {rb : List (Nat × Nat)} {rows : List (List Hist)} (nd : NoDup rb) {i : Nat} (hi : i < rb.length) : rowsS E w rb rows (.r (rb[i]).1) = some (rowB w (rb[i]).2 (rows.getD i [])) := by
  have h : ∃ j, ∃ hj : j < rb.length, Key.r (rb[i]).1 = .r (rb[j]).1 := ⟨i, hi, rfl⟩
  unfold rowsS
  rw [dif_pos h]
  obtain ⟨hj, he⟩ := h.choose_spec
  have : i = h.choose := nd _ _ hi hj (by injection he)
  rw [← this]
  simp [List.getD_eq_getElem?_getD, hi]
theorem rowsS_ne {E : Store} {w : Nat} {rb : List (Nat × Nat)} {rows : List (List Hist)} {k : Key} (h : ∀ i (hi : i < rb.length), k ≠ .r (rb[i]).1) : rowsS E w rb rows k = E k := by
  unfold rowsS
  rw [dif_neg]
  rintro ⟨i, hi, e⟩
  exact h i hi e
theorem rowsS_set {E : Store} {w : Nat} {rb : List (Nat × Nat)} {rows : List (List Hist)} (nd : NoDup rb) {i : Nat} (hi : i < rb.length) (hl : i < rows.length) (r : List Hist) :
    (rowsS E w rb rows).set (.r (rb[i]).1) (rowB w (rb[i]).2 r) = rowsS E w rb (rows.set i r) := by
  funext k
  by_cases e : k = .r (rb[i]).1
  · subst e
    rw [Store.set_same, rowsS_at nd hi]
    simp [List.getD_eq_getElem?_getD, hl]
  · rw [Store.set_other _ _ e]
    by_cases h : ∃ j, ∃ hj : j < rb.length, k = .r (rb[j]).1
    · obtain ⟨j, hj, rfl⟩ := h
      rw [rowsS_at nd hj, rowsS_at nd hj]
      have : ¬ i = j := by rintro rfl; exact e rfl
      simp [List.getD_eq_getElem?_getD, List.getElem?_set, this]
    · rw [rowsS_ne (fun j hj e2 => h ⟨j, hj, e2⟩), rowsS_ne (fun j hj e2 => h ⟨j, hj, e2⟩)]

/-- The first k cells are changed. -/
def rowsK (F : Hist → Hist) (w : Nat) (rows : List (List Hist)) (k : Nat) : List (List Hist) := rows.mapIdx (fun i r => r.mapIdx (fun c h => if i * w + c < k then F h else h))
theorem rowsK_len (F : Hist → Hist) (w : Nat) (rows : List (List Hist)) (k : Nat) : (rowsK F w rows k).length = rows.length := by simp [rowsK]
theorem rowsK_getD (F : Hist → Hist) (w : Nat) (rows : List (List Hist)) (k : Nat) {i : Nat} (hi : i < rows.length) : (rowsK F w rows k).getD i [] = (rows[i]).mapIdx (fun c h => if i * w + c < k then F h else h) := by
  simp [rowsK, List.getD_eq_getElem?_getD, hi]
theorem rowsK_zero (F : Hist → Hist) (w : Nat) (rows : List (List Hist)) : rowsK F w rows 0 = rows := by
  apply List.ext_getElem (by simp [rowsK])
  intro i h1 h2
  simp only [rowsK, List.getElem_mapIdx]
  apply List.ext_getElem (by simp)
  intro j h3 h4
  simp
theorem rowsK_all (F : Hist → Hist) (w : Nat) (rows : List (List Hist)) (hw : ∀ r ∈ rows, r.length = w) : rowsK F w rows (rows.length * w) = rows.map (fun r => r.map F) := by
  apply List.ext_getElem (by simp [rowsK])
  intro i h1 h2
  rw [rowsK_len] at h1
  simp only [rowsK, List.getElem_mapIdx, List.getElem_map]
  have hl := hw _ (List.getElem_mem h1)
  apply List.ext_getElem (by simp)
  intro j h3 h4
  simp only [List.length_mapIdx] at h3
  simp only [List.getElem_mapIdx, List.getElem_map]
  rw [if_pos]
  have : (i + 1) * w ≤ rows.length * w := Nat.mul_le_mul_right _ h1
  rw [Nat.add_mul] at this; omega
theorem cell_lt {w i j a b : Nat} (hj : j < w) (hb : b < w) (h : a * w + b = i * w + j) : a = i ∧ b = j := by
  have h1 : (a * w + b) / w = a := by rw [Nat.mul_comm, Nat.mul_add_div (by omega), Nat.div_eq_of_lt hb, Nat.add_zero]
  have h2 : (i * w + j) / w = i := by rw [Nat.mul_comm, Nat.mul_add_div (by omega), Nat.div_eq_of_lt hj, Nat.add_zero]
  have : a = i := by rw [← h1, h, h2]
  subst this
  exact ⟨rfl, by omega⟩
theorem cell_div {w i j : Nat} (hj : j < w) : (i * w + j) / w = i ∧ (i * w + j) % w = j := by
  refine ⟨?_, ?_⟩
  · rw [Nat.mul_comm, Nat.mul_add_div (by omega), Nat.div_eq_of_lt hj, Nat.add_zero]
  · rw [Nat.mul_comm, Nat.mul_add_mod, Nat.mod_eq_of_lt hj]
theorem rowsK_step (F : Hist → Hist) (w : Nat) (rows : List (List Hist)) (hw : ∀ r ∈ rows, r.length = w) {i j : Nat} (hi : i < rows.length) (hj : j < w) :
    rowsK F w rows (i * w + j + 1) = (rowsK F w rows (i * w + j)).set i (((rowsK F w rows (i * w + j)).getD i []).set j (F ((rows[i])[j]'(by rw [hw _ (List.getElem_mem hi)]; exact hj)))) := by
  rw [rowsK_getD F w rows _ hi]
  apply List.ext_getElem (by simp [rowsK])
  intro a h1 h2
  rw [rowsK_len] at h1
  have hl := hw _ (List.getElem_mem h1)
  by_cases e : a = i
  · subst e
    rw [List.getElem_set_self]
    simp only [rowsK, List.getElem_mapIdx]
    apply List.ext_getElem (by simp)
    intro b h3 h4
    simp only [List.length_mapIdx] at h3
    simp only [List.getElem_mapIdx, List.getElem_set]
    by_cases eb : j = b
    · subst eb; simp
    · rw [if_neg eb]
      by_cases c : a * w + b < a * w + j
      · rw [if_pos (by omega), if_pos c]
      · rw [if_neg (by omega), if_neg c]
  · rw [List.getElem_set_ne (Ne.symm e)]
    simp only [rowsK, List.getElem_mapIdx]
    apply List.ext_getElem (by simp)
    intro b h3 h4
    simp only [List.length_mapIdx] at h3
    simp only [List.getElem_mapIdx]
    have : ¬ a * w + b = i * w + j := fun h => e (cell_lt hj (by omega) h).1
    by_cases c : a * w + b < i * w + j
    · rw [if_pos (by omega), if_pos c]
    · rw [if_neg (by omega), if_neg c]
/-- The cell that is changed next is as it was. -/
theorem rowsK_cell (F : Hist → Hist) (w : Nat) (rows : List (List Hist)) (hw : ∀ r ∈ rows, r.length = w) {i j : Nat} (hi : i < rows.length) (hj : j < w) :
    ∃ h : j < ((rowsK F w rows (i * w + j)).getD i []).length, ((rowsK F w rows (i * w + j)).getD i [])[j] = (rows[i])[j]'(by rw [hw _ (List.getElem_mem hi)]; exact hj) := by
  have hl := hw _ (List.getElem_mem hi)
  refine ⟨by rw [rowsK_getD F w rows _ hi]; simp [hl, hj], ?_⟩
  simp only [rowsK_getD F w rows _ hi, List.getElem_mapIdx]
  rw [if_neg (by omega)]
end Go.Sk
end

-- W15q
section
namespace Go.Sk
open Go Go.Proofs

theorem grid_cells (g : Grid) (bo n : Nat) (S : Store) : CallR Try.prog 57 [.agg (gridM g bo n)] S
    (fun r S' => ∃ b, Fresh S b ∧ r = .fn (.func 81) [] [.sp b 0] ∧ S' = S.set (.r b) (.cells (gridM g bo n))) := by
  refine callR_of Try.func57 rfl rfl (xc_ok (bitB 7) _ _ _ ?_)
  simp only [go_sem, decide_true, decide_false, Nat.lt_irrefl, gridM]
  refine alloc_intro fun b hb => ?_
  simp only [go_sem, decide_true, decide_false, Nat.lt_irrefl]
  exact ⟨_, Sub.refl _, Or.inl ⟨b, hb, rfl, rfl⟩⟩

def itemsC (w : Nat) (rb : List (Nat × Nat)) : Nat → List AV := fun k => [.sp (rb.getD (k / w) (0, 0)).1 (k % w * 3)]
set_option maxHeartbeats 1000000 in
set_option maxRecDepth 4000 in
theorem grid_cells1 (w n : Nat) (rb : List (Nat × Nat)) (hw : 1 ≤ w) (hw2 : w < 1048576) (hn : rb.length = n) (hn2 : n < 1048576) {T0 : Store} {b bo : Nat} {a0 a1 a3 a4 a5 : AV} (h1 : T0 (.r b) = some (.cells [a0, a1, .ms bo 1 0 n n, a3, a4, a5]))
    (h2 : T0 (.r bo) = some (.cells (rb.map (rowM w) ++ zcs [.nils] 0))) :
    SeqR Try.prog 81 [] [.sp b 0] T0 (n * w) (itemsC w rb) := by
  intro l J Jx hy E hd h0
  simp only [List.nil_append, List.singleton_append]
  refine callR_of Try.func81 rfl rfl (xc_ok (bitB 8505267) _ _ _ ?_)
  simp only [go_sem, decide_true, decide_false, Nat.lt_irrefl, h1]
  refine AWP.roam (ι := Nat × Store) (fun x => x.1 ≤ n ∧ Disj T0 x.2 ∧ J (x.1 * w) x.2)
    (fun x => ⟨Env.get [(0, .fn (.yield l) [] []), (1, .sp b 0), (7, .ms bo 1 0 n n), (8, i64 n), (9, i64 x.1)], Store.join x.2 T0, 26, []⟩) (fun x => n - x.1) (0, E) ⟨by simp, hd, by simpa using h0⟩ ?_ ?_
  · exact le_of (by simp only [go_sem, decide_true, decide_false, Nat.lt_irrefl] <;> rfl) (Sub.refl _) rfl rfl (by simp)
  · rintro ⟨i, E⟩ ⟨hi, hd, hJ⟩ ih
    dsimp only at hi hd hJ ⊢
    refine AWPH.step (xc_ok (bitB 8505267) _ _ _ ?_)
    by_cases c : i < n
    rotate_left
    · obtain rfl : i = n := by omega
      simp only [go_sem, decide_true, decide_false, Nat.lt_irrefl, c]
      exact ⟨_, Sub.refl _, Or.inl ⟨E, rfl, hd, Or.inl hJ⟩⟩
    have hir : i < rb.length := by omega
    have hget : (List.map (rowM w) rb ++ zcs [AV.nils] 0).getD (i * 1) AV.top = .ms (rb[i]).1 3 0 w (rb[i]).2 := by
      rw [Nat.mul_one]; simp [List.getD_eq_getElem?_getD, List.getElem?_append_left, hir, rowM]
    simp only [go_sem, decide_true, decide_false, Nat.lt_irrefl, c, h2, hget]
    refine ⟨by rw [List.length_append, List.length_map]; omega, ?_⟩
    refine AWP.roam (ι := Nat × Store) (fun x => x.1 ≤ w ∧ Disj T0 x.2 ∧ J (i * w + x.1) x.2)
      (fun x => ⟨Env.get [(0, .fn (.yield l) [] []), (1, .sp b 0), (4, .ms (rb[i]).1 3 0 w (rb[i]).2), (7, .ms bo 1 0 n n), (8, i64 n), (9, i64 i), (14, i64 w), (15, i64 x.1)], Store.join x.2 T0, 26, []⟩) (fun x => w - x.1) (0, E) ⟨by simp, hd, hJ⟩ ?_ ?_
    · exact le_of (by simp only [go_sem, decide_true, decide_false, Nat.lt_irrefl] <;> simp) (Sub.refl _) rfl rfl (by simp)
    · rintro ⟨j, E⟩ ⟨hj, hd, hJ⟩ jh
      dsimp only at hj hd hJ ⊢
      refine AWPH.step (xc_ok (bitB 8505267) _ _ _ ?_)
      by_cases cj : j < w
      rotate_left
      · obtain rfl : j = w := by omega
        simp only [go_sem, decide_true, decide_false, Nat.lt_irrefl, cj]
        refine (ih (i + 1, E) ⟨c, hd, by rw [Nat.add_mul, Nat.one_mul]; exact hJ⟩ (by dsimp only; omega)).back (Sub.refl _) (by simp) ?_
        simp only [go_sem, decide_true, decide_false, Nat.lt_irrefl, wi_succ (show i < 4611686018427387904 by omega)]
      have hkk : i * w + j < n * w := by
        have : (i + 1) * w ≤ n * w := Nat.mul_le_mul_right _ c
        rw [Nat.add_mul, Nat.one_mul] at this; omega
      have hyi := hy _ hkk E T0 (Sub.refl T0) hd hJ
      simp only [itemsC, (cell_div cj).1, (cell_div cj).2] at hyi
      rw [show rb.getD i (0, 0) = rb[i] by simp [List.getD_eq_getElem?_getD, hir]] at hyi
      have hjs : wi ((j : Int) + 1) = ((j + 1 : Nat) : Int) := wi_succ (show j < 4611686018427387904 by omega)
      simp only [go_sem, decide_true, decide_false, Nat.lt_irrefl, cj]
      refine hyi.useA rfl ?_
      rintro r S' ⟨E', rfl, hd2, ⟨rfl, hJ2⟩ | ⟨rfl, hJ2⟩⟩
      · simp only [go_sem, decide_true, decide_false, Nat.lt_irrefl]
        refine (jh (j + 1, E') ⟨cj, hd2, hJ2⟩ (by dsimp only; omega)).back (Sub.refl _) (by simp) ?_
        simp only [go_sem, decide_true, decide_false, Nat.lt_irrefl, hjs]
      · simp only [go_sem, decide_true, decide_false, Nat.lt_irrefl]
        exact ⟨_, Sub.refl _, Or.inl ⟨E', rfl, hd2, Or.inr hJ2⟩⟩
set_option maxHeartbeats 2000000 in
set_option maxRecDepth 8000 in
theorem grid_Drop0 (g : Grid) (hg : g.Lo) (w : Nat) (hw : 1 ≤ w) (hw2 : w < 1048576) (hwd : ∀ r ∈ g.rows, r.length = w) (hsd : g.sd.length < 1048576) (f wn : Nat) (S : Store) : CallR Try.prog 27 [g.av, u64 f, u64 wn] S
    (fun r S' => ∃ bo rb, r = .agg (gridM (dropGr (dropG (oldV f wn)) g) bo rb.length) ∧ Rows S bo w rb (dropGr (dropG (oldV f wn)) g).rows 0 S') := by
  have hnn := hg.n
  refine callR_of Try.func27 rfl rfl (xc_ok (bitB 393471) _ _ _ ?_)
  simp only [go_sem, decide_true, decide_false, Nat.lt_irrefl]
  refine alloc_intro fun c3 h3 => ?_
  simp only [go_sem, decide_true, decide_false, Nat.lt_irrefl]
  refine alloc_intro fun c4 h4 => ?_
  simp only [fresh_set] at h4
  simp only [go_sem, decide_true, decide_false, Nat.lt_irrefl, h4]
  refine alloc_intro fun c5 h5 => ?_
  simp only [fresh_set] at h5
  simp only [go_sem, decide_true, decide_false, Nat.lt_irrefl, h4, h5]
  refine alloc_intro fun c6 h6 => ?_
  simp only [fresh_set] at h6
  simp only [go_sem, decide_true, decide_false, Nat.lt_irrefl, h4, h5, h6]
  refine (copied g w hw hw2 hnn hsd hwd _).useA ?_
  rintro _ U ⟨bo, rb, rfl, hR⟩
  have u3 := hR.sub (.r c3) (.cells [i64 g.w, .p (.sl (g.sd.map Seed.pv)), .p (.sl (g.rows.map rowE)), i64 g.all.k, i64 g.all.g, .p (.sl (g.all.ls.map lvE))]) (by simp only [go_sem, decide_true, decide_false, Nat.lt_irrefl, h4, h5, h6])
  have u4 := hR.sub (.r c4) (.cells [u64 f]) (by simp only [go_sem, decide_true, decide_false, Nat.lt_irrefl, h4, h5, h6])
  have u5 := hR.sub (.r c5) (.cells [u64 wn]) (by simp only [go_sem, decide_true, decide_false, Nat.lt_irrefl, h4, h5, h6])
  have u6 := hR.sub (.r c6) (.cells [i64 0, .nils, .nils, i64 0, i64 0, .nils]) (by simp only [go_sem, decide_true, decide_false, Nat.lt_irrefl, h4, h5, h6])
  simp only [go_sem, decide_true, decide_false, Nat.lt_irrefl, u3, u4, u5, u6, h4, h5, h6, gridM]
  refine (exp_Drop g.all.k g.all.g g.all.ls f wn hg.all.1 hg.all.2).useA ?_
  obtain ⟨D, hD⟩ : ∃ D, dropG (oldV f wn) = D := ⟨_, rfl⟩
  rw [hD]
  simp only [go_sem, decide_true, decide_false, Nat.lt_irrefl, u3, u4, u5, u6, h4, h5, h6]
  have y3 : S (.r c3) = none := h3
  have y4 : S (.r c4) = none := h4.2
  have y5 : S (.r c5) = none := h5.2.2
  have y6 : S (.r c6) = none := h6.2.2.2
  have n46 : ¬ c4 = c6 ∧ ¬ c6 = c4 := ⟨h6.2.1.2, h6.2.1.1⟩
  have n36 : ¬ c3 = c6 ∧ ¬ c6 = c3 := ⟨h6.2.2.1.2, h6.2.2.1.1⟩
  obtain ⟨S0, hS0, s3, s4, s5, s6, sS⟩ : ∃ S0 : Store, Rows S0 bo w rb g.rows 0 U ∧ S0 (.r c3) = some (.cells [i64 g.w, .p (.sl (g.sd.map Seed.pv)), .p (.sl (g.rows.map rowE)), i64 g.all.k, i64 g.all.g, .p (.sl (g.all.ls.map lvE))]) ∧
      S0 (.r c4) = some (.cells [u64 f]) ∧ S0 (.r c5) = some (.cells [u64 wn]) ∧ S0 (.r c6) = some (.cells [i64 0, .nils, .nils, i64 0, i64 0, .nils]) ∧ Sub S S0 :=
    ⟨_, hR, by simp only [go_sem, decide_true, decide_false, Nat.lt_irrefl, h4, h5, h6], by simp only [go_sem, decide_true, decide_false, Nat.lt_irrefl, h4, h5, h6], by simp only [go_sem, decide_true, decide_false, Nat.lt_irrefl, h4, h5, h6], by simp only [go_sem, decide_true, decide_false, Nat.lt_irrefl, h4, h5, h6], Sub.set (Sub.set (Sub.set (Sub.set (Sub.refl _) y3 _) y4 _) y5 _) y6 _⟩
  clear hR h3 h4 h5 h6
  have n34 : ¬ c4 = c3 := by rintro rfl; rw [s3] at s4; simp at s4
  have n35 : ¬ c5 = c3 := by rintro rfl; rw [s3] at s5; simp at s5
  have hfold : [AV.p (PV.int IntKind.i64 g.w), .p (.sl (g.sd.map Seed.pv)), .ms bo 1 0 g.rows.length g.rows.length, .p (.int .i64 g.all.k), .p (.int .i64 g.all.g), .p (.sl ((D g.all.ls).map lvE))] = gridM ⟨g.w, g.sd, g.rows, dropH D g.all⟩ bo g.rows.length := rfl
  simp only [hfold]
  refine (grid_cells ⟨g.w, g.sd, g.rows, dropH D g.all⟩ bo g.rows.length _).useA ?_
  rintro _ _ ⟨b, hb, rfl, rfl⟩
  simp only [fresh_set] at hb
  have hrl := hS0.len
  have ub : U (.r b) = none := hb.2
  have nb3 : ¬ b = c3 := hb.1.1
  have E3 : ∃ X, X = AV.ms bo 1 0 g.rows.length g.rows.length := ⟨_, rfl⟩
  obtain ⟨E0, hE0⟩ : ∃ E0 : Store, E0 = S0.set (.r c3) (.cells (gridM ⟨g.w, g.sd, g.rows, dropH D g.all⟩ bo g.rows.length)) := ⟨_, rfl⟩
  have nd : NoDup rb := hS0.nd
  have srow : ∀ i (hi : i < rb.length), S0 (.r (rb[i]).1) = none ∧ ¬ (rb[i]).1 = bo ∧ ¬ (rb[i]).1 = c3 ∧ ¬ (rb[i]).1 = b := fun i hi => by
    obtain ⟨r1, r2, r3, r4⟩ := hS0.row i hi
    refine ⟨r2, r3, ?_, ?_⟩
    · intro e; rw [e, s3] at r2; cases r2
    · intro e; rw [e, ub] at r1; cases r1
  have e4 : E0 (.r c4) = some (.cells [u64 f]) := by rw [hE0, Store.set_other _ _ (rkey_ne n34)]; exact s4
  have e5 : E0 (.r c5) = some (.cells [u64 wn]) := by rw [hE0, Store.set_other _ _ (rkey_ne n35)]; exact s5
  have e6 : E0 (.r c6) = some (.cells [i64 0, .nils, .nils, i64 0, i64 0, .nils]) := by rw [hE0, Store.set_other _ _ (rkey_ne n36.2)]; exact s6
  have e3 : E0 (.r c3) = some (.cells (gridM ⟨g.w, g.sd, g.rows, dropH D g.all⟩ bo g.rows.length)) := by rw [hE0, Store.set_same]
  have ebo : E0 (.r bo) = none := by
    rw [hE0, Store.set_other _ _ (rkey_ne fun e => by have := hS0.fo; rw [e, s3] at this; cases this)]; exact hS0.fo
  have eb : E0 (.r b) = none := by
    rw [hE0, Store.set_other _ _ (rkey_ne nb3)]; exact none_of_sub hS0.sub ub
  have hbase : ∀ {c : Nat} {y : Blk}, E0 (.r c) = some y → (∀ i (hi : i < rb.length), ¬ (rb[i]).1 = c) → ∀ rows, rowsS E0 w rb rows (.r c) = some y := fun h hn rows => by
    rw [rowsS_ne (fun i hi e => hn i hi (by injection e with e; exact e.symm))]; exact h
  have hbno : ∀ rows, rowsS E0 w rb rows (.r b) = none := fun rows => by
    rw [rowsS_ne (fun i hi e => (srow i hi).2.2.2 (by injection e with e; exact e.symm))]; exact eb
  have hbbo : ∀ rows, rowsS E0 w rb rows (.r bo) = none := fun rows => by
    rw [rowsS_ne (fun i hi e => (srow i hi).2.1 (by injection e with e; exact e.symm))]; exact ebo
  have hr3 : ∀ i (hi : i < rb.length), ¬ (rb[i]).1 = c3 := fun i hi => (srow i hi).2.2.1
  have hr4 : ∀ i (hi : i < rb.length), ¬ (rb[i]).1 = c4 := fun i hi e => by have := (srow i hi).1; rw [e, s4] at this; cases this
  have hr5 : ∀ i (hi : i < rb.length), ¬ (rb[i]).1 = c5 := fun i hi e => by have := (srow i hi).1; rw [e, s5] at this; cases this
  have hr6 : ∀ i (hi : i < rb.length), ¬ (rb[i]).1 = c6 := fun i hi e => by have := (srow i hi).1; rw [e, s6] at this; cases this
  have hout := hS0.outer
  have nbo3 : ¬ bo = c3 := by rintro rfl; have := hS0.fo; rw [s3] at this; cases this
  have hseq := grid_cells1 w g.rows.length rb hw hw2 hrl hnn (T0 := (eS.set (.r b) (.cells (gridM ⟨g.w, g.sd, g.rows, dropH D g.all⟩ bo g.rows.length))).set (.r bo) (.cells (rb.map (rowM w) ++ zcs [.nils] 0))) (b := b) (bo := bo)
    (a0 := i64 g.w) (a1 := .p (.sl (g.sd.map Seed.pv))) (a3 := i64 g.all.k) (a4 := i64 g.all.g) (a5 := .p (.sl ((D g.all.ls).map lvE))) (by
      rw [Store.set_other _ _ (rkey_ne fun e => by rw [e] at ub; rw [ub] at hout; cases hout), Store.set_same]; rfl) (by rw [Store.set_same])
  simp only [go_sem, decide_true, decide_false, Nat.lt_irrefl]
  refine AWP.rangeE (ι := Unit) (f := 81) (first := []) (caps := [.sp b 0]) (by simp only [go_sem, decide_true, decide_false, Nat.lt_irrefl]) _
    (fun k _ => rowsS E0 w rb (rowsK (dropH D) w g.rows k)) () ?_ ?_ hseq (enterable_of Try.func81 rfl rfl) (fun _ _ => False) (fun _ _ => rfl) (by simp) ?_ ?_ ?_
  · refine sub_joinT (sub_joinT (sub_join0 ?_) ?_ ?_) ?_ ?_
    · rw [rowsK_zero]
      intro q y hq
      by_cases h : ∃ i, ∃ hi : i < rb.length, q = .r (rb[i]).1
      · obtain ⟨i, hi, rfl⟩ := h
        rw [rowsS_at nd hi] at hq
        rw [Store.set_other _ _ (rkey_ne (srow i hi).2.2.2), Store.set_other _ _ (rkey_ne (srow i hi).2.2.1), (hS0.row i hi).1]; exact hq
      · rw [rowsS_ne (fun i hi e => h ⟨i, hi, e⟩), hE0] at hq
        by_cases e : q = .r c3
        · subst e
          rw [Store.set_same] at hq
          rw [Store.set_other _ _ (rkey_ne fun e => nb3 e.symm), Store.set_same]; exact hq
        · rw [Store.set_other _ _ e] at hq
          have := hS0.sub _ _ hq
          rw [Store.set_other _ _ (by rintro rfl; rw [ub] at this; cases this), Store.set_other _ _ e]; exact this
    · rw [Store.set_same]
    · exact hbno _
    · rw [Store.set_other _ _ (rkey_ne fun e => by rw [e, ub] at hout; cases hout), Store.set_other _ _ (rkey_ne nbo3)]; exact hout
    · exact hbbo _
  · exact ((Disj.nil _).setT (hbno _) _).setT (hbbo _) _
  · intro k _ l hk T hT hdT
    refine xc_ok (bitB 393471) _ _ _ ?_
    simp only [go_sem, decide_true, decide_false, Nat.lt_irrefl, itemsC]
    refine ⟨_, Sub.refl _, hdT, fun T' hT' hdT' => ?_⟩
    refine xc_ok (bitB 393471) _ _ _ ?_
    obtain ⟨i, j, hi, hj, rfl⟩ : ∃ i j, i < g.rows.length ∧ j < w ∧ k = i * w + j := ⟨k / w, k % w, Nat.div_lt_of_lt_mul (by rw [Nat.mul_comm]; exact hk), Nat.mod_lt _ (by omega), by rw [Nat.mul_comm]; exact (Nat.div_add_mod k w).symm⟩
    have hir : i < rb.length := by rw [hrl]; exact hi
    obtain ⟨hcl, hcell⟩ := rowsK_cell (dropH D) w g.rows hwd hi hj
    simp only [go_sem, decide_true, decide_false, Nat.lt_irrefl, (cell_div hj).1, (cell_div hj).2]
    rw [show rb.getD i (0, 0) = rb[i] by simp [List.getD_eq_getElem?_getD, hir]]
    have hat := rowsS_at (E := E0) (w := w) (rows := rowsK (dropH D) w g.rows (i * w + j)) nd hir
    obtain ⟨R, hRR⟩ : ∃ R, (rowsK (dropH D) w g.rows (i * w + j)).getD i [] = R := ⟨_, rfl⟩
    have hstep := rowsK_step (dropH D) w g.rows hwd hi hj
    have hsl : i < (rowsK (dropH D) w g.rows (i * w + j)).length := by rw [rowsK_len]; exact hi
    have hset := rowsS_set (E := E0) (w := w) (rb := rb) nd hir hsl (R.set j (dropH D ((g.rows[i])[j]'(by rw [hwd _ (List.getElem_mem hi)]; exact hj))))
    obtain ⟨h, hh⟩ : ∃ h, (g.rows[i])[j]'(by rw [hwd _ (List.getElem_mem hi)]; exact hj) = h := ⟨_, rfl⟩
    have hlo := hg.hs _ (List.getElem_mem hi) _ (List.getElem_mem (show j < (g.rows[i]).length by rw [hwd _ (List.getElem_mem hi)]; exact hj))
    simp only [hRR] at hcl hcell hat hstep
    simp only [hh] at hcell hset hstep hlo
    have hcut := flat_cut R (List.replicate (((rb[i]).2 - w) * 3) AV.top) j hcl
    have hput := flat_put R (List.replicate (((rb[i]).2 - w) * 3) AV.top) (dropH D h) j hcl
    rw [hcell] at hcut
    have b4 := hbase e4 hr4 (rowsK (dropH D) w g.rows (i * w + j))
    have b5 := hbase e5 hr5 (rowsK (dropH D) w g.rows (i * w + j))
    have hlen : j * 3 + 3 ≤ (flatA (R.map Hist.cs) ++ List.replicate (((rb[i]).2 - w) * 3) AV.top).length := by rw [List.length_append, hflat_len]; omega
    unfold rowB at hat hset
    generalize flatA (R.map Hist.cs) ++ List.replicate (((rb[i]).2 - w) * 3) AV.top = FA at *
    refine AWP.draw2 (bitB 393471) mixed (by kernel_rfl) (fun q => (dropH D h).av) ?_
    have hex := exp_Drop h.k h.g h.ls f wn hlo.1 hlo.2
    rw [hD] at hex
    simp only [go_sem, decide_true, decide_false, Nat.lt_irrefl, hat, b4, b5, hcut, Hist.cs]
    have hput' : List.take (j * 3) FA ++ [AV.p (PV.int IntKind.i64 (dropH D h).k), AV.p (PV.int IntKind.i64 (dropH D h).g), AV.p (PV.sl (List.map lvE (dropH D h).ls))] ++ List.drop (j * 3 + 3) FA = _ := hput
    refine ⟨hlen, hex.draw, hlen, (), ?_, ?_⟩
    · rw [hput', join_set, hset, ← hstep]; exact Sub.refl _
    · rw [hstep, ← hset]; exact hdT'.setE hat _
  · intro _ d hd
    have hall := rowsK_all (dropH D) w g.rows hwd
    rw [hall] at hd ⊢
    have b3 := hbase e3 hr3 (g.rows.map (fun r => r.map (dropH D)))
    have b6 := hbase e6 hr6 (g.rows.map (fun r => r.map (dropH D)))
    have hjd := join_none hd
    have n3 : ¬ c3 = d ∧ ¬ d = c3 := by constructor <;> rintro rfl <;> (rw [b3] at hjd; cases hjd.2)
    have n6 : ¬ c6 = d ∧ ¬ d = c6 := by constructor <;> rintro rfl <;> (rw [b6] at hjd; cases hjd.2)
    simp only [go_sem, decide_true, decide_false, Nat.lt_irrefl, b3, b6, n3, n6, n36, gridM]
    have hT0 : ((eS.set (.r b) (.cells (gridM ⟨g.w, g.sd, g.rows, dropH D g.all⟩ bo g.rows.length))).set (.r bo) (.cells (rb.map (rowM w) ++ zcs [.nils] 0))) (.r bo) = some (.cells (rb.map (rowM w) ++ zcs [.nils] 0)) := Store.set_same _ _ _
    have ndbo : ¬ d = bo := by rintro rfl; rw [hT0] at hjd; cases hjd.1
    have ndrb : ∀ i (hi : i < rb.length), ¬ (rb[i]).1 = d := by
      rintro i hi rfl
      rw [rowsS_at nd hi] at hjd; cases hjd.2
    have sbo : S (.r bo) = none := none_of_sub sS hS0.fo
    have srb : ∀ i (hi : i < rb.length), S (.r (rb[i]).1) = none := fun i hi => none_of_sub sS (srow i hi).1
    have hE0q : ∀ q y, S q = some y → E0 q = some y := fun q y hq => by
      have : q ≠ .r c3 := by rintro rfl; rw [y3] at hq; cases hq
      rw [hE0, Store.set_other _ _ this]; exact sS _ _ hq
    have hbq : ∀ q y, S q = some y → rowsS E0 w rb (g.rows.map (fun r => r.map (dropH D))) q = some y := fun q y hq => by
      rw [rowsS_ne (fun i hi e => by rw [e, srb i hi] at hq; cases hq)]; exact hE0q q y hq
    have sd : S (.r d) = none := by
      cases e : S (.r d) with
      | none => rfl
      | some y => have := hbq _ _ e; rw [this] at hjd; cases hjd.2
    refine ⟨(rowsS S w rb (g.rows.map (fun r => r.map (dropH D)))).set (.r bo) (.cells (rb.map (rowM w) ++ zcs [.nils] 0)), ?_, ?_, Or.inl ⟨bo, rb, ?_, ?_⟩⟩
    · intro q y hq
      by_cases e : q = .r bo
      · subst e
        rw [Store.set_same] at hq
        have n1 : Key.r bo ≠ .r c6 := rkey_ne (by rintro rfl; rw [e6] at ebo; cases ebo)
        rw [Store.set_other _ _ n1, Store.set_other _ _ (rkey_ne fun e => ndbo e.symm)]
        unfold Store.join
        rw [hbbo]
        dsimp only
        rw [Store.set_same]
        exact hq
      · rw [Store.set_other _ _ e] at hq
        by_cases h : ∃ i, ∃ hi : i < rb.length, q = .r (rb[i]).1
        · obtain ⟨i, hi, rfl⟩ := h
          rw [rowsS_at nd hi] at hq
          rw [Store.set_other _ _ (rkey_ne (hr6 i hi)), Store.set_other _ _ (rkey_ne (ndrb i hi))]
          unfold Store.join
          rw [rowsS_at nd hi]; exact hq
        · rw [rowsS_ne (fun i hi e => h ⟨i, hi, e⟩)] at hq
          have n1 : q ≠ .r c6 := by rintro rfl; rw [y6] at hq; cases hq
          have n2 : q ≠ .r d := by rintro rfl; rw [sd] at hq; cases hq
          rw [Store.set_other _ _ n1, Store.set_other _ _ n2]
          unfold Store.join
          rw [hbq q y hq]
    · rintro _ rfl
      rw [Store.set_other _ _ (rkey_ne ndbo), rowsS_ne (fun i hi e => ndrb i hi (by injection e with e; exact e.symm))]; exact sd
    · rw [hrl]; rfl
    · refine ⟨by rw [hrl]; simp [dropGr], ?_, sbo, ?_, by rw [Store.set_same], fun i hi => ⟨?_, srb i hi, (srow i hi).2.1, (hS0.row i hi).2.2.2⟩, nd⟩
      · intro r hr
        obtain ⟨r', hr', rfl⟩ := List.mem_map.1 hr
        rw [List.length_map]; exact hwd _ hr'
      · intro q y hq
        rw [Store.set_other _ _ (by rintro rfl; rw [sbo] at hq; cases hq), rowsS_ne (fun i hi e => by rw [e, srb i hi] at hq; cases hq)]; exact hq
      · rw [Store.set_other _ _ (rkey_ne (srow i hi).2.1), rowsS_at nd hi]; rfl
  · intro e E' d _ h; exact h.elim

theorem grid_Drop (g : Grid) (hg : g.Lo) (hw : 1 ≤ g.w) (hw2 : g.w < 1048576) (hwd : ∀ r ∈ g.rows, r.length = g.w.toNat) (hsd : g.sd.length < 1048576) (f wn : Nat) :
    Pure Try.prog 27 [g.av, u64 f, u64 wn] (dropGr (dropG (oldV f wn)) g).av := fun S => by
  refine (grid_Drop0 g hg g.w.toNat (by omega) (by omega) hwd hsd f wn S).frz ?_
  rintro x S' ⟨bo, rb, rfl, hR⟩
  obtain ⟨G, hG⟩ : ∃ G, dropGr (dropG (oldV f wn)) g = G := ⟨_, rfl⟩
  rw [hG] at hR ⊢
  exact ⟨_, S, (frz_rows hR (Sub.refl _) (i64 G.w) (.p (.sl (G.sd.map Seed.pv))) (i64 G.all.k) (i64 G.all.g) (.p (.sl (G.all.ls.map lvE))) (i64 0)).2, rfl, rfl⟩
end Go.Sk
end

-- A22
section
namespace Go.Sk

structure Grid.Neat (g : Grid) : Prop where
  all : Tidy g.all.k.toNat g.all.ls
  hs : ∀ r ∈ g.rows, ∀ h ∈ r, Tidy h.k.toNat h.ls
theorem newV_neat (k w : Int) (sd : List Seed) : (newV k w sd).Neat := by
  refine ⟨empty_tidy _, fun r hr h hh => ?_⟩
  unfold newV at hr
  have := List.eq_of_mem_replicate hr
  subst this
  have := List.eq_of_mem_replicate hh
  subst this
  exact empty_tidy _
theorem rowsV_neat {g : Grid} (hg : g.Good) (hn : g.Neat) (e : Event) : ∀ i, i ≤ g.rows.length → (rowsV g e i).2 = 0 → ∀ r ∈ (rowsV g e i).1, ∀ h ∈ r, Tidy h.k.toNat h.ls := by
  intro i
  induction i with
  | zero => intro _ _; exact hn.hs
  | succ i ih =>
    intro hi h0
    have hse : rowsV g e (i + 1) = stepG g e i (rowsV g e i) := rfl
    unfold stepG at hse
    by_cases he : (rowsV g e i).2 = 0
    rotate_left
    · rw [if_neg he] at hse; rw [hse] at h0; exact absurd h0 he
    rw [if_pos he] at hse
    have h2 := ih (by omega) he
    obtain ⟨g1, g2⟩ := rowsV_good hg e i (by omega) he
    have hlt : i < (rowsV g e i).1.length := by rw [rowsV_len]; omega
    have hm : (rowsV g e i).1.getD i [] ∈ (rowsV g e i).1 := by
      rw [List.getD_eq_getElem?_getD, List.getElem?_eq_getElem hlt]; exact List.getElem_mem hlt
    have hc : colN g e.k i < ((rowsV g e i).1.getD i []).length := by rw [g1 _ hm]; exact colN_lt g hg.w1 _ _
    rw [hse] at h0 ⊢
    have hmm : ((rowsV g e i).1.getD i []).getD (colN g e.k i) zeroH ∈ (rowsV g e i).1.getD i [] := by
      generalize (rowsV g e i).1.getD i [] = rr at *
      rw [List.getD_eq_getElem?_getD, List.getElem?_eq_getElem hc]; exact List.getElem_mem hc
    have hgo := g2 _ hm _ hmm
    obtain ⟨_, k1, _, _⟩ := addH_good hgo e.t e.w h0
    have hT := (addH_tidy hgo (h2 _ hm _ hmm) e.t e.w h0).1
    intro r hr h hx
    rcases List.mem_or_eq_of_mem_set hr with hr | rfl
    · exact h2 r hr h hx
    · rcases List.mem_or_eq_of_mem_set hx with hx | rfl
      · exact h2 _ hm _ hx
      · rw [k1]; exact hT
theorem addG_neat {g : Grid} (hg : g.Good) (hn : g.Neat) (e : Event) (h : (addG g e).2 = 0) : (addG g e).1.Neat := by
  obtain ⟨h1, h2, h3⟩ := addG_ok h
  rw [h3]
  have h4 := rowsV_first g e _ h2
  refine ⟨?_, rowsV_neat hg hn e _ (Nat.le_refl _) h2⟩
  dsimp only
  rw [(addH_good hg.all _ _ h4).2.1]
  exact (addH_tidy hg.all hn.all e.t e.w h4).1
theorem drops_eq {g : Grid} (hg : g.Good) (hn : g.Neat) {o : Nat → Bool} (ho : Anti o) : dropGr (docD o) g = dropGr (dropG o) g := by
  unfold dropGr dropH
  rw [docD_eq ho hn.all hg.all.ne]
  congr 1
  apply List.map_congr_left
  intro r hr
  apply List.map_congr_left
  intro h hh
  rw [docD_eq ho (hn.hs r hr h hh) (hg.hs r hr h hh).ne]
theorem Grid.Good.lo {g : Grid} (h : g.Good) : g.Lo :=
  ⟨by have := h.n; omega, fun r hr => by have := h.wid r hr; have := h.w2; omega, ⟨by have := h.all.len; omega, fun l hl => by have := h.all.sm l hl; have := h.all.k1; omega⟩,
    fun r hr x hx => ⟨by have := (h.hs r hr x hx).len; omega, fun l hl => by have := (h.hs r hr x hx).sm l hl; have := (h.hs r hr x hx).k1; omega⟩⟩
theorem dropG_mem (o : Nat → Bool) : ∀ (ls : List (List Span)), (dropG o ls).length ≤ ls.length ∧ ∀ l ∈ dropG o ls, ∃ m ∈ ls, l.length ≤ m.length := by
  intro ls
  induction ls with
  | nil => exact ⟨Nat.le_refl _, fun l hl => (by cases hl)⟩
  | cons l r ih =>
    unfold dropG
    split
    · refine ⟨by simp; exact ih.1, fun x hx => ?_⟩
      rcases List.mem_cons.1 hx with rfl | hx
      · exact ⟨l, by simp, by simp⟩
      · obtain ⟨m, hm, hle⟩ := ih.2 x hx
        exact ⟨m, by simp [hm], hle⟩
    · exact ⟨by simp, fun x hx => by cases hx⟩
theorem dropH_small (o : Nat → Bool) {h : Hist} (g : h.Good) : (dropH (dropG o) h).Small := by
  have hm := dropG_mem o h.ls
  refine ⟨by have := g.len; have := hm.1; unfold dropH; dsimp only; omega, fun l hl => ?_⟩
  obtain ⟨m, hm2, hle⟩ := hm.2 l hl
  have := g.sm m hm2; have := g.k1; omega
theorem dropGr_small (o : Nat → Bool) {g : Grid} (h : g.Good) : (dropGr (dropG o) g).Small ∧ (dropGr (dropG o) g).Sz := by
  refine ⟨⟨by have := h.n; have := h.sd; unfold dropGr; dsimp only; omega, ⟨by have := h.n; simp [dropGr]; omega, fun r hr => ?_⟩, dropH_small o h.all⟩, ⟨by have := h.n; simp [dropGr]; omega, fun r hr => ?_⟩⟩
  · obtain ⟨r', hr', rfl⟩ := List.mem_map.1 hr
    refine ⟨by rw [List.length_map]; have := h.wid r' hr'; have := h.w2; omega, fun x hx => ?_⟩
    obtain ⟨y, hy, rfl⟩ := List.mem_map.1 hx
    exact dropH_small o (h.hs r' hr' y hy)
  · obtain ⟨r', hr', rfl⟩ := List.mem_map.1 hr
    rw [List.length_map]; have := h.wid r' hr'; have := h.w2; omega
end Go.Sk
end

-- W15s
section
namespace Go.Sk
open Go Go.Proofs

theorem tame_conf (c : Conf2) : confV (tameK c) (tameW c) (tameS c) = 0 := by
  have h := tameS_len c
  have hm := tameS_may c
  unfold confV
  rw [if_neg (by unfold tameK tameW; omega), if_pos (List.all_eq_true.2 hm)]

set_option maxHeartbeats 2000000 in
set_option maxRecDepth 8000 in
theorem law_GridPlays (c : Conf2) (l : List Event) (n0 n1 : Nat) (hn : c.sd.length ≤ 1048576) (hk : c.k < 9223372036854775808) (hw : c.w < 9223372036854775808)
    (hl : ∀ e ∈ l, e.Ok) (ll : l.length ≤ 1048576) :
    CallsR Try.prog 7 [c.av, .p (evsP l), .agg [u64 n0, u64 n1]] noS (fun x _ => x = bl true) := by
  generalize noS = S
  refine callsR_of Try.func7 rfl (xc_ok (bitB 24758800785707888072471085039) _ _ _ ?_)
  simp only [go_sem, decide_true, decide_false, Nat.lt_irrefl]
  refine alloc_intro fun c3 h3 => ?_
  simp only [go_sem, decide_true, decide_false, Nat.lt_irrefl]
  refine alloc_intro fun c5 h5 => ?_
  simp only [fresh_set] at h5
  simp only [go_sem, decide_true, decide_false, Nat.lt_irrefl, h5]
  refine awake.useA ?_
  simp only [go_sem, decide_true, decide_false, Nat.lt_irrefl, h5]
  refine (ref15_Tame c (by clear h5; omega) hk hw).useA ?_
  have hcf := tame_conf c
  have hsl := (tameS_len c).2
  have gx := tameV_good c
  have nx := newV_neat (tameK c) (tameW c) (tameS c)
  have hx : tameV c = newV (tameK c) (tameW c) (tameS c) := rfl
  have hxk : (tameV c).all.k = tameK c := rfl
  have hxw : (tameV c).w = tameW c := rfl
  have hxs : (tameV c).sd = tameS c := rfl
  have hNew := grid_New (tameK c) (tameW c) (tameS c) (by clear h5; omega)
  rw [if_pos hcf, hcf, ← hx] at hNew
  rw [← hxk, ← hxw, ← hxs] at hNew
  rw [← hx] at nx
  clear hx hxk hxw hxs hcf hsl
  generalize tameV c = x at *
  simp only [go_sem, decide_true, decide_false, Nat.lt_irrefl, h5]
  refine alloc_intro fun c8 h8 => ?_
  simp only [fresh_set] at h8
  simp only [go_sem, decide_true, decide_false, Nat.lt_irrefl, h5, h8]
  refine hNew.useA ?_
  simp only [go_sem, decide_true, decide_false, Nat.lt_irrefl, h5, h8]
  refine alloc_intro fun c9 h9 => ?_
  simp only [fresh_set] at h9
  simp only [go_sem, decide_true, decide_false, Nat.lt_irrefl, h5, h8, h9]
  have hsm := ref15_Same x x gx.small
  rw [decide_eq_true (rfl : x = x)] at hsm
  refine AWP.draw2 (bitB 24758800785707888072471085039) mixed (by kernel_rfl) (fun j => if j = 4 then x.av else bl true) ?_
  simp only [go_sem, decide_true, decide_false, Nat.lt_irrefl, h5, h8, h9, bne_self_eq_false]
  refine ⟨(back x gx.sz).draw, hsm.draw, ?_⟩
  obtain ⟨V, hV⟩ : ∃ V : Store, V = (S.set (.r c3) (.cells [i64 c.k, i64 c.w, .p (.sl (c.sd.map Seed.pv))])).set (.r c5) (.cells [u64 n0, u64 n1]) := ⟨_, rfl⟩
  have v5 : V (.r c5) = some (.cells [u64 n0, u64 n1]) := by rw [hV]; simp only [go_sem, decide_true, decide_false, Nat.lt_irrefl, h5]
  have v8 : V (.r c8) = none := by rw [hV]; simp only [go_sem, decide_true, decide_false, Nat.lt_irrefl, h8]; exact h8.2.2
  have v9 : V (.r c9) = none := by rw [hV]; simp only [go_sem, decide_true, decide_false, Nat.lt_irrefl, h9]; exact h9.2.2.2
  have n85 : ¬ c5 = c8 ∧ ¬ c8 = c5 := ⟨h8.1.2, h8.1.1⟩
  have n95 : ¬ c5 = c9 ∧ ¬ c9 = c5 := ⟨h9.2.1.2, h9.2.1.1⟩
  have n98 : ¬ c8 = c9 ∧ ¬ c9 = c8 := ⟨h9.1.2, h9.1.1⟩
  refine AWP.roam (ι := Nat × Nat × Grid) (fun y => y.1 ≤ l.length ∧ y.1 ≤ 20 ∧ y.2.1 ≤ y.1 * 100 ∧ y.2.2.Good ∧ y.2.2.Neat)
    (fun y => ⟨Env.get [(1, .p (evsP l)), (5, .sp c5 0), (7, bl true), (8, .sp c8 0), (9, .sp c9 0), (11, u64 y.2.1), (12, i64 y.1)],
      (V.set (.r c8) (.cells [i64 y.2.2.w, .p (.sl (y.2.2.sd.map Seed.pv)), .p (.sl (y.2.2.rows.map rowE)), i64 y.2.2.all.k, i64 y.2.2.all.g, .p (.sl (y.2.2.all.ls.map lvE))])).set (.r c9) (.cells [i64 y.2.2.w, .p (.sl (y.2.2.sd.map Seed.pv)), .p (.sl (y.2.2.rows.map rowE)), i64 y.2.2.all.k, i64 y.2.2.all.g, .p (.sl (y.2.2.all.ls.map lvE))]), 120, []⟩)
    (fun y => l.length - y.1) (0, 0, x) ⟨Nat.zero_le _, Nat.zero_le _, Nat.zero_le _, gx, nx⟩ ?_ ?_
  · refine le_of (by simp only [go_sem, decide_true, decide_false, Nat.lt_irrefl, evsP] <;> rfl) ?_ rfl rfl (by simp)
    rw [hV]
    ((try dsimp only); (repeat refine sub_set ?_ ?_) <;> first | ((repeat (first | exact Sub.refl _ | refine Sub.setF ?_ (by first | assumption | exact And.right (by assumption) | exact And.right (And.right (by assumption)) | exact And.right (And.right (And.right (by assumption))) | exact And.right (And.right (And.right (And.right (by assumption)))) | exact And.right (And.right (And.right (And.right (And.right (by assumption))))) | exact And.right (And.right (And.right (And.right (And.right (And.right (by assumption)))))) | exact And.right (And.right (And.right (And.right (And.right (And.right (And.right (by assumption))))))) | exact And.right (And.right (And.right (And.right (And.right (And.right (And.right (And.right (by assumption)))))))) | exact And.right (And.right (And.right (And.right (And.right (And.right (And.right (And.right (And.right (by assumption)))))))))) | refine Sub.setV ?_ (by first | assumption | exact And.right (by assumption) | exact And.right (And.right (by assumption)) | exact And.right (And.right (And.right (by assumption))) | exact And.right (And.right (And.right (And.right (by assumption)))) | exact And.right (And.right (And.right (And.right (And.right (by assumption))))) | exact And.right (And.right (And.right (And.right (And.right (And.right (by assumption)))))) | exact And.right (And.right (And.right (And.right (And.right (And.right (And.right (by assumption))))))) | exact And.right (And.right (And.right (And.right (And.right (And.right (And.right (And.right (by assumption)))))))) | exact And.right (And.right (And.right (And.right (And.right (And.right (And.right (And.right (And.right (by assumption)))))))))))); done) | (simp only [go_sem, decide_true, decide_false, Nat.lt_irrefl, h5, h8, h9]; done) | (simp only [go_sem, decide_true, decide_false, Nat.lt_irrefl, h5, h8, h9]; rfl) | rfl)
  clear hV h3 h5 h8 h9 gx nx hNew hsm
  rintro ⟨i, tick, g⟩ ⟨hi, hi2, ht, hg, hne⟩ ih
  dsimp only at hi hi2 ht hg hne ⊢
  refine AWPH.step (xc_ok (bitB 24758800785707888072471085039) _ _ _ ?_)
  obtain ⟨sd, zd⟩ := dropGr_small (oldV n0 n1) hg
  have hD1 := grid_Drop g hg.lo hg.w1 (by have := hg.w2; omega) hg.wid (by have := hg.n; have := hg.sd; omega) n0 n1
  have hD2 := ref15_Drop g hg.lo n0 n1
  rw [drops_eq hg hne (oldV_anti n0 n1)] at hD2
  have hDs := ref15_Same (dropGr (dropG (oldV n0 n1)) g) (dropGr (dropG (oldV n0 n1)) g) sd
  rw [decide_eq_true (rfl : dropGr (dropG (oldV n0 n1)) g = dropGr (dropG (oldV n0 n1)) g)] at hDs
  have hDb := back (dropGr (dropG (oldV n0 n1)) g) zd
  have hgs := ref15_Same g g hg.small
  rw [decide_eq_true (rfl : g = g)] at hgs
  have hgb := back g hg.sz
  generalize dropGr (dropG (oldV n0 n1)) g = DG at *
  by_cases c1 : i < l.length
  rotate_left
  · simp only [go_sem, decide_true, decide_false, Nat.lt_irrefl, c1, evsP, List.length_map]
    refine AWP.draw2 (bitB 24758800785707888072471085039) mixed (by kernel_rfl) (fun j => if j = 7 then DG.av else if j = 8 then DG.av else if j = 14 then DG.av else if j = 15 then bl true else if j = 19 then g.av else bl true) ?_
    simp only [go_sem, decide_true, decide_false, Nat.lt_irrefl, v5, n85, n95, n98]
    repeat' apply And.intro
    all_goals first
      | decide
      | exact hD1.draw
      | exact hD2.draw
      | exact hDs.draw
      | exact hDb.draw
      | exact hgs.draw
      | exact hgb.draw
      | exact ⟨_, Sub.refl _⟩
  by_cases c2' : (i : Int) < 20
  rotate_left
  · simp only [go_sem, decide_true, decide_false, Nat.lt_irrefl, c1, c2', evsP, List.length_map]
    refine AWP.draw2 (bitB 24758800785707888072471085039) mixed (by kernel_rfl) (fun j => if j = 7 then DG.av else if j = 8 then DG.av else if j = 14 then DG.av else if j = 15 then bl true else if j = 19 then g.av else bl true) ?_
    simp only [go_sem, decide_true, decide_false, Nat.lt_irrefl, v5, n85, n95, n98]
    repeat' apply And.intro
    all_goals first
      | decide
      | exact hD1.draw
      | exact hD2.draw
      | exact hDs.draw
      | exact hDb.draw
      | exact hgs.draw
      | exact hgb.draw
      | exact ⟨_, Sub.refl _⟩
  clear hD1 hD2 hDs hDb hgs hgb sd zd
  have hok : (l[i]).Ok := hl _ (List.getElem_mem c1)
  have htk : m64 (tick + (l[i]).t % 100) = tick + (l[i]).t % 100 := m64_id (by omega)
  have hq : wi ((i : Int) + 1) = ((i + 1 : Nat) : Int) := wi_succ (show i < 4611686018427387904 by omega)
  simp only [go_sem, decide_true, decide_false, Nat.lt_irrefl, c1, c2', evsP, ltN' c1, getD_map' _ _ _ _ c1, List.length_map, htk]
  refine AWP.draw2 (bitB 24758800785707888072471085039) mixed (by kernel_rfl) (fun j => bl false) ?_
  simp only [go_sem, decide_true, decide_false, Nat.lt_irrefl, c1, evsP, ltN' c1, getD_map' _ _ _ _ c1, htk]
  refine alloc_intro fun c13 h13 => ?_
  simp only [fresh_set] at h13
  simp only [go_sem, decide_true, decide_false, Nat.lt_irrefl, h13, n98, n85, n95]
  have hA := grid_Add g ⟨tick + (l[i]).t % 100, (l[i]).k, (l[i]).w⟩ hg.ok hok.k hok.w
  have hB := ref15_Add g ⟨tick + (l[i]).t % 100, (l[i]).k, (l[i]).w⟩ hg.ok hok.k hok.w
  obtain ⟨sa, za⟩ := addG_small hg ⟨tick + (l[i]).t % 100, (l[i]).k, (l[i]).w⟩
  have hgd := addG_good hg ⟨tick + (l[i]).t % 100, (l[i]).k, (l[i]).w⟩
  have hnd := addG_neat hg hne ⟨tick + (l[i]).t % 100, (l[i]).k, (l[i]).w⟩
  generalize addG g ⟨tick + (l[i]).t % 100, (l[i]).k, (l[i]).w⟩ = X at *
  refine hA.useA ?_
  simp only [go_sem, decide_true, decide_false, Nat.lt_irrefl, h13, n98, n85, n95]
  refine alloc_intro fun c14 h14 => ?_
  simp only [fresh_set] at h14
  simp only [go_sem, decide_true, decide_false, Nat.lt_irrefl, h13, h14, n98, n85, n95]
  refine hB.useA ?_
  simp only [go_sem, decide_true, decide_false, Nat.lt_irrefl, h13, h14, n98, n85, n95]
  refine alloc_intro fun c16 h16 => ?_
  simp only [fresh_set] at h16
  have hsx := ref15_Same X.1 X.1 sa
  rw [decide_eq_true (rfl : X.1 = X.1)] at hsx
  simp only [go_sem, decide_true, decide_false, Nat.lt_irrefl, h13, h14, h16, n98, n85, n95]
  refine AWP.draw2 (bitB 24758800785707888072471085039) mixed (by kernel_rfl) (fun j => if j = 5 then X.1.av else bl true) ?_
  simp only [go_sem, decide_true, decide_false, Nat.lt_irrefl, h13, h14, h16, n98, n85, n95, bne_self_eq_false]
  refine ⟨(back X.1 za).draw, hsx.draw, ?_⟩
  by_cases ex : X.2 = 0
  · have exb : (X.2 == 0) = true := by simpa using ex
    simp only [go_sem, decide_true, decide_false, Nat.lt_irrefl, exb, h13, h14, h16, n98, n85, n95]
    refine (ih (i + 1, tick + (l[i]).t % 100, X.1) ⟨c1, by dsimp only; omega, by dsimp only; omega, hgd ex, hnd ex⟩ (by dsimp only; omega)).back ?_ (by simp) ?_
    · ((try dsimp only); (repeat refine sub_set ?_ ?_) <;> first | ((repeat (first | exact Sub.refl _ | refine Sub.setF ?_ (by first | assumption | exact And.right (by assumption) | exact And.right (And.right (by assumption)) | exact And.right (And.right (And.right (by assumption))) | exact And.right (And.right (And.right (And.right (by assumption)))) | exact And.right (And.right (And.right (And.right (And.right (by assumption))))) | exact And.right (And.right (And.right (And.right (And.right (And.right (by assumption)))))) | exact And.right (And.right (And.right (And.right (And.right (And.right (And.right (by assumption))))))) | exact And.right (And.right (And.right (And.right (And.right (And.right (And.right (And.right (by assumption)))))))) | exact And.right (And.right (And.right (And.right (And.right (And.right (And.right (And.right (And.right (by assumption)))))))))) | refine Sub.setV ?_ (by first | assumption | exact And.right (by assumption) | exact And.right (And.right (by assumption)) | exact And.right (And.right (And.right (by assumption))) | exact And.right (And.right (And.right (And.right (by assumption)))) | exact And.right (And.right (And.right (And.right (And.right (by assumption))))) | exact And.right (And.right (And.right (And.right (And.right (And.right (by assumption)))))) | exact And.right (And.right (And.right (And.right (And.right (And.right (And.right (by assumption))))))) | exact And.right (And.right (And.right (And.right (And.right (And.right (And.right (And.right (by assumption)))))))) | exact And.right (And.right (And.right (And.right (And.right (And.right (And.right (And.right (And.right (by assumption)))))))))))); done) | (simp only [go_sem, decide_true, decide_false, Nat.lt_irrefl, h13, h14, h16, n98, n85, n95]; done) | (simp only [go_sem, decide_true, decide_false, Nat.lt_irrefl, h13, h14, h16, n98, n85, n95]; rfl) | rfl)
    · simp only [go_sem, decide_true, decide_false, Nat.lt_irrefl, hq, evsP]
  · have exb : (X.2 == 0) = false := by simpa using ex
    simp only [go_sem, decide_true, decide_false, Nat.lt_irrefl, exb, h13, h14, h16, n98, n85, n95]
    refine (ih (i + 1, tick + (l[i]).t % 100, g) ⟨c1, by dsimp only; omega, by dsimp only; omega, hg, hne⟩ (by dsimp only; omega)).back ?_ (by simp) ?_
    · ((try dsimp only); (repeat refine sub_set ?_ ?_) <;> first | ((repeat (first | exact Sub.refl _ | refine Sub.setF ?_ (by first | assumption | exact And.right (by assumption) | exact And.right (And.right (by assumption)) | exact And.right (And.right (And.right (by assumption))) | exact And.right (And.right (And.right (And.right (by assumption)))) | exact And.right (And.right (And.right (And.right (And.right (by assumption))))) | exact And.right (And.right (And.right (And.right (And.right (And.right (by assumption)))))) | exact And.right (And.right (And.right (And.right (And.right (And.right (And.right (by assumption))))))) | exact And.right (And.right (And.right (And.right (And.right (And.right (And.right (And.right (by assumption)))))))) | exact And.right (And.right (And.right (And.right (And.right (And.right (And.right (And.right (And.right (by assumption)))))))))) | refine Sub.setV ?_ (by first | assumption | exact And.right (by assumption) | exact And.right (And.right (by assumption)) | exact And.right (And.right (And.right (by assumption))) | exact And.right (And.right (And.right (And.right (by assumption)))) | exact And.right (And.right (And.right (And.right (And.right (by assumption))))) | exact And.right (And.right (And.right (And.right (And.right (And.right (by assumption)))))) | exact And.right (And.right (And.right (And.right (And.right (And.right (And.right (by assumption))))))) | exact And.right (And.right (And.right (And.right (And.right (And.right (And.right (And.right (by assumption)))))))) | exact And.right (And.right (And.right (And.right (And.right (And.right (And.right (And.right (And.right (by assumption)))))))))))); done) | (simp only [go_sem, decide_true, decide_false, Nat.lt_irrefl, h13, h14, h16, n98, n85, n95]; done) | (simp only [go_sem, decide_true, decide_false, Nat.lt_irrefl, h13, h14, h16, n98, n85, n95]; rfl) | rfl)
    · simp only [go_sem, decide_true, decide_false, Nat.lt_irrefl, hq, evsP]
end Go.Sk
end

-- LE
section
namespace Go.Sk
open Go Go.Proofs Go.ChangeShapes Go.WideShapes Go.ChangeAt Go.RowKit

theorem fit_events {N : Nat} {pv : PV} (h : Fit N (.sl [.int .u64, .int .u64, .int .u64]) pv) : ∃ l : List Event, pv = evsP l ∧ (∀ e ∈ l, e.Ok) ∧ l.length ≤ N := by
  refine fit_list (pvf := Event.pv) (ok := Event.Ok) h (fun l hl hf => ?_)
  obtain ⟨a, b, c, rfl, ha, hb, hc⟩ := fit_three hl hf
  obtain ⟨x, hx, rfl⟩ := fit_u64 ha
  obtain ⟨y, hy, rfl⟩ := fit_u64 hb
  obtain ⟨z, hz, rfl⟩ := fit_u64 hc
  exact ⟨⟨x, y, z⟩, rfl, hx, hy, hz⟩
theorem shEvents : shOf Try.prog 8 25 = some [.sl [.int .u64, .int .u64, .int .u64]] := by kernel_rfl
section
variable {H : Type} {enc : TypeId × Value → H}
set_option maxRecDepth 100000 in
theorem arg_events {W : World} {base N : Nat} {v : Value} {d : DataW H} {p : List MemPlace} (hok : Value.okWide Try.prog W .any base 25 v) (h : DataW.Trod enc Try.prog W 0 (fun _ => true) true 25 v d p) (hN : Ytjiechgnlcpllaa.Rows.uptoBulk d ≤ N) :
    ∃ l : List Event, (∀ e ∈ l, e.Ok) ∧ l.length ≤ N ∧ RepA (allD W) W v (.p (evsP l)) := by
  obtain ⟨a, n, c, rfl⟩ := okWide_slice Try.underlying25 hok
  obtain ⟨pv, hf, hr⟩ := arg_one (N := N) (f := 8) (bulkOk H) shEvents (fun c h => by cases h) h hN
  obtain ⟨l, rfl, h1, h2⟩ := fit_events hf
  exact ⟨l, h1, h2, hr⟩
end
end Go.Sk
end

-- L15a
section
namespace Go.Sk
open Go Go.Proofs Go.ChangeShapes Go.WideShapes Go.ChangeAt Go.RowKit

theorem fit_seeds {N : Nat} {pv : PV} (h : Fit N (.sl [.int .u64, .int .u64]) pv) : ∃ l : List Seed, pv = .sl (l.map Seed.pv) ∧ (∀ e ∈ l, e.Ok) ∧ l.length ≤ N := by
  refine fit_list (pvf := Seed.pv) (ok := Seed.Ok) h (fun l hl hf => ?_)
  obtain ⟨a, b, rfl, ha, hb⟩ := fit_two hl hf
  obtain ⟨x, hx, rfl⟩ := fit_u64 ha
  obtain ⟨y, hy, rfl⟩ := fit_u64 hb
  exact ⟨⟨x, y⟩, rfl, hx, hy⟩
structure Conf2.Ok (c : Conf2) : Prop where
  k : c.k < 9223372036854775808
  w : c.w < 9223372036854775808
  k0 : -9223372036854775808 ≤ c.k
  w0 : -9223372036854775808 ≤ c.w
  so : ∀ s ∈ c.sd, s.Ok
  n : c.sd.length ≤ 1048576
theorem shConf : shOf Try.prog 8 24 = some [.int .i64, .int .i64, .sl [.int .u64, .int .u64]] := by kernel_rfl
section
variable {H : Type} {enc : TypeId × Value → H}
set_option maxRecDepth 100000 in
theorem arg_conf {W : World} {base : Nat} {v : Value} {d : DataW H} {p : List MemPlace} (hok : Value.okWide Try.prog W .any base 24 v) (h : DataW.Trod enc Try.prog W 0 (fun _ => true) true 24 v d p) (hN : Ytjiechgnlcpllaa.Rows.uptoBulk d ≤ 1048576) :
    ∃ c : Conf2, c.Ok ∧ RepA (allD W) W v c.av := by
  obtain ⟨pvs, hl, hf, hr⟩ := arg_agg (N := 1048576) (f := 8) (bulkOk H) shConf (by rw [Try.underlying24]) hok h hN
  match pvs, hl with
  | [a, b, c], _ =>
    obtain ⟨x, ⟨hx0, hx⟩, e1⟩ := fit_i64 (hf 0 (by simp))
    obtain ⟨y, ⟨hy0, hy⟩, e2⟩ := fit_i64 (hf 1 (by simp))
    obtain ⟨s, e3, hs, hsn⟩ := fit_seeds (hf 2 (by simp))
    simp at e1 e2 e3
    subst e1; subst e2; subst e3
    exact ⟨⟨x, y, s⟩, ⟨hx, hy, hx0, hy0, hs, hsn⟩, hr⟩
end
end Go.Sk
end

-- L15e
section
namespace Go.Sk
open Go Go.Proofs Go.ChangeShapes Go.WideShapes Go.ChangeAt Go.RowKit

theorem shTwo : shOf Try.prog 8 73 = some [.int .u64, .int .u64] := by kernel_rfl
section
variable {H : Type} {enc : TypeId × Value → H}
set_option maxRecDepth 100000 in
theorem arg_two {W : World} {base N : Nat} {v : Value} {d : DataW H} {p : List MemPlace} (hok : Value.okWide Try.prog W .any base 73 v) (h : DataW.Trod enc Try.prog W 0 (fun _ => true) true 73 v d p) (hN : Ytjiechgnlcpllaa.Rows.uptoBulk d ≤ N) :
    ∃ n0 n1 : Nat, (n0 < 18446744073709551616 ∧ n1 < 18446744073709551616) ∧ RepA (allD W) W v (.agg [u64 n0, u64 n1]) := by
  obtain ⟨pvs, hl, hf, hr⟩ := arg_agg (N := N) (f := 8) (bulkOk H) shTwo (by rw [Try.underlying73]) hok h hN
  match pvs, hl with
  | [a, b], _ =>
    obtain ⟨x0, h0, e0⟩ := fit_u64 (hf 0 (by simp))
    obtain ⟨x1, h1, e1⟩ := fit_u64 (hf 1 (by simp))
    simp at e0 e1
    subst e0; subst e1
    exact ⟨x0, x1, ⟨h0, h1⟩, hr⟩
end
namespace gridPlays
set_option maxRecDepth 100000 in
theorem contract (H : Type) (enc : TypeId × Value → H) (W : World) (base : Nat) (args : Array Value) (ds gs : List (DataW H)) (before : List MemPlace)
    (hval : ∀ (j : Nat) t v, Try.f7.params[j]? = some t → args[j]? = some v → Value.okWide Try.prog W .any base t v)
    (hW : DataW.Whole enc Try.prog Try.f7.params.toList Ytjiechgnlcpllaa.Rows.gridPlaysSpec.vars false W args.toList ds gs before) (hk : Ytjiechgnlcpllaa.Rows.uptoSmall H (ds ++ gs) = true) :
    Calls Try.prog 7 args W fun e W' => ∃ v, e = .returned v ∧ Ytjiechgnlcpllaa.Rows.gridPlaysSpec.post enc Try.prog Try.f7 false true false false W args v W' := by
  have hW' := hW
  obtain ⟨p, q, hA0, hV, rfl, hfz, hnd⟩ := hW
  have hA : DataW.TrodAll enc Try.prog W 0 (fun _ => true) true Try.f7.params.toList args.toList ds p := hA0
  rw [Try.params7] at hA hval
  obtain ⟨v0, vs0, d0, ds0, p0, q0, hargs, rfl, rfl, h0, r0⟩ := trodAll_cons hA
  obtain ⟨v1, vs1, d1, ds1, p1, q1, rfl, rfl, rfl, h1, r1⟩ := trodAll_cons r0
  obtain ⟨v2, vs2, d2, ds2, p2, q2, rfl, rfl, rfl, h2, r2⟩ := trodAll_cons r1
  obtain ⟨rfl, rfl, rfl⟩ := trodAll_nil r2
  obtain ⟨rfl, rfl⟩ := trodVars_none hV
  obtain rfl : args = #[v0, v1, v2] := by cases args; simp_all
  have hb : Ytjiechgnlcpllaa.Rows.uptoBulkAll ([d0, d1, d2] ++ []) ≤ 1048576 := of_decide_eq_true hk
  obtain ⟨b0, hb⟩ := small_cons hb
  obtain ⟨b1, hb⟩ := small_cons hb
  obtain ⟨b2, hb⟩ := small_cons hb
  obtain ⟨c, hc, rep0⟩ := arg_conf (hval 0 24 v0 rfl rfl) h0 b0
  obtain ⟨l, hl, ll, rep1⟩ := arg_events (hval 1 25 v1 rfl rfl) h1 b1
  obtain ⟨n0, n1, hn, rep2⟩ := arg_two (hval 2 73 v2 rfl rfl) h2 b2
  refine ((law_GridPlays c l n0 n1 hc.n hc.k hc.w hl ll) (allD W) W #[v0, v1, v2] (rel_all W) ⟨rfl, fun i hi => ?_⟩).mono ?_
  · match i, hi with
    | 0, _ => exact rep0
    | 1, _ => exact rep1
    | 2, _ => exact rep2
  · rintro e W' ⟨v, rfl, x, S', D', rfl, _, hrep, hE⟩
    cases hrep with
    | p hrep =>
    cases hrep
    exact ⟨_, rfl, bridge kids full hW' rfl (by rw [Try.params7]; decide) rfl Try.underlying4 rfl rfl rfl hE.still⟩

set_option maxRecDepth 100000 in
theorem lifted (os : Os) (started : os.Started) (H : Type) (enc : TypeId × Value → H) (F : Stop.Interp) :
    ReturnsInHanded {} Try.checked os 7 .any ((Ytjiechgnlcpllaa.Rows.OpenSpec.upto Ytjiechgnlcpllaa.Rows.gridPlaysSpec).pre6 enc Try.prog Try.f7 Ytjiechgnlcpllaa.Rows.gridPlaysUptoRow.domain false) (((Ytjiechgnlcpllaa.Rows.OpenSpec.upto Ytjiechgnlcpllaa.Rows.gridPlaysSpec).at F).post enc Try.prog Try.f7 false true false false) := by
  refine returnsInHanded_of_cond (C := Try.checked) (s := Ytjiechgnlcpllaa.Rows.OpenSpec.upto Ytjiechgnlcpllaa.Rows.gridPlaysSpec) (k := Ytjiechgnlcpllaa.Rows.uptoSmall) rfl own started (by kernel_rfl) Try.func7
    (OpenSpec.witness (enc := enc) (C := Try.checked) (s := Ytjiechgnlcpllaa.Rows.OpenSpec.upto Ytjiechgnlcpllaa.Rows.gridPlaysSpec) (k := Ytjiechgnlcpllaa.Rows.uptoSmall) rfl false ⟨#[], #[.agg #[.int .i64 0, .int .i64 0, .slice none 0 0], .slice none 0 0, .agg #[.int .u64 0, .int .u64 0]], []⟩ 12 (by kernel_rfl) (by kernel_rfl) (by kernel_rfl)
      (x := ([.agg [.lit (.int .i64 0), .lit (.int .i64 0), .nil], .nil, .agg [.lit (.int .u64 0), .lit (.int .u64 0)]], [], [])) (by kernel_rfl) rfl (by kernel_rfl)) ?_
  intro W base args ds gs before hval hW _ hk _
  exact contract H enc W base args ds gs before hval hW hk

theorem j1 : (Ytjiechgnlcpllaa.Rows.gridPlaysUptoRow.inPlace == Try.prog.inPlace 7) = true := by kernel_rfl
theorem j2 : (Ytjiechgnlcpllaa.Rows.gridPlaysUptoRow.unfollowed == Try.prog.unfollowed 7) = true := by kernel_rfl
theorem j3 : (Ytjiechgnlcpllaa.Rows.gridPlaysUptoRow.recurses == Try.prog.recurses 7) = true := by kernel_rfl
theorem j4 : (Ytjiechgnlcpllaa.Rows.gridPlaysUptoRow.named == Try.prog.varsNamed 7) = true := by kernel_rfl
theorem j5 : (Ytjiechgnlcpllaa.Rows.gridPlaysUptoRow.plainKeys == Try.prog.plainKeys) = true := by kernel_rfl
theorem j6 : (Ytjiechgnlcpllaa.Rows.gridPlaysUptoRow.lifted == Try.prog.liftsFinal) = true := by kernel_rfl
theorem j7 : (Try.prog.make == some Ytjiechgnlcpllaa.Rows.gridPlaysUptoRow.make) = true := by kernel_rfl
set_option maxRecDepth 100000 in
theorem jf : joinedFacts Try.prog 7 Try.f7 (Ytjiechgnlcpllaa.Rows.OpenSpec.upto Ytjiechgnlcpllaa.Rows.gridPlaysSpec).bare Ytjiechgnlcpllaa.Rows.gridPlaysUptoRow = true := by
  unfold joinedFacts
  exact and_ok (and_ok (and_ok (and_ok (and_ok (and_ok (and_ok (and_ok (and_ok (and_ok (and_ok (and_ok (and_ok (and_ok (and_ok (and_ok (and_ok (and_ok (and_ok (and_ok (and_ok (and_ok (and_ok (and_ok (and_ok (and_ok (and_ok (and_ok (and_ok (and_ok (and_ok (by kernel_rfl) j_laid) j_maps) (by kernel_rfl)) (by kernel_rfl)) (by kernel_rfl)) (by kernel_rfl)) (by kernel_rfl)) (by kernel_rfl)) j1) j2) j3) j4) (by kernel_rfl)) (by kernel_rfl)) (by kernel_rfl)) (by kernel_rfl)) (by kernel_rfl)) (by kernel_rfl)) (by kernel_rfl)) (by kernel_rfl)) (by kernel_rfl)) j5) (by kernel_rfl)) j_heard) j_enter) j6) j7) (by kernel_rfl)) (by kernel_rfl)) (by kernel_rfl)) (by kernel_rfl)
end gridPlays
theorem _root_.Go.Proofs.Ytjiechgnlcpllaa.gridPlays_proved : Ytjiechgnlcpllaa.Rows.GridPlaysUptoSaid :=
  OpenClaim.holds_of_cond 7 Try.f7 rfl rfl rfl rfl rfl rfl rfl ⟨rfl, rfl, rfl, rfl, rfl⟩ rfl rfl rfl rfl rfl (by kernel_rfl) Try.func7 gridPlays.jf
    (of_decide_eq_true (by kernel_rfl)) (by unfold Func.isWrapper; first | (rw [if_pos (by decide +kernel)]; kernel_rfl) | (rw [if_neg (by decide +kernel)]; exact ⟨rfl, rfl⟩))
    (fun os started H enc _ F => gridPlays.lifted os started H enc F)
#print axioms Go.Proofs.Ytjiechgnlcpllaa.gridPlays_proved
end Go.Sk
end
