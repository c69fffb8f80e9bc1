/- Loops over functions, in one go: what the loop owns goes from base i x to base (i + 1) y. -/
import Derived.Test.YthpfcfacofakoaaGreatSkTp
set_option linter.unusedSimpArgs false
set_option linter.unusedVariables false
set_option linter.unusedSectionVars false
namespace Go.Sk
open Go

def bodyQ {ι : Type} (T : Store) (base : ι → Store) (Jx : Ex → Store → Prop) : Ex → St → Prop
  | .normal, s => ∃ y, Sub (Store.join T (base y)) s.S ∧ Disj T (base y)
  | .goto _, _ => False
  | e, s => ∃ E', Sub (Store.join T E') s.S ∧ Disj T E' ∧ Jx e E'
section
variable {ι : Type} (T : Store) (base : ι → Store) (Jx : Ex → Store → Prop) (s : St)
theorem bodyQ_normal : bodyQ T base Jx .normal s = ∃ y, Sub (Store.join T (base y)) s.S ∧ Disj T (base y) := (rfl)
@[congr] theorem bodyQ_congr {e : Ex} : bodyQ T base Jx e s = bodyQ T base Jx e s := rfl
end
attribute [go_sem] bodyQ_normal
attribute [go_sem ↓] bodyQ_normal
def asgQ (n : Nat) (T : Store) (B : Store → (Nat → AV) → Prop) : St → Prop := fun s1 => s1.df = [] ∧ s1.n = n ∧ ∃ E1, Sub (Store.join T E1) s1.S ∧ Disj T E1 ∧ B E1 s1.ρ
theorem asgQ_app (n : Nat) (T : Store) (B : Store → (Nat → AV) → Prop) (ρ : Env) (S' : Store) (n' : Nat) (df : List Nat) : asgQ n T B ⟨ρ.get, S', n', df⟩ = (df = [] ∧ n' = n ∧ ∃ E1, Sub (Store.join T E1) S' ∧ Disj T E1 ∧ B E1 ρ.get) := (rfl)
attribute [go_sem] asgQ_app
attribute [go_sem ↓] asgQ_app
theorem Sub.trans {S S' S'' : Store} (h : Sub S S') (k : Sub S' S'') : Sub S S'' := fun q x hq => k _ _ (h _ _ hq)

abbrev eS : Store := fun _ => none
theorem sub_join0 {E U : Store} (h : Sub E U) : Sub (Store.join eS E) U := by rw [join_nil]; exact h
theorem sub_joinT {T E U : Store} {k : Key} {x : Blk} (h : Sub (Store.join T E) U) (hk : U k = some x) (hE : E k = none) : Sub (Store.join (T.set k x) E) U := by
  rw [← join_setT x hE]; exact sub_set h hk
theorem Sub.joinD {T A B : Store} (h : Sub A B) (hd : Disj T B) : Sub (Store.join T A) (Store.join T B) := by
  intro q x hq
  unfold Store.join at hq ⊢
  cases ha : A q with
  | some y => rw [ha] at hq; rw [h _ _ ha]; exact hq
  | none =>
    rw [ha] at hq
    rcases hd q with e | e
    · rw [e]; exact hq
    · dsimp only at hq; rw [e] at hq; cases hq
theorem Sub.joinL {T A B : Store} (h : Sub A B) : Sub A (Store.join T B) := by
  intro q x hq
  unfold Store.join; rw [h _ _ hq]
theorem Disj.setE {T E : Store} (h : Disj T E) {k : Key} {y : Blk} (hk : E k = some y) (x : Blk) : Disj T (E.set k x) := h.set (by
  rcases h k with e | e
  · rw [hk] at e; cases e
  · exact e) x
theorem Disj.unsetT {T E : Store} {k : Key} {x : Blk} (h : Disj (T.set k x) E) (hk : T k = none) : Disj T E ∧ E k = none := by
  have he : E k = none := by
    rcases h k with e | e
    · exact e
    · rw [Store.set_same] at e; cases e
  refine ⟨fun q => ?_, he⟩
  by_cases e : q = k
  · subst e; exact Or.inl he
  · rcases h q with e' | e'
    · exact Or.inl e'
    · rw [Store.set_other _ _ e] at e'; exact Or.inr e'
theorem sub_join_set {T E : Store} {k : Key} {x : Blk} (h1 : T k = none) (h2 : E k = none) : Sub (Store.join E T) (Store.join E (T.set k x)) := by
  rw [← join_set]
  refine Sub.set (Sub.refl _) ?_ _
  unfold Store.join; rw [h1]; exact h2
theorem set_none_iff {S : Store} {k q : Key} {x : Blk} : ((S.set k x) q = none) = (¬ q = k ∧ S q = none) := by
  unfold Store.set
  by_cases e : q = k
  · simp [e]
  · simp [e]
theorem AWP.rangeE {P : Program} {ρ : Env} {S : Store} {n : Nat} {g : Operand} {ps : Array Tmp} {assign body : Code} {Q : Ex → St → Prop} {f : FuncId} {first caps : List AV}
    (hg : ev ⟨ρ.get, S, n, []⟩ g = .fn (.func f) first caps) (T0 : Store) {m : Nat} {item : Nat → List AV} {ι : Type} (base : Nat → ι → Store) (x0 : ι)
    (hS : Sub (Store.join T0 (base 0 x0)) S) (hd : Disj T0 (base 0 x0))
    (hseq : SeqR P f first caps T0 m item) (hent : Enterable P f) (Jx : Ex → Store → Prop)
    (hps : ∀ k, k < m → ps.size = (item k).length) (hlt : ∀ p ∈ ps.toList, p < n)
    (hround : ∀ k x l, k < m → ∀ T, Sub T0 T → Disj T (base k x) → AWP P (some l) assign (thenQ (asgQ n T fun E1 σ =>
      ∀ T', Sub T0 T' → Disj T' E1 → AWP P (some l) body (bodyQ T' (base (k + 1)) Jx) ⟨σ, Store.join T' E1, n, []⟩) noQ) ⟨setPs ps.toList (item k) ρ.get, Store.join T (base k x), n, []⟩)
    (hend : ∀ y d, Store.join T0 (base m y) (.r d) = none → Q .normal ⟨ρ.get, (Store.join T0 (base m y)).set (.r d) mark0, n, [d]⟩)
    (hout : ∀ e E' d, Disj T0 E' → Jx e E' → (e = .ret ∨ ∃ id, e = .exit id) → Store.join T0 E' (.r d) = none → Q e ⟨ρ.get, (Store.join T0 E').set (.r d) mark0, n, [d]⟩) :
    AWP P none (.rangeFunc g ps assign body) Q ⟨ρ.get, S, n, []⟩ := by
  refine AWP.of_le (t := ⟨ρ.get, Store.join T0 (base 0 x0), n, []⟩) ?_ ⟨fun _ => Or.inl rfl, hS, rfl, rfl, fun r hr => by cases hr⟩
  refine AWP.rangeFunc (s := ⟨ρ.get, Store.join T0 (base 0 x0), n, []⟩) (n := m) (item := item) ?_ T0 (base 0 x0) rfl hd hseq hent (fun k E => ∃ y, E = base k y) Jx hps hlt ⟨x0, rfl⟩ ?_ ?_ ?_ ?_
  · rw [← hg]; cases g <;> rfl
  · rintro k hk E T l hsub hdE ⟨y, rfl⟩ T' h1 h2
    refine (hround k y l hk T' (hsub.trans h1) h2).mono ?_
    intro e s1 hq
    cases e with
    | normal =>
      obtain ⟨q1, q2, E1, q3, q5, q4⟩ := hq
      refine ⟨q1, E1, q3, q5, fun T'' g1 g2 => ?_⟩
      rw [q2]
      refine (q4 T'' (hsub.trans g1) g2).mono ?_
      intro e s2 hq2
      cases e with
      | normal =>
        obtain ⟨y', hy', hd'⟩ := hq2
        exact ⟨base (k + 1) y', hy', hd', y', rfl⟩
      | goto l => exact hq2
      | ret => exact hq2
      | exit id => exact hq2
    | goto l => exact hq
    | ret => exact hq
    | exit id => exact hq
  · intro E' _ r hr; cases hr
  · rintro E' d _ ⟨y, rfl⟩ hfr _
    exact hend y d hfr
  · intro e E' d hd1 hj he hfr _
    exact hout e E' d hd1 hj he hfr
end Go.Sk
