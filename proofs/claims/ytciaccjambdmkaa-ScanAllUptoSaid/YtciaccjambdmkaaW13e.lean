/- Walks: layer 13's statements. -/
import Derived.Test.YtciaccjambdmkaaW13c
import Derived.Test.YtciaccjambdmkaaW13d
set_option linter.unusedSimpArgs false
set_option linter.unusedVariables false
set_option linter.unusedSectionVars false
namespace Go.Sk
open Go Go.Proofs

def aw13 : List Event := [⟨3, 7, 1⟩, ⟨5, 7, 2⟩, ⟨6, 1, 4⟩]
theorem aw13_ok : ∀ e ∈ aw13, e.Ok := by
  intro e he
  simp only [aw13, List.mem_cons, List.not_mem_nil, or_false] at he
  rcases he with rfl | rfl | rfl <;> exact ⟨by decide, by decide, by decide⟩
theorem aw13_s1 : spanV aw13 5 2 = 2 := by simp [spanV, sumV, withinV, aw13, sub64_eq, m64_eq]
theorem aw13_s2 : spanV aw13 6 9 = 7 := by simp [spanV, sumV, withinV, aw13, sub64_eq, m64_eq]
theorem aw13_c : colSumV aw13 6 9 ⟨1, 0⟩ 3 1 = 7 := by
  have h7 : colV ⟨1, 0⟩ 7 3 = 1 := by decide
  have h1 : colV ⟨1, 0⟩ 1 3 = 1 := by decide
  simp [colSumV, sumV, inV, withinV, aw13, sub64_eq, m64_eq, h7, h1]
theorem aw13_k : sumsV aw13 3 6 = [⟨7, 3⟩, ⟨1, 4⟩] := by
  simp [sumsV, aw13, setK, getK, setIn, m64_eq]
theorem aw13_m (m : List Item) (hp : m.Perm (sumsV aw13 3 6)) (hr : Rising m) : m = [⟨1, 4⟩, ⟨7, 3⟩] := by
  rw [aw13_k] at hp
  have hl := hp.length_eq
  match m, hl with
  | [x, y], _ =>
    have hx : x ∈ [(⟨7, 3⟩ : Item), ⟨1, 4⟩] := hp.mem_iff.1 (by simp)
    have hr' := hr 0 1 (by omega) (by simp)
    have hr2 : x.k ≤ y.k := by simpa using hr'
    simp only [List.mem_cons, List.not_mem_nil, or_false] at hx
    rcases hx with rfl | rfl
    · have h2 := (List.perm_cons _).1 hp
      have : y = ⟨1, 4⟩ := by simpa using h2.singleton_eq
      subst this; simp at hr2
    · have h2 := (List.perm_cons _).1 (hp.trans (List.Perm.swap _ _ _))
      have : y = ⟨7, 3⟩ := by simpa using h2.singleton_eq
      subst this; rfl

set_option maxRecDepth 4000 in
theorem awake13 : Pure Try.prog 8 [] (bl true) := fun S => by
  refine callR_of Try.func8 rfl rfl (xc_ok (bitB 7) _ _ _ ?_)
  simp only [go_sem, decide_true, decide_false, Nat.lt_irrefl]
  refine (scan_Keys aw13 3 6 (by decide) S).useA ?_
  rintro _ _ ⟨m, hp, hr, rfl, rfl⟩
  have hm := aw13_m m hp hr
  subst hm
  simp only [go_sem, decide_true, decide_false, Nat.lt_irrefl]
  refine (scan_Sum aw13 5 2 (by decide)).useA ?_
  simp only [go_sem, decide_true, decide_false, Nat.lt_irrefl, aw13_s1]
  refine (scan_Sum aw13 6 9 (by decide)).useA ?_
  simp only [go_sem, decide_true, decide_false, Nat.lt_irrefl, aw13_s2]
  refine (scan_In aw13 6 9 ⟨1, 0⟩ 3 1 (by decide) aw13_ok ⟨by decide, by decide⟩ (by decide)).useA ?_
  simp only [go_sem, decide_true, decide_false, Nat.lt_irrefl, aw13_c, itP, List.map_cons, List.map_nil, Int.cast_ofNat_Int, beq_self_eq_true]
  exact ⟨by omega, by omega, by omega, _, Sub.refl _, Or.inl rfl⟩

/-- Two numbers. -/
def two (a b : Nat) : AV := .agg [u64 a, u64 b]
attribute [go_sem] two

set_option maxRecDepth 8000 in
theorem law_ScanSums (l : List Event) (n m : Nat) (r : Row) (he : ∀ e ∈ l, e.Ok) (hs : r.s.Ok) (hw : r.w < 9223372036854775808) :
    CallsR Try.prog 3 [.p (evsP l), two n m, r.av] noS (fun x _ => x = bl true) := by
  refine callsR_of Try.func3 rfl (xc_ok (bitB 2295) _ _ _ ?_)
  simp only [go_sem, decide_true, decide_false, Nat.lt_irrefl]
  refine alloc_intro fun b4 h4 => ?_
  simp only [go_sem, decide_true, decide_false, Nat.lt_irrefl]
  refine alloc_intro fun b5 h5 => ?_
  simp only [fresh_set] at h5
  simp only [go_sem, decide_true, decide_false, Nat.lt_irrefl, h5]
  refine awake13.useA ?_
  simp only [go_sem, decide_true, decide_false, Nat.lt_irrefl, evsP]
  (first | refine dec_split (fun hc => ?_) (fun hc => ?_) | refine gdd_split (fun hc => ?_) (fun hc => ?_) | refine bool_split (fun hc => ?_) (fun hc => ?_) | refine gd_split (fun hc => ?_) (fun hc => ?_)) <;> simp only [go_sem, decide_true, decide_false, Nat.lt_irrefl, h5]
  · exact ⟨_, Sub.refl _⟩
  · have hl : l.length < 4611686018427387904 := by omega
    refine AWP.draw2 (bitB 2295) mixed (by kernel_rfl) (fun i => if i < 14 then u64 (spanV l n m) else u64 (colSumV l n m r.s r.w r.c)) ?_
    simp only [go_sem, decide_true, decide_false, Nat.lt_irrefl, h5]
    refine ⟨by omega, by omega, (scan_Sum l n m hl).draw, by omega, by omega, (ref13_Sum l n m hl).draw, by omega, by omega, (scan_In l n m r.s r.w r.c hl he hs hw).draw, by omega, by omega, (ref13_In l n m r hl he hs hw).draw, _, Sub.refl _⟩
end Go.Sk
