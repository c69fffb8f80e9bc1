/- Regions whose order is open, walked in each order that may be. -/
import Derived.Test.YthpfcfacofakoaaGreatSkW
set_option linter.unusedSimpArgs false
set_option linter.unusedVariables false
set_option linter.unusedSectionVars false
namespace Go.Sk
open Go

section
variable {P : Program} {s : St} {D : Prot} {w : World} {a : Act} {K : St → Prop}
theorem xops_idx (ops : Array Oper) : ∀ (l : List Oper) (il : List Nat) (s : St) (D : Prot) (w : World) (a : Act), il.map (fun i => ops[i]?) = l.map some → RelSt s D w a → xops P ops K l s →
    OpsWP P ops (Post s D w K) il a w := by
  intro l
  induction l with
  | nil =>
    intro il s D w a hl h hx
    obtain rfl : il = [] := by simpa using hl
    exact ⟨s, D, hx, h, Ext.refl _ _ _⟩
  | cons o r ih =>
    intro il s D w a hl h hx
    obtain ⟨i, il', rfl, ho, hr⟩ : ∃ i il', il = i :: il' ∧ ops[i]? = some o ∧ il'.map (fun i => ops[i]?) = r.map some := by
      cases il with
      | nil => simp at hl
      | cons i il' => simp only [List.map_cons, List.cons.injEq] at hl; exact ⟨i, il', rfl, hl.1, hl.2⟩
    -- one operation, and those behind it
    have step : ∀ (s1 : St), s1.S = s.S → RelSt s1 D w a → xop P o (xops P ops K r) s1 → noDefer o ∧ OpWP P o (OpsWP P ops (Post s D w K) il') a w := by
      intro s1 hs1 h1 hx1
      obtain ⟨hn, hop⟩ := xop_ok h1 hx1
      refine ⟨hn, Upon.mono hop ?_⟩
      rintro a2 w2 ⟨s2, D2, hK2, h2, hE2⟩
      rw [hs1] at hE2
      exact OpsWP.mono (fun _ _ h => Post.trans hE2 h) _ _ _ (ih il' s2 D2 w2 a2 hr h2 hK2)
    simp only [OpsWP, ho]
    simp only [xops] at hx
    split at hx
    · -- no guard
      rename_i hg
      rw [if_pos (by simp [Region.wanted, hg])]
      exact step s rfl h hx
    · rename_i j want hg
      split at hx
      · exact hx.elim
      · rename_i d hd
        obtain ⟨hdn, hx⟩ := hx
        have hslot := h.slots d
        have hlt : d < a.tmps.size := Nat.lt_of_lt_of_le hdn h.size
        have hget : a.tmps[d]? = some (a.tmps.getD d undef) := by simp [Array.getD, hlt]
        split at hx
        · rename_i b hb
          rw [hb] at hslot
          have hv := hslot.inv
          generalize hvv : a.tmps.getD d undef = v at hv hget
          cases hv
          have hy : yielded ops a.tmps j = some b := by simp only [yielded, hd, Option.bind_some, hget]
          by_cases hbw : b = want
          · rw [if_pos (by simp [Region.wanted, hg, hy, hbw])]
            have h1 := h.same (d := d) (x := .p (.bool want)) (by rw [hvv, hbw]; exact .p (.bool _))
            rw [if_pos hbw] at hx
            exact step (s.putS d (.p (.bool want))) rfl h1 hx
          · rw [if_neg (by simp [Region.wanted, hg, hy]; exact hbw)]
            rw [if_neg hbw] at hx
            obtain ⟨hdo, hxr⟩ := hx
            have hbn : b = !want := by cases b <;> cases want <;> simp_all
            have h1 := h.same (d := d) (x := .p (.bool (!want))) (by rw [hvv, hbn]; exact .p (.bool _))
            have h2 := h1.put (d := o.dst) (v := undef) (x := .tuple []) (by intro t ht; exact hdo.lt t ht) undef_rep
            have := ih il' _ D w _ hr h2 hxr
            refine OpsWP.mono (fun _ _ h => ?_) _ _ _ this
            refine Post.trans ?_ h
            rw [put_S]; exact Ext.refl _ _ _
        · rename_i hb
          rw [hb] at hslot
          generalize hvv : a.tmps.getD d undef = v at hslot hget
          have hvt : v = .tuple #[] := by
            cases hslot with
            | tuple vs _ hn _ => rw [Array.size_eq_zero_iff.1 hn]
          have hy : yielded ops a.tmps j = none := by simp only [yielded, hd, Option.bind_some, hget, hvt]
          rw [if_neg (by simp [Region.wanted, hg, hy])]
          obtain ⟨hdo, hxr⟩ := hx
          have h2 := h.put (d := o.dst) (v := undef) (x := .tuple []) hdo.lt undef_rep
          have := ih il' _ D w _ hr h2 hxr
          refine OpsWP.mono (fun _ _ h => ?_) _ _ _ this
          refine Post.trans ?_ h
          rw [put_S]; exact Ext.refl _ _ _
        · exact hx.elim
end

/-- All orders that may be drawn. -/
def ordsGo (ops : Array Oper) : Nat → Array Bool → List (List Nat)
  | 0, _ => [[]]
  | f + 1, listed => match Region.ready .any ops listed with
    | [] => [[]]
    | i :: r => (i :: r).flatMap fun j => (ordsGo ops f (listed.setIfInBounds j true)).map fun l => j :: l

theorem lin_mem (ops : Array Oper) : ∀ (f t : Nat) (listed : Array Bool), Region.linearise.go .any ops f t listed [] ∈ ordsGo ops f listed := by
  intro f
  induction f with
  | zero => intro t listed; simp [ordsGo, Region.linearise.go]
  | succ f ih =>
    intro t listed
    simp only [Region.linearise.go]
    change (match (Region.ready .any ops listed)[t % (Region.ready .any ops listed).length]? with
      | some i => Region.linearise.go .any ops f (t / (Region.ready .any ops listed).length) (listed.setIfInBounds i true) [i]
      | none => [].reverse) ∈ _
    cases hr : Region.ready .any ops listed with
    | nil => simp [ordsGo, hr]
    | cons x xs =>
      have hlt : t % (x :: xs).length < (x :: xs).length := Nat.mod_lt _ (by simp)
      rw [List.getElem?_eq_getElem hlt]
      simp only [ordsGo, hr]
      rw [linearise_acc, List.reverse_singleton, List.singleton_append, List.mem_flatMap]
      exact ⟨_, List.getElem_mem hlt, List.mem_map.2 ⟨_, ih _ _, rfl⟩⟩

/-- What stands at these places. -/
def opsAt (l : List Oper) : List Nat → List Oper
  | [] => []
  | i :: r => match l[i]? with | some o => o :: opsAt l r | none => opsAt l r
theorem opsAt_map (l : List Oper) : ∀ il : List Nat, (∀ i ∈ il, i < l.length) → il.map (fun i => (List.toArray l)[i]?) = (opsAt l il).map some := by
  intro il
  induction il with
  | nil => intro _; rfl
  | cons i r ih =>
    intro h
    have hi := h i List.mem_cons_self
    have e : l[i]? = some l[i] := List.getElem?_eq_getElem hi
    simp only [opsAt, e, List.map_cons, List.getElem?_toArray, List.cons.injEq, true_and]
    have := ih (fun j hj => h j (List.mem_cons_of_mem _ hj))
    simpa using this

/-- A region whose order is open: each order by itself. -/
theorem AWP.orders {P : Program} {l : List Oper} {ro : Option Nat} {id : Nat} {Q : Ex → St → Prop} {s : St} (L : Nat → Bool) (hm : P.follows .mixedOrders = true) (ords : List (List Nat))
    (hO : (ordsGo (List.toArray l) (List.toArray l).size (Array.replicate (List.toArray l).size false) == ords && ords.all fun il => il.all fun i => decide (i < l.length)) = true)
    (h : ∀ il ∈ ords, xops P (List.toArray l) (kReg Q L) (opsAt l il) s) : AWP P ro (.region id (List.toArray l) true) Q s := by
  intro D w a hs
  refine WP.region_draw (fun t => ?_)
  simp only [Region.schedule, hm, Bool.true_or, if_true]
  obtain ⟨hR, hE⟩ := drew_ok hs.rel (w.drawn + 1)
  have hs' : RelSt ⟨s.ρ, s.S, s.n, s.df⟩ D { w with drawn := w.drawn + 1 } a := hs.later hR hE.toLater hs.df
  simp only [Bool.and_eq_true, beq_iff_eq] at hO
  have hmem := lin_mem (List.toArray l) (List.toArray l).size t (Array.replicate (List.toArray l).size false)
  rw [hO.1] at hmem
  have hlt : ∀ i ∈ Region.linearise.go .any (List.toArray l) (List.toArray l).size t (Array.replicate (List.toArray l).size false) [], i < l.length := by
    have := List.all_eq_true.1 hO.2 _ hmem
    intro i hi
    exact of_decide_eq_true (List.all_eq_true.1 this i hi)
  have hx := h _ hmem
  have := xops_idx (P := P) (List.toArray l) _ _ s D _ a (opsAt_map l _ hlt) hs' hx
  refine OpsWP.mono ?_ _ _ _ this
  rintro a' w' ⟨s', D', h1, h2, h3⟩
  exact ⟨s'.keep L, D', h1, h2.keep L, hE.trans h3⟩
end Go.Sk
