/- Walks: the keys of events. -/
import Derived.Test.YtciaccjambdmkaaK13
import Derived.Test.YtciaccjambdmkaaSkS
import Derived.Test.YtciaccjambdmkaaWSort
set_option linter.unusedSimpArgs false
set_option linter.unusedVariables false
set_option linter.unusedSectionVars false
namespace Go.Sk
open Go Go.Proofs Go.Sort

theorem miUU : MI Try.prog 50 = some (.u64, .p (.int .u64 ((0 : Nat) : Int))) := by kernel_rfl
attribute [go_sem] miUU

theorem scan_Keys1_calls (x y : Item) (S : Store) : CallsR Try.prog 24 [x.av, y.av] S (fun r _ => r = i64 (cmpV x.k y.k)) := by
  refine callsR_of Try.func24 rfl (xc_ok (bitB 31) _ _ _ ?_)
  simp only [go_sem, decide_true, decide_false, Nat.lt_irrefl]
  refine alloc_intro fun b hb => ?_
  simp only [go_sem, decide_true, decide_false, Nat.lt_irrefl]
  refine alloc_intro fun b' hb' => ?_
  simp only [fresh_set] at hb'
  simp only [go_sem, decide_true, decide_false, Nat.lt_irrefl, hb']
  refine (cmp_Compare x.k y.k).useA ?_
  simp only [go_sem, decide_true, decide_false, Nat.lt_irrefl]
  exact ⟨_, Sub.refl _⟩


def itE (x : Item) : List (IntKind × Int) := [(.u64, (x.k : Int)), (.u64, (x.n : Int))]
theorem encP_it (x : Item) : encP itE x = Item.pv x := rfl
theorem cmpV_neg (x y : Nat) : cmpV x y < 0 ↔ x < y := by
  unfold cmpV
  repeat' split
  all_goals omega
theorem swo_it : SWO (ltOf fun x y : Item => cmpV x.k y.k) where
  irrefl := fun x => by simp [ltOf, cmpV_neg]
  trans := fun x y z h1 h2 => by simp only [ltOf, cmpV_neg, decide_eq_true_eq] at *; omega
  ntrans := fun x y z h1 h2 => by simp only [ltOf, cmpV_neg, decide_eq_false_iff_not] at *; omega

/-- A row of items that is written, with room. -/
def rowI (m : List Item) (c : Nat) : Blk := .cells (flatA (m.map Item.pv) ++ List.replicate ((c - m.length) * 2) .top)
theorem rowI_len (m : List Item) : (flatA (m.map Item.pv)).length = m.length * 2 := by
  rw [flatA_length (sz := 2) (by intro el h; obtain ⟨x, _, rfl⟩ := List.mem_map.1 h; rfl)]; simp

theorem sort_it {S : Store} {b c n : Nat} (m : List Item) (hn : m.length = n) (hb : S (.r b) = some (rowI m c)) (hm : m ≠ []) (hl : m.length < 4611686018427387904) {R : AV → Store → Prop}
    (hR : ∀ m' : List Item, m'.Perm m → Rising m' → R (.tuple []) (S.set (.r b) (rowI m' c))) :
    CallR Try.prog 23 [.ms b 2 0 n c, .fn (.func 24) [] []] S R := by
  subst hn
  have hen : Enterable Try.prog 24 := enterable_of Try.func24 rfl rfl
  have hen2 : Enterable Try.prog 23 := enterable_of Try.func23 rfl rfl
  have hmap : ∀ l : List Item, l.map (encP itE) = l.map Item.pv := fun l => rfl
  refine sort_call itE Try.sortItem (k := 2) Try.isAgg39 Try.sizeOf39 (fun _ => rfl) (fun x y : Item => cmpV x.k y.k) swo_it hen hen2 (fun x y w => cmp_of itE (scan_Keys1_calls x y noS) w) hb m hm (by omega) ?_ ?_
  · rw [List.drop_zero, hmap, List.take_append_of_le_length (by rw [rowI_len]; exact Nat.le_refl _), List.take_of_length_le (by rw [rowI_len]; exact Nat.le_refl _)]
  · intro m' hp hs
    have hlen := hp.length_eq
    have := hR m' hp (fun i j hij hj => by
      have := hs i j hij hj
      rw [cmpV_neg] at this; omega)
    have e : splice (flatA (m.map Item.pv) ++ List.replicate ((c - m.length) * 2) AV.top) 0 (flatA (m'.map (encP itE))) = flatA (m'.map Item.pv) ++ List.replicate ((c - m'.length) * 2) .top := by
      unfold splice
      rw [hmap, List.take_zero, List.nil_append, Nat.zero_add, rowI_len, hlen]
      congr 1
      rw [List.drop_append_of_le_length (by rw [rowI_len]; exact Nat.le_refl _), List.drop_of_length_le (by rw [rowI_len]; exact Nat.le_refl _), List.nil_append]
    rw [e]; exact this

theorem nodup_perm : ∀ (l m : List Nat), l.Nodup → m.Nodup → (∀ x, x ∈ l ↔ x ∈ m) → l.Perm m := by
  intro l
  induction l with
  | nil =>
    intro m _ _ h
    have : m = [] := List.eq_nil_iff_forall_not_mem.2 fun x hx => by simpa using (h x).2 hx
    subst this; exact List.Perm.refl _
  | cons a r ih =>
    intro m h1 h2 h
    have ha : a ∈ m := (h a).1 List.mem_cons_self
    obtain ⟨hna, hr⟩ := List.nodup_cons.1 h1
    have hp := List.perm_cons_erase ha
    refine ((ih (m.erase a) hr (h2.erase a) fun x => ?_).cons a).trans hp.symm
    rw [h2.mem_erase_iff]
    constructor
    · intro hx; exact ⟨by rintro rfl; exact hna hx, (h x).1 (List.mem_cons_of_mem _ hx)⟩
    · rintro ⟨hne, hx⟩
      rcases List.mem_cons.1 ((h x).2 hx) with e | e
      · exact absurd e hne
      · exact e
theorem nodup_le (l : List Nat) (n : Nat) (h : l.Nodup) (hb : ∀ x ∈ l, x < n) : l.length ≤ n := by
  have hp : l.Perm ((List.range n).filter fun x => decide (x ∈ l)) := nodup_perm _ _ h (List.nodup_range.filter _) fun x => by
    rw [List.mem_filter, List.mem_range]; simp; exact fun hx => hb x hx
  rw [hp.length_eq]
  exact Nat.le_trans (List.length_filter_le _ _) (by simp)
def pickI (its : List Item) (js : List Nat) : List Item := js.map fun j => its[j]!
theorem pickI_all (its : List Item) (js : List Nat) (hn : js.Nodup) (hb : ∀ j ∈ js, j < its.length) (hall : mleft js.toArray (mpF 0 its) = []) : (pickI its js).Perm its := by
  have hp : js.Perm (List.range its.length) := nodup_perm _ _ hn List.nodup_range fun x => by
    rw [List.mem_range]
    refine ⟨hb x, fun hx => ?_⟩
    apply Classical.byContradiction
    intro hnx
    have hf := mfind_mpF its 0 x hx
    rw [Nat.zero_add] at hf
    have : ∃ e ∈ mpF 0 its, e.1 = x := by
      have aux : ∀ (l : List (Nat × Int × AV)) r, mfind x l = some r → ∃ e ∈ l, e.1 = x := by
        intro l
        induction l with
        | nil => intro r h; cases h
        | cons y t ih =>
          intro r h
          by_cases hy : y.1 = x
          · exact ⟨y, List.mem_cons_self, hy⟩
          · obtain ⟨c, n, v⟩ := y
            simp only [mfind] at h
            rw [if_neg hy] at h
            obtain ⟨e, h1, h2⟩ := ih r h
            exact ⟨e, List.mem_cons_of_mem _ h1, h2⟩
      exact aux _ _ hf
    obtain ⟨e, he, rfl⟩ := this
    have : e ∈ mleft js.toArray (mpF 0 its) := List.mem_filter.2 ⟨he, by simpa using hnx⟩
    rw [hall] at this; cases this
  have h2 : (List.range its.length).map (fun j => its[j]!) = its := by
    apply List.ext_getElem
    · simp
    · intro i h1 h2
      simp at h1
      simp [h1]
  have := hp.map (fun j => its[j]!)
  rw [h2] at this
  exact this
theorem mleft_lt {js : List Nat} {es : List (Nat × Int × AV)} {e : Nat × Int × AV} (he : e ∈ mleft js.toArray es) : (mleft (js ++ [e.1]).toArray es).length < (mleft js.toArray es).length := by
  have h1 : mleft (js ++ [e.1]).toArray es = (mleft js.toArray es).filter (fun x => !(x.1 == e.1)) := by
    unfold mleft
    rw [List.filter_filter]
    congr 1
    funext x
    by_cases h : x.1 = e.1 <;> simp [h, Bool.and_comm]
  rw [h1, List.length_filter_lt_length_iff_exists]
  exact ⟨e, he, by simp⟩

theorem Sub.twist (T : Store) {k1 k2 : Key} (x y : Blk) (w z : Blk) : Sub ((T.set k1 y).set k2 z) ((((T.set k1 x).set k2 w).set k1 y).set k2 z) := by
  intro q v hq
  by_cases e2 : q = k2
  · subst e2; rw [Store.set_same] at hq ⊢; exact hq
  · rw [Store.set_other _ _ e2] at hq ⊢
    by_cases e1 : q = k1
    · subst e1; rw [Store.set_same] at hq ⊢; exact hq
    · rw [Store.set_other _ _ e1] at hq ⊢; rw [Store.set_other _ _ e2, Store.set_other _ _ e1]; exact hq
theorem Sub.twist2 (T : Store) {k1 k2 k3 : Key} (h2 : T k2 = none) (x y : Blk) (w z : Blk) : Sub ((T.set k1 y).set k3 z) ((((T.set k1 x).set k2 w).set k1 y).set k3 z) := by
  intro q v hq
  by_cases e3 : q = k3
  · subst e3; rw [Store.set_same] at hq ⊢; exact hq
  · rw [Store.set_other _ _ e3] at hq ⊢
    by_cases e1 : q = k1
    · subst e1; rw [Store.set_same] at hq ⊢; exact hq
    · rw [Store.set_other _ _ e1] at hq ⊢
      have e2 : q ≠ k2 := by rintro rfl; rw [h2] at hq; cases hq
      rw [Store.set_other _ _ e2, Store.set_other _ _ e1]; exact hq
theorem flatA_app (l m : List (List PV)) : flatA (l ++ m) = flatA l ++ flatA m := by simp [flatA]
theorem rowI_in (its : List Item) (js : List Nat) (q c : Nat) (hq : q < its.length) (hc : js.length + 1 ≤ c) :
    rowI (pickI its (js ++ [q])) c = .cells (splice (flatA ((pickI its js).map Item.pv) ++ List.replicate ((c - (pickI its js).length) * 2) AV.top) (0 + js.length * 2) (flatA [[PV.int .u64 (its[q]).k, PV.int .u64 (its[q]).n]])) := by
  have hl : (pickI its js).length = js.length := by simp [pickI]
  have e1 : pickI its (js ++ [q]) = pickI its js ++ [its[q]] := by simp [pickI, hq]
  have hA := rowI_len (pickI its js)
  unfold rowI splice
  congr 1
  rw [e1, List.map_append, flatA_app, Nat.zero_add, List.take_append_of_le_length (by rw [hA, hl]; exact Nat.le_refl _), List.take_of_length_le (by rw [hA, hl]; exact Nat.le_refl _)]
  have e2 : flatA ([its[q]].map Item.pv) = flatA [[PV.int .u64 (its[q]).k, PV.int .u64 (its[q]).n]] := rfl
  rw [e2]
  congr 1
  rw [List.drop_append, hA, hl]
  have e3 : (flatA [[PV.int .u64 ((its[q]).k : Int), PV.int .u64 ((its[q]).n : Int)]]).length = 2 := rfl
  rw [e3, List.drop_of_length_le (by rw [hA, hl]; omega), List.nil_append, List.drop_replicate]
  congr 1
  simp [hl]; omega
theorem rowI_out (its : List Item) (js : List Nat) (q c c' : Nat) (hq : q < its.length) :
    rowI (pickI its (js ++ [q])) c' = .cells (((flatA ((pickI its js).map Item.pv) ++ List.replicate ((c - (pickI its js).length) * 2) AV.top).drop 0).take (js.length * 2) ++ flatA [[PV.int .u64 (its[q]).k, PV.int .u64 (its[q]).n]] ++ List.replicate ((c' - (js.length + 1)) * 2) .top) := by
  have hl : (pickI its js).length = js.length := by simp [pickI]
  have e1 : pickI its (js ++ [q]) = pickI its js ++ [its[q]] := by simp [pickI, hq]
  have hA := rowI_len (pickI its js)
  unfold rowI
  congr 1
  rw [e1, List.map_append, flatA_app, List.drop_zero, List.take_append_of_le_length (by rw [hA, hl]; exact Nat.le_refl _), List.take_of_length_le (by rw [hA, hl]; exact Nat.le_refl _)]
  have e2 : flatA ([its[q]].map Item.pv) = flatA [[PV.int .u64 (its[q]).k, PV.int .u64 (its[q]).n]] := rfl
  rw [e2]
  congr 2
  simp [hl]

theorem scan_Keys0 (l : List Event) (lo hi' : Nat) (hl : l.length < 1099511627776) (S : Store) :
    CallR Try.prog 14 [.p (evsP l), u64 lo, u64 hi'] S (fun r S' => ∃ m : List Item, m.Perm (sumsV l lo hi') ∧ Rising m ∧
      ((r = .p (itP m) ∧ S' = S) ∨ ∃ b c, Fresh S b ∧ m.length ≤ c ∧ r = .ms b 2 0 m.length c ∧ S' = S.set (.r b) (rowI m c))) := by
  refine callR_of Try.func14 rfl rfl (xc_ok (bitB 2749316193991) _ _ _ ?_)
  simp only [go_sem, decide_true, decide_false, Nat.lt_irrefl, evsP]
  refine map_intro fun b7 h7 => ?_
  simp only [go_sem, decide_true, decide_false, Nat.lt_irrefl]
  refine AWP.iter (fun i => ⟨Env.get [(0, .p (.sl (l.map Event.pv))), (1, u64 lo), (2, u64 hi'), (7, .map b7), (14, .p (.sl (l.map Event.pv))), (15, i64 l.length), (16, i64 i)],
    S.set (.r b7) (.mp .u64 (mpF 0 (sumsV (l.take i) lo hi')) (sumsV (l.take i) lo hi').length), 54, []⟩) l.length ?_ ?_ ?_
  · exact le_of (by simp only [go_sem, decide_true, decide_false, Nat.lt_irrefl]; simp) (Sub.refl _) rfl rfl (by simp)
  · intro i hi ih
    refine AWPH.step (xc_ok (bitB 2749316193991) _ _ _ ?_)
    simp only [go_sem, decide_true, decide_false, Nat.lt_irrefl, hi, ltN' hi, getD_map' _ _ _ _ hi]
    refine alloc_intro fun b hb => ?_
    have hb' := hb
    simp only [fresh_set] at hb
    simp only [go_sem, decide_true, decide_false, Nat.lt_irrefl, hb]
    have hskip : ¬ (lo ≤ l[i].t ∧ l[i].t ≤ hi') → sumsV (l.take (i + 1)) lo hi' = sumsV (l.take i) lo hi' := fun h => by rw [sumsV_snoc _ _ _ _ hi, if_neg h]
    (first | refine dec_split (fun hc => ?_) (fun hc => ?_) | refine gdd_split (fun hc => ?_) (fun hc => ?_) | refine bool_split (fun hc => ?_) (fun hc => ?_) | refine gd_split (fun hc => ?_) (fun hc => ?_)) <;> simp only [go_sem, decide_true, decide_false, Nat.lt_irrefl, hb]
    · (first | refine dec_split (fun hd => ?_) (fun hd => ?_) | refine gdd_split (fun hd => ?_) (fun hd => ?_) | refine bool_split (fun hd => ?_) (fun hd => ?_) | refine gd_split (fun hd => ?_) (fun hd => ?_)) <;> simp only [go_sem, decide_true, decide_false, Nat.lt_irrefl, hb]
      · simp only [mget_mpF]
        have hst : sumsV (l.take (i + 1)) lo hi' = setK l[i].k (m64 ((getK l[i].k (sumsV (l.take i) lo hi')).getD 0 + l[i].w)) (sumsV (l.take i) lo hi') := by rw [sumsV_snoc _ _ _ _ hi, if_pos ⟨hc, hd⟩]
        cases hg : getK l[i].k (sumsV (l.take i) lo hi') with
        | none =>
          rw [hg, Option.getD_none, Nat.zero_add] at hst
          simp only [go_sem, decide_true, decide_false, Nat.lt_irrefl, Option.map_none, Option.getD_none, hb]
          refine ih.back ?_ (by simp) ?_
          · rw [hst, ← mput_mpF, ← mclk_mpF]; exact Sub.upd hb'
          · simp only [go_sem, decide_true, decide_false, Nat.lt_irrefl, wi_succ (show i < 4611686018427387904 by omega)]
        | some n =>
          rw [hg, Option.getD_some] at hst
          simp only [go_sem, decide_true, decide_false, Nat.lt_irrefl, Option.map_some, Option.getD_some, hb]
          refine ih.back ?_ (by simp) ?_
          · rw [hst, ← mput_mpF, ← mclk_mpF]; exact Sub.upd hb'
          · simp only [go_sem, decide_true, decide_false, Nat.lt_irrefl, wi_succ (show i < 4611686018427387904 by omega)]
      · refine ih.back ?_ (by simp) ?_
        · rw [hskip (by omega)]; (repeat (first | exact Sub.refl _ | refine Sub.setF ?_ (by first | assumption | exact And.right (by assumption) | exact And.right (And.right (by assumption)) | exact And.right (And.right (And.right (by assumption))) | exact And.right (And.right (And.right (And.right (by assumption)))) | exact And.right (And.right (And.right (And.right (And.right (by assumption))))) | exact And.right (And.right (And.right (And.right (And.right (And.right (by assumption)))))) | exact And.right (And.right (And.right (And.right (And.right (And.right (And.right (by assumption))))))) | exact And.right (And.right (And.right (And.right (And.right (And.right (And.right (And.right (by assumption)))))))) | exact And.right (And.right (And.right (And.right (And.right (And.right (And.right (And.right (And.right (by assumption)))))))))) | refine Sub.setV ?_ (by first | assumption | exact And.right (by assumption) | exact And.right (And.right (by assumption)) | exact And.right (And.right (And.right (by assumption))) | exact And.right (And.right (And.right (And.right (by assumption)))) | exact And.right (And.right (And.right (And.right (And.right (by assumption))))) | exact And.right (And.right (And.right (And.right (And.right (And.right (by assumption)))))) | exact And.right (And.right (And.right (And.right (And.right (And.right (And.right (by assumption))))))) | exact And.right (And.right (And.right (And.right (And.right (And.right (And.right (And.right (by assumption)))))))) | exact And.right (And.right (And.right (And.right (And.right (And.right (And.right (And.right (And.right (by assumption))))))))))))
        · simp only [go_sem, decide_true, decide_false, Nat.lt_irrefl, wi_succ (show i < 4611686018427387904 by omega)]
    · refine ih.back ?_ (by simp) ?_
      · rw [hskip (by omega)]; (repeat (first | exact Sub.refl _ | refine Sub.setF ?_ (by first | assumption | exact And.right (by assumption) | exact And.right (And.right (by assumption)) | exact And.right (And.right (And.right (by assumption))) | exact And.right (And.right (And.right (And.right (by assumption)))) | exact And.right (And.right (And.right (And.right (And.right (by assumption))))) | exact And.right (And.right (And.right (And.right (And.right (And.right (by assumption)))))) | exact And.right (And.right (And.right (And.right (And.right (And.right (And.right (by assumption))))))) | exact And.right (And.right (And.right (And.right (And.right (And.right (And.right (And.right (by assumption)))))))) | exact And.right (And.right (And.right (And.right (And.right (And.right (And.right (And.right (And.right (by assumption)))))))))) | refine Sub.setV ?_ (by first | assumption | exact And.right (by assumption) | exact And.right (And.right (by assumption)) | exact And.right (And.right (And.right (by assumption))) | exact And.right (And.right (And.right (And.right (by assumption)))) | exact And.right (And.right (And.right (And.right (And.right (by assumption))))) | exact And.right (And.right (And.right (And.right (And.right (And.right (by assumption)))))) | exact And.right (And.right (And.right (And.right (And.right (And.right (And.right (by assumption))))))) | exact And.right (And.right (And.right (And.right (And.right (And.right (And.right (And.right (by assumption)))))))) | exact And.right (And.right (And.right (And.right (And.right (And.right (And.right (And.right (And.right (by assumption))))))))))))
      · simp only [go_sem, decide_true, decide_false, Nat.lt_irrefl, wi_succ (show i < 4611686018427387904 by omega)]
  · refine AWPH.step (xc_ok (bitB 2749316193991) _ _ _ ?_)
    simp only [go_sem, decide_true, decide_false, Nat.lt_irrefl, List.take_length]
    generalize hits : sumsV l lo hi' = its
    refine alloc_intro fun b39 h39 => ?_
    have h39' := h39
    simp only [fresh_set] at h39
    simp only [go_sem, decide_true, decide_false, Nat.lt_irrefl, h39]
    refine AWP.head (AWPH.step (xc_ok (bitB 2749316193991) _ _ _ ?_))
    simp only [go_sem, decide_true, decide_false, Nat.lt_irrefl, h39]
    have hlenS : its.length ≤ l.length := by rw [← hits]; exact sumsV_len l lo hi'
    have hfine : ∀ seen : Array Nat, mfine its.length its.length seen (mpF 0 its) := fun seen => ⟨fun e he => by have := (mem_mpF _ _ _ he).2.1; omega, by
      cases its with
      | nil => exact Or.inr (Or.inl rfl)
      | cons x r => exact Or.inr (Or.inr ⟨_, List.mem_cons_self, by simp⟩)⟩
    refine next_intro (hfine _) (fun h0 => ?_) (fun e he => ?_)
    · simp only [go_sem, decide_true, decide_false, Nat.lt_irrefl]
      refine Or.inr (sort_none Try.sortItem (enterable_of Try.func23 rfl rfl) ?_)
      simp only [go_sem, decide_true, decide_false, Nat.lt_irrefl]
      have : its = [] := by
        cases its with
        | nil => rfl
        | cons x r => simp [mleft, mpF] at h0
      subst this
      refine ⟨S, by (repeat (first | exact Sub.refl _ | refine Sub.setF ?_ (by first | assumption | exact And.right (by assumption) | exact And.right (And.right (by assumption)) | exact And.right (And.right (And.right (by assumption))) | exact And.right (And.right (And.right (And.right (by assumption)))) | exact And.right (And.right (And.right (And.right (And.right (by assumption))))) | exact And.right (And.right (And.right (And.right (And.right (And.right (by assumption)))))) | exact And.right (And.right (And.right (And.right (And.right (And.right (And.right (by assumption))))))) | exact And.right (And.right (And.right (And.right (And.right (And.right (And.right (And.right (by assumption)))))))) | exact And.right (And.right (And.right (And.right (And.right (And.right (And.right (And.right (And.right (by assumption)))))))))) | refine Sub.setV ?_ (by first | assumption | exact And.right (by assumption) | exact And.right (And.right (by assumption)) | exact And.right (And.right (And.right (by assumption))) | exact And.right (And.right (And.right (And.right (by assumption)))) | exact And.right (And.right (And.right (And.right (And.right (by assumption))))) | exact And.right (And.right (And.right (And.right (And.right (And.right (by assumption)))))) | exact And.right (And.right (And.right (And.right (And.right (And.right (And.right (by assumption))))))) | exact And.right (And.right (And.right (And.right (And.right (And.right (And.right (And.right (by assumption)))))))) | exact And.right (And.right (And.right (And.right (And.right (And.right (And.right (And.right (And.right (by assumption)))))))))))), Or.inl ⟨[], by simp, fun i j _ h => by simp at h, Or.inl ⟨by simp [itP], rfl⟩⟩⟩
    · simp only [go_sem, decide_true, decide_false, Nat.lt_irrefl, h39]
      have he' := (List.mem_filter.1 he).1
      obtain ⟨_, he2, he3, _, _⟩ := mem_mpF _ _ _ he'
      rw [Nat.zero_add] at he2
      refine entry_intro (b := e.1) (by simp) rfl (by have := mfind_mpF its 0 e.1 he2; rwa [Nat.zero_add] at this) ?_
      simp only [go_sem, decide_true, decide_false, Nat.lt_irrefl, h39]
      refine ⟨by simp, own_intro (by simp) fun b10 c h10 hc => ?_⟩
      have h10' := h10
      simp only [fresh_set] at h10
      simp only [go_sem, decide_true, decide_false, Nat.lt_irrefl, h39, h10]
      have hw : rowI (pickI its [e.1]) c = .cells (flatA [[PV.int .u64 (its[e.1]).k, PV.int .u64 (its[e.1]).n]] ++ List.replicate ((c - 1) * 2) .top) := by
        unfold rowI pickI
        simp [he2, Item.pv]
      refine AWPH.roam (ι := List Nat × Nat × Nat) (fun i => i.1 ≠ [] ∧ i.1.Nodup ∧ (∀ j ∈ i.1, j < its.length) ∧ i.1.length ≤ i.2.2 ∧ (¬ i.2.1 = b39 ∧ ¬ b39 = i.2.1) ∧ (¬ i.2.1 = b7 ∧ ¬ b7 = i.2.1) ∧ Fresh S i.2.1)
        (fun i => ⟨Env.get [(10, .ms i.2.1 2 0 i.1.length i.2.2), (39, .sp b39 0)], ((S.set (.r b7) (.mp .u64 (mpF 0 its) its.length)).set (.r b39) (.raw (.mapIter (some b7) its.length i.1.toArray its.length) noKn)).set (.r i.2.1) (rowI (pickI its i.1) i.2.2), 54, []⟩)
        (fun i => (mleft i.1.toArray (mpF 0 its)).length) ([e.1], b10, c) ?_ ?_ ?_
      · refine ⟨by simp, by simp, by simpa using he2, by simpa using hc, h10⟩
      · refine le_of (by simp only [go_sem, decide_true, decide_false, Nat.lt_irrefl]) ?_ rfl rfl (by simp)
        rw [hw]
        exact Sub.refl _
      · rintro ⟨js, b, c⟩ ⟨hne, hnd, hjs, hlc, hb⟩ ih
        dsimp only at hne hnd hjs hlc hb ⊢
        refine AWPH.step (xc_ok (bitB 2749316193991) _ _ _ ?_)
        simp only [go_sem, decide_true, decide_false, Nat.lt_irrefl, h39, hb]
        refine next_intro (hfine _) (fun h0 => ?_) (fun e he => ?_)
        · simp only [go_sem, decide_true, decide_false, Nat.lt_irrefl, h39, hb]
          have hp := pickI_all its js hnd hjs h0
          have hlen : (pickI its js).length = js.length := by simp [pickI]
          refine Or.inr (sort_it (pickI its js) hlen (by simp [Store.set]) (by simpa [pickI] using hne) (by have := hp.length_eq; omega) fun m' hp' hr => ?_)
          simp only [go_sem, decide_true, decide_false, Nat.lt_irrefl, h39, hb]
          have hl' := hp'.length_eq
          refine ⟨S.set (.r b) (rowI m' c), Sub.both (by (repeat (first | exact Sub.refl _ | refine Sub.setF ?_ (by first | assumption | exact And.right (by assumption) | exact And.right (And.right (by assumption)) | exact And.right (And.right (And.right (by assumption))) | exact And.right (And.right (And.right (And.right (by assumption)))) | exact And.right (And.right (And.right (And.right (And.right (by assumption))))) | exact And.right (And.right (And.right (And.right (And.right (And.right (by assumption)))))) | exact And.right (And.right (And.right (And.right (And.right (And.right (And.right (by assumption))))))) | exact And.right (And.right (And.right (And.right (And.right (And.right (And.right (And.right (by assumption)))))))) | exact And.right (And.right (And.right (And.right (And.right (And.right (And.right (And.right (And.right (by assumption)))))))))) | refine Sub.setV ?_ (by first | assumption | exact And.right (by assumption) | exact And.right (And.right (by assumption)) | exact And.right (And.right (And.right (by assumption))) | exact And.right (And.right (And.right (And.right (by assumption)))) | exact And.right (And.right (And.right (And.right (And.right (by assumption))))) | exact And.right (And.right (And.right (And.right (And.right (And.right (by assumption)))))) | exact And.right (And.right (And.right (And.right (And.right (And.right (And.right (by assumption))))))) | exact And.right (And.right (And.right (And.right (And.right (And.right (And.right (And.right (by assumption)))))))) | exact And.right (And.right (And.right (And.right (And.right (And.right (And.right (And.right (And.right (by assumption))))))))))))) _ _, Or.inl ⟨m', hp'.trans hp, hr, b, c, hb.2.2, by omega, by rw [hl', hlen], rfl⟩⟩
        · simp only [go_sem, decide_true, decide_false, Nat.lt_irrefl, h39, hb]
          have he' := (List.mem_filter.1 he).1
          obtain ⟨_, he2, he3, _, _⟩ := mem_mpF _ _ _ he'
          rw [Nat.zero_add] at he2
          refine entry_intro (b := e.1) (by simp) rfl (by have := mfind_mpF its 0 e.1 he2; rwa [Nat.zero_add] at this) ?_
          simp only [go_sem, decide_true, decide_false, Nat.lt_irrefl, h39, hb, rowI]
          have hA := rowI_len (pickI its js)
          have hl' : (pickI its js).length = js.length := by simp [pickI]
          have hne2 : ¬ (Key.r b39 = Key.r b) := by simp [hb]
          have hnd2 : (js ++ [e.1]).Nodup := by
            have hni := (List.mem_filter.1 he).2
            rw [List.nodup_append]
            refine ⟨hnd, by simp, fun a ha b hb => ?_⟩
            simp only [List.mem_singleton] at hb
            subst hb
            rintro rfl
            simp [ha] at hni
          have hjs2 : ∀ j ∈ js ++ [e.1], j < its.length := fun j hj => by
            rcases List.mem_append.1 hj with h | h
            · exact hjs j h
            · rw [List.mem_singleton.1 h]; exact he2
          have hlt := mleft_lt he
          have hcnt : js.length + 1 ≤ its.length := by simpa using nodup_le _ its.length hnd2 hjs2
          have hpush : js.toArray.push e.1 = (js ++ [e.1]).toArray := by simp
          refine ⟨by simp, by simp [hA, hl'], rfl, more_two (by omega) (by omega) (fun hin => ⟨?_, ?_⟩) (fun hout b' c' hb' hc' => ?_)⟩
          · simp [hA, hl']; omega
          · simp only [go_sem, decide_true, decide_false, Nat.lt_irrefl, h39, hb]
            refine (ih (js ++ [e.1], b, c) ⟨by simp, hnd2, hjs2, by simpa using hin, hb⟩ hlt).back ?_ (by simp) ?_
            · have hin' := rowI_in its js e.1 c he2 hin
              simp only [splice, Nat.zero_add] at hin'
              rw [← hpush, hin']; exact Sub.twist _ _ _ _ _
            · simp only [go_sem, decide_true, decide_false, Nat.lt_irrefl, List.length_append, List.length_cons, List.length_nil]
          · have hb'' := hb'
            simp only [fresh_set] at hb''
            simp only [go_sem, decide_true, decide_false, Nat.lt_irrefl, h39, hb, hb'']
            refine (ih (js ++ [e.1], b', c') ⟨by simp, hnd2, hjs2, by simpa using hc', hb''.1, hb''.2.2.2⟩ hlt).back ?_ (by simp) ?_
            · rw [← hpush, rowI_out its js e.1 c c' he2]; exact Sub.twist2 _ (by simp [Store.set, hb, hb.2.2]; exact hb.2.2) _ _ _ _
            · simp only [go_sem, decide_true, decide_false, Nat.lt_irrefl, List.length_append, List.length_cons, List.length_nil]

theorem scan_Keys (l : List Event) (lo hi' : Nat) (hl : l.length < 1099511627776) (S : Store) :
    CallR Try.prog 14 [.p (evsP l), u64 lo, u64 hi'] S (fun r S' => ∃ m : List Item, m.Perm (sumsV l lo hi') ∧ Rising m ∧ r = .p (itP m) ∧ S' = S) := by
  refine (scan_Keys0 l lo hi' hl S).frz ?_
  rintro r S' ⟨m, hp, hr, ⟨rfl, rfl⟩ | ⟨b, c, hb, hc, rfl, rfl⟩⟩
  · exact ⟨_, _, Frz.refl _ _, m, hp, hr, rfl, rfl⟩
  · refine ⟨.p (itP m), S, Frz.freeze (b := b) (m := m.length * 2) (Store.set_same _ _ _) (by simp [rowI_len]) (fun k y hk => ?_) (Or.inl (Or.inl (Or.inr (Or.inr ⟨2, 0, m.length, c, m.map Item.pv, rfl, ?_⟩)))), m, hp, hr, rfl, rfl⟩
    · have hne : k ≠ .r b := by rintro rfl; rw [hb] at hk; cases hk
      exact ⟨hne, Or.inl (by rw [Store.set_other _ _ hne]; exact hk)⟩
    · refine ⟨by omega, rfl, by simp, item_len, ?_⟩
      rw [List.drop_zero, List.take_append_of_le_length (by rw [rowI_len]; exact Nat.le_refl _), List.take_of_length_le (by rw [rowI_len]; exact Nat.le_refl _)]
end Go.Sk
