/- Texts WSort W10d W10f W10e, joined. -/
import Derived.Shelf.SlSortCmp.WholeK
import Derived.Test.YtmpockfgppcnbaaProg
import Derived.Test.YtmpockfgppcnbaaR10F
import Derived.Test.YtmpockfgppcnbaaSkS
import Derived.Test.YtmpockfgppcnbaaR10E
import Derived.Test.YtmpockfgppcnbaaR10C
set_option linter.unusedSimpArgs false
set_option linter.unusedVariables false
set_option linter.unusedSectionVars false
-- WSort
section
namespace Go.Proofs
open Go.Shelf
def Try.sortLump_ren : Go.Shelf.Ren := ⟨fun | 6 => 47 | 15 => 69 | 14 => 68 | 28 => 88 | 29 => 89 | 20 => 80 | 21 => 81 | 22 => 82 | 23 => 83 | 24 => 84 | 25 => 85 | 26 => 86 | 27 => 87 | 46 => 96 | 47 => 97 | 48 => 98 | 49 => 99 | 50 => 100 | 57 => 101 | n => n, fun | 22 => 98 | 24 => 103 | 25 => 106 | 3 => 3 | 39 => 84 | 0 => 0 | 53 => 151 | 55 => 41 | 4 => 4 | 46 => 144 | 45 => 143 | 50 => 148 | 5 => 5 | 9 => 9 | 66 => 161 | 70 => 164 | 76 => 166 | 77 => 167 | n => n, fun | n => n⟩
theorem Try.sortLump : Go.Proofs.SlLaysF0.n6 Try.prog Try.sortLump_ren where
  mixed := by kernel_rfl
  f6 := ⟨"slices.SortFunc[[]skylight/replay.lump,skylight/replay.lump]", by decide, Try.func47.trans (congrArg some (by kernel_rfl))⟩
  f14 := ⟨"slices.pdqsortCmpFunc[skylight/replay.lump]", by decide, Try.func68.trans (congrArg some (by kernel_rfl))⟩
  f15 := Try.func69.trans (congrArg some (by kernel_rfl))
  f20 := ⟨"slices.insertionSortCmpFunc[skylight/replay.lump]", by decide, Try.func80.trans (congrArg some (by kernel_rfl))⟩
  f21 := ⟨"slices.heapSortCmpFunc[skylight/replay.lump]", by decide, Try.func81.trans (congrArg some (by kernel_rfl))⟩
  f22 := ⟨"slices.breakPatternsCmpFunc[skylight/replay.lump]", by decide, Try.func82.trans (congrArg some (by kernel_rfl))⟩
  f23 := ⟨"slices.choosePivotCmpFunc[skylight/replay.lump]", by decide, Try.func83.trans (congrArg some (by kernel_rfl))⟩
  f24 := ⟨"slices.reverseRangeCmpFunc[skylight/replay.lump]", by decide, Try.func84.trans (congrArg some (by kernel_rfl))⟩
  f25 := ⟨"slices.partialInsertionSortCmpFunc[skylight/replay.lump]", by decide, Try.func85.trans (congrArg some (by kernel_rfl))⟩
  f26 := ⟨"slices.partitionEqualCmpFunc[skylight/replay.lump]", by decide, Try.func86.trans (congrArg some (by kernel_rfl))⟩
  f27 := ⟨"slices.partitionCmpFunc[skylight/replay.lump]", by decide, Try.func87.trans (congrArg some (by kernel_rfl))⟩
  f28 := Try.func88.trans (congrArg some (by kernel_rfl))
  f29 := Try.func89.trans (congrArg some (by kernel_rfl))
  f46 := ⟨"slices.siftDownCmpFunc[skylight/replay.lump]", by decide, Try.func96.trans (congrArg some (by kernel_rfl))⟩
  f47 := Try.func97.trans (congrArg some (by kernel_rfl))
  f48 := Try.func98.trans (congrArg some (by kernel_rfl))
  f49 := ⟨"slices.medianAdjacentCmpFunc[skylight/replay.lump]", by decide, Try.func99.trans (congrArg some (by kernel_rfl))⟩
  f50 := ⟨"slices.medianCmpFunc[skylight/replay.lump]", by decide, Try.func100.trans (congrArg some (by kernel_rfl))⟩
  f57 := ⟨"slices.order2CmpFunc[skylight/replay.lump]", by decide, Try.func101.trans (congrArg some (by kernel_rfl))⟩
  t0 := Try.underlying0
  a0 := Try.isAgg0
  z0 := Try.sizeOf0
  v0 := Try.zeroValue0
  t3 := Try.underlying3
  a3 := Try.isAgg3
  z3 := Try.sizeOf3
  v3 := Try.zeroValue3
  t4 := Try.underlying4
  a4 := Try.isAgg4
  z4 := Try.sizeOf4
  v4 := Try.zeroValue4
  t5 := Try.underlying5
  a5 := Try.isAgg5
  z5 := Try.sizeOf5
  v5 := Try.zeroValue5
  t9 := Try.underlying9
  a9 := Try.isAgg9
  z9 := Try.sizeOf9
  v9 := Try.zeroValue9
  t22 := Try.underlying98
  a22 := Try.isAgg98
  z22 := Try.sizeOf98
  v22 := Try.zeroValue98
  t25 := Try.underlying106
  a25 := Try.isAgg106
  z25 := Try.sizeOf106
  v25 := Try.zeroValue106
  t39 := Try.underlying84
  a39 := Try.isAgg84
  z39 := Try.sizeOf84
  v39 := Try.zeroValue84
  t45 := Try.underlying143
  a45 := Try.isAgg143
  z45 := Try.sizeOf143
  v45 := Try.zeroValue143
  t46 := Try.underlying144
  a46 := Try.isAgg144
  z46 := Try.sizeOf144
  v46 := Try.zeroValue144
  t50 := Try.underlying148
  a50 := Try.isAgg148
  z50 := Try.sizeOf148
  v50 := Try.zeroValue148
  t53 := Try.underlying151
  a53 := Try.isAgg151
  z53 := Try.sizeOf151
  v53 := Try.zeroValue151
  t55 := Try.underlying41
  a55 := Try.isAgg41
  z55 := Try.sizeOf41
  v55 := Try.zeroValue41
  t66 := Try.underlying161
  a66 := Try.isAgg161
  z66 := Try.sizeOf161
  v66 := Try.zeroValue161
  t70 := Try.underlying164
  a70 := Try.isAgg164
  z70 := Try.sizeOf164
  v70 := Try.zeroValue164
  t76 := Try.underlying166
  a76 := Try.isAgg166
  z76 := Try.sizeOf166
  v76 := Try.zeroValue166
  t77 := Try.underlying167
  a77 := Try.isAgg167
  z77 := Try.sizeOf167
  v77 := Try.zeroValue167
end Go.Proofs
end

-- W10d
section
namespace Go.Sk
open Go Go.Proofs Go.Sort

def cmpN (x y : Nat) : Int := if x < y then -1 else if y < x then 1 else 0
theorem isNaN_u (n : Nat) : Pure Try.prog 70 [u64 n] (bl false) := fun S => by
  refine callR_of Try.func70 rfl rfl (xc_ok (bitB 5) _ _ _ ?_)
  simp only [go_sem]
  (refine ⟨S, by (repeat (first | exact Sub.refl _ | refine Sub.setF ?_ (by first | assumption | simp only [*]) | refine Sub.setV ?_ (by first | assumption | simp only [*]))), ?_⟩); simp
theorem cmp_u64 (x y : Nat) : Pure Try.prog 49 [u64 x, u64 y] (i64 (cmpN x y)) := fun S => by
  refine callR_of Try.func49 rfl rfl (xc_ok (bitB 604275) _ _ _ ?_)
  simp only [go_sem]
  refine (isNaN_u x).useA ?_
  simp only [go_sem]
  refine (isNaN_u y).useA ?_
  by_cases h1 : x < y
  · simp only [go_sem, h1]
    (refine ⟨S, by (repeat (first | exact Sub.refl _ | refine Sub.setF ?_ (by first | assumption | simp only [*]) | refine Sub.setV ?_ (by first | assumption | simp only [*]))), ?_⟩); simp [cmpN, h1]
  · by_cases h2 : y < x
    · simp only [go_sem, h1, h2]
      (refine ⟨S, by (repeat (first | exact Sub.refl _ | refine Sub.setF ?_ (by first | assumption | simp only [*]) | refine Sub.setV ?_ (by first | assumption | simp only [*]))), ?_⟩); simp [cmpN, h1, h2]
    · simp only [go_sem, h1, h2]
      (refine ⟨S, by (repeat (first | exact Sub.refl _ | refine Sub.setF ?_ (by first | assumption | simp only [*]) | refine Sub.setV ?_ (by first | assumption | simp only [*]))), ?_⟩); simp [cmpN, h1, h2]
theorem with_cmp (x y : Nat × Nat) (S : Store) : CallsR Try.prog 48 [.agg ((lumE x).map .p), .agg ((lumE y).map .p)] S (fun r _ => r = i64 (cmpN x.1 y.1)) := by
  refine callsR_of Try.func48 rfl (xc_ok (bitB 31) _ _ _ ?_)
  simp only [go_sem, lumE]
  refine alloc_intro fun b hb => ?_
  simp only [go_sem]
  refine alloc_intro fun b' hb' => ?_
  simp only [fresh_set] at hb'
  simp only [go_sem, hb']
  refine (cmp_u64 x.1 y.1).useA ?_
  simp only [go_sem]
  exact ⟨_, Sub.refl _⟩
def luE (x : Nat × Nat) : List (IntKind × Int) := [(.u64, (x.1 : Int)), (.u64, (x.2 : Int))]
theorem cmpN_neg (x y : Nat) : cmpN x y < 0 ↔ x < y := by
  unfold cmpN
  repeat' split
  all_goals omega
theorem swo_lu : SWO (ltOf fun x y : Nat × Nat => cmpN x.1 y.1) where
  irrefl := fun x => by simp [ltOf, cmpN_neg]
  trans := fun x y z h1 h2 => by simp only [ltOf, cmpN_neg, decide_eq_true_eq] at *; omega
  ntrans := fun x y z h1 h2 => by simp only [ltOf, cmpN_neg, decide_eq_false_iff_not] at *; omega
/-- A row of lumps that is written, with room. -/
def rowL (m : List (Nat × Nat)) (c : Nat) : Blk := .cells (flatA (m.map lumE) ++ List.replicate ((c - m.length) * 2) .top)
theorem rowL_len (m : List (Nat × Nat)) : (flatA (m.map lumE)).length = m.length * 2 := by
  rw [flatA_length (sz := 2) (by intro el h; obtain ⟨x, _, rfl⟩ := List.mem_map.1 h; rfl)]; simp
theorem ord_of {m : List (Nat × Nat)} (h : ∀ i j, i < j → ∀ hj : j < m.length, ∀ hi : i < m.length, (m[i]).1 ≤ (m[j]).1) : Ord m := by
  unfold Ord
  rw [List.pairwise_iff_getElem]
  intro i j hi hj hij
  exact h i j hij hj hi
theorem sort_lu {S : Store} {b c n : Nat} (m : List (Nat × Nat)) (hn : m.length = n) (hb : S (.r b) = some (rowL m c)) (hm : m ≠ []) (hl : m.length < 4611686018427387904) {R : AV → Store → Prop}
    (hR : ∀ m' : List (Nat × Nat), m'.Perm m → Ord m' → R (.tuple []) (S.set (.r b) (rowL m' c))) :
    CallR Try.prog 47 [.ms b 2 0 n c, .fn (.func 48) [] []] S R := by
  subst hn
  have hen : Enterable Try.prog 48 := enterable_of Try.func48 rfl rfl
  have hen2 : Enterable Try.prog 47 := enterable_of Try.func47 rfl rfl
  have hmap : ∀ l : List (Nat × Nat), l.map (encP luE) = l.map lumE := fun l => rfl
  refine sort_call luE Try.sortLump (k := 2) Try.isAgg103 Try.sizeOf103 (fun _ => rfl) (fun x y : Nat × Nat => cmpN x.1 y.1) swo_lu hen hen2 (fun x y w => cmp_of luE (with_cmp x y noS) w) hb m hm (by omega) ?_ ?_
  · rw [List.drop_zero, hmap, List.take_append_of_le_length (by rw [rowL_len]; exact Nat.le_refl _), List.take_of_length_le (by rw [rowL_len]; exact Nat.le_refl _)]
  · intro m' hp hs
    have hlen := hp.length_eq
    have := hR m' hp (ord_of fun i j hij hj hi => by
      have := hs i j hij hj
      rw [cmpN_neg] at this
      simp only [getElem!_pos, hi, hj] at this; omega)
    have e : splice (flatA (m.map lumE) ++ List.replicate ((c - m.length) * 2) AV.top) 0 (flatA (m'.map (encP luE))) = flatA (m'.map lumE) ++ List.replicate ((c - m'.length) * 2) .top := by
      unfold splice
      rw [hmap, List.take_zero, List.nil_append, Nat.zero_add, rowL_len, hlen]
      congr 1
      rw [List.drop_append_of_le_length (by rw [rowL_len]; exact Nat.le_refl _), List.drop_of_length_le (by rw [rowL_len]; exact Nat.le_refl _), List.nil_append]
    rw [e]; exact this
end Go.Sk
end

-- W10f
section
namespace Go.Sk
open Go Go.Proofs

noncomputable def lumpU (x : Span × Nat) : Nat × Nat := (x.1.b, units x.2)
/-- A row of lumps in a box. -/
def rowS (S0 : Store) (c : Nat) (m : List (Nat × Nat)) (y : Nat × Nat) : Store :=
  match m with
  | [] => S0.set (.r c) (.cells [.nils])
  | x :: r => (S0.set (.r y.1) (rowL (x :: r) ((x :: r).length + y.2))).set (.r c) (.cells [.ms y.1 2 0 (x :: r).length ((x :: r).length + y.2)])
theorem rowS_nil (S0 : Store) (c : Nat) (y : Nat × Nat) : rowS S0 c [] y = S0.set (.r c) (.cells [.nils]) := rfl
theorem rowS_ne {S0 : Store} {c : Nat} {m : List (Nat × Nat)} (h : m ≠ []) (y : Nat × Nat) : rowS S0 c m y = (S0.set (.r y.1) (rowL m (m.length + y.2))).set (.r c) (.cells [.ms y.1 2 0 m.length (m.length + y.2)]) := by
  cases m with
  | nil => exact absurd rfl h
  | cons x r => rfl
theorem lflat_app (l m : List (List PV)) : flatA (l ++ m) = flatA l ++ flatA m := by simp [flatA]
theorem rowL_in (m : List (Nat × Nat)) (x : Nat × Nat) (c : Nat) (hc : m.length + 1 ≤ c) :
    rowL (m ++ [x]) c = .cells (splice (flatA (m.map lumE) ++ List.replicate ((c - m.length) * 2) AV.top) (0 + m.length * 2) (flatA [lumE x])) := by
  have hA := rowL_len m
  unfold rowL splice
  congr 1
  rw [List.map_append, lflat_app, Nat.zero_add, List.take_append_of_le_length (by rw [hA]; exact Nat.le_refl _), List.take_of_length_le (by rw [hA]; exact Nat.le_refl _)]
  have e2 : flatA ([x].map lumE) = flatA [lumE x] := rfl
  rw [e2]
  congr 1
  rw [List.drop_append, hA]
  have e3 : (flatA [lumE x]).length = 2 := rfl
  rw [e3, List.drop_of_length_le (by rw [hA]; omega), List.nil_append, List.drop_replicate]
  congr 1
  simp; omega
theorem rowL_out (m : List (Nat × Nat)) (x : Nat × Nat) (c c' : Nat) :
    rowL (m ++ [x]) c' = .cells (((flatA (m.map lumE) ++ List.replicate ((c - m.length) * 2) AV.top).drop 0).take (m.length * 2) ++ flatA [lumE x] ++ List.replicate ((c' - (m.length + 1)) * 2) .top) := by
  have hA := rowL_len m
  unfold rowL
  congr 1
  rw [List.map_append, lflat_app, List.drop_zero, List.take_append_of_le_length (by rw [hA]; exact Nat.le_refl _), List.take_of_length_le (by rw [hA]; exact Nat.le_refl _)]
  have e2 : flatA ([x].map lumE) = flatA [lumE x] := rfl
  rw [e2]
  congr 2
  simp
theorem rowL_one (x : Nat × Nat) (c : Nat) : rowL [x] c = .cells (flatA [lumE x] ++ List.replicate ((c - 1) * 2) .top) := rfl
theorem bucksF_lum : ∀ (ls : List (List Span)) (i : Nat), i + ls.length ≤ 64 → (bucksF i ls).map lumpU = lumpsA i ls := by
  intro ls
  induction ls with
  | nil => intro i _; rfl
  | cons l r ih =>
    intro i h
    rw [List.length_cons] at h
    have hu := units_two (i := i) (by omega)
    show (l.map (fun s => (s, i)) ++ bucksF (i + 1) r).map lumpU = l.map (fun s => (s.b, 2 ^ i)) ++ lumpsA (i + 1) r
    rw [List.map_append, ih (i + 1) (by omega), List.map_map]
    congr 1
    apply List.map_congr_left
    intro s _
    show (s.b, units i) = _
    rw [hu]
theorem lumpU_eq : ∀ (l : List Hist), (∀ h ∈ l, h.ls.length ≤ 53) → (bucksH l).map lumpU = lumpsP l := by
  intro l
  induction l with
  | nil => intro _; rfl
  | cons h r ih =>
    intro hh
    have e1 : bucksH (h :: r) = bucksF 0 h.ls ++ bucksH r := by unfold bucksH; rw [List.flatMap_cons]
    rw [e1, List.map_append, ih (fun x hx => hh x (by simp [hx])), lumpsP_cons, bucksF_lum h.ls 0 (by have := hh h (by simp); omega)]
theorem lumpsP_len (l : List Hist) (hg : ∀ h ∈ l, h.Good) : (lumpsP l).length ≤ l.length * 60000 := by
  rw [← (lumpsR_perm l).length_eq]; exact lumpsR_len l hg
theorem take_snoc_ne {α : Type} {l : List α} {j : Nat} (h : j < l.length) : l.take (j + 1) ≠ [] := by
  intro e
  have h2 : (l.take (j + 1)).length = 0 := by rw [e]; rfl
  rw [List.length_take] at h2
  omega
theorem Disj.sub {T A B : Store} (h : Disj T A) (hs : Sub B A) : Disj T B := fun q => by
  cases hb : B q with
  | none => exact Or.inl rfl
  | some y =>
    rcases h q with e | e
    · rw [hs _ _ hb] at e; cases e
    · exact Or.inr e
theorem Disj.at {T E : Store} {k : Key} {y : Blk} (h : Disj T E) (hk : E k = some y) : T k = none := by
  rcases h k with e | e
  · rw [hk] at e; cases e
  · exact e
theorem flat_at : ∀ (m : List (Nat × Nat)) (i : Nat) (hi : i < m.length) (R : List AV), ((flatA (m.map lumE) ++ R).drop (i * 2)).take 2 = [u64 (m[i]).1, u64 (m[i]).2] := by
  intro m
  induction m with
  | nil => intro i hi; cases hi
  | cons x r ih =>
    intro i hi R
    have e : flatA ((x :: r).map lumE) ++ R = u64 x.1 :: u64 x.2 :: (flatA (r.map lumE) ++ R) := by
      rw [List.map_cons]; rfl
    rw [e]
    cases i with
    | zero => rfl
    | succ i =>
      rw [show (i + 1) * 2 = i * 2 + 1 + 1 by omega, List.drop_succ_cons, List.drop_succ_cons, ih i (by simpa using hi)]
      rfl
theorem sumW_mem {l : List (Nat × Nat)} : ∀ x ∈ l, x.2 ≤ sumW l := by
  induction l with
  | nil => intro x hx; cases hx
  | cons y r ih =>
    intro x hx
    rw [sumW_cons]
    rcases List.mem_cons.1 hx with rfl | hx
    · omega
    · have := ih x hx; omega
end Go.Sk
end

-- W10e
section
namespace Go.Sk
open Go Go.Proofs

set_option maxHeartbeats 2000000 in
set_option maxRecDepth 8000 in
theorem replay_With (evs : List Event) (l : List Hist) (hn : l.length < 1048576) (hne : evs.length < 1048576) (hoe : ∀ e ∈ evs, e.Ok) (hf : ∀ h ∈ l, h.Fine) (hg4 : ∀ h ∈ l, h.g ≤ 4) :
    Pure Try.prog 24 [.p (evsP evs), .p (.sl (l.map Hist.cs))] (.tuple [(withV evs l).1.av, i64 (withV evs l).2]) := fun S => by
  refine callR_of Try.func24 rfl rfl (xc_ok (bitB 38942524475571453149370480702712819) _ _ _ ?_)
  simp only [go_sem]
  refine alloc_intro fun c4 h4 => ?_
  have y4 : S (.r c4) = none := h4
  simp only [go_sem]
  by_cases hl0 : l = []
  · subst hl0
    simp only [go_sem, List.map_nil]
    (refine ⟨S, by (repeat (first | exact Sub.refl _ | refine Sub.setF ?_ (by first | assumption | simp only [*]) | refine Sub.setV ?_ (by first | assumption | simp only [*]))), ?_⟩); simp [withV, zeroH]
  have hlen : 0 < l.length := List.length_pos_iff.2 hl0
  have q0 : (l.length == 0) = false := by simpa using hl0
  simp only [go_sem, q0, List.length_map]
  refine (contains_any _ _ with_empty evs (by omega)).useA ?_
  cases hem : evs.any (fun e => e.w == 0)
  rotate_left
  · simp only [go_sem]
    (refine ⟨S, by (repeat (first | exact Sub.refl _ | refine Sub.setF ?_ (by first | assumption | simp only [*]) | refine Sub.setV ?_ (by first | assumption | simp only [*]))), ?_⟩); simp [withV, zeroH, hem]
  obtain ⟨k0, hk0⟩ : ∃ k0, (l.headD zeroH).k = k0 := ⟨_, rfl⟩
  have hk0' : (l[0]).k = k0 := by rw [← hk0]; cases l with | nil => exact absurd rfl hl0 | cons a r => rfl
  simp only [go_sem, hlen, ltN' hlen, getD_map' _ _ _ _ hlen, hk0', List.length_map]
  refine alloc_intro fun c8 h8 => ?_
  simp only [fresh_set] at h8
  have y8 : S (.r c8) = none := h8.2
  simp only [go_sem, h8]
  refine alloc_intro fun c9 h9 => ?_
  simp only [fresh_set] at h9
  have y9 : S (.r c9) = none := h9.2.2
  simp only [go_sem, h8, h9]
  have hsl : ∀ h ∈ l, h.ls.length ≤ 53 ∧ totN 0 h.ls ≤ 4503599627370496 := fun h hh => ⟨(hf h hh).good.len, (hf h hh).good.tot⟩
  refine AWP.roam (ι := Nat) (fun i => i ≤ l.length ∧ ∀ j (h : j < i) (h2 : j < l.length), (l[j]).k = k0)
    (fun i => ⟨Env.get [(0, .p (evsP evs)), (1, .p (.sl (l.map Hist.cs))), (4, .sp c4 0), (6, .fn (.func 42) [] []), (7, .fn (.func 43) [] []), (8, .sp c8 0), (9, .sp c9 0), (36, .p (.sl (l.map Hist.cs))), (37, i64 l.length), (38, i64 i)],
      ((S.set (.r c4) (.cells [i64 0, i64 0, .nils])).set (.r c8) (.cells [i64 k0, i64 (gA (l.take i)), .nils])).set (.r c9) (.cells (scaleC (layN (4503599627370496, false) (totsL (l.take i))))), 128, []⟩) (fun i => l.length - i) 0 ⟨Nat.zero_le _, fun j h => by omega⟩ ?_ ?_
  · refine le_of (by simp only [go_sem, List.length_map] <;> rfl) ?_ rfl rfl (by simp)
    ((try dsimp only); (repeat refine sub_set ?_ ?_) <;> first | ((repeat (first | exact Sub.refl _ | refine Sub.setF ?_ (by first | assumption | simp only [*]) | refine Sub.setV ?_ (by first | assumption | simp only [*]))); done) | (simp only [go_sem, h8, h9, List.take_zero, gA, totsL, layN, scaleC, List.foldl_nil, List.map_nil]; done) | (simp only [go_sem, h8, h9, List.take_zero, gA, totsL, layN, scaleC, List.foldl_nil, List.map_nil]; rfl) | rfl)
  · rintro i ⟨hi, hall⟩ ih
    refine AWPH.step (xc_ok (bitB 38942524475571453149370480702712819) _ _ _ ?_)
    by_cases c : i < l.length
    · have hsi := hsl _ (List.getElem_mem c)
      have hgi := hg4 _ (List.getElem_mem c)
      have hgi0 := (hf _ (List.getElem_mem c)).g0
      have hsn := gA_snoc l i c
      have htn := totsL_snoc l i c
      have hgt := gA_le (l := l.take i) (fun h hh => hg4 h (List.mem_of_mem_take hh))
      have hln := layN_snoc (4503599627370496, false) (totsL (l.take i)) (totN 0 (l[i]).ls)
      have hll := layN_lt (totsL (l.take i)) (4503599627370496, false)
      have hkk : (l[i]).k ≠ k0 → (l.any fun h => h.k != (l.headD zeroH).k) = true := fun h => List.any_eq_true.2 ⟨_, List.getElem_mem c, by rw [hk0]; simpa using h⟩
      have hget : (l.map Hist.cs).getD i [] = [.int .i64 (l[i]).k, .int .i64 (l[i]).g, .sl ((l[i]).ls.map lvE)] := by
        rw [getD_map' _ _ _ _ c]; rfl
      simp only [go_sem, c, ltN' c, hget, List.length_map]
      refine alloc_intro fun c11 h11 => ?_
      simp only [fresh_set] at h11
      simp only [go_sem, h8, h9, h11]
      by_cases hk : (l[i]).k = k0
      · have e1 : ((l[i]).k != k0) = false := by simpa using hk
        simp only [go_sem, e1, h8, h9, h11]
        have htv : totV (l[i]).ls = totN 0 (l[i]).ls := totV_eq (by omega)
        have ew : wi ((l[i]).g + 1) = (l[i]).g + 1 := wi_id (by omega) (by omega)
        have emax : (if (l[i]).g + 1 > gA (l.take i) then (l[i]).g + 1 else gA (l.take i)) = gA (l.take (i + 1)) := by rw [hsn]; split <;> omega
        refine (hist_Total (l[i]).k (l[i]).g (l[i]).ls (by omega)).useA ?_
        rw [htv, ew, emax]
        simp only [go_sem, h8, h9, h11]
        refine (lay_in (layN (4503599627370496, false) (totsL (l.take i))) (totN 0 (l[i]).ls) (by dsimp only at hll; omega) (by simp only [go_sem, h8, h9, h11])).useA ?_
        rintro _ _ ⟨rfl, rfl⟩
        rw [← hln, ← htn]
        simp only [go_sem, h8, h9, h11]
        refine (ih (i + 1) ⟨c, fun j h h2 => ?_⟩ (by omega)).back ?_ (by simp) ?_
        · rcases Nat.lt_or_ge j i with hj | hj
          · exact hall j hj h2
          · obtain rfl : j = i := by omega
            exact hk
        · ((try dsimp only); (repeat refine sub_set ?_ ?_) <;> first | ((repeat (first | exact Sub.refl _ | refine Sub.setF ?_ (by first | assumption | simp only [*]) | refine Sub.setV ?_ (by first | assumption | simp only [*]))); done) | (simp only [go_sem, h8, h9, h11]; done) | (simp only [go_sem, h8, h9, h11]; rfl) | rfl)
        · simp only [go_sem, wi_succ (show i < 4611686018427387904 by omega)]
      · have e1 : ((l[i]).k != k0) = true := by simpa using hk
        simp only [go_sem, e1, h8, h9, h11]
        rw [withV_k hl0 hem (hkk hk)]
        (refine ⟨S, by (repeat (first | exact Sub.refl _ | refine Sub.setF ?_ (by first | assumption | simp only [*]) | refine Sub.setV ?_ (by first | assumption | simp only [*]))), ?_⟩); simp [zeroH]
    · obtain rfl : i = l.length := by omega
      have hnk : l.any (fun h => h.k != (l.headD zeroH).k) = false := by
        rw [List.any_eq_false]
        intro h hh
        obtain ⟨j, hj, rfl⟩ := List.getElem_of_mem hh
        rw [hk0, hall j hj hj]; simp
      have hgl := gA_le (l := l) hg4
      have hge := gA_eq hl0 (fun h hh => (hf h hh).g0)
      have hTl : (totsL l).sum = sumT l := rfl
      simp only [go_sem, List.take_length, evsP, List.length_map]
      have hll := layN_lt (totsL l) (4503599627370496, false)
      obtain ⟨s0, hs0⟩ : ∃ s0, layN (4503599627370496, false) (totsL l) = s0 := ⟨_, rfl⟩
      rw [hs0] at hll ⊢
      dsimp only at hll
      refine AWP.iter (fun i => ⟨Env.get [(0, .p (evsP evs)), (1, .p (.sl (l.map Hist.cs))), (4, .sp c4 0), (7, .fn (.func 43) [] []), (8, .sp c8 0), (9, .sp c9 0), (60, .p (evsP evs)), (61, i64 evs.length), (62, i64 i)],
        ((S.set (.r c4) (.cells [i64 0, i64 0, .nils])).set (.r c8) (.cells [i64 k0, i64 (gA l), .nils])).set (.r c9) (.cells (scaleC (layN s0 ((evs.take i).map Event.w)))), 128, []⟩) evs.length ?_ ?_ ?_
      · refine le_of (by simp only [go_sem, evsP, List.length_map] <;> rfl) ?_ rfl rfl (by simp)
        ((try dsimp only); (repeat refine sub_set ?_ ?_) <;> first | ((repeat (first | exact Sub.refl _ | refine Sub.setF ?_ (by first | assumption | simp only [*]) | refine Sub.setV ?_ (by first | assumption | simp only [*]))); done) | (simp only [go_sem, h8, h9, List.take_zero, List.map_nil, layN, List.foldl_nil]; done) | (simp only [go_sem, h8, h9, List.take_zero, List.map_nil, layN, List.foldl_nil]; rfl) | rfl)
      · intro i hi ih
        have hli := layN_lt ((evs.take i).map Event.w) s0
        have hwi := (hoe _ (List.getElem_mem hi)).w
        refine AWPH.step (xc_ok (bitB 38942524475571453149370480702712819) _ _ _ ?_)
        simp only [go_sem, evsP, hi, ltN' hi, getD_map' _ _ _ _ hi, List.length_map]
        refine alloc_intro fun c13 h13 => ?_
        simp only [fresh_set] at h13
        simp only [go_sem, h8, h9, h13]
        refine (lay_in (layN s0 ((evs.take i).map Event.w)) (evs[i]).w (by omega) (by simp only [go_sem, h8, h9, h13])).useA ?_
        rintro _ _ ⟨rfl, rfl⟩
        rw [← layN_snoc, ← evW_snoc _ _ hi]
        simp only [go_sem, h8, h9, h13]
        refine ih.back ?_ (by simp) ?_
        · ((try dsimp only); (repeat refine sub_set ?_ ?_) <;> first | ((repeat (first | exact Sub.refl _ | refine Sub.setF ?_ (by first | assumption | simp only [*]) | refine Sub.setV ?_ (by first | assumption | simp only [*]))); done) | (simp only [go_sem, h8, h9, h13]; done) | (simp only [go_sem, h8, h9, h13]; rfl) | rfl)
        · simp only [go_sem, evsP, wi_succ (show i < 4611686018427387904 by omega)]
      · refine AWPH.step (xc_ok (bitB 38942524475571453149370480702712819) _ _ _ ?_)
        have hov := over_eq l evs
        rw [hs0] at hov
        simp only [go_sem, h8, h9, evsP, List.take_length, List.length_map]
        by_cases t1 : gA l > 4
        · simp only [go_sem, t1, h8, h9]
          rw [withV_g hl0 hem hnk (by omega)]
          (refine ⟨S, by (repeat (first | exact Sub.refl _ | refine Sub.setF ?_ (by first | assumption | simp only [*]) | refine Sub.setV ?_ (by first | assumption | simp only [*]))), ?_⟩); simp [zeroH]
        simp only [go_sem, t1, h8, h9]
        refine (contains_any _ _ with_far evs (by omega)).useA ?_
        cases hfr : evs.any (fun e => decide (9223372036854775807 < e.t))
        rotate_left
        · simp only [go_sem, h8, h9]
          rw [withV_t hl0 hem hnk (by omega) hfr]
          (refine ⟨S, by (repeat (first | exact Sub.refl _ | refine Sub.setF ?_ (by first | assumption | simp only [*]) | refine Sub.setV ?_ (by first | assumption | simp only [*]))), ?_⟩); simp [zeroH]
        simp only [go_sem, h8, h9, scaleC, hov]
        by_cases t2 : 4503599627370496 < sumT l + sumE Event.w evs
        · simp only [go_sem, t2, h8, h9]
          rw [withV_o hl0 hem hnk (by omega) hfr t2]
          (refine ⟨S, by (repeat (first | exact Sub.refl _ | refine Sub.setF ?_ (by first | assumption | simp only [*]) | refine Sub.setV ?_ (by first | assumption | simp only [*]))), ?_⟩); simp [zeroH]
        simp only [go_sem, t2, h8, h9]
        have hcm := came_of hf hl0 hem hnk (by omega) hfr t2
        refine alloc_intro fun c14 h14 => ?_
        simp only [fresh_set] at h14
        have y14 : S (.r c14) = none := h14.2.2.2
        simp only [go_sem, h8, h9, h14]
        refine (lumps_it l _).useA ?_
        rintro _ _ ⟨b, hb, rfl, rfl⟩
        simp only [fresh_set] at hb
        have yb : S (.r b) = none := hb.2.2.2.2
        simp only [go_sem, h8, h9, h14, hb]
        obtain ⟨L, hL⟩ : ∃ L, (bucksH l).map lumpU = L := ⟨_, rfl⟩
        have hLl : L.length = (bucksH l).length := by rw [← hL, List.length_map]
        have hseq := lumps1 l (by omega) (fun h hh => ⟨by have := (hsl h hh).1; omega, fun x hx => by have := (hf h hh).good.sm x hx; have := (hf h hh).good.k1; omega⟩) (T0 := eS.set (.r b) (.cells [.p (.sl (l.map Hist.cs))])) (b := b) (by simp only [go_sem])
        have hitem : ∀ j, j < L.length → itemsH (bucksH l) j = [.agg ((lumE (L.getD j default)).map .p)] := fun j hj => by
          rw [hLl] at hj
          unfold itemsH
          rw [← hL, getD_map' _ _ _ _ hj]
          simp [List.getD_eq_getElem?_getD, hj, lumE, lumpU]
        rw [← hLl] at hseq
        generalize itemsH (bucksH l) = IT at *
        have hLP : L = lumpsP l := by rw [← hL]; exact lumpU_eq l (fun h hh => (hsl h hh).1)
        have hLbig : L.length ≤ 62914560000 := by
          rw [hLP]
          have := lumpsP_len l (fun h hh => (hf h hh).good)
          have h3 : l.length * 60000 ≤ 1048576 * 60000 := Nat.mul_le_mul_right _ (by omega)
          omega
        refine AWP.rangeE (ι := {y : Nat × Nat // (¬ y.1 = c4 ∧ ¬ c4 = y.1) ∧ (¬ y.1 = c8 ∧ ¬ c8 = y.1) ∧ (¬ y.1 = c14 ∧ ¬ c14 = y.1) ∧ S (.r y.1) = none}) (f := 67) (first := []) (caps := [.sp b 0]) (by simp only [go_sem]) _
          (fun j y => rowS ((S.set (.r c4) (.cells [i64 0, i64 0, .nils])).set (.r c8) (.cells [i64 k0, i64 (gA l), .nils])) c14 (L.take j) y.1) ⟨(b, 0), hb.2.2.2.1, hb.2.2.1, hb.1, yb⟩
          ?_ ?_ hseq (enterable_of Try.func67 rfl rfl) (fun _ _ => False) (fun j hj => by rw [hitem j hj]; rfl) (by simp) ?_ ?_ ?_
        · refine sub_joinT (sub_join0 ?_) ?_ ?_
          · rw [List.take_zero, rowS_nil]
            ((try dsimp only); (repeat refine sub_set ?_ ?_) <;> first | ((repeat (first | exact Sub.refl _ | refine Sub.setF ?_ (by first | assumption | simp only [*]) | refine Sub.setV ?_ (by first | assumption | simp only [*]))); done) | (simp only [go_sem, h8, h9, h14, hb]; done) | (simp only [go_sem, h8, h9, h14, hb]; rfl) | rfl)
          all_goals simp only [go_sem, h8, h9, h14, hb, yb, rowS_nil, List.take_zero]
        · rw [List.take_zero, rowS_nil]
          refine (Disj.nil _).setT ?_ _
          simp only [go_sem, h8, h9, h14, hb, yb]
        · rintro j ⟨⟨b1, r1⟩, z4, z8, z14, zS⟩ ll hj T hT hdT
          dsimp only at z4 z8 z14 zS hdT ⊢
          refine xc_ok (bitB 38942524475571453149370480702712819) _ _ _ ?_
          rw [hitem j hj]
          simp only [go_sem]
          refine alloc_intro fun e he => ?_
          have hje := join_none he
          obtain ⟨M, hM⟩ : ∃ M, L.take j = M := ⟨_, rfl⟩
          obtain ⟨x, hx⟩ : ∃ x, L.getD j default = x := ⟨_, rfl⟩
          have hnext : L.take (j + 1) = M ++ [x] := by rw [List.take_succ_eq_append_getElem hj, hM, ← hx]; simp [List.getD_eq_getElem?_getD, hj]
          have hMl : M.length = j := by rw [← hM, List.length_take]; exact Nat.min_eq_left (Nat.le_of_lt hj)
          rw [hM] at hje hdT ⊢
          rw [hx, hnext]
          clear he
          by_cases hM0 : M = []
          · rw [hM0] at hje hdT ⊢
            rw [rowS_nil] at hje hdT ⊢
            have n4 : ¬ c4 = e ∧ ¬ e = c4 := by constructor <;> rintro rfl <;> simp [Store.set, h8, h14] at hje
            have n8 : ¬ c8 = e ∧ ¬ e = c8 := by constructor <;> rintro rfl <;> simp [Store.set, h14] at hje
            have n14 : ¬ c14 = e ∧ ¬ e = c14 := by constructor <;> rintro rfl <;> simp [Store.set] at hje
            have ge : S (.r e) = none := by have := hje.2; simpa [Store.set, n4, n8, n14] using this
            simp only [go_sem, lumE]
            refine ⟨_, by rw [join_set]; exact Sub.refl _, hdT.set hje.1 _, fun T' hT' hdT' => ?_⟩
            refine xc_ok (bitB 38942524475571453149370480702712819) _ _ _ ?_
            simp only [go_sem, h8, h14, n4, n8, n14, lumE]
            refine ⟨by rintro el rfl; rfl, own_intro (by simp) fun b2 cc hb2 hcc => ?_⟩
            have hjb := join_none hb2
            have m4 : ¬ c4 = b2 ∧ ¬ b2 = c4 := by constructor <;> rintro rfl <;> simp [Store.set, h8, h14, n4] at hjb
            have m8 : ¬ c8 = b2 ∧ ¬ b2 = c8 := by constructor <;> rintro rfl <;> simp [Store.set, h14, n8] at hjb
            have m14 : ¬ c14 = b2 ∧ ¬ b2 = c14 := by constructor <;> rintro rfl <;> simp [Store.set, n14] at hjb
            have me : ¬ e = b2 ∧ ¬ b2 = e := by constructor <;> rintro rfl <;> simp [Store.set] at hjb
            have gb : S (.r b2) = none := by have := hjb.2; simpa [Store.set, m4, m8, m14, me] using this
            have hcc' : 1 ≤ cc := by simpa using hcc
            have hc1 : 1 + (cc - 1) = cc := by omega
            simp only [go_sem, h8, h14, n4, n8, n14, m4, m8, m14, me]
            have t14 : T' (.r c14) = none := hdT'.at (y := .cells [.nils]) (by simp only [go_sem, n14])
            rw [join_set, join_set]
            have hF := fun x1 x2 => (hdT'.set hjb.1 x1).set t14 x2
            refine ⟨⟨(b2, cc - 1), ⟨m4.2, m4.1⟩, ⟨m8.2, m8.1⟩, ⟨m14.2, m14.1⟩, gb⟩, (fun hS => ⟨Sub.joinD hS (hF _ _), (hF _ _).sub hS⟩ : Sub _ _ → _ ∧ _) ?_⟩
            rw [rowS_ne (by simp)]
            dsimp only
            rw [show [x].length + (cc - 1) = cc from hc1, rowL_one]
            ((try dsimp only); (repeat refine sub_set ?_ ?_) <;> first | ((repeat (first | exact Sub.refl _ | refine Sub.setF ?_ (by first | assumption | simp only [*]) | refine Sub.setV ?_ (by first | assumption | simp only [*]))); done) | (simp only [go_sem, h8, h14, n4, n8, n14, m4, m8, m14, me, ge, gb, lumE, List.length_cons, List.length_nil]; done) | (simp only [go_sem, h8, h14, n4, n8, n14, m4, m8, m14, me, ge, gb, lumE, List.length_cons, List.length_nil]; rfl) | rfl)
          · rw [rowS_ne hM0] at hje hdT ⊢
            dsimp only at hje hdT ⊢
            have n4 : ¬ c4 = e ∧ ¬ e = c4 := by constructor <;> rintro rfl <;> simp [Store.set, h8, h14, z4] at hje
            have n8 : ¬ c8 = e ∧ ¬ e = c8 := by constructor <;> rintro rfl <;> simp [Store.set, h14, z8] at hje
            have n14 : ¬ c14 = e ∧ ¬ e = c14 := by constructor <;> rintro rfl <;> simp [Store.set] at hje
            have n1 : ¬ b1 = e ∧ ¬ e = b1 := by constructor <;> rintro rfl <;> simp [Store.set, z14] at hje
            have ge : S (.r e) = none := by have := hje.2; simpa [Store.set, n4, n8, n14, n1] using this
            have hA := rowL_len M
            simp only [go_sem, lumE]
            refine ⟨_, by rw [join_set]; exact Sub.refl _, hdT.set hje.1 _, fun T' hT' hdT' => ?_⟩
            refine xc_ok (bitB 38942524475571453149370480702712819) _ _ _ ?_
            simp only [go_sem, h8, h14, n4, n8, n14, n1, z4, z8, z14, rowL]
            have t14 : T' (.r c14) = none := hdT'.at (y := .cells [.ms b1 2 0 M.length (M.length + r1)]) (by simp only [go_sem, n14])
            have tb1 : T' (.r b1) = none := hdT'.at (y := rowL M (M.length + r1)) (by simp only [go_sem, n14, n1, z14])
            have hlx : (M ++ [x]).length = M.length + 1 := by rw [List.length_append]; rfl
            have hlA : (flatA (List.map lumE M) ++ List.replicate ((M.length + r1 - M.length) * 2) AV.top).length = (M.length + r1) * 2 := by
              rw [List.length_append, hA, List.length_replicate]; omega
            refine ⟨by rintro el rfl; rfl, by rw [hlA]; omega, rfl, more_two (by omega) (by omega) (fun hin => ⟨by rw [hlA]; omega, ?_⟩) (fun hout b2 cc hb2 hcc => ?_)⟩
            · simp only [go_sem, h8, h14, n4, n8, n14, n1, z4, z8, z14]
              rw [join_set, join_set]
              have hF := fun x1 x2 => (hdT'.set tb1 x1).set t14 x2
              refine ⟨⟨(b1, r1 - 1), z4, z8, z14, zS⟩, (fun hS => ⟨Sub.joinD hS (hF _ _), (hF _ _).sub hS⟩ : Sub _ _ → _ ∧ _) ?_⟩
              rw [rowS_ne (by simp)]
              dsimp only
              have hin' := rowL_in M x (M.length + r1) hin
              simp only [splice, Nat.zero_add] at hin'
              rw [hlx, show M.length + 1 + (r1 - 1) = M.length + r1 by omega, hin']
              ((try dsimp only); (repeat refine sub_set ?_ ?_) <;> first | ((repeat (first | exact Sub.refl _ | refine Sub.setF ?_ (by first | assumption | simp only [*]) | refine Sub.setV ?_ (by first | assumption | simp only [*]))); done) | (simp only [go_sem, h8, h14, n4, n8, n14, n1, z4, z8, z14, ge, zS, lumE]; done) | (simp only [go_sem, h8, h14, n4, n8, n14, n1, z4, z8, z14, ge, zS, lumE]; rfl) | rfl)
            · have hjb := join_none hb2
              have m4 : ¬ c4 = b2 ∧ ¬ b2 = c4 := by constructor <;> rintro rfl <;> simp [Store.set, h8, h14, n4, z4] at hjb
              have m8 : ¬ c8 = b2 ∧ ¬ b2 = c8 := by constructor <;> rintro rfl <;> simp [Store.set, h14, n8, z8] at hjb
              have m14 : ¬ c14 = b2 ∧ ¬ b2 = c14 := by constructor <;> rintro rfl <;> simp [Store.set, n14] at hjb
              have m1 : ¬ b1 = b2 ∧ ¬ b2 = b1 := by constructor <;> rintro rfl <;> simp [Store.set, n1, z14] at hjb
              have me : ¬ e = b2 ∧ ¬ b2 = e := by constructor <;> rintro rfl <;> simp [Store.set] at hjb
              have gb : S (.r b2) = none := by have := hjb.2; simpa [Store.set, m4, m8, m14, m1, me] using this
              simp only [go_sem, h8, h14, n4, n8, n14, n1, z4, z8, z14, m4, m8, m14, m1, me]
              rw [join_set, join_set]
              have hF := fun x1 x2 => (hdT'.set hjb.1 x1).set t14 x2
              refine ⟨⟨(b2, cc - (M.length + 1)), ⟨m4.2, m4.1⟩, ⟨m8.2, m8.1⟩, ⟨m14.2, m14.1⟩, gb⟩, (fun hS => ⟨Sub.joinD hS (hF _ _), (hF _ _).sub hS⟩ : Sub _ _ → _ ∧ _) ?_⟩
              rw [rowS_ne (by simp)]
              dsimp only
              rw [hlx, show M.length + 1 + (cc - (M.length + 1)) = cc by omega, rowL_out M x (M.length + r1) cc]
              ((try dsimp only); (repeat refine sub_set ?_ ?_) <;> first | ((repeat (first | exact Sub.refl _ | refine Sub.setF ?_ (by first | assumption | simp only [*]) | refine Sub.setV ?_ (by first | assumption | simp only [*]))); done) | (simp only [go_sem, h8, h14, n4, n8, n14, n1, z4, z8, z14, m4, m8, m14, m1, me, ge, gb, zS, lumE]; done) | (simp only [go_sem, h8, h14, n4, n8, n14, n1, z4, z8, z14, m4, m8, m14, m1, me, ge, gb, zS, lumE]; rfl) | rfl)
        · rintro ⟨⟨b1, r1⟩, z4, z8, z14, zS⟩ d hd
          dsimp only at z4 z8 z14 zS hd ⊢
          have hjd := join_none hd
          rw [List.take_length] at hjd ⊢
          have db : ¬ b = d ∧ ¬ d = b := by constructor <;> rintro rfl <;> simp [Store.set] at hjd
          obtain ⟨y, hy⟩ : ∃ y : {y : Nat × Nat // (¬ y.1 = c4 ∧ ¬ c4 = y.1) ∧ (¬ y.1 = c8 ∧ ¬ c8 = y.1) ∧ (¬ y.1 = c14 ∧ ¬ c14 = y.1) ∧ (¬ y.1 = d ∧ ¬ d = y.1) ∧ S (.r y.1) = none},
              rowS ((S.set (.r c4) (.cells [i64 0, i64 0, .nils])).set (.r c8) (.cells [i64 k0, i64 (gA l), .nils])) c14 L (b1, r1) = rowS ((S.set (.r c4) (.cells [i64 0, i64 0, .nils])).set (.r c8) (.cells [i64 k0, i64 (gA l), .nils])) c14 L y.1 := by
            by_cases hL0 : L = []
            · refine ⟨⟨(b, 0), hb.2.2.2.1, hb.2.2.1, hb.1, db, yb⟩, ?_⟩
              rw [hL0, rowS_nil, rowS_nil]
            · have d1 : ¬ b1 = d ∧ ¬ d = b1 := by
                rw [rowS_ne hL0] at hjd
                constructor <;> rintro rfl <;> simp [Store.set, z14] at hjd
              exact ⟨⟨(b1, r1), z4, z8, z14, d1, zS⟩, rfl⟩
          rw [hy] at hjd ⊢
          have d14 : ¬ c14 = d ∧ ¬ d = c14 := by
            have := hjd.2
            unfold rowS at this
            constructor <;> rintro rfl <;> (split at this <;> simp [Store.set] at this)
          have hrow : ∀ k, rowS ((S.set (.r c4) (.cells [i64 0, i64 0, .nils])).set (.r c8) (.cells [i64 k0, i64 (gA l), .nils])) c14 L y.1 k = none → ((S.set (.r c4) (.cells [i64 0, i64 0, .nils])).set (.r c8) (.cells [i64 k0, i64 (gA l), .nils])) k = none := by
            intro k hk
            unfold rowS at hk
            split at hk <;> (simp only [Store.set] at hk ⊢; (repeat' split at hk) <;> simp_all)
          have hjd2 := hrow _ hjd.2
          have d4 : ¬ c4 = d ∧ ¬ d = c4 := by constructor <;> rintro rfl <;> simp [Store.set, h8] at hjd2
          have d8 : ¬ c8 = d ∧ ¬ d = c8 := by constructor <;> rintro rfl <;> simp [Store.set] at hjd2
          have gd : S (.r d) = none := by simpa [Store.set, d4, d8] using hjd2
          have hMbig : ∀ i, (L ++ evL (evs.take i)).length ≤ 62915608576 := fun i => by
            have : (evL (evs.take i)).length ≤ evs.length := by unfold evL; rw [List.length_map, List.length_take]; omega
            rw [List.length_append]; omega
          simp only [go_sem]
          refine AWP.iterE (ι := {y : Nat × Nat // (¬ y.1 = c4 ∧ ¬ c4 = y.1) ∧ (¬ y.1 = c8 ∧ ¬ c8 = y.1) ∧ (¬ y.1 = c14 ∧ ¬ c14 = y.1) ∧ (¬ y.1 = d ∧ ¬ d = y.1) ∧ S (.r y.1) = none})
            (fun y i => ⟨Env.get [(4, .sp c4 0), (8, .sp c8 0), (14, .sp c14 0), (94, .p (evsP evs)), (95, i64 evs.length), (96, i64 i)],
              (rowS ((S.set (.r c4) (.cells [i64 0, i64 0, .nils])).set (.r c8) (.cells [i64 k0, i64 (gA l), .nils])) c14 (L ++ evL (evs.take i)) y.1).set (.r d) mark0, 128, [d]⟩) evs.length y ?_ ?_ ?_
          · refine le_of (by simp only [go_sem, evsP, List.length_map] <;> rfl) ?_ rfl rfl (fun r hr => by rw [List.mem_singleton.1 hr, Store.set_same])
            rw [List.take_zero, show L ++ evL [] = L from List.append_nil L]
            exact Sub.both (Sub.joinL (Sub.refl _)) _ _
          · rintro i ⟨⟨b1, r1⟩, z4, z8, z14, zd, zS⟩ hi ih
            dsimp only at z4 z8 z14 zd zS ih ⊢
            have hqi : wi ((i : Int) + 1) = ((i + 1 : Nat) : Int) := wi_succ (show i < 4611686018427387904 by clear h8 h9 h14 hb; omega)
            have hMb := hMbig i
            have hnext : L ++ evL (evs.take (i + 1)) = (L ++ evL (evs.take i)) ++ [((evs[i]).t, (evs[i]).w)] := by
              unfold evL
              rw [List.take_succ_eq_append_getElem hi, List.map_append, List.append_assoc]; rfl
            rw [hnext] at ih
            generalize L ++ evL (evs.take i) = M at *
            refine AWPH.step (xc_ok (bitB 38942524475571453149370480702712819) _ _ _ ?_)
            by_cases hM0 : M = []
            · rw [hM0, List.nil_append] at ih
              rw [hM0, rowS_nil]
              simp only [go_sem, evsP, hi, ltN' hi, getD_map' _ _ _ _ hi, List.length_map]
              refine alloc_intro fun e he => ?_
              simp only [fresh_set] at he
              simp only [go_sem, he, h8, h14, d14]
              refine ⟨by rintro el rfl; rfl, own_intro (by simp) fun b2 cc hb2 hcc => ?_⟩
              simp only [fresh_set] at hb2
              have hcc' : 1 ≤ cc := by simpa using hcc
              have hc1 : 1 + (cc - 1) = cc := by clear h8 h9 h14 hb he hb2; omega
              simp only [go_sem, he, hb2, h8, h14, d14]
              refine (ih ⟨(b2, cc - 1), hb2.2.2.2.2.1, hb2.2.2.2.1, hb2.2.2.1, hb2.2.1, hb2.2.2.2.2.2⟩).back ?_ (fun r hr => by rw [List.mem_singleton.1 hr, Store.set_same]) ?_
              · rw [rowS_ne (by simp)]
                dsimp only
                rw [show [((evs[i]).t, (evs[i]).w)].length + (cc - 1) = cc from hc1, rowL_one]
                ((try dsimp only); (repeat refine sub_set ?_ ?_) <;> first | ((repeat (first | exact Sub.refl _ | refine Sub.setF ?_ (by first | assumption | simp only [*]) | refine Sub.setV ?_ (by first | assumption | simp only [*]))); done) | (simp only [go_sem, he, hb2, h8, h14, d14, d8, d4, lumE, List.length_cons, List.length_nil]; done) | (simp only [go_sem, he, hb2, h8, h14, d14, d8, d4, lumE, List.length_cons, List.length_nil]; rfl) | rfl)
              · simp only [go_sem, evsP, hqi]
            · rw [rowS_ne hM0]
              dsimp only
              have hA := rowL_len M
              have hlA : (flatA (List.map lumE M) ++ List.replicate ((M.length + r1 - M.length) * 2) AV.top).length = (M.length + r1) * 2 := by
                rw [List.length_append, hA, List.length_replicate]; clear h8 h9 h14 hb; omega
              have hlx : (M ++ [((evs[i]).t, (evs[i]).w)]).length = M.length + 1 := by rw [List.length_append]; rfl
              simp only [go_sem, evsP, hi, ltN' hi, getD_map' _ _ _ _ hi, List.length_map]
              refine alloc_intro fun e he => ?_
              simp only [fresh_set] at he
              simp only [go_sem, he, h8, h14, d14, z14, zd, rowL]
              refine ⟨by rintro el rfl; rfl, by rw [hlA]; clear h8 h9 h14 hb he; omega, rfl, more_two (by clear h8 h9 h14 hb he; omega) (by clear h8 h9 h14 hb he; omega) (fun hin => ⟨by rw [hlA]; clear h8 h9 h14 hb he; omega, ?_⟩) (fun hout b2 cc hb2 hcc => ?_)⟩
              · simp only [go_sem, he, h8, h14, d14, z14, zd]
                refine (ih ⟨(b1, r1 - 1), z4, z8, z14, zd, zS⟩).back ?_ (fun r hr => by rw [List.mem_singleton.1 hr, Store.set_same]) ?_
                · rw [rowS_ne (by simp)]
                  dsimp only
                  have hin' := rowL_in M ((evs[i]).t, (evs[i]).w) (M.length + r1) hin
                  simp only [splice, Nat.zero_add] at hin'
                  rw [hlx, show M.length + 1 + (r1 - 1) = M.length + r1 by clear h8 h9 h14 hb he; omega, hin']
                  ((try dsimp only); (repeat refine sub_set ?_ ?_) <;> first | ((repeat (first | exact Sub.refl _ | refine Sub.setF ?_ (by first | assumption | simp only [*]) | refine Sub.setV ?_ (by first | assumption | simp only [*]))); done) | (simp only [go_sem, he, h8, h14, d14, d8, d4, z14, z8, z4, zd, lumE]; done) | (simp only [go_sem, he, h8, h14, d14, d8, d4, z14, z8, z4, zd, lumE]; rfl) | rfl)
                · simp only [go_sem, evsP, hqi]
              · simp only [fresh_set] at hb2
                simp only [go_sem, he, hb2, h8, h14, d14, z14, zd]
                refine (ih ⟨(b2, cc - (M.length + 1)), hb2.2.2.2.2.2.1, hb2.2.2.2.2.1, hb2.2.2.1, hb2.2.1, hb2.2.2.2.2.2.2⟩).back ?_ (fun r hr => by rw [List.mem_singleton.1 hr, Store.set_same]) ?_
                · rw [rowS_ne (by simp)]
                  dsimp only
                  rw [hlx, show M.length + 1 + (cc - (M.length + 1)) = cc by clear h8 h9 h14 hb he hb2; omega, rowL_out M ((evs[i]).t, (evs[i]).w) (M.length + r1) cc]
                  ((try dsimp only); (repeat refine sub_set ?_ ?_) <;> first | ((repeat (first | exact Sub.refl _ | refine Sub.setF ?_ (by first | assumption | simp only [*]) | refine Sub.setV ?_ (by first | assumption | simp only [*]))); done) | (simp only [go_sem, he, hb2, h8, h14, d14, d8, d4, z14, z8, z4, zd, lumE]; done) | (simp only [go_sem, he, hb2, h8, h14, d14, d8, d4, z14, z8, z4, zd, lumE]; rfl) | rfl)
                · simp only [go_sem, evsP, hqi]
          · rintro ⟨⟨b1, r1⟩, z4, z8, z14, zd, zS⟩
            dsimp only at z4 z8 z14 zd zS ⊢
            refine AWPH.step (xc_ok (bitB 38942524475571453149370480702712819) _ _ _ ?_)
            have hMb := hMbig evs.length
            rw [List.take_length] at hMb ⊢
            obtain ⟨M, hM⟩ : ∃ M, L ++ evL evs = M := ⟨_, rfl⟩
            rw [hM] at hMb ⊢
            have hres : ∀ m' : List (Nat × Nat), m'.Perm M → Ord m' → (withV evs l).1 = foldH ⟨k0, gA l, []⟩ m' ∧ ∀ i, (foldH ⟨k0, gA l, []⟩ (m'.take i)).Good := fun m' hp ho => by
              rw [← hM, hLP] at hp
              obtain ⟨a1, a2⟩ := with_any hcm hp ho (gA l)
              rw [hk0] at a1 a2
              refine ⟨?_, a2⟩
              rw [a1, hge]
              obtain ⟨_, _, b3, b4, _⟩ := with_ok hcm
              rw [← hk0, ← b3, ← b4]
            have hok2 : (withV evs l).2 = 0 := (with_ok hcm).1
            rw [hok2]
            by_cases hM0 : M = []
            · rw [hM0, rowS_nil]
              have hr0 := (hres [] (by rw [hM0]) List.Pairwise.nil).1
              rw [hr0]
              simp only [go_sem, h8, h14, d14, List.length_map]
              refine Or.inr (sort_none Try.sortLump (enterable_of Try.func47 rfl rfl) ?_)
              simp only [go_sem, h8, h14, d14]
              refine ⟨fun r hr => by subst hr; rw [if_pos rfl], ?_⟩
              refine AWP.head (AWPH.step (xc_ok (bitB 38942524475571453149370480702712819) _ _ _ ?_))
              simp only [go_sem, h8, h14, d14, d8, d4]
              change boolK (.p (.bool false)) _
              simp only [go_sem, h8, h14, d14, d8, d4]
              refine ⟨S, Sub.set (Sub.set (Sub.set (Sub.set (Sub.set (Sub.refl _) y4 _) y8 _) y14 _) gd _) y4 _, fun r hr => hr ▸ gd, ?_⟩
              simp [foldH]
            · rw [rowS_ne hM0]
              dsimp only
              simp only [go_sem, h8, h14, d14, z14, zd, List.length_map]
              refine Or.inr (sort_lu M rfl (by simp only [go_sem, h8, h14, d14, z14, zd]) hM0 (by clear h8 h9 h14 hb; omega) fun m' hp ho => ?_)
              obtain ⟨hr1, hr2⟩ := hres m' hp ho
              rw [hr1]
              have hl' := hp.length_eq
              simp only [go_sem, h8, h14, d14, z14, zd]
              refine ⟨fun r hr => by subst hr; rw [if_neg zd.2, if_pos rfl], ?_⟩
              have hmw : ∀ x ∈ m', x.2 < 18446744073709551616 := fun x hx => by
                have := (came_lumps hcm)
                rw [← hLP, hM] at this
                have h2 := (sumW_perm hp)
                have h3 : x.2 ≤ sumW m' := sumW_mem x hx
                have h5 := hcm.tot
                clear h8 h9 h14 hb; omega
              obtain ⟨F, hF⟩ : ∃ F : Nat → Hist, (fun i => foldH ⟨k0, gA l, []⟩ (m'.take i)) = F := ⟨_, rfl⟩
              have hFi : ∀ i, foldH ⟨k0, gA l, []⟩ (m'.take i) = F i := fun i => by rw [← hF]
              have hFs : ∀ i (h : i < m'.length), F (i + 1) = (addH (F i) (m'[i]).1 (m'[i]).2).1 := fun i h => by
                rw [← hFi, ← hFi, List.take_succ_eq_append_getElem h, foldH_snoc]
              have hFk : ∀ i, i ≤ m'.length → (F i).Good := fun i _ => by rw [← hFi]; exact hr2 i
              have hF0 : F 0 = ⟨k0, gA l, []⟩ := by rw [← hFi]; rfl
              refine AWP.iter (fun i => ⟨Env.get [(4, .sp c4 0), (8, .sp c8 0), (111, .ms b1 2 0 M.length (M.length + r1)), (112, i64 m'.length), (113, i64 i)],
                (((S.set (.r c4) (.cells [i64 0, i64 0, .nils])).set (.r c8) (.cells [i64 (F i).k, i64 (F i).g, if i = 0 then .nils else .p (.sl ((F i).ls.map lvE))])).set (.r b1) (rowL m' (M.length + r1))).set (.r d) mark0, 128, [d]⟩) m'.length ?_ ?_ ?_
              · refine le_of (by simp only [go_sem, hl'] <;> rfl) ?_ rfl rfl (fun r hr => by rw [List.mem_singleton.1 hr, Store.set_same])
                rw [hF0]
                ((try dsimp only); (repeat refine sub_set ?_ ?_) <;> first | ((repeat (first | exact Sub.refl _ | refine Sub.setF ?_ (by first | assumption | simp only [*]) | refine Sub.setV ?_ (by first | assumption | simp only [*]))); done) | (simp only [go_sem, h8, h14, d14, d8, d4, z14, z8, z4, zd]; done) | (simp only [go_sem, h8, h14, d14, d8, d4, z14, z8, z4, zd]; rfl) | rfl)
              · intro i hi ih
                have hqi : wi ((i : Int) + 1) = ((i + 1 : Nat) : Int) := wi_succ (show i < 4611686018427387904 by clear h8 h9 h14 hb; omega)
                refine AWPH.step (xc_ok (bitB 38942524475571453149370480702712819) _ _ _ ?_)
                have hA := rowL_len m'
                have hfa := flat_at m' i hi (List.replicate ((M.length + r1 - m'.length) * 2) AV.top)
                simp only [go_sem, h8, h14, d14, d8, d4, z14, z8, z4, zd, hi, ltN' hi, rowL]
                refine ⟨by clear h8 h9 h14 hb; omega, by rw [List.length_append, hA]; clear h8 h9 h14 hb; omega, alloc_intro fun e he => ?_⟩
                simp only [fresh_set] at he
                have hcall := hist_addH (F i) (hFk i (Nat.le_of_lt hi)).ok (m'[i]).1 (m'[i]).2 (hmw _ (List.getElem_mem hi))
                have hi1 : (i + 1 = 0) = False := by simp
                by_cases hi0 : i = 0
                · subst hi0
                  rw [hF0] at hcall
                  rw [Nat.zero_mul, List.drop_zero] at hfa
                  simp only [go_sem, he, hfa, hF0, h8, h14, d14, d8, d4, z14, z8, z4, zd, if_true]
                  refine hcall.useA ?_
                  have hF1 : (addH ⟨k0, gA l, []⟩ (m'[0]).1 (m'[0]).2).1 = F (0 + 1) := by rw [hFs 0 hi, hF0]
                  rw [hF1]
                  simp only [go_sem, he, h8, h14, d14, d8, d4, z14, z8, z4, zd]
                  refine ⟨fun r hr => by subst hr; rw [if_neg he.1.2, if_pos rfl], ?_⟩
                  refine ih.back ?_ (fun r hr => by rw [List.mem_singleton.1 hr, Store.set_same]) ?_
                  · ((try dsimp only); (repeat refine sub_set ?_ ?_) <;> first | ((repeat (first | exact Sub.refl _ | refine Sub.setF ?_ (by first | assumption | simp only [*]) | refine Sub.setV ?_ (by first | assumption | simp only [*]))); done) | (simp only [go_sem, he, h8, h14, d14, d8, d4, z14, z8, z4, zd, hi1, if_false, rowL]; done) | (simp only [go_sem, he, h8, h14, d14, d8, d4, z14, z8, z4, zd, hi1, if_false, rowL]; rfl) | rfl)
                  · simp only [go_sem, hqi]
                · simp only [go_sem, he, hfa, h8, h14, d14, d8, d4, z14, z8, z4, zd, hi0, if_false]
                  refine hcall.useA ?_
                  rw [← hFs i hi]
                  simp only [go_sem, he, h8, h14, d14, d8, d4, z14, z8, z4, zd]
                  refine ⟨fun r hr => by subst hr; rw [if_neg he.1.2, if_pos rfl], ?_⟩
                  refine ih.back ?_ (fun r hr => by rw [List.mem_singleton.1 hr, Store.set_same]) ?_
                  · ((try dsimp only); (repeat refine sub_set ?_ ?_) <;> first | ((repeat (first | exact Sub.refl _ | refine Sub.setF ?_ (by first | assumption | simp only [*]) | refine Sub.setV ?_ (by first | assumption | simp only [*]))); done) | (simp only [go_sem, he, h8, h14, d14, d8, d4, z14, z8, z4, zd, hi1, if_false, rowL]; done) | (simp only [go_sem, he, h8, h14, d14, d8, d4, z14, z8, z4, zd, hi1, if_false, rowL]; rfl) | rfl)
                  · simp only [go_sem, hqi]
              · refine AWPH.step (xc_ok (bitB 38942524475571453149370480702712819) _ _ _ ?_)
                have hm0 : m'.length ≠ 0 := fun h => hM0 (List.eq_nil_of_length_eq_zero (by rw [← hl', h]))
                simp only [go_sem, h8, h14, d14, d8, d4, z14, z8, z4, zd, hm0, if_false]
                have hFl : foldH ⟨k0, gA l, []⟩ m' = F m'.length := by rw [← hFi, List.take_length]
                refine ⟨S, Sub.set (Sub.set (Sub.set (Sub.set (Sub.set (Sub.refl _) y4 _) y8 _) zS _) gd _) y4 _, fun r hr => hr ▸ gd, ?_⟩
                rw [hFl]
                exact Or.inr ⟨rfl, rfl⟩
        · intro e E' d _ h; exact h.elim
end Go.Sk
end
