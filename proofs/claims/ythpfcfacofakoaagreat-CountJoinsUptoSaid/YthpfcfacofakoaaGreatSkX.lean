/- What a law is handed: its arguments as data. -/
import Derived.Test.YthpfcfacofakoaaGreatSkW
import Derived.JoinedCond
import Derived.WalkKit
import Derived.ProofKit
import Derived.OpenShut
set_option linter.unusedSimpArgs false
set_option linter.unusedVariables false
set_option linter.unusedSectionVars false
namespace Go.Sk
open Go

/-- The shape of a cell of data. -/
inductive Sh where
  | bool
  | int (k : IntKind)
  | str
  | sl (el : List Sh)
instance : Inhabited Sh := ⟨.bool⟩

def shFs (P : Program) (r : TypeId → Option (List Sh)) : List Field → Nat → Option (List Sh)
  | [], _ => some []
  | f :: fs, off => match r f.type, shFs P r fs (off + P.cellsOf f.type) with
    | some l, some m => if f.offset = off ∧ l.length = P.cellsOf f.type then some (l ++ m) else none
    | _, _ => none
/-- A type's cells. -/
def shOf (P : Program) : Nat → TypeId → Option (List Sh)
  | 0, _ => none
  | f + 1, t => match P.underlying t with
    | some .bool => some [.bool]
    | some (.int k) => some [.int k]
    | some .string => some [.str]
    | some (.slice e) => match shOf P f e with
      | some l => if l.length = P.cellsOf e ∧ 0 < l.length then some [.sl l] else none
      | none => none
    | some (.struct fs) => match shFs P (shOf P f) fs.toList 0 with
      | some l => if l.length = P.cellsOf t then some l else none
      | none => none
    | some (.array n e) => match shOf P f e with
      | some l => if l.length = P.cellsOf e ∧ n * l.length = P.cellsOf t then some ((List.replicate n l).flatten) else none
      | none => none
    | _ => none

/-- Data of a shape, with no slice, and no text, longer than N. -/
inductive Fit (N : Nat) : Sh → PV → Prop
  | bool (b : Bool) : Fit N .bool (.bool b)
  | int (k : IntKind) (n : Int) (h1 : k.min ≤ n) (h2 : n ≤ k.max) : Fit N (.int k) (.int k n)
  | str (s : ByteArray) (h : s.size ≤ N) : Fit N .str (.str s)
  | sl (el : List Sh) (els : List (List PV)) (h : els.length ≤ N) (hl : ∀ e ∈ els, e.length = el.length)
      (hf : ∀ i j, i < els.length → j < el.length → Fit N (el.getD j .bool) ((els.getD i []).getD j default)) : Fit N (.sl el) (.sl els)

/-- What a measure of what is read must be. -/
structure BulkOk {H : Type} (B : DataW H → Nat) (BA : List (DataW H) → Nat) : Prop where
  cons : ∀ d r, BA (d :: r) = B d + BA r
  slice : ∀ e s, B (.slice e s) = BA e + BA s + 1
  agg : ∀ p, B (.agg p) = BA p + 1
  str : ∀ s, B (.lit (.string s)) = s.length + 1
  one : ∀ d, 1 ≤ B d

theorem mapM_some {α β : Type} {f : α → Option β} : ∀ {l : List α} {r : List β}, l.mapM f = some r → r.length = l.length ∧ ∀ i (h : i < l.length), f l[i] = r[i]? := by
  intro l
  induction l with
  | nil => intro r h; simp only [List.mapM_nil, Option.pure_def, Option.some.injEq] at h; subst h; exact ⟨rfl, fun i hi => by simp at hi⟩
  | cons x l ih =>
    intro r h
    simp only [List.mapM_cons, Option.pure_def, Option.bind_eq_bind] at h
    cases hx : f x with
    | none => rw [hx] at h; cases h
    | some y =>
      rw [hx] at h
      simp only [Option.bind_some] at h
      cases hl : l.mapM f with
      | none => rw [hl] at h; cases h
      | some ys =>
        rw [hl] at h
        simp only [Option.bind_some, Option.some.injEq] at h
        subst h
        obtain ⟨h1, h2⟩ := ih hl
        refine ⟨by simp [h1], fun i hi => ?_⟩
        cases i with
        | zero => simpa using hx
        | succ i => simpa using h2 i (by simpa using hi)

section
variable {H : Type} {enc : TypeId × Value → H} {P : Program} {w : World} {base : Nat} {hd : Bool} {B : DataW H → Nat} {BA : List (DataW H) → Nat}

theorem bulk_mem (hB : BulkOk B BA) {l : List (DataW H)} {d : DataW H} (h : d ∈ l) : B d ≤ BA l := by
  induction l with
  | nil => cases h
  | cons x r ih =>
    rw [hB.cons]
    rcases List.mem_cons.1 h with rfl | h
    · omega
    · have := ih h; omega
theorem bulk_length (hB : BulkOk B BA) (l : List (DataW H)) : l.length ≤ BA l := by
  induction l with
  | nil => simp
  | cons x r ih => rw [hB.cons, List.length_cons]; have := hB.one x; omega

theorem cells_some {a : Addr} {n : Nat} {cs : List Value} (h : w.cells? base a n = some cs) : cs.length = n ∧ ∀ j, j < n → w.cell? (a.add j) = cs[j]? := by
  unfold World.cells? at h
  split at h
  · obtain ⟨h1, h2⟩ := mapM_some h
    refine ⟨by simpa using h1, fun j hj => ?_⟩
    have := h2 j (by simpa using hj)
    rwa [List.getElem_range] at this
  · cases h

theorem cell_spot {a : Addr} {v : Value} (h : w.cell? a = some v) : a.spot = none := by
  unfold World.cell? at h
  split at h
  · split at h
    · cases h
    · rename_i hs; simpa using hs
  · cases h

theorem trod_bool {fuel : Nat} {t : TypeId} {cs : List Value} {x : DataW H × List MemPlace} (hu : P.underlying t = some .bool) (h : DataW.trod enc P w base (fun _ => true) hd (fuel + 1) t cs = some x) : ∃ b, cs = [.bool b] := by
  simp only [DataW.trod, hu] at h
  split at h <;> simp_all
theorem trod_int {fuel : Nat} {t : TypeId} {cs : List Value} {k : IntKind} {x : DataW H × List MemPlace} (hu : P.underlying t = some (.int k)) (h : DataW.trod enc P w base (fun _ => true) hd (fuel + 1) t cs = some x) : ∃ n, cs = [.int k n] ∧ k.min ≤ n ∧ n ≤ k.max := by
  simp only [DataW.trod, hu] at h
  split at h
  all_goals first | (cases h; done) | (cases ‹some (TypeDesc.int k) = some _›; done) | (cases ‹some (TypeDesc.int k) = some _›)
  split at h
  · rename_i hw
    obtain ⟨rfl, hw⟩ := hw
    simp only [Lit.wf, Bool.and_eq_true, decide_eq_true_eq] at hw
    exact ⟨_, rfl, hw.1, hw.2⟩
  · cases h
theorem trod_str {fuel : Nat} {t : TypeId} {cs : List Value} {x : DataW H × List MemPlace} (hu : P.underlying t = some .string) (h : DataW.trod enc P w base (fun _ => true) hd (fuel + 1) t cs = some x) : ∃ s, cs = [.string s] ∧ x.1 = .lit (.string s.data.toList) := by
  simp only [DataW.trod, hu] at h
  split at h
  all_goals first | (cases h; done) | (cases ‹some TypeDesc.string = some _›; done) | (cases ‹some TypeDesc.string = some _›)
  split at h
  · cases h; exact ⟨_, rfl, rfl⟩
  · cases h
theorem trod_slice {fuel : Nat} {t e : TypeId} {cs : List Value} {x : DataW H × List MemPlace} (hu : P.underlying t = some (.slice e)) (h : DataW.trod enc P w base (fun _ => true) hd (fuel + 1) t cs = some x) : cs = [.slice none 0 0] ∨ ∃ a len cap elems rest, cs = [.slice (some a) len cap] ∧ len ≤ cap ∧
    (List.range len).mapM (fun i => (w.cells? base (a.add (i * P.cellsOf e)) (P.cellsOf e)).bind (DataW.trod enc P w base (fun _ => true) hd fuel e)) = some elems ∧
    (List.range (cap - len)).mapM (fun j => (w.cells? base (a.add ((len + j) * P.cellsOf e)) (P.cellsOf e)).bind (DataW.trod enc P w base (fun _ => true) hd fuel e)) = some rest ∧ x.1 = .slice (elems.map (·.1)) (rest.map (·.1)) := by
  simp only [DataW.trod, hu] at h
  split at h
  all_goals first | (cases h; done) | (cases ‹some (TypeDesc.slice e) = some _›; done) | (cases ‹some (TypeDesc.slice e) = some _›)
  · exact Or.inl rfl
  · rename_i a len cap
    right
    split at h
    · rename_i hc
      cases he : (List.range len).mapM (fun i => (w.cells? base (a.add (i * P.cellsOf e)) (P.cellsOf e)).bind (DataW.trod enc P w base (fun _ => true) hd fuel e)) with
      | none => rw [he] at h; cases h
      | some elems =>
        rw [he] at h
        simp only [Option.bind_some, if_true] at h
        cases hr : (List.range (cap - len)).mapM (fun j => (w.cells? base (a.add ((len + j) * P.cellsOf e)) (P.cellsOf e)).bind (DataW.trod enc P w base (fun _ => true) hd fuel e)) with
        | none => rw [hr] at h; cases h
        | some rest =>
          rw [hr] at h
          simp only [Option.map_some, Option.some.injEq] at h
          subst h
          exact ⟨a, len, cap, elems, rest, rfl, hc.2.1, he, hr, rfl⟩
    · cases h
theorem trod_struct {fuel : Nat} {t : TypeId} {fs : Array Field} {cs : List Value} {x : DataW H × List MemPlace} (hu : P.underlying t = some (.struct fs)) (h : DataW.trod enc P w base (fun _ => true) hd (fuel + 1) t cs = some x) : cs.length = P.cellsOf t ∧ ∃ xs,
    fs.toList.mapM (fun f => DataW.trod enc P w base (fun _ => true) hd fuel f.type ((cs.drop f.offset).take (P.cellsOf f.type))) = some xs ∧ x.1 = .agg (xs.map (·.1)) := by
  simp only [DataW.trod, hu] at h
  split at h
  · rename_i hc
    refine ⟨hc, ?_⟩
    cases he : fs.toList.mapM (fun f => DataW.trod enc P w base (fun _ => true) hd fuel f.type ((cs.drop f.offset).take (P.cellsOf f.type))) with
    | none => rw [he] at h; cases h
    | some xs => rw [he] at h; simp only [Option.map_some, Option.some.injEq] at h; subst h; exact ⟨xs, rfl, rfl⟩
  · cases h
theorem trod_array {fuel : Nat} {t e : TypeId} {n : Nat} {cs : List Value} {x : DataW H × List MemPlace} (hu : P.underlying t = some (.array n e)) (h : DataW.trod enc P w base (fun _ => true) hd (fuel + 1) t cs = some x) : cs.length = P.cellsOf t ∧ ∃ xs,
    (List.range n).mapM (fun i => DataW.trod enc P w base (fun _ => true) hd fuel e ((cs.drop (i * P.cellsOf e)).take (P.cellsOf e))) = some xs ∧ x.1 = .agg (xs.map (·.1)) := by
  simp only [DataW.trod, hu] at h
  split at h
  · rename_i hc
    refine ⟨hc, ?_⟩
    cases he : (List.range n).mapM (fun i => DataW.trod enc P w base (fun _ => true) hd fuel e ((cs.drop (i * P.cellsOf e)).take (P.cellsOf e))) with
    | none => rw [he] at h; cases h
    | some xs => rw [he] at h; simp only [Option.map_some, Option.some.injEq] at h; subst h; exact ⟨xs, rfl, rfl⟩
  · cases h

/-- Cells that are data of shapes. -/
def CellsOk (D : Prot) (w : World) (N : Nat) (cs : List Value) (sh : List Sh) : Prop :=
  cs.length = sh.length ∧ ∃ pvs : List PV, pvs.length = sh.length ∧ ∀ i, i < sh.length → Rep D w (cs.getD i undef) (pvs.getD i default) ∧ Fit N (sh.getD i .bool) (pvs.getD i default)

theorem cellsOk_one {D : Prot} {N : Nat} {v : Value} {s : Sh} {x : PV} (hr : Rep D w v x) (hf : Fit N s x) : CellsOk D w N [v] [s] :=
  ⟨rfl, [x], rfl, fun i hi => by
    have : i = 0 := by simpa using hi
    subst this; exact ⟨hr, hf⟩⟩
theorem cellsOk_append {D : Prot} {N : Nat} {cs cs' : List Value} {sh sh' : List Sh} (h : CellsOk D w N cs sh) (k : CellsOk D w N cs' sh') : CellsOk D w N (cs ++ cs') (sh ++ sh') := by
  obtain ⟨h1, p, h2, h3⟩ := h
  obtain ⟨k1, q, k2, k3⟩ := k
  refine ⟨by simp [h1, k1], p ++ q, by simp [h2, k2], fun i hi => ?_⟩
  simp only [List.length_append] at hi
  simp only [List.getD_eq_getElem?_getD] at h3 k3 ⊢
  by_cases hlt : i < sh.length
  · rw [List.getElem?_append_left (by omega), List.getElem?_append_left (by omega), List.getElem?_append_left hlt]; exact h3 i hlt
  · rw [List.getElem?_append_right (by omega), List.getElem?_append_right (by omega), List.getElem?_append_right (by omega), h1, h2]; exact k3 _ (by omega)
theorem cellsOk_nil {D : Prot} {N : Nat} : CellsOk D w N [] [] := ⟨rfl, [], rfl, fun i hi => by simp at hi⟩

theorem cellsOk_fields (hB : BulkOk B BA) {N : Nat} {D : Prot} {fuel : Nat} {r : TypeId → Option (List Sh)} {cs : List Value}
    (ih : ∀ t cs d ps sh, DataW.trod enc P w base (fun _ => true) hd fuel t cs = some (d, ps) → r t = some sh → B d ≤ N → CellsOk D w N cs sh) :
    ∀ (fs : List Field) (off : Nat) (sh : List Sh) (xs : List (DataW H × List MemPlace)), shFs P r fs off = some sh → off + sh.length ≤ cs.length →
      fs.mapM (fun f => DataW.trod enc P w base (fun _ => true) hd fuel f.type ((cs.drop f.offset).take (P.cellsOf f.type))) = some xs → BA (xs.map (·.1)) ≤ N → CellsOk D w N ((cs.drop off).take sh.length) sh := by
  intro fs
  induction fs with
  | nil => intro off sh xs hs _ _ _; simp only [shFs, Option.some.injEq] at hs; subst hs; simpa using cellsOk_nil
  | cons f fs ihf =>
    intro off sh xs hs hlen hx hN
    simp only [shFs] at hs
    split at hs
    · rename_i l m hl hm
      split at hs
      · rename_i hc
        obtain ⟨hoff, hll⟩ := hc
        simp only [Option.some.injEq] at hs
        subst hs
        simp only [List.mapM_cons, Option.pure_def, Option.bind_eq_bind] at hx
        cases h1 : DataW.trod enc P w base (fun _ => true) hd fuel f.type ((cs.drop f.offset).take (P.cellsOf f.type)) with
        | none => rw [h1] at hx; cases hx
        | some y =>
          rw [h1] at hx
          simp only [Option.bind_some] at hx
          cases h2 : fs.mapM (fun f => DataW.trod enc P w base (fun _ => true) hd fuel f.type ((cs.drop f.offset).take (P.cellsOf f.type))) with
          | none => rw [h2] at hx; cases hx
          | some ys =>
            rw [h2] at hx
            simp only [Option.bind_some, Option.some.injEq] at hx
            subst hx
            simp only [List.map_cons, hB.cons] at hN
            simp only [List.length_append] at hlen
            have a1 := ih _ _ _ _ _ h1 hl (by omega)
            have a2 := ihf _ _ _ hm (by omega) h2 (by omega)
            have := cellsOk_append a1 a2
            rw [hoff, ← hll] at this
            have e : (cs.drop off).take (l ++ m).length = (cs.drop off).take l.length ++ (cs.drop (off + l.length)).take m.length := by
              rw [List.length_append, List.take_add, List.drop_drop]
            rw [e]; exact this
      · cases hs
    · cases hs

theorem cellsOk_row {N : Nat} {D : Prot} {cs : List Value} {sh : List Sh} : ∀ (n i : Nat), (i + n) * sh.length ≤ cs.length → (∀ k, i ≤ k → k < i + n → CellsOk D w N ((cs.drop (k * sh.length)).take sh.length) sh) →
    CellsOk D w N ((cs.drop (i * sh.length)).take (n * sh.length)) (List.replicate n sh).flatten := by
  intro n
  induction n with
  | zero => intro i _ _; simpa using cellsOk_nil
  | succ n ih =>
    intro i hlen h
    have a1 := h i (by omega) (by omega)
    have a2 := ih (i + 1) (by rw [show i + 1 + n = i + (n + 1) from by omega]; exact hlen) (fun k hk hk2 => h k (by omega) (by omega))
    have := cellsOk_append a1 a2
    have e : (cs.drop (i * sh.length)).take ((n + 1) * sh.length) = (cs.drop (i * sh.length)).take sh.length ++ (cs.drop ((i + 1) * sh.length)).take (n * sh.length) := by
      rw [Nat.add_mul n 1, Nat.one_mul, Nat.add_comm (n * sh.length), List.take_add, List.drop_drop, Nat.add_mul i 1, Nat.one_mul]
    rw [e, List.replicate_succ, List.flatten_cons]; exact this

/-- What is read is data. -/
theorem trod_pv (hB : BulkOk B BA) {N : Nat} {D : Prot} (hD : ∀ b o v, w.cell? ⟨b, o, none⟩ = some v → o < D b) :
    ∀ (fuel f : Nat) (t : TypeId) (cs : List Value) (d : DataW H) (ps : List MemPlace) (sh : List Sh), DataW.trod enc P w base (fun _ => true) hd fuel t cs = some (d, ps) → shOf P f t = some sh → B d ≤ N → CellsOk D w N cs sh := by
  intro fuel
  induction fuel with
  | zero => intro f t cs d ps sh h; simp [DataW.trod] at h
  | succ fuel ih =>
    intro f t cs d ps sh h hs hN
    cases f with
    | zero => simp [shOf] at hs
    | succ f =>
      simp only [shOf] at hs
      split at hs
      · rename_i hu
        simp only [Option.some.injEq] at hs; subst hs
        obtain ⟨b, rfl⟩ := trod_bool hu h
        exact cellsOk_one (.bool _) (.bool _)
      · rename_i k hu
        simp only [Option.some.injEq] at hs; subst hs
        obtain ⟨n, rfl, h1, h2⟩ := trod_int hu h
        exact cellsOk_one (.int _ _) (.int _ _ h1 h2)
      · rename_i hu
        simp only [Option.some.injEq] at hs; subst hs
        obtain ⟨s, rfl, hd'⟩ := trod_str hu h
        dsimp only at hd'
        subst hd'
        rw [hB.str] at hN
        refine cellsOk_one (.str _) (.str _ ?_)
        have e : s.data.toList.length = s.size := by rw [Array.length_toList]; rfl
        omega
      · rename_i e hu
        split at hs
        · rename_i l hl
          split at hs
          · rename_i hc
            obtain ⟨hll, hpos⟩ := hc
            simp only [Option.some.injEq] at hs; subst hs
            rcases trod_slice hu h with rfl | ⟨a, len, cap, elems, rest, rfl, hcap, he, hr, hd'⟩
            · exact cellsOk_one (.nil none) (.sl _ _ (Nat.zero_le _) (fun _ h => by cases h) (fun i j hi => by simp at hi))
            · dsimp only at hd'
              subst hd'
              rw [hB.slice] at hN
              obtain ⟨e1, e2⟩ := mapM_some he
              obtain ⟨r1, r2⟩ := mapM_some hr
              simp only [List.length_range] at e1 e2 r1 r2
              have hlenN : len ≤ N := by
                have := bulk_length hB (elems.map (·.1))
                rw [List.length_map, e1] at this; omega
              -- the address
              have spot0 : ∀ (y : DataW H × List MemPlace), (w.cells? base (a.add (0 * P.cellsOf e)) (P.cellsOf e)).bind (DataW.trod enc P w base (fun _ => true) hd fuel e) = some y → a.spot = none := by
                intro y hy
                cases hcs : w.cells? base (a.add (0 * P.cellsOf e)) (P.cellsOf e) with
                | none => rw [hcs] at hy; cases hy
                | some csi =>
                  obtain ⟨c1, c2⟩ := cells_some hcs
                  have c0 := c2 0 (by omega)
                  rw [List.getElem?_eq_getElem (by omega), Nat.zero_mul] at c0
                  have e0 : ((a.add 0).add 0) = a := by simp [Addr.add]
                  rw [e0] at c0
                  exact cell_spot c0
              have hsp : 0 < cap → a.spot = none := by
                intro hcp
                by_cases hl0 : 0 < len
                · have h1 := e2 0 (by omega)
                  rw [List.getElem_range, List.getElem?_eq_getElem (by omega)] at h1
                  exact spot0 _ h1
                · have h1 := r2 0 (by omega)
                  rw [List.getElem_range, List.getElem?_eq_getElem (by omega)] at h1
                  generalize rest[0]'(by omega) = y at h1
                  have hl00 : len + 0 = 0 := by omega
                  rw [hl00] at h1
                  exact spot0 _ h1
              obtain ⟨ab, ao, asp⟩ := a
              by_cases hc0 : cap = 0
              · have hl0 : len = 0 := by omega
                subst hc0; subst hl0
                exact cellsOk_one (.nil _) (.sl _ _ (Nat.zero_le _) (fun _ h => by cases h) (fun i j hi => by simp at hi))
              have hsp := hsp (by omega)
              dsimp only at hsp
              subst hsp
              -- one element
              have elem : ∀ (i : Nat), ∃ p : List Value × List PV, i < len → (∀ j, j < l.length → w.cell? ⟨ab, ao + i * l.length + j, none⟩ = p.1[j]?) ∧ p.1.length = l.length ∧ p.2.length = l.length ∧
                  ∀ j, j < l.length → Rep D w (p.1.getD j undef) (p.2.getD j default) ∧ Fit N (l.getD j .bool) (p.2.getD j default) := by
                intro i
                by_cases hi : i < len
                · have hy := e2 i (by omega)
                  rw [List.getElem_range, List.getElem?_eq_getElem (by omega)] at hy
                  have hyN : B elems[i].1 ≤ N := by
                    have : B elems[i].1 ≤ BA (elems.map fun x => x.1) := bulk_mem hB (List.mem_map.2 ⟨elems[i], List.getElem_mem (by omega), rfl⟩)
                    omega
                  cases hcs : w.cells? base ((⟨ab, ao, none⟩ : Addr).add (i * P.cellsOf e)) (P.cellsOf e) with
                  | none => rw [hcs] at hy; cases hy
                  | some csi =>
                    rw [hcs] at hy
                    simp only [Option.bind_some] at hy
                    obtain ⟨c1, c2⟩ := cells_some hcs
                    obtain ⟨o1, pvs, o2, o3⟩ := ih f e csi _ _ l hy hl hyN
                    refine ⟨(csi, pvs), fun _ => ⟨fun j hj => ?_, o1, o2, o3⟩⟩
                    have := c2 j (by omega)
                    rw [← this, Addr.add_mk, Addr.add_mk, hll]
                · exact ⟨([], []), fun h => absurd h hi⟩
              obtain ⟨F, hF⟩ := Classical.axiomOfChoice elem
              let els : List (List PV) := (List.range len).map fun i => (F i).2
              have hel : els.length = len := by simp [els]
              have hget : ∀ i, i < len → els.getD i [] = (F i).2 := fun i hi => by
                simp [els, List.getD_eq_getElem?_getD, hi]
              have hall : ∀ q ∈ els, q.length = l.length := by
                intro q hq
                simp only [els, List.mem_map, List.mem_range] at hq
                obtain ⟨i, hi, rfl⟩ := hq
                exact (hF i hi).2.2.1
              refine cellsOk_one (x := .sl els) ?_ (.sl _ _ (by omega) hall (fun i j hi hj => by
                rw [hel] at hi
                rw [hget i hi]
                exact ((hF i hi).2.2.2 j hj).2))
              have := Rep.sl (D := D) (w := w) ab ao cap l.length els (fun i j => (F i).1.getD j undef) (by omega) hall (fun i j hi hj => by
                rw [hel] at hi
                have hc := (hF i hi).1 j hj
                have hlen := (hF i hi).2.1
                have e3 : (F i).1[j]? = some ((F i).1.getD j undef) := by
                  rw [List.getD_eq_getElem?_getD, List.getElem?_eq_getElem (by omega)]; rfl
                rw [e3] at hc
                exact ⟨hc, hD _ _ _ hc⟩) (fun i j hi hj => by
                rw [hel] at hi
                rw [hget i hi]
                exact ((hF i hi).2.2.2 j hj).1)
              rwa [hel] at this
          · cases hs
        · cases hs
      · rename_i fs hu
        split at hs
        · rename_i l hl
          split at hs
          · rename_i hc
            simp only [Option.some.injEq] at hs; subst hs
            obtain ⟨hcl, xs, hx, hd'⟩ := trod_struct hu h
            dsimp only at hd'
            subst hd'
            rw [hB.agg] at hN
            have := cellsOk_fields (r := shOf P f) (cs := cs) hB (fun t cs d ps sh h1 h2 h3 => ih f t cs d ps sh h1 h2 h3) fs.toList 0 l xs hl (by omega) hx (by omega)
            rw [List.drop_zero, hc, ← hcl, List.take_length] at this
            exact this
          · cases hs
        · cases hs
      · rename_i n e hu
        split at hs
        · rename_i l hl
          split at hs
          · rename_i hc
            obtain ⟨hll, hnl⟩ := hc
            simp only [Option.some.injEq] at hs; subst hs
            obtain ⟨hcl, xs, hx, hd'⟩ := trod_array hu h
            dsimp only at hd'
            subst hd'
            rw [hB.agg] at hN
            obtain ⟨x1, x2⟩ := mapM_some hx
            simp only [List.length_range] at x1 x2
            have := cellsOk_row (w := w) (N := N) (D := D) (cs := cs) (sh := l) n 0 (by rw [Nat.zero_add]; omega) (fun k _ hk => by
              have h1 := x2 k (by omega)
              rw [List.getElem_range, List.getElem?_eq_getElem (by omega)] at h1
              rw [← hll] at h1
              exact ih f e _ _ _ l h1 hl (by
                have : B xs[k].1 ≤ BA (xs.map fun x => x.1) := bulk_mem hB (List.mem_map.2 ⟨xs[k], List.getElem_mem (by omega), rfl⟩)
                exact Nat.le_trans this (by omega)))
            rw [Nat.zero_mul, List.drop_zero, hnl, ← hcl, List.take_length] at this
            exact this
          · cases hs
        · cases hs
      · cases hs
end
end Go.Sk
