/- Texts W0 WMx W13p A5 W5 A6 W6 A7 A18 W8 A19a LB LE LD LI LJ L3, joined. -/
import Derived.Test.YthpfcfacofakoaaGreatSkT
import Derived.Test.YthpfcfacofakoaaGreatSkTp
import Derived.Test.YthpfcfacofakoaaGreatSkRg
import Derived.Test.YthpfcfacofakoaaGreatSkBr
import Derived.Test.YthpfcfacofakoaaGreatRows
import Derived.WalkKit
import Derived.ProofKit
import Derived.OpenShut
import Derived.JoinedCond
set_option linter.unusedSimpArgs false
set_option linter.unusedVariables false
set_option linter.unusedSectionVars false
-- W0
section
namespace Go.Sk
open Go Go.Proofs

structure Span where (a b : Nat)
  deriving DecidableEq, Inhabited
def Span.pv (s : Span) : List PV := [.int .u64 s.a, .int .u64 s.b]
def Span.av (s : Span) : AV := .agg (s.pv.map .p)
def lvP (l : List Span) : PV := .sl (l.map Span.pv)
def lvE (l : List Span) : List PV := [lvP l]
structure Hist where (k g : Int) (ls : List (List Span))
  deriving DecidableEq, Inhabited
def Hist.cs (h : Hist) : List PV := [.int .i64 h.k, .int .i64 h.g, .sl (h.ls.map lvE)]
def Hist.av (h : Hist) : AV := .agg (h.cs.map .p)
structure Seed where (a b : Nat)
  deriving DecidableEq, Inhabited
def Seed.pv (s : Seed) : List PV := [.int .u64 s.a, .int .u64 s.b]
def Seed.av (s : Seed) : AV := .agg (s.pv.map .p)
structure Event where (t k w : Nat)
  deriving DecidableEq, Inhabited
def Event.pv (e : Event) : List PV := [.int .u64 e.t, .int .u64 e.k, .int .u64 e.w]
def Event.av (e : Event) : AV := .agg (e.pv.map .p)
def evsP (l : List Event) : PV := .sl (l.map Event.pv)
structure Item where (k n : Nat)
  deriving DecidableEq, Inhabited
def Item.pv (e : Item) : List PV := [.int .u64 e.k, .int .u64 e.n]
def Item.av (e : Item) : AV := .agg (e.pv.map .p)
def itP (l : List Item) : PV := .sl (l.map Item.pv)

attribute [go_sem] Span.pv Span.av Hist.av Hist.cs Seed.av Seed.pv Event.pv Event.av Item.pv Item.av
abbrev i64 (n : Int) : AV := .p (.int .i64 n)
abbrev u64 (n : Nat) : AV := .p (.int .u64 (n : Int))
abbrev bl (b : Bool) : AV := .p (.bool b)

theorem getD_map' {α β : Type} (f : α → β) (l : List α) (i : Nat) (d : β) (h : i < l.length) : (l.map f).getD i d = f l[i] := by
  simp [List.getD_eq_getElem?_getD, h]

theorem done {S S1 : Store} {v : AV} {R : AV → Store → Prop} (h : Sub S S1) (hr : R v S) : ∃ S', Sub S' S1 ∧ R v S' := ⟨S, h, hr⟩

/-- A function that answers, whatever is owned, and leaves it as it is. -/
theorem Pure.useA {P : Program} {f : FuncId} {args a2 : List AV} {r : AV} {S : Store} {R : AV → Store → Prop} (h : Pure P f args r) (hr : R r S) : CallR P f args S R ∨ CallR P f a2 S R := Or.inl (h.use hr)
theorem CallR.useA {P : Program} {f : FuncId} {args a2 : List AV} {S : Store} {R K : AV → Store → Prop} (h : CallR P f args S R) (hr : ∀ x S', R x S' → K x S') : CallR P f args S K ∨ CallR P f a2 S K := Or.inl (h.mono hr)
theorem CallR.useB {P : Program} {f : FuncId} {args a2 : List AV} {S : Store} {R K : AV → Store → Prop} (h : CallR P f args S R) (hr : ∀ x S', R x S' → K x S') : CallR P f a2 S K ∨ CallR P f args S K := Or.inr (h.mono hr)

def KeepAll (S S' : Store) : Prop := ∀ k x, S k = some x → S' k = some x
/-- A function value that answers so, wherever its own blocks are kept. -/
def PureF (P : Program) (S : Store) (f : AV) (args : List AV) (r : AV) : Prop := ∀ S', KeepAll S S' → FunR P f args S' (fun x S'' => x = r ∧ S'' = S')
theorem PureF.use {P : Program} {S S' : Store} {f : AV} {args : List AV} {r : AV} {R : AV → Store → Prop} (h : PureF P S f args r) (hs : KeepAll S S') (hr : R r S') : FunR P f args S' R := by
  have h := h S' hs
  unfold FunR at h ⊢
  split at h
  · exact h.mono (by rintro _ _ ⟨rfl, rfl⟩; exact hr)
  · intro D w vs hR hv
    obtain ⟨fn, tm, asg, bo, hy, hg⟩ := h D w vs hR hv
    exact ⟨fn, tm, asg, bo, hy, hg.mono (by rintro _ _ ⟨x, S1, D', ⟨rfl, rfl⟩, h2⟩; exact ⟨_, _, D', hr, h2⟩)⟩
  · exact h.elim
theorem KeepAll.refl (S : Store) : KeepAll S S := fun _ _ h => h
theorem KeepAll.set {S S' : Store} (h : KeepAll S S') {k : Key} (hk : S k = none) (x : Blk) : KeepAll S (S'.set k x) := by
  intro q y hq
  rw [Store.set_other _ _ (by rintro rfl; rw [hk] at hq; cases hq)]; exact h q y hq
theorem Sub.setF {S S' : Store} {b : Nat} {x : Blk} (h : Sub S S') (hb : Fresh S b) : Sub S (S'.set (.r b) x) := h.set hb x
theorem Sub.setV {S S' : Store} {b : Nat} {x : Blk} (h : Sub S S') (hb : FreshV S b) : Sub S (S'.set (.v b) x) := h.set hb x
theorem KeepAll.setF {S S' : Store} {b : Nat} {x : Blk} (h : KeepAll S S') (hb : Fresh S b) : KeepAll S (S'.set (.r b) x) := h.set hb x
theorem KeepAll.setV {S S' : Store} {b : Nat} {x : Blk} (h : KeepAll S S') (hb : FreshV S b) : KeepAll S (S'.set (.v b) x) := h.set hb x
theorem PureF.useA {P : Program} {S S' : Store} {f : AV} {args a2 : List AV} {r : AV} {R : AV → Store → Prop} (h : PureF P S f args r) (ha : a2.map reif = args) (hs : KeepAll S S') (hr : R r S') : FunA P f a2 S' R :=
  Or.inl (by rw [ha]; exact h.use hs hr)
theorem FunR.of_call {P : Program} {g : FuncId} {first caps args : List AV} {S : Store} {R : AV → Store → Prop} (h : CallR P g (first ++ args ++ caps) S R) : FunR P (.fn (.func g) first caps) args S R := h
theorem KeepAll.get {S S' : Store} {k : Key} {x : Blk} (h : KeepAll S S') (hk : S k = some x) : S' k = some x := h _ _ hk
/-- A function value that is called. -/
theorem CallR.useF {P : Program} {g : FuncId} {first caps args a2 : List AV} {S : Store} {R K : AV → Store → Prop} (h : CallR P g (first ++ args ++ caps) S R) (ha : a2.map reif = args) (hr : ∀ x S', R x S' → K x S') : FunA P (.fn (.func g) first caps) a2 S K := Or.inl (by rw [ha]; exact FunR.of_call (h.mono hr))
theorem Pure.useF {P : Program} {g : FuncId} {first caps args a2 : List AV} {S : Store} {r : AV} {K : AV → Store → Prop} (h : Pure P g (first ++ args ++ caps) r) (ha : a2.map reif = args) (hr : K r S) : FunA P (.fn (.func g) first caps) a2 S K := (h S).useF ha (by rintro _ _ ⟨rfl, rfl⟩; exact hr)
theorem YieldR.mono {P : Program} {l : Nat} {args : List AV} {S : Store} {R K : AV → Store → Prop} (h : YieldR P l args S R) (hr : ∀ x S', R x S' → K x S') : YieldR P l args S K := by
  intro D w vs hR hv
  obtain ⟨fn, tm, asg, bo, hy, hg⟩ := h D w vs hR hv
  exact ⟨fn, tm, asg, bo, hy, hg.mono (by rintro _ _ ⟨x, S1, D', h1, h2⟩; exact ⟨_, _, D', hr _ _ h1, h2⟩)⟩
/-- A round of whoever ranges over this. -/
theorem YieldR.useA {P : Program} {l : Nat} {args a2 : List AV} {S : Store} {R K : AV → Store → Prop} (h : YieldR P l args S R) (ha : a2.map reif = args) (hr : ∀ x S', R x S' → K x S') : FunA P (.fn (.yield l) [] []) a2 S K := Or.inl (by rw [ha]; exact h.mono hr)
theorem Pure.draw {P : Program} {f : FuncId} {args : List AV} {r : AV} {S : Store} (h : Pure P f args r) : ∀ S1, KeepR S S1 → CallR P f args S1 (pureR r S1) := fun S1 _ => h S1
/-- A block that was written again, behind one that is new. -/
theorem Sub.upd {S : Store} {k : Key} {b : Nat} {x x' c : Blk} (hb : Fresh (S.set k x) b) : Sub (S.set k x') (((S.set k x).set (.r b) c).set k x') := by
  intro q y hq
  by_cases e : q = k
  · subst e; rw [Store.set_same] at hq ⊢; exact hq
  · rw [Store.set_other _ _ e] at hq ⊢
    have hn : q ≠ .r b := by
      rintro rfl
      have : (S.set k x) (.r b) = none := hb
      rw [Store.set_other _ _ e] at this; rw [hq] at this; cases this
    rw [Store.set_other _ _ hn, Store.set_other _ _ e]; exact hq
theorem Sub.both {S T : Store} (h : Sub S T) (k : Key) (x : Blk) : Sub (S.set k x) (T.set k x) := by
  intro q y hq
  by_cases e : q = k
  · subst e; rw [Store.set_same] at hq ⊢; exact hq
  · rw [Store.set_other _ _ e] at hq ⊢; exact h q y hq
/-- What is data is looked on as data. -/
theorem AWP.data (t : Nat) {P : Program} {ro : Option Nat} {c : Code} {Q : Ex → St → Prop} {ρ : Env} {S : Store} {n : Nat} {df : List Nat}
    (h : AWP P ro c Q ⟨(ρ.put t (reif1 (ρ.get t))).get, S, n, df⟩) : AWP P ro c Q ⟨ρ.get, S, n, df⟩ := by
  intro D w a hs
  refine h D w a ⟨hs.rel, fun u => ?_, hs.size, hs.defers, hs.df, hs.nodup⟩
  show RepA D w _ ((ρ.put t (reif1 (ρ.get t))).get u)
  rw [Env.get_put]
  split
  · rename_i e; subst e; exact reif1_rep (hs.slots u)
  · exact hs.slots u
/-- Back to the loop's head. -/
theorem AWPH.back {P : Program} {ro : Option Nat} {c : Code} {Q : Ex → St → Prop} {σ : Nat → AV} {ρ : Env} {S' S : Store} {n : Nat} {df : List Nat} (h : AWPH P ro c Q ⟨ρ.get, S', n, df⟩)
    (h2 : Sub S' S) (h3 : ∀ r ∈ df, S' (.r r) = some (.raw (.deferred (some [])) noKn)) (h1 : subEnv ρ σ) : AWPH P ro c Q ⟨σ, S, n, df⟩ :=
  h.of_le (le_of h1 h2 rfl rfl h3)
end Go.Sk
end

-- WMx
section
namespace Go.Sk
open Go Go.Proofs

theorem mixed : Tryz.prog.follows .mixedOrders = true := by kernel_rfl
def nE (n : Nat) : List PV := [.int .u64 (n : Int)]
end Go.Sk
end

-- W13p
section
namespace Go.Sk

structure Event.Ok (e : Event) : Prop where
  t : e.t < 18446744073709551616
  k : e.k < 18446744073709551616
  w : e.w < 18446744073709551616
noncomputable def withinV (tick span : Nat) (e : Event) : Bool := decide (e.t ≤ tick) && (decide (span > tick) || decide (e.t > sub64 tick span))

noncomputable def sumV (p : Event → Bool) (q : Event → Nat) (n : Nat) (l : List Event) : Nat := l.foldl (fun n e => if p e = true then m64 (n + q e) else n) n
theorem sumV_snoc (p : Event → Bool) (q : Event → Nat) (n : Nat) (l : List Event) (i : Nat) (hi : i < l.length) : sumV p q n (l.take (i + 1)) = if p l[i] = true then m64 (sumV p q n (l.take i) + q l[i]) else sumV p q n (l.take i) := by
  unfold sumV; rw [List.take_succ_eq_append_getElem hi, List.foldl_append]; rfl

noncomputable def spanV (l : List Event) (tick span : Nat) : Nat := sumV (withinV tick span) Event.w 0 l

end Go.Sk
end

-- A5
section
namespace Go.Sk

def mostN (k i : Nat) : Nat := if i = 0 then k + 1 else (k + 1) / 2 + 1
theorem mostN_pos (k i : Nat) : 1 ≤ mostN k i := by unfold mostN; split <;> omega
theorem mostN_le (k i : Nat) : mostN k i ≤ k + 2 := by unfold mostN; split <;> omega

/-- Two by two. -/
def pairUp : List Span → List Span
  | a :: b :: r => ⟨a.a, b.b⟩ :: pairUp r
  | _ => []
/-- All that comes to a level, in turn. -/
def lineV (l add : List Span) (many tick : Nat) : List Span := l ++ add ++ List.replicate many ⟨tick, tick⟩
def pairsN (n most : Nat) : Nat := (n - most + 1) / 2
/-- What stays; what goes, one by one; and how many more of the tick go. -/
def stayV (l : List Span) (most : Nat) (add : List Span) (many tick : Nat) : List Span := (lineV l add many tick).drop (2 * pairsN (l.length + add.length + many) most)
def outsN (n most many : Nat) : Nat := min (pairsN (n + many) most) ((n + 1) / 2)
def outsV (l : List Span) (most : Nat) (add : List Span) (many tick : Nat) : List Span := (pairUp (lineV l add many tick)).take (outsN (l.length + add.length) most many)
def leftV (l : List Span) (most : Nat) (add : List Span) (many : Nat) : Nat := pairsN (l.length + add.length + many) most - outsN (l.length + add.length) most many

theorem pairUp_length (l : List Span) : (pairUp l).length = l.length / 2 := by
  induction l using pairUp.induct with
  | case1 a b r ih => simp only [pairUp, List.length_cons, ih]; omega
  | case2 l h =>
    match l, h with
    | [], _ => rfl
    | [x], _ => simp [pairUp]
    | x :: y :: r, h => exact absurd rfl (h x y r)
theorem pairUp_get (l : List Span) : ∀ (i : Nat) (h : i < (pairUp l).length) (h1 : 2 * i < l.length) (h2 : 2 * i + 1 < l.length), (pairUp l)[i] = ⟨l[2 * i].a, l[2 * i + 1].b⟩ := by
  induction l using pairUp.induct with
  | case1 a b r ih =>
    intro i h h1 h2
    cases i with
    | zero => rfl
    | succ i =>
      simp only [pairUp, List.length_cons, Nat.add_lt_add_iff_right] at h h1 h2
      simp only [pairUp, List.getElem_cons_succ]
      rw [ih i h (by omega) (by omega)]
      have e1 : 2 * (i + 1) = 2 * i + 1 + 1 := by omega
      simp only [e1, List.getElem_cons_succ]
  | case2 l h =>
    intro i hi
    match l, h with
    | [], _ => simp [pairUp] at hi
    | [x], _ => simp [pairUp] at hi
    | x :: y :: r, h => exact absurd rfl (h x y r)
theorem lineV_length (l add : List Span) (many tick : Nat) : (lineV l add many tick).length = l.length + add.length + many := by simp [lineV]; omega
theorem lineV_lt {l add : List Span} {many tick i : Nat} (h : i < l.length + add.length) : (lineV l add many tick)[i]'(by rw [lineV_length]; omega) = (l ++ add)[i]'(by simp; omega) := by
  unfold lineV
  rw [List.getElem_append_left]
theorem lineV_ge {l add : List Span} {many tick i : Nat} (h : l.length + add.length ≤ i) (h2 : i < (lineV l add many tick).length) : (lineV l add many tick)[i] = ⟨tick, tick⟩ := by
  have h3 : i < (l ++ add ++ List.replicate many (⟨tick, tick⟩ : Span)).length := h2
  show (l ++ add ++ List.replicate many (⟨tick, tick⟩ : Span))[i]'h3 = _
  rw [List.getElem_append_right (by simpa using h)]
  simp
/-- The i-th that goes. -/
theorem out_get {l add : List Span} {many tick i : Nat} (h : 2 * i < l.length + add.length) (h2 : 2 * i + 1 < l.length + add.length + many) (h3 : i < (pairUp (lineV l add many tick)).length) :
    (pairUp (lineV l add many tick))[i] = ⟨((l ++ add)[2 * i]'(by simp; omega)).a, if h : 2 * i + 1 < l.length + add.length then ((l ++ add)[2 * i + 1]'(by simp; omega)).b else tick⟩ := by
  rw [pairUp_get _ _ h3 (by rw [lineV_length]; omega) (by rw [lineV_length]; omega)]
  rw [lineV_lt h]
  split
  · rename_i h4; rw [lineV_lt h4]
  · rename_i h4; rw [lineV_ge (by omega)]

theorem drop_head {l : List Span} {m i : Nat} {s : Span} (h : i < l.length) : (l.drop i ++ List.replicate m s).getD 0 default = l[i] := by
  rw [List.drop_eq_getElem_cons h]; rfl
theorem drop_head2 {l : List Span} {m i : Nat} {s : Span} (h : l.length ≤ i) (hm : 0 < m) : (l.drop i ++ List.replicate m s).getD 0 default = s := by
  rw [List.drop_of_length_le h]
  obtain ⟨k, rfl⟩ : ∃ k, m = k + 1 := ⟨m - 1, by omega⟩
  rfl
/-- What the first loop leaves. -/
theorem left_eq {n most many q : Nat} (hm : 1 ≤ most) (hq : outsN n most many = q) :
    ((n - 2 * q) + (many - (2 * q - n)) - most + 1) / 2 = pairsN (n + many) most - q ∧ 2 * (pairsN (n + many) most - q) ≤ many - (2 * q - n) ∧ (0 < (n - 2 * q) + (many - (2 * q - n)) - most → n - 2 * q = 0) := by
  unfold outsN pairsN at *; omega
theorem app_getD {l : List Span} {m i : Nat} {s : Span} (h : i < l.length + m) : (l.drop i ++ List.replicate (m - (i - l.length)) s).getD 0 default = (l ++ List.replicate m s)[i]'(by simpa using h) := by
  by_cases hl : i < l.length
  · rw [drop_head hl, List.getElem_append_left hl]
  · rw [drop_head2 (by omega) (by omega), List.getElem_append_right (by omega)]
    simp
/-- What the j-th round finds. -/
theorem two_next {l : List Span} {many j n most : Nat} (hn : l.length = n) (hm : 1 ≤ most) (hj : j < outsN n most many) :
    2 * j < n ∧ most < n + many - 2 * j ∧ 2 * j + 1 < n + many ∧ 2 * j - n = 0 ∧ (2 * (j + 1) - n = 1 - (n - (2 * j + 1)) ) := by
  unfold outsN pairsN at hj
  omega
theorem stay_eq (l add : List Span) (many tick most : Nat) (hm : 1 ≤ most) :
    stayV l most add many tick = (l ++ add).drop (2 * outsN (l.length + add.length) most many) ++ List.replicate (many - (2 * outsN (l.length + add.length) most many - (l.length + add.length)) - 2 * leftV l most add many) ⟨tick, tick⟩ := by
  unfold stayV lineV leftV
  rw [List.drop_append, List.drop_replicate]
  simp only [List.length_append]
  have h1 : pairsN (l.length + add.length + many) most ≤ outsN (l.length + add.length) most many ∨ outsN (l.length + add.length) most many = (l.length + add.length + 1) / 2 := by unfold outsN; omega
  have h2 : outsN (l.length + add.length) most many ≤ pairsN (l.length + add.length + many) most := by unfold outsN; omega
  rcases h1 with h1 | h1
  · have e : pairsN (l.length + add.length + many) most = outsN (l.length + add.length) most many := by omega
    rw [e]; congr 2; omega
  · rw [List.drop_of_length_le (i := 2 * pairsN (l.length + add.length + many) most) (by simp; omega), List.drop_of_length_le (i := 2 * outsN (l.length + add.length) most many) (by simp; omega)]
    congr 2; omega
theorem stay_len (l add : List Span) (many tick most : Nat) : (stayV l most add many tick).length = l.length + add.length + many - 2 * pairsN (l.length + add.length + many) most := by
  unfold stayV; rw [List.length_drop, lineV_length]
theorem stay_le (l add : List Span) (many tick most : Nat) (hm : 1 ≤ most) : (stayV l most add many tick).length ≤ most := by
  rw [stay_len]; unfold pairsN; omega
theorem outs_len (l add : List Span) (many tick most : Nat) (hm : 1 ≤ most) : (outsV l most add many tick).length = outsN (l.length + add.length) most many := by
  unfold outsV; rw [List.length_take, pairUp_length, lineV_length]; unfold outsN pairsN; omega
theorem outs_snoc (l add : List Span) (many tick most j : Nat) (hm : 1 ≤ most) (hj : j < outsN (l.length + add.length) most many) :
    (pairUp (lineV l add many tick)).take (j + 1) = (pairUp (lineV l add many tick)).take j ++ [⟨((l ++ add)[2 * j]'(by simp; have := two_next (l := l ++ add) (by simp) hm hj; omega)).a,
      if h : 2 * j + 1 < l.length + add.length then ((l ++ add)[2 * j + 1]'(by simp; omega)).b else tick⟩] := by
  obtain ⟨h1, h2, h3, _, _⟩ := two_next (l := l ++ add) (by simp) hm hj
  have hlt : j < (pairUp (lineV l add many tick)).length := by rw [pairUp_length, lineV_length]; omega
  rw [List.take_succ_eq_append_getElem hlt, out_get h1 h3 hlt]
end Go.Sk
end

-- W5
section
namespace Go.Sk
open Go Go.Proofs

theorem level_Most (k i : Nat) (hk : k < 1099511627776) : Pure Tryz.prog 204 [i64 k, i64 i] (i64 (mostN k i : Nat)) := fun S => by
  refine callR_of Tryz.func204 rfl rfl (xc_ok (bitB 275) _ _ _ ?_)
  have h0 : ¬ (0 : Int) > k := by omega
  simp only [go_sem]
  have e1 : wi ((k : Int) + 1) = (k : Int) + 1 := wi_id (by omega) (by omega)
  have e2 : ((k : Int) + 1).tdiv 2 = (((k + 1) / 2 : Nat) : Int) := by rw [Int.tdiv_eq_ediv_of_nonneg (by omega)]; omega
  have e3 : wi (((k + 1) / 2 : Nat) : Int) = (((k + 1) / 2 : Nat) : Int) := wi_id (by omega) (by omega)
  have e4 : wi ((((k + 1) / 2 : Nat) : Int) + 1) = (((k + 1) / 2 + 1 : Nat) : Int) := by rw [wi_id (by omega) (by omega)]; omega
  by_cases hi : i = 0
  · subst hi
    simp only [go_sem, h0, if_false, e1]
    (refine ⟨S, by (repeat (first | exact Sub.refl _ | refine Sub.setF ?_ (by first | assumption | simp only [*]) | refine Sub.setV ?_ (by first | assumption | simp only [*]))), ?_⟩); simp [mostN]
  · have e0 : (i == 0) = false := by simpa using hi
    simp only [go_sem, h0, if_false, e0, e1, e2, e3, e4]
    refine ⟨by decide, ?_⟩
    (refine ⟨S, by (repeat (first | exact Sub.refl _ | refine Sub.setF ?_ (by first | assumption | simp only [*]) | refine Sub.setV ?_ (by first | assumption | simp only [*]))), ?_⟩); simp [mostN, hi]

theorem ref05_Most (k i : Nat) (hk : k < 1099511627776) : Pure Tryz.prog 157 [i64 k, i64 i] (i64 (mostN k i : Nat)) := fun S => by
  refine callR_of Tryz.func157 rfl rfl (xc_ok (bitB 275) _ _ _ ?_)
  have h0 : ¬ (0 : Int) > k := by omega
  simp only [go_sem]
  have e1 : wi ((k : Int) + 1) = (k : Int) + 1 := wi_id (by omega) (by omega)
  have e2 : (k : Int).tdiv 2 = ((k / 2 : Nat) : Int) := by rw [Int.tdiv_eq_ediv_of_nonneg (by omega)]; omega
  have e2' : (k : Int).tmod 2 = ((k % 2 : Nat) : Int) := by rw [Int.tmod_eq_emod_of_nonneg (by omega)]; omega
  have e3 : wi ((k / 2 : Nat) : Int) = ((k / 2 : Nat) : Int) := wi_id (by omega) (by omega)
  have e4 : wi (((k / 2 : Nat) : Int) + ((k % 2 : Nat) : Int)) = (((k / 2 + k % 2 : Nat) : Nat) : Int) := by rw [wi_id (by omega) (by omega)]; omega
  have e5 : wi ((((k / 2 + k % 2 : Nat)) : Int) + 1) = (((k + 1) / 2 + 1 : Nat) : Int) := by rw [wi_id (by omega) (by omega)]; omega
  by_cases hi : i = 0
  · subst hi
    simp only [go_sem, h0, if_false, e1]
    (refine ⟨S, by (repeat (first | exact Sub.refl _ | refine Sub.setF ?_ (by first | assumption | simp only [*]) | refine Sub.setV ?_ (by first | assumption | simp only [*]))), ?_⟩); simp [mostN]
  · have e0 : (i == 0) = false := by simpa using hi
    simp only [go_sem, h0, if_false, e0, e2, e2', e3, e4, e5]
    refine ⟨by decide, by decide, ?_⟩
    (refine ⟨S, by (repeat (first | exact Sub.refl _ | refine Sub.setF ?_ (by first | assumption | simp only [*]) | refine Sub.setV ?_ (by first | assumption | simp only [*]))), ?_⟩); simp [mostN, hi]

theorem bounded_int (n m : Int) : Pure Tryz.prog 226 [i64 n, i64 m] (i64 (if n < m then m else n)) := fun S => by
  refine callR_of Tryz.func226 rfl rfl (xc_ok (bitB 147) _ _ _ ?_)
  simp only [go_sem]
  (first | refine dec_split (fun h => ?_) (fun h => ?_) | refine gdd_split (fun h => ?_) (fun h => ?_) | refine bool_split (fun h => ?_) (fun h => ?_) | refine gd_split (fun h => ?_) (fun h => ?_)) <;> simp only [go_sem] <;> (refine ⟨S, by (repeat (first | exact Sub.refl _ | refine Sub.setF ?_ (by first | assumption | simp only [*]) | refine Sub.setV ?_ (by first | assumption | simp only [*]))), ?_⟩) <;> simp [h]
theorem bounded_u64 (n m : Nat) : Pure Tryz.prog 228 [u64 n, u64 m] (u64 (if n < m then m else n)) := fun S => by
  refine callR_of Tryz.func228 rfl rfl (xc_ok (bitB 147) _ _ _ ?_)
  simp only [go_sem]
  (first | refine dec_split (fun h => ?_) (fun h => ?_) | refine gdd_split (fun h => ?_) (fun h => ?_) | refine bool_split (fun h => ?_) (fun h => ?_) | refine gd_split (fun h => ?_) (fun h => ?_)) <;> simp only [go_sem] <;> (refine ⟨S, by (repeat (first | exact Sub.refl _ | refine Sub.setF ?_ (by first | assumption | simp only [*]) | refine Sub.setV ?_ (by first | assumption | simp only [*]))), ?_⟩) <;> simp [h]
theorem level_both (s t : Span) : Pure Tryz.prog 231 [s.av, t.av] (Span.mk s.a t.b).av := fun S => by
  refine callR_of Tryz.func231 rfl rfl (xc_ok (bitB 31) _ _ _ ?_)
  simp only [go_sem]
  refine alloc_intro fun b hb => ?_
  simp only [go_sem]
  refine alloc_intro fun c hc => ?_
  simp only [fresh_set] at hc
  simp only [go_sem, hc]
  refine alloc_intro fun d hd => ?_
  simp only [fresh_set] at hd
  simp only [go_sem, hc, hd]
  (refine ⟨S, by (repeat (first | exact Sub.refl _ | refine Sub.setF ?_ (by first | assumption | simp only [*]) | refine Sub.setV ?_ (by first | assumption | simp only [*]))), ?_⟩); simp [Span.av, Span.pv]

theorem span_len {l : List Span} : ∀ el ∈ l.map Span.pv, el.length = 2 := by
  intro el h; obtain ⟨x, _, rfl⟩ := List.mem_map.1 h; rfl

theorem line_long {S : Store} {b : Nat} (l : List Span) (many tick : Nat) (hb : S (.r b) = some (.cells [.p (lvP l), u64 many, u64 tick])) (hn : l.length + many < 18446744073709551616) :
    CallR Tryz.prog 229 [.sp b 0] S (fun r S' => r = u64 (l.length + many) ∧ S' = S) := by
  refine callR_of Tryz.func229 rfl rfl (xc_ok (bitB 5) _ _ _ ?_)
  simp only [go_sem]
  refine AWP.draw2 (bitB 5) mixed (by kernel_rfl) (fun i => bl false) ?_
  simp only [go_sem, hb, lvP]
  have e : m64 (m64 l.length + many) = l.length + many := by rw [m64_id (show l.length < 18446744073709551616 by omega), m64_id hn]
  (refine ⟨S, by (repeat (first | exact Sub.refl _ | refine Sub.setF ?_ (by first | assumption | simp only [*]) | refine Sub.setV ?_ (by first | assumption | simp only [*]))), ?_⟩); simp [e]

theorem line_next {S : Store} {b : Nat} (l : List Span) (many tick : Nat) (hb : S (.r b) = some (.cells [.p (lvP l), u64 many, u64 tick])) (hn : 0 < l.length + many) (hl : l.length < 4611686018427387904) (hm : many < 18446744073709551616) :
    CallR Tryz.prog 230 [.sp b 0] S (fun r S' => r = (((l ++ List.replicate many (⟨tick, tick⟩ : Span)).getD 0 default).av) ∧ S' = S.set (.r b) (.cells [.p (lvP (l.drop 1)), u64 (many - (1 - l.length) : Nat), u64 tick])) := by
  refine callR_of Tryz.func230 rfl rfl (xc_ok (bitB 525) _ _ _ ?_)
  simp only [go_sem]
  refine alloc_intro fun c hc => ?_
  have n1 := hc.ne hb
  simp only [go_sem, hb, n1]
  cases l with
  | nil =>
    simp only [go_sem, lvP, hb, n1]
    refine AWP.draw2 (bitB 525) mixed (by kernel_rfl) (fun i => bl false) ?_
    simp only [go_sem, hb, n1]
    have e1 : sub64 many 1 = many - 1 := by
      have : 0 < many := by simpa using hn
      rw [sub64_eq]; omega
    have hm0 : 0 < many := by simpa using hn
    obtain ⟨m, rfl⟩ : ∃ m, many = m + 1 := ⟨many - 1, by omega⟩
    refine ⟨S.set (.r b) (.cells [.p (.sl []), u64 (m + 1 - 1 : Nat), u64 tick]), ?_, Or.inl ⟨?_, rfl⟩⟩
    · rw [e1]; (repeat (first | exact Sub.refl _ | refine Sub.both ?_ _ _ | refine Sub.set ?_ (by simp_all [Store.set, Fresh, FreshV]) _))
    · rfl
  | cons s l =>
    simp only [go_sem, lvP, hb, n1]
    refine alloc_intro fun d hd => ?_
    simp only [fresh_set] at hd
    have n2 := hd.2.ne hb
    simp only [go_sem, hb, n1, hd, n2, lvP]
    refine ⟨?_, by omega, by omega, ?_⟩
    · intro el h
      rcases h with rfl | h
      · rfl
      · exact span_len el h
    have e2 : List.take (l.length + 1 - 1) (List.map Span.pv l) = List.map Span.pv l := List.take_of_length_le (by simp)
    rw [e2]
    refine ⟨S.set (.r b) (.cells [.p (lvP l), u64 many, u64 tick]), ?_, by simp [lvP]⟩
    (repeat (first | exact Sub.refl _ | refine Sub.both ?_ _ _ | refine Sub.set ?_ (by simp_all [Store.set, Fresh, FreshV]) _))

theorem push_over {S : Store} {b r : Nat} (l : List Span) (many tick room : Nat) (hb : S (.r b) = some (.cells [.p (lvP l), u64 many, u64 tick])) (hr : S (.r r) = some (.cells [u64 room]))
    (hn : l.length + many < 18446744073709551616) (hroom : room < 18446744073709551616) {q : Nat} (hq : S (.r q) = some (.cells [.sp b 0])) :
    CallR Tryz.prog 227 [.sp q 0, .sp r 0] S (fun x S' => x = u64 (l.length + many - room) ∧ S' = S) := by
  refine callR_of Tryz.func227 rfl rfl (xc_ok (bitB 7) _ _ _ ?_)
  simp only [go_sem]
  refine AWP.draw2 (bitB 7) mixed (by kernel_rfl) (fun i => if i = 1 then u64 (l.length + many) else u64 (if l.length + many < room then room else l.length + many)) ?_
  simp only [go_sem, hb, hr, hq]
  refine ⟨fun S1 hS => line_long l many tick (hS _ _ hb) hn, (bounded_u64 _ _).draw, ?_⟩
  (refine ⟨S, by (repeat (first | exact Sub.refl _ | refine Sub.setF ?_ (by first | assumption | simp only [*]) | refine Sub.setV ?_ (by first | assumption | simp only [*]))), ?_⟩)
  have e : sub64 (if l.length + many < room then room else l.length + many) room = l.length + many - room := by rw [sub64_eq]; split <;> omega
  simp [e]

end Go.Sk
end

-- A6
section
namespace Go.Sk

/-- The last bucket's last tick, of level 0. -/
def lastV (ls : List (List Span)) : Nat × Bool := match ls with
  | [] => (0, false)
  | l :: _ => match l.getLast? with | some s => (s.b, true) | none => (0, false)
/-- All buckets' weight, modulo 2^64. -/
noncomputable def totF (i n : Nat) : List (List Span) → Nat
  | [] => n
  | l :: r => totF (i + 1) (m64 (n + m64 (m64 l.length * 2 ^ min i 64))) r
noncomputable def totV (ls : List (List Span)) : Nat := totF 0 0 ls
theorem totF_snoc (l : List Span) : ∀ (r : List (List Span)) (i n : Nat), totF i n (r ++ [l]) = m64 (totF i n r + m64 (m64 l.length * 2 ^ min (i + r.length) 64)) := by
  intro r
  induction r with
  | nil => intro i n; simp [totF]
  | cons x r ih => intro i n; simp only [List.cons_append, totF, ih, List.length_cons]; rw [show i + 1 + r.length = i + (r.length + 1) from by omega]
theorem totF_take (ls : List (List Span)) (i : Nat) (h : i < ls.length) : totF 0 0 (ls.take (i + 1)) = m64 (totF 0 0 (ls.take i) + m64 (m64 (ls[i]).length * 2 ^ min i 64)) := by
  rw [List.take_succ_eq_append_getElem h, totF_snoc, List.length_take, Nat.min_eq_left (Nat.le_of_lt h), Nat.zero_add]
/-- The weight. -/
def totN : Nat → List (List Span) → Nat
  | _, [] => 0
  | i, l :: r => l.length * 2 ^ i + totN (i + 1) r
theorem totF_eq (ls : List (List Span)) : ∀ (i n : Nat), n + totN i ls < 18446744073709551616 → totF i n ls = n + totN i ls := by
  induction ls with
  | nil => intro i n _; simp [totF, totN]
  | cons l r ih =>
    intro i n h
    simp only [totF, totN] at h ⊢
    have hb : m64 (m64 l.length * 2 ^ min i 64) = l.length * 2 ^ i := by
      by_cases hl : l = []
      · subst hl; simp [m64_eq]
      · have h1 : 1 ≤ l.length := by cases l with | nil => exact absurd rfl hl | cons a b => simp
        have h3 : 2 ^ i ≤ l.length * 2 ^ i := by have := Nat.mul_le_mul_right (2 ^ i) h1; omega
        have hi : i < 64 := by
          apply Classical.byContradiction
          intro hc
          have : (2 : Nat) ^ 64 ≤ 2 ^ i := Nat.pow_le_pow_right (by decide) (by omega)
          have e : (2 : Nat) ^ 64 = 18446744073709551616 := by decide
          omega
        have h4 : l.length ≤ l.length * 2 ^ i := Nat.le_mul_of_pos_right _ (Nat.pow_pos (by decide))
        rw [Nat.min_eq_left (by omega), m64_id (show l.length < 18446744073709551616 by omega), m64_id (by omega)]
    rw [hb, m64_id (by omega), ih _ _ (by omega)]; omega
theorem totV_eq {ls : List (List Span)} (h : totN 0 ls < 18446744073709551616) : totV ls = totN 0 ls := by
  unfold totV; rw [totF_eq _ _ _ (by omega), Nat.zero_add]

theorem go_less (l : List Span) (most : Nat) (add : List Span) (many tick : Nat) (hm : 1 ≤ most) : (outsV l most add many tick).length + leftV l most add many = pairsN (l.length + add.length + many) most := by
  rw [outs_len _ _ _ _ _ hm]; unfold leftV outsN; omega
/-- What stays on each level, from level i on. -/
def flowV (k tick : Nat) (i : Nat) (ls : List (List Span)) (come : List Span) (many : Nat) : List (List Span) :=
  match ls with
  | l :: r => stayV l (mostN k i) come many tick :: flowV k tick (i + 1) r (outsV l (mostN k i) come many tick) (leftV l (mostN k i) come many)
  | [] => if _h : come.length + many = 0 then [] else
      stayV [] (mostN k i) come many tick :: flowV k tick (i + 1) [] (outsV [] (mostN k i) come many tick) (leftV [] (mostN k i) come many)
termination_by (ls.length, come.length + many)
decreasing_by
  · exact Prod.Lex.left _ _ (by simp)
  · refine Prod.Lex.right _ ?_
    rw [go_less _ _ _ _ _ (mostN_pos k i)]
    have := mostN_pos k i
    unfold pairsN; simp; omega
theorem flowV_nil {k tick i : Nat} {come : List Span} {many : Nat} (h : come.length + many = 0) : flowV k tick i [] come many = [] := by rw [flowV, dif_pos h]
theorem flowV_cons {k tick i : Nat} {ls : List (List Span)} {come : List Span} {many : Nat} (h : ¬ (ls = [] ∧ come.length + many = 0)) :
    flowV k tick i ls come many = stayV (ls.headD []) (mostN k i) come many tick :: flowV k tick (i + 1) ls.tail (outsV (ls.headD []) (mostN k i) come many tick) (leftV (ls.headD []) (mostN k i) come many) := by
  cases ls with
  | cons l r => rw [flowV]; rfl
  | nil => rw [flowV, dif_neg (by simpa using h)]; rfl
theorem flow_len (k tick : Nat) : ∀ (b i : Nat) (ls : List (List Span)) (come : List Span) (many : Nat), (∀ l ∈ ls, l.length < 2 ^ b) → come.length + many < 2 ^ b → (flowV k tick i ls come many).length ≤ ls.length + b := by
  have nil : ∀ (b i : Nat) (come : List Span) (many : Nat), come.length + many < 2 ^ b → (flowV k tick i [] come many).length ≤ b := by
    intro b
    induction b with
    | zero => intro i come many h; rw [flowV_nil (by simpa using h)]; simp
    | succ b ih =>
      intro i come many h
      by_cases h0 : come.length + many = 0
      · rw [flowV_nil h0]; simp
      · rw [flowV_cons (by simp only [true_and]; exact h0)]
        have hg := go_less [] (mostN k i) come many tick (mostN_pos k i)
        have hm := mostN_pos k i
        simp only [List.headD_nil, List.tail_nil, List.length_cons]
        have := ih (i + 1) (outsV [] (mostN k i) come many tick) (leftV [] (mostN k i) come many) (by rw [hg]; unfold pairsN; rw [Nat.pow_succ] at h; simp; omega)
        omega
  intro b i ls
  induction ls generalizing i with
  | nil => intro come many _ h; have := nil b i come many (by omega); simpa using this
  | cons l r ih =>
    intro come many hl h
    rw [flowV_cons (by simp)]
    have hg := go_less l (mostN k i) come many tick (mostN_pos k i)
    have hm := mostN_pos k i
    simp only [List.headD_cons, List.tail_cons, List.length_cons]
    have h1 := hl l List.mem_cons_self
    have := ih (i + 1) (outsV l (mostN k i) come many tick) (leftV l (mostN k i) come many) (fun x hx => hl x (List.mem_cons_of_mem _ hx)) (by rw [hg]; unfold pairsN; omega)
    omega
theorem outs_small {l add : List Span} {most many tick B : Nat} (hm : 1 ≤ most) (hl : l.length ≤ B) (ha : add.length ≤ B) : (outsV l most add many tick).length ≤ B := by
  rw [outs_len _ _ _ _ _ hm]; unfold outsN; omega
theorem left_small {l add : List Span} {most many B : Nat} (hl : l.length ≤ B) (ha : add.length ≤ B) (h : many ≤ 4611686018427387904 / 4) (hB : B ≤ 1099511627776) : leftV l most add many ≤ 4611686018427387904 / 4 := by
  unfold leftV outsN pairsN; omega

def zeroH : Hist := ⟨0, 0, []⟩
/-- Weight comes. -/
noncomputable def addV (k : Nat) (g : Int) (ls : List (List Span)) (tick w : Nat) : Hist × Int :=
  if w = 0 then (zeroH, 1)
  else if 9223372036854775807 < tick ∨ ((lastV ls).2 = true ∧ tick < (lastV ls).1) then (zeroH, 6)
  else if 4503599627370496 - totN 0 ls < w then (zeroH, 5)
  else (⟨k, g, flowV k tick 0 ls [] w⟩, 0)
end Go.Sk
end

-- W6
section
namespace Go.Sk
open Go Go.Proofs

theorem lvE_mk (l : List Span) : lvE l = [.sl (l.map Span.pv)] := rfl
theorem lvE_len {ls : List (List Span)} : ∀ el ∈ ls.map lvE, el.length = 1 := by
  intro el h; obtain ⟨x, _, rfl⟩ := List.mem_map.1 h; rfl

theorem hist_Last (k g : Int) (ls : List (List Span)) (hl : ∀ l ∈ ls, l.length < 1099511627776) : Pure Tryz.prog 150 [(Hist.mk k g ls).av] (.tuple [u64 (lastV ls).1, bl (lastV ls).2]) := fun S => by
  refine callR_of Tryz.func150 rfl rfl (xc_ok (bitB 65567) _ _ _ ?_)
  simp only [go_sem]
  refine alloc_intro fun b hb => ?_
  simp only [go_sem]
  cases ls with
  | nil =>
    simp only [go_sem, List.map_nil]
    (refine ⟨S, by (repeat (first | exact Sub.refl _ | refine Sub.setF ?_ (by first | assumption | simp only [*]) | refine Sub.setV ?_ (by first | assumption | simp only [*]))), ?_⟩); simp [lastV]
  | cons l ls =>
    cases l with
    | nil =>
      simp only [go_sem, lvE_mk]
      (refine ⟨S, by (repeat (first | exact Sub.refl _ | refine Sub.setF ?_ (by first | assumption | simp only [*]) | refine Sub.setV ?_ (by first | assumption | simp only [*]))), ?_⟩); simp [lastV]
    | cons s l =>
      have hlen := hl _ (List.mem_cons_self ..)
      have e5 : wi ((l.length + 1 : Nat) - 1 : Int) = ((l.length : Nat) : Int) := by
        simp at hlen
        rw [wi_id (by omega) (by omega)]; omega
      have e7 : ([PV.int .u64 s.a, .int .u64 s.b] :: List.map Span.pv l).getD l.length [] = ((s :: l).getLast (by simp)).pv := by
        rw [show [PV.int .u64 s.a, .int .u64 s.b] = s.pv from rfl, ← List.map_cons, getD_map' _ _ _ _ (by simp), List.getLast_eq_getElem]; rfl
      have e8 : lastV ((s :: l) :: ls) = (((s :: l).getLast (by simp)).b, true) := by
        simp only [lastV, List.getLast?_eq_some_getLast (show s :: l ≠ [] by simp)]
      simp only [go_sem, lvE_mk, e5, e7, e8]
      (refine ⟨S, by (repeat (first | exact Sub.refl _ | refine Sub.setF ?_ (by first | assumption | simp only [*]) | refine Sub.setV ?_ (by first | assumption | simp only [*]))), ?_⟩); simp

theorem ref06_Last (k g : Int) (ls : List (List Span)) (hl : ∀ l ∈ ls, l.length < 1099511627776) : Pure Tryz.prog 154 [(Hist.mk k g ls).av] (.tuple [u64 (lastV ls).1, bl (lastV ls).2]) := fun S => by
  refine callR_of Tryz.func154 rfl rfl (xc_ok (bitB 65567) _ _ _ ?_)
  simp only [go_sem]
  refine alloc_intro fun b hb => ?_
  simp only [go_sem]
  cases ls with
  | nil =>
    simp only [go_sem, List.map_nil]
    (refine ⟨S, by (repeat (first | exact Sub.refl _ | refine Sub.setF ?_ (by first | assumption | simp only [*]) | refine Sub.setV ?_ (by first | assumption | simp only [*]))), ?_⟩); simp [lastV]
  | cons l ls =>
    cases l with
    | nil =>
      simp only [go_sem, lvE_mk]
      (refine ⟨S, by (repeat (first | exact Sub.refl _ | refine Sub.setF ?_ (by first | assumption | simp only [*]) | refine Sub.setV ?_ (by first | assumption | simp only [*]))), ?_⟩); simp [lastV]
    | cons s l =>
      have hlen := hl _ (List.mem_cons_self ..)
      have e5 : wi ((l.length + 1 : Nat) - 1 : Int) = ((l.length : Nat) : Int) := by
        simp at hlen
        rw [wi_id (by omega) (by omega)]; omega
      have e7 : ([PV.int .u64 s.a, .int .u64 s.b] :: List.map Span.pv l).getD l.length [] = ((s :: l).getLast (by simp)).pv := by
        rw [show [PV.int .u64 s.a, .int .u64 s.b] = s.pv from rfl, ← List.map_cons, getD_map' _ _ _ _ (by simp), List.getLast_eq_getElem]; rfl
      have e8 : lastV ((s :: l) :: ls) = (((s :: l).getLast (by simp)).b, true) := by
        simp only [lastV, List.getLast?_eq_some_getLast (show s :: l ≠ [] by simp)]
      simp only [go_sem, lvE_mk, e5, e7, e8]
      (refine ⟨S, by (repeat (first | exact Sub.refl _ | refine Sub.setF ?_ (by first | assumption | simp only [*]) | refine Sub.setV ?_ (by first | assumption | simp only [*]))), ?_⟩); simp

theorem hist_Total (k g : Int) (ls : List (List Span)) (hl : ls.length < 1099511627776) : Pure Tryz.prog 73 [(Hist.mk k g ls).av] (u64 (totV ls)) := fun S => by
  refine callR_of Tryz.func73 rfl rfl (xc_ok (bitB 1983) _ _ _ ?_)
  simp only [go_sem]
  refine alloc_intro fun b hb => ?_
  simp only [go_sem]
  refine AWP.iter (fun i => ⟨Env.get [(3, u64 (totF 0 0 (ls.take i))), (7, .p (.sl (ls.map lvE))), (8, i64 ls.length), (9, i64 i)], S, 23, []⟩) ls.length ?_ ?_ ?_
  · exact le_of (by simp only [go_sem]; simp [totF]) ((Sub.refl S).setF hb) rfl rfl (by simp)
  · intro i hi ih
    refine AWPH.step (xc_ok (bitB 1983) _ _ _ ?_)
    simp only [go_sem, hi, ltN' hi, getD_map' _ _ _ _ hi, lvE_mk]
    refine ih.back (by (repeat (first | exact Sub.refl _ | refine Sub.setF ?_ (by first | assumption | simp only [*]) | refine Sub.setV ?_ (by first | assumption | simp only [*])))) (by simp) ?_
    simp only [go_sem, totF_take ls i hi, wi_succ (show i < 4611686018427387904 by omega)]
  · refine AWPH.step (xc_ok (bitB 1983) _ _ _ ?_)
    simp only [go_sem, List.take_length]
    (refine ⟨S, by (repeat (first | exact Sub.refl _ | refine Sub.setF ?_ (by first | assumption | simp only [*]) | refine Sub.setV ?_ (by first | assumption | simp only [*]))), ?_⟩); simp [totV]

theorem ref06_Total (k g : Int) (ls : List (List Span)) (hl : ls.length < 1099511627776) : Pure Tryz.prog 35 [(Hist.mk k g ls).av] (u64 (totV ls)) := fun S => by
  refine callR_of Tryz.func35 rfl rfl (xc_ok (bitB 543) _ _ _ ?_)
  simp only [go_sem]
  refine alloc_intro fun b hb => ?_
  simp only [go_sem]
  refine AWP.iter (fun i => ⟨Env.get [(1, .sp b 0), (3, u64 (totF 0 0 (ls.take i))), (4, i64 i)], S.set (.r b) (.cells [i64 k, i64 g, .p (.sl (ls.map lvE))]), 24, []⟩) ls.length ?_ ?_ ?_
  · exact le_of (by simp only [go_sem]; simp [totF]) (Sub.refl _) rfl rfl (by simp)
  · intro i hi ih
    refine AWPH.step (xc_ok (bitB 543) _ _ _ ?_)
    simp only [go_sem, hi, ltN' hi, getD_map' _ _ _ _ hi, lvE_mk]
    refine ih.back (by (repeat (first | exact Sub.refl _ | refine Sub.setF ?_ (by first | assumption | simp only [*]) | refine Sub.setV ?_ (by first | assumption | simp only [*])))) (by simp) ?_
    simp only [go_sem, totF_take ls i hi, wi_succ (show i < 4611686018427387904 by omega)]
  · refine AWPH.step (xc_ok (bitB 543) _ _ _ ?_)
    simp only [go_sem, List.take_length]
    (refine ⟨S, by (repeat (first | exact Sub.refl _ | refine Sub.setF ?_ (by first | assumption | simp only [*]) | refine Sub.setV ?_ (by first | assumption | simp only [*]))), ?_⟩); simp [totV]

theorem ref06_at (k g : Int) (ls : List (List Span)) (i : Nat) : Pure Tryz.prog 156 [(Hist.mk k g ls).av, i64 i] (.p (lvP (ls.getD i []))) := fun S => by
  refine callR_of Tryz.func156 rfl rfl (xc_ok (bitB 535) _ _ _ ?_)
  simp only [go_sem]
  refine alloc_intro fun b hb => ?_
  by_cases hi : i < ls.length
  · simp only [go_sem, show ¬ ((i : Int) ≥ (ls.length : Int)) by omega, ltN' hi, hi, getD_map' _ _ _ _ hi, lvE_mk]
    (refine ⟨S, by (repeat (first | exact Sub.refl _ | refine Sub.setF ?_ (by first | assumption | simp only [*]) | refine Sub.setV ?_ (by first | assumption | simp only [*]))), ?_⟩); simp [lvP, List.getD_eq_getElem?_getD, hi]
  · simp only [go_sem, show ((i : Int) ≥ (ls.length : Int)) by omega]
    (refine ⟨S, by (repeat (first | exact Sub.refl _ | refine Sub.setF ?_ (by first | assumption | simp only [*]) | refine Sub.setV ?_ (by first | assumption | simp only [*]))), ?_⟩); simp [lvP, List.getD_eq_getElem?_getD, List.getElem?_eq_none (show ls.length ≤ i by omega)]

theorem hist_New (k : Int) : Pure Tryz.prog 70 [i64 k] (.tuple (if k < 2 ∨ k > 1024 then [zeroH.av, i64 9] else [(Hist.mk k 0 []).av, i64 0])) := fun S => by
  refine callR_of Tryz.func70 rfl rfl (xc_ok (bitB 525) _ _ _ ?_)
  simp only [go_sem]
  refine alloc_intro fun b hb => ?_
  simp only [go_sem]
  by_cases h1 : k < 2
  · simp only [go_sem, h1]
    (refine ⟨S, by (repeat (first | exact Sub.refl _ | refine Sub.setF ?_ (by first | assumption | simp only [*]) | refine Sub.setV ?_ (by first | assumption | simp only [*]))), ?_⟩); simp [h1, zeroH, Hist.av, Hist.cs]
  · by_cases h2 : k > 1024
    · simp only [go_sem, h1, h2]
      (refine ⟨S, by (repeat (first | exact Sub.refl _ | refine Sub.setF ?_ (by first | assumption | simp only [*]) | refine Sub.setV ?_ (by first | assumption | simp only [*]))), ?_⟩); simp [h2, zeroH, Hist.av, Hist.cs]
    · simp only [go_sem, h1, h2]
      (refine ⟨S, by (repeat (first | exact Sub.refl _ | refine Sub.setF ?_ (by first | assumption | simp only [*]) | refine Sub.setV ?_ (by first | assumption | simp only [*]))), ?_⟩); simp [h1, h2, Hist.av, Hist.cs]
end Go.Sk
end

-- A7
section
namespace Go.Sk

theorem stay_all (l add : List Span) (many tick most : Nat) (hm : 1 ≤ most) : (stayV l most add many tick).length + 2 * ((outsV l most add many tick).length + leftV l most add many) = l.length + add.length + many := by
  rw [go_less _ _ _ _ _ hm, stay_len]; unfold pairsN; omega
theorem stay_ne (l add : List Span) (many tick most : Nat) (hm : 2 ≤ most) (h : 0 < l.length + add.length + many) : stayV l most add many tick ≠ [] := by
  intro e
  have := congrArg List.length e
  rw [stay_len] at this; unfold pairsN at this; simp at this; omega
theorem mostN_two {k : Nat} (hk : 2 ≤ k) (i : Nat) : 2 ≤ mostN k i := by unfold mostN; split <;> omega

theorem flow_nil_ind (k tick : Nat) (p : Nat → List Span → Nat → Prop) (h0 : ∀ i come many, come.length + many = 0 → p i come many)
    (h1 : ∀ i come many, ¬ come.length + many = 0 → p (i + 1) (outsV [] (mostN k i) come many tick) (leftV [] (mostN k i) come many) → p i come many) : ∀ b i come many, come.length + many ≤ b → p i come many := by
  intro b
  induction b with
  | zero => intro i come many h; exact h0 _ _ _ (by omega)
  | succ b ih =>
    intro i come many h
    by_cases hz : come.length + many = 0
    · exact h0 _ _ _ hz
    · refine h1 i come many hz (ih _ _ _ ?_)
      rw [go_less _ _ _ _ _ (mostN_pos k i)]
      have := mostN_pos k i
      unfold pairsN; simp; omega
theorem flow_ind (k tick : Nat) (p : Nat → List (List Span) → List Span → Nat → Prop) (h0 : ∀ i come many, come.length + many = 0 → p i [] come many)
    (h1 : ∀ i ls come many, ¬ (ls = [] ∧ come.length + many = 0) → p (i + 1) ls.tail (outsV (ls.headD []) (mostN k i) come many tick) (leftV (ls.headD []) (mostN k i) come many) → p i ls come many) : ∀ ls i come many, p i ls come many := by
  have hnil : ∀ i come many, p i [] come many := fun i come many =>
    flow_nil_ind k tick (fun i come many => p i [] come many) h0 (fun i come many hz hp => h1 i [] come many (by simpa using hz) hp) _ i come many (Nat.le_refl _)
  intro ls
  induction ls with
  | nil => exact hnil
  | cons l r ih => intro i come many; exact h1 i (l :: r) come many (by simp) (ih _ _ _)

theorem flow_tot (k tick : Nat) : ∀ ls i come many, totN i (flowV k tick i ls come many) = totN i ls + (come.length + many) * 2 ^ i := by
  refine flow_ind k tick (fun i ls come many => totN i (flowV k tick i ls come many) = totN i ls + (come.length + many) * 2 ^ i) ?_ ?_
  · intro i come many h; rw [flowV_nil h, h]; simp
  · intro i ls come many h ih
    rw [flowV_cons h]
    simp only [totN]
    rw [ih]
    have hs := stay_all (ls.headD []) come many tick (mostN k i) (mostN_pos k i)
    have ht : totN i ls = (ls.headD []).length * 2 ^ i + totN (i + 1) ls.tail := by cases ls <;> simp [totN]
    rw [ht]
    generalize (stayV (ls.headD []) (mostN k i) come many tick).length = A at *
    generalize (outsV (ls.headD []) (mostN k i) come many tick).length + leftV (ls.headD []) (mostN k i) come many = B at *
    generalize (ls.headD []).length = C at *
    have e : C * 2 ^ i + (come.length + many) * 2 ^ i = A * 2 ^ i + (2 * B) * 2 ^ i := by
      rw [← Nat.add_mul, ← Nat.add_mul]; congr 1; omega
    have e2 : B * 2 ^ (i + 1) = (2 * B) * 2 ^ i := by rw [Nat.pow_succ, Nat.mul_comm 2 B, Nat.mul_assoc, Nat.mul_comm 2]
    omega
theorem flow_small (k tick : Nat) : ∀ ls i come many, ∀ l ∈ flowV k tick i ls come many, l.length ≤ k + 2 := by
  refine flow_ind k tick (fun i ls come many => ∀ l ∈ flowV k tick i ls come many, l.length ≤ k + 2) ?_ ?_
  · intro i come many h l hl; rw [flowV_nil h] at hl; cases hl
  · intro i ls come many h ih l hl
    rw [flowV_cons h] at hl
    rcases List.mem_cons.1 hl with rfl | hl
    · exact Nat.le_trans (stay_le _ _ _ _ _ (mostN_pos k i)) (mostN_le k i)
    · exact ih l hl
theorem flow_ne (k tick : Nat) (hk : 2 ≤ k) : ∀ ls i come many, (∀ l ∈ ls, l ≠ []) → ∀ l ∈ flowV k tick i ls come many, l ≠ [] := by
  refine flow_ind k tick (fun i ls come many => (∀ l ∈ ls, l ≠ []) → ∀ l ∈ flowV k tick i ls come many, l ≠ []) ?_ ?_
  · intro i come many h _ l hl; rw [flowV_nil h] at hl; cases hl
  · intro i ls come many h ih hne l hl
    rw [flowV_cons h] at hl
    rcases List.mem_cons.1 hl with rfl | hl
    · refine stay_ne _ _ _ _ _ (mostN_two hk i) ?_
      cases ls with
      | nil => simp only [true_and] at h; simp; omega
      | cons x r =>
        have := hne x List.mem_cons_self
        cases x with
        | nil => exact absurd rfl this
        | cons a b => simp; omega
    · exact ih (fun x hx => hne x (List.mem_of_mem_tail hx)) l hl
theorem tot_levels : ∀ (ls : List (List Span)) (i : Nat), (∀ l ∈ ls, l ≠ []) → 2 ^ (i + ls.length) ≤ totN i ls + 2 ^ i := by
  intro ls
  induction ls with
  | nil => intro i _; simp
  | cons l r ih =>
    intro i h
    have := ih (i + 1) (fun x hx => h x (List.mem_cons_of_mem _ hx))
    have hl : 1 ≤ l.length := by have := h l List.mem_cons_self; cases l with | nil => exact absurd rfl this | cons a b => simp
    have h2 := Nat.mul_le_mul_right (2 ^ i) hl
    simp only [totN, List.length_cons]
    rw [show i + (r.length + 1) = i + 1 + r.length by omega]
    rw [Nat.pow_succ 2 i] at this
    omega

/-- A histogram that came to be by adding alone. -/
structure Hist.Good (h : Hist) : Prop where
  k0 : 2 ≤ h.k
  k1 : h.k ≤ 1024
  ne : ∀ l ∈ h.ls, l ≠ []
  sm : ∀ l ∈ h.ls, l.length ≤ h.k.toNat + 2
  tot : totN 0 h.ls ≤ 4503599627370496
theorem Hist.Good.len {h : Hist} (g : h.Good) : h.ls.length ≤ 53 := by
  have := tot_levels h.ls 0 g.ne
  have h2 := g.tot
  apply Classical.byContradiction
  intro hc
  have : (2 : Nat) ^ 54 ≤ 2 ^ (0 + h.ls.length) := Nat.pow_le_pow_right (by decide) (by omega)
  have e : (2 : Nat) ^ 54 = 18014398509481984 := by decide
  omega
theorem addV_good {h : Hist} (g : h.Good) (t w : Nat) (e : (addV h.k.toNat h.g h.ls t w).2 = 0) : (addV h.k.toNat h.g h.ls t w).1.Good ∧ (addV h.k.toNat h.g h.ls t w).1.k = h.k ∧ (addV h.k.toNat h.g h.ls t w).1.g = h.g ∧ totN 0 (addV h.k.toNat h.g h.ls t w).1.ls = totN 0 h.ls + w := by
  obtain ⟨k, gg, ls⟩ := h
  obtain ⟨h1, h2, h3, h4, h5⟩ := g
  dsimp only at h1 h2 h3 h4 h5 e ⊢
  obtain ⟨k, rfl⟩ : ∃ k' : Nat, k = k' := ⟨k.toNat, by omega⟩
  rw [Int.toNat_natCast] at *
  unfold addV at e ⊢
  split
  · rename_i c; rw [if_pos c] at e; simp at e
  · rename_i c; rw [if_neg c] at e
    split
    · rename_i c; rw [if_pos c] at e; simp at e
    · rename_i c; rw [if_neg c] at e
      split
      · rename_i c; rw [if_pos c] at e; simp at e
      · rename_i c2
        have ht := flow_tot k t ls 0 [] w
        simp only [List.length_nil, Nat.zero_add, Nat.pow_zero, Nat.mul_one] at ht
        refine ⟨⟨h1, h2, flow_ne k t (by omega) ls 0 [] w h3, ?_, ?_⟩, rfl, rfl, ht⟩
        · intro l hl; rw [Int.toNat_natCast]; exact flow_small k t ls 0 [] w l hl
        · dsimp only; rw [ht]; omega
end Go.Sk
end

-- A18
section
namespace Go.Sk

/-- All buckets, the oldest ones first. -/
def flat : List (List Span) → List Span
  | [] => []
  | l :: r => flat r ++ l
theorem flat_tail (ls : List (List Span)) : flat ls = flat ls.tail ++ ls.headD [] := by cases ls <;> simp [flat]
def Bef (x y : Span) : Prop := x.b ≤ y.a
def Mono (W : Nat → Bool) : Prop := ∀ x y, x ≤ y → W x = true → W y = true
def lo (W : Nat → Bool) (l : List Span) : Nat := l.countP (fun s => W s.a)
def hi (W : Nat → Bool) (l : List Span) : Nat := l.countP (fun s => W s.b)
def loL (W : Nat → Bool) : Nat → List (List Span) → Nat
  | _, [] => 0
  | i, l :: r => lo W l * 2 ^ i + loL W (i + 1) r
def hiL (W : Nat → Bool) : Nat → List (List Span) → Nat
  | _, [] => 0
  | i, l :: r => hi W l * 2 ^ i + hiL W (i + 1) r
theorem loL_tail (W : Nat → Bool) (i : Nat) (ls : List (List Span)) : loL W i ls = lo W (ls.headD []) * 2 ^ i + loL W (i + 1) ls.tail := by cases ls <;> simp [loL, lo]
theorem hiL_tail (W : Nat → Bool) (i : Nat) (ls : List (List Span)) : hiL W i ls = hi W (ls.headD []) * 2 ^ i + hiL W (i + 1) ls.tail := by cases ls <;> simp [hiL, hi]
theorem lo_app (W : Nat → Bool) (l m : List Span) : lo W (l ++ m) = lo W l + lo W m := List.countP_append
theorem hi_app (W : Nat → Bool) (l m : List Span) : hi W (l ++ m) = hi W l + hi W m := List.countP_append
theorem lo_rep (W : Nat → Bool) (n t : Nat) : lo W (List.replicate n ⟨t, t⟩) = if W t = true then n else 0 := by unfold lo; rw [List.countP_replicate]
theorem hi_rep (W : Nat → Bool) (n t : Nat) : hi W (List.replicate n ⟨t, t⟩) = if W t = true then n else 0 := by unfold hi; rw [List.countP_replicate]

theorem pairUp_take (l : List Span) : ∀ p, pairUp (l.take (2 * p)) = (pairUp l).take p := by
  induction l using pairUp.induct with
  | case1 a b r ih =>
    intro p
    cases p with
    | zero => simp [pairUp]
    | succ p =>
      rw [show 2 * (p + 1) = 2 * p + 1 + 1 by omega]
      simp only [List.take_succ_cons, pairUp, ih]
  | case2 l h =>
    intro p
    match l, h with
    | [], _ => simp [pairUp]
    | [x], _ =>
      cases p with
      | zero => simp [pairUp]
      | succ p => rw [show 2 * (p + 1) = 2 * p + 1 + 1 by omega]; simp [pairUp]
    | x :: y :: r, h => exact absurd rfl (h x y r)
/-- What leaves a level. -/
theorem pair_all (l add : List Span) (many tick most : Nat) (hm : 1 ≤ most) :
    outsV l most add many tick ++ List.replicate (leftV l most add many) ⟨tick, tick⟩ = pairUp ((lineV l add many tick).take (2 * pairsN (l.length + add.length + many) most)) := by
  rw [pairUp_take]
  have h2 : outsN (l.length + add.length) most many ≤ pairsN (l.length + add.length + many) most := by unfold outsN; omega
  have hlen : (pairUp (lineV l add many tick)).length = (l.length + add.length + many) / 2 := by rw [pairUp_length, lineV_length]
  have hp : pairsN (l.length + add.length + many) most ≤ (l.length + add.length + many) / 2 := by unfold pairsN; omega
  apply List.ext_getElem
  · rw [List.length_append, List.length_replicate, outs_len _ _ _ _ _ hm, List.length_take, hlen]
    unfold leftV; omega
  · intro i h3 h4
    rw [List.length_take, hlen] at h4
    have hol := outs_len l add many tick most hm
    have hi : i < (pairUp (lineV l add many tick)).length := by omega
    rw [List.getElem_take]
    by_cases hc : i < (outsV l most add many tick).length
    · rw [List.getElem_append_left hc]
      exact List.getElem_take
    · rw [List.getElem_append_right (by omega), List.getElem_replicate]
      rw [hol] at hc
      have hj : (l.length + add.length + 1) / 2 ≤ i := by unfold outsN at hc; omega
      rw [pairUp_get _ i hi (by rw [lineV_length]; omega) (by rw [lineV_length]; omega)]
      rw [lineV_ge (by omega), lineV_ge (by omega)]
theorem flow_c (k tick : Nat) (p : Nat → List (List Span) → List Span → List (List Span) → Prop) (h0 : ∀ i, p i [] [] [])
    (h1 : ∀ i ls c out, ¬ (ls = [] ∧ c = []) → p (i + 1) ls.tail (pairUp ((ls.headD [] ++ c).take (2 * pairsN (ls.headD [] ++ c).length (mostN k i)))) out →
      p i ls c ((ls.headD [] ++ c).drop (2 * pairsN (ls.headD [] ++ c).length (mostN k i)) :: out)) :
    ∀ ls i come many, p i ls (come ++ List.replicate many (⟨tick, tick⟩ : Span)) (flowV k tick i ls come many) := by
  refine flow_ind k tick (fun i ls come many => p i ls (come ++ List.replicate many (⟨tick, tick⟩ : Span)) (flowV k tick i ls come many)) ?_ ?_
  · intro i come many h
    rw [flowV_nil h]
    obtain rfl : come = [] := List.eq_nil_of_length_eq_zero (by omega)
    obtain rfl : many = 0 := by simpa using h
    exact h0 i
  · intro i ls come many h ih
    rw [flowV_cons h]
    rw [pair_all _ _ _ _ _ (mostN_pos k i)] at ih
    have e1 : lineV (ls.headD []) come many tick = ls.headD [] ++ (come ++ List.replicate many (⟨tick, tick⟩ : Span)) := by unfold lineV; rw [List.append_assoc]
    have e2 : (ls.headD []).length + come.length + many = (ls.headD [] ++ (come ++ List.replicate many (⟨tick, tick⟩ : Span))).length := by simp; omega
    rw [e2, e1] at ih
    have := h1 i ls (come ++ List.replicate many (⟨tick, tick⟩ : Span)) _ (by
      rintro ⟨rfl, hc⟩
      apply h
      have := congrArg List.length hc
      simp at this
      refine ⟨rfl, ?_⟩
      simp [this]) ih
    unfold stayV
    rw [e2, e1]
    exact this

theorem pairUp_none {l : List Span} (h : ∀ a b r, ¬ l = a :: b :: r) : pairUp l = [] := by
  match l, h with
  | [], _ => rfl
  | [x], _ => rfl
  | x :: y :: r, h => exact absurd rfl (h x y r)
theorem pairUp_mem (P : List Span) : ∀ z ∈ pairUp P, ∃ x ∈ P, ∃ y ∈ P, z = ⟨x.a, y.b⟩ := by
  induction P using pairUp.induct with
  | case1 a b r ih =>
    intro z hz
    rcases List.mem_cons.1 hz with rfl | hz
    · exact ⟨a, by simp, b, by simp, rfl⟩
    · obtain ⟨x, hx, y, hy, rfl⟩ := ih z hz
      exact ⟨x, by simp [hx], y, by simp [hy], rfl⟩
  | case2 l h =>
    intro z hz
    rw [pairUp_none h] at hz; cases hz
theorem pairUp_srt (P : List Span) : P.Pairwise Bef → (∀ s ∈ P, s.a ≤ s.b) → (pairUp P).Pairwise Bef ∧ ∀ s ∈ pairUp P, s.a ≤ s.b := by
  induction P using pairUp.induct with
  | case1 a b r ih =>
    intro h hv
    rw [List.pairwise_cons, List.pairwise_cons] at h
    obtain ⟨h1, h2, h3⟩ := h
    obtain ⟨i1, i2⟩ := ih h3 (fun s hs => hv s (by simp [hs]))
    have hab : a.b ≤ b.a := h1 b (by simp)
    have hva := hv a (by simp); have hvb := hv b (by simp)
    refine ⟨?_, ?_⟩
    · simp only [pairUp, List.pairwise_cons]
      refine ⟨fun z hz => ?_, i1⟩
      obtain ⟨x, hx, y, hy, rfl⟩ := pairUp_mem r z hz
      exact h2 x hx
    · intro s hs
      rcases List.mem_cons.1 hs with rfl | hs
      · show a.a ≤ b.b; omega
      · exact i2 s hs
  | case2 l h =>
    intro _ _
    have : pairUp l = [] := pairUp_none h
    rw [this]; exact ⟨List.Pairwise.nil, fun s hs => (by cases hs)⟩
theorem pairUp_lo (W : Nat → Bool) (hW : Mono W) (P : List Span) : P.Pairwise Bef → (∀ s ∈ P, s.a ≤ s.b) → 2 * lo W (pairUp P) ≤ lo W P := by
  induction P using pairUp.induct with
  | case1 a b r ih =>
    intro h hv
    rw [List.pairwise_cons, List.pairwise_cons] at h
    obtain ⟨h1, h2, h3⟩ := h
    have i1 := ih h3 (fun s hs => hv s (by simp [hs]))
    have hab : a.b ≤ b.a := h1 b (by simp)
    have hva := hv a (by simp)
    unfold lo at i1 ⊢
    simp only [pairUp, List.countP_cons]
    cases hc : W a.a with
    | false => simp; omega
    | true => rw [hW a.a b.a (by omega) hc]; simp; omega
  | case2 l h =>
    intro _ _
    have : pairUp l = [] := pairUp_none h
    rw [this]; simp [lo]
theorem pairUp_hi (W : Nat → Bool) (hW : Mono W) (P : List Span) : P.Pairwise Bef → (∀ s ∈ P, s.a ≤ s.b) → P.length % 2 = 0 → hi W P ≤ 2 * hi W (pairUp P) := by
  induction P using pairUp.induct with
  | case1 a b r ih =>
    intro h hv he
    rw [List.pairwise_cons, List.pairwise_cons] at h
    obtain ⟨h1, h2, h3⟩ := h
    have i1 := ih h3 (fun s hs => hv s (by simp [hs])) (by simp only [List.length_cons] at he; omega)
    have hab : a.b ≤ b.a := h1 b (by simp)
    have hvb := hv b (by simp)
    unfold hi at i1 ⊢
    simp only [pairUp, List.countP_cons]
    cases hc : W b.b with
    | true => cases W a.b <;> simp <;> omega
    | false =>
      have : W a.b = false := by
        cases hd : W a.b with
        | false => rfl
        | true => rw [hW a.b b.b (by omega) hd] at hc; exact hc
      rw [this]; simp; omega
  | case2 l h =>
    intro _ _ he
    match l, h with
    | [], _ => simp [hi]
    | [x], _ => simp at he
    | x :: y :: r, h => exact absurd rfl (h x y r)

theorem flow_tidy (k tick : Nat) : ∀ ls i come many, (flat ls ++ (come ++ List.replicate many (⟨tick, tick⟩ : Span))).Pairwise Bef → (∀ s ∈ flat ls ++ (come ++ List.replicate many (⟨tick, tick⟩ : Span)), s.a ≤ s.b) →
    (flat (flowV k tick i ls come many)).Pairwise Bef ∧ (∀ s ∈ flat (flowV k tick i ls come many), s.a ≤ s.b) ∧
    (∀ m, (∀ s ∈ flat ls ++ (come ++ List.replicate many (⟨tick, tick⟩ : Span)), s.b ≤ m) → ∀ s ∈ flat (flowV k tick i ls come many), s.b ≤ m) ∧
    ∀ W, Mono W → loL W i (flowV k tick i ls come many) ≤ loL W i ls + lo W (come ++ List.replicate many (⟨tick, tick⟩ : Span)) * 2 ^ i ∧
      hiL W i ls + hi W (come ++ List.replicate many (⟨tick, tick⟩ : Span)) * 2 ^ i ≤ hiL W i (flowV k tick i ls come many) := by
  refine flow_c k tick (fun i ls c out => (flat ls ++ c).Pairwise Bef → (∀ s ∈ flat ls ++ c, s.a ≤ s.b) → (flat out).Pairwise Bef ∧ (∀ s ∈ flat out, s.a ≤ s.b) ∧
    (∀ m, (∀ s ∈ flat ls ++ c, s.b ≤ m) → ∀ s ∈ flat out, s.b ≤ m) ∧ ∀ W, Mono W → loL W i out ≤ loL W i ls + lo W c * 2 ^ i ∧ hiL W i ls + hi W c * 2 ^ i ≤ hiL W i out) ?_ ?_
  · intro i _ _
    refine ⟨List.Pairwise.nil, fun s hs => (by cases hs), fun m _ s hs => (by cases hs), fun W _ => ?_⟩
    simp [loL, hiL, lo, hi]
  · intro i ls c out hne ih hs hv
    have hm := mostN_pos k i
    have hq : 2 * pairsN (ls.headD [] ++ c).length (mostN k i) ≤ (ls.headD [] ++ c).length := by unfold pairsN; omega
    rw [flat_tail ls, List.append_assoc] at hs hv
    have hfl : flat ls ++ c = flat ls.tail ++ (ls.headD [] ++ c) := by rw [flat_tail ls, List.append_assoc]
    rw [hfl]
    have hl1 : ∀ W, lo W (ls.headD [] ++ c) = lo W (ls.headD []) + lo W c := fun W => lo_app W _ _
    have hh1 : ∀ W, hi W (ls.headD [] ++ c) = hi W (ls.headD []) + hi W c := fun W => hi_app W _ _
    generalize hL : ls.headD [] ++ c = L at *
    generalize hQ : 2 * pairsN L.length (mostN k i) = q at *
    have hev : q % 2 = 0 := by omega
    have hsp : L.take q ++ L.drop q = L := List.take_append_drop q L
    have hs' := hs
    rw [← hsp, List.pairwise_append, List.pairwise_append] at hs'
    obtain ⟨s1, ⟨s2, s3, s4⟩, s5⟩ := hs'
    have hvL : ∀ s ∈ L, s.a ≤ s.b := fun s h => hv s (List.mem_append_right _ h)
    have hvT : ∀ s ∈ L.take q, s.a ≤ s.b := fun s h => hvL s (List.mem_of_mem_take h)
    obtain ⟨p1, p2⟩ := pairUp_srt (L.take q) s2 hvT
    have cross : ∀ x ∈ flat ls.tail, ∀ z ∈ pairUp (L.take q), Bef x z := by
      intro x hx z hz
      obtain ⟨u, hu, v, hv2, rfl⟩ := pairUp_mem _ z hz
      exact s5 x hx u (by rw [List.take_append_drop]; exact List.mem_of_mem_take hu)
    obtain ⟨i1, i2, i3, i4⟩ := ih (List.pairwise_append.2 ⟨s1, p1, cross⟩) (fun s h => by
      rcases List.mem_append.1 h with h | h
      · exact hv s (List.mem_append_left _ h)
      · exact p2 s h)
    refine ⟨?_, ?_, ?_, ?_⟩
    · show (flat out ++ L.drop q).Pairwise Bef
      refine List.pairwise_append.2 ⟨i1, s3, fun x hx y hy => ?_⟩
      refine i3 y.a (fun s h => ?_) x hx
      rcases List.mem_append.1 h with h | h
      · exact s5 s h y (by rw [List.take_append_drop]; exact List.mem_of_mem_drop hy)
      · obtain ⟨u, hu, v, hv2, rfl⟩ := pairUp_mem _ s h
        exact s4 v hv2 y hy
    · intro s h
      rcases List.mem_append.1 h with h | h
      · exact i2 s h
      · exact hvL s (List.mem_of_mem_drop h)
    · intro m hm2 s h
      rcases List.mem_append.1 h with h | h
      · refine i3 m (fun z hz => ?_) s h
        rcases List.mem_append.1 hz with hz | hz
        · exact hm2 z (List.mem_append_left _ hz)
        · obtain ⟨u, hu, v, hv2, rfl⟩ := pairUp_mem _ z hz
          exact hm2 v (List.mem_append_right _ (List.mem_of_mem_take hv2))
      · exact hm2 s (List.mem_append_right _ (List.mem_of_mem_drop h))
    · intro W hW
      obtain ⟨j1, j2⟩ := i4 W hW
      have k1 := pairUp_lo W hW (L.take q) s2 hvT
      have k2 := pairUp_hi W hW (L.take q) s2 hvT (by rw [List.length_take]; omega)
      have k3 : lo W L = lo W (L.take q) + lo W (L.drop q) := by rw [← lo_app, hsp]
      have k4 : hi W L = hi W (L.take q) + hi W (L.drop q) := by rw [← hi_app, hsp]
      have k5 := hl1 W; have k6 := hh1 W
      rw [loL_tail W i ls, hiL_tail W i ls]
      show lo W (L.drop q) * 2 ^ i + loL W (i + 1) out ≤ _ ∧ _ ≤ hi W (L.drop q) * 2 ^ i + hiL W (i + 1) out
      rw [Nat.pow_succ] at j1 j2
      have m1 : 2 * lo W (pairUp (L.take q)) * 2 ^ i ≤ lo W (L.take q) * 2 ^ i := Nat.mul_le_mul_right _ k1
      have m2 : hi W (L.take q) * 2 ^ i ≤ 2 * hi W (pairUp (L.take q)) * 2 ^ i := Nat.mul_le_mul_right _ k2
      have e1 : lo W (pairUp (L.take q)) * (2 ^ i * 2) = 2 * lo W (pairUp (L.take q)) * 2 ^ i := by rw [Nat.mul_comm (2 ^ i) 2, ← Nat.mul_assoc, Nat.mul_comm _ 2]
      have e2 : hi W (pairUp (L.take q)) * (2 ^ i * 2) = 2 * hi W (pairUp (L.take q)) * 2 ^ i := by rw [Nat.mul_comm (2 ^ i) 2, ← Nat.mul_assoc, Nat.mul_comm _ 2]
      have e3 : lo W (ls.headD []) * 2 ^ i + lo W c * 2 ^ i = lo W (L.take q) * 2 ^ i + lo W (L.drop q) * 2 ^ i := by rw [← Nat.add_mul, ← Nat.add_mul]; congr 1; omega
      have e4 : hi W (ls.headD []) * 2 ^ i + hi W c * 2 ^ i = hi W (L.take q) * 2 ^ i + hi W (L.drop q) * 2 ^ i := by rw [← Nat.add_mul, ← Nat.add_mul]; congr 1; omega
      omega

/-- Each level, but the last one, is full. -/
def Full (k : Nat) : Nat → List (List Span) → Prop
  | _, [] => True
  | i, l :: r => (r ≠ [] → mostN k i ≤ l.length + 1) ∧ Full k (i + 1) r
theorem flow_full (k tick : Nat) : ∀ ls i come many, Full k i ls → Full k i (flowV k tick i ls come many) := by
  intro ls i come many
  refine (flow_c k tick (fun i ls c out => (ls = [] → c = [] → out = []) ∧ (Full k i ls → Full k i out)) ?_ ?_ ls i come many).2
  · intro i; exact ⟨fun _ _ => rfl, id⟩
  · intro i ls c out hne ih
    refine ⟨fun h1 h2 => absurd ⟨h1, h2⟩ hne, fun hf => ?_⟩
    have hm := mostN_pos k i
    refine ⟨fun ho => ?_, ih.2 (by cases ls with | nil => trivial | cons l r => exact hf.2)⟩
    rw [List.length_drop]
    by_cases hp : pairsN (ls.headD [] ++ c).length (mostN k i) = 0
    · rw [hp] at ih ⊢
      have ht : ls.tail ≠ [] := fun ht => ho (ih.1 ht (by simp [pairUp]))
      cases ls with
      | nil => exact absurd rfl ht
      | cons l r => have := hf.1 ht; simp only [List.headD_cons, List.length_append]; omega
    · unfold pairsN at hp ⊢; omega

/-- As a histogram is that no merge made. -/
structure Tidy (k : Nat) (ls : List (List Span)) : Prop where
  srt : (flat ls).Pairwise Bef
  val : ∀ s ∈ flat ls, s.a ≤ s.b
  low : ∀ s ∈ ls.headD [], s.a = s.b
  full : Full k 0 ls
theorem last_le {k : Nat} {ls : List (List Span)} (h : Tidy k ls) (hne : ∀ l ∈ ls, l ≠ []) {t : Nat} (ht : ¬ ((lastV ls).2 = true ∧ t < (lastV ls).1)) : ∀ s ∈ flat ls, s.b ≤ t := by
  cases ls with
  | nil => intro s hs; cases hs
  | cons l r =>
    have hl := hne l (by simp)
    obtain ⟨d, x, rfl⟩ : ∃ d x, l = d ++ [x] := ⟨l.dropLast, l.getLast hl, (List.dropLast_concat_getLast hl).symm⟩
    have hx : lastV ((d ++ [x]) :: r) = (x.b, true) := by simp [lastV]
    rw [hx] at ht
    simp only [true_and] at ht
    have e : flat ((d ++ [x]) :: r) = (flat r ++ d) ++ [x] := by simp [flat]
    have hs := h.srt
    have hv := h.val
    rw [e] at hs hv ⊢
    obtain ⟨_, _, h3⟩ := List.pairwise_append.1 hs
    have hvx := hv x (by simp)
    intro s h
    rcases List.mem_append.1 h with h | h
    · have := h3 s h x (by simp)
      unfold Bef at this; omega
    · simp only [List.mem_singleton] at h; subst h; omega
theorem addV_tidy {h : Hist} (g : h.Good) (hT : Tidy h.k.toNat h.ls) (t w : Nat) (e : (addV h.k.toNat h.g h.ls t w).2 = 0) : Tidy h.k.toNat (addV h.k.toNat h.g h.ls t w).1.ls ∧
    ∀ W, Mono W → loL W 0 (addV h.k.toNat h.g h.ls t w).1.ls ≤ loL W 0 h.ls + (if W t = true then w else 0) ∧ hiL W 0 h.ls + (if W t = true then w else 0) ≤ hiL W 0 (addV h.k.toNat h.g h.ls t w).1.ls := by
  unfold addV at e ⊢
  split
  · rename_i c; rw [if_pos c] at e; simp at e
  rename_i c; rw [if_neg c] at e
  split
  · rename_i c; rw [if_pos c] at e; simp at e
  rename_i c2; rw [if_neg c2] at e
  split
  · rename_i c; rw [if_pos c] at e; simp at e
  have hle := last_le hT g.ne (t := t) (fun hc => c2 (Or.inr hc))
  have hs : (flat h.ls ++ ([] ++ List.replicate w (⟨t, t⟩ : Span))).Pairwise Bef := by
    refine List.pairwise_append.2 ⟨hT.srt, ?_, ?_⟩
    · rw [List.nil_append]; exact List.pairwise_replicate.2 (Or.inr (Nat.le_refl t))
    · intro x hx y hy
      rw [List.nil_append] at hy
      rw [List.eq_of_mem_replicate hy]; exact hle x hx
  have hv : ∀ s ∈ flat h.ls ++ ([] ++ List.replicate w (⟨t, t⟩ : Span)), s.a ≤ s.b := by
    intro s hs
    rcases List.mem_append.1 hs with hs | hs
    · exact hT.val s hs
    · rw [List.nil_append] at hs; rw [List.eq_of_mem_replicate hs]; exact Nat.le_refl _
  obtain ⟨r1, r2, _, r4⟩ := flow_tidy h.k.toNat t h.ls 0 [] w hs hv
  refine ⟨⟨r1, r2, ?_, flow_full _ _ _ _ _ _ hT.full⟩, fun W hW => ?_⟩
  · intro s hs
    dsimp only at hs
    rw [flowV_cons (by rintro ⟨_, h0⟩; simp at h0; exact c h0)] at hs
    simp only [List.headD_cons] at hs
    unfold stayV lineV at hs
    have := List.mem_of_mem_drop hs
    rw [List.append_nil] at this
    rcases List.mem_append.1 this with h1 | h1
    · exact hT.low s h1
    · rw [List.eq_of_mem_replicate h1]
  · have := r4 W hW
    rw [List.nil_append, lo_rep, hi_rep, Nat.pow_zero, Nat.mul_one] at this
    exact this
theorem empty_tidy (k : Nat) : Tidy k [] := ⟨List.Pairwise.nil, fun s hs => (by cases hs), fun s hs => (by cases hs), trivial⟩

/-- Of a level, one bucket at most is cut. -/
theorem cut_one (W : Nat → Bool) (hW : Mono W) : ∀ l : List Span, l.Pairwise Bef → (∀ s ∈ l, s.a ≤ s.b) → hi W l = lo W l ∨ hi W l = lo W l + 1 := by
  intro l
  induction l with
  | nil => intro _ _; exact Or.inl rfl
  | cons x t ih =>
    intro h hv
    rw [List.pairwise_cons] at h
    have hx := hv x (by simp)
    have i := ih h.2 (fun s hs => hv s (by simp [hs]))
    cases hc : W x.b with
    | true =>
      have h1 : lo W t = t.length := by
        unfold lo; rw [List.countP_eq_length]
        intro y hy; exact hW x.b y.a (h.1 y hy) hc
      have h2 : hi W t = t.length := by
        unfold hi; rw [List.countP_eq_length]
        intro y hy; exact hW x.b y.b (Nat.le_trans (h.1 y hy) (hv y (by simp [hy]))) hc
      unfold lo at h1 ⊢
      unfold hi at h2 ⊢
      simp only [List.countP_cons, hc]
      cases W x.a <;> simp <;> omega
    | false =>
      have : W x.a = false := by
        cases hd : W x.a with
        | false => rfl
        | true => rw [hW x.a x.b hx hd] at hc; exact hc
      unfold lo hi at i
      unfold lo hi
      simp only [List.countP_cons, hc, this]
      simpa using i
theorem hi_pos (W : Nat → Bool) : ∀ (ls : List (List Span)) (i : Nat), 0 < hiL W i ls → ∃ s ∈ flat ls, W s.b = true := by
  intro ls
  induction ls with
  | nil => intro i h; simp [hiL] at h
  | cons l r ih =>
    intro i h
    unfold hiL at h
    by_cases hc : hi W l = 0
    · rw [hc] at h
      obtain ⟨s, hs, hb⟩ := ih (i + 1) (by omega)
      exact ⟨s, List.mem_append_left _ hs, hb⟩
    · obtain ⟨s, hs, hb⟩ := List.countP_pos_iff.1 (Nat.pos_of_ne_zero hc)
      exact ⟨s, List.mem_append_right _ hs, hb⟩
theorem cut_all (k : Nat) (W : Nat → Bool) (hW : Mono W) : ∀ (ls : List (List Span)) (i : Nat), (flat ls).Pairwise Bef → (∀ s ∈ flat ls, s.a ≤ s.b) → (i = 0 → ∀ s ∈ ls.headD [], s.a = s.b) → Full k i ls →
    hiL W i ls = loL W i ls ∨ ∃ j, i ≤ j ∧ 1 ≤ j ∧ hiL W i ls = loL W i ls + 2 ^ j ∧ k * 2 ^ j ≤ 2 * loL W i ls + (if i = 0 then 0 else k * 2 ^ i) := by
  intro ls
  induction ls with
  | nil => intro i _ _ _ _; exact Or.inl rfl
  | cons l r ih =>
    intro i hs hv hlow hf
    obtain ⟨s1, s2, s3⟩ := List.pairwise_append.1 (show (flat r ++ l).Pairwise Bef from hs)
    have hvl : ∀ s ∈ l, s.a ≤ s.b := fun s h => hv s (List.mem_append_right _ h)
    have hvr : ∀ s ∈ flat r, s.a ≤ s.b := fun s h => hv s (List.mem_append_left _ h)
    have c1 := cut_one W hW l s2 hvl
    unfold hiL loL
    rcases ih (i + 1) s1 hvr (by omega) hf.2 with hr | ⟨j, hj, hj1, hr, hb⟩
    · rcases c1 with c1 | c1
      · left; rw [c1, hr]
      · right
        by_cases h0 : i = 0
        · exfalso
          have : hi W l = lo W l := by
            unfold hi lo
            apply List.countP_congr
            intro s hs; rw [hlow h0 s hs]
          omega
        · refine ⟨i, Nat.le_refl _, by omega, ?_, ?_⟩
          · rw [c1, hr, Nat.add_mul, Nat.one_mul]; omega
          · rw [if_neg h0]; omega
    · right
      have hpos : 0 < 2 ^ j := Nat.pow_pos (by decide)
      obtain ⟨s, hsm, hsb⟩ := hi_pos W r (i + 1) (by omega)
      have h1 : lo W l = l.length := by
        unfold lo; rw [List.countP_eq_length]
        intro y hy; exact hW s.b y.a (s3 s hsm y hy) hsb
      have h2 : hi W l = l.length := by
        unfold hi; rw [List.countP_eq_length]
        intro y hy; exact hW s.b y.b (Nat.le_trans (s3 s hsm y hy) (hvl y hy)) hsb
      have hrne : r ≠ [] := by rintro rfl; cases hsm
      have hfl := hf.1 hrne
      refine ⟨j, by omega, hj1, by rw [h1, h2, hr]; omega, ?_⟩
      rw [if_neg (by omega), Nat.pow_succ] at hb
      rw [h1]
      unfold mostN at hfl
      by_cases h0 : i = 0
      · subst h0
        rw [if_pos rfl] at hfl ⊢
        simp only [Nat.pow_zero, Nat.one_mul, Nat.mul_one, Nat.zero_add] at hb ⊢
        omega
      · rw [if_neg h0] at hfl ⊢
        have m1 : k * 2 ^ i ≤ 2 * l.length * 2 ^ i := Nat.mul_le_mul_right _ (by omega)
        have e1 : k * (2 ^ i * 2) = k * 2 ^ i + k * 2 ^ i := by rw [Nat.mul_comm (2 ^ i) 2, ← Nat.mul_assoc, Nat.mul_comm k 2, Nat.mul_assoc]; omega
        have e2 : 2 * l.length * 2 ^ i = 2 * (l.length * 2 ^ i) := Nat.mul_assoc _ _ _
        omega
/-- The bound. -/
theorem est_bound {k : Nat} {ls : List (List Span)} (hk : 2 ≤ k) (h : Tidy k ls) (W : Nat → Bool) (hW : Mono W) {R : Nat} (h1 : loL W 0 ls ≤ R) (h2 : R ≤ hiL W 0 ls) :
    (k - 1) * R ≤ k * (loL W 0 ls + (hiL W 0 ls - loL W 0 ls) / 2) ∧ k * (loL W 0 ls + (hiL W 0 ls - loL W 0 ls) / 2) ≤ (k + 1) * R := by
  obtain ⟨k, rfl⟩ : ∃ m, k = m + 1 := ⟨k - 1, by omega⟩
  rcases cut_all (k + 1) W hW ls 0 h.srt h.val (fun _ => h.low) h.full with e | ⟨j, _, hj, e, hb⟩
  · obtain rfl : R = loL W 0 ls := by omega
    rw [e, Nat.sub_self, Nat.zero_div, Nat.add_zero, Nat.add_sub_cancel]
    exact ⟨Nat.mul_le_mul_right _ (by omega), Nat.mul_le_mul_right _ (by omega)⟩
  · obtain ⟨i, rfl⟩ : ∃ i, j = i + 1 := ⟨j - 1, by omega⟩
    rw [if_pos rfl, Nat.pow_succ, Nat.add_zero] at hb
    rw [e, Nat.pow_succ] at h2
    rw [e, Nat.add_sub_cancel_left, Nat.pow_succ, Nat.mul_div_cancel _ (by decide), Nat.add_sub_cancel]
    generalize loL W 0 ls = L at *
    generalize 2 ^ i = c at *
    have e1 : (k + 1) * (c * 2) = 2 * (k * c) + 2 * c := by rw [Nat.add_mul, ← Nat.mul_assoc]; omega
    have m1 : k * R ≤ k * (L + c * 2) := Nat.mul_le_mul_left _ h2
    have e2 : k * (L + c * 2) = k * L + 2 * (k * c) := by rw [Nat.mul_add, ← Nat.mul_assoc]; omega
    have e3 : (k + 1) * (L + c) = k * L + k * c + L + c := by rw [Nat.add_mul, Nat.mul_add]; omega
    have m2 : (k + 1 + 1) * L ≤ (k + 1 + 1) * R := Nat.mul_le_mul_left _ h1
    have e4 : (k + 1 + 1) * L = k * L + 2 * L := by rw [Nat.add_mul, Nat.add_mul]; omega
    omega
end Go.Sk
end

-- W8
section
namespace Go.Sk
open Go Go.Proofs

/-- Is a tick within? -/
noncomputable def inW (tick span t : Nat) : Bool := decide (tick < span) || decide (sub64 tick span < t)
/-- All buckets, in turn, and their units. -/
def bucksF : Nat → List (List Span) → List (Span × Nat)
  | _, [] => []
  | i, l :: r => l.map (fun s => (s, i)) ++ bucksF (i + 1) r
noncomputable def units (i : Nat) : Nat := m64 (1 * 2 ^ min i 64)
noncomputable def partStep (tick span : Nat) (p : Nat × Nat) (x : Span × Nat) : Nat × Nat :=
  if inW tick span x.1.a = true then (m64 (p.1 + units x.2), p.2) else if inW tick span x.1.b = true then (p.1, m64 (p.2 + units x.2)) else p
noncomputable def partsF (tick span : Nat) (p : Nat × Nat) (l : List (Span × Nat)) : Nat × Nat := l.foldl (partStep tick span) p
noncomputable def partsV (ls : List (List Span)) (tick span : Nat) : Nat × Nat := partsF tick span (0, 0) (bucksF 0 ls)
noncomputable def estV (ls : List (List Span)) (tick span : Nat) : Nat := m64 ((partsV ls tick span).1 + (partsV ls tick span).2 / 2)
theorem parts_within {S : Store} {b1 b2 : Nat} (t tick span : Nat) (h1 : S (.r b1) = some (.cells [u64 span])) (h2 : S (.r b2) = some (.cells [u64 tick])) :
    CallR Tryz.prog 162 [u64 t, .sp b1 0, .sp b2 0] S (fun r S' => r = bl (inW tick span t) ∧ S' = S) := by
  refine callR_of Tryz.func162 rfl rfl (xc_ok (bitB 23) _ _ _ ?_)
  simp only [go_sem, h1, h2]
  by_cases hc : tick < span
  · simp only [go_sem, h1, h2, hc]
    (refine ⟨S, by (repeat (first | exact Sub.refl _ | refine Sub.setF ?_ (by first | assumption | simp only [*]) | refine Sub.setV ?_ (by first | assumption | simp only [*]))), ?_⟩); simp [inW, hc]
  · simp only [go_sem, h1, h2, hc]
    (refine ⟨S, by (repeat (first | exact Sub.refl _ | refine Sub.setF ?_ (by first | assumption | simp only [*]) | refine Sub.setV ?_ (by first | assumption | simp only [*]))), ?_⟩); simp [inW, hc]

theorem bucks_app : ∀ (ls m : List (List Span)) (i : Nat), bucksF i (ls ++ m) = bucksF i ls ++ bucksF (i + ls.length) m := by
  intro ls
  induction ls with
  | nil => intro m i; simp [bucksF]
  | cons l r ih => intro m i; simp only [List.cons_append, bucksF, ih, List.append_assoc, List.length_cons]; rw [show i + 1 + r.length = i + (r.length + 1) from by omega]
theorem bucks_next (ls : List (List Span)) (i : Nat) (hi : i < ls.length) : bucksF 0 (ls.take (i + 1)) = bucksF 0 (ls.take i) ++ ls[i].map (fun s => (s, i)) := by
  rw [List.take_succ_eq_append_getElem hi, bucks_app]
  simp [bucksF, Nat.min_eq_left (Nat.le_of_lt hi)]
theorem bucks_get (ls : List (List Span)) (i : Nat) (hi : i < ls.length) (j : Nat) (hj : j < ls[i].length) :
    (bucksF 0 (ls.take i)).length + j < (bucksF 0 ls).length ∧ (bucksF 0 ls).getD ((bucksF 0 (ls.take i)).length + j) default = (ls[i][j], i) := by
  have e : bucksF 0 ls = bucksF 0 (ls.take i) ++ (ls[i].map (fun s => (s, i)) ++ bucksF (i + 1) (ls.drop (i + 1))) := by
    have h1 : ls = ls.take i ++ ls[i] :: ls.drop (i + 1) := by rw [← List.drop_eq_getElem_cons hi, List.take_append_drop]
    have h2 := bucks_app (ls.take i) (ls[i] :: ls.drop (i + 1)) 0
    rw [← h1] at h2
    rw [h2]
    simp [bucksF, Nat.min_eq_left (Nat.le_of_lt hi)]
  have hlt : (bucksF 0 (ls.take i)).length + j < (bucksF 0 ls).length := by rw [e]; simp; omega
  refine ⟨hlt, ?_⟩
  rw [List.getD_eq_getElem?_getD, e, List.getElem?_append_right (by omega), Nat.add_sub_cancel_left, List.getElem?_append_left (by simpa using hj)]
  simp [hj]
theorem parts_snoc (tick span : Nat) (p : Nat × Nat) (l : List (Span × Nat)) (x : Span × Nat) : partsF tick span p (l ++ [x]) = partStep tick span (partsF tick span p l) x := by
  unfold partsF; rw [List.foldl_append]; rfl

noncomputable def itemsB (l : List (Span × Nat)) : Nat → List AV := fun k => [(l.getD k default).1.av, u64 (units (l.getD k default).2)]

set_option maxHeartbeats 1000000 in
set_option maxRecDepth 4000 in
theorem est_buckets1 (k g : Int) (ls : List (List Span)) (hn : ls.length < 1099511627776) (hl : ∀ l ∈ ls, l.length < 1099511627776) {T0 : Store} {b : Nat} (h1 : T0 (.r b) = some (.cells [i64 k, i64 g, .p (.sl (ls.map lvE))])) :
    SeqR Tryz.prog 206 [] [.sp b 0] T0 (bucksF 0 ls).length (itemsB (bucksF 0 ls)) := by
  intro l J Jx hy E hd h0
  simp only [List.nil_append, List.singleton_append]
  refine callR_of Tryz.func206 rfl rfl (xc_ok (bitB 67604315) _ _ _ ?_)
  simp only [go_sem, h1]
  refine AWP.roam (ι := Nat × Store) (fun x => x.1 ≤ ls.length ∧ Disj T0 x.2 ∧ J (bucksF 0 (ls.take x.1)).length x.2)
    (fun x => ⟨Env.get [(0, .fn (.yield l) [] []), (1, .sp b 0), (8, .p (.sl (ls.map lvE))), (9, i64 ls.length), (10, i64 x.1)], Store.join x.2 T0, 29, []⟩) (fun x => ls.length - x.1) (0, E) ⟨by simp, hd, h0⟩ ?_ ?_
  · exact le_of (by simp only [go_sem] <;> rfl) (Sub.refl _) rfl rfl (by simp)
  · rintro ⟨i, E⟩ ⟨hi, hd, hJ⟩ ih
    dsimp only at hi hd hJ ⊢
    refine AWPH.step (xc_ok (bitB 67604315) _ _ _ ?_)
    by_cases c : i < ls.length
    rotate_left
    · obtain rfl : i = ls.length := by omega
      rw [List.take_length] at hJ
      simp only [go_sem]
      exact ⟨_, Sub.refl _, Or.inl ⟨E, rfl, hd, Or.inl hJ⟩⟩
    have hll := hl _ (List.getElem_mem c)
    simp only [go_sem, c, ltN' c, getD_map' _ _ _ _ c, lvE_mk]
    refine AWP.roam (ι := Nat × Store) (fun x => x.1 ≤ ls[i].length ∧ Disj T0 x.2 ∧ J ((bucksF 0 (ls.take i)).length + x.1) x.2)
      (fun x => ⟨Env.get [(0, .fn (.yield l) [] []), (1, .sp b 0), (3, i64 i), (8, .p (.sl (ls.map lvE))), (9, i64 ls.length), (10, i64 i), (15, .p (lvP ls[i])), (16, i64 ls[i].length), (17, i64 x.1)], Store.join x.2 T0, 29, []⟩) (fun x => ls[i].length - x.1) (0, E) ⟨by simp, hd, hJ⟩ ?_ ?_
    · exact le_of (by simp only [go_sem, lvP] <;> simp) (Sub.refl _) rfl rfl (by simp)
    · rintro ⟨j, E⟩ ⟨hj, hd, hJ⟩ jh
      dsimp only at hj hd hJ ⊢
      refine AWPH.step (xc_ok (bitB 67604315) _ _ _ ?_)
      by_cases cj : j < ls[i].length
      rotate_left
      · obtain rfl : j = ls[i].length := by omega
        simp only [go_sem, lvP]
        refine (ih (i + 1, E) ⟨c, hd, by rw [bucks_next ls i c]; simpa using hJ⟩ (by dsimp only; omega)).back (Sub.refl _) (by simp) ?_
        simp only [go_sem, wi_succ (show i < 4611686018427387904 by omega)]
      have hget := bucks_get ls i c j cj
      simp only [go_sem, lvP, cj, ltN' cj, getD_map' _ _ _ _ cj]
      refine alloc_intro fun d hfd => ?_
      have hfd' := join_none hfd
      simp only [go_sem]
      rw [join_set]
      have hyi := hy _ hget.1 E (T0.set (.r d) (.cells [u64 (ls[i][j]).a, u64 (ls[i][j]).b])) ((Sub.refl T0).set hfd'.2 _) (hd.setT hfd'.1 _) hJ
      simp only [itemsB, hget.2] at hyi
      have hjs : wi ((j : Int) + 1) = ((j + 1 : Nat) : Int) := wi_succ (show j < 4611686018427387904 by omega)
      refine AWP.orders (bitB 67604315) mixed [[0,1,2,3,4,5],[0,2,1,3,4,5],[0,2,3,1,4,5],[1,0,2,3,4,5],[1,2,0,3,4,5],[1,2,3,0,4,5],[2,0,1,3,4,5],[2,0,3,1,4,5],[2,1,0,3,4,5],[2,1,3,0,4,5],[2,3,0,1,4,5],[2,3,1,0,4,5]] (by kernel_rfl) ?_
      simp only [List.forall_mem_cons, List.not_mem_nil, false_implies, implies_true, and_true, opsAt, List.getElem?_cons_zero, List.getElem?_cons_succ]
      refine ⟨?_, ?_, ?_, ?_, ?_, ?_, ?_, ?_, ?_, ?_, ?_, ?_⟩
      all_goals
        simp only [go_sem]
        refine hyi.useA rfl ?_
        rintro r S' ⟨E', rfl, hd2, ⟨rfl, hJ2⟩ | ⟨rfl, hJ2⟩⟩
        · obtain ⟨hd3, hed⟩ := hd2.unsetT hfd'.2
          simp only [go_sem]
          refine (jh (j + 1, E') ⟨cj, hd3, by rw [← Nat.add_assoc]; exact hJ2⟩ (by dsimp only; omega)).back (sub_join_set hfd'.2 hed) (by simp) ?_
          simp only [go_sem, hjs, lvP]
        · obtain ⟨hd3, hed⟩ := hd2.unsetT hfd'.2
          simp only [go_sem]
          exact ⟨_, sub_join_set hfd'.2 hed, Or.inl ⟨E', rfl, hd3, Or.inr hJ2⟩⟩

theorem est_buckets (k g : Int) (ls : List (List Span)) (S : Store) : CallR Tryz.prog 163 [(Hist.mk k g ls).av] S
    (fun r S' => ∃ b, Fresh S b ∧ r = .fn (.func 206) [] [.sp b 0] ∧ S' = S.set (.r b) (.cells [i64 k, i64 g, .p (.sl (ls.map lvE))])) := by
  refine callR_of Tryz.func163 rfl rfl (xc_ok (bitB 7) _ _ _ ?_)
  simp only [go_sem]
  refine alloc_intro fun b hb => ?_
  simp only [go_sem]
  exact ⟨_, Sub.refl _, Or.inl ⟨b, hb, rfl, rfl⟩⟩

set_option maxHeartbeats 1000000 in
set_option maxRecDepth 4000 in
theorem est_Parts (k g : Int) (ls : List (List Span)) (tick span : Nat) (hn : ls.length < 1099511627776) (hl : ∀ l ∈ ls, l.length < 1099511627776) :
    Pure Tryz.prog 103 [(Hist.mk k g ls).av, u64 tick, u64 span] (.tuple [u64 (partsV ls tick span).1, u64 (partsV ls tick span).2]) := fun S => by
  refine callR_of Tryz.func103 rfl rfl (xc_ok (bitB 67608575) _ _ _ ?_)
  simp only [go_sem]
  refine alloc_intro fun c3 h3 => ?_
  simp only [go_sem]
  refine alloc_intro fun c4 h4 => ?_
  simp only [fresh_set] at h4
  simp only [go_sem, h4]
  refine alloc_intro fun c5 h5 => ?_
  simp only [fresh_set] at h5
  simp only [go_sem, h4, h5]
  refine alloc_intro fun c8 h8 => ?_
  simp only [fresh_set] at h8
  simp only [go_sem, h4, h5, h8]
  refine alloc_intro fun c9 h9 => ?_
  simp only [fresh_set] at h9
  simp only [go_sem, h4, h5, h8, h9]
  refine alloc_intro fun c10 h10 => ?_
  simp only [fresh_set] at h10
  simp only [go_sem, h4, h5, h8, h9, h10]
  refine (est_buckets k g ls _).useA ?_
  rintro _ _ ⟨b, hb, rfl, rfl⟩
  simp only [fresh_set] at hb
  simp only [go_sem, h4, h5, h8, h9, h10, hb]
  obtain ⟨L, hL⟩ : ∃ L, bucksF 0 ls = L := ⟨_, rfl⟩
  have hseq := est_buckets1 k g ls hn hl (T0 := eS.set (.r b) (.cells [i64 k, i64 g, .p (.sl (ls.map lvE))])) (b := b) (by simp only [go_sem])
  have hpv : partsV ls tick span = partsF tick span (0, 0) L := by unfold partsV; rw [hL]
  rw [hL] at hseq
  rw [hpv]
  have g4 : S (.r c4) = none := h4.2
  have g5 : S (.r c5) = none := h5.2.2
  have g8 : S (.r c8) = none := h8.2.2.2
  have g9 : S (.r c9) = none := h9.2.2.2.2
  have g10 : S (.r c10) = none := h10.2.2.2.2.2
  have gb : S (.r b) = none := hb.2.2.2.2.2.2.2.2
  refine AWP.rangeE (ι := Unit) (f := 206) (first := []) (caps := [.sp b 0]) (by simp only [go_sem]) _
    (fun j _ => ((((S.set (.r c4) (.cells [u64 tick])).set (.r c5) (.cells [u64 span])).set (.r c8) (.cells [.fn (.func 162) [] [.sp c5 0, .sp c4 0]])).set (.r c9) (.cells [u64 (partsF tick span (0, 0) (L.take j)).1])).set (.r c10) (.cells [u64 (partsF tick span (0, 0) (L.take j)).2])) ()
    ?_ ?_ hseq (enterable_of Tryz.func206 rfl rfl) (fun _ _ => False) (fun _ _ => rfl) (by simp) ?_ ?_ ?_
  · refine sub_joinT (sub_join0 ?_) ?_ ?_
    · ((try dsimp only); (repeat refine sub_set ?_ ?_) <;> first | ((repeat (first | exact Sub.refl _ | refine Sub.setF ?_ (by first | assumption | simp only [*]) | refine Sub.setV ?_ (by first | assumption | simp only [*]))); done) | (simp only [go_sem, h4, h5, h8, h9, h10, hb, List.take_zero, partsF, List.foldl_nil]; done) | (simp only [go_sem, h4, h5, h8, h9, h10, hb, List.take_zero, partsF, List.foldl_nil]; rfl) | rfl)
    all_goals simp only [go_sem, h4, h5, h8, h9, h10, hb, gb]
  · refine (Disj.nil _).setT ?_ _
    simp only [go_sem, h4, h5, h8, h9, h10, hb, gb]
  · intro j _ l hj T hT hdT
    refine xc_ok (bitB 67608575) _ _ _ ?_
    simp only [go_sem, itemsB]
    refine alloc_intro fun e he => ?_
    have hje := join_none he
    obtain ⟨x, hx⟩ : ∃ x, L.getD j default = x := ⟨_, rfl⟩
    have hsn : partsF tick span (0, 0) (L.take (j + 1)) = partStep tick span (partsF tick span (0, 0) (L.take j)) x := by
      rw [List.take_succ_eq_append_getElem hj, parts_snoc, ← hx]; simp [List.getD_eq_getElem?_getD, hj]
    simp only [hx]
    simp only [go_sem]
    refine ⟨_, by rw [join_set]; exact Sub.refl _, hdT.set hje.1 _, fun T' hT' hdT' => ?_⟩
    refine xc_ok (bitB 67608575) _ _ _ ?_
    have n4 : ¬ c4 = e ∧ ¬ e = c4 := by constructor <;> rintro rfl <;> simp [Store.set, h5, h8, h9, h10] at hje
    have n5 : ¬ c5 = e ∧ ¬ e = c5 := by constructor <;> rintro rfl <;> simp [Store.set, h8, h9, h10] at hje
    have n8 : ¬ c8 = e ∧ ¬ e = c8 := by constructor <;> rintro rfl <;> simp [Store.set, h9, h10] at hje
    have n9 : ¬ c9 = e ∧ ¬ e = c9 := by constructor <;> rintro rfl <;> simp [Store.set, h10] at hje
    have n10 : ¬ c10 = e ∧ ¬ e = c10 := by constructor <;> rintro rfl <;> simp [Store.set] at hje
    have ge : S (.r e) = none := by have := hje.2; simpa [Store.set, n4, n5, n8, n9, n10] using this
    simp only [go_sem, h4, h5, h8, h9, h10, n4, n5, n8, n9, n10]
    refine (parts_within x.1.a tick span ?_ ?_).useA ?_
    · simp only [go_sem, h4, h5, h8, h9, h10, n4, n5, n8, n9, n10]
    · simp only [go_sem, h4, h5, h8, h9, h10, n4, n5, n8, n9, n10]
    rintro _ _ ⟨rfl, rfl⟩
    cases q1 : inW tick span x.1.a
    · simp only [go_sem, h4, h5, h8, h9, h10, n4, n5, n8, n9, n10]
      refine (parts_within x.1.b tick span ?_ ?_).useA ?_
      · simp only [go_sem, h4, h5, h8, h9, h10, n4, n5, n8, n9, n10]
      · simp only [go_sem, h4, h5, h8, h9, h10, n4, n5, n8, n9, n10]
      rintro _ _ ⟨rfl, rfl⟩
      cases q2 : inW tick span x.1.b
      · simp only [go_sem, h4, h5, h8, h9, h10, n4, n5, n8, n9, n10]
        have hps : partsF tick span (0, 0) (L.take (j + 1)) = partsF tick span (0, 0) (L.take j) := by rw [hsn]; simp [partStep, q1, q2]
        simp only [hps]
        refine ⟨(), ?_, ?_⟩
        · refine Sub.joinD ?_ hdT'
          ((try dsimp only); (repeat refine sub_set ?_ ?_) <;> first | ((repeat (first | exact Sub.refl _ | refine Sub.setF ?_ (by first | assumption | simp only [*]) | refine Sub.setV ?_ (by first | assumption | simp only [*]))); done) | (simp only [go_sem, h4, h5, h8, h9, h10, n4, n5, n8, n9, n10, g4, g5, g8, g9, g10]; done) | (simp only [go_sem, h4, h5, h8, h9, h10, n4, n5, n8, n9, n10, g4, g5, g8, g9, g10]; rfl) | rfl)
        · (intro q; refine (hdT' q).elim (fun e => Or.inl ?_) (fun e => Or.inr e); simp only [set_none_iff] at e ⊢; simp only [e, not_false_eq_true, and_self])
      · simp only [go_sem, h4, h5, h8, h9, h10, n4, n5, n8, n9, n10]
        have hps : partsF tick span (0, 0) (L.take (j + 1)) = ((partsF tick span (0, 0) (L.take j)).1, m64 ((partsF tick span (0, 0) (L.take j)).2 + units x.2)) := by rw [hsn]; simp [partStep, q1, q2]
        simp only [hps]
        refine ⟨(), ?_, ?_⟩
        · rw [join_set]
          refine Sub.joinD ?_ (hdT'.setE (y := .cells [u64 (partsF tick span (0, 0) (L.take j)).2]) (by simp only [go_sem, h4, h5, h8, h9, h10, n4, n5, n8, n9, n10]) _)
          ((try dsimp only); (repeat refine sub_set ?_ ?_) <;> first | ((repeat (first | exact Sub.refl _ | refine Sub.setF ?_ (by first | assumption | simp only [*]) | refine Sub.setV ?_ (by first | assumption | simp only [*]))); done) | (simp only [go_sem, h4, h5, h8, h9, h10, n4, n5, n8, n9, n10, g4, g5, g8, g9, g10]; done) | (simp only [go_sem, h4, h5, h8, h9, h10, n4, n5, n8, n9, n10, g4, g5, g8, g9, g10]; rfl) | rfl)
        · (intro q; refine (hdT' q).elim (fun e => Or.inl ?_) (fun e => Or.inr e); simp only [set_none_iff] at e ⊢; simp only [e, not_false_eq_true, and_self])
    · simp only [go_sem, h4, h5, h8, h9, h10, n4, n5, n8, n9, n10]
      have hps : partsF tick span (0, 0) (L.take (j + 1)) = (m64 ((partsF tick span (0, 0) (L.take j)).1 + units x.2), (partsF tick span (0, 0) (L.take j)).2) := by rw [hsn]; simp [partStep, q1]
      simp only [hps]
      refine ⟨(), ?_, ?_⟩
      · rw [join_set]
        refine Sub.joinD ?_ (hdT'.setE (y := .cells [u64 (partsF tick span (0, 0) (L.take j)).1]) (by simp only [go_sem, h4, h5, h8, h9, h10, n4, n5, n8, n9, n10]) _)
        ((try dsimp only); (repeat refine sub_set ?_ ?_) <;> first | ((repeat (first | exact Sub.refl _ | refine Sub.setF ?_ (by first | assumption | simp only [*]) | refine Sub.setV ?_ (by first | assumption | simp only [*]))); done) | (simp only [go_sem, h4, h5, h8, h9, h10, n4, n5, n8, n9, n10, g4, g5, g8, g9, g10]; done) | (simp only [go_sem, h4, h5, h8, h9, h10, n4, n5, n8, n9, n10, g4, g5, g8, g9, g10]; rfl) | rfl)
      · (intro q; refine (hdT' q).elim (fun e => Or.inl ?_) (fun e => Or.inr e); simp only [set_none_iff] at e ⊢; simp only [e, not_false_eq_true, and_self])
  · intro _ d hd
    have hjd := join_none hd
    have n9 : ¬ c9 = d ∧ ¬ d = c9 := by constructor <;> rintro rfl <;> simp [Store.set, h10] at hjd
    have n10 : ¬ c10 = d ∧ ¬ d = c10 := by constructor <;> rintro rfl <;> simp [Store.set] at hjd
    simp only [go_sem, List.take_length, h4, h5, h8, h9, h10, n9, n10]
    refine AWP.draw2 (bitB 67608575) mixed (by kernel_rfl) (fun i => bl false) ?_
    simp only [go_sem, h4, h5, h8, h9, h10, n9, n10]
    have n4 : ¬ c4 = d ∧ ¬ d = c4 := by constructor <;> rintro rfl <;> simp [Store.set, h5, h8, h9, h10] at hjd
    have n5 : ¬ c5 = d ∧ ¬ d = c5 := by constructor <;> rintro rfl <;> simp [Store.set, h8, h9, h10] at hjd
    have n8 : ¬ c8 = d ∧ ¬ d = c8 := by constructor <;> rintro rfl <;> simp [Store.set, h9, h10] at hjd
    have gd : S (.r d) = none := by have := hjd.2; simpa [Store.set, n4, n5, n8, n9, n10] using this
    refine ⟨S, Sub.set (Sub.joinL ?_) gd _, fun r hr => hr ▸ gd, by simp⟩
    (repeat (first | exact Sub.refl _ | refine Sub.setF ?_ (by first | assumption | simp only [*]) | refine Sub.setV ?_ (by first | assumption | simp only [*])))
  · intro e E' d _ h; exact h.elim

theorem est_Of (k g : Int) (ls : List (List Span)) (tick span : Nat) (hn : ls.length < 1099511627776) (hl : ∀ l ∈ ls, l.length < 1099511627776) :
    Pure Tryz.prog 40 [(Hist.mk k g ls).av, u64 tick, u64 span] (u64 (estV ls tick span)) := fun S => by
  refine callR_of Tryz.func40 rfl rfl (xc_ok (bitB 463) _ _ _ ?_)
  simp only [go_sem]
  refine alloc_intro fun b hb => ?_
  simp only [go_sem]
  refine (est_Parts k g ls tick span hn hl).useA ?_
  simp only [go_sem]
  (refine ⟨S, by (repeat (first | exact Sub.refl _ | refine Sub.setF ?_ (by first | assumption | simp only [*]) | refine Sub.setV ?_ (by first | assumption | simp only [*]))), ?_⟩); simp [estV]
end Go.Sk
end

-- A19a
section
namespace Go.Sk

theorem inW_mono (tick span : Nat) : Mono (inW tick span) := by
  intro x y h hx
  unfold inW at *
  simp only [Bool.or_eq_true, decide_eq_true_eq] at *
  omega
theorem lo_le_hi {W : Nat → Bool} (hW : Mono W) {l : List Span} (hv : ∀ s ∈ l, s.a ≤ s.b) : lo W l ≤ hi W l :=
  List.countP_mono_left (fun s hs h => hW _ _ (hv s hs) h)
theorem loL_le_hiL {W : Nat → Bool} (hW : Mono W) : ∀ (ls : List (List Span)) (i : Nat), (∀ s ∈ flat ls, s.a ≤ s.b) → loL W i ls ≤ hiL W i ls := by
  intro ls
  induction ls with
  | nil => intro i _; exact Nat.le_refl _
  | cons l r ih =>
    intro i hv
    have h1 := Nat.mul_le_mul_right (2 ^ i) (lo_le_hi hW (l := l) (fun s hs => hv s (List.mem_append_right _ hs)))
    have h2 := ih (i + 1) (fun s hs => hv s (List.mem_append_left _ hs))
    unfold loL hiL; omega
theorem hiL_le_tot (W : Nat → Bool) : ∀ (ls : List (List Span)) (i : Nat), hiL W i ls ≤ totN i ls := by
  intro ls
  induction ls with
  | nil => intro i; exact Nat.le_refl _
  | cons l r ih =>
    intro i
    have h1 : hi W l * 2 ^ i ≤ l.length * 2 ^ i := Nat.mul_le_mul_right _ List.countP_le_length
    have h2 := ih (i + 1)
    unfold hiL totN; omega
theorem part_level (tick span i : Nat) (hi64 : i < 64) : ∀ (l : List Span), (∀ s ∈ l, s.a ≤ s.b) → ∀ p : Nat × Nat, p.1 + p.2 + l.length * 2 ^ i < 18446744073709551616 →
    partsF tick span p (l.map (fun s => (s, i))) = (p.1 + lo (inW tick span) l * 2 ^ i, p.2 + (hi (inW tick span) l - lo (inW tick span) l) * 2 ^ i) := by
  have hpow : (2 : Nat) ^ i < 18446744073709551616 := by
    have h1 : (2 : Nat) ^ i < 2 ^ 64 := Nat.pow_lt_pow_right (by decide) hi64
    have e : (2 : Nat) ^ 64 = 18446744073709551616 := by decide
    omega
  have hu : units i = 2 ^ i := by unfold units; rw [Nat.min_eq_left (by omega), Nat.one_mul, m64_id hpow]
  intro l
  induction l with
  | nil => intro _ p _; simp [partsF, lo, hi]
  | cons s t ih =>
    intro hv p hp
    have hvs := hv s (by simp)
    have hvt : ∀ s ∈ t, s.a ≤ s.b := fun s hs => hv s (by simp [hs])
    have hlh := lo_le_hi (inW_mono tick span) hvt
    rw [List.length_cons, Nat.add_mul, Nat.one_mul] at hp
    show partsF tick span (partStep tick span p (s, i)) (t.map (fun s => (s, i))) = _
    unfold partStep
    dsimp only
    rw [hu]
    unfold lo hi at ih hlh ⊢
    simp only [List.countP_cons]
    cases ha : inW tick span s.a with
    | true =>
      have hb := inW_mono tick span s.a s.b hvs ha
      rw [if_pos rfl, m64_id (by omega), ih hvt _ (by dsimp only; omega)]
      rw [hb]
      simp only [if_true, Nat.add_sub_add_right, Nat.add_mul, Nat.one_mul]
      congr 1; omega
    | false =>
      cases hb : inW tick span s.b with
      | true =>
        simp only [Bool.false_eq_true, if_false, if_true]
        rw [m64_id (by omega), ih hvt _ (by dsimp only; omega)]
        rw [Nat.add_zero, show ∀ a b : Nat, b ≤ a → a + 1 - b = (a - b) + 1 from fun a b h => by omega]
        · rw [Nat.add_mul, Nat.one_mul]; congr 1; omega
        · exact hlh
      | false =>
        simp only [Bool.false_eq_true, if_false, Nat.add_zero]
        exact ih hvt _ (by omega)
theorem parts_eq (tick span : Nat) : ∀ (ls : List (List Span)) (i : Nat), i + ls.length ≤ 64 → (∀ s ∈ flat ls, s.a ≤ s.b) → ∀ p : Nat × Nat, p.1 + p.2 + totN i ls < 18446744073709551616 →
    partsF tick span p (bucksF i ls) = (p.1 + loL (inW tick span) i ls, p.2 + (hiL (inW tick span) i ls - loL (inW tick span) i ls)) := by
  intro ls
  induction ls with
  | nil => intro i _ _ p _; simp [partsF, bucksF, loL, hiL]
  | cons l r ih =>
    intro i hi64 hv p hp
    have hvl : ∀ s ∈ l, s.a ≤ s.b := fun s hs => hv s (List.mem_append_right _ hs)
    have hvr : ∀ s ∈ flat r, s.a ≤ s.b := fun s hs => hv s (List.mem_append_left _ hs)
    rw [List.length_cons] at hi64
    unfold totN at hp
    have e : partsF tick span p (bucksF i (l :: r)) = partsF tick span (partsF tick span p (l.map (fun s => (s, i)))) (bucksF (i + 1) r) := by
      unfold partsF; rw [← List.foldl_append]; rfl
    have hlo := lo_le_hi (inW_mono tick span) hvl
    have hloL := loL_le_hiL (inW_mono tick span) r (i + 1) hvr
    have m1 : lo (inW tick span) l * 2 ^ i ≤ hi (inW tick span) l * 2 ^ i := Nat.mul_le_mul_right _ hlo
    have m2 : hi (inW tick span) l * 2 ^ i ≤ l.length * 2 ^ i := Nat.mul_le_mul_right _ List.countP_le_length
    rw [e, part_level tick span i (by omega) l hvl p (by omega), Nat.sub_mul, ih (i + 1) (by omega) hvr _ (by dsimp only; omega)]
    dsimp only
    rw [show loL (inW tick span) i (l :: r) = lo (inW tick span) l * 2 ^ i + loL (inW tick span) (i + 1) r from rfl, show hiL (inW tick span) i (l :: r) = hi (inW tick span) l * 2 ^ i + hiL (inW tick span) (i + 1) r from rfl]
    congr 1 <;> omega
/-- The estimate, in plain numbers. -/
theorem est_eq {ls : List (List Span)} (hv : ∀ s ∈ flat ls, s.a ≤ s.b) (hl : ls.length ≤ 64) (ht : totN 0 ls ≤ 4503599627370496) (tick span : Nat) :
    estV ls tick span = loL (inW tick span) 0 ls + (hiL (inW tick span) 0 ls - loL (inW tick span) 0 ls) / 2 ∧ hiL (inW tick span) 0 ls ≤ 4503599627370496 ∧ loL (inW tick span) 0 ls ≤ hiL (inW tick span) 0 ls := by
  have h1 := hiL_le_tot (inW tick span) ls 0
  have h2 := loL_le_hiL (inW_mono tick span) ls 0 hv
  refine ⟨?_, by omega, h2⟩
  unfold estV partsV
  rw [parts_eq tick span ls 0 (by omega) hv (0, 0) (by dsimp only; omega)]
  dsimp only
  rw [Nat.zero_add, Nat.zero_add, m64_id (by omega)]

end Go.Sk
end

-- LB
section
namespace Go.Sk
open Go Go.Proofs Go.ChangeShapes Go.WideShapes Go.ChangeAt Go.RowKit

theorem bulkOk (H : Type) : BulkOk (H := H) YthpfcfacofakoaaGreat.Rows.uptoBulk YthpfcfacofakoaaGreat.Rows.uptoBulkAll where
  cons := fun d r => by simp [YthpfcfacofakoaaGreat.Rows.uptoBulkAll]
  slice := fun e s => by simp [YthpfcfacofakoaaGreat.Rows.uptoBulk]
  agg := fun p => by simp [YthpfcfacofakoaaGreat.Rows.uptoBulk]
  str := fun s => by simp [YthpfcfacofakoaaGreat.Rows.uptoBulk]
  one := fun d => by
    cases d with
    | lit l => cases l <;> simp [YthpfcfacofakoaaGreat.Rows.uptoBulk]
    | _ => simp [YthpfcfacofakoaaGreat.Rows.uptoBulk]
theorem own : ownKnob Tryz.prog.godebug = none := by kernel_rfl
theorem kids : Kids Tryz.prog (· < Tryz.prog.types.size) := kids_rows (by kernel_rfl) (by kernel_rfl)
theorem full : ∀ t e, t < Tryz.prog.types.size → Tryz.prog.underlying t = some (.slice e) → 0 < Tryz.prog.cellsOf e := slices_full_of Tryz.prog (by kernel_rfl)
theorem small_cons {H : Type} {d : DataW H} {r : List (DataW H)} {N : Nat} (h : YthpfcfacofakoaaGreat.Rows.uptoBulkAll (d :: r) ≤ N) : YthpfcfacofakoaaGreat.Rows.uptoBulk d ≤ N ∧ YthpfcfacofakoaaGreat.Rows.uptoBulkAll r ≤ N := by
  simp only [YthpfcfacofakoaaGreat.Rows.uptoBulkAll] at h; omega

theorem fit_u64 {N : Nat} {pv : PV} (h : Fit N (.int .u64) pv) : ∃ n : Nat, n < 18446744073709551616 ∧ pv = .int .u64 n := by
  cases h with
  | int k n h1 h2 =>
    have e1 : IntKind.u64.min = 0 := rfl
    have e2 : IntKind.u64.max = 18446744073709551615 := rfl
    rw [e1] at h1; rw [e2] at h2
    exact ⟨n.toNat, by omega, by rw [Int.toNat_of_nonneg h1]⟩
theorem fit_i64 {N : Nat} {pv : PV} (h : Fit N (.int .i64) pv) : ∃ n : Int, (-9223372036854775808 ≤ n ∧ n < 9223372036854775808) ∧ pv = .int .i64 n := by
  cases h with
  | int k n h1 h2 =>
    have e1 : IntKind.i64.min = -9223372036854775808 := rfl
    have e2 : IntKind.i64.max = 9223372036854775807 := rfl
    rw [e1] at h1; rw [e2] at h2
    exact ⟨n, ⟨h1, by omega⟩, rfl⟩
/-- A list of elements, each of them something. -/
theorem fit_list {α : Type} {N : Nat} {el : List Sh} {pv : PV} {pvf : α → List PV} {ok : α → Prop} (h : Fit N (.sl el) pv)
    (ho : ∀ l : List PV, l.length = el.length → (∀ j, j < el.length → Fit N (el.getD j .bool) (l.getD j default)) → ∃ x, l = pvf x ∧ ok x) :
    ∃ l : List α, pv = .sl (l.map pvf) ∧ (∀ x ∈ l, ok x) ∧ l.length ≤ N := by
  cases h with
  | sl _ els hN hl hf =>
    have key : ∀ els : List (List PV), (∀ e ∈ els, e.length = el.length) → (∀ i j, i < els.length → j < el.length → Fit N (el.getD j .bool) ((els.getD i []).getD j default)) → ∃ l : List α, els = l.map pvf ∧ ∀ x ∈ l, ok x := by
      intro els
      induction els with
      | nil => intro _ _; exact ⟨[], rfl, fun x hx => by cases hx⟩
      | cons e r ih =>
        intro h1 h2
        obtain ⟨x, hx, hk⟩ := ho e (h1 e List.mem_cons_self) (fun j hj => by have := h2 0 j (by simp) hj; simpa using this)
        obtain ⟨l, hl, hlk⟩ := ih (fun e he => h1 e (List.mem_cons_of_mem _ he)) (fun i j hi hj => by have := h2 (i + 1) j (by simpa using hi) hj; simpa using this)
        exact ⟨x :: l, by rw [hx, hl]; rfl, fun y hy => by
          rcases List.mem_cons.1 hy with rfl | hy
          · exact hk
          · exact hlk y hy⟩
    obtain ⟨l, rfl, hk⟩ := key els hl hf
    exact ⟨l, rfl, hk, by simpa using hN⟩
theorem fit_three {N : Nat} {a b c : Sh} {l : List PV} (hl : l.length = [a, b, c].length) (hf : ∀ j, j < [a, b, c].length → Fit N ([a, b, c].getD j .bool) (l.getD j default)) : ∃ x y z, l = [x, y, z] ∧ Fit N a x ∧ Fit N b y ∧ Fit N c z := by
  match l, hl with
  | [x, y, z], _ => exact ⟨x, y, z, rfl, by simpa using hf 0 (by simp), by simpa using hf 1 (by simp), by simpa using hf 2 (by simp)⟩

section
variable {H : Type} {enc : TypeId × Value → H}
set_option maxRecDepth 100000 in
theorem arg_i64 {W : World} {base N : Nat} {v : Value} {d : DataW H} {p : List MemPlace} (hok : Value.okWide Tryz.prog W .any base 3 v) (h : DataW.Trod enc Tryz.prog W 0 (fun _ => true) true 3 v d p) (hN : YthpfcfacofakoaaGreat.Rows.uptoBulk d ≤ N) :
    ∃ n : Int, (-9223372036854775808 ≤ n ∧ n < 9223372036854775808) ∧ RepA (allD W) W v (i64 n) := by
  obtain ⟨n, rfl⟩ := okWide_int Tryz.underlying3 hok
  obtain ⟨pv, hf, hr⟩ := arg_one (N := N) (f := 8) (bulkOk H) (show shOf Tryz.prog 8 3 = some [.int .i64] by kernel_rfl) (fun c h => by cases h) h hN
  obtain ⟨n, h1, rfl⟩ := fit_i64 hf
  exact ⟨n, h1, hr⟩
end

theorem and_ok {a b : Bool} (h : a = true) (k : b = true) : (a && b) = true := by rw [h, k]; rfl
theorem j_laid : laidOutB Tryz.prog = true := by kernel_rfl
theorem j_maps : mapsRowed Tryz.prog = true := by kernel_rfl
theorem j_heard : Tryz.prog.stopsHeard = true := by kernel_rfl
theorem j_enter : Tryz.prog.mayEnter = true := by kernel_rfl
end Go.Sk
end

-- LE
section
namespace Go.Sk
open Go Go.Proofs Go.ChangeShapes Go.WideShapes Go.ChangeAt Go.RowKit

theorem fit_events {N : Nat} {pv : PV} (h : Fit N (.sl [.int .u64, .int .u64, .int .u64]) pv) : ∃ l : List Event, pv = evsP l ∧ (∀ e ∈ l, e.Ok) ∧ l.length ≤ N := by
  refine fit_list (pvf := Event.pv) (ok := Event.Ok) h (fun l hl hf => ?_)
  obtain ⟨a, b, c, rfl, ha, hb, hc⟩ := fit_three hl hf
  obtain ⟨x, hx, rfl⟩ := fit_u64 ha
  obtain ⟨y, hy, rfl⟩ := fit_u64 hb
  obtain ⟨z, hz, rfl⟩ := fit_u64 hc
  exact ⟨⟨x, y, z⟩, rfl, hx, hy, hz⟩
section
variable {H : Type} {enc : TypeId × Value → H}
end
end Go.Sk
end

-- LD
section
namespace Go.Sk
open Go Go.Proofs Go.ChangeShapes Go.WideShapes Go.ChangeAt Go.RowKit

section
variable {H : Type} {enc : TypeId × Value → H}
end
end Go.Sk
end

-- LI
section
namespace Go.Sk
open Go Go.Proofs Go.ChangeShapes Go.WideShapes Go.ChangeAt Go.RowKit

def iE (n : Int) : List PV := [.int .i64 n]
def evlE (l : List Event) : List PV := [.sl (l.map Event.pv)]
section
variable {H : Type} {enc : TypeId × Value → H}
end
end Go.Sk
end

-- LJ
section
namespace Go.Sk
open Go Go.Proofs Go.ChangeShapes Go.WideShapes Go.ChangeAt Go.RowKit

theorem shDeed3 : shOf Tryz.prog 8 54 = some [.sl [.int .u64, .int .u64, .int .u64], .sl [.int .u64, .int .u64, .int .u64], .sl [.int .u64, .int .u64, .int .u64]] := by kernel_rfl
section
variable {H : Type} {enc : TypeId × Value → H}
set_option maxRecDepth 100000 in
theorem arg_deed3 {W : World} {base N : Nat} {v : Value} {d : DataW H} {p : List MemPlace} (hok : Value.okWide Tryz.prog W .any base 54 v) (h : DataW.Trod enc Tryz.prog W 0 (fun _ => true) true 54 v d p) (hN : YthpfcfacofakoaaGreat.Rows.uptoBulk d ≤ N) :
    ∃ l0 l1 l2 : List Event, (((∀ e ∈ l0, e.Ok) ∧ l0.length ≤ N) ∧ ((∀ e ∈ l1, e.Ok) ∧ l1.length ≤ N) ∧ ((∀ e ∈ l2, e.Ok) ∧ l2.length ≤ N)) ∧ RepA (allD W) W v (.agg [.p (evsP l0), .p (evsP l1), .p (evsP l2)]) := by
  obtain ⟨pvs, hl, hf, hr⟩ := arg_agg (N := N) (f := 8) (bulkOk H) shDeed3 (by rw [Tryz.underlying54]) hok h hN
  match pvs, hl with
  | [a, b, c], _ =>
    obtain ⟨x, e0, h0, n0⟩ := fit_events (hf 0 (by simp))
    obtain ⟨y, e1, h1, n1⟩ := fit_events (hf 1 (by simp))
    obtain ⟨z, e2, h2, n2⟩ := fit_events (hf 2 (by simp))
    simp at e0 e1 e2
    subst e0; subst e1; subst e2
    exact ⟨x, y, z, ⟨⟨h0, n0⟩, ⟨h1, n1⟩, ⟨h2, n2⟩⟩, hr⟩
end
end Go.Sk
end

-- L3
section
namespace Go.Sk
open Go Go.Proofs Go.ChangeShapes Go.WideShapes Go.ChangeAt Go.RowKit

theorem shThree : shOf Tryz.prog 8 24 = some [.int .u64, .int .u64, .int .u64] := by kernel_rfl
section
variable {H : Type} {enc : TypeId × Value → H}
set_option maxRecDepth 100000 in
theorem arg_three {W : World} {base N : Nat} {v : Value} {d : DataW H} {p : List MemPlace} (hok : Value.okWide Tryz.prog W .any base 24 v) (h : DataW.Trod enc Tryz.prog W 0 (fun _ => true) true 24 v d p) (hN : YthpfcfacofakoaaGreat.Rows.uptoBulk d ≤ N) :
    ∃ n0 n1 n2 : Nat, (n0 < 18446744073709551616 ∧ n1 < 18446744073709551616 ∧ n2 < 18446744073709551616) ∧ RepA (allD W) W v (.agg [u64 n0, u64 n1, u64 n2]) := by
  obtain ⟨pvs, hl, hf, hr⟩ := arg_agg (N := N) (f := 8) (bulkOk H) shThree (by rw [Tryz.underlying24]) hok h hN
  match pvs, hl with
  | [a, b, c], _ =>
    obtain ⟨x0, h0, e0⟩ := fit_u64 (hf 0 (by simp))
    obtain ⟨x1, h1, e1⟩ := fit_u64 (hf 1 (by simp))
    obtain ⟨x2, h2, e2⟩ := fit_u64 (hf 2 (by simp))
    simp at e0 e1 e2
    subst e0; subst e1; subst e2
    exact ⟨x0, x1, x2, ⟨h0, h1, h2⟩, hr⟩
end
end Go.Sk
end
