/- Data of this program, as walks see it. -/
import Derived.Test.YtmpockfgppcnbaaSkT
set_option linter.unusedSimpArgs false
set_option linter.unusedVariables false
set_option linter.unusedSectionVars false
namespace Go.Sk
open Go Go.Proofs

structure Span where (a b : Nat)
  deriving DecidableEq, Inhabited
def Span.pv (s : Span) : List PV := [.int .u64 s.a, .int .u64 s.b]
def Span.av (s : Span) : AV := .agg (s.pv.map .p)
def lvP (l : List Span) : PV := .sl (l.map Span.pv)
def lvE (l : List Span) : List PV := [lvP l]
structure Hist where (k g : Int) (ls : List (List Span))
  deriving DecidableEq, Inhabited
def Hist.cs (h : Hist) : List PV := [.int .i64 h.k, .int .i64 h.g, .sl (h.ls.map lvE)]
def Hist.av (h : Hist) : AV := .agg (h.cs.map .p)
structure Seed where (a b : Nat)
  deriving DecidableEq, Inhabited
def Seed.pv (s : Seed) : List PV := [.int .u64 s.a, .int .u64 s.b]
def Seed.av (s : Seed) : AV := .agg (s.pv.map .p)
structure Event where (t k w : Nat)
  deriving DecidableEq, Inhabited
def Event.pv (e : Event) : List PV := [.int .u64 e.t, .int .u64 e.k, .int .u64 e.w]
def Event.av (e : Event) : AV := .agg (e.pv.map .p)
def evsP (l : List Event) : PV := .sl (l.map Event.pv)
structure Item where (k n : Nat)
  deriving DecidableEq, Inhabited
def Item.pv (e : Item) : List PV := [.int .u64 e.k, .int .u64 e.n]
def Item.av (e : Item) : AV := .agg (e.pv.map .p)
def itP (l : List Item) : PV := .sl (l.map Item.pv)

attribute [go_sem] Span.pv Span.av Hist.av Hist.cs Seed.av Seed.pv Event.pv Event.av Item.pv Item.av

abbrev i64 (n : Int) : AV := .p (.int .i64 n)
abbrev u64 (n : Nat) : AV := .p (.int .u64 (n : Int))
abbrev bl (b : Bool) : AV := .p (.bool b)

theorem getD_map' {α β : Type} (f : α → β) (l : List α) (i : Nat) (d : β) (h : i < l.length) : (l.map f).getD i d = f l[i] := by
  simp [List.getD_eq_getElem?_getD, h]

theorem done {S S1 : Store} {v : AV} {R : AV → Store → Prop} (h : Sub S S1) (hr : R v S) : ∃ S', Sub S' S1 ∧ R v S' := ⟨S, h, hr⟩

/-- A function that answers, whatever is owned, and leaves it as it is. -/
theorem Pure.useA {P : Program} {f : FuncId} {args a2 : List AV} {r : AV} {S : Store} {R : AV → Store → Prop} (h : Pure P f args r) (hr : R r S) : CallR P f args S R ∨ CallR P f a2 S R := Or.inl (h.use hr)
theorem CallR.useA {P : Program} {f : FuncId} {args a2 : List AV} {S : Store} {R K : AV → Store → Prop} (h : CallR P f args S R) (hr : ∀ x S', R x S' → K x S') : CallR P f args S K ∨ CallR P f a2 S K := Or.inl (h.mono hr)
theorem CallR.useB {P : Program} {f : FuncId} {args a2 : List AV} {S : Store} {R K : AV → Store → Prop} (h : CallR P f args S R) (hr : ∀ x S', R x S' → K x S') : CallR P f a2 S K ∨ CallR P f args S K := Or.inr (h.mono hr)

def KeepAll (S S' : Store) : Prop := ∀ k x, S k = some x → S' k = some x
/-- A function value that answers so, wherever its own blocks are kept. -/
def PureF (P : Program) (S : Store) (f : AV) (args : List AV) (r : AV) : Prop := ∀ S', KeepAll S S' → FunR P f args S' (fun x S'' => x = r ∧ S'' = S')
theorem PureF.use {P : Program} {S S' : Store} {f : AV} {args : List AV} {r : AV} {R : AV → Store → Prop} (h : PureF P S f args r) (hs : KeepAll S S') (hr : R r S') : FunR P f args S' R := by
  have h := h S' hs
  unfold FunR at h ⊢
  split at h
  · exact h.mono (by rintro _ _ ⟨rfl, rfl⟩; exact hr)
  · intro D w vs hR hv
    obtain ⟨fn, tm, asg, bo, hy, hg⟩ := h D w vs hR hv
    exact ⟨fn, tm, asg, bo, hy, hg.mono (by rintro _ _ ⟨x, S1, D', ⟨rfl, rfl⟩, h2⟩; exact ⟨_, _, D', hr, h2⟩)⟩
  · exact h.elim
theorem KeepAll.refl (S : Store) : KeepAll S S := fun _ _ h => h
theorem KeepAll.set {S S' : Store} (h : KeepAll S S') {k : Key} (hk : S k = none) (x : Blk) : KeepAll S (S'.set k x) := by
  intro q y hq
  rw [Store.set_other _ _ (by rintro rfl; rw [hk] at hq; cases hq)]; exact h q y hq
theorem Sub.setF {S S' : Store} {b : Nat} {x : Blk} (h : Sub S S') (hb : Fresh S b) : Sub S (S'.set (.r b) x) := h.set hb x
theorem Sub.setV {S S' : Store} {b : Nat} {x : Blk} (h : Sub S S') (hb : FreshV S b) : Sub S (S'.set (.v b) x) := h.set hb x
theorem KeepAll.setF {S S' : Store} {b : Nat} {x : Blk} (h : KeepAll S S') (hb : Fresh S b) : KeepAll S (S'.set (.r b) x) := h.set hb x
theorem KeepAll.setV {S S' : Store} {b : Nat} {x : Blk} (h : KeepAll S S') (hb : FreshV S b) : KeepAll S (S'.set (.v b) x) := h.set hb x
theorem PureF.useA {P : Program} {S S' : Store} {f : AV} {args a2 : List AV} {r : AV} {R : AV → Store → Prop} (h : PureF P S f args r) (ha : a2.map reif = args) (hs : KeepAll S S') (hr : R r S') : FunA P f a2 S' R :=
  Or.inl (by rw [ha]; exact h.use hs hr)
theorem FunR.of_call {P : Program} {g : FuncId} {first caps args : List AV} {S : Store} {R : AV → Store → Prop} (h : CallR P g (first ++ args ++ caps) S R) : FunR P (.fn (.func g) first caps) args S R := h
theorem KeepAll.get {S S' : Store} {k : Key} {x : Blk} (h : KeepAll S S') (hk : S k = some x) : S' k = some x := h _ _ hk
/-- A function value that is called. -/
theorem CallR.useF {P : Program} {g : FuncId} {first caps args a2 : List AV} {S : Store} {R K : AV → Store → Prop} (h : CallR P g (first ++ args ++ caps) S R) (ha : a2.map reif = args) (hr : ∀ x S', R x S' → K x S') : FunA P (.fn (.func g) first caps) a2 S K := Or.inl (by rw [ha]; exact FunR.of_call (h.mono hr))
theorem Pure.useF {P : Program} {g : FuncId} {first caps args a2 : List AV} {S : Store} {r : AV} {K : AV → Store → Prop} (h : Pure P g (first ++ args ++ caps) r) (ha : a2.map reif = args) (hr : K r S) : FunA P (.fn (.func g) first caps) a2 S K := (h S).useF ha (by rintro _ _ ⟨rfl, rfl⟩; exact hr)
theorem YieldR.mono {P : Program} {l : Nat} {args : List AV} {S : Store} {R K : AV → Store → Prop} (h : YieldR P l args S R) (hr : ∀ x S', R x S' → K x S') : YieldR P l args S K := by
  intro D w vs hR hv
  obtain ⟨fn, tm, asg, bo, hy, hg⟩ := h D w vs hR hv
  exact ⟨fn, tm, asg, bo, hy, hg.mono (by rintro _ _ ⟨x, S1, D', h1, h2⟩; exact ⟨_, _, D', hr _ _ h1, h2⟩)⟩
/-- A round of whoever ranges over this. -/
theorem YieldR.useA {P : Program} {l : Nat} {args a2 : List AV} {S : Store} {R K : AV → Store → Prop} (h : YieldR P l args S R) (ha : a2.map reif = args) (hr : ∀ x S', R x S' → K x S') : FunA P (.fn (.yield l) [] []) a2 S K := Or.inl (by rw [ha]; exact h.mono hr)
theorem Pure.draw {P : Program} {f : FuncId} {args : List AV} {r : AV} {S : Store} (h : Pure P f args r) : ∀ S1, KeepR S S1 → CallR P f args S1 (pureR r S1) := fun S1 _ => h S1
/-- A block that was written again, behind one that is new. -/
theorem Sub.upd {S : Store} {k : Key} {b : Nat} {x x' c : Blk} (hb : Fresh (S.set k x) b) : Sub (S.set k x') (((S.set k x).set (.r b) c).set k x') := by
  intro q y hq
  by_cases e : q = k
  · subst e; rw [Store.set_same] at hq ⊢; exact hq
  · rw [Store.set_other _ _ e] at hq ⊢
    have hn : q ≠ .r b := by
      rintro rfl
      have : (S.set k x) (.r b) = none := hb
      rw [Store.set_other _ _ e] at this; rw [hq] at this; cases this
    rw [Store.set_other _ _ hn, Store.set_other _ _ e]; exact hq
theorem Sub.both {S T : Store} (h : Sub S T) (k : Key) (x : Blk) : Sub (S.set k x) (T.set k x) := by
  intro q y hq
  by_cases e : q = k
  · subst e; rw [Store.set_same] at hq ⊢; exact hq
  · rw [Store.set_other _ _ e] at hq ⊢; exact h q y hq
/-- What is data is looked on as data. -/
theorem AWP.data (t : Nat) {P : Program} {ro : Option Nat} {c : Code} {Q : Ex → St → Prop} {ρ : Env} {S : Store} {n : Nat} {df : List Nat}
    (h : AWP P ro c Q ⟨(ρ.put t (reif1 (ρ.get t))).get, S, n, df⟩) : AWP P ro c Q ⟨ρ.get, S, n, df⟩ := by
  intro D w a hs
  refine h D w a ⟨hs.rel, fun u => ?_, hs.size, hs.defers, hs.df, hs.nodup⟩
  show RepA D w _ ((ρ.put t (reif1 (ρ.get t))).get u)
  rw [Env.get_put]
  split
  · rename_i e; subst e; exact reif1_rep (hs.slots u)
  · exact hs.slots u
/-- Back to the loop's head. -/
theorem AWPH.back {P : Program} {ro : Option Nat} {c : Code} {Q : Ex → St → Prop} {σ : Nat → AV} {ρ : Env} {S' S : Store} {n : Nat} {df : List Nat} (h : AWPH P ro c Q ⟨ρ.get, S', n, df⟩)
    (h2 : Sub S' S) (h3 : ∀ r ∈ df, S' (.r r) = some (.raw (.deferred (some [])) noKn)) (h1 : subEnv ρ σ) : AWPH P ro c Q ⟨σ, S, n, df⟩ :=
  h.of_le (le_of h1 h2 rfl rfl h3)
end Go.Sk
