/- Texts W0 A12 WMx W13p A5 W5 A6 W6 W6c A7 A18 A20 LB LE LD LI L3, joined. -/
import Derived.Test.YthpfcfacofakoaaGreatSkT
import Derived.Test.YthpfcfacofakoaaGreatSkTp
import Derived.Test.YthpfcfacofakoaaGreatSkRg
import Derived.Test.YthpfcfacofakoaaGreatSkBr
import Derived.Test.YthpfcfacofakoaaGreatRows
import Derived.WalkKit
import Derived.ProofKit
import Derived.OpenShut
import Derived.JoinedCond
set_option linter.unusedSimpArgs false
set_option linter.unusedVariables false
set_option linter.unusedSectionVars false
-- W0
section
namespace Go.Sk
open Go Go.Proofs

structure Span where (a b : Nat)
  deriving DecidableEq, Inhabited
def Span.pv (s : Span) : List PV := [.int .u64 s.a, .int .u64 s.b]
def Span.av (s : Span) : AV := .agg (s.pv.map .p)
def lvP (l : List Span) : PV := .sl (l.map Span.pv)
def lvE (l : List Span) : List PV := [lvP l]
structure Hist where (k g : Int) (ls : List (List Span))
  deriving DecidableEq, Inhabited
def Hist.cs (h : Hist) : List PV := [.int .i64 h.k, .int .i64 h.g, .sl (h.ls.map lvE)]
def Hist.av (h : Hist) : AV := .agg (h.cs.map .p)
structure Seed where (a b : Nat)
  deriving DecidableEq, Inhabited
def Seed.pv (s : Seed) : List PV := [.int .u64 s.a, .int .u64 s.b]
def Seed.av (s : Seed) : AV := .agg (s.pv.map .p)
structure Event where (t k w : Nat)
  deriving DecidableEq, Inhabited
def Event.pv (e : Event) : List PV := [.int .u64 e.t, .int .u64 e.k, .int .u64 e.w]
def Event.av (e : Event) : AV := .agg (e.pv.map .p)
def evsP (l : List Event) : PV := .sl (l.map Event.pv)
structure Item where (k n : Nat)
  deriving DecidableEq, Inhabited
def Item.pv (e : Item) : List PV := [.int .u64 e.k, .int .u64 e.n]
def Item.av (e : Item) : AV := .agg (e.pv.map .p)
def itP (l : List Item) : PV := .sl (l.map Item.pv)

attribute [go_sem] Span.pv Span.av Hist.av Hist.cs Seed.av Seed.pv Event.pv Event.av Item.pv Item.av
abbrev i64 (n : Int) : AV := .p (.int .i64 n)
abbrev u64 (n : Nat) : AV := .p (.int .u64 (n : Int))
abbrev bl (b : Bool) : AV := .p (.bool b)

theorem getD_map' {α β : Type} (f : α → β) (l : List α) (i : Nat) (d : β) (h : i < l.length) : (l.map f).getD i d = f l[i] := by
  simp [List.getD_eq_getElem?_getD, h]

theorem done {S S1 : Store} {v : AV} {R : AV → Store → Prop} (h : Sub S S1) (hr : R v S) : ∃ S', Sub S' S1 ∧ R v S' := ⟨S, h, hr⟩

/-- A function that answers, whatever is owned, and leaves it as it is. -/
theorem Pure.useA {P : Program} {f : FuncId} {args a2 : List AV} {r : AV} {S : Store} {R : AV → Store → Prop} (h : Pure P f args r) (hr : R r S) : CallR P f args S R ∨ CallR P f a2 S R := Or.inl (h.use hr)
theorem CallR.useA {P : Program} {f : FuncId} {args a2 : List AV} {S : Store} {R K : AV → Store → Prop} (h : CallR P f args S R) (hr : ∀ x S', R x S' → K x S') : CallR P f args S K ∨ CallR P f a2 S K := Or.inl (h.mono hr)
theorem CallR.useB {P : Program} {f : FuncId} {args a2 : List AV} {S : Store} {R K : AV → Store → Prop} (h : CallR P f args S R) (hr : ∀ x S', R x S' → K x S') : CallR P f a2 S K ∨ CallR P f args S K := Or.inr (h.mono hr)

def KeepAll (S S' : Store) : Prop := ∀ k x, S k = some x → S' k = some x
/-- A function value that answers so, wherever its own blocks are kept. -/
def PureF (P : Program) (S : Store) (f : AV) (args : List AV) (r : AV) : Prop := ∀ S', KeepAll S S' → FunR P f args S' (fun x S'' => x = r ∧ S'' = S')
theorem PureF.use {P : Program} {S S' : Store} {f : AV} {args : List AV} {r : AV} {R : AV → Store → Prop} (h : PureF P S f args r) (hs : KeepAll S S') (hr : R r S') : FunR P f args S' R := by
  have h := h S' hs
  unfold FunR at h ⊢
  split at h
  · exact h.mono (by rintro _ _ ⟨rfl, rfl⟩; exact hr)
  · intro D w vs hR hv
    obtain ⟨fn, tm, asg, bo, hy, hg⟩ := h D w vs hR hv
    exact ⟨fn, tm, asg, bo, hy, hg.mono (by rintro _ _ ⟨x, S1, D', ⟨rfl, rfl⟩, h2⟩; exact ⟨_, _, D', hr, h2⟩)⟩
  · exact h.elim
theorem KeepAll.refl (S : Store) : KeepAll S S := fun _ _ h => h
theorem KeepAll.set {S S' : Store} (h : KeepAll S S') {k : Key} (hk : S k = none) (x : Blk) : KeepAll S (S'.set k x) := by
  intro q y hq
  rw [Store.set_other _ _ (by rintro rfl; rw [hk] at hq; cases hq)]; exact h q y hq
theorem Sub.setF {S S' : Store} {b : Nat} {x : Blk} (h : Sub S S') (hb : Fresh S b) : Sub S (S'.set (.r b) x) := h.set hb x
theorem Sub.setV {S S' : Store} {b : Nat} {x : Blk} (h : Sub S S') (hb : FreshV S b) : Sub S (S'.set (.v b) x) := h.set hb x
theorem KeepAll.setF {S S' : Store} {b : Nat} {x : Blk} (h : KeepAll S S') (hb : Fresh S b) : KeepAll S (S'.set (.r b) x) := h.set hb x
theorem KeepAll.setV {S S' : Store} {b : Nat} {x : Blk} (h : KeepAll S S') (hb : FreshV S b) : KeepAll S (S'.set (.v b) x) := h.set hb x
theorem PureF.useA {P : Program} {S S' : Store} {f : AV} {args a2 : List AV} {r : AV} {R : AV → Store → Prop} (h : PureF P S f args r) (ha : a2.map reif = args) (hs : KeepAll S S') (hr : R r S') : FunA P f a2 S' R :=
  Or.inl (by rw [ha]; exact h.use hs hr)
theorem FunR.of_call {P : Program} {g : FuncId} {first caps args : List AV} {S : Store} {R : AV → Store → Prop} (h : CallR P g (first ++ args ++ caps) S R) : FunR P (.fn (.func g) first caps) args S R := h
theorem KeepAll.get {S S' : Store} {k : Key} {x : Blk} (h : KeepAll S S') (hk : S k = some x) : S' k = some x := h _ _ hk
/-- A function value that is called. -/
theorem CallR.useF {P : Program} {g : FuncId} {first caps args a2 : List AV} {S : Store} {R K : AV → Store → Prop} (h : CallR P g (first ++ args ++ caps) S R) (ha : a2.map reif = args) (hr : ∀ x S', R x S' → K x S') : FunA P (.fn (.func g) first caps) a2 S K := Or.inl (by rw [ha]; exact FunR.of_call (h.mono hr))
theorem Pure.useF {P : Program} {g : FuncId} {first caps args a2 : List AV} {S : Store} {r : AV} {K : AV → Store → Prop} (h : Pure P g (first ++ args ++ caps) r) (ha : a2.map reif = args) (hr : K r S) : FunA P (.fn (.func g) first caps) a2 S K := (h S).useF ha (by rintro _ _ ⟨rfl, rfl⟩; exact hr)
theorem YieldR.mono {P : Program} {l : Nat} {args : List AV} {S : Store} {R K : AV → Store → Prop} (h : YieldR P l args S R) (hr : ∀ x S', R x S' → K x S') : YieldR P l args S K := by
  intro D w vs hR hv
  obtain ⟨fn, tm, asg, bo, hy, hg⟩ := h D w vs hR hv
  exact ⟨fn, tm, asg, bo, hy, hg.mono (by rintro _ _ ⟨x, S1, D', h1, h2⟩; exact ⟨_, _, D', hr _ _ h1, h2⟩)⟩
/-- A round of whoever ranges over this. -/
theorem YieldR.useA {P : Program} {l : Nat} {args a2 : List AV} {S : Store} {R K : AV → Store → Prop} (h : YieldR P l args S R) (ha : a2.map reif = args) (hr : ∀ x S', R x S' → K x S') : FunA P (.fn (.yield l) [] []) a2 S K := Or.inl (by rw [ha]; exact h.mono hr)
theorem Pure.draw {P : Program} {f : FuncId} {args : List AV} {r : AV} {S : Store} (h : Pure P f args r) : ∀ S1, KeepR S S1 → CallR P f args S1 (pureR r S1) := fun S1 _ => h S1
/-- A block that was written again, behind one that is new. -/
theorem Sub.upd {S : Store} {k : Key} {b : Nat} {x x' c : Blk} (hb : Fresh (S.set k x) b) : Sub (S.set k x') (((S.set k x).set (.r b) c).set k x') := by
  intro q y hq
  by_cases e : q = k
  · subst e; rw [Store.set_same] at hq ⊢; exact hq
  · rw [Store.set_other _ _ e] at hq ⊢
    have hn : q ≠ .r b := by
      rintro rfl
      have : (S.set k x) (.r b) = none := hb
      rw [Store.set_other _ _ e] at this; rw [hq] at this; cases this
    rw [Store.set_other _ _ hn, Store.set_other _ _ e]; exact hq
theorem Sub.both {S T : Store} (h : Sub S T) (k : Key) (x : Blk) : Sub (S.set k x) (T.set k x) := by
  intro q y hq
  by_cases e : q = k
  · subst e; rw [Store.set_same] at hq ⊢; exact hq
  · rw [Store.set_other _ _ e] at hq ⊢; exact h q y hq
/-- What is data is looked on as data. -/
theorem AWP.data (t : Nat) {P : Program} {ro : Option Nat} {c : Code} {Q : Ex → St → Prop} {ρ : Env} {S : Store} {n : Nat} {df : List Nat}
    (h : AWP P ro c Q ⟨(ρ.put t (reif1 (ρ.get t))).get, S, n, df⟩) : AWP P ro c Q ⟨ρ.get, S, n, df⟩ := by
  intro D w a hs
  refine h D w a ⟨hs.rel, fun u => ?_, hs.size, hs.defers, hs.df, hs.nodup⟩
  show RepA D w _ ((ρ.put t (reif1 (ρ.get t))).get u)
  rw [Env.get_put]
  split
  · rename_i e; subst e; exact reif1_rep (hs.slots u)
  · exact hs.slots u
/-- Back to the loop's head. -/
theorem AWPH.back {P : Program} {ro : Option Nat} {c : Code} {Q : Ex → St → Prop} {σ : Nat → AV} {ρ : Env} {S' S : Store} {n : Nat} {df : List Nat} (h : AWPH P ro c Q ⟨ρ.get, S', n, df⟩)
    (h2 : Sub S' S) (h3 : ∀ r ∈ df, S' (.r r) = some (.raw (.deferred (some [])) noKn)) (h1 : subEnv ρ σ) : AWPH P ro c Q ⟨σ, S, n, df⟩ :=
  h.of_le (le_of h1 h2 rfl rfl h3)
end Go.Sk
end

-- A12
section
namespace Go.Sk

structure Buf where (late : Nat) (room : Int) (mark : Nat) (front : Nat) (evs : List Event)
  deriving DecidableEq
def zeroB : Buf := ⟨0, 0, 0, 0, []⟩
/-- How many, at the head, are of ticks up to one. -/
def belowN (f : Nat) : List Event → Nat
  | [] => 0
  | e :: l => if e.t ≤ f then belowN f l + 1 else 0
theorem belowN_cons (f : Nat) (e : Event) (l : List Event) : belowN f (e :: l) = if e.t ≤ f then belowN f l + 1 else 0 := rfl
theorem belowN_le (f : Nat) (l : List Event) : belowN f l ≤ l.length := by
  induction l with
  | nil => exact Nat.le_refl _
  | cons e l ih => rw [belowN_cons]; split <;> simp <;> omega
theorem belowN_lt (f : Nat) : ∀ (l : List Event) (i : Nat) (h : i < l.length), i < belowN f l → (l[i]).t ≤ f := by
  intro l
  induction l with
  | nil => intro i h; simp at h
  | cons e l ih =>
    intro i h hi
    rw [belowN_cons] at hi
    split at hi
    · rename_i c
      cases i with
      | zero => exact c
      | succ i => exact ih i (by simpa using h) (by omega)
    · omega
theorem belowN_at (f : Nat) : ∀ (l : List Event) (h : belowN f l < l.length), f < (l[belowN f l]).t := by
  intro l
  induction l with
  | nil => intro h; simp at h
  | cons e l ih =>
    intro h
    by_cases c : e.t ≤ f
    · have e1 : belowN f (e :: l) = belowN f l + 1 := by rw [belowN_cons, if_pos c]
      have h2 : belowN f l < l.length := by rw [e1] at h; simpa using h
      simp only [e1, List.getElem_cons_succ]
      exact ih h2
    · have e1 : belowN f (e :: l) = 0 := by rw [belowN_cons, if_neg c]
      simp only [e1, List.getElem_cons_zero]; omega
/-- One by one: i of them are. -/
theorem belowN_step (f : Nat) (l : List Event) (i : Nat) (h : i < l.length) (hi : i ≤ belowN f l) : ((l[i]).t ≤ f → i + 1 ≤ belowN f l) ∧ (f < (l[i]).t → i = belowN f l) := by
  refine ⟨fun hb => ?_, fun hb => ?_⟩
  · apply Classical.byContradiction
    intro hc
    obtain rfl : i = belowN f l := by omega
    have := belowN_at f l h; omega
  · apply Classical.byContradiction
    intro hc
    have := belowN_lt f l i h (by omega); omega
theorem belowN_ge (f : Nat) : ∀ (l : List Event) (n : Nat), n ≤ l.length → (∀ i (h : i < l.length), i < n → (l[i]).t ≤ f) → n ≤ belowN f l := by
  intro l n hn h
  apply Classical.byContradiction
  intro hc
  have hlt : belowN f l < l.length := by omega
  have h1 := belowN_at f l hlt
  have h2 := h _ hlt (by omega)
  omega
theorem belowN_more (f : Nat) (l : List Event) (h : belowN f l < l.length) : belowN f l < belowN (l[belowN f l]).t l := by
  refine belowN_ge _ _ _ (by omega) fun i hi hlt => ?_
  by_cases c : i < belowN f l
  · have h1 := belowN_lt f l i hi c
    have h2 := belowN_at f l h
    omega
  · have : i = belowN f l := by omega
    subst this
    exact Nat.le_refl _
/-- The front, and how many go out. -/
def settleN (room : Nat) (l : List Event) (f : Nat) : Nat × Nat :=
  if h : room < l.length - belowN f l then settleN room l (l[belowN f l]'(by omega)).t else (f, belowN f l)
termination_by l.length - belowN f l
decreasing_by
  have := belowN_more f l (by omega)
  omega
theorem settleN_go {room : Nat} {l : List Event} {f : Nat} (h : room < l.length - belowN f l) : settleN room l f = settleN room l (l[belowN f l]'(by omega)).t := by
  rw [settleN, dif_pos h]
theorem settleN_end {room : Nat} {l : List Event} {f : Nat} (h : ¬ room < l.length - belowN f l) : settleN room l f = (f, belowN f l) := by
  rw [settleN, dif_neg h]
theorem settle_ind (room : Nat) (l : List Event) (p : Nat → Nat × Nat → Prop) (h0 : ∀ f, ¬ room < l.length - belowN f l → p f (f, belowN f l))
    (h1 : ∀ f r, (h : room < l.length - belowN f l) → p (l[belowN f l]'(by omega)).t r → p f r) : ∀ f, p f (settleN room l f) := by
  have key : ∀ n f, l.length - belowN f l ≤ n → p f (settleN room l f) := by
    intro n
    induction n with
    | zero => intro f hn; rw [settleN_end (by omega)]; exact h0 f (by omega)
    | succ n ih =>
      intro f hn
      by_cases c : room < l.length - belowN f l
      · rw [settleN_go c]
        have := belowN_more f l (by omega)
        exact h1 f _ c (ih _ (by omega))
      · rw [settleN_end c]; exact h0 f c
  exact fun f => key _ f (Nat.le_refl _)
theorem settle_facts (room : Nat) (l : List Event) : ∀ f, f ≤ (settleN room l f).1 ∧ (settleN room l f).2 = belowN (settleN room l f).1 l ∧ l.length - (settleN room l f).2 ≤ room ∧ (∀ m, f ≤ m → (∀ e ∈ l, e.t ≤ m) → (settleN room l f).1 ≤ m) := by
  refine settle_ind room l (fun f r => f ≤ r.1 ∧ r.2 = belowN r.1 l ∧ l.length - r.2 ≤ room ∧ (∀ m, f ≤ m → (∀ e ∈ l, e.t ≤ m) → r.1 ≤ m)) ?_ ?_
  · intro f h; exact ⟨Nat.le_refl _, rfl, by dsimp only; omega, fun m hm _ => hm⟩
  · intro f r h ⟨i1, i2, i3, i4⟩
    have := belowN_at f l (by omega)
    exact ⟨by omega, i2, i3, fun m hm hl => i4 m (hl _ (List.getElem_mem _)) hl⟩

/-- A buffer settled, and what goes out. -/
def settleB (b : Buf) : Buf × List Event :=
  (⟨b.late, b.room, b.mark, (settleN b.room.toNat b.evs (max b.front (b.mark - b.late))).1, b.evs.drop (settleN b.room.toNat b.evs (max b.front (b.mark - b.late))).2⟩, b.evs.take (settleN b.room.toNat b.evs (max b.front (b.mark - b.late))).2)
def insE (l : List Event) (e : Event) : List Event := l.take (belowN e.t l) ++ [e] ++ l.drop (belowN e.t l)
/-- An event comes. -/
def pushB (b : Buf) (e : Event) : (Buf × List Event) × Int :=
  if e.w = 0 then ((zeroB, []), 1) else if 9223372036854775807 < e.t then ((zeroB, []), 6) else if e.t < b.front then ((zeroB, []), 4)
  else (settleB ⟨b.late, b.room, max b.mark e.t, b.front, insE b.evs e⟩, 0)
/-- Time goes on. -/
def moveB (b : Buf) (t : Nat) : (Buf × List Event) × Int :=
  if 9223372036854775807 < t then ((zeroB, []), 6) else (settleB ⟨b.late, b.room, max b.mark t, b.front, b.evs⟩, 0)

/-! By the document. -/
def splO (f : Nat) (l : List Event) : List Event := l.filter (fun e => decide (e.t ≤ f))
def splS (f : Nat) (l : List Event) : List Event := l.filter (fun e => !decide (e.t ≤ f))
theorem splS_head (e : Event) (l : List Event) : (splS e.t (e :: l)).length < (e :: l).length := by
  unfold splS
  rw [List.filter_cons_of_neg (by simp)]
  have := List.length_filter_le (fun x => !decide (x.t ≤ e.t)) l
  simp only [List.length_cons]; omega
def docS (room f : Nat) (out stay : List Event) : Nat × List Event × List Event :=
  match stay with
  | [] => (f, out, [])
  | e :: l => if room < (e :: l).length then docS room e.t (out ++ splO e.t (e :: l)) (splS e.t (e :: l)) else (f, out, e :: l)
termination_by stay.length
decreasing_by exact splS_head e l
def Srt (l : List Event) : Prop := l.Pairwise (fun x y => x.t ≤ y.t)
theorem spl_eq (f : Nat) : ∀ l, Srt l → splO f l = l.take (belowN f l) ∧ splS f l = l.drop (belowN f l) := by
  intro l
  induction l with
  | nil => intro _; exact ⟨rfl, rfl⟩
  | cons e l ih =>
    intro h
    unfold Srt at h
    rw [List.pairwise_cons] at h
    obtain ⟨i1, i2⟩ := ih h.2
    unfold splO splS at *
    rw [belowN_cons]
    by_cases c : e.t ≤ f
    · rw [if_pos c, List.take_succ_cons, List.drop_succ_cons, List.filter_cons_of_pos (by simpa using c), List.filter_cons_of_neg (by simp; exact c), i1, i2]
      exact ⟨rfl, rfl⟩
    · rw [if_neg c, List.take_zero, List.drop_zero]
      have hall : ∀ x ∈ e :: l, ¬ x.t ≤ f := by
        intro x hx
        rcases List.mem_cons.1 hx with rfl | hx
        · exact c
        · have := h.1 x hx; omega
      refine ⟨List.filter_eq_nil_iff.2 fun x hx => by simpa using hall x hx, List.filter_eq_self.2 fun x hx => by simpa using hall x hx⟩
theorem Srt.drop {l : List Event} (h : Srt l) (n : Nat) : Srt (l.drop n) := List.Pairwise.sublist (List.drop_sublist n l) h
theorem Srt.take {l : List Event} (h : Srt l) (n : Nat) : Srt (l.take n) := List.Pairwise.sublist (List.take_sublist n l) h
theorem belowN_drop (f : Nat) : ∀ (l : List Event) (n : Nat), n ≤ belowN f l → belowN f (l.drop n) = belowN f l - n := by
  intro l
  induction l with
  | nil => intro n h; simp [belowN] at h ⊢
  | cons e l ih =>
    intro n h
    cases n with
    | zero => rfl
    | succ n =>
      rw [belowN_cons] at h ⊢
      split at h
      · rename_i c; rw [List.drop_succ_cons, ih n (by omega), if_pos c]; omega
      · omega
theorem docS_eq (room : Nat) (l : List Event) (hs : Srt l) : ∀ f, docS room f (l.take (belowN f l)) (l.drop (belowN f l)) = ((settleN room l f).1, l.take (settleN room l f).2, l.drop (settleN room l f).2) := by
  refine settle_ind room l (fun f r => docS room f (l.take (belowN f l)) (l.drop (belowN f l)) = (r.1, l.take r.2, l.drop r.2)) ?_ ?_
  · intro f h
    have hl : ¬ room < (l.drop (belowN f l)).length := by rw [List.length_drop]; exact h
    cases hd : l.drop (belowN f l) with
    | nil => rw [docS]
    | cons e r => rw [docS]; rw [hd] at hl; rw [if_neg hl]
  · intro f r h ih
    have hlt : belowN f l < l.length := by omega
    have hm := belowN_more f l hlt
    rw [List.drop_eq_getElem_cons hlt, docS]
    rw [if_pos (by simp only [List.length_cons, List.length_drop]; omega), ← List.drop_eq_getElem_cons hlt]
    obtain ⟨s1, s2⟩ := spl_eq (l[belowN f l]).t _ (hs.drop (belowN f l))
    rw [s1, s2, belowN_drop _ _ _ (by omega), List.drop_drop, ← List.take_add, show belowN f l + (belowN (l[belowN f l]).t l - belowN f l) = belowN (l[belowN f l]).t l by omega]
    exact ih
end Go.Sk
end

-- WMx
section
namespace Go.Sk
open Go Go.Proofs

theorem mixed : Tryz.prog.follows .mixedOrders = true := by kernel_rfl
def nE (n : Nat) : List PV := [.int .u64 (n : Int)]
end Go.Sk
end

-- W13p
section
namespace Go.Sk

structure Event.Ok (e : Event) : Prop where
  t : e.t < 18446744073709551616
  k : e.k < 18446744073709551616
  w : e.w < 18446744073709551616
noncomputable def withinV (tick span : Nat) (e : Event) : Bool := decide (e.t ≤ tick) && (decide (span > tick) || decide (e.t > sub64 tick span))

noncomputable def sumV (p : Event → Bool) (q : Event → Nat) (n : Nat) (l : List Event) : Nat := l.foldl (fun n e => if p e = true then m64 (n + q e) else n) n
theorem sumV_snoc (p : Event → Bool) (q : Event → Nat) (n : Nat) (l : List Event) (i : Nat) (hi : i < l.length) : sumV p q n (l.take (i + 1)) = if p l[i] = true then m64 (sumV p q n (l.take i) + q l[i]) else sumV p q n (l.take i) := by
  unfold sumV; rw [List.take_succ_eq_append_getElem hi, List.foldl_append]; rfl

noncomputable def spanV (l : List Event) (tick span : Nat) : Nat := sumV (withinV tick span) Event.w 0 l

end Go.Sk
end

-- A5
section
namespace Go.Sk

def mostN (k i : Nat) : Nat := if i = 0 then k + 1 else (k + 1) / 2 + 1
theorem mostN_pos (k i : Nat) : 1 ≤ mostN k i := by unfold mostN; split <;> omega
theorem mostN_le (k i : Nat) : mostN k i ≤ k + 2 := by unfold mostN; split <;> omega

/-- Two by two. -/
def pairUp : List Span → List Span
  | a :: b :: r => ⟨a.a, b.b⟩ :: pairUp r
  | _ => []
/-- All that comes to a level, in turn. -/
def lineV (l add : List Span) (many tick : Nat) : List Span := l ++ add ++ List.replicate many ⟨tick, tick⟩
def pairsN (n most : Nat) : Nat := (n - most + 1) / 2
/-- What stays; what goes, one by one; and how many more of the tick go. -/
def stayV (l : List Span) (most : Nat) (add : List Span) (many tick : Nat) : List Span := (lineV l add many tick).drop (2 * pairsN (l.length + add.length + many) most)
def outsN (n most many : Nat) : Nat := min (pairsN (n + many) most) ((n + 1) / 2)
def outsV (l : List Span) (most : Nat) (add : List Span) (many tick : Nat) : List Span := (pairUp (lineV l add many tick)).take (outsN (l.length + add.length) most many)
def leftV (l : List Span) (most : Nat) (add : List Span) (many : Nat) : Nat := pairsN (l.length + add.length + many) most - outsN (l.length + add.length) most many

theorem pairUp_length (l : List Span) : (pairUp l).length = l.length / 2 := by
  induction l using pairUp.induct with
  | case1 a b r ih => simp only [pairUp, List.length_cons, ih]; omega
  | case2 l h =>
    match l, h with
    | [], _ => rfl
    | [x], _ => simp [pairUp]
    | x :: y :: r, h => exact absurd rfl (h x y r)
theorem pairUp_get (l : List Span) : ∀ (i : Nat) (h : i < (pairUp l).length) (h1 : 2 * i < l.length) (h2 : 2 * i + 1 < l.length), (pairUp l)[i] = ⟨l[2 * i].a, l[2 * i + 1].b⟩ := by
  induction l using pairUp.induct with
  | case1 a b r ih =>
    intro i h h1 h2
    cases i with
    | zero => rfl
    | succ i =>
      simp only [pairUp, List.length_cons, Nat.add_lt_add_iff_right] at h h1 h2
      simp only [pairUp, List.getElem_cons_succ]
      rw [ih i h (by omega) (by omega)]
      have e1 : 2 * (i + 1) = 2 * i + 1 + 1 := by omega
      simp only [e1, List.getElem_cons_succ]
  | case2 l h =>
    intro i hi
    match l, h with
    | [], _ => simp [pairUp] at hi
    | [x], _ => simp [pairUp] at hi
    | x :: y :: r, h => exact absurd rfl (h x y r)
theorem lineV_length (l add : List Span) (many tick : Nat) : (lineV l add many tick).length = l.length + add.length + many := by simp [lineV]; omega
theorem lineV_lt {l add : List Span} {many tick i : Nat} (h : i < l.length + add.length) : (lineV l add many tick)[i]'(by rw [lineV_length]; omega) = (l ++ add)[i]'(by simp; omega) := by
  unfold lineV
  rw [List.getElem_append_left]
theorem lineV_ge {l add : List Span} {many tick i : Nat} (h : l.length + add.length ≤ i) (h2 : i < (lineV l add many tick).length) : (lineV l add many tick)[i] = ⟨tick, tick⟩ := by
  have h3 : i < (l ++ add ++ List.replicate many (⟨tick, tick⟩ : Span)).length := h2
  show (l ++ add ++ List.replicate many (⟨tick, tick⟩ : Span))[i]'h3 = _
  rw [List.getElem_append_right (by simpa using h)]
  simp
/-- The i-th that goes. -/
theorem out_get {l add : List Span} {many tick i : Nat} (h : 2 * i < l.length + add.length) (h2 : 2 * i + 1 < l.length + add.length + many) (h3 : i < (pairUp (lineV l add many tick)).length) :
    (pairUp (lineV l add many tick))[i] = ⟨((l ++ add)[2 * i]'(by simp; omega)).a, if h : 2 * i + 1 < l.length + add.length then ((l ++ add)[2 * i + 1]'(by simp; omega)).b else tick⟩ := by
  rw [pairUp_get _ _ h3 (by rw [lineV_length]; omega) (by rw [lineV_length]; omega)]
  rw [lineV_lt h]
  split
  · rename_i h4; rw [lineV_lt h4]
  · rename_i h4; rw [lineV_ge (by omega)]

theorem drop_head {l : List Span} {m i : Nat} {s : Span} (h : i < l.length) : (l.drop i ++ List.replicate m s).getD 0 default = l[i] := by
  rw [List.drop_eq_getElem_cons h]; rfl
theorem drop_head2 {l : List Span} {m i : Nat} {s : Span} (h : l.length ≤ i) (hm : 0 < m) : (l.drop i ++ List.replicate m s).getD 0 default = s := by
  rw [List.drop_of_length_le h]
  obtain ⟨k, rfl⟩ : ∃ k, m = k + 1 := ⟨m - 1, by omega⟩
  rfl
/-- What the first loop leaves. -/
theorem left_eq {n most many q : Nat} (hm : 1 ≤ most) (hq : outsN n most many = q) :
    ((n - 2 * q) + (many - (2 * q - n)) - most + 1) / 2 = pairsN (n + many) most - q ∧ 2 * (pairsN (n + many) most - q) ≤ many - (2 * q - n) ∧ (0 < (n - 2 * q) + (many - (2 * q - n)) - most → n - 2 * q = 0) := by
  unfold outsN pairsN at *; omega
theorem app_getD {l : List Span} {m i : Nat} {s : Span} (h : i < l.length + m) : (l.drop i ++ List.replicate (m - (i - l.length)) s).getD 0 default = (l ++ List.replicate m s)[i]'(by simpa using h) := by
  by_cases hl : i < l.length
  · rw [drop_head hl, List.getElem_append_left hl]
  · rw [drop_head2 (by omega) (by omega), List.getElem_append_right (by omega)]
    simp
/-- What the j-th round finds. -/
theorem two_next {l : List Span} {many j n most : Nat} (hn : l.length = n) (hm : 1 ≤ most) (hj : j < outsN n most many) :
    2 * j < n ∧ most < n + many - 2 * j ∧ 2 * j + 1 < n + many ∧ 2 * j - n = 0 ∧ (2 * (j + 1) - n = 1 - (n - (2 * j + 1)) ) := by
  unfold outsN pairsN at hj
  omega
theorem stay_eq (l add : List Span) (many tick most : Nat) (hm : 1 ≤ most) :
    stayV l most add many tick = (l ++ add).drop (2 * outsN (l.length + add.length) most many) ++ List.replicate (many - (2 * outsN (l.length + add.length) most many - (l.length + add.length)) - 2 * leftV l most add many) ⟨tick, tick⟩ := by
  unfold stayV lineV leftV
  rw [List.drop_append, List.drop_replicate]
  simp only [List.length_append]
  have h1 : pairsN (l.length + add.length + many) most ≤ outsN (l.length + add.length) most many ∨ outsN (l.length + add.length) most many = (l.length + add.length + 1) / 2 := by unfold outsN; omega
  have h2 : outsN (l.length + add.length) most many ≤ pairsN (l.length + add.length + many) most := by unfold outsN; omega
  rcases h1 with h1 | h1
  · have e : pairsN (l.length + add.length + many) most = outsN (l.length + add.length) most many := by omega
    rw [e]; congr 2; omega
  · rw [List.drop_of_length_le (i := 2 * pairsN (l.length + add.length + many) most) (by simp; omega), List.drop_of_length_le (i := 2 * outsN (l.length + add.length) most many) (by simp; omega)]
    congr 2; omega
theorem stay_len (l add : List Span) (many tick most : Nat) : (stayV l most add many tick).length = l.length + add.length + many - 2 * pairsN (l.length + add.length + many) most := by
  unfold stayV; rw [List.length_drop, lineV_length]
theorem stay_le (l add : List Span) (many tick most : Nat) (hm : 1 ≤ most) : (stayV l most add many tick).length ≤ most := by
  rw [stay_len]; unfold pairsN; omega
theorem outs_len (l add : List Span) (many tick most : Nat) (hm : 1 ≤ most) : (outsV l most add many tick).length = outsN (l.length + add.length) most many := by
  unfold outsV; rw [List.length_take, pairUp_length, lineV_length]; unfold outsN pairsN; omega
theorem outs_snoc (l add : List Span) (many tick most j : Nat) (hm : 1 ≤ most) (hj : j < outsN (l.length + add.length) most many) :
    (pairUp (lineV l add many tick)).take (j + 1) = (pairUp (lineV l add many tick)).take j ++ [⟨((l ++ add)[2 * j]'(by simp; have := two_next (l := l ++ add) (by simp) hm hj; omega)).a,
      if h : 2 * j + 1 < l.length + add.length then ((l ++ add)[2 * j + 1]'(by simp; omega)).b else tick⟩] := by
  obtain ⟨h1, h2, h3, _, _⟩ := two_next (l := l ++ add) (by simp) hm hj
  have hlt : j < (pairUp (lineV l add many tick)).length := by rw [pairUp_length, lineV_length]; omega
  rw [List.take_succ_eq_append_getElem hlt, out_get h1 h3 hlt]
end Go.Sk
end

-- W5
section
namespace Go.Sk
open Go Go.Proofs

theorem level_Most (k i : Nat) (hk : k < 1099511627776) : Pure Tryz.prog 204 [i64 k, i64 i] (i64 (mostN k i : Nat)) := fun S => by
  refine callR_of Tryz.func204 rfl rfl (xc_ok (bitB 275) _ _ _ ?_)
  have h0 : ¬ (0 : Int) > k := by omega
  simp only [go_sem]
  have e1 : wi ((k : Int) + 1) = (k : Int) + 1 := wi_id (by omega) (by omega)
  have e2 : ((k : Int) + 1).tdiv 2 = (((k + 1) / 2 : Nat) : Int) := by rw [Int.tdiv_eq_ediv_of_nonneg (by omega)]; omega
  have e3 : wi (((k + 1) / 2 : Nat) : Int) = (((k + 1) / 2 : Nat) : Int) := wi_id (by omega) (by omega)
  have e4 : wi ((((k + 1) / 2 : Nat) : Int) + 1) = (((k + 1) / 2 + 1 : Nat) : Int) := by rw [wi_id (by omega) (by omega)]; omega
  by_cases hi : i = 0
  · subst hi
    simp only [go_sem, h0, if_false, e1]
    (refine ⟨S, by (repeat (first | exact Sub.refl _ | refine Sub.setF ?_ (by first | assumption | simp only [*]) | refine Sub.setV ?_ (by first | assumption | simp only [*]))), ?_⟩); simp [mostN]
  · have e0 : (i == 0) = false := by simpa using hi
    simp only [go_sem, h0, if_false, e0, e1, e2, e3, e4]
    refine ⟨by decide, ?_⟩
    (refine ⟨S, by (repeat (first | exact Sub.refl _ | refine Sub.setF ?_ (by first | assumption | simp only [*]) | refine Sub.setV ?_ (by first | assumption | simp only [*]))), ?_⟩); simp [mostN, hi]

theorem ref05_Most (k i : Nat) (hk : k < 1099511627776) : Pure Tryz.prog 157 [i64 k, i64 i] (i64 (mostN k i : Nat)) := fun S => by
  refine callR_of Tryz.func157 rfl rfl (xc_ok (bitB 275) _ _ _ ?_)
  have h0 : ¬ (0 : Int) > k := by omega
  simp only [go_sem]
  have e1 : wi ((k : Int) + 1) = (k : Int) + 1 := wi_id (by omega) (by omega)
  have e2 : (k : Int).tdiv 2 = ((k / 2 : Nat) : Int) := by rw [Int.tdiv_eq_ediv_of_nonneg (by omega)]; omega
  have e2' : (k : Int).tmod 2 = ((k % 2 : Nat) : Int) := by rw [Int.tmod_eq_emod_of_nonneg (by omega)]; omega
  have e3 : wi ((k / 2 : Nat) : Int) = ((k / 2 : Nat) : Int) := wi_id (by omega) (by omega)
  have e4 : wi (((k / 2 : Nat) : Int) + ((k % 2 : Nat) : Int)) = (((k / 2 + k % 2 : Nat) : Nat) : Int) := by rw [wi_id (by omega) (by omega)]; omega
  have e5 : wi ((((k / 2 + k % 2 : Nat)) : Int) + 1) = (((k + 1) / 2 + 1 : Nat) : Int) := by rw [wi_id (by omega) (by omega)]; omega
  by_cases hi : i = 0
  · subst hi
    simp only [go_sem, h0, if_false, e1]
    (refine ⟨S, by (repeat (first | exact Sub.refl _ | refine Sub.setF ?_ (by first | assumption | simp only [*]) | refine Sub.setV ?_ (by first | assumption | simp only [*]))), ?_⟩); simp [mostN]
  · have e0 : (i == 0) = false := by simpa using hi
    simp only [go_sem, h0, if_false, e0, e2, e2', e3, e4, e5]
    refine ⟨by decide, by decide, ?_⟩
    (refine ⟨S, by (repeat (first | exact Sub.refl _ | refine Sub.setF ?_ (by first | assumption | simp only [*]) | refine Sub.setV ?_ (by first | assumption | simp only [*]))), ?_⟩); simp [mostN, hi]

theorem bounded_int (n m : Int) : Pure Tryz.prog 226 [i64 n, i64 m] (i64 (if n < m then m else n)) := fun S => by
  refine callR_of Tryz.func226 rfl rfl (xc_ok (bitB 147) _ _ _ ?_)
  simp only [go_sem]
  (first | refine dec_split (fun h => ?_) (fun h => ?_) | refine gdd_split (fun h => ?_) (fun h => ?_) | refine bool_split (fun h => ?_) (fun h => ?_) | refine gd_split (fun h => ?_) (fun h => ?_)) <;> simp only [go_sem] <;> (refine ⟨S, by (repeat (first | exact Sub.refl _ | refine Sub.setF ?_ (by first | assumption | simp only [*]) | refine Sub.setV ?_ (by first | assumption | simp only [*]))), ?_⟩) <;> simp [h]
theorem bounded_u64 (n m : Nat) : Pure Tryz.prog 228 [u64 n, u64 m] (u64 (if n < m then m else n)) := fun S => by
  refine callR_of Tryz.func228 rfl rfl (xc_ok (bitB 147) _ _ _ ?_)
  simp only [go_sem]
  (first | refine dec_split (fun h => ?_) (fun h => ?_) | refine gdd_split (fun h => ?_) (fun h => ?_) | refine bool_split (fun h => ?_) (fun h => ?_) | refine gd_split (fun h => ?_) (fun h => ?_)) <;> simp only [go_sem] <;> (refine ⟨S, by (repeat (first | exact Sub.refl _ | refine Sub.setF ?_ (by first | assumption | simp only [*]) | refine Sub.setV ?_ (by first | assumption | simp only [*]))), ?_⟩) <;> simp [h]
theorem level_both (s t : Span) : Pure Tryz.prog 231 [s.av, t.av] (Span.mk s.a t.b).av := fun S => by
  refine callR_of Tryz.func231 rfl rfl (xc_ok (bitB 31) _ _ _ ?_)
  simp only [go_sem]
  refine alloc_intro fun b hb => ?_
  simp only [go_sem]
  refine alloc_intro fun c hc => ?_
  simp only [fresh_set] at hc
  simp only [go_sem, hc]
  refine alloc_intro fun d hd => ?_
  simp only [fresh_set] at hd
  simp only [go_sem, hc, hd]
  (refine ⟨S, by (repeat (first | exact Sub.refl _ | refine Sub.setF ?_ (by first | assumption | simp only [*]) | refine Sub.setV ?_ (by first | assumption | simp only [*]))), ?_⟩); simp [Span.av, Span.pv]

theorem span_len {l : List Span} : ∀ el ∈ l.map Span.pv, el.length = 2 := by
  intro el h; obtain ⟨x, _, rfl⟩ := List.mem_map.1 h; rfl

theorem line_long {S : Store} {b : Nat} (l : List Span) (many tick : Nat) (hb : S (.r b) = some (.cells [.p (lvP l), u64 many, u64 tick])) (hn : l.length + many < 18446744073709551616) :
    CallR Tryz.prog 229 [.sp b 0] S (fun r S' => r = u64 (l.length + many) ∧ S' = S) := by
  refine callR_of Tryz.func229 rfl rfl (xc_ok (bitB 5) _ _ _ ?_)
  simp only [go_sem]
  refine AWP.draw2 (bitB 5) mixed (by kernel_rfl) (fun i => bl false) ?_
  simp only [go_sem, hb, lvP]
  have e : m64 (m64 l.length + many) = l.length + many := by rw [m64_id (show l.length < 18446744073709551616 by omega), m64_id hn]
  (refine ⟨S, by (repeat (first | exact Sub.refl _ | refine Sub.setF ?_ (by first | assumption | simp only [*]) | refine Sub.setV ?_ (by first | assumption | simp only [*]))), ?_⟩); simp [e]

theorem line_next {S : Store} {b : Nat} (l : List Span) (many tick : Nat) (hb : S (.r b) = some (.cells [.p (lvP l), u64 many, u64 tick])) (hn : 0 < l.length + many) (hl : l.length < 4611686018427387904) (hm : many < 18446744073709551616) :
    CallR Tryz.prog 230 [.sp b 0] S (fun r S' => r = (((l ++ List.replicate many (⟨tick, tick⟩ : Span)).getD 0 default).av) ∧ S' = S.set (.r b) (.cells [.p (lvP (l.drop 1)), u64 (many - (1 - l.length) : Nat), u64 tick])) := by
  refine callR_of Tryz.func230 rfl rfl (xc_ok (bitB 525) _ _ _ ?_)
  simp only [go_sem]
  refine alloc_intro fun c hc => ?_
  have n1 := hc.ne hb
  simp only [go_sem, hb, n1]
  cases l with
  | nil =>
    simp only [go_sem, lvP, hb, n1]
    refine AWP.draw2 (bitB 525) mixed (by kernel_rfl) (fun i => bl false) ?_
    simp only [go_sem, hb, n1]
    have e1 : sub64 many 1 = many - 1 := by
      have : 0 < many := by simpa using hn
      rw [sub64_eq]; omega
    have hm0 : 0 < many := by simpa using hn
    obtain ⟨m, rfl⟩ : ∃ m, many = m + 1 := ⟨many - 1, by omega⟩
    refine ⟨S.set (.r b) (.cells [.p (.sl []), u64 (m + 1 - 1 : Nat), u64 tick]), ?_, Or.inl ⟨?_, rfl⟩⟩
    · rw [e1]; (repeat (first | exact Sub.refl _ | refine Sub.both ?_ _ _ | refine Sub.set ?_ (by simp_all [Store.set, Fresh, FreshV]) _))
    · rfl
  | cons s l =>
    simp only [go_sem, lvP, hb, n1]
    refine alloc_intro fun d hd => ?_
    simp only [fresh_set] at hd
    have n2 := hd.2.ne hb
    simp only [go_sem, hb, n1, hd, n2, lvP]
    refine ⟨?_, by omega, by omega, ?_⟩
    · intro el h
      rcases h with rfl | h
      · rfl
      · exact span_len el h
    have e2 : List.take (l.length + 1 - 1) (List.map Span.pv l) = List.map Span.pv l := List.take_of_length_le (by simp)
    rw [e2]
    refine ⟨S.set (.r b) (.cells [.p (lvP l), u64 many, u64 tick]), ?_, by simp [lvP]⟩
    (repeat (first | exact Sub.refl _ | refine Sub.both ?_ _ _ | refine Sub.set ?_ (by simp_all [Store.set, Fresh, FreshV]) _))

theorem push_over {S : Store} {b r : Nat} (l : List Span) (many tick room : Nat) (hb : S (.r b) = some (.cells [.p (lvP l), u64 many, u64 tick])) (hr : S (.r r) = some (.cells [u64 room]))
    (hn : l.length + many < 18446744073709551616) (hroom : room < 18446744073709551616) {q : Nat} (hq : S (.r q) = some (.cells [.sp b 0])) :
    CallR Tryz.prog 227 [.sp q 0, .sp r 0] S (fun x S' => x = u64 (l.length + many - room) ∧ S' = S) := by
  refine callR_of Tryz.func227 rfl rfl (xc_ok (bitB 7) _ _ _ ?_)
  simp only [go_sem]
  refine AWP.draw2 (bitB 7) mixed (by kernel_rfl) (fun i => if i = 1 then u64 (l.length + many) else u64 (if l.length + many < room then room else l.length + many)) ?_
  simp only [go_sem, hb, hr, hq]
  refine ⟨fun S1 hS => line_long l many tick (hS _ _ hb) hn, (bounded_u64 _ _).draw, ?_⟩
  (refine ⟨S, by (repeat (first | exact Sub.refl _ | refine Sub.setF ?_ (by first | assumption | simp only [*]) | refine Sub.setV ?_ (by first | assumption | simp only [*]))), ?_⟩)
  have e : sub64 (if l.length + many < room then room else l.length + many) room = l.length + many - room := by rw [sub64_eq]; split <;> omega
  simp [e]

end Go.Sk
end

-- A6
section
namespace Go.Sk

/-- The last bucket's last tick, of level 0. -/
def lastV (ls : List (List Span)) : Nat × Bool := match ls with
  | [] => (0, false)
  | l :: _ => match l.getLast? with | some s => (s.b, true) | none => (0, false)
/-- All buckets' weight, modulo 2^64. -/
noncomputable def totF (i n : Nat) : List (List Span) → Nat
  | [] => n
  | l :: r => totF (i + 1) (m64 (n + m64 (m64 l.length * 2 ^ min i 64))) r
noncomputable def totV (ls : List (List Span)) : Nat := totF 0 0 ls
theorem totF_snoc (l : List Span) : ∀ (r : List (List Span)) (i n : Nat), totF i n (r ++ [l]) = m64 (totF i n r + m64 (m64 l.length * 2 ^ min (i + r.length) 64)) := by
  intro r
  induction r with
  | nil => intro i n; simp [totF]
  | cons x r ih => intro i n; simp only [List.cons_append, totF, ih, List.length_cons]; rw [show i + 1 + r.length = i + (r.length + 1) from by omega]
theorem totF_take (ls : List (List Span)) (i : Nat) (h : i < ls.length) : totF 0 0 (ls.take (i + 1)) = m64 (totF 0 0 (ls.take i) + m64 (m64 (ls[i]).length * 2 ^ min i 64)) := by
  rw [List.take_succ_eq_append_getElem h, totF_snoc, List.length_take, Nat.min_eq_left (Nat.le_of_lt h), Nat.zero_add]
/-- The weight. -/
def totN : Nat → List (List Span) → Nat
  | _, [] => 0
  | i, l :: r => l.length * 2 ^ i + totN (i + 1) r
theorem totF_eq (ls : List (List Span)) : ∀ (i n : Nat), n + totN i ls < 18446744073709551616 → totF i n ls = n + totN i ls := by
  induction ls with
  | nil => intro i n _; simp [totF, totN]
  | cons l r ih =>
    intro i n h
    simp only [totF, totN] at h ⊢
    have hb : m64 (m64 l.length * 2 ^ min i 64) = l.length * 2 ^ i := by
      by_cases hl : l = []
      · subst hl; simp [m64_eq]
      · have h1 : 1 ≤ l.length := by cases l with | nil => exact absurd rfl hl | cons a b => simp
        have h3 : 2 ^ i ≤ l.length * 2 ^ i := by have := Nat.mul_le_mul_right (2 ^ i) h1; omega
        have hi : i < 64 := by
          apply Classical.byContradiction
          intro hc
          have : (2 : Nat) ^ 64 ≤ 2 ^ i := Nat.pow_le_pow_right (by decide) (by omega)
          have e : (2 : Nat) ^ 64 = 18446744073709551616 := by decide
          omega
        have h4 : l.length ≤ l.length * 2 ^ i := Nat.le_mul_of_pos_right _ (Nat.pow_pos (by decide))
        rw [Nat.min_eq_left (by omega), m64_id (show l.length < 18446744073709551616 by omega), m64_id (by omega)]
    rw [hb, m64_id (by omega), ih _ _ (by omega)]; omega
theorem totV_eq {ls : List (List Span)} (h : totN 0 ls < 18446744073709551616) : totV ls = totN 0 ls := by
  unfold totV; rw [totF_eq _ _ _ (by omega), Nat.zero_add]

theorem go_less (l : List Span) (most : Nat) (add : List Span) (many tick : Nat) (hm : 1 ≤ most) : (outsV l most add many tick).length + leftV l most add many = pairsN (l.length + add.length + many) most := by
  rw [outs_len _ _ _ _ _ hm]; unfold leftV outsN; omega
/-- What stays on each level, from level i on. -/
def flowV (k tick : Nat) (i : Nat) (ls : List (List Span)) (come : List Span) (many : Nat) : List (List Span) :=
  match ls with
  | l :: r => stayV l (mostN k i) come many tick :: flowV k tick (i + 1) r (outsV l (mostN k i) come many tick) (leftV l (mostN k i) come many)
  | [] => if _h : come.length + many = 0 then [] else
      stayV [] (mostN k i) come many tick :: flowV k tick (i + 1) [] (outsV [] (mostN k i) come many tick) (leftV [] (mostN k i) come many)
termination_by (ls.length, come.length + many)
decreasing_by
  · exact Prod.Lex.left _ _ (by simp)
  · refine Prod.Lex.right _ ?_
    rw [go_less _ _ _ _ _ (mostN_pos k i)]
    have := mostN_pos k i
    unfold pairsN; simp; omega
theorem flowV_nil {k tick i : Nat} {come : List Span} {many : Nat} (h : come.length + many = 0) : flowV k tick i [] come many = [] := by rw [flowV, dif_pos h]
theorem flowV_cons {k tick i : Nat} {ls : List (List Span)} {come : List Span} {many : Nat} (h : ¬ (ls = [] ∧ come.length + many = 0)) :
    flowV k tick i ls come many = stayV (ls.headD []) (mostN k i) come many tick :: flowV k tick (i + 1) ls.tail (outsV (ls.headD []) (mostN k i) come many tick) (leftV (ls.headD []) (mostN k i) come many) := by
  cases ls with
  | cons l r => rw [flowV]; rfl
  | nil => rw [flowV, dif_neg (by simpa using h)]; rfl
theorem flow_len (k tick : Nat) : ∀ (b i : Nat) (ls : List (List Span)) (come : List Span) (many : Nat), (∀ l ∈ ls, l.length < 2 ^ b) → come.length + many < 2 ^ b → (flowV k tick i ls come many).length ≤ ls.length + b := by
  have nil : ∀ (b i : Nat) (come : List Span) (many : Nat), come.length + many < 2 ^ b → (flowV k tick i [] come many).length ≤ b := by
    intro b
    induction b with
    | zero => intro i come many h; rw [flowV_nil (by simpa using h)]; simp
    | succ b ih =>
      intro i come many h
      by_cases h0 : come.length + many = 0
      · rw [flowV_nil h0]; simp
      · rw [flowV_cons (by simp only [true_and]; exact h0)]
        have hg := go_less [] (mostN k i) come many tick (mostN_pos k i)
        have hm := mostN_pos k i
        simp only [List.headD_nil, List.tail_nil, List.length_cons]
        have := ih (i + 1) (outsV [] (mostN k i) come many tick) (leftV [] (mostN k i) come many) (by rw [hg]; unfold pairsN; rw [Nat.pow_succ] at h; simp; omega)
        omega
  intro b i ls
  induction ls generalizing i with
  | nil => intro come many _ h; have := nil b i come many (by omega); simpa using this
  | cons l r ih =>
    intro come many hl h
    rw [flowV_cons (by simp)]
    have hg := go_less l (mostN k i) come many tick (mostN_pos k i)
    have hm := mostN_pos k i
    simp only [List.headD_cons, List.tail_cons, List.length_cons]
    have h1 := hl l List.mem_cons_self
    have := ih (i + 1) (outsV l (mostN k i) come many tick) (leftV l (mostN k i) come many) (fun x hx => hl x (List.mem_cons_of_mem _ hx)) (by rw [hg]; unfold pairsN; omega)
    omega
theorem outs_small {l add : List Span} {most many tick B : Nat} (hm : 1 ≤ most) (hl : l.length ≤ B) (ha : add.length ≤ B) : (outsV l most add many tick).length ≤ B := by
  rw [outs_len _ _ _ _ _ hm]; unfold outsN; omega
theorem left_small {l add : List Span} {most many B : Nat} (hl : l.length ≤ B) (ha : add.length ≤ B) (h : many ≤ 4611686018427387904 / 4) (hB : B ≤ 1099511627776) : leftV l most add many ≤ 4611686018427387904 / 4 := by
  unfold leftV outsN pairsN; omega

def zeroH : Hist := ⟨0, 0, []⟩
/-- Weight comes. -/
noncomputable def addV (k : Nat) (g : Int) (ls : List (List Span)) (tick w : Nat) : Hist × Int :=
  if w = 0 then (zeroH, 1)
  else if 9223372036854775807 < tick ∨ ((lastV ls).2 = true ∧ tick < (lastV ls).1) then (zeroH, 6)
  else if 4503599627370496 - totN 0 ls < w then (zeroH, 5)
  else (⟨k, g, flowV k tick 0 ls [] w⟩, 0)
end Go.Sk
end

-- W6
section
namespace Go.Sk
open Go Go.Proofs

theorem lvE_mk (l : List Span) : lvE l = [.sl (l.map Span.pv)] := rfl
theorem lvE_len {ls : List (List Span)} : ∀ el ∈ ls.map lvE, el.length = 1 := by
  intro el h; obtain ⟨x, _, rfl⟩ := List.mem_map.1 h; rfl

theorem hist_Last (k g : Int) (ls : List (List Span)) (hl : ∀ l ∈ ls, l.length < 1099511627776) : Pure Tryz.prog 150 [(Hist.mk k g ls).av] (.tuple [u64 (lastV ls).1, bl (lastV ls).2]) := fun S => by
  refine callR_of Tryz.func150 rfl rfl (xc_ok (bitB 65567) _ _ _ ?_)
  simp only [go_sem]
  refine alloc_intro fun b hb => ?_
  simp only [go_sem]
  cases ls with
  | nil =>
    simp only [go_sem, List.map_nil]
    (refine ⟨S, by (repeat (first | exact Sub.refl _ | refine Sub.setF ?_ (by first | assumption | simp only [*]) | refine Sub.setV ?_ (by first | assumption | simp only [*]))), ?_⟩); simp [lastV]
  | cons l ls =>
    cases l with
    | nil =>
      simp only [go_sem, lvE_mk]
      (refine ⟨S, by (repeat (first | exact Sub.refl _ | refine Sub.setF ?_ (by first | assumption | simp only [*]) | refine Sub.setV ?_ (by first | assumption | simp only [*]))), ?_⟩); simp [lastV]
    | cons s l =>
      have hlen := hl _ (List.mem_cons_self ..)
      have e5 : wi ((l.length + 1 : Nat) - 1 : Int) = ((l.length : Nat) : Int) := by
        simp at hlen
        rw [wi_id (by omega) (by omega)]; omega
      have e7 : ([PV.int .u64 s.a, .int .u64 s.b] :: List.map Span.pv l).getD l.length [] = ((s :: l).getLast (by simp)).pv := by
        rw [show [PV.int .u64 s.a, .int .u64 s.b] = s.pv from rfl, ← List.map_cons, getD_map' _ _ _ _ (by simp), List.getLast_eq_getElem]; rfl
      have e8 : lastV ((s :: l) :: ls) = (((s :: l).getLast (by simp)).b, true) := by
        simp only [lastV, List.getLast?_eq_some_getLast (show s :: l ≠ [] by simp)]
      simp only [go_sem, lvE_mk, e5, e7, e8]
      (refine ⟨S, by (repeat (first | exact Sub.refl _ | refine Sub.setF ?_ (by first | assumption | simp only [*]) | refine Sub.setV ?_ (by first | assumption | simp only [*]))), ?_⟩); simp

theorem ref06_Last (k g : Int) (ls : List (List Span)) (hl : ∀ l ∈ ls, l.length < 1099511627776) : Pure Tryz.prog 154 [(Hist.mk k g ls).av] (.tuple [u64 (lastV ls).1, bl (lastV ls).2]) := fun S => by
  refine callR_of Tryz.func154 rfl rfl (xc_ok (bitB 65567) _ _ _ ?_)
  simp only [go_sem]
  refine alloc_intro fun b hb => ?_
  simp only [go_sem]
  cases ls with
  | nil =>
    simp only [go_sem, List.map_nil]
    (refine ⟨S, by (repeat (first | exact Sub.refl _ | refine Sub.setF ?_ (by first | assumption | simp only [*]) | refine Sub.setV ?_ (by first | assumption | simp only [*]))), ?_⟩); simp [lastV]
  | cons l ls =>
    cases l with
    | nil =>
      simp only [go_sem, lvE_mk]
      (refine ⟨S, by (repeat (first | exact Sub.refl _ | refine Sub.setF ?_ (by first | assumption | simp only [*]) | refine Sub.setV ?_ (by first | assumption | simp only [*]))), ?_⟩); simp [lastV]
    | cons s l =>
      have hlen := hl _ (List.mem_cons_self ..)
      have e5 : wi ((l.length + 1 : Nat) - 1 : Int) = ((l.length : Nat) : Int) := by
        simp at hlen
        rw [wi_id (by omega) (by omega)]; omega
      have e7 : ([PV.int .u64 s.a, .int .u64 s.b] :: List.map Span.pv l).getD l.length [] = ((s :: l).getLast (by simp)).pv := by
        rw [show [PV.int .u64 s.a, .int .u64 s.b] = s.pv from rfl, ← List.map_cons, getD_map' _ _ _ _ (by simp), List.getLast_eq_getElem]; rfl
      have e8 : lastV ((s :: l) :: ls) = (((s :: l).getLast (by simp)).b, true) := by
        simp only [lastV, List.getLast?_eq_some_getLast (show s :: l ≠ [] by simp)]
      simp only [go_sem, lvE_mk, e5, e7, e8]
      (refine ⟨S, by (repeat (first | exact Sub.refl _ | refine Sub.setF ?_ (by first | assumption | simp only [*]) | refine Sub.setV ?_ (by first | assumption | simp only [*]))), ?_⟩); simp

theorem hist_Total (k g : Int) (ls : List (List Span)) (hl : ls.length < 1099511627776) : Pure Tryz.prog 73 [(Hist.mk k g ls).av] (u64 (totV ls)) := fun S => by
  refine callR_of Tryz.func73 rfl rfl (xc_ok (bitB 1983) _ _ _ ?_)
  simp only [go_sem]
  refine alloc_intro fun b hb => ?_
  simp only [go_sem]
  refine AWP.iter (fun i => ⟨Env.get [(3, u64 (totF 0 0 (ls.take i))), (7, .p (.sl (ls.map lvE))), (8, i64 ls.length), (9, i64 i)], S, 23, []⟩) ls.length ?_ ?_ ?_
  · exact le_of (by simp only [go_sem]; simp [totF]) ((Sub.refl S).setF hb) rfl rfl (by simp)
  · intro i hi ih
    refine AWPH.step (xc_ok (bitB 1983) _ _ _ ?_)
    simp only [go_sem, hi, ltN' hi, getD_map' _ _ _ _ hi, lvE_mk]
    refine ih.back (by (repeat (first | exact Sub.refl _ | refine Sub.setF ?_ (by first | assumption | simp only [*]) | refine Sub.setV ?_ (by first | assumption | simp only [*])))) (by simp) ?_
    simp only [go_sem, totF_take ls i hi, wi_succ (show i < 4611686018427387904 by omega)]
  · refine AWPH.step (xc_ok (bitB 1983) _ _ _ ?_)
    simp only [go_sem, List.take_length]
    (refine ⟨S, by (repeat (first | exact Sub.refl _ | refine Sub.setF ?_ (by first | assumption | simp only [*]) | refine Sub.setV ?_ (by first | assumption | simp only [*]))), ?_⟩); simp [totV]

theorem ref06_Total (k g : Int) (ls : List (List Span)) (hl : ls.length < 1099511627776) : Pure Tryz.prog 35 [(Hist.mk k g ls).av] (u64 (totV ls)) := fun S => by
  refine callR_of Tryz.func35 rfl rfl (xc_ok (bitB 543) _ _ _ ?_)
  simp only [go_sem]
  refine alloc_intro fun b hb => ?_
  simp only [go_sem]
  refine AWP.iter (fun i => ⟨Env.get [(1, .sp b 0), (3, u64 (totF 0 0 (ls.take i))), (4, i64 i)], S.set (.r b) (.cells [i64 k, i64 g, .p (.sl (ls.map lvE))]), 24, []⟩) ls.length ?_ ?_ ?_
  · exact le_of (by simp only [go_sem]; simp [totF]) (Sub.refl _) rfl rfl (by simp)
  · intro i hi ih
    refine AWPH.step (xc_ok (bitB 543) _ _ _ ?_)
    simp only [go_sem, hi, ltN' hi, getD_map' _ _ _ _ hi, lvE_mk]
    refine ih.back (by (repeat (first | exact Sub.refl _ | refine Sub.setF ?_ (by first | assumption | simp only [*]) | refine Sub.setV ?_ (by first | assumption | simp only [*])))) (by simp) ?_
    simp only [go_sem, totF_take ls i hi, wi_succ (show i < 4611686018427387904 by omega)]
  · refine AWPH.step (xc_ok (bitB 543) _ _ _ ?_)
    simp only [go_sem, List.take_length]
    (refine ⟨S, by (repeat (first | exact Sub.refl _ | refine Sub.setF ?_ (by first | assumption | simp only [*]) | refine Sub.setV ?_ (by first | assumption | simp only [*]))), ?_⟩); simp [totV]

theorem ref06_at (k g : Int) (ls : List (List Span)) (i : Nat) : Pure Tryz.prog 156 [(Hist.mk k g ls).av, i64 i] (.p (lvP (ls.getD i []))) := fun S => by
  refine callR_of Tryz.func156 rfl rfl (xc_ok (bitB 535) _ _ _ ?_)
  simp only [go_sem]
  refine alloc_intro fun b hb => ?_
  by_cases hi : i < ls.length
  · simp only [go_sem, show ¬ ((i : Int) ≥ (ls.length : Int)) by omega, ltN' hi, hi, getD_map' _ _ _ _ hi, lvE_mk]
    (refine ⟨S, by (repeat (first | exact Sub.refl _ | refine Sub.setF ?_ (by first | assumption | simp only [*]) | refine Sub.setV ?_ (by first | assumption | simp only [*]))), ?_⟩); simp [lvP, List.getD_eq_getElem?_getD, hi]
  · simp only [go_sem, show ((i : Int) ≥ (ls.length : Int)) by omega]
    (refine ⟨S, by (repeat (first | exact Sub.refl _ | refine Sub.setF ?_ (by first | assumption | simp only [*]) | refine Sub.setV ?_ (by first | assumption | simp only [*]))), ?_⟩); simp [lvP, List.getD_eq_getElem?_getD, List.getElem?_eq_none (show ls.length ≤ i by omega)]

theorem hist_New (k : Int) : Pure Tryz.prog 70 [i64 k] (.tuple (if k < 2 ∨ k > 1024 then [zeroH.av, i64 9] else [(Hist.mk k 0 []).av, i64 0])) := fun S => by
  refine callR_of Tryz.func70 rfl rfl (xc_ok (bitB 525) _ _ _ ?_)
  simp only [go_sem]
  refine alloc_intro fun b hb => ?_
  simp only [go_sem]
  by_cases h1 : k < 2
  · simp only [go_sem, h1]
    (refine ⟨S, by (repeat (first | exact Sub.refl _ | refine Sub.setF ?_ (by first | assumption | simp only [*]) | refine Sub.setV ?_ (by first | assumption | simp only [*]))), ?_⟩); simp [h1, zeroH, Hist.av, Hist.cs]
  · by_cases h2 : k > 1024
    · simp only [go_sem, h1, h2]
      (refine ⟨S, by (repeat (first | exact Sub.refl _ | refine Sub.setF ?_ (by first | assumption | simp only [*]) | refine Sub.setV ?_ (by first | assumption | simp only [*]))), ?_⟩); simp [h2, zeroH, Hist.av, Hist.cs]
    · simp only [go_sem, h1, h2]
      (refine ⟨S, by (repeat (first | exact Sub.refl _ | refine Sub.setF ?_ (by first | assumption | simp only [*]) | refine Sub.setV ?_ (by first | assumption | simp only [*]))), ?_⟩); simp [h1, h2, Hist.av, Hist.cs]
end Go.Sk
end

-- W6c
section
namespace Go.Sk
open Go Go.Proofs

theorem eq_of_all {α : Type} {a b : List α} (hlen : a.length = b.length) (h : ∀ j (h1 : j < a.length) (h2 : j < b.length), a[j] = b[j]) : a = b := List.ext_getElem hlen h
theorem all_step {α : Type} {a b : List α} {i : Nat} (hall : ∀ j, j < i → ∀ (h1 : j < a.length) (h2 : j < b.length), a[j] = b[j]) (he : ∀ (h1 : i < a.length) (h2 : i < b.length), a[i] = b[i]) :
    ∀ j, j < i + 1 → ∀ (h1 : j < a.length) (h2 : j < b.length), a[j] = b[j] := by
  intro j h h1 h2
  rcases Nat.lt_or_ge j i with hj | hj
  · exact hall j hj h1 h2
  · obtain rfl : j = i := by omega
    exact he h1 h2
theorem span_eq (x y : Span) : (x.a == y.a && x.b == y.b) = decide (x = y) := by
  cases x; cases y
  rw [Bool.eq_iff_iff]; simp

theorem eq_spans (a b : List Span) (ha : a.length < 1099511627776) : Pure Tryz.prog 189 [.p (lvP a), .p (lvP b)] (bl (decide (a = b))) := fun S => by
  refine callR_of Tryz.func189 rfl rfl (xc_ok (bitB 16806963) _ _ _ ?_)
  simp only [go_sem, lvP]
  by_cases hlen : a.length = b.length
  rotate_left
  · have hn : (a.length != b.length) = true := by simpa using hlen
    have hne : ¬ a = b := fun e => hlen (by rw [e])
    simp only [go_sem, hn]
    (refine ⟨S, by (repeat (first | exact Sub.refl _ | refine Sub.setF ?_ (by first | assumption | simp only [*]) | refine Sub.setV ?_ (by first | assumption | simp only [*]))), ?_⟩); simp [hne]
  · have hn : (a.length != b.length) = false := by simpa using hlen
    simp only [go_sem, hn]
    refine AWP.roam (fun i : Nat => i ≤ a.length ∧ ∀ j, j < i → ∀ (h1 : j < a.length) (h2 : j < b.length), a[j] = b[j]) (fun i => ⟨Env.get [(0, .p (.sl (a.map Span.pv))), (1, .p (.sl (b.map Span.pv))), (12, i64 a.length), (13, i64 i)], S, 26, []⟩) (fun i => a.length - i) 0 ⟨by omega, fun j h => by omega⟩ ?_ ?_
    · exact le_of (by simp only [go_sem]; simp) (Sub.refl _) rfl rfl (by simp)
    · rintro i ⟨hi, hall⟩ ih
      refine AWPH.step (xc_ok (bitB 16806963) _ _ _ ?_)
      by_cases h : i < a.length
      · have hb : i < b.length := by omega
        simp only [go_sem, h, hb, ltN' h, ltN' hb, getD_map' _ _ _ _ h, getD_map' _ _ _ _ hb]
        refine AWP.draw2 (bitB 16806963) mixed (by kernel_rfl) (fun j => bl false) ?_
        simp only [go_sem, h, hb, ltN' h, ltN' hb, getD_map' _ _ _ _ h, getD_map' _ _ _ _ hb, span_eq]
        by_cases hq : a[i] = b[i]
        · simp only [go_sem, hq, Bool.not_true]
          refine (ih (i + 1) ⟨h, all_step hall fun _ _ => hq⟩ (by omega)).back (by (repeat (first | exact Sub.refl _ | refine Sub.setF ?_ (by first | assumption | simp only [*]) | refine Sub.setV ?_ (by first | assumption | simp only [*])))) (by simp) ?_
          simp only [go_sem, wi_succ (show i < 4611686018427387904 by omega)]
        · simp only [go_sem, hq, Bool.not_false]
          (refine ⟨S, by (repeat (first | exact Sub.refl _ | refine Sub.setF ?_ (by first | assumption | simp only [*]) | refine Sub.setV ?_ (by first | assumption | simp only [*]))), ?_⟩)
          have hne : ¬ a = b := by rintro rfl; exact hq rfl
          simp [hne]
      · obtain rfl : i = a.length := by omega
        simp only [go_sem]
        (refine ⟨S, by (repeat (first | exact Sub.refl _ | refine Sub.setF ?_ (by first | assumption | simp only [*]) | refine Sub.setV ?_ (by first | assumption | simp only [*]))), ?_⟩)
        have : a = b := eq_of_all hlen fun j h1 h2 => hall j h1 h1 h2
        simp [this]

theorem ref05_Same (a b : List Span) (ha : a.length < 1099511627776) : Pure Tryz.prog 161 [.p (lvP a), .p (lvP b)] (bl (decide (a = b))) := fun S => by
  refine callR_of Tryz.func161 rfl rfl (xc_ok (bitB 33571891) _ _ _ ?_)
  simp only [go_sem, lvP]
  by_cases hlen : a.length = b.length
  rotate_left
  · have hn : (a.length != b.length) = true := by simpa using hlen
    have hne : ¬ a = b := fun e => hlen (by rw [e])
    simp only [go_sem, hn]
    (refine ⟨S, by (repeat (first | exact Sub.refl _ | refine Sub.setF ?_ (by first | assumption | simp only [*]) | refine Sub.setV ?_ (by first | assumption | simp only [*]))), ?_⟩); simp [hne]
  · have hn : (a.length != b.length) = false := by simpa using hlen
    simp only [go_sem, hn]
    refine AWP.roam (fun i : Nat => i ≤ a.length ∧ ∀ j, j < i → ∀ (h1 : j < a.length) (h2 : j < b.length), a[j] = b[j]) (fun i => ⟨Env.get [(0, .p (.sl (a.map Span.pv))), (1, .p (.sl (b.map Span.pv))), (5, i64 i)], S, 26, []⟩) (fun i => a.length - i) 0 ⟨by omega, fun j h => by omega⟩ ?_ ?_
    · exact le_of (by simp only [go_sem]; simp) (Sub.refl _) rfl rfl (by simp)
    · rintro i ⟨hi, hall⟩ ih
      refine AWPH.step (xc_ok (bitB 33571891) _ _ _ ?_)
      by_cases h : i < a.length
      · have hb : i < b.length := by omega
        simp only [go_sem, h, hb, ltN' h, ltN' hb, getD_map' _ _ _ _ h, getD_map' _ _ _ _ hb]
        refine AWP.draw2 (bitB 33571891) mixed (by kernel_rfl) (fun j => bl false) ?_
        simp only [go_sem, h, hb, ltN' h, ltN' hb, getD_map' _ _ _ _ h, getD_map' _ _ _ _ hb, span_eq]
        by_cases hq : a[i] = b[i]
        · simp only [go_sem, hq, Bool.not_true]
          refine (ih (i + 1) ⟨h, all_step hall fun _ _ => hq⟩ (by omega)).back (by (repeat (first | exact Sub.refl _ | refine Sub.setF ?_ (by first | assumption | simp only [*]) | refine Sub.setV ?_ (by first | assumption | simp only [*])))) (by simp) ?_
          simp only [go_sem, wi_succ (show i < 4611686018427387904 by omega)]
        · simp only [go_sem, hq, Bool.not_false]
          (refine ⟨S, by (repeat (first | exact Sub.refl _ | refine Sub.setF ?_ (by first | assumption | simp only [*]) | refine Sub.setV ?_ (by first | assumption | simp only [*]))), ?_⟩)
          have hne : ¬ a = b := by rintro rfl; exact hq rfl
          simp [hne]
      · obtain rfl : i = a.length := by omega
        simp only [go_sem]
        (refine ⟨S, by (repeat (first | exact Sub.refl _ | refine Sub.setF ?_ (by first | assumption | simp only [*]) | refine Sub.setV ?_ (by first | assumption | simp only [*]))), ?_⟩)
        have : a = b := eq_of_all hlen fun j h1 h2 => hall j h1 h1 h2
        simp [this]

theorem eq_levels (a b : List (List Span)) (ha : a.length < 1099511627776) (hl : ∀ l ∈ a, l.length < 1099511627776) :
    Pure Tryz.prog 188 [.p (.sl (a.map lvE)), .p (.sl (b.map lvE)), .fn (.func 189) [] []] (bl (decide (a = b))) := fun S => by
  refine callR_of Tryz.func188 rfl rfl (xc_ok (bitB 1074250695) _ _ _ ?_)
  simp only [go_sem, lvP]
  by_cases hlen : a.length = b.length
  rotate_left
  · have hn : (a.length != b.length) = true := by simpa using hlen
    have hne : ¬ a = b := fun e => hlen (by rw [e])
    simp only [go_sem, hn]
    (refine ⟨S, by (repeat (first | exact Sub.refl _ | refine Sub.setF ?_ (by first | assumption | simp only [*]) | refine Sub.setV ?_ (by first | assumption | simp only [*]))), ?_⟩); simp [hne]
  · have hn : (a.length != b.length) = false := by simpa using hlen
    simp only [go_sem, hn]
    refine AWP.roam (fun i : Nat => i ≤ a.length ∧ ∀ j, j < i → ∀ (h1 : j < a.length) (h2 : j < b.length), a[j] = b[j]) (fun i => ⟨Env.get [(1, .p (.sl (b.map lvE))), (2, .fn (.func 189) [] []), (15, .p (.sl (a.map lvE))), (16, i64 a.length), (17, i64 i)], S, 32, []⟩) (fun i => a.length - i) 0 ⟨by omega, fun j h => by omega⟩ ?_ ?_
    · exact le_of (by simp only [go_sem]; simp) (Sub.refl _) rfl rfl (by simp)
    · rintro i ⟨hi, hall⟩ ih
      refine AWPH.step (xc_ok (bitB 1074250695) _ _ _ ?_)
      by_cases h : i < a.length
      · have hb : i < b.length := by omega
        simp only [go_sem, h, hb, ltN' h, ltN' hb, getD_map' _ _ _ _ h, getD_map' _ _ _ _ hb, lvE_mk]
        refine Pure.useF (first := []) (caps := []) (args := [.p (lvP a[i]), .p (lvP b[i])]) (a2 := [.p (lvP a[i]), .p (lvP b[i])]) (eq_spans a[i] b[i] (hl _ (List.getElem_mem h))) rfl ?_
        by_cases hq : a[i] = b[i]
        · simp only [go_sem, hq, Bool.not_true]
          refine (ih (i + 1) ⟨h, all_step hall fun _ _ => hq⟩ (by omega)).back (by (repeat (first | exact Sub.refl _ | refine Sub.setF ?_ (by first | assumption | simp only [*]) | refine Sub.setV ?_ (by first | assumption | simp only [*])))) (by simp) ?_
          simp only [go_sem, wi_succ (show i < 4611686018427387904 by omega)]
        · simp only [go_sem, hq, Bool.not_false]
          (refine ⟨S, by (repeat (first | exact Sub.refl _ | refine Sub.setF ?_ (by first | assumption | simp only [*]) | refine Sub.setV ?_ (by first | assumption | simp only [*]))), ?_⟩)
          have hne : ¬ a = b := by rintro rfl; exact hq rfl
          simp [hne]
      · obtain rfl : i = a.length := by omega
        simp only [go_sem]
        (refine ⟨S, by (repeat (first | exact Sub.refl _ | refine Sub.setF ?_ (by first | assumption | simp only [*]) | refine Sub.setV ?_ (by first | assumption | simp only [*]))), ?_⟩)
        have : a = b := eq_of_all hlen fun j h1 h2 => hall j h1 h1 h2
        simp [this]

theorem hist_equal (k g : Int) (a b : List (List Span)) (ha : a.length < 1099511627776) (hl : ∀ l ∈ a, l.length < 1099511627776) :
    Pure Tryz.prog 138 [(Hist.mk k g a).av, .p (.sl (b.map lvE))] (bl (decide (a = b))) := fun S => by
  refine callR_of Tryz.func138 rfl rfl (xc_ok (bitB 23) _ _ _ ?_)
  simp only [go_sem]
  refine alloc_intro fun c hc => ?_
  simp only [go_sem]
  refine (eq_levels a b ha hl).useA ?_
  simp only [go_sem]
  (refine ⟨S, by (repeat (first | exact Sub.refl _ | refine Sub.setF ?_ (by first | assumption | simp only [*]) | refine Sub.setV ?_ (by first | assumption | simp only [*]))), ?_⟩); simp

def Hist.Small (h : Hist) : Prop := h.ls.length < 1099511627776 ∧ ∀ l ∈ h.ls, l.length < 1099511627776
theorem hist_Same (a b : Hist) (h : a.Small) : Pure Tryz.prog 77 [a.av, b.av] (bl (decide (a = b))) := fun S => by
  obtain ⟨k, g, ls⟩ := a
  obtain ⟨k', g', ls'⟩ := b
  refine callR_of Tryz.func77 rfl rfl (xc_ok (bitB 63) _ _ _ ?_)
  simp only [go_sem]
  refine alloc_intro fun c hc => ?_
  simp only [go_sem]
  refine alloc_intro fun d hd => ?_
  simp only [fresh_set] at hd
  simp only [go_sem, hd]
  by_cases h1 : k = k'
  rotate_left
  · have e1 : (k == k') = false := by simpa using h1
    simp only [go_sem, e1]
    (refine ⟨S, by (repeat (first | exact Sub.refl _ | refine Sub.setF ?_ (by first | assumption | simp only [*]) | refine Sub.setV ?_ (by first | assumption | simp only [*]))), ?_⟩); simp [h1]
  subst h1
  simp only [go_sem, hd, beq_self_eq_true]
  by_cases h2 : g = g'
  rotate_left
  · have e1 : (g == g') = false := by simpa using h2
    simp only [go_sem, e1]
    (refine ⟨S, by (repeat (first | exact Sub.refl _ | refine Sub.setF ?_ (by first | assumption | simp only [*]) | refine Sub.setV ?_ (by first | assumption | simp only [*]))), ?_⟩); simp [h2]
  subst h2
  simp only [go_sem, hd, beq_self_eq_true]
  refine Pure.useF (first := [(Hist.mk k g ls).av]) (caps := []) (args := [.p (.sl (ls'.map lvE))]) (a2 := [.p (.sl (ls'.map lvE))]) (hist_equal k g ls ls' h.1 h.2) rfl ?_
  simp only [go_sem]
  (refine ⟨S, by (repeat (first | exact Sub.refl _ | refine Sub.setF ?_ (by first | assumption | simp only [*]) | refine Sub.setV ?_ (by first | assumption | simp only [*]))), ?_⟩); simp

theorem ref06_Same (a b : Hist) (h : a.Small) : Pure Tryz.prog 102 [a.av, b.av] (bl (decide (a = b))) := fun S => by
  obtain ⟨k, g, ls⟩ := a
  obtain ⟨k', g', ls'⟩ := b
  refine callR_of Tryz.func102 rfl rfl (xc_ok (bitB 35186586681407) _ _ _ ?_)
  simp only [go_sem]
  refine alloc_intro fun c hc => ?_
  simp only [go_sem]
  refine alloc_intro fun d hd => ?_
  simp only [fresh_set] at hd
  simp only [go_sem, hd]
  by_cases h1 : k = k'
  rotate_left
  · have e1 : (k != k') = true := by simpa using h1
    simp only [go_sem, e1]
    (refine ⟨S, by (repeat (first | exact Sub.refl _ | refine Sub.setF ?_ (by first | assumption | simp only [*]) | refine Sub.setV ?_ (by first | assumption | simp only [*]))), ?_⟩); simp [h1]
  subst h1
  simp only [go_sem, hd, bne_self_eq_false]
  by_cases h2 : g = g'
  rotate_left
  · have e1 : (g != g') = true := by simpa using h2
    simp only [go_sem, e1]
    (refine ⟨S, by (repeat (first | exact Sub.refl _ | refine Sub.setF ?_ (by first | assumption | simp only [*]) | refine Sub.setV ?_ (by first | assumption | simp only [*]))), ?_⟩); simp [h2]
  subst h2
  simp only [go_sem, hd, bne_self_eq_false]
  by_cases hlen : ls.length = ls'.length
  rotate_left
  · have hn : (ls.length != ls'.length) = true := by simpa using hlen
    have hne : ¬ ls = ls' := fun e => hlen (by rw [e])
    simp only [go_sem, hn]
    (refine ⟨S, by (repeat (first | exact Sub.refl _ | refine Sub.setF ?_ (by first | assumption | simp only [*]) | refine Sub.setV ?_ (by first | assumption | simp only [*]))), ?_⟩); simp [hne]
  have hn : (ls.length != ls'.length) = false := by simpa using hlen
  simp only [go_sem, hn]
  refine AWP.roam (fun i : Nat => i ≤ ls.length ∧ ∀ j, j < i → ∀ (h1 : j < ls.length) (h2 : j < ls'.length), ls[j] = ls'[j]) (fun i => ⟨Env.get [(2, .sp c 0), (3, .sp d 0), (5, i64 i)],
    (S.set (.r c) (.cells [i64 k, i64 g, .p (.sl (ls.map lvE))])).set (.r d) (.cells [i64 k, i64 g, .p (.sl (ls'.map lvE))]), 46, []⟩) (fun i => ls.length - i) 0 ⟨by omega, fun j h => by omega⟩ ?_ ?_
  · exact le_of (by simp only [go_sem]; simp) (Sub.refl _) rfl rfl (by simp)
  · rintro i ⟨hi, hall⟩ ih
    refine AWPH.step (xc_ok (bitB 35186586681407) _ _ _ ?_)
    by_cases hx : i < ls.length
    · have hb : i < ls'.length := by omega
      simp only [go_sem, hd, hx, hb, ltN' hx, ltN' hb, getD_map' _ _ _ _ hx, getD_map' _ _ _ _ hb, lvE_mk]
      refine AWP.draw2 (bitB 35186586681407) mixed (by kernel_rfl) (fun j => bl (decide (ls[i] = ls'[i]))) ?_
      simp only [go_sem, hd, hx, hb, ltN' hx, ltN' hb, getD_map' _ _ _ _ hx, getD_map' _ _ _ _ hb, lvE_mk]
      refine ⟨(ref05_Same ls[i] ls'[i] (h.2 _ (List.getElem_mem hx))).draw, ?_⟩
      by_cases hq : ls[i] = ls'[i]
      · simp only [go_sem, hq, Bool.not_true]
        refine (ih (i + 1) ⟨hx, all_step hall fun _ _ => hq⟩ (by omega)).back (by (repeat (first | exact Sub.refl _ | refine Sub.setF ?_ (by first | assumption | simp only [*]) | refine Sub.setV ?_ (by first | assumption | simp only [*])))) (by simp) ?_
        simp only [go_sem, wi_succ (show i < 4611686018427387904 by have := h.1; dsimp only at this; omega)]
      · simp only [go_sem, hq, Bool.not_false]
        (refine ⟨S, by (repeat (first | exact Sub.refl _ | refine Sub.setF ?_ (by first | assumption | simp only [*]) | refine Sub.setV ?_ (by first | assumption | simp only [*]))), ?_⟩)
        have hne : ¬ ls = ls' := by rintro rfl; exact hq rfl
        simp [hne]
    · obtain rfl : i = ls.length := by omega
      simp only [go_sem, hd]
      (refine ⟨S, by (repeat (first | exact Sub.refl _ | refine Sub.setF ?_ (by first | assumption | simp only [*]) | refine Sub.setV ?_ (by first | assumption | simp only [*]))), ?_⟩)
      have : ls = ls' := eq_of_all hlen fun j h1 h2 => hall j h1 h1 h2
      simp [this]
end Go.Sk
end

-- A7
section
namespace Go.Sk

theorem stay_all (l add : List Span) (many tick most : Nat) (hm : 1 ≤ most) : (stayV l most add many tick).length + 2 * ((outsV l most add many tick).length + leftV l most add many) = l.length + add.length + many := by
  rw [go_less _ _ _ _ _ hm, stay_len]; unfold pairsN; omega
theorem stay_ne (l add : List Span) (many tick most : Nat) (hm : 2 ≤ most) (h : 0 < l.length + add.length + many) : stayV l most add many tick ≠ [] := by
  intro e
  have := congrArg List.length e
  rw [stay_len] at this; unfold pairsN at this; simp at this; omega
theorem mostN_two {k : Nat} (hk : 2 ≤ k) (i : Nat) : 2 ≤ mostN k i := by unfold mostN; split <;> omega

theorem flow_nil_ind (k tick : Nat) (p : Nat → List Span → Nat → Prop) (h0 : ∀ i come many, come.length + many = 0 → p i come many)
    (h1 : ∀ i come many, ¬ come.length + many = 0 → p (i + 1) (outsV [] (mostN k i) come many tick) (leftV [] (mostN k i) come many) → p i come many) : ∀ b i come many, come.length + many ≤ b → p i come many := by
  intro b
  induction b with
  | zero => intro i come many h; exact h0 _ _ _ (by omega)
  | succ b ih =>
    intro i come many h
    by_cases hz : come.length + many = 0
    · exact h0 _ _ _ hz
    · refine h1 i come many hz (ih _ _ _ ?_)
      rw [go_less _ _ _ _ _ (mostN_pos k i)]
      have := mostN_pos k i
      unfold pairsN; simp; omega
theorem flow_ind (k tick : Nat) (p : Nat → List (List Span) → List Span → Nat → Prop) (h0 : ∀ i come many, come.length + many = 0 → p i [] come many)
    (h1 : ∀ i ls come many, ¬ (ls = [] ∧ come.length + many = 0) → p (i + 1) ls.tail (outsV (ls.headD []) (mostN k i) come many tick) (leftV (ls.headD []) (mostN k i) come many) → p i ls come many) : ∀ ls i come many, p i ls come many := by
  have hnil : ∀ i come many, p i [] come many := fun i come many =>
    flow_nil_ind k tick (fun i come many => p i [] come many) h0 (fun i come many hz hp => h1 i [] come many (by simpa using hz) hp) _ i come many (Nat.le_refl _)
  intro ls
  induction ls with
  | nil => exact hnil
  | cons l r ih => intro i come many; exact h1 i (l :: r) come many (by simp) (ih _ _ _)

theorem flow_tot (k tick : Nat) : ∀ ls i come many, totN i (flowV k tick i ls come many) = totN i ls + (come.length + many) * 2 ^ i := by
  refine flow_ind k tick (fun i ls come many => totN i (flowV k tick i ls come many) = totN i ls + (come.length + many) * 2 ^ i) ?_ ?_
  · intro i come many h; rw [flowV_nil h, h]; simp
  · intro i ls come many h ih
    rw [flowV_cons h]
    simp only [totN]
    rw [ih]
    have hs := stay_all (ls.headD []) come many tick (mostN k i) (mostN_pos k i)
    have ht : totN i ls = (ls.headD []).length * 2 ^ i + totN (i + 1) ls.tail := by cases ls <;> simp [totN]
    rw [ht]
    generalize (stayV (ls.headD []) (mostN k i) come many tick).length = A at *
    generalize (outsV (ls.headD []) (mostN k i) come many tick).length + leftV (ls.headD []) (mostN k i) come many = B at *
    generalize (ls.headD []).length = C at *
    have e : C * 2 ^ i + (come.length + many) * 2 ^ i = A * 2 ^ i + (2 * B) * 2 ^ i := by
      rw [← Nat.add_mul, ← Nat.add_mul]; congr 1; omega
    have e2 : B * 2 ^ (i + 1) = (2 * B) * 2 ^ i := by rw [Nat.pow_succ, Nat.mul_comm 2 B, Nat.mul_assoc, Nat.mul_comm 2]
    omega
theorem flow_small (k tick : Nat) : ∀ ls i come many, ∀ l ∈ flowV k tick i ls come many, l.length ≤ k + 2 := by
  refine flow_ind k tick (fun i ls come many => ∀ l ∈ flowV k tick i ls come many, l.length ≤ k + 2) ?_ ?_
  · intro i come many h l hl; rw [flowV_nil h] at hl; cases hl
  · intro i ls come many h ih l hl
    rw [flowV_cons h] at hl
    rcases List.mem_cons.1 hl with rfl | hl
    · exact Nat.le_trans (stay_le _ _ _ _ _ (mostN_pos k i)) (mostN_le k i)
    · exact ih l hl
theorem flow_ne (k tick : Nat) (hk : 2 ≤ k) : ∀ ls i come many, (∀ l ∈ ls, l ≠ []) → ∀ l ∈ flowV k tick i ls come many, l ≠ [] := by
  refine flow_ind k tick (fun i ls come many => (∀ l ∈ ls, l ≠ []) → ∀ l ∈ flowV k tick i ls come many, l ≠ []) ?_ ?_
  · intro i come many h _ l hl; rw [flowV_nil h] at hl; cases hl
  · intro i ls come many h ih hne l hl
    rw [flowV_cons h] at hl
    rcases List.mem_cons.1 hl with rfl | hl
    · refine stay_ne _ _ _ _ _ (mostN_two hk i) ?_
      cases ls with
      | nil => simp only [true_and] at h; simp; omega
      | cons x r =>
        have := hne x List.mem_cons_self
        cases x with
        | nil => exact absurd rfl this
        | cons a b => simp; omega
    · exact ih (fun x hx => hne x (List.mem_of_mem_tail hx)) l hl
theorem tot_levels : ∀ (ls : List (List Span)) (i : Nat), (∀ l ∈ ls, l ≠ []) → 2 ^ (i + ls.length) ≤ totN i ls + 2 ^ i := by
  intro ls
  induction ls with
  | nil => intro i _; simp
  | cons l r ih =>
    intro i h
    have := ih (i + 1) (fun x hx => h x (List.mem_cons_of_mem _ hx))
    have hl : 1 ≤ l.length := by have := h l List.mem_cons_self; cases l with | nil => exact absurd rfl this | cons a b => simp
    have h2 := Nat.mul_le_mul_right (2 ^ i) hl
    simp only [totN, List.length_cons]
    rw [show i + (r.length + 1) = i + 1 + r.length by omega]
    rw [Nat.pow_succ 2 i] at this
    omega

/-- A histogram that came to be by adding alone. -/
structure Hist.Good (h : Hist) : Prop where
  k0 : 2 ≤ h.k
  k1 : h.k ≤ 1024
  ne : ∀ l ∈ h.ls, l ≠ []
  sm : ∀ l ∈ h.ls, l.length ≤ h.k.toNat + 2
  tot : totN 0 h.ls ≤ 4503599627370496
theorem Hist.Good.len {h : Hist} (g : h.Good) : h.ls.length ≤ 53 := by
  have := tot_levels h.ls 0 g.ne
  have h2 := g.tot
  apply Classical.byContradiction
  intro hc
  have : (2 : Nat) ^ 54 ≤ 2 ^ (0 + h.ls.length) := Nat.pow_le_pow_right (by decide) (by omega)
  have e : (2 : Nat) ^ 54 = 18014398509481984 := by decide
  omega
theorem addV_good {h : Hist} (g : h.Good) (t w : Nat) (e : (addV h.k.toNat h.g h.ls t w).2 = 0) : (addV h.k.toNat h.g h.ls t w).1.Good ∧ (addV h.k.toNat h.g h.ls t w).1.k = h.k ∧ (addV h.k.toNat h.g h.ls t w).1.g = h.g ∧ totN 0 (addV h.k.toNat h.g h.ls t w).1.ls = totN 0 h.ls + w := by
  obtain ⟨k, gg, ls⟩ := h
  obtain ⟨h1, h2, h3, h4, h5⟩ := g
  dsimp only at h1 h2 h3 h4 h5 e ⊢
  obtain ⟨k, rfl⟩ : ∃ k' : Nat, k = k' := ⟨k.toNat, by omega⟩
  rw [Int.toNat_natCast] at *
  unfold addV at e ⊢
  split
  · rename_i c; rw [if_pos c] at e; simp at e
  · rename_i c; rw [if_neg c] at e
    split
    · rename_i c; rw [if_pos c] at e; simp at e
    · rename_i c; rw [if_neg c] at e
      split
      · rename_i c; rw [if_pos c] at e; simp at e
      · rename_i c2
        have ht := flow_tot k t ls 0 [] w
        simp only [List.length_nil, Nat.zero_add, Nat.pow_zero, Nat.mul_one] at ht
        refine ⟨⟨h1, h2, flow_ne k t (by omega) ls 0 [] w h3, ?_, ?_⟩, rfl, rfl, ht⟩
        · intro l hl; rw [Int.toNat_natCast]; exact flow_small k t ls 0 [] w l hl
        · dsimp only; rw [ht]; omega
end Go.Sk
end

-- A18
section
namespace Go.Sk

/-- All buckets, the oldest ones first. -/
def flat : List (List Span) → List Span
  | [] => []
  | l :: r => flat r ++ l
theorem flat_tail (ls : List (List Span)) : flat ls = flat ls.tail ++ ls.headD [] := by cases ls <;> simp [flat]
def Bef (x y : Span) : Prop := x.b ≤ y.a
def Mono (W : Nat → Bool) : Prop := ∀ x y, x ≤ y → W x = true → W y = true
def lo (W : Nat → Bool) (l : List Span) : Nat := l.countP (fun s => W s.a)
def hi (W : Nat → Bool) (l : List Span) : Nat := l.countP (fun s => W s.b)
def loL (W : Nat → Bool) : Nat → List (List Span) → Nat
  | _, [] => 0
  | i, l :: r => lo W l * 2 ^ i + loL W (i + 1) r
def hiL (W : Nat → Bool) : Nat → List (List Span) → Nat
  | _, [] => 0
  | i, l :: r => hi W l * 2 ^ i + hiL W (i + 1) r
theorem loL_tail (W : Nat → Bool) (i : Nat) (ls : List (List Span)) : loL W i ls = lo W (ls.headD []) * 2 ^ i + loL W (i + 1) ls.tail := by cases ls <;> simp [loL, lo]
theorem hiL_tail (W : Nat → Bool) (i : Nat) (ls : List (List Span)) : hiL W i ls = hi W (ls.headD []) * 2 ^ i + hiL W (i + 1) ls.tail := by cases ls <;> simp [hiL, hi]
theorem lo_app (W : Nat → Bool) (l m : List Span) : lo W (l ++ m) = lo W l + lo W m := List.countP_append
theorem hi_app (W : Nat → Bool) (l m : List Span) : hi W (l ++ m) = hi W l + hi W m := List.countP_append
theorem lo_rep (W : Nat → Bool) (n t : Nat) : lo W (List.replicate n ⟨t, t⟩) = if W t = true then n else 0 := by unfold lo; rw [List.countP_replicate]
theorem hi_rep (W : Nat → Bool) (n t : Nat) : hi W (List.replicate n ⟨t, t⟩) = if W t = true then n else 0 := by unfold hi; rw [List.countP_replicate]

theorem pairUp_take (l : List Span) : ∀ p, pairUp (l.take (2 * p)) = (pairUp l).take p := by
  induction l using pairUp.induct with
  | case1 a b r ih =>
    intro p
    cases p with
    | zero => simp [pairUp]
    | succ p =>
      rw [show 2 * (p + 1) = 2 * p + 1 + 1 by omega]
      simp only [List.take_succ_cons, pairUp, ih]
  | case2 l h =>
    intro p
    match l, h with
    | [], _ => simp [pairUp]
    | [x], _ =>
      cases p with
      | zero => simp [pairUp]
      | succ p => rw [show 2 * (p + 1) = 2 * p + 1 + 1 by omega]; simp [pairUp]
    | x :: y :: r, h => exact absurd rfl (h x y r)
/-- What leaves a level. -/
theorem pair_all (l add : List Span) (many tick most : Nat) (hm : 1 ≤ most) :
    outsV l most add many tick ++ List.replicate (leftV l most add many) ⟨tick, tick⟩ = pairUp ((lineV l add many tick).take (2 * pairsN (l.length + add.length + many) most)) := by
  rw [pairUp_take]
  have h2 : outsN (l.length + add.length) most many ≤ pairsN (l.length + add.length + many) most := by unfold outsN; omega
  have hlen : (pairUp (lineV l add many tick)).length = (l.length + add.length + many) / 2 := by rw [pairUp_length, lineV_length]
  have hp : pairsN (l.length + add.length + many) most ≤ (l.length + add.length + many) / 2 := by unfold pairsN; omega
  apply List.ext_getElem
  · rw [List.length_append, List.length_replicate, outs_len _ _ _ _ _ hm, List.length_take, hlen]
    unfold leftV; omega
  · intro i h3 h4
    rw [List.length_take, hlen] at h4
    have hol := outs_len l add many tick most hm
    have hi : i < (pairUp (lineV l add many tick)).length := by omega
    rw [List.getElem_take]
    by_cases hc : i < (outsV l most add many tick).length
    · rw [List.getElem_append_left hc]
      exact List.getElem_take
    · rw [List.getElem_append_right (by omega), List.getElem_replicate]
      rw [hol] at hc
      have hj : (l.length + add.length + 1) / 2 ≤ i := by unfold outsN at hc; omega
      rw [pairUp_get _ i hi (by rw [lineV_length]; omega) (by rw [lineV_length]; omega)]
      rw [lineV_ge (by omega), lineV_ge (by omega)]
theorem flow_c (k tick : Nat) (p : Nat → List (List Span) → List Span → List (List Span) → Prop) (h0 : ∀ i, p i [] [] [])
    (h1 : ∀ i ls c out, ¬ (ls = [] ∧ c = []) → p (i + 1) ls.tail (pairUp ((ls.headD [] ++ c).take (2 * pairsN (ls.headD [] ++ c).length (mostN k i)))) out →
      p i ls c ((ls.headD [] ++ c).drop (2 * pairsN (ls.headD [] ++ c).length (mostN k i)) :: out)) :
    ∀ ls i come many, p i ls (come ++ List.replicate many (⟨tick, tick⟩ : Span)) (flowV k tick i ls come many) := by
  refine flow_ind k tick (fun i ls come many => p i ls (come ++ List.replicate many (⟨tick, tick⟩ : Span)) (flowV k tick i ls come many)) ?_ ?_
  · intro i come many h
    rw [flowV_nil h]
    obtain rfl : come = [] := List.eq_nil_of_length_eq_zero (by omega)
    obtain rfl : many = 0 := by simpa using h
    exact h0 i
  · intro i ls come many h ih
    rw [flowV_cons h]
    rw [pair_all _ _ _ _ _ (mostN_pos k i)] at ih
    have e1 : lineV (ls.headD []) come many tick = ls.headD [] ++ (come ++ List.replicate many (⟨tick, tick⟩ : Span)) := by unfold lineV; rw [List.append_assoc]
    have e2 : (ls.headD []).length + come.length + many = (ls.headD [] ++ (come ++ List.replicate many (⟨tick, tick⟩ : Span))).length := by simp; omega
    rw [e2, e1] at ih
    have := h1 i ls (come ++ List.replicate many (⟨tick, tick⟩ : Span)) _ (by
      rintro ⟨rfl, hc⟩
      apply h
      have := congrArg List.length hc
      simp at this
      refine ⟨rfl, ?_⟩
      simp [this]) ih
    unfold stayV
    rw [e2, e1]
    exact this

theorem pairUp_none {l : List Span} (h : ∀ a b r, ¬ l = a :: b :: r) : pairUp l = [] := by
  match l, h with
  | [], _ => rfl
  | [x], _ => rfl
  | x :: y :: r, h => exact absurd rfl (h x y r)
theorem pairUp_mem (P : List Span) : ∀ z ∈ pairUp P, ∃ x ∈ P, ∃ y ∈ P, z = ⟨x.a, y.b⟩ := by
  induction P using pairUp.induct with
  | case1 a b r ih =>
    intro z hz
    rcases List.mem_cons.1 hz with rfl | hz
    · exact ⟨a, by simp, b, by simp, rfl⟩
    · obtain ⟨x, hx, y, hy, rfl⟩ := ih z hz
      exact ⟨x, by simp [hx], y, by simp [hy], rfl⟩
  | case2 l h =>
    intro z hz
    rw [pairUp_none h] at hz; cases hz
theorem pairUp_srt (P : List Span) : P.Pairwise Bef → (∀ s ∈ P, s.a ≤ s.b) → (pairUp P).Pairwise Bef ∧ ∀ s ∈ pairUp P, s.a ≤ s.b := by
  induction P using pairUp.induct with
  | case1 a b r ih =>
    intro h hv
    rw [List.pairwise_cons, List.pairwise_cons] at h
    obtain ⟨h1, h2, h3⟩ := h
    obtain ⟨i1, i2⟩ := ih h3 (fun s hs => hv s (by simp [hs]))
    have hab : a.b ≤ b.a := h1 b (by simp)
    have hva := hv a (by simp); have hvb := hv b (by simp)
    refine ⟨?_, ?_⟩
    · simp only [pairUp, List.pairwise_cons]
      refine ⟨fun z hz => ?_, i1⟩
      obtain ⟨x, hx, y, hy, rfl⟩ := pairUp_mem r z hz
      exact h2 x hx
    · intro s hs
      rcases List.mem_cons.1 hs with rfl | hs
      · show a.a ≤ b.b; omega
      · exact i2 s hs
  | case2 l h =>
    intro _ _
    have : pairUp l = [] := pairUp_none h
    rw [this]; exact ⟨List.Pairwise.nil, fun s hs => (by cases hs)⟩
theorem pairUp_lo (W : Nat → Bool) (hW : Mono W) (P : List Span) : P.Pairwise Bef → (∀ s ∈ P, s.a ≤ s.b) → 2 * lo W (pairUp P) ≤ lo W P := by
  induction P using pairUp.induct with
  | case1 a b r ih =>
    intro h hv
    rw [List.pairwise_cons, List.pairwise_cons] at h
    obtain ⟨h1, h2, h3⟩ := h
    have i1 := ih h3 (fun s hs => hv s (by simp [hs]))
    have hab : a.b ≤ b.a := h1 b (by simp)
    have hva := hv a (by simp)
    unfold lo at i1 ⊢
    simp only [pairUp, List.countP_cons]
    cases hc : W a.a with
    | false => simp; omega
    | true => rw [hW a.a b.a (by omega) hc]; simp; omega
  | case2 l h =>
    intro _ _
    have : pairUp l = [] := pairUp_none h
    rw [this]; simp [lo]
theorem pairUp_hi (W : Nat → Bool) (hW : Mono W) (P : List Span) : P.Pairwise Bef → (∀ s ∈ P, s.a ≤ s.b) → P.length % 2 = 0 → hi W P ≤ 2 * hi W (pairUp P) := by
  induction P using pairUp.induct with
  | case1 a b r ih =>
    intro h hv he
    rw [List.pairwise_cons, List.pairwise_cons] at h
    obtain ⟨h1, h2, h3⟩ := h
    have i1 := ih h3 (fun s hs => hv s (by simp [hs])) (by simp only [List.length_cons] at he; omega)
    have hab : a.b ≤ b.a := h1 b (by simp)
    have hvb := hv b (by simp)
    unfold hi at i1 ⊢
    simp only [pairUp, List.countP_cons]
    cases hc : W b.b with
    | true => cases W a.b <;> simp <;> omega
    | false =>
      have : W a.b = false := by
        cases hd : W a.b with
        | false => rfl
        | true => rw [hW a.b b.b (by omega) hd] at hc; exact hc
      rw [this]; simp; omega
  | case2 l h =>
    intro _ _ he
    match l, h with
    | [], _ => simp [hi]
    | [x], _ => simp at he
    | x :: y :: r, h => exact absurd rfl (h x y r)

theorem flow_tidy (k tick : Nat) : ∀ ls i come many, (flat ls ++ (come ++ List.replicate many (⟨tick, tick⟩ : Span))).Pairwise Bef → (∀ s ∈ flat ls ++ (come ++ List.replicate many (⟨tick, tick⟩ : Span)), s.a ≤ s.b) →
    (flat (flowV k tick i ls come many)).Pairwise Bef ∧ (∀ s ∈ flat (flowV k tick i ls come many), s.a ≤ s.b) ∧
    (∀ m, (∀ s ∈ flat ls ++ (come ++ List.replicate many (⟨tick, tick⟩ : Span)), s.b ≤ m) → ∀ s ∈ flat (flowV k tick i ls come many), s.b ≤ m) ∧
    ∀ W, Mono W → loL W i (flowV k tick i ls come many) ≤ loL W i ls + lo W (come ++ List.replicate many (⟨tick, tick⟩ : Span)) * 2 ^ i ∧
      hiL W i ls + hi W (come ++ List.replicate many (⟨tick, tick⟩ : Span)) * 2 ^ i ≤ hiL W i (flowV k tick i ls come many) := by
  refine flow_c k tick (fun i ls c out => (flat ls ++ c).Pairwise Bef → (∀ s ∈ flat ls ++ c, s.a ≤ s.b) → (flat out).Pairwise Bef ∧ (∀ s ∈ flat out, s.a ≤ s.b) ∧
    (∀ m, (∀ s ∈ flat ls ++ c, s.b ≤ m) → ∀ s ∈ flat out, s.b ≤ m) ∧ ∀ W, Mono W → loL W i out ≤ loL W i ls + lo W c * 2 ^ i ∧ hiL W i ls + hi W c * 2 ^ i ≤ hiL W i out) ?_ ?_
  · intro i _ _
    refine ⟨List.Pairwise.nil, fun s hs => (by cases hs), fun m _ s hs => (by cases hs), fun W _ => ?_⟩
    simp [loL, hiL, lo, hi]
  · intro i ls c out hne ih hs hv
    have hm := mostN_pos k i
    have hq : 2 * pairsN (ls.headD [] ++ c).length (mostN k i) ≤ (ls.headD [] ++ c).length := by unfold pairsN; omega
    rw [flat_tail ls, List.append_assoc] at hs hv
    have hfl : flat ls ++ c = flat ls.tail ++ (ls.headD [] ++ c) := by rw [flat_tail ls, List.append_assoc]
    rw [hfl]
    have hl1 : ∀ W, lo W (ls.headD [] ++ c) = lo W (ls.headD []) + lo W c := fun W => lo_app W _ _
    have hh1 : ∀ W, hi W (ls.headD [] ++ c) = hi W (ls.headD []) + hi W c := fun W => hi_app W _ _
    generalize hL : ls.headD [] ++ c = L at *
    generalize hQ : 2 * pairsN L.length (mostN k i) = q at *
    have hev : q % 2 = 0 := by omega
    have hsp : L.take q ++ L.drop q = L := List.take_append_drop q L
    have hs' := hs
    rw [← hsp, List.pairwise_append, List.pairwise_append] at hs'
    obtain ⟨s1, ⟨s2, s3, s4⟩, s5⟩ := hs'
    have hvL : ∀ s ∈ L, s.a ≤ s.b := fun s h => hv s (List.mem_append_right _ h)
    have hvT : ∀ s ∈ L.take q, s.a ≤ s.b := fun s h => hvL s (List.mem_of_mem_take h)
    obtain ⟨p1, p2⟩ := pairUp_srt (L.take q) s2 hvT
    have cross : ∀ x ∈ flat ls.tail, ∀ z ∈ pairUp (L.take q), Bef x z := by
      intro x hx z hz
      obtain ⟨u, hu, v, hv2, rfl⟩ := pairUp_mem _ z hz
      exact s5 x hx u (by rw [List.take_append_drop]; exact List.mem_of_mem_take hu)
    obtain ⟨i1, i2, i3, i4⟩ := ih (List.pairwise_append.2 ⟨s1, p1, cross⟩) (fun s h => by
      rcases List.mem_append.1 h with h | h
      · exact hv s (List.mem_append_left _ h)
      · exact p2 s h)
    refine ⟨?_, ?_, ?_, ?_⟩
    · show (flat out ++ L.drop q).Pairwise Bef
      refine List.pairwise_append.2 ⟨i1, s3, fun x hx y hy => ?_⟩
      refine i3 y.a (fun s h => ?_) x hx
      rcases List.mem_append.1 h with h | h
      · exact s5 s h y (by rw [List.take_append_drop]; exact List.mem_of_mem_drop hy)
      · obtain ⟨u, hu, v, hv2, rfl⟩ := pairUp_mem _ s h
        exact s4 v hv2 y hy
    · intro s h
      rcases List.mem_append.1 h with h | h
      · exact i2 s h
      · exact hvL s (List.mem_of_mem_drop h)
    · intro m hm2 s h
      rcases List.mem_append.1 h with h | h
      · refine i3 m (fun z hz => ?_) s h
        rcases List.mem_append.1 hz with hz | hz
        · exact hm2 z (List.mem_append_left _ hz)
        · obtain ⟨u, hu, v, hv2, rfl⟩ := pairUp_mem _ z hz
          exact hm2 v (List.mem_append_right _ (List.mem_of_mem_take hv2))
      · exact hm2 s (List.mem_append_right _ (List.mem_of_mem_drop h))
    · intro W hW
      obtain ⟨j1, j2⟩ := i4 W hW
      have k1 := pairUp_lo W hW (L.take q) s2 hvT
      have k2 := pairUp_hi W hW (L.take q) s2 hvT (by rw [List.length_take]; omega)
      have k3 : lo W L = lo W (L.take q) + lo W (L.drop q) := by rw [← lo_app, hsp]
      have k4 : hi W L = hi W (L.take q) + hi W (L.drop q) := by rw [← hi_app, hsp]
      have k5 := hl1 W; have k6 := hh1 W
      rw [loL_tail W i ls, hiL_tail W i ls]
      show lo W (L.drop q) * 2 ^ i + loL W (i + 1) out ≤ _ ∧ _ ≤ hi W (L.drop q) * 2 ^ i + hiL W (i + 1) out
      rw [Nat.pow_succ] at j1 j2
      have m1 : 2 * lo W (pairUp (L.take q)) * 2 ^ i ≤ lo W (L.take q) * 2 ^ i := Nat.mul_le_mul_right _ k1
      have m2 : hi W (L.take q) * 2 ^ i ≤ 2 * hi W (pairUp (L.take q)) * 2 ^ i := Nat.mul_le_mul_right _ k2
      have e1 : lo W (pairUp (L.take q)) * (2 ^ i * 2) = 2 * lo W (pairUp (L.take q)) * 2 ^ i := by rw [Nat.mul_comm (2 ^ i) 2, ← Nat.mul_assoc, Nat.mul_comm _ 2]
      have e2 : hi W (pairUp (L.take q)) * (2 ^ i * 2) = 2 * hi W (pairUp (L.take q)) * 2 ^ i := by rw [Nat.mul_comm (2 ^ i) 2, ← Nat.mul_assoc, Nat.mul_comm _ 2]
      have e3 : lo W (ls.headD []) * 2 ^ i + lo W c * 2 ^ i = lo W (L.take q) * 2 ^ i + lo W (L.drop q) * 2 ^ i := by rw [← Nat.add_mul, ← Nat.add_mul]; congr 1; omega
      have e4 : hi W (ls.headD []) * 2 ^ i + hi W c * 2 ^ i = hi W (L.take q) * 2 ^ i + hi W (L.drop q) * 2 ^ i := by rw [← Nat.add_mul, ← Nat.add_mul]; congr 1; omega
      omega

/-- Each level, but the last one, is full. -/
def Full (k : Nat) : Nat → List (List Span) → Prop
  | _, [] => True
  | i, l :: r => (r ≠ [] → mostN k i ≤ l.length + 1) ∧ Full k (i + 1) r
theorem flow_full (k tick : Nat) : ∀ ls i come many, Full k i ls → Full k i (flowV k tick i ls come many) := by
  intro ls i come many
  refine (flow_c k tick (fun i ls c out => (ls = [] → c = [] → out = []) ∧ (Full k i ls → Full k i out)) ?_ ?_ ls i come many).2
  · intro i; exact ⟨fun _ _ => rfl, id⟩
  · intro i ls c out hne ih
    refine ⟨fun h1 h2 => absurd ⟨h1, h2⟩ hne, fun hf => ?_⟩
    have hm := mostN_pos k i
    refine ⟨fun ho => ?_, ih.2 (by cases ls with | nil => trivial | cons l r => exact hf.2)⟩
    rw [List.length_drop]
    by_cases hp : pairsN (ls.headD [] ++ c).length (mostN k i) = 0
    · rw [hp] at ih ⊢
      have ht : ls.tail ≠ [] := fun ht => ho (ih.1 ht (by simp [pairUp]))
      cases ls with
      | nil => exact absurd rfl ht
      | cons l r => have := hf.1 ht; simp only [List.headD_cons, List.length_append]; omega
    · unfold pairsN at hp ⊢; omega

/-- As a histogram is that no merge made. -/
structure Tidy (k : Nat) (ls : List (List Span)) : Prop where
  srt : (flat ls).Pairwise Bef
  val : ∀ s ∈ flat ls, s.a ≤ s.b
  low : ∀ s ∈ ls.headD [], s.a = s.b
  full : Full k 0 ls
theorem last_le {k : Nat} {ls : List (List Span)} (h : Tidy k ls) (hne : ∀ l ∈ ls, l ≠ []) {t : Nat} (ht : ¬ ((lastV ls).2 = true ∧ t < (lastV ls).1)) : ∀ s ∈ flat ls, s.b ≤ t := by
  cases ls with
  | nil => intro s hs; cases hs
  | cons l r =>
    have hl := hne l (by simp)
    obtain ⟨d, x, rfl⟩ : ∃ d x, l = d ++ [x] := ⟨l.dropLast, l.getLast hl, (List.dropLast_concat_getLast hl).symm⟩
    have hx : lastV ((d ++ [x]) :: r) = (x.b, true) := by simp [lastV]
    rw [hx] at ht
    simp only [true_and] at ht
    have e : flat ((d ++ [x]) :: r) = (flat r ++ d) ++ [x] := by simp [flat]
    have hs := h.srt
    have hv := h.val
    rw [e] at hs hv ⊢
    obtain ⟨_, _, h3⟩ := List.pairwise_append.1 hs
    have hvx := hv x (by simp)
    intro s h
    rcases List.mem_append.1 h with h | h
    · have := h3 s h x (by simp)
      unfold Bef at this; omega
    · simp only [List.mem_singleton] at h; subst h; omega
theorem addV_tidy {h : Hist} (g : h.Good) (hT : Tidy h.k.toNat h.ls) (t w : Nat) (e : (addV h.k.toNat h.g h.ls t w).2 = 0) : Tidy h.k.toNat (addV h.k.toNat h.g h.ls t w).1.ls ∧
    ∀ W, Mono W → loL W 0 (addV h.k.toNat h.g h.ls t w).1.ls ≤ loL W 0 h.ls + (if W t = true then w else 0) ∧ hiL W 0 h.ls + (if W t = true then w else 0) ≤ hiL W 0 (addV h.k.toNat h.g h.ls t w).1.ls := by
  unfold addV at e ⊢
  split
  · rename_i c; rw [if_pos c] at e; simp at e
  rename_i c; rw [if_neg c] at e
  split
  · rename_i c; rw [if_pos c] at e; simp at e
  rename_i c2; rw [if_neg c2] at e
  split
  · rename_i c; rw [if_pos c] at e; simp at e
  have hle := last_le hT g.ne (t := t) (fun hc => c2 (Or.inr hc))
  have hs : (flat h.ls ++ ([] ++ List.replicate w (⟨t, t⟩ : Span))).Pairwise Bef := by
    refine List.pairwise_append.2 ⟨hT.srt, ?_, ?_⟩
    · rw [List.nil_append]; exact List.pairwise_replicate.2 (Or.inr (Nat.le_refl t))
    · intro x hx y hy
      rw [List.nil_append] at hy
      rw [List.eq_of_mem_replicate hy]; exact hle x hx
  have hv : ∀ s ∈ flat h.ls ++ ([] ++ List.replicate w (⟨t, t⟩ : Span)), s.a ≤ s.b := by
    intro s hs
    rcases List.mem_append.1 hs with hs | hs
    · exact hT.val s hs
    · rw [List.nil_append] at hs; rw [List.eq_of_mem_replicate hs]; exact Nat.le_refl _
  obtain ⟨r1, r2, _, r4⟩ := flow_tidy h.k.toNat t h.ls 0 [] w hs hv
  refine ⟨⟨r1, r2, ?_, flow_full _ _ _ _ _ _ hT.full⟩, fun W hW => ?_⟩
  · intro s hs
    dsimp only at hs
    rw [flowV_cons (by rintro ⟨_, h0⟩; simp at h0; exact c h0)] at hs
    simp only [List.headD_cons] at hs
    unfold stayV lineV at hs
    have := List.mem_of_mem_drop hs
    rw [List.append_nil] at this
    rcases List.mem_append.1 this with h1 | h1
    · exact hT.low s h1
    · rw [List.eq_of_mem_replicate h1]
  · have := r4 W hW
    rw [List.nil_append, lo_rep, hi_rep, Nat.pow_zero, Nat.mul_one] at this
    exact this
theorem empty_tidy (k : Nat) : Tidy k [] := ⟨List.Pairwise.nil, fun s hs => (by cases hs), fun s hs => (by cases hs), trivial⟩

end Go.Sk
end

-- A20
section
namespace Go.Sk

/-- Is a tick too old? -/
noncomputable def oldV (f w t : Nat) : Bool := decide (w ≤ f) && decide (t ≤ sub64 f w)
def Anti (o : Nat → Bool) : Prop := ∀ x y, x ≤ y → o y = true → o x = true
theorem oldV_anti (f w : Nat) : Anti (oldV f w) := by
  intro x y h hy
  unfold oldV at *
  simp only [Bool.and_eq_true, decide_eq_true_eq] at *
  exact ⟨hy.1, by omega⟩
/-- How many at the head of a level are too old. -/
def oldN (o : Nat → Bool) : List Span → Nat
  | [] => 0
  | s :: l => if o s.b = true then oldN o l + 1 else 0
/-- What is left: level by level, as long as there is something. -/
def dropG (o : Nat → Bool) : List (List Span) → List (List Span)
  | [] => []
  | l :: r => if oldN o l < l.length then l.drop (oldN o l) :: dropG o r else []
theorem oldN_cons (o : Nat → Bool) (s : Span) (l : List Span) : oldN o (s :: l) = if o s.b = true then oldN o l + 1 else 0 := rfl
theorem oldN_le (o : Nat → Bool) (l : List Span) : oldN o l ≤ l.length := by
  induction l with
  | nil => exact Nat.le_refl _
  | cons s l ih => unfold oldN; split <;> simp <;> omega
theorem oldN_lt (o : Nat → Bool) : ∀ (l : List Span) (i : Nat) (h : i < l.length), i < oldN o l → o (l[i]).b = true := by
  intro l
  induction l with
  | nil => intro i h; simp at h
  | cons s l ih =>
    intro i h hi
    unfold oldN at hi
    split at hi
    · rename_i c
      cases i with
      | zero => exact c
      | succ i => exact ih i (by simpa using h) (by omega)
    · omega
theorem oldN_at (o : Nat → Bool) : ∀ (l : List Span) (h : oldN o l < l.length), o (l[oldN o l]).b = false := by
  intro l
  induction l with
  | nil => intro h; simp at h
  | cons s l ih =>
    intro h
    by_cases c : o s.b = true
    · have e : oldN o (s :: l) = oldN o l + 1 := by rw [oldN_cons, if_pos c]
      have h2 : oldN o l < l.length := by rw [e] at h; simpa using h
      simp only [e, List.getElem_cons_succ]
      exact ih h2
    · have e : oldN o (s :: l) = 0 := by rw [oldN_cons, if_neg c]
      simp only [e, List.getElem_cons_zero]
      simpa using c
/-- One by one: i of a level are too old. -/
theorem oldN_step (o : Nat → Bool) (l : List Span) (i : Nat) (h : i < l.length) (hi : i ≤ oldN o l) : (o (l[i]).b = true → i + 1 ≤ oldN o l) ∧ (o (l[i]).b = false → i = oldN o l) := by
  refine ⟨fun hb => ?_, fun hb => ?_⟩
  · apply Classical.byContradiction
    intro hc
    obtain rfl : i = oldN o l := by omega
    rw [oldN_at o l h] at hb; cases hb
  · apply Classical.byContradiction
    intro hc
    rw [oldN_lt o l i h (by omega)] at hb; cases hb

def stayF (o : Nat → Bool) (l : List Span) : List Span := l.filter (fun s => !o s.b)
def manyF : Nat → Nat → List (List Span) → Nat
  | _, n, [] => n
  | i, n, l :: r => manyF (i + 1) (if l = [] then n else i + 1) r
def dropH (D : List (List Span) → List (List Span)) (h : Hist) : Hist := ⟨h.k, h.g, D h.ls⟩
/-- By the document. -/
def docD (o : Nat → Bool) (ls : List (List Span)) : List (List Span) := (ls.map (stayF o)).take (manyF 0 0 (ls.map (stayF o)))
theorem manyF_snoc (l : List Span) : ∀ (r : List (List Span)) (i n : Nat), manyF i n (r ++ [l]) = if l = [] then manyF i n r else i + r.length + 1 := by
  intro r
  induction r with
  | nil => intro i n; simp [manyF]
  | cons x r ih => intro i n; simp only [List.cons_append, manyF, ih, List.length_cons]; split <;> omega
theorem manyF_all : ∀ (r : List (List Span)) (i n : Nat), (∀ l ∈ r, l = []) → manyF i n r = n := by
  intro r
  induction r with
  | nil => intro i n _; rfl
  | cons x r ih => intro i n h; unfold manyF; rw [if_pos (h x (by simp)), ih _ _ (fun l hl => h l (by simp [hl]))]
theorem manyF_ge : ∀ (r : List (List Span)) (i n : Nat), n ≤ i → manyF i n r = n ∨ i < manyF i n r := by
  intro r
  induction r with
  | nil => intro i n _; exact Or.inl rfl
  | cons x r ih =>
    intro i n h
    unfold manyF
    split
    · rcases ih (i + 1) n (by omega) with e | e
      · exact Or.inl e
      · exact Or.inr (by omega)
    · rcases ih (i + 1) (i + 1) (by omega) with e | e
      · exact Or.inr (by omega)
      · exact Or.inr (by omega)
theorem manyF_le : ∀ (r : List (List Span)) (i n : Nat), n ≤ i → manyF i n r ≤ i + r.length := by
  intro r
  induction r with
  | nil => intro i n h; simpa [manyF] using h
  | cons x r ih =>
    intro i n h
    unfold manyF
    rw [List.length_cons]
    split
    · have := ih (i + 1) n (by omega); omega
    · have := ih (i + 1) (i + 1) (by omega); omega
/-- Of a sorted level, what stays is its end. -/
theorem stay_drop {o : Nat → Bool} (ho : Anti o) : ∀ l : List Span, l.Pairwise Bef → (∀ s ∈ l, s.a ≤ s.b) → stayF o l = l.drop (oldN o l) := by
  intro l
  induction l with
  | nil => intro _ _; rfl
  | cons s l ih =>
    intro h hv
    rw [List.pairwise_cons] at h
    have hvs := fun x hx => hv x (List.mem_cons_of_mem _ hx)
    unfold stayF at *
    rw [oldN_cons]
    by_cases c : o s.b = true
    · rw [if_pos c, List.drop_succ_cons, List.filter_cons_of_neg (by simp [c])]
      exact ih h.2 hvs
    · rw [if_neg c, List.drop_zero, List.filter_eq_self]
      intro x hx
      rcases List.mem_cons.1 hx with rfl | hx
      · simpa using c
      · have h1 : s.b ≤ x.b := Nat.le_trans (h.1 x hx) (hvs x hx)
        cases hb : o x.b with
        | false => rfl
        | true => exact absurd (ho _ _ h1 hb) c
theorem doc_go_aux {o : Nat → Bool} (ho : Anti o) : ∀ (ls : List (List Span)) (i : Nat), (flat ls).Pairwise Bef → (∀ s ∈ flat ls, s.a ≤ s.b) → (∀ l ∈ ls, l ≠ []) →
    (ls.map (stayF o)).take (manyF i i (ls.map (stayF o)) - i) = dropG o ls := by
  intro ls
  induction ls with
  | nil => intro i _ _ _; simp [dropG]
  | cons l r ih =>
    intro i hs hv hne
    obtain ⟨s1, s2, s3⟩ := List.pairwise_append.1 (show (flat r ++ l).Pairwise Bef from hs)
    have hvl : ∀ s ∈ l, s.a ≤ s.b := fun s h => hv s (List.mem_append_right _ h)
    have hvr : ∀ s ∈ flat r, s.a ≤ s.b := fun s h => hv s (List.mem_append_left _ h)
    have hst := stay_drop ho l s2 hvl
    have hle := oldN_le o l
    unfold dropG
    by_cases c : oldN o l < l.length
    · rw [if_pos c]
      have hn : stayF o l ≠ [] := by rw [hst]; intro e; have := congrArg List.length e; simp at this; omega
      have ihr := ih (i + 1) s1 hvr (fun x hx => hne x (by simp [hx]))
      simp only [List.map_cons, manyF]
      rw [if_neg hn]
      have hge : i + 1 ≤ manyF (i + 1) (i + 1) (r.map (stayF o)) := by
        rcases manyF_ge (r.map (stayF o)) (i + 1) (i + 1) (Nat.le_refl _) with e | e <;> omega
      rw [show manyF (i + 1) (i + 1) (r.map (stayF o)) - i = (manyF (i + 1) (i + 1) (r.map (stayF o)) - (i + 1)) + 1 by omega, List.take_succ_cons, ihr, hst]
    · rw [if_neg c]
      have hz : stayF o l = [] := by rw [hst]; exact List.drop_of_length_le (by omega)
      have hl0 : 0 < l.length := List.length_pos_iff.2 (hne l (by simp))
      have hold : o (l[0]).b = true := oldN_lt o l 0 hl0 (by omega)
      have hall : ∀ x ∈ flat r, o x.b = true := fun x hx => by
        have h1 := s3 x hx l[0] (List.getElem_mem hl0)
        exact ho _ _ (Nat.le_trans h1 (hvl _ (List.getElem_mem hl0))) hold
      have hmem : ∀ (r : List (List Span)), ∀ m ∈ r, ∀ x ∈ m, x ∈ flat r := by
        intro r
        induction r with
        | nil => intro m hm; cases hm
        | cons y r ih2 =>
          intro m hm x hx
          rcases List.mem_cons.1 hm with rfl | hm
          · exact List.mem_append_right _ hx
          · exact List.mem_append_left _ (ih2 m hm x hx)
      have he : ∀ m ∈ r.map (stayF o), m = [] := by
        intro m hm
        obtain ⟨y, hy, rfl⟩ := List.mem_map.1 hm
        unfold stayF
        rw [List.filter_eq_nil_iff]
        intro x hx
        rw [hall x (hmem r y hy x hx)]; simp
      simp only [List.map_cons, manyF]
      rw [if_pos hz, manyF_all _ _ _ he, Nat.sub_self, List.take_zero]
/-- Both leave the same. -/
theorem docD_eq {o : Nat → Bool} (ho : Anti o) {k : Nat} {ls : List (List Span)} (h : Tidy k ls) (hne : ∀ l ∈ ls, l ≠ []) : docD o ls = dropG o ls := by
  have := doc_go_aux ho ls 0 h.srt h.val hne
  rw [Nat.sub_zero] at this
  exact this
end Go.Sk
end

-- LB
section
namespace Go.Sk
open Go Go.Proofs Go.ChangeShapes Go.WideShapes Go.ChangeAt Go.RowKit

theorem bulkOk (H : Type) : BulkOk (H := H) YthpfcfacofakoaaGreat.Rows.uptoBulk YthpfcfacofakoaaGreat.Rows.uptoBulkAll where
  cons := fun d r => by simp [YthpfcfacofakoaaGreat.Rows.uptoBulkAll]
  slice := fun e s => by simp [YthpfcfacofakoaaGreat.Rows.uptoBulk]
  agg := fun p => by simp [YthpfcfacofakoaaGreat.Rows.uptoBulk]
  str := fun s => by simp [YthpfcfacofakoaaGreat.Rows.uptoBulk]
  one := fun d => by
    cases d with
    | lit l => cases l <;> simp [YthpfcfacofakoaaGreat.Rows.uptoBulk]
    | _ => simp [YthpfcfacofakoaaGreat.Rows.uptoBulk]
theorem own : ownKnob Tryz.prog.godebug = none := by kernel_rfl
theorem kids : Kids Tryz.prog (· < Tryz.prog.types.size) := kids_rows (by kernel_rfl) (by kernel_rfl)
theorem full : ∀ t e, t < Tryz.prog.types.size → Tryz.prog.underlying t = some (.slice e) → 0 < Tryz.prog.cellsOf e := slices_full_of Tryz.prog (by kernel_rfl)
theorem small_cons {H : Type} {d : DataW H} {r : List (DataW H)} {N : Nat} (h : YthpfcfacofakoaaGreat.Rows.uptoBulkAll (d :: r) ≤ N) : YthpfcfacofakoaaGreat.Rows.uptoBulk d ≤ N ∧ YthpfcfacofakoaaGreat.Rows.uptoBulkAll r ≤ N := by
  simp only [YthpfcfacofakoaaGreat.Rows.uptoBulkAll] at h; omega

theorem fit_u64 {N : Nat} {pv : PV} (h : Fit N (.int .u64) pv) : ∃ n : Nat, n < 18446744073709551616 ∧ pv = .int .u64 n := by
  cases h with
  | int k n h1 h2 =>
    have e1 : IntKind.u64.min = 0 := rfl
    have e2 : IntKind.u64.max = 18446744073709551615 := rfl
    rw [e1] at h1; rw [e2] at h2
    exact ⟨n.toNat, by omega, by rw [Int.toNat_of_nonneg h1]⟩
theorem fit_i64 {N : Nat} {pv : PV} (h : Fit N (.int .i64) pv) : ∃ n : Int, (-9223372036854775808 ≤ n ∧ n < 9223372036854775808) ∧ pv = .int .i64 n := by
  cases h with
  | int k n h1 h2 =>
    have e1 : IntKind.i64.min = -9223372036854775808 := rfl
    have e2 : IntKind.i64.max = 9223372036854775807 := rfl
    rw [e1] at h1; rw [e2] at h2
    exact ⟨n, ⟨h1, by omega⟩, rfl⟩
/-- A list of elements, each of them something. -/
theorem fit_list {α : Type} {N : Nat} {el : List Sh} {pv : PV} {pvf : α → List PV} {ok : α → Prop} (h : Fit N (.sl el) pv)
    (ho : ∀ l : List PV, l.length = el.length → (∀ j, j < el.length → Fit N (el.getD j .bool) (l.getD j default)) → ∃ x, l = pvf x ∧ ok x) :
    ∃ l : List α, pv = .sl (l.map pvf) ∧ (∀ x ∈ l, ok x) ∧ l.length ≤ N := by
  cases h with
  | sl _ els hN hl hf =>
    have key : ∀ els : List (List PV), (∀ e ∈ els, e.length = el.length) → (∀ i j, i < els.length → j < el.length → Fit N (el.getD j .bool) ((els.getD i []).getD j default)) → ∃ l : List α, els = l.map pvf ∧ ∀ x ∈ l, ok x := by
      intro els
      induction els with
      | nil => intro _ _; exact ⟨[], rfl, fun x hx => by cases hx⟩
      | cons e r ih =>
        intro h1 h2
        obtain ⟨x, hx, hk⟩ := ho e (h1 e List.mem_cons_self) (fun j hj => by have := h2 0 j (by simp) hj; simpa using this)
        obtain ⟨l, hl, hlk⟩ := ih (fun e he => h1 e (List.mem_cons_of_mem _ he)) (fun i j hi hj => by have := h2 (i + 1) j (by simpa using hi) hj; simpa using this)
        exact ⟨x :: l, by rw [hx, hl]; rfl, fun y hy => by
          rcases List.mem_cons.1 hy with rfl | hy
          · exact hk
          · exact hlk y hy⟩
    obtain ⟨l, rfl, hk⟩ := key els hl hf
    exact ⟨l, rfl, hk, by simpa using hN⟩
theorem fit_one {N : Nat} {a : Sh} {l : List PV} (hl : l.length = [a].length) (hf : ∀ j, j < [a].length → Fit N ([a].getD j .bool) (l.getD j default)) : ∃ x, l = [x] ∧ Fit N a x := by
  match l, hl with
  | [x], _ => exact ⟨x, rfl, by simpa using hf 0 (by simp)⟩
theorem fit_three {N : Nat} {a b c : Sh} {l : List PV} (hl : l.length = [a, b, c].length) (hf : ∀ j, j < [a, b, c].length → Fit N ([a, b, c].getD j .bool) (l.getD j default)) : ∃ x y z, l = [x, y, z] ∧ Fit N a x ∧ Fit N b y ∧ Fit N c z := by
  match l, hl with
  | [x, y, z], _ => exact ⟨x, y, z, rfl, by simpa using hf 0 (by simp), by simpa using hf 1 (by simp), by simpa using hf 2 (by simp)⟩

section
variable {H : Type} {enc : TypeId × Value → H}
end

theorem and_ok {a b : Bool} (h : a = true) (k : b = true) : (a && b) = true := by rw [h, k]; rfl
theorem j_laid : laidOutB Tryz.prog = true := by kernel_rfl
theorem j_maps : mapsRowed Tryz.prog = true := by kernel_rfl
theorem j_heard : Tryz.prog.stopsHeard = true := by kernel_rfl
theorem j_enter : Tryz.prog.mayEnter = true := by kernel_rfl
end Go.Sk
end

-- LE
section
namespace Go.Sk
open Go Go.Proofs Go.ChangeShapes Go.WideShapes Go.ChangeAt Go.RowKit

theorem fit_events {N : Nat} {pv : PV} (h : Fit N (.sl [.int .u64, .int .u64, .int .u64]) pv) : ∃ l : List Event, pv = evsP l ∧ (∀ e ∈ l, e.Ok) ∧ l.length ≤ N := by
  refine fit_list (pvf := Event.pv) (ok := Event.Ok) h (fun l hl hf => ?_)
  obtain ⟨a, b, c, rfl, ha, hb, hc⟩ := fit_three hl hf
  obtain ⟨x, hx, rfl⟩ := fit_u64 ha
  obtain ⟨y, hy, rfl⟩ := fit_u64 hb
  obtain ⟨z, hz, rfl⟩ := fit_u64 hc
  exact ⟨⟨x, y, z⟩, rfl, hx, hy, hz⟩
section
variable {H : Type} {enc : TypeId × Value → H}
end
end Go.Sk
end

-- LD
section
namespace Go.Sk
open Go Go.Proofs Go.ChangeShapes Go.WideShapes Go.ChangeAt Go.RowKit

section
variable {H : Type} {enc : TypeId × Value → H}
end
end Go.Sk
end

-- LI
section
namespace Go.Sk
open Go Go.Proofs Go.ChangeShapes Go.WideShapes Go.ChangeAt Go.RowKit

def iE (n : Int) : List PV := [.int .i64 n]
def evlE (l : List Event) : List PV := [.sl (l.map Event.pv)]
theorem shIntsI : shOf Tryz.prog 8 22 = some [.sl [.int .i64]] := by kernel_rfl
theorem shDeedl : shOf Tryz.prog 8 25 = some [.sl [.sl [.int .u64, .int .u64, .int .u64]]] := by kernel_rfl
theorem fit_intsI {N : Nat} {pv : PV} (h : Fit N (.sl [.int .i64]) pv) : ∃ l : List Int, pv = .sl (l.map iE) ∧ (∀ x ∈ l, -9223372036854775808 ≤ x ∧ x < 9223372036854775808) ∧ l.length ≤ N := by
  refine fit_list (pvf := iE) (ok := fun x : Int => -9223372036854775808 ≤ x ∧ x < 9223372036854775808) h (fun l hl hf => ?_)
  obtain ⟨a, rfl, ha⟩ := fit_one hl hf
  obtain ⟨x, h1, rfl⟩ := fit_i64 ha
  exact ⟨x, rfl, h1⟩
theorem fit_deedl {N : Nat} {pv : PV} (h : Fit N (.sl [.sl [.int .u64, .int .u64, .int .u64]]) pv) : ∃ l : List (List Event), pv = .sl (l.map evlE) ∧ (∀ x ∈ l, (∀ d ∈ x, d.Ok) ∧ x.length ≤ N) ∧ l.length ≤ N := by
  refine fit_list (pvf := evlE) (ok := fun x : List Event => (∀ d ∈ x, d.Ok) ∧ x.length ≤ N) h (fun l hl hf => ?_)
  obtain ⟨a, rfl, ha⟩ := fit_one hl hf
  obtain ⟨x, rfl, h1, h2⟩ := fit_events ha
  exact ⟨x, rfl, h1, h2⟩
section
variable {H : Type} {enc : TypeId × Value → H}
set_option maxRecDepth 100000 in
theorem arg_intsI {W : World} {base N : Nat} {v : Value} {d : DataW H} {p : List MemPlace} (hok : Value.okWide Tryz.prog W .any base 22 v) (h : DataW.Trod enc Tryz.prog W 0 (fun _ => true) true 22 v d p) (hN : YthpfcfacofakoaaGreat.Rows.uptoBulk d ≤ N) :
    ∃ l : List Int, ((∀ x ∈ l, -9223372036854775808 ≤ x ∧ x < 9223372036854775808) ∧ l.length ≤ N) ∧ RepA (allD W) W v (.p (.sl (l.map iE))) := by
  obtain ⟨a, n, c, rfl⟩ := okWide_slice Tryz.underlying22 hok
  obtain ⟨pv, hf, hr⟩ := arg_one (N := N) (f := 8) (bulkOk H) shIntsI (fun c h => by cases h) h hN
  obtain ⟨l, rfl, h1, h2⟩ := fit_intsI hf
  exact ⟨l, ⟨h1, h2⟩, hr⟩
set_option maxRecDepth 100000 in
theorem arg_deedl {W : World} {base N : Nat} {v : Value} {d : DataW H} {p : List MemPlace} (hok : Value.okWide Tryz.prog W .any base 25 v) (h : DataW.Trod enc Tryz.prog W 0 (fun _ => true) true 25 v d p) (hN : YthpfcfacofakoaaGreat.Rows.uptoBulk d ≤ N) :
    ∃ l : List (List Event), ((∀ x ∈ l, (∀ d ∈ x, d.Ok) ∧ x.length ≤ N) ∧ l.length ≤ N) ∧ RepA (allD W) W v (.p (.sl (l.map evlE))) := by
  obtain ⟨a, n, c, rfl⟩ := okWide_slice Tryz.underlying25 hok
  obtain ⟨pv, hf, hr⟩ := arg_one (N := N) (f := 8) (bulkOk H) shDeedl (fun c h => by cases h) h hN
  obtain ⟨l, rfl, h1, h2⟩ := fit_deedl hf
  exact ⟨l, ⟨h1, h2⟩, hr⟩
end
end Go.Sk
end

-- L3
section
namespace Go.Sk
open Go Go.Proofs Go.ChangeShapes Go.WideShapes Go.ChangeAt Go.RowKit

theorem shThree : shOf Tryz.prog 8 24 = some [.int .u64, .int .u64, .int .u64] := by kernel_rfl
section
variable {H : Type} {enc : TypeId × Value → H}
set_option maxRecDepth 100000 in
theorem arg_three {W : World} {base N : Nat} {v : Value} {d : DataW H} {p : List MemPlace} (hok : Value.okWide Tryz.prog W .any base 24 v) (h : DataW.Trod enc Tryz.prog W 0 (fun _ => true) true 24 v d p) (hN : YthpfcfacofakoaaGreat.Rows.uptoBulk d ≤ N) :
    ∃ n0 n1 n2 : Nat, (n0 < 18446744073709551616 ∧ n1 < 18446744073709551616 ∧ n2 < 18446744073709551616) ∧ RepA (allD W) W v (.agg [u64 n0, u64 n1, u64 n2]) := by
  obtain ⟨pvs, hl, hf, hr⟩ := arg_agg (N := N) (f := 8) (bulkOk H) shThree (by rw [Tryz.underlying24]) hok h hN
  match pvs, hl with
  | [a, b, c], _ =>
    obtain ⟨x0, h0, e0⟩ := fit_u64 (hf 0 (by simp))
    obtain ⟨x1, h1, e1⟩ := fit_u64 (hf 1 (by simp))
    obtain ⟨x2, h2, e2⟩ := fit_u64 (hf 2 (by simp))
    simp at e0 e1 e2
    subst e0; subst e1; subst e2
    exact ⟨x0, x1, x2, ⟨h0, h1, h2⟩, hr⟩
end
end Go.Sk
end
