/- What values and memory stand for: data without memory, and the blocks of memory that a call owns. -/
import Derived.Test.YthpfcfacofakoaaGreatSkA
import Derived.Below
set_option linter.unusedSimpArgs false
set_option linter.unusedVariables false
set_option linter.unusedSectionVars false
namespace Go.Sk
open Go.RowKit (Below)

/-- Data: no memory in it. -/
inductive PV where
  | bool (b : Bool)
  | int (k : IntKind) (n : Int)
  | str (s : ByteArray)
  | sl (els : List (List PV))

instance : Inhabited PV := ⟨.bool false⟩

/-- Values, as a walk sees them. -/
inductive AV where
  | p (v : PV)
  | nils
  | cs (els : List (List PV))
  | sp (b o : Nat)
  | dp (cells : List PV)
  | ts (k z : Nat) (loc : Option Nat) (els : List (List PV))
  | ms (b z o n c : Nat)
  | fn (f : Fn) (first caps : List AV)
  | nilf
  | nilp
  | map (b : Nat)
  | agg (cells : List AV)
  | tuple (vs : List AV)
  | top

instance : Inhabited AV := ⟨.top⟩

/-- A block that somebody owns. -/
inductive Blk where
  | cells (cs : List AV)
  | raw (o : Obj) (kn : Nat → Value × AV)
  | tip (z n : Nat) (loc : Option Nat)
  | mp (kd : IntKind) (es : List (Nat × Int × AV)) (clk : Nat)

/-- Names: of a block, by its number; of a slice that grows, wherever it lies. -/
inductive Key where
  | r (b : Nat)
  | v (k : Nat)
  deriving DecidableEq

def noKn : Nat → Value × AV := fun _ => (undef, .top)
abbrev Store := Key → Option Blk
def Owned (S : Store) (b : Nat) : Prop := S (.r b) ≠ none ∨ ∃ k z n, S (.v k) = some (.tip z n (some b))
abbrev Prot := Nat → Nat

/-- Data, as it lies in memory: where it lies is protected. -/
inductive Rep (D : Prot) (w : World) : Value → PV → Prop
  | bool (b : Bool) : Rep D w (.bool b) (.bool b)
  | int (k : IntKind) (n : Int) : Rep D w (.int k n) (.int k n)
  | str (s : ByteArray) : Rep D w (.string s) (.str s)
  | nil (a : Option Addr) : Rep D w (.slice a 0 0) (.sl [])
  | sl (b off cap z : Nat) (els : List (List PV)) (vs : Nat → Nat → Value) (hcap : els.length ≤ cap) (hz : ∀ el ∈ els, el.length = z)
      (hc : ∀ i j, i < els.length → j < z → w.cell? ⟨b, off + i * z + j, none⟩ = some (vs i j) ∧ off + i * z + j < D b)
      (hr : ∀ i j, i < els.length → j < z → Rep D w (vs i j) ((els.getD i []).getD j default)) :
      Rep D w (.slice (some ⟨b, off, none⟩) els.length cap) (.sl els)

/-- The size of a block of cells. -/
def bsize (w : World) (b : Nat) : Nat := match w.heap[b]? with | some (.cells c _ _) => c.size | _ => 0

inductive RepA (D : Prot) (w : World) : Value → AV → Prop
  | p {v : Value} {x : PV} (h : Rep D w v x) : RepA D w v (.p x)
  | nils : RepA D w (.slice none 0 0) .nils
  | cs {a : Option Addr} {n : Nat} {els : List (List PV)} (h : Rep D w (.slice a n n) (.sl els)) : RepA D w (.slice a n n) (.cs els)
  | sp (b o : Nat) : RepA D w (.pointer (some ⟨b, o, none⟩)) (.sp b o)
  | dp (b o : Nat) (cells : List PV) (vs : Nat → Value) (hc : ∀ j, j < cells.length → w.cell? ⟨b, o + j, none⟩ = some (vs j) ∧ o + j < D b)
      (hr : ∀ j, j < cells.length → Rep D w (vs j) (cells.getD j default)) : RepA D w (.pointer (some ⟨b, o, none⟩)) (.dp cells)
  | tsc (k z : Nat) (a : Option Addr) (n : Nat) (els : List (List PV)) (h : Rep D w (.slice a n n) (.sl els)) : RepA D w (.slice a n n) (.ts k z none els)
  | ts (k b cap z : Nat) (els : List (List PV)) (h : Rep D w (.slice (some ⟨b, 0, none⟩) els.length cap) (.sl els)) (hz : ∀ el ∈ els, el.length = z) (hc : cap * z ≤ bsize w b) :
      RepA D w (.slice (some ⟨b, 0, none⟩) els.length cap) (.ts k z (some b) els)
  | ms (b z o o' n c : Nat) (hn : n ≤ c) (hc : o + c * z ≤ bsize w b) (ho : c ≠ 0 → o' = o) : RepA D w (.slice (some ⟨b, o', none⟩) n c) (.ms b z o n c)
  | fn (f : Fn) (first caps : Array Value) (first' caps' : List AV) (h1 : first.size = first'.length) (h2 : caps.size = caps'.length)
      (r1 : ∀ i, i < first'.length → RepA D w (first.getD i undef) (first'.getD i .top)) (r2 : ∀ i, i < caps'.length → RepA D w (caps.getD i undef) (caps'.getD i .top)) :
      RepA D w (.func f first caps) (.fn f first' caps')
  | nilf : RepA D w .nilFunc .nilf
  | nilp : RepA D w (.pointer none) .nilp
  | map (b : Nat) : RepA D w (.map (some b)) (.map b)
  | agg (vs : Array Value) (cs : List AV) (hn : vs.size = cs.length) (h : ∀ i, i < cs.length → RepA D w (vs.getD i undef) (cs.getD i .top)) : RepA D w (.agg vs) (.agg cs)
  | tuple (vs : Array Value) (cs : List AV) (hn : vs.size = cs.length) (h : ∀ i, i < cs.length → RepA D w (vs.getD i undef) (cs.getD i .top)) : RepA D w (.tuple vs) (.tuple cs)
  | top (v : Value) : RepA D w v .top

/-- What a world may become, while data and owned blocks are looked after. -/
structure Later (D : Prot) (w : World) (D' : Prot) (w' : World) : Prop where
  os : w'.os = w.os
  tape : w'.tape = w.tape
  output : w'.output = w.output
  size : w.heap.size ≤ w'.heap.size
  dle : ∀ b, D b ≤ D' b
  prot : ∀ b o, o < D b → w'.cell? ⟨b, o, none⟩ = w.cell? ⟨b, o, none⟩
  bsz : ∀ b, bsize w b ≤ bsize w' b
  drawn : w.drawn ≤ w'.drawn

theorem Later.refl (D : Prot) (w : World) : Later D w D w := ⟨rfl, rfl, rfl, Nat.le_refl _, fun _ => Nat.le_refl _, fun _ _ _ => rfl, fun _ => Nat.le_refl _, Nat.le_refl _⟩
theorem Later.trans {D D' D'' : Prot} {w w' w'' : World} (h : Later D w D' w') (k : Later D' w' D'' w'') : Later D w D'' w'' :=
  ⟨k.os.trans h.os, k.tape.trans h.tape, k.output.trans h.output, Nat.le_trans h.size k.size, fun b => Nat.le_trans (h.dle b) (k.dle b),
   fun b o ho => (k.prot b o (Nat.lt_of_lt_of_le ho (h.dle b))).trans (h.prot b o ho), fun b => Nat.le_trans (h.bsz b) (k.bsz b), Nat.le_trans h.drawn k.drawn⟩

theorem Rep.later {D D' : Prot} {w w' : World} {v : Value} {x : PV} (h : Rep D w v x) (l : Later D w D' w') : Rep D' w' v x := by
  induction h with
  | bool b => exact .bool b
  | int k n => exact .int k n
  | str s => exact .str s
  | nil a => exact .nil a
  | sl b off cap z els vs hcap hz hc _ ih =>
    exact .sl b off cap z els vs hcap hz (fun i j hi hj => ⟨(l.prot _ _ (hc i j hi hj).2).trans (hc i j hi hj).1, Nat.lt_of_lt_of_le (hc i j hi hj).2 (l.dle _)⟩) (fun i j hi hj => ih i j hi hj)

theorem RepA.later {D D' : Prot} {w w' : World} {v : Value} {x : AV} (h : RepA D w v x) (l : Later D w D' w') : RepA D' w' v x := by
  induction h with
  | p h => exact .p (h.later l)
  | nils => exact .nils
  | cs h => exact .cs (h.later l)
  | sp b o => exact .sp b o
  | dp b o cells vs hc hr =>
    exact .dp b o cells vs (fun j hj => ⟨(l.prot _ _ (hc j hj).2).trans (hc j hj).1, Nat.lt_of_lt_of_le (hc j hj).2 (l.dle _)⟩) (fun j hj => (hr j hj).later l)
  | tsc k z a n els h => exact .tsc k z a n els (h.later l)
  | ts k b cap z els h hz hc => exact .ts k b cap z els (h.later l) hz (Nat.le_trans hc (l.bsz b))
  | ms b z o o' n c hn hc ho => exact .ms b z o o' n c hn (Nat.le_trans hc (l.bsz b)) ho
  | fn f first caps first' caps' h1 h2 _ _ i1 i2 => exact .fn f first caps first' caps' h1 h2 i1 i2
  | nilf => exact .nilf
  | nilp => exact .nilp
  | map b => exact .map b
  | agg vs cs hn _ ih => exact .agg vs cs hn ih
  | tuple vs cs hn _ ih => exact .tuple vs cs hn ih
  | top v => exact .top v

/-- The entries of a map whose keys are numbers. -/
inductive MRep (D : Prot) (w : World) (kd : IntKind) : List MapEntry → List (Nat × Int × AV) → Prop
  | nil : MRep D w kd [] []
  | cons (born : Nat) (n : Int) (v : Value) (x : AV) (r : List MapEntry) (r' : List (Nat × Int × AV)) (h : RepA D w v x) (hr : MRep D w kd r r') :
      MRep D w kd ({ key := .int kd n, val := v, born := born } :: r) ((born, n, x) :: r')
theorem MRep.later {D D' : Prot} {w w' : World} {kd : IntKind} {l : List MapEntry} {l' : List (Nat × Int × AV)} (h : MRep D w kd l l') (k : Later D w D' w') : MRep D' w' kd l l' := by
  induction h with
  | nil => exact .nil
  | cons born n v x r r' h _ ih => exact .cons born n v x r r' (h.later k) ih

/-- A block, as it lies in memory. -/
def BlkRep (D : Prot) (w : World) : Key → Blk → Prop
  | .r b, .cells cs => ∃ vs ty, w.heap[b]? = some (.cells vs ty (0, 0)) ∧ vs.size = cs.length ∧ (∀ i, i < cs.length → RepA D w (vs.getD i undef) (cs.getD i .top)) ∧ D b = 0
  | .r b, .raw o kn => w.heap[b]? = some o ∧ D b = 0 ∧ ∀ t, RepA D w (kn t).1 (kn t).2
  | .r b, .mp kd es clk => ∃ mes : Array MapEntry, w.heap[b]? = some (.map mes clk) ∧ MRep D w kd mes.toList es ∧ D b = 0
  | .v _, .tip z n loc => match loc with
    | none => True
    | some b => ∃ vs ty, w.heap[b]? = some (.cells vs ty (0, 0)) ∧ n * z ≤ vs.size ∧ D b = n * z
  | _, _ => False

/-- All owned blocks, as they lie in memory; what is protected is there. -/
structure Rel (S : Store) (D : Prot) (w : World) : Prop where
  blk : ∀ b x, S b = some x → BlkRep D w b x
  dlt : ∀ b, w.heap.size ≤ b → D b = 0
  fin : ∃ N, ∀ k, N ≤ k → S (.v k) = none
  one : ∀ k k' z z' n n' b, S (.v k) = some (.tip z n (some b)) → S (.v k') = some (.tip z' n' (some b)) → k = k'
  apart : ∀ k z n b, S (.v k) = some (.tip z n (some b)) → S (.r b) = none

/-- What a piece of a run does to memory: nobody's blocks stay as they are. -/
structure Ext (S : Store) (D : Prot) (w : World) (S' : Store) (D' : Prot) (w' : World) : Prop extends Later D w D' w' where
  foreign : ∀ b, b < w.heap.size → ¬ Owned S b → w'.heap[b]? = w.heap[b]?
  fresh : ∀ b, b < w.heap.size → ¬ Owned S b → ¬ Owned S' b

theorem Ext.refl (S : Store) (D : Prot) (w : World) : Ext S D w S D w := ⟨Later.refl D w, fun _ _ _ => rfl, fun _ _ h => h⟩
theorem Ext.trans {S S' S'' : Store} {D D' D'' : Prot} {w w' w'' : World} (h : Ext S D w S' D' w') (k : Ext S' D' w' S'' D'' w'') : Ext S D w S'' D'' w'' :=
  ⟨h.toLater.trans k.toLater, fun b hb hs => (k.foreign b (Nat.lt_of_lt_of_le hb h.size) (h.fresh b hb hs)).trans (h.foreign b hb hs),
   fun b hb hs => k.fresh b (Nat.lt_of_lt_of_le hb h.size) (h.fresh b hb hs)⟩

theorem Rel.lt {S : Store} {D : Prot} {w : World} (h : Rel S D w) {b : Nat} (hb : Owned S b) : b < w.heap.size := by
  rcases hb with hb | ⟨k, z, n, hb⟩
  · cases hx : S (.r b) with
    | none => exact absurd hx hb
    | some x =>
      have := h.blk _ x hx
      cases x with
      | cells cs => obtain ⟨vs, ty, hh, _⟩ := this; exact (Array.getElem?_eq_some_iff.1 hh).1
      | raw o kn => exact (Array.getElem?_eq_some_iff.1 this.1).1
      | mp kd es clk => obtain ⟨mes, hh, _⟩ := this; exact (Array.getElem?_eq_some_iff.1 hh).1
      | tip z n loc => exact this.elim
  · have := h.blk _ _ hb
    obtain ⟨vs, ty, hh, _⟩ := this
    exact (Array.getElem?_eq_some_iff.1 hh).1

theorem Rel.new {S : Store} {D : Prot} {w : World} (h : Rel S D w) : ¬ Owned S w.heap.size := fun hb => Nat.lt_irrefl _ (h.lt hb)
theorem Rel.newr {S : Store} {D : Prot} {w : World} (h : Rel S D w) : S (.r w.heap.size) = none := by
  cases hx : S (.r w.heap.size) with
  | none => rfl
  | some x => exact absurd (h.lt (Or.inl (by rw [hx]; simp))) (Nat.lt_irrefl _)

def Store.set (S : Store) (b : Key) (x : Blk) : Store := fun c => if c = b then some x else S c

theorem Store.set_same (S : Store) (b : Key) (x : Blk) : S.set b x b = some x := by simp [Store.set]
theorem Store.set_other (S : Store) {b c : Key} (x : Blk) (h : c ≠ b) : S.set b x c = S c := by simp [Store.set, h]

/-- Blocks that are no longer looked after. -/
theorem Rel.forget {S S' : Store} {D : Prot} {w : World} (h : Rel S D w) (hs : ∀ b x, S' b = some x → S b = some x) : Rel S' D w :=
  { blk := fun b x hb => h.blk b x (hs b x hb)
    dlt := h.dlt
    fin := by
      obtain ⟨N, hN⟩ := h.fin
      refine ⟨N, fun k hk => ?_⟩
      cases hx : S' (.v k) with
      | none => rfl
      | some x => have := hs _ _ hx; rw [hN k hk] at this; cases this
    one := fun k k' z z' n n' b h1 h2 => h.one k k' z z' n n' b (hs _ _ h1) (hs _ _ h2)
    apart := fun k z n b h1 => by
      cases hx : S' (.r b) with
      | none => rfl
      | some x => have := hs _ _ hx; rw [h.apart k z n b (hs _ _ h1)] at this; cases this }
theorem Owned.forget {S S' : Store} {b : Nat} (h : Owned S' b) (hs : ∀ b x, S' b = some x → S b = some x) : Owned S b := by
  rcases h with h | ⟨k, z, n, h⟩
  · refine Or.inl fun e => h ?_
    cases hx : S' (.r b) with
    | none => rfl
    | some x => have := hs _ _ hx; rw [e] at this; cases this
  · exact Or.inr ⟨k, z, n, hs _ _ h⟩

theorem BlkRep.later {D D' : Prot} {w w' : World} {b : Key} {x : Blk} (h : BlkRep D w b x) (l : Later D w D' w')
    (hh : ∀ c, (b = .r c ∨ ∃ z n, x = .tip z n (some c)) → w'.heap[c]? = w.heap[c]? ∧ D' c = D c) : BlkRep D' w' b x := by
  cases b with
  | r b =>
    obtain ⟨he, hd⟩ := hh b (Or.inl rfl)
    cases x with
    | cells cs => obtain ⟨vs, ty, h1, h2, h3, h4⟩ := h; exact ⟨vs, ty, he.trans h1, h2, fun i hi => (h3 i hi).later l, hd.trans h4⟩
    | raw o kn => exact ⟨he.trans h.1, hd.trans h.2.1, fun t => (h.2.2 t).later l⟩
    | mp kd es clk => obtain ⟨mes, h1, h2, h3⟩ := h; exact ⟨mes, he.trans h1, h2.later l, hd.trans h3⟩
    | tip z n loc => exact h.elim
  | v k =>
    cases x with
    | cells cs => exact h.elim
    | raw o kn => exact h.elim
    | mp kd es clk => exact h.elim
    | tip z n loc =>
      cases loc with
      | none => exact h
      | some b =>
        obtain ⟨he, hd⟩ := hh b (Or.inr ⟨z, n, rfl⟩)
        obtain ⟨vs, ty, h1, h2, h3⟩ := h
        exact ⟨vs, ty, he.trans h1, h2, hd.trans h3⟩

/-! A walk's state: slots and owned blocks. -/
abbrev Env := List (Nat × AV)
def Env.get : Env → Nat → AV
  | [], _ => .top
  | (k, v) :: r, t => if t = k then v else Env.get r t
def Env.put : Env → Nat → AV → Env
  | [], t, x => [(t, x)]
  | (k, v) :: r, t, x => if t = k then (k, x) :: r else (k, v) :: Env.put r t x

theorem Env.get_put (ρ : Env) (t : Nat) (x : AV) (u : Nat) : (ρ.put t x).get u = if u = t then x else ρ.get u := by
  induction ρ with
  | nil => simp [Env.put, Env.get]
  | cons kv r ih =>
    obtain ⟨k, v⟩ := kv
    simp only [Env.put]
    by_cases h : t = k
    · subst h; simp only [if_true, Env.get]; by_cases hu : u = t <;> simp [hu]
    · simp only [if_neg h, Env.get]
      by_cases hu : u = k
      · subst hu; simp [Ne.symm h]
      · simp [hu, ih]

/-- Slots: one of them set. -/
def upd (ρ : Nat → AV) (t : Nat) (x : AV) : Nat → AV := fun u => if u = t then x else ρ u

theorem upd_get (ρ : Env) (t : Nat) (x : AV) : upd ρ.get t x = (ρ.put t x).get := by
  funext u; rw [Env.get_put]; rfl

structure St where
  ρ : Nat → AV
  S : Store
  n : Nat
  df : List Nat

def St.put (s : St) (d : Option Nat) (x : AV) : St := match d with | some t => { s with ρ := upd s.ρ t x } | none => s

structure RelSt (s : St) (D : Prot) (w : World) (a : Act) : Prop where
  rel : Rel s.S D w
  slots : ∀ t, RepA D w (a.tmps.getD t undef) (s.ρ t)
  size : s.n ≤ a.tmps.size
  defers : a.defers = marks s.df
  df : ∀ r ∈ s.df, s.S (.r r) = some (.raw (.deferred (some [])) noKn)
  nodup : s.df.Nodup

theorem RelSt.put {s : St} {D : Prot} {w : World} {a : Act} {v : Value} {x : AV} {d : Option Nat} (h : RelSt s D w a) (hd : ∀ t, d = some t → t < s.n) (hv : RepA D w v x) :
    RelSt (s.put d x) D w (a.put d v) := by
  cases d with
  | none => exact h
  | some t =>
    have ht : t < a.tmps.size := Nat.lt_of_lt_of_le (hd t rfl) h.size
    refine ⟨h.rel, fun u => ?_, ?_, h.defers, h.df, h.nodup⟩
    · show RepA D w ((a.tmps.setIfInBounds t v).getD u undef) (upd s.ρ t x u)
      unfold upd
      by_cases hu : u = t
      · subst hu
        have : (a.tmps.setIfInBounds u v).getD u undef = v := by simp [Array.getD, ht]
        rw [this, if_pos rfl]; exact hv
      · rw [if_neg hu]
        have : (a.tmps.setIfInBounds t v).getD u undef = a.tmps.getD u undef := by
          simp only [Array.getD_eq_getD_getElem?]
          rw [Array.getElem?_setIfInBounds, if_neg (fun e => hu e.symm)]
        rw [this]; exact h.slots u
    · show s.n ≤ (a.tmps.setIfInBounds t v).size
      simpa using h.size

theorem RelSt.later {s : St} {D D' : Prot} {w w' : World} {a : Act} {S' : Store} (h : RelSt s D w a) (hr : Rel S' D' w') (l : Later D w D' w') (hdf : ∀ r ∈ s.df, S' (.r r) = some (.raw (.deferred (some [])) noKn)) :
    RelSt { s with S := S' } D' w' a :=
  ⟨hr, fun t => (h.slots t).later l, h.size, h.defers, hdf, h.nodup⟩

/-- Slots may be forgotten. -/
theorem RelSt.weaken {s : St} {D : Prot} {w : World} {a : Act} {ρ' : Nat → AV} (h : RelSt s D w a) (hρ : ∀ t, ρ' t = s.ρ t ∨ ρ' t = .top) : RelSt { s with ρ := ρ' } D w a :=
  ⟨h.rel, fun t => by rcases hρ t with e | e <;> (simp only [e]; first | exact h.slots t | exact .top _), h.size, h.defers, h.df, h.nodup⟩
end Go.Sk
