/- Regions whose order is open: carried over to the machine. -/
import Derived.Test.YthpfcfacofakoaaGreatSkM
set_option linter.unusedSimpArgs false
set_option linter.unusedVariables false
set_option linter.unusedSectionVars false
namespace Go.Sk
open Go

section
variable {P : Program} {ops : Array Oper} {n : Nat} {cv : Nat → AV}

def xany (P : Program) (ops : Array Oper) (n : Nat) (cv : Nat → AV) (C : (Nat → AV) → Store → Prop) : Nat → Array Bool → (Nat → AV) → Store → Prop
  | 0, _, ρ, S => C ρ S
  | f + 1, listed, ρ, S => (Region.ready .any ops listed = [] → C ρ S) ∧ ∀ i ∈ Region.ready .any ops listed, T P ops n cv i ρ S (xany P ops n cv C f (listed.setIfInBounds i true))

def freeB (ops : Array Oper) (listed : Array Bool) (i : Nat) : Bool :=
  match ops[i]? with
  | none => false
  | some oi => (List.range ops.size).all fun j => j == i || listed.getD j true || match ops[j]? with
      | some oj => oj.after.any (fun e => Region.binds .any e && e.on == i) || okB ops oi oj
      | none => true

theorem freeB_spec {i : Nat} {oi : Oper} {listed : Array Bool} (hi : ops[i]? = some oi) (h : freeB ops listed i = true) (j : Nat) (oj : Oper)
    (hj : ops[j]? = some oj) (hne : j ≠ i) (hun : listed.getD j true = false) (hno : ∀ e ∈ oj.after, Region.binds .any e = true → e.on ≠ i) : okB ops oi oj = true := by
  unfold freeB at h
  rw [hi] at h
  have hlt : j < ops.size := (Array.getElem?_eq_some_iff.1 hj).1
  have := List.all_eq_true.1 h j (List.mem_range.2 hlt)
  rw [hj] at this
  simp only [Bool.or_eq_true, beq_iff_eq] at this
  rcases this with (h1 | h1) | (h1 | h1)
  · exact absurd h1 hne
  · rw [hun] at h1; cases h1
  · rw [Array.any_eq_true'] at h1
    obtain ⟨e, he, hb⟩ := h1
    simp only [Bool.and_eq_true, beq_iff_eq] at hb
    exact absurd hb.2 (hno e he hb.1)
  · exact h1

theorem any_first {C : (Nat → AV) → Store → Prop} {i : Nat} {oi : Oper} (hi : ops[i]? = some oi) : ∀ (f : Nat) (R : List Nat) (listed : Array Bool) (ρ : Nat → AV) (S : Store), R.Nodup → R.length = f + 1 → (∀ j, j < ops.size → listed.getD j true = false → j ∈ R) →
    (∀ j oj, ops[j]? = some oj → j ≠ i → listed.getD j true = false → (∀ e ∈ oj.after, Region.binds .any e = true → e.on ≠ i) → okB ops oi oj = true) →
    i ∈ Region.ready .any ops listed → T P ops n cv i ρ S (xany P ops n cv C f (listed.setIfInBounds i true)) → xany P ops n cv C (f + 1) listed ρ S := by
  intro f
  induction f with
  | zero =>
    intro R listed ρ S hnd hlen hR hfree hr H
    refine ⟨(fun h0 => by rw [h0] at hr; cases hr), fun j hj => ?_⟩
    have inR : ∀ j, j ∈ Region.ready .any ops listed → j ∈ R := fun j hj => by
      obtain ⟨hun, o, ho, _⟩ := mem_ready.1 hj
      exact hR j (Array.getElem?_eq_some_iff.1 ho).1 hun
    have hji : j = i := by
      have h1 := inR j hj
      have h2 := inR i hr
      match R, hlen with
      | [x], _ => simp at h1 h2; rw [h1, h2]
    subst hji; exact H
  | succ f ih =>
    intro R listed ρ S hnd hlen hR hfree hr H
    refine ⟨(fun h0 => by rw [h0] at hr; cases hr), fun j hj => ?_⟩
    by_cases hji : j = i
    · subst hji; exact H
    · obtain ⟨hun, oj, hoj, hall⟩ := mem_ready.1 hj
      have hno : ∀ e ∈ oj.after, Region.binds .any e = true → e.on ≠ i := by
        intro e he hb hei
        have h1 := hall e he hb
        rw [hei] at h1
        have h2 := (mem_ready.1 hr).1
        have : listed.getD i true = listed.getD i false := by
          have hlt : i < listed.size := by
            rcases Nat.lt_or_ge i listed.size with h | h
            · exact h
            · simp [Array.getElem?_eq_none h] at h1
          simp [hlt]
        rw [this, h1] at h2; cases h2
      have hok := hfree j oj hoj hji hun hno
      have h2 : T P ops n cv i ρ S (fun ρ' S' => T P ops n cv j ρ' S' (xany P ops n cv C f ((listed.setIfInBounds i true).setIfInBounds j true))) :=
        T_mono (fun ρ' S' h => h.2 j (ready_mono hj hji)) H
      refine T_mono (fun ρ' S' h => ?_) (comm hi hoj hok h2)
      have hjR : j ∈ R := hR j (Array.getElem?_eq_some_iff.1 hoj).1 hun
      refine ih (R.erase j) (listed.setIfInBounds j true) ρ' S' (hnd.erase j) (by rw [List.length_erase_of_mem hjR, hlen]; rfl) (fun x hx hxu => ?_) ?_ (ready_mono hr (Ne.symm hji)) ?_
      · by_cases e : j = x
        · subst e
          rcases Nat.lt_or_ge j listed.size with h | h
          · simp [h] at hxu
          · simp [h] at hxu
        · rw [getD_set_ne true e] at hxu
          exact (hnd.mem_erase_iff).2 ⟨Ne.symm e, hR x hx hxu⟩
      · intro j' oj' h1 h2 h3 h4
        refine hfree j' oj' h1 h2 ?_ h4
        by_cases e : j = j'
        · subst e
          rcases Nat.lt_or_ge j listed.size with h | h
          · simp [h] at h3
          · simp [h] at h3
        · rwa [getD_set_ne true e] at h3
      · rw [Array.setIfInBounds_comm _ _ hji]; exact h

/-- In the order of the text. -/
def xseq (P : Program) (ops : Array Oper) (n : Nat) (cv : Nat → AV) (C : (Nat → AV) → Store → Prop) : Nat → Nat → (Nat → AV) → Store → Prop
  | 0, _, ρ, S => C ρ S
  | l + 1, k, ρ, S => T P ops n cv k ρ S (xseq P ops n cv C l (k + 1))

def lexOk (ops : Array Oper) : Nat → Nat → Array Bool → Bool
  | 0, _, listed => (Region.ready .any ops listed).isEmpty
  | f + 1, k, listed => (Region.ready .any ops listed).contains k && freeB ops listed k && lexOk ops f (k + 1) (listed.setIfInBounds k true)

theorem any_of_seq {C : (Nat → AV) → Store → Prop} : ∀ (l k : Nat) (listed : Array Bool) (ρ : Nat → AV) (S : Store), (∀ j, j < ops.size → listed.getD j true = false → k ≤ j ∧ j < k + l) → lexOk ops l k listed = true → xseq P ops n cv C l k ρ S → xany P ops n cv C l listed ρ S := by
  intro l
  induction l with
  | zero => intro k listed ρ S _ hB h; exact h
  | succ l ih =>
    intro k listed ρ S hR hB h
    simp only [lexOk, Bool.and_eq_true] at hB
    obtain ⟨⟨hr, hf⟩, hB'⟩ := hB
    have hr : k ∈ Region.ready .any ops listed := by simpa using hr
    obtain ⟨oi, hoi⟩ : ∃ oi, ops[k]? = some oi := by obtain ⟨_, o, ho, _⟩ := mem_ready.1 hr; exact ⟨o, ho⟩
    refine any_first hoi l (List.range' k (l + 1)) listed ρ S List.nodup_range' (by simp) (fun j hj hu => ?_) (freeB_spec hoi hf) hr (T_mono (fun ρ' S' h => ih (k + 1) _ ρ' S' ?_ hB' h) h)
    · have := hR j hj hu; rw [List.mem_range'_1]; omega
    · intro j hj hu
      by_cases e : k = j
      · subst e
        rcases Nat.lt_or_ge k listed.size with h | h
        · simp [h] at hu
        · simp [h] at hu
      · rw [getD_set_ne true e] at hu
        have := hR j hj hu; omega

/-! The machine. -/
theorem linearise_acc (ops : Array Oper) : ∀ (f t : Nat) (listed : Array Bool) (acc : List Nat), Region.linearise.go .any ops f t listed acc = acc.reverse ++ Region.linearise.go .any ops f t listed [] :=
  linearise_go_acc .any ops

def isCopy (o : Oper) : Bool := match o.op with | .call c => (match c.callee with | .builtin .copy => true | _ => false) | _ => false
theorem xopG_of_D {o : Oper} (hnc : isCopy o = false) {c : AV} {s : St} {D : AV → Store → Prop} (hk : keepDf s s.S) (h : xopD P o c (ev s) s.S D) : xopG P o (ev s) s.S (keepDf s) D := by
  unfold xopD at h
  unfold xopG
  cases ho : o.op <;> rw [ho] at h <;> dsimp only at h ⊢ <;> (try (unfold xopG at h; rw [ho] at h; exact h))
  rename_i cl
  split at h
  · rename_i f hc
    unfold xcall; (try (rw [hc]; dsimp only))
    have h1 := h.1 s.S (fun _ _ h => h)
    unfold FunR at h1 ⊢
    split
    · rename_i heq
      rw [heq] at h1
      refine CallR.mono h1 ?_
      rintro x S' ⟨rfl, rfl⟩
      exact ⟨hk, h.2⟩
    · rename_i l heq
      rw [heq] at h1
      intro D' w vs hR hv
      obtain ⟨fn, tmps, assign, body, hy, hg⟩ := h1 D' w vs hR hv
      refine ⟨fn, tmps, assign, body, hy, hg.mono ?_⟩
      rintro v w' ⟨x, S', D'', ⟨rfl, rfl⟩, hrest⟩
      exact ⟨_, _, D'', ⟨hk, h.2⟩, hrest⟩
    · rename_i h1' h2'
      split at h1
      · rename_i g fi ca heq; exact absurd heq (h1' _ _ _)
      · rename_i l heq; exact absurd heq (h2' _)
      · exact h1.elim
  · rename_i hc; simp [isCopy, ho, hc] at hnc
  · rename_i hne _
    unfold xopG at h
    rw [ho] at h
    dsimp only at h
    unfold xcall at h ⊢
    split at h
    · exact h
    · exact h
    · exact h
    · exact h
    · rename_i f hc; exact (hne f hc).elim
    · exact h.elim

theorem T_ok {i : Nat} {df : List Nat} {ρ : Nat → AV} {S : Store} {C : (Nat → AV) → Store → Prop} {D : Prot} {w : World} {a : Act} (hs : RelSt ⟨ρ, S, n, df⟩ D w a) (h : T P ops n cv i ρ S C) :
    OpsWP P ops (Post ⟨ρ, S, n, df⟩ D w (fun s' => s'.n = n ∧ s'.df = df ∧ C s'.ρ s'.S)) [i] a w := by
  unfold T at h
  simp only [OpsWP]
  cases ho : ops[i]? with
  | none => rw [ho] at h; exact ⟨⟨ρ, S, n, df⟩, D, ⟨rfl, rfl, h⟩, hs, Ext.refl _ _ _⟩
  | some o =>
    rw [ho] at h
    dsimp only at h ⊢
    unfold TV at h
    obtain ⟨hd, h⟩ := h
    have hdst : dstOk o ⟨ρ, S, n, df⟩ := hd
    have run : xopD P o (cv i) (evF ρ) S (fun v S' => C (updO ρ o.dst v) S') → noDefer o ∧ OpWP P o (Post ⟨ρ, S, n, df⟩ D w (fun s' => s'.n = n ∧ s'.df = df ∧ C s'.ρ s'.S)) a w := by
      intro hx
      have e : evF ρ = ev ⟨ρ, S, n, df⟩ := (ev_eq ⟨ρ, S, n, df⟩).symm
      rw [e] at hx
      have key : (fun v S' => C (updO ρ o.dst v) S') = fun x S' => (fun s' : St => s'.n = n ∧ s'.df = df ∧ C s'.ρ s'.S) (((⟨ρ, S, n, df⟩ : St).withS S').put o.dst x) := by
        funext x S'
        cases o.dst <;> simp [St.withS, St.put, updO]
      by_cases hcp : isCopy o = true
      · unfold isCopy at hcp
        split at hcp
        · rename_i c hoc
          split at hcp
          · rename_i hcc
            refine ⟨fun cc e => (by rw [hoc] at e; cases e), ?_⟩
            unfold xopD at hx
            rw [hoc] at hx
            dsimp only at hx
            rw [hcc] at hx
            dsimp only at hx
            split at hx
            · rename_i x y t u h1 h2
              obtain ⟨cal, ar, at'⟩ := c
              dsimp only at hcc h1 h2
              subst hcc
              obtain rfl : ar = #[x, y] := by cases ar; simp_all
              obtain rfl : at' = #[t, u] := by cases at'; simp_all
              refine copy_ok hs hdst hoc ?_
              rw [← key]; exact hx
            · exact hx.elim
          · cases hcp
        · cases hcp
      have hG := xopG_of_D (s := ⟨ρ, S, n, df⟩) (by simpa using hcp) hs.df hx
      refine xopG_ok (K := _) hs hdst ?_
      refine (?_ : xopG P o (ev ⟨ρ, S, n, df⟩) S (keepDf ⟨ρ, S, n, df⟩) _)
      rw [← key]; exact hG
    have skip : C (updO ρ o.dst (.tuple [])) S → Post ⟨ρ, S, n, df⟩ D w (fun s' => s'.n = n ∧ s'.df = df ∧ C s'.ρ s'.S) (a.put o.dst undef) w := by
      intro hC
      refine ⟨(⟨ρ, S, n, df⟩ : St).put o.dst (.tuple []), D, ?_, hs.put hdst.lt undef_rep, by rw [put_S]; exact Ext.refl _ _ _⟩
      cases hdd : o.dst <;> rw [hdd] at hC <;> exact ⟨rfl, rfl, hC⟩
    split at h
    · rename_i hg
      rw [if_pos (by simp [Region.wanted, hg])]
      exact run h
    · rename_i j want hg
      split at h
      · exact h.elim
      · rename_i d hd
        obtain ⟨hdn, h⟩ := h
        have hslot := hs.slots d
        have hlt : d < a.tmps.size := Nat.lt_of_lt_of_le hdn hs.size
        have hget : a.tmps[d]? = some (a.tmps.getD d undef) := by simp [Array.getD, hlt]
        split at h
        · rename_i b hb
          have hslot : RepA D w (a.tmps.getD d undef) (ρ d) := hslot
          rw [hb] at hslot
          have hv := hslot.inv
          generalize hvv : a.tmps.getD d undef = v at hv hget
          cases hv
          have hy : yielded ops a.tmps j = some b := by simp only [yielded, hd, Option.bind_some, hget]
          by_cases hbw : b = want
          · rw [if_pos (by simp [Region.wanted, hg, hy, hbw])]
            rw [if_pos hbw] at h
            exact run h
          · rw [if_neg (by simp [Region.wanted, hg, hy]; exact hbw)]
            rw [if_neg hbw] at h
            exact skip h
        · rename_i hb
          have hslot : RepA D w (a.tmps.getD d undef) (ρ d) := hslot
          rw [hb] at hslot
          generalize hvv : a.tmps.getD d undef = v at hslot hget
          have hvt : v = .tuple #[] := by
            cases hslot with
            | tuple vs _ hn _ => rw [Array.size_eq_zero_iff.1 hn]
          have hy : yielded ops a.tmps j = none := by simp only [yielded, hd, Option.bind_some, hget, hvt]
          rw [if_neg (by simp [Region.wanted, hg, hy])]
          exact skip h
        · exact h.elim

theorem OpsWP_cons {K : Act → World → Prop} {i : Nat} {rest : List Nat} {a : Act} {w : World} (h : OpsWP P ops (OpsWP P ops K rest) [i] a w) : OpsWP P ops K (i :: rest) a w := by
  simp only [OpsWP] at h ⊢
  split
  · rename_i ho; rw [ho] at h; exact h
  · rename_i o ho
    rw [ho] at h
    dsimp only at h
    split
    · rename_i hw; rw [if_pos hw] at h; exact h
    · rename_i hw; rw [if_neg hw] at h; exact h

theorem any_ok {df : List Nat} {C : (Nat → AV) → Store → Prop} : ∀ (f t : Nat) (listed : Array Bool) (ρ : Nat → AV) (S : Store) (D : Prot) (w : World) (a : Act), RelSt ⟨ρ, S, n, df⟩ D w a → xany P ops n cv C f listed ρ S →
    OpsWP P ops (Post ⟨ρ, S, n, df⟩ D w (fun s' => s'.n = n ∧ s'.df = df ∧ C s'.ρ s'.S)) (Region.linearise.go .any ops f t listed []) a w := by
  intro f
  induction f with
  | zero => intro t listed ρ S D w a hs h; exact ⟨⟨ρ, S, n, df⟩, D, ⟨rfl, rfl, h⟩, hs, Ext.refl _ _ _⟩
  | succ f ih =>
    intro t listed ρ S D w a hs h
    obtain ⟨h₀, h₁⟩ := h
    simp only [Region.linearise.go]
    change OpsWP P ops _ (match (Region.ready .any ops listed)[t % (Region.ready .any ops listed).length]? with
      | some i => Region.linearise.go .any ops f (t / (Region.ready .any ops listed).length) (listed.setIfInBounds i true) [i]
      | none => [].reverse) a w
    cases hi : (Region.ready .any ops listed)[t % (Region.ready .any ops listed).length]? with
    | none =>
      have hnil : Region.ready .any ops listed = [] := by
        cases hr : Region.ready .any ops listed with
        | nil => rfl
        | cons x xs =>
          rw [hr] at hi
          have hlt : t % (x :: xs).length < (x :: xs).length := Nat.mod_lt _ (by simp)
          simp at hi
          simp at hlt
          omega
      exact ⟨⟨ρ, S, n, df⟩, D, ⟨rfl, rfl, h₀ hnil⟩, hs, Ext.refl _ _ _⟩
    | some i =>
      simp only []
      rw [linearise_acc, List.reverse_singleton, List.singleton_append]
      refine OpsWP_cons (OpsWP.mono ?_ _ _ _ (T_ok hs (h₁ i (List.mem_of_getElem? hi))))
      rintro a2 w2 ⟨s2, D2, ⟨hn2, hdf2, hC2⟩, h2, hE2⟩
      obtain ⟨ρ2, S2, n2, df2⟩ := s2
      dsimp only at hn2 hdf2 hC2
      subst hn2; subst hdf2
      exact OpsWP.mono (fun _ _ h => Post.trans hE2 h) _ _ _ (ih _ _ ρ2 S2 D2 w2 a2 h2 hC2)


/-- A region whose order is open, walked in the order of the text; cv: what its calls hand back. -/
theorem AWP.draw {ro : Option Nat} {id : Nat} {Q : Ex → St → Prop} {s : St} (hm : P.follows .mixedOrders = true) (hB : lexOk ops ops.size 0 (Array.replicate ops.size false) = true) (cv : Nat → AV)
    (h : xseq P ops s.n cv (fun ρ S => Q .normal ⟨ρ, S, s.n, s.df⟩) ops.size 0 s.ρ s.S) : AWP P ro (.region id ops true) Q s := by
  intro D w a hs
  refine WP.region_draw (fun t => ?_)
  simp only [Region.schedule, hm, Bool.true_or, if_true]
  obtain ⟨hR, hE⟩ := drew_ok hs.rel (w.drawn + 1)
  have hs' : RelSt ⟨s.ρ, s.S, s.n, s.df⟩ D { w with drawn := w.drawn + 1 } a := hs.later hR hE.toLater hs.df
  have hany := any_of_seq (P := P) (n := s.n) (cv := cv) ops.size 0 _ s.ρ s.S (fun j hj _ => ⟨Nat.zero_le _, by omega⟩) hB h
  refine OpsWP.mono ?_ _ _ _ (any_ok (df := s.df) ops.size t _ s.ρ s.S D _ a hs' hany)
  rintro a' w' ⟨s', D', ⟨hn, hdf, hC⟩, h2, h3⟩
  obtain ⟨ρ', S', n', df'⟩ := s'
  dsimp only at hn hdf hC
  subst hn; subst hdf
  exact ⟨_, D', hC, h2, hE.trans h3⟩
end

/-- The same, as a walk sees it: the operations one behind the other. -/
def xdraw (P : Program) (ops : Array Oper) (cv : Nat → AV) (K : St → Prop) : List (Oper × Nat) → St → Prop
  | [], s => K s
  | (o, i) :: r, s => TV P ops s.n (cv i) o s.ρ s.S (fun v S' => xdraw P ops cv K r ((s.withS S').put o.dst v))

theorem xdraw_seq {P : Program} {ops : Array Oper} {cv : Nat → AV} {K : St → Prop} {n : Nat} {df : List Nat} : ∀ (l : List Oper) (k : Nat) (ρ : Nat → AV) (S : Store), ops.toList.drop k = l →
    xdraw P ops cv K (l.zipIdx k) ⟨ρ, S, n, df⟩ → xseq P ops n cv (fun ρ S => K ⟨ρ, S, n, df⟩) l.length k ρ S := by
  intro l
  induction l with
  | nil => intro k ρ S _ h; exact h
  | cons o r ih =>
    intro k ρ S hl h
    have ho : ops[k]? = some o := by
      have : (ops.toList.drop k)[0]? = some o := by rw [hl]; rfl
      rw [List.getElem?_drop] at this
      simpa using this
    have hr : ops.toList.drop (k + 1) = r := by
      have := congrArg (List.drop 1) hl
      simpa [List.drop_drop, Nat.add_comm] using this
    simp only [List.zipIdx_cons, xdraw] at h
    simp only [List.length_cons, xseq, T, ho]
    refine TV_keep (fun v S' _ h => ?_) h
    have e : ((⟨ρ, S, n, df⟩ : St).withS S').put o.dst v = ⟨updO ρ o.dst v, S', n, df⟩ := by cases o.dst <;> rfl
    rw [e] at h
    exact ih (k + 1) _ _ hr h

def keepQ (L : Nat → Bool) (Q : Ex → St → Prop) : Ex → St → Prop
  | .normal, s => Q .normal (s.keep L)
  | e, s => Q e s
theorem AWP.keepQ {P : Program} {ro : Option Nat} {c : Code} {Q : Ex → St → Prop} {s : St} (L : Nat → Bool) (h : AWP P ro c (keepQ L Q) s) : AWP P ro c Q s :=
  fun D w a hs => WP.mono (h D w a hs) (fun e a' w' ⟨s', D', hQ, h2, h3⟩ => by
    cases e with
    | normal => exact ⟨s'.keep L, D', hQ, h2.keep L, h3⟩
    | _ => exact ⟨s', D', hQ, h2, h3⟩)

theorem AWP.xdraw {P : Program} {ops : Array Oper} {ro : Option Nat} {id : Nat} {Q : Ex → St → Prop} {s : St} (L : Nat → Bool) (hm : P.follows .mixedOrders = true) (hB : lexOk ops ops.size 0 (Array.replicate ops.size false) = true) (cv : Nat → AV)
    (h : xdraw P ops cv (fun s' => Q .normal (s'.keep L)) ops.toList.zipIdx s) : AWP P ro (.region id ops true) Q s := by
  refine AWP.keepQ L (AWP.draw hm hB cv ?_)
  obtain ⟨ρ, S, n, df⟩ := s
  exact xdraw_seq (P := P) (cv := cv) (K := fun s' => Q .normal (s'.keep L)) (n := n) (df := df) ops.toList 0 ρ S rfl h
end Go.Sk
