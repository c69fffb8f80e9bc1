/- Regions whose order is open: what follows something by way of others. -/
import Derived.Test.YthpfcfacofakoaaGreatSkU
import Derived.Test.YthpfcfacofakoaaGreatSkOr
set_option linter.unusedSimpArgs false
set_option linter.unusedVariables false
set_option linter.unusedSectionVars false
namespace Go.Sk
open Go

section
variable {P : Program} {ops : Array Oper} {n : Nat} {cv : Nat → AV}
/-- It comes behind i, by way of others too. -/
inductive Beh (ops : Array Oper) (i : Nat) : Nat → Prop
  | one {j : Nat} {oj : Oper} {e : Edge} : ops[j]? = some oj → e ∈ oj.after → Region.binds .any e = true → e.on = i → Beh ops i j
  | more {j : Nat} {oj : Oper} {e : Edge} : ops[j]? = some oj → e ∈ oj.after → Region.binds .any e = true → Beh ops i e.on → Beh ops i j
/-- Whatever is listed, all that it follows is, too. -/
def Clo (ops : Array Oper) (listed : Array Bool) : Prop := ∀ k ok, listed.getD k false = true → ops[k]? = some ok → ∀ e ∈ ok.after, Region.binds .any e = true → listed.getD e.on false = true
theorem Beh.listed {i j : Nat} (h : Beh ops i j) {listed : Array Bool} (hc : Clo ops listed) : listed.getD j false = true → listed.getD i false = true := by
  induction h with
  | one h1 h2 h3 h4 => intro hj; rw [← h4]; exact hc _ _ hj h1 _ h2 h3
  | more h1 h2 h3 _ ih => intro hj; exact ih (hc _ _ hj h1 _ h2 h3)
theorem Beh.ready {i j : Nat} (h : Beh ops i j) {listed : Array Bool} (hc : Clo ops listed) (hj : j ∈ Region.ready .any ops listed) : listed.getD i false = true := by
  obtain ⟨_, o, ho, hall⟩ := mem_ready.1 hj
  cases h with
  | one h1 h2 h3 h4 =>
    rw [ho] at h1; cases h1
    rw [← h4]; exact hall _ h2 h3
  | more h1 h2 h3 h4 =>
    rw [ho] at h1; cases h1
    exact h4.listed hc (hall _ h2 h3)
theorem getD_set_mono {listed : Array Bool} {j k : Nat} (h : listed.getD k false = true) : (listed.setIfInBounds j true).getD k false = true := by
  by_cases e : j = k
  · subst e
    rcases Nat.lt_or_ge j listed.size with hl | hl
    · simp [hl]
    · simp [Array.getElem?_eq_none hl] at h
  · rw [getD_set_ne false e]; exact h
theorem Clo.add {listed : Array Bool} (hc : Clo ops listed) {j : Nat} (hj : j ∈ Region.ready .any ops listed) : Clo ops (listed.setIfInBounds j true) := by
  intro k ok hk hok e he hb
  by_cases ek : j = k
  · subst ek
    obtain ⟨_, o, ho, hall⟩ := mem_ready.1 hj
    rw [ho] at hok; cases hok
    exact getD_set_mono (hall e he hb)
  · rw [getD_set_ne false ek] at hk
    exact getD_set_mono (hc k ok hk hok e he hb)
def behB (ops : Array Oper) (i : Nat) : Nat → Nat → Bool
  | 0, _ => false
  | f + 1, j => match ops[j]? with
    | some oj => oj.after.any (fun e => Region.binds .any e && e.on == i) || oj.after.any (fun e => Region.binds .any e && behB ops i f e.on)
    | none => false
theorem behB_ok {i : Nat} : ∀ {f j : Nat}, behB ops i f j = true → Beh ops i j := by
  intro f
  induction f with
  | zero => intro j h; cases h
  | succ f ih =>
    intro j h
    simp only [behB] at h
    split at h
    · rename_i oj hoj
      rw [Bool.or_eq_true] at h
      rcases h with h | h
      · rw [Array.any_eq_true'] at h
        obtain ⟨e, he, hb⟩ := h
        simp only [Bool.and_eq_true, beq_iff_eq] at hb
        exact .one hoj he hb.1 hb.2
      · rw [Array.any_eq_true'] at h
        obtain ⟨e, he, hb⟩ := h
        simp only [Bool.and_eq_true] at hb
        exact .more hoj he hb.1 (ih hb.2)
    · cases h
def freeZ (ops : Array Oper) (listed : Array Bool) (i : Nat) : Bool :=
  match ops[i]? with
  | none => false
  | some oi => (List.range ops.size).all fun j => j == i || listed.getD j true || match ops[j]? with
      | some oj => okB ops oi oj || behB ops i 4 j
      | none => true
theorem freeZ_spec {i : Nat} {oi : Oper} {listed : Array Bool} (hi : ops[i]? = some oi) (h : freeZ ops listed i = true) (j : Nat) (oj : Oper)
    (hj : ops[j]? = some oj) (hne : j ≠ i) (hun : listed.getD j true = false) (hno : ¬ Beh ops i j) : okB ops oi oj = true := by
  unfold freeZ at h
  rw [hi] at h
  have hlt : j < ops.size := (Array.getElem?_eq_some_iff.1 hj).1
  have := List.all_eq_true.1 h j (List.mem_range.2 hlt)
  rw [hj] at this
  simp only [Bool.or_eq_true, beq_iff_eq] at this
  rcases this with (h1 | h1) | (h1 | h1)
  · exact absurd h1 hne
  · rw [hun] at h1; cases h1
  · exact h1
  · exact absurd (behB_ok h1) hno
theorem any_firstZ {C : (Nat → AV) → Store → Prop} {i : Nat} {oi : Oper} (hi : ops[i]? = some oi) : ∀ (f : Nat) (R : List Nat) (listed : Array Bool) (ρ : Nat → AV) (S : Store), R.Nodup → R.length = f + 1 → (∀ j, j < ops.size → listed.getD j true = false → j ∈ R) →
    (∀ j oj, ops[j]? = some oj → j ≠ i → listed.getD j true = false → ¬ Beh ops i j → okB ops oi oj = true) → Clo ops listed →
    i ∈ Region.ready .any ops listed → T P ops n cv i ρ S (xany P ops n cv C f (listed.setIfInBounds i true)) → xany P ops n cv C (f + 1) listed ρ S := by
  intro f
  induction f with
  | zero =>
    intro R listed ρ S hnd hlen hR hfree hclo hr H
    refine ⟨(fun h0 => by rw [h0] at hr; cases hr), fun j hj => ?_⟩
    have inR : ∀ j, j ∈ Region.ready .any ops listed → j ∈ R := fun j hj => by
      obtain ⟨hun, o, ho, _⟩ := mem_ready.1 hj
      exact hR j (Array.getElem?_eq_some_iff.1 ho).1 hun
    have hji : j = i := by
      have h1 := inR j hj
      have h2 := inR i hr
      match R, hlen with
      | [x], _ => simp at h1 h2; rw [h1, h2]
    subst hji; exact H
  | succ f ih =>
    intro R listed ρ S hnd hlen hR hfree hclo hr H
    refine ⟨(fun h0 => by rw [h0] at hr; cases hr), fun j hj => ?_⟩
    by_cases hji : j = i
    · subst hji; exact H
    · obtain ⟨hun, oj, hoj, hall⟩ := mem_ready.1 hj
      have hno : ¬ Beh ops i j := fun hb => by
        have h1 := hb.ready hclo hj
        have h2 := (mem_ready.1 hr).1
        have : listed.getD i true = listed.getD i false := by
          have hlt : i < listed.size := by
            rcases Nat.lt_or_ge i listed.size with h | h
            · exact h
            · simp [Array.getElem?_eq_none h] at h1
          simp [hlt]
        rw [this, h1] at h2; cases h2
      have hok := hfree j oj hoj hji hun hno
      have h2 : T P ops n cv i ρ S (fun ρ' S' => T P ops n cv j ρ' S' (xany P ops n cv C f ((listed.setIfInBounds i true).setIfInBounds j true))) :=
        T_mono (fun ρ' S' h => h.2 j (ready_mono hj hji)) H
      refine T_mono (fun ρ' S' h => ?_) (comm hi hoj hok h2)
      have hjR : j ∈ R := hR j (Array.getElem?_eq_some_iff.1 hoj).1 hun
      refine ih (R.erase j) (listed.setIfInBounds j true) ρ' S' (hnd.erase j) (by rw [List.length_erase_of_mem hjR, hlen]; rfl) (fun x hx hxu => ?_) ?_ (hclo.add hj) (ready_mono hr (Ne.symm hji)) ?_
      · by_cases e : j = x
        · subst e
          rcases Nat.lt_or_ge j listed.size with h | h
          · simp [h] at hxu
          · simp [h] at hxu
        · rw [getD_set_ne true e] at hxu
          exact (hnd.mem_erase_iff).2 ⟨Ne.symm e, hR x hx hxu⟩
      · intro j' oj' h1 h2 h3 h4
        refine hfree j' oj' h1 h2 ?_ h4
        by_cases e : j = j'
        · subst e
          rcases Nat.lt_or_ge j listed.size with h | h
          · simp [h] at h3
          · simp [h] at h3
        · rwa [getD_set_ne true e] at h3
      · rw [Array.setIfInBounds_comm _ _ hji]; exact h

def lexZ (ops : Array Oper) : Nat → Nat → Array Bool → Bool
  | 0, _, listed => (Region.ready .any ops listed).isEmpty
  | f + 1, k, listed => (Region.ready .any ops listed).contains k && freeZ ops listed k && lexZ ops f (k + 1) (listed.setIfInBounds k true)
theorem any_of_seqZ {C : (Nat → AV) → Store → Prop} : ∀ (l k : Nat) (listed : Array Bool) (ρ : Nat → AV) (S : Store), (∀ j, j < ops.size → listed.getD j true = false → k ≤ j ∧ j < k + l) → Clo ops listed → lexZ ops l k listed = true → xseq P ops n cv C l k ρ S → xany P ops n cv C l listed ρ S := by
  intro l
  induction l with
  | zero => intro k listed ρ S _ _ hB h; exact h
  | succ l ih =>
    intro k listed ρ S hR hclo hB h
    simp only [lexZ, Bool.and_eq_true] at hB
    obtain ⟨⟨hr, hf⟩, hB'⟩ := hB
    have hr : k ∈ Region.ready .any ops listed := by simpa using hr
    obtain ⟨oi, hoi⟩ : ∃ oi, ops[k]? = some oi := by obtain ⟨_, o, ho, _⟩ := mem_ready.1 hr; exact ⟨o, ho⟩
    refine any_firstZ hoi l (List.range' k (l + 1)) listed ρ S List.nodup_range' (by simp) (fun j hj hu => ?_) (freeZ_spec hoi hf) hclo hr (T_mono (fun ρ' S' h => ih (k + 1) _ ρ' S' ?_ (hclo.add hr) hB' h) h)
    · have := hR j hj hu; rw [List.mem_range'_1]; omega
    · intro j hj hu
      by_cases e : k = j
      · subst e
        rcases Nat.lt_or_ge k listed.size with h | h
        · simp [h] at hu
        · simp [h] at hu
      · rw [getD_set_ne true e] at hu
        have := hR j hj hu; omega
theorem clo_none (m : Nat) : Clo ops (Array.replicate m false) := by
  intro k ok hk
  exfalso
  rcases Nat.lt_or_ge k m with h | h
  · simp [h] at hk
  · simp [Array.getElem?_eq_none (show (Array.replicate m false).size ≤ k by simpa using h)] at hk
theorem AWP.drawZ0 {ro : Option Nat} {id : Nat} {Q : Ex → St → Prop} {s : St} (hm : P.follows .mixedOrders = true) (hB : lexZ ops ops.size 0 (Array.replicate ops.size false) = true) (cv : Nat → AV)
    (h : xseq P ops s.n cv (fun ρ S => Q .normal ⟨ρ, S, s.n, s.df⟩) ops.size 0 s.ρ s.S) : AWP P ro (.region id ops true) Q s := by
  intro D w a hs
  refine WP.region_draw (fun t => ?_)
  simp only [Region.schedule, hm, Bool.true_or, if_true]
  obtain ⟨hR, hE⟩ := drew_ok hs.rel (w.drawn + 1)
  have hs' : RelSt ⟨s.ρ, s.S, s.n, s.df⟩ D { w with drawn := w.drawn + 1 } a := hs.later hR hE.toLater hs.df
  have hany := any_of_seqZ (P := P) (n := s.n) (cv := cv) ops.size 0 _ s.ρ s.S (fun j hj _ => ⟨Nat.zero_le _, by omega⟩) (clo_none _) hB h
  refine OpsWP.mono ?_ _ _ _ (any_ok (df := s.df) ops.size t _ s.ρ s.S D _ a hs' hany)
  rintro a' w' ⟨s', D', ⟨hn, hdf, hC⟩, h2, h3⟩
  obtain ⟨ρ', S', n', df'⟩ := s'
  dsimp only at hn hdf hC
  subst hn; subst hdf
  exact ⟨_, D', hC, h2, hE.trans h3⟩
end
/-! In an order of one's own. -/
section
variable {P : Program} {ops : Array Oper} {n : Nat}
def xseqL (P : Program) (ops : Array Oper) (n : Nat) (cv : Nat → AV) (C : (Nat → AV) → Store → Prop) : List Nat → (Nat → AV) → Store → Prop
  | [], ρ, S => C ρ S
  | k :: r, ρ, S => T P ops n cv k ρ S (xseqL P ops n cv C r)
def lexL (ops : Array Oper) : List Nat → Array Bool → Bool
  | [], listed => (Region.ready .any ops listed).isEmpty
  | k :: r, listed => (Region.ready .any ops listed).contains k && freeZ ops listed k && lexL ops r (listed.setIfInBounds k true)
end
/-- What is told of a place, by where it stands. -/
def cvAt (il : List Nat) (cv : Nat → AV) (i : Nat) : AV := cv (il.idxOf i)
theorem AWP.draw3 {P : Program} {l : List Oper} {ro : Option Nat} {id : Nat} {Q : Ex → St → Prop} {s : St} (L : Nat → Bool) (hm : P.follows .mixedOrders = true) (hB : lexZ (List.toArray l) (List.toArray l).size 0 (Array.replicate (List.toArray l).size false) = true) (cv : Nat → AV)
    (h : xdr P (List.toArray l) cv (kReg Q L) l 0 s) : AWP P ro (.region id (List.toArray l) true) Q s := by
  rw [xdr_eq] at h
  refine AWP.keepQ L (AWP.drawZ0 hm hB cv ?_)
  obtain ⟨ρ, S, n, df⟩ := s
  exact xdraw_seq (P := P) (cv := cv) (K := fun s' => Q .normal (s'.keep L)) (n := n) (df := df) l 0 ρ S rfl h
end Go.Sk
