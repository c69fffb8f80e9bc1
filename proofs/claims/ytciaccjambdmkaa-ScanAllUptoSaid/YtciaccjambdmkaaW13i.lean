/- Walks: layer 13's lists in whatever turn. -/
import Derived.Test.YtciaccjambdmkaaW13f
set_option linter.unusedSimpArgs false
set_option linter.unusedVariables false
set_option linter.unusedSectionVars false
namespace Go.Sk
open Go Go.Proofs

set_option maxRecDepth 8000 in
theorem law_ScanTurns (l k : List Event) (n m : Nat) (he : ∀ e ∈ l, e.Ok) (hk : ∀ e ∈ k, e.Ok) (hn : n < 18446744073709551616) (hll : l.length ≤ 1048576) (hkl : k.length ≤ 1048576) :
    CallsR Try.prog 7 [.p (evsP l), .p (evsP k), two n m] noS (fun x _ => x = bl true) := by
  refine callsR_of Try.func7 rfl (xc_ok (bitB 266215) _ _ _ ?_)
  simp only [go_sem, decide_true, decide_false, Nat.lt_irrefl]
  refine alloc_intro fun b5 h5 => ?_
  simp only [go_sem, decide_true, decide_false, Nat.lt_irrefl]
  refine awake13.useA ?_
  simp only [go_sem, decide_true, decide_false, Nat.lt_irrefl, evsP]
  (first | refine dec_split (fun hc => ?_) (fun hc => ?_) | refine gdd_split (fun hc => ?_) (fun hc => ?_) | refine bool_split (fun hc => ?_) (fun hc => ?_) | refine gd_split (fun hc => ?_) (fun hc => ?_)) <;> simp only [go_sem, decide_true, decide_false, Nat.lt_irrefl]
  · exact ⟨_, Sub.refl _⟩
  have hlk : l.length + k.length ≤ 60 := by
    rw [wi_id (by omega) (by omega)] at hc; omega
  have lenE : ∀ (l : List Event), ∀ el ∈ l.map Event.pv, el.length = 3 := fun l el h => by obtain ⟨x, _, rfl⟩ := List.mem_map.1 h; rfl
  refine ⟨lenE l, by omega, by omega, tip_intro fun k1 loc1 hk1 => ?_⟩
  simp only [go_sem, decide_true, decide_false, Nat.lt_irrefl]
  refine ⟨lenE k, lenE l, by omega, by omega, grow_intro fun loc2 => ?_⟩
  simp only [go_sem, decide_true, decide_false, Nat.lt_irrefl]
  refine ⟨lenE k, by omega, by omega, tip_intro fun k2 loc3 hk2 => ?_⟩
  simp only [go_sem, decide_true, decide_false, Nat.lt_irrefl]
  refine ⟨lenE l, lenE k, by omega, by omega, grow_intro fun loc4 => ?_⟩
  simp only [go_sem, decide_true, decide_false, Nat.lt_irrefl]
  refine ⟨by omega, by omega, alloc_intro fun b10 h10 => ?_⟩
  simp only [fresh_set, fresh_setv] at h10
  simp only [go_sem, decide_true, decide_false, Nat.lt_irrefl, h10]
  have ebl : List.map Event.pv l ++ List.map Event.pv k = (l ++ k).map Event.pv := by simp
  have ekl : List.map Event.pv k ++ List.map Event.pv l = (k ++ l).map Event.pv := by simp
  have hlb : (l ++ k).length < 4611686018427387904 := by simp; omega
  have hkb : (k ++ l).length < 4611686018427387904 := by simp; omega
  have em : m64 (1 + n % 1000) = 1 + n % 1000 := m64_id (by omega)
  have hsd : (⟨1 + n % 1000, m % 1000⟩ : Seed).Ok := ⟨by show _ < _; dsimp only; omega, by show _ < _; dsimp only; omega⟩
  simp only [ebl, ekl, em]
  refine ⟨by omega, by omega, (scan_Sum (l ++ k) n m hlb).useA ?_⟩
  simp only [go_sem, decide_true, decide_false, Nat.lt_irrefl, h5, h10]
  generalize hcv : colV ⟨1 + n % 1000, m % 1000⟩ n 7 = cc
  have hboth : ∀ e ∈ l ++ k, e.Ok := fun e h => by rcases List.mem_append.1 h with h | h; exact he e h; exact hk e h
  have hother : ∀ e ∈ k ++ l, e.Ok := fun e h => by rcases List.mem_append.1 h with h | h; exact hk e h; exact he e h
  simp only [List.append_eq, List.cons_append, List.nil_append]
  refine AWP.draw2 (bitB 266215) mixed (by kernel_rfl) (fun i => if i = 8 then u64 (spanV (l ++ k) n m) else if i = 18 then u64 (spanV l n m) else if i = 24 then u64 (spanV k n m) else if i < 37 then .p (itP (keysR (l ++ k) 0 n)) else if i = 37 then bl true else if i = 49 then i64 cc else if i = 60 then i64 cc else u64 (colSumV (l ++ k) n m ⟨1 + n % 1000, m % 1000⟩ 7 cc)) ?_
  have q1 : (spanV (l ++ k) n m == m64 (spanV l n m + spanV k n m)) = true := by rw [spanV_app]; exact beq_self_eq_true _
  simp only [go_sem, decide_true, decide_false, Nat.lt_irrefl, h5, h10, beq_self_eq_true, q1]
  have hlen := keysR_len (l ++ k) 0 n (l ++ k).length (Nat.le_refl _)
  rw [List.take_length] at hlen
  have hlb' : (l ++ k).length < 1099511627776 := by simp; omega
  have hkb' : (k ++ l).length < 1099511627776 := by simp; omega
  have hcol := ref04_Column ⟨1 + n % 1000, m % 1000⟩ n 7 hsd hn (by omega)
  rw [hcv] at hcol
  refine ⟨by omega, by omega, ?_, by omega, by omega, (scan_Sum l n m (by omega)).draw, by omega, by omega, (scan_Sum k n m (by omega)).draw,
    (scan_KeysD (l ++ k) 0 n hlb' hboth).draw, ?_, ?_, by omega, by omega, hcol.draw, (scan_In (l ++ k) n m ⟨1 + n % 1000, m % 1000⟩ 7 cc hlb hboth hsd (by omega)).draw, by omega, by omega, hcol.draw, ?_, ?_⟩
  · rw [spanV_comm]; exact (scan_Sum (k ++ l) n m hkb).draw
  · rw [keysR_comm l k 0 n he hk]; exact (scan_KeysD (k ++ l) 0 n hkb' hother).draw
  · have := ref13_Items (keysR (l ++ k) 0 n) (keysR (l ++ k) 0 n) (by omega)
    simp only [decide_true] at this
    exact this.draw
  · rw [colSumV_comm]; exact (scan_In (k ++ l) n m ⟨1 + n % 1000, m % 1000⟩ 7 cc hkb hother hsd (by omega)).draw
  · exact ⟨_, Sub.refl _⟩
end Go.Sk
