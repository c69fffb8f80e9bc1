/- Walks: layer 13's other statements. -/
import Derived.Test.YtciaccjambdmkaaW13e
import Derived.Test.YtciaccjambdmkaaA13
set_option linter.unusedSimpArgs false
set_option linter.unusedVariables false
set_option linter.unusedSectionVars false
namespace Go.Sk
open Go Go.Proofs

theorem bl_true {a b : AV} {R : AV → Store → Prop} {S : Store} (h : a = b) (k : R b S) : R a S := h ▸ k

theorem scan_KeysD (l : List Event) (lo hi' : Nat) (hl : l.length < 1099511627776) (he : ∀ e ∈ l, e.Ok) : Pure Try.prog 14 [.p (evsP l), u64 lo, u64 hi'] (.p (itP (keysR l lo hi'))) := fun S => by
  refine (scan_Keys l lo hi' hl S).mono ?_
  rintro _ _ ⟨m, hp, hr, rfl, rfl⟩
  rw [keys_doc he hp hr]; exact ⟨rfl, rfl⟩
theorem keysR_comm (l k : List Event) (lo hi : Nat) (hl : ∀ e ∈ l, e.Ok) (hk : ∀ e ∈ k, e.Ok) : keysR (l ++ k) lo hi = keysR (k ++ l) lo hi := by
  obtain ⟨a, b⟩ := keysR_spec lo hi (l ++ k) (fun e he => by rcases List.mem_append.1 he with h | h; exact hl e h; exact hk e h)
  obtain ⟨c, d⟩ := keysR_spec lo hi (k ++ l) (fun e he => by rcases List.mem_append.1 he with h | h; exact hk e h; exact hl e h)
  exact rise_ext a c fun x => by rw [b, d, keyN_perm List.perm_append_comm]

theorem law_ScanKeys (l : List Event) (lo hi' : Nat) (he : ∀ e ∈ l, e.Ok) :
    CallsR Try.prog 4 [.p (evsP l), u64 lo, u64 hi'] noS (fun x _ => x = bl true) := by
  refine callsR_of Try.func4 rfl (xc_ok (bitB 2247) _ _ _ ?_)
  simp only [go_sem, decide_true, decide_false, Nat.lt_irrefl]
  refine awake13.useA ?_
  simp only [go_sem, decide_true, decide_false, Nat.lt_irrefl, evsP]
  (first | refine dec_split (fun hc => ?_) (fun hc => ?_) | refine gdd_split (fun hc => ?_) (fun hc => ?_) | refine bool_split (fun hc => ?_) (fun hc => ?_) | refine gd_split (fun hc => ?_) (fun hc => ?_)) <;> simp only [go_sem, decide_true, decide_false, Nat.lt_irrefl]
  · exact ⟨_, Sub.refl _⟩
  · have hl : l.length ≤ 60 := by omega
    refine (scan_Keys l lo hi' (by omega) noS).useA ?_
    rintro _ _ ⟨m, hp, hr, rfl, rfl⟩
    simp only [go_sem, decide_true, decide_false, Nat.lt_irrefl]
    refine (ref13_Keys l lo hi' (by omega)).useA ?_
    simp only [go_sem, decide_true, decide_false, Nat.lt_irrefl]
    have hm := keys_doc he hp hr
    subst hm
    have hk := keysR_len l lo hi' l.length (Nat.le_refl _)
    rw [List.take_length] at hk
    refine (ref13_Items _ _ (by omega)).useA ?_
    simp only [go_sem, decide_true, decide_false, Nat.lt_irrefl]
    exact ⟨_, Sub.refl _⟩
end Go.Sk
