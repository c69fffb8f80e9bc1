/- Texts LR L10b, joined. -/
import Derived.Test.YtmpockfgppcnbaaLB
import Derived.Test.YtmpockfgppcnbaaR10I
import Derived.Test.YtmpockfgppcnbaaR10K
set_option linter.unusedSimpArgs false
set_option linter.unusedVariables false
set_option linter.unusedSectionVars false
-- LR
section
namespace Go.Sk
open Go Go.Proofs Go.ChangeShapes Go.WideShapes Go.ChangeAt Go.RowKit

theorem fit_deeds {N : Nat} {pv : PV} (h : Fit N (.sl [.int .u64, .int .u64]) pv) : ∃ l : List Deed, pv = .sl (l.map Deed.pv) ∧ (∀ e ∈ l, e.Ok) ∧ l.length ≤ N := by
  refine fit_list (pvf := Deed.pv) (ok := Deed.Ok) h (fun l hl hf => ?_)
  obtain ⟨a, b, rfl, ha, hb⟩ := fit_two hl hf
  obtain ⟨x, hx, rfl⟩ := fit_u64 ha
  obtain ⟨y, hy, rfl⟩ := fit_u64 hb
  exact ⟨⟨x, y⟩, rfl, hx, hy⟩
theorem fit_dls {N : Nat} {pv : PV} (h : Fit N (.sl [.sl [.int .u64, .int .u64]]) pv) : ∃ l : List (List Deed), pv = .sl (l.map dlE) ∧ (∀ x ∈ l, (∀ d ∈ x, d.Ok) ∧ x.length ≤ N) ∧ l.length ≤ N := by
  refine fit_list (pvf := dlE) (ok := fun x : List Deed => (∀ d ∈ x, d.Ok) ∧ x.length ≤ N) h (fun l hl hf => ?_)
  obtain ⟨a, rfl, ha⟩ := fit_one hl hf
  obtain ⟨x, rfl, h1, h2⟩ := fit_deeds ha
  exact ⟨x, rfl, h1, h2⟩
theorem fit_ints {N : Nat} {pv : PV} (h : Fit N (.sl [.int .i64]) pv) : ∃ l : List Int, pv = .sl (l.map fun n : Int => [PV.int .i64 n]) ∧ (∀ n ∈ l, -9223372036854775808 ≤ n ∧ n < 9223372036854775808) ∧ l.length ≤ N := by
  refine fit_list (pvf := fun n : Int => [PV.int .i64 n]) (ok := fun n : Int => -9223372036854775808 ≤ n ∧ n < 9223372036854775808) h (fun l hl hf => ?_)
  obtain ⟨a, rfl, ha⟩ := fit_one hl hf
  obtain ⟨x, h1, rfl⟩ := fit_i64 ha
  exact ⟨x, rfl, h1⟩
theorem fit_bytes {N : Nat} {pv : PV} (h : Fit N (.sl [.int .u8]) pv) : ∃ l : List Nat, pv = .sl (l.map fun n : Nat => [PV.int .u8 n]) ∧ (∀ n ∈ l, n < 256) ∧ l.length ≤ N := by
  refine fit_list (pvf := fun n : Nat => [PV.int .u8 n]) (ok := fun n : Nat => n < 256) h (fun l hl hf => ?_)
  obtain ⟨a, rfl, ha⟩ := fit_one hl hf
  obtain ⟨x, h1, rfl⟩ := fit_u8 ha
  exact ⟨x, rfl, h1⟩
theorem shInts : shOf Try.prog 8 22 = some [.sl [.int .i64]] := by kernel_rfl
theorem shBytes : shOf Try.prog 8 24 = some [.sl [.int .u8]] := by kernel_rfl
theorem shDls : shOf Try.prog 8 23 = some [.sl [.sl [.int .u64, .int .u64]]] := by kernel_rfl
theorem shTree : shOf Try.prog 8 38 = some [.int .i64, .sl [.int .u64, .int .u64], .sl [.int .u64, .int .u64], .sl [.int .u64, .int .u64], .sl [.int .u64, .int .u64], .int .u8] := by kernel_rfl
section
variable {H : Type} {enc : TypeId × Value → H}
set_option maxRecDepth 100000 in
theorem arg_ints {W : World} {base N : Nat} {v : Value} {d : DataW H} {p : List MemPlace} (hok : Value.okWide Try.prog W .any base 22 v) (h : DataW.Trod enc Try.prog W 0 (fun _ => true) true 22 v d p) (hN : Ytmpockfgppcnbaa.Rows.uptoBulk d ≤ N) :
    ∃ l : List Int, ((∀ n ∈ l, -9223372036854775808 ≤ n ∧ n < 9223372036854775808) ∧ l.length ≤ N) ∧ RepA (allD W) W v (.p (.sl (l.map fun n : Int => [PV.int .i64 n]))) := by
  obtain ⟨a, n, c, rfl⟩ := okWide_slice Try.underlying22 hok
  obtain ⟨pv, hf, hr⟩ := arg_one (N := N) (f := 8) (bulkOk H) shInts (fun c h => by cases h) h hN
  obtain ⟨l, rfl, h1, h2⟩ := fit_ints hf
  exact ⟨l, ⟨h1, h2⟩, hr⟩
set_option maxRecDepth 100000 in
theorem arg_bytes {W : World} {base N : Nat} {v : Value} {d : DataW H} {p : List MemPlace} (hok : Value.okWide Try.prog W .any base 24 v) (h : DataW.Trod enc Try.prog W 0 (fun _ => true) true 24 v d p) (hN : Ytmpockfgppcnbaa.Rows.uptoBulk d ≤ N) :
    ∃ l : List Nat, ((∀ n ∈ l, n < 256) ∧ l.length ≤ N) ∧ RepA (allD W) W v (.p (.sl (l.map fun n : Nat => [PV.int .u8 n]))) := by
  obtain ⟨a, n, c, rfl⟩ := okWide_slice Try.underlying24 hok
  obtain ⟨pv, hf, hr⟩ := arg_one (N := N) (f := 8) (bulkOk H) shBytes (fun c h => by cases h) h hN
  obtain ⟨l, rfl, h1, h2⟩ := fit_bytes hf
  exact ⟨l, ⟨h1, h2⟩, hr⟩
set_option maxRecDepth 100000 in
theorem arg_dls {W : World} {base N : Nat} {v : Value} {d : DataW H} {p : List MemPlace} (hok : Value.okWide Try.prog W .any base 23 v) (h : DataW.Trod enc Try.prog W 0 (fun _ => true) true 23 v d p) (hN : Ytmpockfgppcnbaa.Rows.uptoBulk d ≤ N) :
    ∃ l : List (List Deed), ((∀ x ∈ l, (∀ d ∈ x, d.Ok) ∧ x.length ≤ N) ∧ l.length ≤ N) ∧ RepA (allD W) W v (.p (.sl (l.map dlE))) := by
  obtain ⟨a, n, c, rfl⟩ := okWide_slice Try.underlying23 hok
  obtain ⟨pv, hf, hr⟩ := arg_one (N := N) (f := 8) (bulkOk H) shDls (fun c h => by cases h) h hN
  obtain ⟨l, rfl, h1, h2⟩ := fit_dls hf
  exact ⟨l, ⟨h1, h2⟩, hr⟩
set_option maxRecDepth 100000 in
theorem arg_u8 {W : World} {base N : Nat} {v : Value} {d : DataW H} {p : List MemPlace} (hok : Value.okWide Try.prog W .any base 5 v) (h : DataW.Trod enc Try.prog W 0 (fun _ => true) true 5 v d p) (hN : Ytmpockfgppcnbaa.Rows.uptoBulk d ≤ N) :
    ∃ n : Nat, n < 256 ∧ RepA (allD W) W v (.p (.int .u8 n)) := by
  obtain ⟨n, rfl⟩ := okWide_int Try.underlying5 hok
  obtain ⟨pv, hf, hr⟩ := arg_one (N := N) (f := 8) (bulkOk H) (show shOf Try.prog 8 5 = some [.int .u8] by kernel_rfl) (fun c h => by cases h) h hN
  obtain ⟨n, h1, rfl⟩ := fit_u8 hf
  exact ⟨n, h1, hr⟩
set_option maxRecDepth 100000 in
theorem arg_tree {W : World} {base : Nat} {v : Value} {d : DataW H} {p : List MemPlace} (hok : Value.okWide Try.prog W .any base 38 v) (h : DataW.Trod enc Try.prog W 0 (fun _ => true) true 38 v d p) (hN : Ytmpockfgppcnbaa.Rows.uptoBulk d ≤ 1048576) :
    ∃ t : Tree, t.Ok ∧ RepA (allD W) W v t.av := by
  obtain ⟨pvs, hl, hf, hr⟩ := arg_agg (N := 1048576) (f := 8) (bulkOk H) shTree (by rw [Try.underlying38]) hok h hN
  match pvs, hl with
  | [a, b, c, d', e, f], _ =>
    obtain ⟨x0, h0, e0⟩ := fit_i64 (hf 0 (by simp))
    obtain ⟨x1, e1, h1, n1⟩ := fit_deeds (hf 1 (by simp))
    obtain ⟨x2, e2, h2, n2⟩ := fit_deeds (hf 2 (by simp))
    obtain ⟨x3, e3, h3, n3⟩ := fit_deeds (hf 3 (by simp))
    obtain ⟨x4, e4, h4, n4⟩ := fit_deeds (hf 4 (by simp))
    obtain ⟨x5, h5, e5⟩ := fit_u8 (hf 5 (by simp))
    simp at e0 e1 e2 e3 e4 e5
    subst e0; subst e1; subst e2; subst e3; subst e4; subst e5
    exact ⟨⟨x0, x1, x2, x3, x4, x5⟩, ⟨h0.1, h0.2, ⟨h1, n1⟩, ⟨h2, n2⟩, ⟨h3, n3⟩, ⟨h4, n4⟩, h5⟩, hr⟩
end
end Go.Sk
end

-- L10b
section
namespace Go.Sk
open Go Go.Proofs Go.ChangeShapes Go.WideShapes Go.ChangeAt Go.RowKit

namespace replayNever
set_option maxRecDepth 100000 in
theorem contract (H : Type) (enc : TypeId × Value → H) (W : World) (base : Nat) (args : Array Value) (ds gs : List (DataW H)) (before : List MemPlace)
    (hval : ∀ (j : Nat) t v, Try.f6.params[j]? = some t → args[j]? = some v → Value.okWide Try.prog W .any base t v)
    (hW : DataW.Whole enc Try.prog Try.f6.params.toList Ytmpockfgppcnbaa.Rows.replayNeverSpec.vars false W args.toList ds gs before) (hk : Ytmpockfgppcnbaa.Rows.uptoSmall H (ds ++ gs) = true) :
    Calls Try.prog 6 args W fun e W' => ∃ v, e = .returned v ∧ Ytmpockfgppcnbaa.Rows.replayNeverSpec.post enc Try.prog Try.f6 false true false false W args v W' := by
  have hW' := hW
  obtain ⟨p, q, hA0, hV, rfl, hfz, hnd⟩ := hW
  have hA : DataW.TrodAll enc Try.prog W 0 (fun _ => true) true Try.f6.params.toList args.toList ds p := hA0
  rw [Try.params6] at hA hval
  obtain ⟨v0, vs0, d0, ds0, p0, q0, hargs, rfl, rfl, h0, r0⟩ := trodAll_cons hA
  obtain ⟨v1, vs1, d1, ds1, p1, q1, rfl, rfl, rfl, h1, r1⟩ := trodAll_cons r0
  obtain ⟨v2, vs2, d2, ds2, p2, q2, rfl, rfl, rfl, h2, r2⟩ := trodAll_cons r1
  obtain ⟨rfl, rfl, rfl⟩ := trodAll_nil r2
  obtain ⟨rfl, rfl⟩ := trodVars_none hV
  obtain rfl : args = #[v0, v1, v2] := by cases args; simp_all
  have hb : Ytmpockfgppcnbaa.Rows.uptoBulkAll ([d0, d1, d2] ++ []) ≤ 1048576 := of_decide_eq_true hk
  obtain ⟨b0, hb⟩ := small_cons hb
  obtain ⟨b1, hb⟩ := small_cons hb
  obtain ⟨b2, hb⟩ := small_cons hb
  obtain ⟨t, ht, rep0⟩ := arg_tree (hval 0 38 v0 rfl rfl) h0 b0
  obtain ⟨tick, h1, rep1⟩ := arg_u64 (hval 1 41 v1 rfl rfl) h1 b1
  obtain ⟨span, h2, rep2⟩ := arg_u64 (hval 2 41 v2 rfl rfl) h2 b2
  refine ((law_ReplayNever t ht tick span) (allD W) W #[v0, v1, v2] (rel_all W) ⟨rfl, fun i hi => ?_⟩).mono ?_
  · match i, hi with
    | 0, _ => exact rep0
    | 1, _ => exact rep1
    | 2, _ => exact rep2
  · rintro e W' ⟨v, rfl, x, S', D', rfl, _, hrep, hE⟩
    cases hrep with
    | p hrep =>
    cases hrep
    exact ⟨_, rfl, bridge kids full hW' rfl (by rw [Try.params6]; decide) rfl Try.underlying4 rfl rfl rfl hE.still⟩

set_option maxRecDepth 100000 in
theorem lifted (os : Os) (started : os.Started) (H : Type) (enc : TypeId × Value → H) (F : Stop.Interp) :
    ReturnsInHanded {} Try.checked os 6 .any ((Ytmpockfgppcnbaa.Rows.OpenSpec.upto Ytmpockfgppcnbaa.Rows.replayNeverSpec).pre6 enc Try.prog Try.f6 Ytmpockfgppcnbaa.Rows.replayNeverUptoRow.domain false) (((Ytmpockfgppcnbaa.Rows.OpenSpec.upto Ytmpockfgppcnbaa.Rows.replayNeverSpec).at F).post enc Try.prog Try.f6 false true false false) := by
  refine returnsInHanded_of_cond (C := Try.checked) (s := Ytmpockfgppcnbaa.Rows.OpenSpec.upto Ytmpockfgppcnbaa.Rows.replayNeverSpec) (k := Ytmpockfgppcnbaa.Rows.uptoSmall) rfl own started (by kernel_rfl) Try.func6
    (OpenSpec.witness (enc := enc) (C := Try.checked) (s := Ytmpockfgppcnbaa.Rows.OpenSpec.upto Ytmpockfgppcnbaa.Rows.replayNeverSpec) (k := Ytmpockfgppcnbaa.Rows.uptoSmall) rfl false ⟨#[], #[.agg #[.int .i64 0, .slice none 0 0, .slice none 0 0, .slice none 0 0, .slice none 0 0, .int .u8 0], .int .u64 0, .int .u64 0], []⟩ 12 (by kernel_rfl) (by kernel_rfl) (by kernel_rfl)
      (x := ([.agg [.lit (.int .i64 0), .agg [.nil, .nil, .nil, .nil], .lit (.int .u8 0)], .lit (.int .u64 0), .lit (.int .u64 0)], [], [])) (by kernel_rfl) rfl (by kernel_rfl)) ?_
  intro W base args ds gs before hval hW _ hk _
  exact contract H enc W base args ds gs before hval hW hk

theorem j1 : (Ytmpockfgppcnbaa.Rows.replayNeverUptoRow.inPlace == Try.prog.inPlace 6) = true := by kernel_rfl
theorem j2 : (Ytmpockfgppcnbaa.Rows.replayNeverUptoRow.unfollowed == Try.prog.unfollowed 6) = true := by kernel_rfl
theorem j3 : (Ytmpockfgppcnbaa.Rows.replayNeverUptoRow.recurses == Try.prog.recurses 6) = true := by kernel_rfl
theorem j4 : (Ytmpockfgppcnbaa.Rows.replayNeverUptoRow.named == Try.prog.varsNamed 6) = true := by kernel_rfl
theorem j5 : (Ytmpockfgppcnbaa.Rows.replayNeverUptoRow.plainKeys == Try.prog.plainKeys) = true := by kernel_rfl
theorem j6 : (Ytmpockfgppcnbaa.Rows.replayNeverUptoRow.lifted == Try.prog.liftsFinal) = true := by kernel_rfl
theorem j7 : (Try.prog.make == some Ytmpockfgppcnbaa.Rows.replayNeverUptoRow.make) = true := by kernel_rfl
set_option maxRecDepth 100000 in
theorem jf : joinedFacts Try.prog 6 Try.f6 (Ytmpockfgppcnbaa.Rows.OpenSpec.upto Ytmpockfgppcnbaa.Rows.replayNeverSpec).bare Ytmpockfgppcnbaa.Rows.replayNeverUptoRow = true := by
  unfold joinedFacts
  exact and_ok (and_ok (and_ok (and_ok (and_ok (and_ok (and_ok (and_ok (and_ok (and_ok (and_ok (and_ok (and_ok (and_ok (and_ok (and_ok (and_ok (and_ok (and_ok (and_ok (and_ok (and_ok (and_ok (and_ok (and_ok (and_ok (and_ok (and_ok (and_ok (and_ok (and_ok (by kernel_rfl) j_laid) j_maps) (by kernel_rfl)) (by kernel_rfl)) (by kernel_rfl)) (by kernel_rfl)) (by kernel_rfl)) (by kernel_rfl)) j1) j2) j3) j4) (by kernel_rfl)) (by kernel_rfl)) (by kernel_rfl)) (by kernel_rfl)) (by kernel_rfl)) (by kernel_rfl)) (by kernel_rfl)) (by kernel_rfl)) (by kernel_rfl)) j5) (by kernel_rfl)) j_heard) j_enter) j6) j7) (by kernel_rfl)) (by kernel_rfl)) (by kernel_rfl)) (by kernel_rfl)
end replayNever
theorem _root_.Go.Proofs.Ytmpockfgppcnbaa.replayNever_proved : Ytmpockfgppcnbaa.Rows.ReplayNeverUptoSaid :=
  OpenClaim.holds_of_cond 6 Try.f6 rfl rfl rfl rfl rfl rfl rfl ⟨rfl, rfl, rfl, rfl, rfl⟩ rfl rfl rfl rfl rfl (by kernel_rfl) Try.func6 replayNever.jf
    (of_decide_eq_true (by kernel_rfl)) (by unfold Func.isWrapper; first | (rw [if_pos (by decide +kernel)]; kernel_rfl) | (rw [if_neg (by decide +kernel)]; exact ⟨rfl, rfl⟩))
    (fun os started H enc _ F => replayNever.lifted os started H enc F)
#print axioms Go.Proofs.Ytmpockfgppcnbaa.replayNever_proved
end Go.Sk
end
