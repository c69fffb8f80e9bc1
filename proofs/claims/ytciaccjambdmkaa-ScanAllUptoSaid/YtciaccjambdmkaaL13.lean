/- Layer 13: its statements. -/
import Derived.Test.YtciaccjambdmkaaW13g
import Derived.Test.YtciaccjambdmkaaW13h
import Derived.Test.YtciaccjambdmkaaW13i
import Derived.Test.YtciaccjambdmkaaLB
set_option linter.unusedSimpArgs false
set_option linter.unusedVariables false
set_option linter.unusedSectionVars false
namespace Go.Sk
open Go Go.Proofs Go.ChangeShapes Go.WideShapes Go.ChangeAt Go.RowKit

theorem fit_events {N : Nat} {pv : PV} (h : Fit N (.sl [.int .u64, .int .u64, .int .u64]) pv) : ∃ l : List Event, pv = evsP l ∧ (∀ e ∈ l, e.Ok) ∧ l.length ≤ N := by
  refine fit_list (pvf := Event.pv) (ok := Event.Ok) h (fun l hl hf => ?_)
  obtain ⟨a, b, c, rfl, ha, hb, hc⟩ := fit_three hl hf
  obtain ⟨x, hx, rfl⟩ := fit_u64 ha
  obtain ⟨y, hy, rfl⟩ := fit_u64 hb
  obtain ⟨z, hz, rfl⟩ := fit_u64 hc
  exact ⟨⟨x, y, z⟩, rfl, hx, hy, hz⟩
theorem shEvents : shOf Try.prog 8 22 = some [.sl [.int .u64, .int .u64, .int .u64]] := by kernel_rfl
theorem shTwo : shOf Try.prog 8 24 = some [.int .u64, .int .u64] := by kernel_rfl
theorem shRow : shOf Try.prog 8 28 = some [.int .u64, .int .u64, .int .i64, .int .i64] := by kernel_rfl

section
variable {H : Type} {enc : TypeId × Value → H}
theorem arg_events {W : World} {base N : Nat} {v : Value} {d : DataW H} {p : List MemPlace} (hok : Value.okWide Try.prog W .any base 22 v) (h : DataW.Trod enc Try.prog W 0 (fun _ => true) true 22 v d p) (hN : Ytciaccjambdmkaa.Rows.uptoBulk d ≤ N) :
    ∃ l : List Event, (∀ e ∈ l, e.Ok) ∧ l.length ≤ N ∧ RepA (allD W) W v (.p (evsP l)) := by
  obtain ⟨a, n, c, rfl⟩ := okWide_slice Try.underlying22 hok
  obtain ⟨pv, hf, hr⟩ := arg_one (N := N) (f := 8) (bulkOk H) shEvents (fun c h => by cases h) h hN
  obtain ⟨l, rfl, h1, h2⟩ := fit_events hf
  exact ⟨l, h1, h2, hr⟩
theorem arg_two {W : World} {base N : Nat} {v : Value} {d : DataW H} {p : List MemPlace} (hok : Value.okWide Try.prog W .any base 24 v) (h : DataW.Trod enc Try.prog W 0 (fun _ => true) true 24 v d p) (hN : Ytciaccjambdmkaa.Rows.uptoBulk d ≤ N) :
    ∃ n m : Nat, n < 18446744073709551616 ∧ m < 18446744073709551616 ∧ RepA (allD W) W v (two n m) := by
  obtain ⟨pvs, hl, hf, hr⟩ := arg_agg (N := N) (f := 8) (bulkOk H) shTwo (by rw [Try.underlying24]) hok h hN
  obtain ⟨a, b, rfl, ha, hb⟩ := fit_two hl hf
  obtain ⟨x, hx, rfl⟩ := fit_u64 ha
  obtain ⟨y, hy, rfl⟩ := fit_u64 hb
  exact ⟨x, y, hx, hy, hr⟩
theorem arg_row {W : World} {base N : Nat} {v : Value} {d : DataW H} {p : List MemPlace} (hok : Value.okWide Try.prog W .any base 28 v) (h : DataW.Trod enc Try.prog W 0 (fun _ => true) true 28 v d p) (hN : Ytciaccjambdmkaa.Rows.uptoBulk d ≤ N) :
    ∃ r : Row, r.s.Ok ∧ (r.w < 9223372036854775808 ∧ -9223372036854775808 ≤ r.w) ∧ RepA (allD W) W v r.av := by
  obtain ⟨pvs, hl, hf, hr⟩ := arg_agg (N := N) (f := 8) (bulkOk H) shRow (by rw [Try.underlying28]) hok h hN
  match pvs, hl with
  | [a, b, c, d], _ =>
    obtain ⟨x, hx, e1⟩ := fit_u64 (hf 0 (by simp))
    obtain ⟨y, hy, e2⟩ := fit_u64 (hf 1 (by simp))
    obtain ⟨z, ⟨hz0, hz⟩, e3⟩ := fit_i64 (hf 2 (by simp))
    obtain ⟨w, ⟨_, hw⟩, e4⟩ := fit_i64 (hf 3 (by simp))
    simp at e1 e2 e3 e4
    subst e1; subst e2; subst e3; subst e4
    exact ⟨⟨⟨x, y⟩, z, w⟩, ⟨hx, hy⟩, ⟨hz, hz0⟩, hr⟩
end
namespace scanSums
set_option maxRecDepth 100000 in
theorem contract (H : Type) (enc : TypeId × Value → H) (W : World) (base : Nat) (args : Array Value) (ds gs : List (DataW H)) (before : List MemPlace)
    (hval : ∀ (j : Nat) t v, Try.f3.params[j]? = some t → args[j]? = some v → Value.okWide Try.prog W .any base t v)
    (hW : DataW.Whole enc Try.prog Try.f3.params.toList Ytciaccjambdmkaa.Rows.scanSumsSpec.vars false W args.toList ds gs before) (hk : Ytciaccjambdmkaa.Rows.uptoSmall H (ds ++ gs) = true) :
    Calls Try.prog 3 args W fun e W' => ∃ v, e = .returned v ∧ Ytciaccjambdmkaa.Rows.scanSumsSpec.post enc Try.prog Try.f3 false true false false W args v W' := by
  have hW' := hW
  obtain ⟨p, q, hA0, hV, rfl, hfz, hnd⟩ := hW
  have hA : DataW.TrodAll enc Try.prog W 0 (fun _ => true) true Try.f3.params.toList args.toList ds p := hA0
  rw [Try.params3] at hA hval
  obtain ⟨v0, vs0, d0, ds0, p0, q0, hargs, rfl, rfl, h0, r0⟩ := trodAll_cons hA
  obtain ⟨v1, vs1, d1, ds1, p1, q1, rfl, rfl, rfl, h1, r1⟩ := trodAll_cons r0
  obtain ⟨v2, vs2, d2, ds2, p2, q2, rfl, rfl, rfl, h2, r2⟩ := trodAll_cons r1
  obtain ⟨rfl, rfl, rfl⟩ := trodAll_nil r2
  obtain ⟨rfl, rfl⟩ := trodVars_none hV
  obtain rfl : args = #[v0, v1, v2] := by cases args; simp_all
  have hb : Ytciaccjambdmkaa.Rows.uptoBulkAll ([d0, d1, d2] ++ []) ≤ 1048576 := of_decide_eq_true hk
  obtain ⟨b0, hb⟩ := small_cons hb
  obtain ⟨b1, hb⟩ := small_cons hb
  obtain ⟨b2, hb⟩ := small_cons hb
  obtain ⟨l, hl, _, rep0⟩ := arg_events (hval 0 22 v0 rfl rfl) h0 b0
  obtain ⟨n, m, _, _, rep1⟩ := arg_two (hval 1 24 v1 rfl rfl) h1 b1
  obtain ⟨r, hs, hw, rep2⟩ := arg_row (hval 2 28 v2 rfl rfl) h2 b2
  refine ((law_ScanSums l n m r hl hs hw.1) (allD W) W #[v0, v1, v2] (rel_all W) ⟨rfl, fun i hi => ?_⟩).mono ?_
  · match i, hi with
    | 0, _ => exact rep0
    | 1, _ => exact rep1
    | 2, _ => exact rep2
  · rintro e W' ⟨v, rfl, x, S', D', rfl, _, hrep, hE⟩
    cases hrep with
    | p hrep =>
    cases hrep
    exact ⟨_, rfl, bridge kids full hW' rfl (by rw [Try.params3]; decide) rfl Try.underlying4 rfl rfl rfl hE.still⟩

set_option maxRecDepth 100000 in
theorem lifted (os : Os) (started : os.Started) (H : Type) (enc : TypeId × Value → H) (F : Stop.Interp) :
    ReturnsInHanded {} Try.checked os 3 .any ((Ytciaccjambdmkaa.Rows.OpenSpec.upto Ytciaccjambdmkaa.Rows.scanSumsSpec).pre6 enc Try.prog Try.f3 Ytciaccjambdmkaa.Rows.scanSumsUptoRow.domain false) (((Ytciaccjambdmkaa.Rows.OpenSpec.upto Ytciaccjambdmkaa.Rows.scanSumsSpec).at F).post enc Try.prog Try.f3 false true false false) := by
  refine returnsInHanded_of_cond (C := Try.checked) (s := Ytciaccjambdmkaa.Rows.OpenSpec.upto Ytciaccjambdmkaa.Rows.scanSumsSpec) (k := Ytciaccjambdmkaa.Rows.uptoSmall) rfl own started (by kernel_rfl) Try.func3
    (OpenSpec.witness (enc := enc) (C := Try.checked) (s := Ytciaccjambdmkaa.Rows.OpenSpec.upto Ytciaccjambdmkaa.Rows.scanSumsSpec) (k := Ytciaccjambdmkaa.Rows.uptoSmall) rfl false ⟨#[], #[.slice none 0 0, .agg #[.int .u64 0, .int .u64 0], .agg #[.int .u64 0, .int .u64 0, .int .i64 0, .int .i64 0]], []⟩ 12 (by kernel_rfl) (by kernel_rfl) (by kernel_rfl)
      (x := ([.nil, .agg [.lit (.int .u64 0), .lit (.int .u64 0)], .agg [.agg [.lit (.int .u64 0), .lit (.int .u64 0)], .lit (.int .i64 0), .lit (.int .i64 0)]], [], [])) (by kernel_rfl) rfl (by kernel_rfl)) ?_
  intro W base args ds gs before hval hW _ hk _
  exact contract H enc W base args ds gs before hval hW hk

theorem j1 : (Ytciaccjambdmkaa.Rows.scanSumsUptoRow.inPlace == Try.prog.inPlace 3) = true := by kernel_rfl
theorem j2 : (Ytciaccjambdmkaa.Rows.scanSumsUptoRow.unfollowed == Try.prog.unfollowed 3) = true := by kernel_rfl
theorem j3 : (Ytciaccjambdmkaa.Rows.scanSumsUptoRow.recurses == Try.prog.recurses 3) = true := by kernel_rfl
theorem j4 : (Ytciaccjambdmkaa.Rows.scanSumsUptoRow.named == Try.prog.varsNamed 3) = true := by kernel_rfl
theorem j5 : (Ytciaccjambdmkaa.Rows.scanSumsUptoRow.plainKeys == Try.prog.plainKeys) = true := by kernel_rfl
theorem j6 : (Ytciaccjambdmkaa.Rows.scanSumsUptoRow.lifted == Try.prog.liftsFinal) = true := by kernel_rfl
theorem j7 : (Try.prog.make == some Ytciaccjambdmkaa.Rows.scanSumsUptoRow.make) = true := by kernel_rfl
set_option maxRecDepth 100000 in
theorem jf : joinedFacts Try.prog 3 Try.f3 (Ytciaccjambdmkaa.Rows.OpenSpec.upto Ytciaccjambdmkaa.Rows.scanSumsSpec).bare Ytciaccjambdmkaa.Rows.scanSumsUptoRow = true := by
  unfold joinedFacts
  exact and_ok (and_ok (and_ok (and_ok (and_ok (and_ok (and_ok (and_ok (and_ok (and_ok (and_ok (and_ok (and_ok (and_ok (and_ok (and_ok (and_ok (and_ok (and_ok (and_ok (and_ok (and_ok (and_ok (and_ok (and_ok (and_ok (and_ok (and_ok (and_ok (and_ok (and_ok (by kernel_rfl) j_laid) j_maps) (by kernel_rfl)) (by kernel_rfl)) (by kernel_rfl)) (by kernel_rfl)) (by kernel_rfl)) (by kernel_rfl)) j1) j2) j3) j4) (by kernel_rfl)) (by kernel_rfl)) (by kernel_rfl)) (by kernel_rfl)) (by kernel_rfl)) (by kernel_rfl)) (by kernel_rfl)) (by kernel_rfl)) (by kernel_rfl)) j5) (by kernel_rfl)) j_heard) j_enter) j6) j7) (by kernel_rfl)) (by kernel_rfl)) (by kernel_rfl)) (by kernel_rfl)
end scanSums
theorem _root_.Go.Proofs.Ytciaccjambdmkaa.scanSums_proved : Ytciaccjambdmkaa.Rows.ScanSumsUptoSaid :=
  OpenClaim.holds_of_cond 3 Try.f3 rfl rfl rfl rfl rfl rfl rfl ⟨rfl, rfl, rfl, rfl, rfl⟩ rfl rfl rfl rfl rfl (by kernel_rfl) Try.func3 scanSums.jf
    (of_decide_eq_true (by kernel_rfl)) (by unfold Func.isWrapper; first | (rw [if_pos (by decide +kernel)]; kernel_rfl) | (rw [if_neg (by decide +kernel)]; exact ⟨rfl, rfl⟩))
    (fun os started H enc _ F => scanSums.lifted os started H enc F)
#print axioms Go.Proofs.Ytciaccjambdmkaa.scanSums_proved
namespace scanKeys
set_option maxRecDepth 100000 in
theorem contract (H : Type) (enc : TypeId × Value → H) (W : World) (base : Nat) (args : Array Value) (ds gs : List (DataW H)) (before : List MemPlace)
    (hval : ∀ (j : Nat) t v, Try.f4.params[j]? = some t → args[j]? = some v → Value.okWide Try.prog W .any base t v)
    (hW : DataW.Whole enc Try.prog Try.f4.params.toList Ytciaccjambdmkaa.Rows.scanKeysSpec.vars false W args.toList ds gs before) (hk : Ytciaccjambdmkaa.Rows.uptoSmall H (ds ++ gs) = true) :
    Calls Try.prog 4 args W fun e W' => ∃ v, e = .returned v ∧ Ytciaccjambdmkaa.Rows.scanKeysSpec.post enc Try.prog Try.f4 false true false false W args v W' := by
  have hW' := hW
  obtain ⟨p, q, hA0, hV, rfl, hfz, hnd⟩ := hW
  have hA : DataW.TrodAll enc Try.prog W 0 (fun _ => true) true Try.f4.params.toList args.toList ds p := hA0
  rw [Try.params4] at hA hval
  obtain ⟨v0, vs0, d0, ds0, p0, q0, hargs, rfl, rfl, h0, r0⟩ := trodAll_cons hA
  obtain ⟨v1, vs1, d1, ds1, p1, q1, rfl, rfl, rfl, h1, r1⟩ := trodAll_cons r0
  obtain ⟨v2, vs2, d2, ds2, p2, q2, rfl, rfl, rfl, h2, r2⟩ := trodAll_cons r1
  obtain ⟨rfl, rfl, rfl⟩ := trodAll_nil r2
  obtain ⟨rfl, rfl⟩ := trodVars_none hV
  obtain rfl : args = #[v0, v1, v2] := by cases args; simp_all
  have hb : Ytciaccjambdmkaa.Rows.uptoBulkAll ([d0, d1, d2] ++ []) ≤ 1048576 := of_decide_eq_true hk
  obtain ⟨b0, hb⟩ := small_cons hb
  obtain ⟨b1, hb⟩ := small_cons hb
  obtain ⟨b2, hb⟩ := small_cons hb
  obtain ⟨l, hl, _, rep0⟩ := arg_events (hval 0 22 v0 rfl rfl) h0 b0
  obtain ⟨n, _, rep1⟩ := arg_u64 (hval 1 23 v1 rfl rfl) h1 b1
  obtain ⟨m, _, rep2⟩ := arg_u64 (hval 2 23 v2 rfl rfl) h2 b2
  refine ((law_ScanKeys l n m hl) (allD W) W #[v0, v1, v2] (rel_all W) ⟨rfl, fun i hi => ?_⟩).mono ?_
  · match i, hi with
    | 0, _ => exact rep0
    | 1, _ => exact rep1
    | 2, _ => exact rep2
  · rintro e W' ⟨v, rfl, x, S', D', rfl, _, hrep, hE⟩
    cases hrep with
    | p hrep =>
    cases hrep
    exact ⟨_, rfl, bridge kids full hW' rfl (by rw [Try.params4]; decide) rfl Try.underlying4 rfl rfl rfl hE.still⟩

set_option maxRecDepth 100000 in
theorem lifted (os : Os) (started : os.Started) (H : Type) (enc : TypeId × Value → H) (F : Stop.Interp) :
    ReturnsInHanded {} Try.checked os 4 .any ((Ytciaccjambdmkaa.Rows.OpenSpec.upto Ytciaccjambdmkaa.Rows.scanKeysSpec).pre6 enc Try.prog Try.f4 Ytciaccjambdmkaa.Rows.scanKeysUptoRow.domain false) (((Ytciaccjambdmkaa.Rows.OpenSpec.upto Ytciaccjambdmkaa.Rows.scanKeysSpec).at F).post enc Try.prog Try.f4 false true false false) := by
  refine returnsInHanded_of_cond (C := Try.checked) (s := Ytciaccjambdmkaa.Rows.OpenSpec.upto Ytciaccjambdmkaa.Rows.scanKeysSpec) (k := Ytciaccjambdmkaa.Rows.uptoSmall) rfl own started (by kernel_rfl) Try.func4
    (OpenSpec.witness (enc := enc) (C := Try.checked) (s := Ytciaccjambdmkaa.Rows.OpenSpec.upto Ytciaccjambdmkaa.Rows.scanKeysSpec) (k := Ytciaccjambdmkaa.Rows.uptoSmall) rfl false ⟨#[], #[.slice none 0 0, .int .u64 0, .int .u64 0], []⟩ 12 (by kernel_rfl) (by kernel_rfl) (by kernel_rfl)
      (x := ([.nil, .lit (.int .u64 0), .lit (.int .u64 0)], [], [])) (by kernel_rfl) rfl (by kernel_rfl)) ?_
  intro W base args ds gs before hval hW _ hk _
  exact contract H enc W base args ds gs before hval hW hk

theorem j1 : (Ytciaccjambdmkaa.Rows.scanKeysUptoRow.inPlace == Try.prog.inPlace 4) = true := by kernel_rfl
theorem j2 : (Ytciaccjambdmkaa.Rows.scanKeysUptoRow.unfollowed == Try.prog.unfollowed 4) = true := by kernel_rfl
theorem j3 : (Ytciaccjambdmkaa.Rows.scanKeysUptoRow.recurses == Try.prog.recurses 4) = true := by kernel_rfl
theorem j4 : (Ytciaccjambdmkaa.Rows.scanKeysUptoRow.named == Try.prog.varsNamed 4) = true := by kernel_rfl
theorem j5 : (Ytciaccjambdmkaa.Rows.scanKeysUptoRow.plainKeys == Try.prog.plainKeys) = true := by kernel_rfl
theorem j6 : (Ytciaccjambdmkaa.Rows.scanKeysUptoRow.lifted == Try.prog.liftsFinal) = true := by kernel_rfl
theorem j7 : (Try.prog.make == some Ytciaccjambdmkaa.Rows.scanKeysUptoRow.make) = true := by kernel_rfl
set_option maxRecDepth 100000 in
theorem jf : joinedFacts Try.prog 4 Try.f4 (Ytciaccjambdmkaa.Rows.OpenSpec.upto Ytciaccjambdmkaa.Rows.scanKeysSpec).bare Ytciaccjambdmkaa.Rows.scanKeysUptoRow = true := by
  unfold joinedFacts
  exact and_ok (and_ok (and_ok (and_ok (and_ok (and_ok (and_ok (and_ok (and_ok (and_ok (and_ok (and_ok (and_ok (and_ok (and_ok (and_ok (and_ok (and_ok (and_ok (and_ok (and_ok (and_ok (and_ok (and_ok (and_ok (and_ok (and_ok (and_ok (and_ok (and_ok (and_ok (by kernel_rfl) j_laid) j_maps) (by kernel_rfl)) (by kernel_rfl)) (by kernel_rfl)) (by kernel_rfl)) (by kernel_rfl)) (by kernel_rfl)) j1) j2) j3) j4) (by kernel_rfl)) (by kernel_rfl)) (by kernel_rfl)) (by kernel_rfl)) (by kernel_rfl)) (by kernel_rfl)) (by kernel_rfl)) (by kernel_rfl)) (by kernel_rfl)) j5) (by kernel_rfl)) j_heard) j_enter) j6) j7) (by kernel_rfl)) (by kernel_rfl)) (by kernel_rfl)) (by kernel_rfl)
end scanKeys
theorem _root_.Go.Proofs.Ytciaccjambdmkaa.scanKeys_proved : Ytciaccjambdmkaa.Rows.ScanKeysUptoSaid :=
  OpenClaim.holds_of_cond 4 Try.f4 rfl rfl rfl rfl rfl rfl rfl ⟨rfl, rfl, rfl, rfl, rfl⟩ rfl rfl rfl rfl rfl (by kernel_rfl) Try.func4 scanKeys.jf
    (of_decide_eq_true (by kernel_rfl)) (by unfold Func.isWrapper; first | (rw [if_pos (by decide +kernel)]; kernel_rfl) | (rw [if_neg (by decide +kernel)]; exact ⟨rfl, rfl⟩))
    (fun os started H enc _ F => scanKeys.lifted os started H enc F)
#print axioms Go.Proofs.Ytciaccjambdmkaa.scanKeys_proved
namespace scanColumns
set_option maxRecDepth 100000 in
theorem contract (H : Type) (enc : TypeId × Value → H) (W : World) (base : Nat) (args : Array Value) (ds gs : List (DataW H)) (before : List MemPlace)
    (hval : ∀ (j : Nat) t v, Try.f5.params[j]? = some t → args[j]? = some v → Value.okWide Try.prog W .any base t v)
    (hW : DataW.Whole enc Try.prog Try.f5.params.toList Ytciaccjambdmkaa.Rows.scanColumnsSpec.vars false W args.toList ds gs before) (hk : Ytciaccjambdmkaa.Rows.uptoSmall H (ds ++ gs) = true) :
    Calls Try.prog 5 args W fun e W' => ∃ v, e = .returned v ∧ Ytciaccjambdmkaa.Rows.scanColumnsSpec.post enc Try.prog Try.f5 false true false false W args v W' := by
  have hW' := hW
  obtain ⟨p, q, hA0, hV, rfl, hfz, hnd⟩ := hW
  have hA : DataW.TrodAll enc Try.prog W 0 (fun _ => true) true Try.f5.params.toList args.toList ds p := hA0
  rw [Try.params5] at hA hval
  obtain ⟨v0, vs0, d0, ds0, p0, q0, hargs, rfl, rfl, h0, r0⟩ := trodAll_cons hA
  obtain ⟨v1, vs1, d1, ds1, p1, q1, rfl, rfl, rfl, h1, r1⟩ := trodAll_cons r0
  obtain ⟨v2, vs2, d2, ds2, p2, q2, rfl, rfl, rfl, h2, r2⟩ := trodAll_cons r1
  obtain ⟨rfl, rfl, rfl⟩ := trodAll_nil r2
  obtain ⟨rfl, rfl⟩ := trodVars_none hV
  obtain rfl : args = #[v0, v1, v2] := by cases args; simp_all
  have hb : Ytciaccjambdmkaa.Rows.uptoBulkAll ([d0, d1, d2] ++ []) ≤ 1048576 := of_decide_eq_true hk
  obtain ⟨b0, hb⟩ := small_cons hb
  obtain ⟨b1, hb⟩ := small_cons hb
  obtain ⟨b2, hb⟩ := small_cons hb
  obtain ⟨l, hl, _, rep0⟩ := arg_events (hval 0 22 v0 rfl rfl) h0 b0
  obtain ⟨n, m, _, _, rep1⟩ := arg_two (hval 1 24 v1 rfl rfl) h1 b1
  obtain ⟨r, hs, hw, rep2⟩ := arg_row (hval 2 28 v2 rfl rfl) h2 b2
  refine ((law_ScanColumns l n m r hl hs hw) (allD W) W #[v0, v1, v2] (rel_all W) ⟨rfl, fun i hi => ?_⟩).mono ?_
  · match i, hi with
    | 0, _ => exact rep0
    | 1, _ => exact rep1
    | 2, _ => exact rep2
  · rintro e W' ⟨v, rfl, x, S', D', rfl, _, hrep, hE⟩
    cases hrep with
    | p hrep =>
    cases hrep
    exact ⟨_, rfl, bridge kids full hW' rfl (by rw [Try.params5]; decide) rfl Try.underlying4 rfl rfl rfl hE.still⟩

set_option maxRecDepth 100000 in
theorem lifted (os : Os) (started : os.Started) (H : Type) (enc : TypeId × Value → H) (F : Stop.Interp) :
    ReturnsInHanded {} Try.checked os 5 .any ((Ytciaccjambdmkaa.Rows.OpenSpec.upto Ytciaccjambdmkaa.Rows.scanColumnsSpec).pre6 enc Try.prog Try.f5 Ytciaccjambdmkaa.Rows.scanColumnsUptoRow.domain false) (((Ytciaccjambdmkaa.Rows.OpenSpec.upto Ytciaccjambdmkaa.Rows.scanColumnsSpec).at F).post enc Try.prog Try.f5 false true false false) := by
  refine returnsInHanded_of_cond (C := Try.checked) (s := Ytciaccjambdmkaa.Rows.OpenSpec.upto Ytciaccjambdmkaa.Rows.scanColumnsSpec) (k := Ytciaccjambdmkaa.Rows.uptoSmall) rfl own started (by kernel_rfl) Try.func5
    (OpenSpec.witness (enc := enc) (C := Try.checked) (s := Ytciaccjambdmkaa.Rows.OpenSpec.upto Ytciaccjambdmkaa.Rows.scanColumnsSpec) (k := Ytciaccjambdmkaa.Rows.uptoSmall) rfl false ⟨#[], #[.slice none 0 0, .agg #[.int .u64 0, .int .u64 0], .agg #[.int .u64 0, .int .u64 0, .int .i64 0, .int .i64 0]], []⟩ 12 (by kernel_rfl) (by kernel_rfl) (by kernel_rfl)
      (x := ([.nil, .agg [.lit (.int .u64 0), .lit (.int .u64 0)], .agg [.agg [.lit (.int .u64 0), .lit (.int .u64 0)], .lit (.int .i64 0), .lit (.int .i64 0)]], [], [])) (by kernel_rfl) rfl (by kernel_rfl)) ?_
  intro W base args ds gs before hval hW _ hk _
  exact contract H enc W base args ds gs before hval hW hk

theorem j1 : (Ytciaccjambdmkaa.Rows.scanColumnsUptoRow.inPlace == Try.prog.inPlace 5) = true := by kernel_rfl
theorem j2 : (Ytciaccjambdmkaa.Rows.scanColumnsUptoRow.unfollowed == Try.prog.unfollowed 5) = true := by kernel_rfl
theorem j3 : (Ytciaccjambdmkaa.Rows.scanColumnsUptoRow.recurses == Try.prog.recurses 5) = true := by kernel_rfl
theorem j4 : (Ytciaccjambdmkaa.Rows.scanColumnsUptoRow.named == Try.prog.varsNamed 5) = true := by kernel_rfl
theorem j5 : (Ytciaccjambdmkaa.Rows.scanColumnsUptoRow.plainKeys == Try.prog.plainKeys) = true := by kernel_rfl
theorem j6 : (Ytciaccjambdmkaa.Rows.scanColumnsUptoRow.lifted == Try.prog.liftsFinal) = true := by kernel_rfl
theorem j7 : (Try.prog.make == some Ytciaccjambdmkaa.Rows.scanColumnsUptoRow.make) = true := by kernel_rfl
set_option maxRecDepth 100000 in
theorem jf : joinedFacts Try.prog 5 Try.f5 (Ytciaccjambdmkaa.Rows.OpenSpec.upto Ytciaccjambdmkaa.Rows.scanColumnsSpec).bare Ytciaccjambdmkaa.Rows.scanColumnsUptoRow = true := by
  unfold joinedFacts
  exact and_ok (and_ok (and_ok (and_ok (and_ok (and_ok (and_ok (and_ok (and_ok (and_ok (and_ok (and_ok (and_ok (and_ok (and_ok (and_ok (and_ok (and_ok (and_ok (and_ok (and_ok (and_ok (and_ok (and_ok (and_ok (and_ok (and_ok (and_ok (and_ok (and_ok (and_ok (by kernel_rfl) j_laid) j_maps) (by kernel_rfl)) (by kernel_rfl)) (by kernel_rfl)) (by kernel_rfl)) (by kernel_rfl)) (by kernel_rfl)) j1) j2) j3) j4) (by kernel_rfl)) (by kernel_rfl)) (by kernel_rfl)) (by kernel_rfl)) (by kernel_rfl)) (by kernel_rfl)) (by kernel_rfl)) (by kernel_rfl)) (by kernel_rfl)) j5) (by kernel_rfl)) j_heard) j_enter) j6) j7) (by kernel_rfl)) (by kernel_rfl)) (by kernel_rfl)) (by kernel_rfl)
end scanColumns
theorem _root_.Go.Proofs.Ytciaccjambdmkaa.scanColumns_proved : Ytciaccjambdmkaa.Rows.ScanColumnsUptoSaid :=
  OpenClaim.holds_of_cond 5 Try.f5 rfl rfl rfl rfl rfl rfl rfl ⟨rfl, rfl, rfl, rfl, rfl⟩ rfl rfl rfl rfl rfl (by kernel_rfl) Try.func5 scanColumns.jf
    (of_decide_eq_true (by kernel_rfl)) (by unfold Func.isWrapper; first | (rw [if_pos (by decide +kernel)]; kernel_rfl) | (rw [if_neg (by decide +kernel)]; exact ⟨rfl, rfl⟩))
    (fun os started H enc _ F => scanColumns.lifted os started H enc F)
#print axioms Go.Proofs.Ytciaccjambdmkaa.scanColumns_proved
namespace scanAll
set_option maxRecDepth 100000 in
theorem contract (H : Type) (enc : TypeId × Value → H) (W : World) (base : Nat) (args : Array Value) (ds gs : List (DataW H)) (before : List MemPlace)
    (hval : ∀ (j : Nat) t v, Try.f6.params[j]? = some t → args[j]? = some v → Value.okWide Try.prog W .any base t v)
    (hW : DataW.Whole enc Try.prog Try.f6.params.toList Ytciaccjambdmkaa.Rows.scanAllSpec.vars false W args.toList ds gs before) (hk : Ytciaccjambdmkaa.Rows.uptoSmall H (ds ++ gs) = true) :
    Calls Try.prog 6 args W fun e W' => ∃ v, e = .returned v ∧ Ytciaccjambdmkaa.Rows.scanAllSpec.post enc Try.prog Try.f6 false true false false W args v W' := by
  have hW' := hW
  obtain ⟨p, q, hA0, hV, rfl, hfz, hnd⟩ := hW
  have hA : DataW.TrodAll enc Try.prog W 0 (fun _ => true) true Try.f6.params.toList args.toList ds p := hA0
  rw [Try.params6] at hA hval
  obtain ⟨v0, vs0, d0, ds0, p0, q0, hargs, rfl, rfl, h0, r0⟩ := trodAll_cons hA
  obtain ⟨v1, vs1, d1, ds1, p1, q1, rfl, rfl, rfl, h1, r1⟩ := trodAll_cons r0
  obtain ⟨rfl, rfl, rfl⟩ := trodAll_nil r1
  obtain ⟨rfl, rfl⟩ := trodVars_none hV
  obtain rfl : args = #[v0, v1] := by cases args; simp_all
  have hb : Ytciaccjambdmkaa.Rows.uptoBulkAll ([d0, d1] ++ []) ≤ 1048576 := of_decide_eq_true hk
  obtain ⟨b0, hb⟩ := small_cons hb
  obtain ⟨b1, hb⟩ := small_cons hb
  obtain ⟨l, hl, _, rep0⟩ := arg_events (hval 0 22 v0 rfl rfl) h0 b0
  obtain ⟨n, m, _, _, rep1⟩ := arg_two (hval 1 24 v1 rfl rfl) h1 b1
  refine ((law_ScanAll l n m hl) (allD W) W #[v0, v1] (rel_all W) ⟨rfl, fun i hi => ?_⟩).mono ?_
  · match i, hi with
    | 0, _ => exact rep0
    | 1, _ => exact rep1
  · rintro e W' ⟨v, rfl, x, S', D', rfl, _, hrep, hE⟩
    cases hrep with
    | p hrep =>
    cases hrep
    exact ⟨_, rfl, bridge kids full hW' rfl (by rw [Try.params6]; decide) rfl Try.underlying4 rfl rfl rfl hE.still⟩

set_option maxRecDepth 100000 in
theorem lifted (os : Os) (started : os.Started) (H : Type) (enc : TypeId × Value → H) (F : Stop.Interp) :
    ReturnsInHanded {} Try.checked os 6 .any ((Ytciaccjambdmkaa.Rows.OpenSpec.upto Ytciaccjambdmkaa.Rows.scanAllSpec).pre6 enc Try.prog Try.f6 Ytciaccjambdmkaa.Rows.scanAllUptoRow.domain false) (((Ytciaccjambdmkaa.Rows.OpenSpec.upto Ytciaccjambdmkaa.Rows.scanAllSpec).at F).post enc Try.prog Try.f6 false true false false) := by
  refine returnsInHanded_of_cond (C := Try.checked) (s := Ytciaccjambdmkaa.Rows.OpenSpec.upto Ytciaccjambdmkaa.Rows.scanAllSpec) (k := Ytciaccjambdmkaa.Rows.uptoSmall) rfl own started (by kernel_rfl) Try.func6
    (OpenSpec.witness (enc := enc) (C := Try.checked) (s := Ytciaccjambdmkaa.Rows.OpenSpec.upto Ytciaccjambdmkaa.Rows.scanAllSpec) (k := Ytciaccjambdmkaa.Rows.uptoSmall) rfl false ⟨#[], #[.slice none 0 0, .agg #[.int .u64 0, .int .u64 0]], []⟩ 12 (by kernel_rfl) (by kernel_rfl) (by kernel_rfl)
      (x := ([.nil, .agg [.lit (.int .u64 0), .lit (.int .u64 0)]], [], [])) (by kernel_rfl) rfl (by kernel_rfl)) ?_
  intro W base args ds gs before hval hW _ hk _
  exact contract H enc W base args ds gs before hval hW hk

theorem j1 : (Ytciaccjambdmkaa.Rows.scanAllUptoRow.inPlace == Try.prog.inPlace 6) = true := by kernel_rfl
theorem j2 : (Ytciaccjambdmkaa.Rows.scanAllUptoRow.unfollowed == Try.prog.unfollowed 6) = true := by kernel_rfl
theorem j3 : (Ytciaccjambdmkaa.Rows.scanAllUptoRow.recurses == Try.prog.recurses 6) = true := by kernel_rfl
theorem j4 : (Ytciaccjambdmkaa.Rows.scanAllUptoRow.named == Try.prog.varsNamed 6) = true := by kernel_rfl
theorem j5 : (Ytciaccjambdmkaa.Rows.scanAllUptoRow.plainKeys == Try.prog.plainKeys) = true := by kernel_rfl
theorem j6 : (Ytciaccjambdmkaa.Rows.scanAllUptoRow.lifted == Try.prog.liftsFinal) = true := by kernel_rfl
theorem j7 : (Try.prog.make == some Ytciaccjambdmkaa.Rows.scanAllUptoRow.make) = true := by kernel_rfl
set_option maxRecDepth 100000 in
theorem jf : joinedFacts Try.prog 6 Try.f6 (Ytciaccjambdmkaa.Rows.OpenSpec.upto Ytciaccjambdmkaa.Rows.scanAllSpec).bare Ytciaccjambdmkaa.Rows.scanAllUptoRow = true := by
  unfold joinedFacts
  exact and_ok (and_ok (and_ok (and_ok (and_ok (and_ok (and_ok (and_ok (and_ok (and_ok (and_ok (and_ok (and_ok (and_ok (and_ok (and_ok (and_ok (and_ok (and_ok (and_ok (and_ok (and_ok (and_ok (and_ok (and_ok (and_ok (and_ok (and_ok (and_ok (and_ok (and_ok (by kernel_rfl) j_laid) j_maps) (by kernel_rfl)) (by kernel_rfl)) (by kernel_rfl)) (by kernel_rfl)) (by kernel_rfl)) (by kernel_rfl)) j1) j2) j3) j4) (by kernel_rfl)) (by kernel_rfl)) (by kernel_rfl)) (by kernel_rfl)) (by kernel_rfl)) (by kernel_rfl)) (by kernel_rfl)) (by kernel_rfl)) (by kernel_rfl)) j5) (by kernel_rfl)) j_heard) j_enter) j6) j7) (by kernel_rfl)) (by kernel_rfl)) (by kernel_rfl)) (by kernel_rfl)
end scanAll
theorem _root_.Go.Proofs.Ytciaccjambdmkaa.scanAll_proved : Ytciaccjambdmkaa.Rows.ScanAllUptoSaid :=
  OpenClaim.holds_of_cond 6 Try.f6 rfl rfl rfl rfl rfl rfl rfl ⟨rfl, rfl, rfl, rfl, rfl⟩ rfl rfl rfl rfl rfl (by kernel_rfl) Try.func6 scanAll.jf
    (of_decide_eq_true (by kernel_rfl)) (by unfold Func.isWrapper; first | (rw [if_pos (by decide +kernel)]; kernel_rfl) | (rw [if_neg (by decide +kernel)]; exact ⟨rfl, rfl⟩))
    (fun os started H enc _ F => scanAll.lifted os started H enc F)
#print axioms Go.Proofs.Ytciaccjambdmkaa.scanAll_proved
namespace scanTurns
set_option maxRecDepth 100000 in
theorem contract (H : Type) (enc : TypeId × Value → H) (W : World) (base : Nat) (args : Array Value) (ds gs : List (DataW H)) (before : List MemPlace)
    (hval : ∀ (j : Nat) t v, Try.f7.params[j]? = some t → args[j]? = some v → Value.okWide Try.prog W .any base t v)
    (hW : DataW.Whole enc Try.prog Try.f7.params.toList Ytciaccjambdmkaa.Rows.scanTurnsSpec.vars false W args.toList ds gs before) (hk : Ytciaccjambdmkaa.Rows.uptoSmall H (ds ++ gs) = true) :
    Calls Try.prog 7 args W fun e W' => ∃ v, e = .returned v ∧ Ytciaccjambdmkaa.Rows.scanTurnsSpec.post enc Try.prog Try.f7 false true false false W args v W' := by
  have hW' := hW
  obtain ⟨p, q, hA0, hV, rfl, hfz, hnd⟩ := hW
  have hA : DataW.TrodAll enc Try.prog W 0 (fun _ => true) true Try.f7.params.toList args.toList ds p := hA0
  rw [Try.params7] at hA hval
  obtain ⟨v0, vs0, d0, ds0, p0, q0, hargs, rfl, rfl, h0, r0⟩ := trodAll_cons hA
  obtain ⟨v1, vs1, d1, ds1, p1, q1, rfl, rfl, rfl, h1, r1⟩ := trodAll_cons r0
  obtain ⟨v2, vs2, d2, ds2, p2, q2, rfl, rfl, rfl, h2, r2⟩ := trodAll_cons r1
  obtain ⟨rfl, rfl, rfl⟩ := trodAll_nil r2
  obtain ⟨rfl, rfl⟩ := trodVars_none hV
  obtain rfl : args = #[v0, v1, v2] := by cases args; simp_all
  have hb : Ytciaccjambdmkaa.Rows.uptoBulkAll ([d0, d1, d2] ++ []) ≤ 1048576 := of_decide_eq_true hk
  obtain ⟨b0, hb⟩ := small_cons hb
  obtain ⟨b1, hb⟩ := small_cons hb
  obtain ⟨b2, hb⟩ := small_cons hb
  obtain ⟨l, hl, ll, rep0⟩ := arg_events (hval 0 22 v0 rfl rfl) h0 b0
  obtain ⟨k, hk, kl, rep1⟩ := arg_events (hval 1 22 v1 rfl rfl) h1 b1
  obtain ⟨n, m, hn, _, rep2⟩ := arg_two (hval 2 24 v2 rfl rfl) h2 b2
  refine ((law_ScanTurns l k n m hl hk hn ll kl) (allD W) W #[v0, v1, v2] (rel_all W) ⟨rfl, fun i hi => ?_⟩).mono ?_
  · match i, hi with
    | 0, _ => exact rep0
    | 1, _ => exact rep1
    | 2, _ => exact rep2
  · rintro e W' ⟨v, rfl, x, S', D', rfl, _, hrep, hE⟩
    cases hrep with
    | p hrep =>
    cases hrep
    exact ⟨_, rfl, bridge kids full hW' rfl (by rw [Try.params7]; decide) rfl Try.underlying4 rfl rfl rfl hE.still⟩

set_option maxRecDepth 100000 in
theorem lifted (os : Os) (started : os.Started) (H : Type) (enc : TypeId × Value → H) (F : Stop.Interp) :
    ReturnsInHanded {} Try.checked os 7 .any ((Ytciaccjambdmkaa.Rows.OpenSpec.upto Ytciaccjambdmkaa.Rows.scanTurnsSpec).pre6 enc Try.prog Try.f7 Ytciaccjambdmkaa.Rows.scanTurnsUptoRow.domain false) (((Ytciaccjambdmkaa.Rows.OpenSpec.upto Ytciaccjambdmkaa.Rows.scanTurnsSpec).at F).post enc Try.prog Try.f7 false true false false) := by
  refine returnsInHanded_of_cond (C := Try.checked) (s := Ytciaccjambdmkaa.Rows.OpenSpec.upto Ytciaccjambdmkaa.Rows.scanTurnsSpec) (k := Ytciaccjambdmkaa.Rows.uptoSmall) rfl own started (by kernel_rfl) Try.func7
    (OpenSpec.witness (enc := enc) (C := Try.checked) (s := Ytciaccjambdmkaa.Rows.OpenSpec.upto Ytciaccjambdmkaa.Rows.scanTurnsSpec) (k := Ytciaccjambdmkaa.Rows.uptoSmall) rfl false ⟨#[], #[.slice none 0 0, .slice none 0 0, .agg #[.int .u64 0, .int .u64 0]], []⟩ 12 (by kernel_rfl) (by kernel_rfl) (by kernel_rfl)
      (x := ([.nil, .nil, .agg [.lit (.int .u64 0), .lit (.int .u64 0)]], [], [])) (by kernel_rfl) rfl (by kernel_rfl)) ?_
  intro W base args ds gs before hval hW _ hk _
  exact contract H enc W base args ds gs before hval hW hk

theorem j1 : (Ytciaccjambdmkaa.Rows.scanTurnsUptoRow.inPlace == Try.prog.inPlace 7) = true := by kernel_rfl
theorem j2 : (Ytciaccjambdmkaa.Rows.scanTurnsUptoRow.unfollowed == Try.prog.unfollowed 7) = true := by kernel_rfl
theorem j3 : (Ytciaccjambdmkaa.Rows.scanTurnsUptoRow.recurses == Try.prog.recurses 7) = true := by kernel_rfl
theorem j4 : (Ytciaccjambdmkaa.Rows.scanTurnsUptoRow.named == Try.prog.varsNamed 7) = true := by kernel_rfl
theorem j5 : (Ytciaccjambdmkaa.Rows.scanTurnsUptoRow.plainKeys == Try.prog.plainKeys) = true := by kernel_rfl
theorem j6 : (Ytciaccjambdmkaa.Rows.scanTurnsUptoRow.lifted == Try.prog.liftsFinal) = true := by kernel_rfl
theorem j7 : (Try.prog.make == some Ytciaccjambdmkaa.Rows.scanTurnsUptoRow.make) = true := by kernel_rfl
set_option maxRecDepth 100000 in
theorem jf : joinedFacts Try.prog 7 Try.f7 (Ytciaccjambdmkaa.Rows.OpenSpec.upto Ytciaccjambdmkaa.Rows.scanTurnsSpec).bare Ytciaccjambdmkaa.Rows.scanTurnsUptoRow = true := by
  unfold joinedFacts
  exact and_ok (and_ok (and_ok (and_ok (and_ok (and_ok (and_ok (and_ok (and_ok (and_ok (and_ok (and_ok (and_ok (and_ok (and_ok (and_ok (and_ok (and_ok (and_ok (and_ok (and_ok (and_ok (and_ok (and_ok (and_ok (and_ok (and_ok (and_ok (and_ok (and_ok (and_ok (by kernel_rfl) j_laid) j_maps) (by kernel_rfl)) (by kernel_rfl)) (by kernel_rfl)) (by kernel_rfl)) (by kernel_rfl)) (by kernel_rfl)) j1) j2) j3) j4) (by kernel_rfl)) (by kernel_rfl)) (by kernel_rfl)) (by kernel_rfl)) (by kernel_rfl)) (by kernel_rfl)) (by kernel_rfl)) (by kernel_rfl)) (by kernel_rfl)) j5) (by kernel_rfl)) j_heard) j_enter) j6) j7) (by kernel_rfl)) (by kernel_rfl)) (by kernel_rfl)) (by kernel_rfl)
end scanTurns
theorem _root_.Go.Proofs.Ytciaccjambdmkaa.scanTurns_proved : Ytciaccjambdmkaa.Rows.ScanTurnsUptoSaid :=
  OpenClaim.holds_of_cond 7 Try.f7 rfl rfl rfl rfl rfl rfl rfl ⟨rfl, rfl, rfl, rfl, rfl⟩ rfl rfl rfl rfl rfl (by kernel_rfl) Try.func7 scanTurns.jf
    (of_decide_eq_true (by kernel_rfl)) (by unfold Func.isWrapper; first | (rw [if_pos (by decide +kernel)]; kernel_rfl) | (rw [if_neg (by decide +kernel)]; exact ⟨rfl, rfl⟩))
    (fun os started H enc _ F => scanTurns.lifted os started H enc F)
#print axioms Go.Proofs.Ytciaccjambdmkaa.scanTurns_proved
end Go.Sk
