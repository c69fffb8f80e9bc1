/- What all laws of a seat share: the program's facts, and how arguments are read. -/
import Derived.Test.YtmpockfgppcnbaaW0
import Derived.Test.YtmpockfgppcnbaaSkBr
import Derived.Test.YtmpockfgppcnbaaRows
import Derived.WalkKit
import Derived.ProofKit
import Derived.OpenShut
import Derived.JoinedCond
set_option linter.unusedSimpArgs false
set_option linter.unusedVariables false
set_option linter.unusedSectionVars false
namespace Go.Sk
open Go Go.Proofs Go.ChangeShapes Go.WideShapes Go.ChangeAt Go.RowKit

theorem bulkOk (H : Type) : BulkOk (H := H) Ytmpockfgppcnbaa.Rows.uptoBulk Ytmpockfgppcnbaa.Rows.uptoBulkAll where
  cons := fun d r => by simp [Ytmpockfgppcnbaa.Rows.uptoBulkAll]
  slice := fun e s => by simp [Ytmpockfgppcnbaa.Rows.uptoBulk]
  agg := fun p => by simp [Ytmpockfgppcnbaa.Rows.uptoBulk]
  str := fun s => by simp [Ytmpockfgppcnbaa.Rows.uptoBulk]
  one := fun d => by
    cases d with
    | lit l => cases l <;> simp [Ytmpockfgppcnbaa.Rows.uptoBulk]
    | _ => simp [Ytmpockfgppcnbaa.Rows.uptoBulk]
theorem own : ownKnob Try.prog.godebug = none := by kernel_rfl
theorem kids : Kids Try.prog (· < Try.prog.types.size) := kids_rows (by kernel_rfl) (by kernel_rfl)
theorem full : ∀ t e, t < Try.prog.types.size → Try.prog.underlying t = some (.slice e) → 0 < Try.prog.cellsOf e := slices_full_of Try.prog (by kernel_rfl)
theorem small_cons {H : Type} {d : DataW H} {r : List (DataW H)} {N : Nat} (h : Ytmpockfgppcnbaa.Rows.uptoBulkAll (d :: r) ≤ N) : Ytmpockfgppcnbaa.Rows.uptoBulk d ≤ N ∧ Ytmpockfgppcnbaa.Rows.uptoBulkAll r ≤ N := by
  simp only [Ytmpockfgppcnbaa.Rows.uptoBulkAll] at h; omega

theorem fit_u64 {N : Nat} {pv : PV} (h : Fit N (.int .u64) pv) : ∃ n : Nat, n < 18446744073709551616 ∧ pv = .int .u64 n := by
  cases h with
  | int k n h1 h2 =>
    have e1 : IntKind.u64.min = 0 := rfl
    have e2 : IntKind.u64.max = 18446744073709551615 := rfl
    rw [e1] at h1; rw [e2] at h2
    exact ⟨n.toNat, by omega, by rw [Int.toNat_of_nonneg h1]⟩
theorem fit_u8 {N : Nat} {pv : PV} (h : Fit N (.int .u8) pv) : ∃ n : Nat, n < 256 ∧ pv = .int .u8 n := by
  cases h with
  | int k n h1 h2 =>
    have e1 : IntKind.u8.min = 0 := rfl
    have e2 : IntKind.u8.max = 255 := rfl
    rw [e1] at h1; rw [e2] at h2
    exact ⟨n.toNat, by omega, by rw [Int.toNat_of_nonneg h1]⟩
theorem fit_i64 {N : Nat} {pv : PV} (h : Fit N (.int .i64) pv) : ∃ n : Int, (-9223372036854775808 ≤ n ∧ n < 9223372036854775808) ∧ pv = .int .i64 n := by
  cases h with
  | int k n h1 h2 =>
    have e1 : IntKind.i64.min = -9223372036854775808 := rfl
    have e2 : IntKind.i64.max = 9223372036854775807 := rfl
    rw [e1] at h1; rw [e2] at h2
    exact ⟨n, ⟨h1, by omega⟩, rfl⟩
/-- A list of elements, each of them something. -/
theorem fit_list {α : Type} {N : Nat} {el : List Sh} {pv : PV} {pvf : α → List PV} {ok : α → Prop} (h : Fit N (.sl el) pv)
    (ho : ∀ l : List PV, l.length = el.length → (∀ j, j < el.length → Fit N (el.getD j .bool) (l.getD j default)) → ∃ x, l = pvf x ∧ ok x) :
    ∃ l : List α, pv = .sl (l.map pvf) ∧ (∀ x ∈ l, ok x) ∧ l.length ≤ N := by
  cases h with
  | sl _ els hN hl hf =>
    have key : ∀ els : List (List PV), (∀ e ∈ els, e.length = el.length) → (∀ i j, i < els.length → j < el.length → Fit N (el.getD j .bool) ((els.getD i []).getD j default)) → ∃ l : List α, els = l.map pvf ∧ ∀ x ∈ l, ok x := by
      intro els
      induction els with
      | nil => intro _ _; exact ⟨[], rfl, fun x hx => by cases hx⟩
      | cons e r ih =>
        intro h1 h2
        obtain ⟨x, hx, hk⟩ := ho e (h1 e List.mem_cons_self) (fun j hj => by have := h2 0 j (by simp) hj; simpa using this)
        obtain ⟨l, hl, hlk⟩ := ih (fun e he => h1 e (List.mem_cons_of_mem _ he)) (fun i j hi hj => by have := h2 (i + 1) j (by simpa using hi) hj; simpa using this)
        exact ⟨x :: l, by rw [hx, hl]; rfl, fun y hy => by
          rcases List.mem_cons.1 hy with rfl | hy
          · exact hk
          · exact hlk y hy⟩
    obtain ⟨l, rfl, hk⟩ := key els hl hf
    exact ⟨l, rfl, hk, by simpa using hN⟩
/-- Cells, each of them something. -/
theorem fit_two {N : Nat} {a b : Sh} {l : List PV} (hl : l.length = [a, b].length) (hf : ∀ j, j < [a, b].length → Fit N ([a, b].getD j .bool) (l.getD j default)) : ∃ x y, l = [x, y] ∧ Fit N a x ∧ Fit N b y := by
  match l, hl with
  | [x, y], _ => exact ⟨x, y, rfl, by simpa using hf 0 (by simp), by simpa using hf 1 (by simp)⟩
theorem fit_one {N : Nat} {a : Sh} {l : List PV} (hl : l.length = [a].length) (hf : ∀ j, j < [a].length → Fit N ([a].getD j .bool) (l.getD j default)) : ∃ x, l = [x] ∧ Fit N a x := by
  match l, hl with
  | [x], _ => exact ⟨x, rfl, by simpa using hf 0 (by simp)⟩
theorem fit_three {N : Nat} {a b c : Sh} {l : List PV} (hl : l.length = [a, b, c].length) (hf : ∀ j, j < [a, b, c].length → Fit N ([a, b, c].getD j .bool) (l.getD j default)) : ∃ x y z, l = [x, y, z] ∧ Fit N a x ∧ Fit N b y ∧ Fit N c z := by
  match l, hl with
  | [x, y, z], _ => exact ⟨x, y, z, rfl, by simpa using hf 0 (by simp), by simpa using hf 1 (by simp), by simpa using hf 2 (by simp)⟩

section
variable {H : Type} {enc : TypeId × Value → H}
set_option maxRecDepth 100000 in
theorem arg_u64 {W : World} {base N : Nat} {v : Value} {d : DataW H} {p : List MemPlace} (hok : Value.okWide Try.prog W .any base 41 v) (h : DataW.Trod enc Try.prog W 0 (fun _ => true) true 41 v d p) (hN : Ytmpockfgppcnbaa.Rows.uptoBulk d ≤ N) :
    ∃ n : Nat, n < 18446744073709551616 ∧ RepA (allD W) W v (u64 n) := by
  obtain ⟨n, rfl⟩ := okWide_int Try.underlying41 hok
  obtain ⟨pv, hf, hr⟩ := arg_one (N := N) (f := 8) (bulkOk H) (show shOf Try.prog 8 41 = some [.int .u64] by kernel_rfl) (fun c h => by cases h) h hN
  obtain ⟨n, h1, rfl⟩ := fit_u64 hf
  exact ⟨n, h1, hr⟩
set_option maxRecDepth 100000 in
theorem arg_i64 {W : World} {base N : Nat} {v : Value} {d : DataW H} {p : List MemPlace} (hok : Value.okWide Try.prog W .any base 3 v) (h : DataW.Trod enc Try.prog W 0 (fun _ => true) true 3 v d p) (hN : Ytmpockfgppcnbaa.Rows.uptoBulk d ≤ N) :
    ∃ n : Int, (-9223372036854775808 ≤ n ∧ n < 9223372036854775808) ∧ RepA (allD W) W v (i64 n) := by
  obtain ⟨n, rfl⟩ := okWide_int Try.underlying3 hok
  obtain ⟨pv, hf, hr⟩ := arg_one (N := N) (f := 8) (bulkOk H) (show shOf Try.prog 8 3 = some [.int .i64] by kernel_rfl) (fun c h => by cases h) h hN
  obtain ⟨n, h1, rfl⟩ := fit_i64 hf
  exact ⟨n, h1, hr⟩
end

theorem and_ok {a b : Bool} (h : a = true) (k : b = true) : (a && b) = true := by rw [h, k]; rfl
theorem j_laid : laidOutB Try.prog = true := by kernel_rfl
theorem j_maps : mapsRowed Try.prog = true := by kernel_rfl
theorem j_heard : Try.prog.stopsHeard = true := by kernel_rfl
theorem j_enter : Try.prog.mayEnter = true := by kernel_rfl
end Go.Sk
