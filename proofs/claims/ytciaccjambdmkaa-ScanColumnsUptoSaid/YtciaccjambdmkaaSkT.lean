/- What the walks ask of the types of this program. -/
import Derived.Test.YtciaccjambdmkaaSkW
import Derived.Test.YtciaccjambdmkaaProg
import Derived.KernelRfl
set_option linter.unusedSimpArgs false
set_option linter.unusedVariables false
set_option linter.unusedSectionVars false
namespace Go.Sk
open Go Go.Proofs

theorem ti3 : TI Try.prog 3 = some (false, 1, [.p (.int .i64 0)], 8) := by kernel_rfl
theorem ti4 : TI Try.prog 4 = some (false, 1, [.p (.bool false)], 1) := by kernel_rfl
theorem ti8 : TI Try.prog 8 = some (true, 4, [.p (.int .i64 0), .p (.int .i64 0), .p (.bool false), .p (.int .u8 ((0 : Nat) : Int))], 24) := by kernel_rfl
theorem ti9 : TI Try.prog 9 = some (false, 1, [.p (.str .empty)], 16) := by kernel_rfl
theorem ti10 : TI Try.prog 10 = some (false, 1, [.p (.str .empty)], 16) := by kernel_rfl
theorem ti11 : TI Try.prog 11 = some (false, 1, [.p (.str .empty)], 16) := by kernel_rfl
theorem ti14 : TI Try.prog 14 = some (true, 2, [.p (.str .empty), .p (.int .u64 ((0 : Nat) : Int))], 24) := by kernel_rfl
theorem ti15 : TI Try.prog 15 = some (false, 1, [.nilp], 8) := by kernel_rfl
theorem ti16 : TI Try.prog 16 = some (false, 1, [.nilp], 8) := by kernel_rfl
theorem ti17 : TI Try.prog 17 = some (false, 1, [.nilp], 8) := by kernel_rfl
theorem ti19 : TI Try.prog 19 = some (true, 1, [.nilp], 8) := by kernel_rfl
theorem ti22 : TI Try.prog 22 = some (false, 1, [.nils], 24) := by kernel_rfl
theorem ti23 : TI Try.prog 23 = some (false, 1, [.p (.int .u64 ((0 : Nat) : Int))], 8) := by kernel_rfl
theorem ti24 : TI Try.prog 24 = some (true, 2, [.p (.int .u64 ((0 : Nat) : Int)), .p (.int .u64 ((0 : Nat) : Int))], 16) := by kernel_rfl
theorem ti26 : TI Try.prog 26 = some (true, 2, [.p (.int .u64 ((0 : Nat) : Int)), .p (.int .u64 ((0 : Nat) : Int))], 16) := by kernel_rfl
theorem ti28 : TI Try.prog 28 = some (true, 4, [.p (.int .u64 ((0 : Nat) : Int)), .p (.int .u64 ((0 : Nat) : Int)), .p (.int .i64 0), .p (.int .i64 0)], 32) := by kernel_rfl
theorem ti35 : TI Try.prog 35 = some (false, 1, [.nils], 24) := by kernel_rfl
theorem ti39 : TI Try.prog 39 = some (true, 2, [.p (.int .u64 ((0 : Nat) : Int)), .p (.int .u64 ((0 : Nat) : Int))], 16) := by kernel_rfl
theorem ti44 : TI Try.prog 44 = some (true, 3, [.p (.int .u64 ((0 : Nat) : Int)), .p (.int .u64 ((0 : Nat) : Int)), .p (.int .u64 ((0 : Nat) : Int))], 24) := by kernel_rfl
theorem ti46 : TI Try.prog 46 = some (false, 1, [.nilf], 8) := by kernel_rfl
theorem ti48 : TI Try.prog 48 = some (false, 1, [.nilf], 8) := by kernel_rfl
theorem ti53 : TI Try.prog 53 = some (false, 1, [.nilf], 8) := by kernel_rfl
theorem ti61 : TI Try.prog 61 = some (false, 1, [.p (.int .u64 ((0 : Nat) : Int))], 8) := by kernel_rfl
theorem ti68 : TI Try.prog 68 = some (false, 1, [.p (.int .i64 0)], 8) := by kernel_rfl
theorem ti76 : TI Try.prog 76 = some (false, 1, [.p (.int .u32 ((0 : Nat) : Int))], 4) := by kernel_rfl
theorem ti78 : TI Try.prog 78 = some (false, 1, [.nils], 24) := by kernel_rfl
theorem ti80 : TI Try.prog 80 = some (false, 1, [.p (.int .u64 ((0 : Nat) : Int))], 8) := by kernel_rfl
theorem ti84 : TI Try.prog 84 = some (false, 1, [.nilp], 8) := by kernel_rfl
theorem ti86 : TI Try.prog 86 = some (false, 1, [.nilp], 8) := by kernel_rfl
theorem ti97 : TI Try.prog 97 = some (false, 1, [.p (.int .u8 ((0 : Nat) : Int))], 1) := by kernel_rfl
theorem fi26_0 : FI Try.prog 26 0 = some (0, 1, false) := by kernel_rfl
theorem fi26_1 : FI Try.prog 26 1 = some (1, 1, false) := by kernel_rfl
theorem fi28_0 : FI Try.prog 28 0 = some (0, 2, true) := by kernel_rfl
theorem fi28_1 : FI Try.prog 28 1 = some (2, 1, false) := by kernel_rfl
theorem fi28_2 : FI Try.prog 28 2 = some (3, 1, false) := by kernel_rfl
theorem fi39_0 : FI Try.prog 39 0 = some (0, 1, false) := by kernel_rfl
theorem fi39_1 : FI Try.prog 39 1 = some (1, 1, false) := by kernel_rfl
theorem fi44_0 : FI Try.prog 44 0 = some (0, 1, false) := by kernel_rfl
theorem fi44_1 : FI Try.prog 44 1 = some (1, 1, false) := by kernel_rfl
theorem fi44_2 : FI Try.prog 44 2 = some (2, 1, false) := by kernel_rfl
theorem xi22 : XI Try.prog 22 = some (none, 3, 44) := by kernel_rfl
theorem xi24 : XI Try.prog 24 = some (some 2, 1, 23) := by kernel_rfl
theorem xi35 : XI Try.prog 35 = some (none, 2, 39) := by kernel_rfl
theorem xi78 : XI Try.prog 78 = some (none, 1, 23) := by kernel_rfl
theorem bi26 : BI Try.prog 26 = some (.st [(0, 1), (1, 1)]) := by kernel_rfl
theorem bi39 : BI Try.prog 39 = some (.st [(0, 1), (1, 1)]) := by kernel_rfl
theorem bi44 : BI Try.prog 44 = some (.st [(0, 1), (1, 1), (2, 1)]) := by kernel_rfl
theorem eq26 : EQ Try.prog 26 = some 2 := by kernel_rfl
theorem eq39 : EQ Try.prog 39 = some 2 := by kernel_rfl
attribute [go_sem] ti3 ti4 ti8 ti9 ti10 ti11 ti14 ti15 ti16 ti17 ti19 ti22 ti23 ti24 ti26 ti28 ti35 ti39 ti44 ti46 ti48 ti53 ti61 ti68 ti76 ti78 ti80 ti84 ti86 ti97 fi26_0 fi26_1 fi28_0 fi28_1 fi28_2 fi39_0 fi39_1 fi44_0 fi44_1 fi44_2 xi22 xi24 xi35 xi78 bi26 bi39 bi44 eq26 eq39 Try.underlying3 Try.underlying5 Try.underlying9 Try.underlying22 Try.underlying23 Try.underlying24 Try.underlying26 Try.underlying28 Try.underlying35 Try.underlying39 Try.underlying44 Try.underlying46 Try.underlying48 Try.underlying50 Try.underlying53 Try.underlying61 Try.underlying68 Try.underlying76 Try.underlying78 Try.underlying80 Try.underlying84
attribute [go_sem] Try.ntmps0 Try.results0 Try.ntmps1 Try.results1 Try.ntmps2 Try.results2 Try.ntmps3 Try.results3 Try.ntmps4 Try.results4 Try.ntmps5 Try.results5 Try.ntmps6 Try.results6 Try.ntmps7 Try.results7 Try.ntmps8 Try.results8 Try.ntmps9 Try.results9 Try.ntmps10 Try.results10 Try.ntmps11 Try.results11 Try.ntmps12 Try.results12 Try.ntmps13 Try.results13 Try.ntmps14 Try.results14 Try.ntmps15 Try.results15 Try.ntmps16 Try.results16 Try.ntmps17 Try.results17 Try.ntmps18 Try.results18 Try.ntmps19 Try.results19 Try.ntmps20 Try.results20 Try.ntmps21 Try.results21 Try.ntmps22 Try.results22 Try.ntmps23 Try.results23 Try.ntmps24 Try.results24 Try.ntmps25 Try.results25 Try.ntmps26 Try.results26 Try.ntmps27 Try.results27 Try.ntmps28 Try.results28 Try.ntmps29 Try.results29 Try.ntmps30 Try.results30 Try.ntmps31 Try.results31 Try.ntmps32 Try.results32 Try.ntmps33 Try.results33 Try.ntmps34 Try.results34 Try.ntmps35 Try.results35 Try.ntmps36 Try.results36 Try.ntmps37 Try.results37 Try.ntmps38 Try.results38 Try.ntmps39 Try.results39 Try.ntmps40 Try.results40 Try.ntmps41 Try.results41 Try.ntmps42 Try.results42 Try.ntmps43 Try.results43 Try.ntmps44 Try.results44 Try.ntmps45 Try.results45 Try.ntmps46 Try.results46 Try.ntmps47 Try.results47 Try.ntmps48 Try.results48 Try.ntmps49 Try.results49 Try.ntmps50 Try.results50 Try.ntmps51 Try.results51 Try.ntmps52 Try.results52 Try.ntmps53 Try.results53 Try.ntmps54 Try.results54 Try.ntmps55 Try.results55 Try.ntmps56 Try.results56 Try.ntmps57 Try.results57 Try.ntmps58 Try.results58 Try.ntmps59 Try.results59 Try.ntmps60 Try.results60 Try.ntmps61 Try.results61 Try.ntmps62 Try.results62 Try.ntmps63 Try.results63 Try.ntmps64 Try.results64 Try.ntmps65 Try.results65 Try.ntmps66 Try.results66 Try.ntmps67 Try.results67 Try.ntmps68 Try.results68 Try.ntmps69 Try.results69 Try.ntmps70 Try.results70 Try.ntmps71 Try.results71 Try.ntmps72 Try.results72 Try.ntmps73 Try.results73 Try.ntmps74 Try.results74 Try.ntmps75 Try.results75 Try.ntmps76 Try.results76 Try.ntmps77 Try.results77 Try.ntmps78 Try.results78 Try.ntmps79 Try.results79 Try.ntmps80 Try.results80
end Go.Sk
