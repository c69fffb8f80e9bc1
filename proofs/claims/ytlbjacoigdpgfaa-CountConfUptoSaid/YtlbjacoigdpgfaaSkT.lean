/- What the walks ask of the types of this program. -/
import Derived.Test.YtlbjacoigdpgfaaSkW
import Derived.Test.YtlbjacoigdpgfaaProg
import Derived.KernelRfl
set_option linter.unusedSimpArgs false
set_option linter.unusedVariables false
set_option linter.unusedSectionVars false
namespace Go.Sk
open Go Go.Proofs

theorem ti3 : TI Try.prog 3 = some (false, 1, [.p (.int .i64 0)], 8) := by kernel_rfl
theorem ti4 : TI Try.prog 4 = some (false, 1, [.p (.bool false)], 1) := by kernel_rfl
theorem ti8 : TI Try.prog 8 = some (true, 4, [.p (.int .i64 0), .p (.int .i64 0), .p (.bool false), .p (.int .u8 ((0 : Nat) : Int))], 24) := by kernel_rfl
theorem ti9 : TI Try.prog 9 = some (false, 1, [.p (.str .empty)], 16) := by kernel_rfl
theorem ti10 : TI Try.prog 10 = some (false, 1, [.p (.str .empty)], 16) := by kernel_rfl
theorem ti11 : TI Try.prog 11 = some (false, 1, [.p (.str .empty)], 16) := by kernel_rfl
theorem ti14 : TI Try.prog 14 = some (true, 2, [.p (.str .empty), .p (.int .u64 ((0 : Nat) : Int))], 24) := by kernel_rfl
theorem ti15 : TI Try.prog 15 = some (false, 1, [.nilp], 8) := by kernel_rfl
theorem ti16 : TI Try.prog 16 = some (false, 1, [.nilp], 8) := by kernel_rfl
theorem ti17 : TI Try.prog 17 = some (false, 1, [.nilp], 8) := by kernel_rfl
theorem ti19 : TI Try.prog 19 = some (true, 1, [.nilp], 8) := by kernel_rfl
theorem ti22 : TI Try.prog 22 = some (false, 1, [.p (.int .u64 ((0 : Nat) : Int))], 8) := by kernel_rfl
theorem ti23 : TI Try.prog 23 = some (true, 3, [.p (.int .u64 ((0 : Nat) : Int)), .p (.int .u64 ((0 : Nat) : Int)), .p (.int .u64 ((0 : Nat) : Int))], 24) := by kernel_rfl
theorem ti24 : TI Try.prog 24 = some (false, 1, [.nils], 24) := by kernel_rfl
theorem ti26 : TI Try.prog 26 = some (false, 1, [.nils], 24) := by kernel_rfl
theorem ti28 : TI Try.prog 28 = some (true, 5, [.p (.int .u64 ((0 : Nat) : Int)), .p (.int .i64 0), .p (.int .u64 ((0 : Nat) : Int)), .p (.int .u64 ((0 : Nat) : Int)), .nils], 56) := by kernel_rfl
theorem ti29 : TI Try.prog 29 = some (false, 1, [.nils], 24) := by kernel_rfl
theorem ti31 : TI Try.prog 31 = some (true, 3, [.p (.int .i64 0), .p (.int .i64 0), .nils], 40) := by kernel_rfl
theorem ti33 : TI Try.prog 33 = some (true, 9, [.p (.int .u64 ((0 : Nat) : Int)), .p (.int .u64 ((0 : Nat) : Int)), .p (.int .i64 0), .p (.int .u64 ((0 : Nat) : Int)), .p (.int .u64 ((0 : Nat) : Int)), .nils, .p (.int .i64 0), .p (.int .i64 0), .nils], 104) := by kernel_rfl
theorem ti34 : TI Try.prog 34 = some (false, 1, [.p (.int .i64 0)], 8) := by kernel_rfl
theorem ti39 : TI Try.prog 39 = some (true, 5, [.p (.int .u64 ((0 : Nat) : Int)), .p (.int .i64 0), .p (.int .u64 ((0 : Nat) : Int)), .p (.int .u64 ((0 : Nat) : Int)), .nils], 56) := by kernel_rfl
theorem ti40 : TI Try.prog 40 = some (true, 3, [.p (.int .i64 0), .p (.int .i64 0), .nils], 40) := by kernel_rfl
theorem ti42 : TI Try.prog 42 = some (true, 9, [.p (.int .u64 ((0 : Nat) : Int)), .p (.int .u64 ((0 : Nat) : Int)), .p (.int .i64 0), .p (.int .u64 ((0 : Nat) : Int)), .p (.int .u64 ((0 : Nat) : Int)), .nils, .p (.int .i64 0), .p (.int .i64 0), .nils], 104) := by kernel_rfl
theorem ti53 : TI Try.prog 53 = some (true, 2, [.p (.int .u64 ((0 : Nat) : Int)), .p (.int .u64 ((0 : Nat) : Int))], 16) := by kernel_rfl
theorem ti55 : TI Try.prog 55 = some (true, 3, [.p (.int .u64 ((0 : Nat) : Int)), .p (.int .u64 ((0 : Nat) : Int)), .p (.int .u64 ((0 : Nat) : Int))], 24) := by kernel_rfl
theorem ti57 : TI Try.prog 57 = some (true, 3, [.p (.int .u64 ((0 : Nat) : Int)), .p (.int .u64 ((0 : Nat) : Int)), .p (.int .u64 ((0 : Nat) : Int))], 24) := by kernel_rfl
theorem ti91 : TI Try.prog 91 = some (false, 1, [.nilf], 8) := by kernel_rfl
theorem ti93 : TI Try.prog 93 = some (false, 1, [.nilf], 8) := by kernel_rfl
theorem ti109 : TI Try.prog 109 = some (false, 1, [.nils], 24) := by kernel_rfl
theorem ti110 : TI Try.prog 110 = some (false, 1, [.nils], 24) := by kernel_rfl
theorem ti113 : TI Try.prog 113 = some (false, 1, [.nilf], 8) := by kernel_rfl
theorem ti114 : TI Try.prog 114 = some (false, 1, [.nilf], 8) := by kernel_rfl
theorem ti116 : TI Try.prog 116 = some (false, 1, [.nilf], 8) := by kernel_rfl
theorem ti119 : TI Try.prog 119 = some (true, 2, [.p (.int .u64 ((0 : Nat) : Int)), .p (.int .u64 ((0 : Nat) : Int))], 16) := by kernel_rfl
theorem ti129 : TI Try.prog 129 = some (false, 1, [.nilp], 8) := by kernel_rfl
theorem ti134 : TI Try.prog 134 = some (false, 1, [.nilf], 8) := by kernel_rfl
theorem ti137 : TI Try.prog 137 = some (false, 1, [.nils], 24) := by kernel_rfl
theorem ti140 : TI Try.prog 140 = some (false, 1, [.nilf], 8) := by kernel_rfl
theorem ti147 : TI Try.prog 147 = some (false, 1, [.nilf], 8) := by kernel_rfl
theorem ti148 : TI Try.prog 148 = some (false, 1, [.nilp], 8) := by kernel_rfl
theorem ti150 : TI Try.prog 150 = some (true, 3, [.nils, .p (.int .u64 ((0 : Nat) : Int)), .p (.int .u64 ((0 : Nat) : Int))], 40) := by kernel_rfl
theorem ti151 : TI Try.prog 151 = some (true, 2, [.nils, .nils], 48) := by kernel_rfl
theorem ti165 : TI Try.prog 165 = some (false, 1, [.p (.int .u8 ((0 : Nat) : Int))], 1) := by kernel_rfl
theorem fi28_0 : FI Try.prog 28 0 = some (0, 1, false) := by kernel_rfl
theorem fi28_1 : FI Try.prog 28 1 = some (1, 1, false) := by kernel_rfl
theorem fi28_2 : FI Try.prog 28 2 = some (2, 1, false) := by kernel_rfl
theorem fi28_3 : FI Try.prog 28 3 = some (3, 1, false) := by kernel_rfl
theorem fi28_4 : FI Try.prog 28 4 = some (4, 1, false) := by kernel_rfl
theorem fi31_0 : FI Try.prog 31 0 = some (0, 1, false) := by kernel_rfl
theorem fi31_1 : FI Try.prog 31 1 = some (1, 1, false) := by kernel_rfl
theorem fi31_2 : FI Try.prog 31 2 = some (2, 1, false) := by kernel_rfl
theorem fi33_0 : FI Try.prog 33 0 = some (0, 1, false) := by kernel_rfl
theorem fi33_1 : FI Try.prog 33 1 = some (1, 5, true) := by kernel_rfl
theorem fi33_2 : FI Try.prog 33 2 = some (6, 3, true) := by kernel_rfl
theorem fi39_0 : FI Try.prog 39 0 = some (0, 1, false) := by kernel_rfl
theorem fi39_1 : FI Try.prog 39 1 = some (1, 1, false) := by kernel_rfl
theorem fi39_2 : FI Try.prog 39 2 = some (2, 1, false) := by kernel_rfl
theorem fi39_3 : FI Try.prog 39 3 = some (3, 1, false) := by kernel_rfl
theorem fi39_4 : FI Try.prog 39 4 = some (4, 1, false) := by kernel_rfl
theorem fi40_0 : FI Try.prog 40 0 = some (0, 1, false) := by kernel_rfl
theorem fi40_1 : FI Try.prog 40 1 = some (1, 1, false) := by kernel_rfl
theorem fi40_2 : FI Try.prog 40 2 = some (2, 1, false) := by kernel_rfl
theorem fi42_0 : FI Try.prog 42 0 = some (0, 1, false) := by kernel_rfl
theorem fi42_1 : FI Try.prog 42 1 = some (1, 5, true) := by kernel_rfl
theorem fi42_2 : FI Try.prog 42 2 = some (6, 3, true) := by kernel_rfl
theorem fi55_0 : FI Try.prog 55 0 = some (0, 1, false) := by kernel_rfl
theorem fi55_2 : FI Try.prog 55 2 = some (2, 1, false) := by kernel_rfl
theorem fi57_0 : FI Try.prog 57 0 = some (0, 3, true) := by kernel_rfl
theorem fi119_0 : FI Try.prog 119 0 = some (0, 1, false) := by kernel_rfl
theorem fi119_1 : FI Try.prog 119 1 = some (1, 1, false) := by kernel_rfl
theorem fi150_0 : FI Try.prog 150 0 = some (0, 1, false) := by kernel_rfl
theorem fi150_1 : FI Try.prog 150 1 = some (1, 1, false) := by kernel_rfl
theorem fi150_2 : FI Try.prog 150 2 = some (2, 1, false) := by kernel_rfl
theorem xi23 : XI Try.prog 23 = some (some 3, 1, 22) := by kernel_rfl
theorem xi24 : XI Try.prog 24 = some (none, 3, 57) := by kernel_rfl
theorem xi26 : XI Try.prog 26 = some (none, 3, 55) := by kernel_rfl
theorem xi29 : XI Try.prog 29 = some (none, 1, 110) := by kernel_rfl
theorem xi53 : XI Try.prog 53 = some (some 2, 1, 22) := by kernel_rfl
theorem xi109 : XI Try.prog 109 = some (none, 1, 22) := by kernel_rfl
theorem xi110 : XI Try.prog 110 = some (none, 2, 119) := by kernel_rfl
theorem xi137 : XI Try.prog 137 = some (none, 1, 26) := by kernel_rfl
theorem xi151 : XI Try.prog 151 = some (some 2, 1, 110) := by kernel_rfl
theorem bi28 : BI Try.prog 28 = some (.st [(0, 1), (1, 1), (2, 1), (3, 1), (4, 1)]) := by kernel_rfl
theorem bi31 : BI Try.prog 31 = some (.st [(0, 1), (1, 1), (2, 1)]) := by kernel_rfl
theorem bi33 : BI Try.prog 33 = some (.st [(0, 1), (1, 5), (6, 3)]) := by kernel_rfl
theorem bi39 : BI Try.prog 39 = some (.st [(0, 1), (1, 1), (2, 1), (3, 1), (4, 1)]) := by kernel_rfl
theorem bi40 : BI Try.prog 40 = some (.st [(0, 1), (1, 1), (2, 1)]) := by kernel_rfl
theorem bi42 : BI Try.prog 42 = some (.st [(0, 1), (1, 5), (6, 3)]) := by kernel_rfl
theorem bi55 : BI Try.prog 55 = some (.st [(0, 1), (1, 1), (2, 1)]) := by kernel_rfl
theorem bi119 : BI Try.prog 119 = some (.st [(0, 1), (1, 1)]) := by kernel_rfl
theorem bi150 : BI Try.prog 150 = some (.st [(0, 1), (1, 1), (2, 1)]) := by kernel_rfl
theorem bi151 : BI Try.prog 151 = some (.ar 1) := by kernel_rfl
theorem eq55 : EQ Try.prog 55 = some 3 := by kernel_rfl
theorem eq119 : EQ Try.prog 119 = some 2 := by kernel_rfl
attribute [go_sem] ti3 ti4 ti8 ti9 ti10 ti11 ti14 ti15 ti16 ti17 ti19 ti22 ti23 ti24 ti26 ti28 ti29 ti31 ti33 ti34 ti39 ti40 ti42 ti53 ti55 ti57 ti91 ti93 ti109 ti110 ti113 ti114 ti116 ti119 ti129 ti134 ti137 ti140 ti147 ti148 ti150 ti151 ti165 fi28_0 fi28_1 fi28_2 fi28_3 fi28_4 fi31_0 fi31_1 fi31_2 fi33_0 fi33_1 fi33_2 fi39_0 fi39_1 fi39_2 fi39_3 fi39_4 fi40_0 fi40_1 fi40_2 fi42_0 fi42_1 fi42_2 fi55_0 fi55_2 fi57_0 fi119_0 fi119_1 fi150_0 fi150_1 fi150_2 xi23 xi24 xi26 xi29 xi53 xi109 xi110 xi137 xi151 bi28 bi31 bi33 bi39 bi40 bi42 bi55 bi119 bi150 bi151 eq55 eq119 Try.underlying3 Try.underlying22 Try.underlying23 Try.underlying24 Try.underlying26 Try.underlying28 Try.underlying29 Try.underlying31 Try.underlying33 Try.underlying34 Try.underlying39 Try.underlying40 Try.underlying42 Try.underlying53 Try.underlying55 Try.underlying91 Try.underlying93 Try.underlying109 Try.underlying110 Try.underlying113 Try.underlying119 Try.underlying137 Try.underlying148 Try.underlying151
attribute [go_sem] Try.ntmps0 Try.results0 Try.ntmps1 Try.results1 Try.ntmps2 Try.results2 Try.ntmps3 Try.results3 Try.ntmps4 Try.results4 Try.ntmps5 Try.results5 Try.ntmps6 Try.results6 Try.ntmps7 Try.results7 Try.ntmps8 Try.results8 Try.ntmps9 Try.results9 Try.ntmps10 Try.results10 Try.ntmps11 Try.results11 Try.ntmps12 Try.results12 Try.ntmps13 Try.results13 Try.ntmps14 Try.results14 Try.ntmps15 Try.results15 Try.ntmps16 Try.results16 Try.ntmps17 Try.results17 Try.ntmps18 Try.results18 Try.ntmps19 Try.results19 Try.ntmps20 Try.results20 Try.ntmps21 Try.results21 Try.ntmps22 Try.results22 Try.ntmps23 Try.results23 Try.ntmps24 Try.results24 Try.ntmps25 Try.results25 Try.ntmps26 Try.results26 Try.ntmps27 Try.results27 Try.ntmps28 Try.results28 Try.ntmps29 Try.results29 Try.ntmps30 Try.results30 Try.ntmps31 Try.results31 Try.ntmps32 Try.results32 Try.ntmps33 Try.results33 Try.ntmps34 Try.results34 Try.ntmps35 Try.results35 Try.ntmps36 Try.results36 Try.ntmps37 Try.results37 Try.ntmps38 Try.results38 Try.ntmps39 Try.results39 Try.ntmps40 Try.results40 Try.ntmps41 Try.results41 Try.ntmps42 Try.results42 Try.ntmps43 Try.results43 Try.ntmps44 Try.results44 Try.ntmps45 Try.results45 Try.ntmps46 Try.results46 Try.ntmps47 Try.results47 Try.ntmps48 Try.results48 Try.ntmps49 Try.results49 Try.ntmps50 Try.results50 Try.ntmps51 Try.results51 Try.ntmps52 Try.results52 Try.ntmps53 Try.results53 Try.ntmps54 Try.results54 Try.ntmps55 Try.results55 Try.ntmps56 Try.results56 Try.ntmps57 Try.results57 Try.ntmps58 Try.results58 Try.ntmps59 Try.results59 Try.ntmps60 Try.results60 Try.ntmps61 Try.results61 Try.ntmps62 Try.results62 Try.ntmps63 Try.results63 Try.ntmps64 Try.results64 Try.ntmps65 Try.results65 Try.ntmps66 Try.results66 Try.ntmps67 Try.results67 Try.ntmps68 Try.results68 Try.ntmps69 Try.results69 Try.ntmps70 Try.results70 Try.ntmps71 Try.results71 Try.ntmps72 Try.results72 Try.ntmps73 Try.results73 Try.ntmps74 Try.results74 Try.ntmps75 Try.results75 Try.ntmps76 Try.results76 Try.ntmps77 Try.results77 Try.ntmps78 Try.results78 Try.ntmps79 Try.results79 Try.ntmps80 Try.results80 Try.ntmps81 Try.results81 Try.ntmps82 Try.results82 Try.ntmps83 Try.results83 Try.ntmps84 Try.results84 Try.ntmps85 Try.results85 Try.ntmps86 Try.results86 Try.ntmps87 Try.results87 Try.ntmps88 Try.results88 Try.ntmps89 Try.results89 Try.ntmps90 Try.results90 Try.ntmps91 Try.results91 Try.ntmps92 Try.results92 Try.ntmps93 Try.results93 Try.ntmps94 Try.results94 Try.ntmps95 Try.results95 Try.ntmps96 Try.results96 Try.ntmps97 Try.results97 Try.ntmps98 Try.results98 Try.ntmps99 Try.results99 Try.ntmps100 Try.results100 Try.ntmps101 Try.results101 Try.ntmps102 Try.results102 Try.ntmps103 Try.results103 Try.ntmps104 Try.results104 Try.ntmps105 Try.results105 Try.ntmps106 Try.results106 Try.ntmps107 Try.results107 Try.ntmps108 Try.results108 Try.ntmps109 Try.results109 Try.ntmps110 Try.results110 Try.ntmps111 Try.results111 Try.ntmps112 Try.results112 Try.ntmps113 Try.results113
end Go.Sk
