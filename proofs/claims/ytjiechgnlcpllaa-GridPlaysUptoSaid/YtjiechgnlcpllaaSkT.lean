/- What the walks ask of the types of this program. -/
import Derived.Test.YtjiechgnlcpllaaSkW
import Derived.Test.YtjiechgnlcpllaaProg
import Derived.KernelRfl
set_option linter.unusedSimpArgs false
set_option linter.unusedVariables false
set_option linter.unusedSectionVars false
namespace Go.Sk
open Go Go.Proofs

theorem ti3 : TI Try.prog 3 = some (false, 1, [.p (.int .i64 0)], 8) := by kernel_rfl
theorem ti4 : TI Try.prog 4 = some (false, 1, [.p (.bool false)], 1) := by kernel_rfl
theorem ti8 : TI Try.prog 8 = some (true, 4, [.p (.int .i64 0), .p (.int .i64 0), .p (.bool false), .p (.int .u8 ((0 : Nat) : Int))], 24) := by kernel_rfl
theorem ti9 : TI Try.prog 9 = some (false, 1, [.p (.str .empty)], 16) := by kernel_rfl
theorem ti10 : TI Try.prog 10 = some (false, 1, [.p (.str .empty)], 16) := by kernel_rfl
theorem ti11 : TI Try.prog 11 = some (false, 1, [.p (.str .empty)], 16) := by kernel_rfl
theorem ti14 : TI Try.prog 14 = some (true, 2, [.p (.str .empty), .p (.int .u64 ((0 : Nat) : Int))], 24) := by kernel_rfl
theorem ti15 : TI Try.prog 15 = some (false, 1, [.nilp], 8) := by kernel_rfl
theorem ti16 : TI Try.prog 16 = some (false, 1, [.nilp], 8) := by kernel_rfl
theorem ti17 : TI Try.prog 17 = some (false, 1, [.nilp], 8) := by kernel_rfl
theorem ti19 : TI Try.prog 19 = some (true, 1, [.nilp], 8) := by kernel_rfl
theorem ti22 : TI Try.prog 22 = some (false, 1, [.nils], 24) := by kernel_rfl
theorem ti24 : TI Try.prog 24 = some (true, 3, [.p (.int .i64 0), .p (.int .i64 0), .nils], 40) := by kernel_rfl
theorem ti25 : TI Try.prog 25 = some (false, 1, [.nils], 24) := by kernel_rfl
theorem ti26 : TI Try.prog 26 = some (false, 1, [.p (.int .u64 ((0 : Nat) : Int))], 8) := by kernel_rfl
theorem ti27 : TI Try.prog 27 = some (true, 5, [.p (.int .u64 ((0 : Nat) : Int)), .p (.int .u64 ((0 : Nat) : Int)), .p (.int .u64 ((0 : Nat) : Int)), .p (.int .u64 ((0 : Nat) : Int)), .p (.int .u64 ((0 : Nat) : Int))], 40) := by kernel_rfl
theorem ti29 : TI Try.prog 29 = some (false, 1, [.nils], 24) := by kernel_rfl
theorem ti30 : TI Try.prog 30 = some (false, 1, [.nils], 24) := by kernel_rfl
theorem ti32 : TI Try.prog 32 = some (true, 3, [.p (.int .i64 0), .p (.int .i64 0), .nils], 40) := by kernel_rfl
theorem ti34 : TI Try.prog 34 = some (true, 6, [.p (.int .i64 0), .nils, .nils, .p (.int .i64 0), .p (.int .i64 0), .nils], 96) := by kernel_rfl
theorem ti35 : TI Try.prog 35 = some (false, 1, [.p (.int .i64 0)], 8) := by kernel_rfl
theorem ti40 : TI Try.prog 40 = some (false, 1, [.nils], 24) := by kernel_rfl
theorem ti41 : TI Try.prog 41 = some (true, 3, [.p (.int .i64 0), .p (.int .i64 0), .nils], 40) := by kernel_rfl
theorem ti43 : TI Try.prog 43 = some (true, 6, [.p (.int .i64 0), .nils, .nils, .p (.int .i64 0), .p (.int .i64 0), .nils], 96) := by kernel_rfl
theorem ti49 : TI Try.prog 49 = some (true, 3, [.p (.int .u64 ((0 : Nat) : Int)), .p (.int .u64 ((0 : Nat) : Int)), .p (.int .u64 ((0 : Nat) : Int))], 24) := by kernel_rfl
theorem ti57 : TI Try.prog 57 = some (true, 3, [.p (.int .u64 ((0 : Nat) : Int)), .p (.int .u64 ((0 : Nat) : Int)), .p (.int .u64 ((0 : Nat) : Int))], 24) := by kernel_rfl
theorem ti58 : TI Try.prog 58 = some (false, 1, [.nils], 24) := by kernel_rfl
theorem ti61 : TI Try.prog 61 = some (true, 2, [.p (.int .u64 ((0 : Nat) : Int)), .p (.int .u64 ((0 : Nat) : Int))], 16) := by kernel_rfl
theorem ti64 : TI Try.prog 64 = some (true, 4, [.p (.int .u64 ((0 : Nat) : Int)), .p (.int .u64 ((0 : Nat) : Int)), .p (.int .i64 0), .p (.int .i64 0)], 32) := by kernel_rfl
theorem ti66 : TI Try.prog 66 = some (false, 1, [.nilf], 8) := by kernel_rfl
theorem ti68 : TI Try.prog 68 = some (false, 1, [.nilf], 8) := by kernel_rfl
theorem ti70 : TI Try.prog 70 = some (true, 6, [.p (.int .i64 0), .p (.int .i64 0), .nils, .p (.int .i64 0), .p (.int .i64 0), .nils], 80) := by kernel_rfl
theorem ti73 : TI Try.prog 73 = some (true, 2, [.p (.int .u64 ((0 : Nat) : Int)), .p (.int .u64 ((0 : Nat) : Int))], 16) := by kernel_rfl
theorem ti81 : TI Try.prog 81 = some (false, 1, [.nilf], 8) := by kernel_rfl
theorem ti84 : TI Try.prog 84 = some (false, 1, [.nilf], 8) := by kernel_rfl
theorem ti87 : TI Try.prog 87 = some (false, 1, [.nils], 24) := by kernel_rfl
theorem ti90 : TI Try.prog 90 = some (false, 1, [.nilp], 8) := by kernel_rfl
theorem ti92 : TI Try.prog 92 = some (true, 4, [.p (.int .u64 ((0 : Nat) : Int)), .p (.int .u64 ((0 : Nat) : Int)), .p (.int .u64 ((0 : Nat) : Int)), .p (.int .i64 0)], 32) := by kernel_rfl
theorem ti94 : TI Try.prog 94 = some (false, 1, [.nilp], 8) := by kernel_rfl
theorem ti95 : TI Try.prog 95 = some (false, 1, [.nils], 24) := by kernel_rfl
theorem ti102 : TI Try.prog 102 = some (false, 1, [.nils], 24) := by kernel_rfl
theorem ti108 : TI Try.prog 108 = some (false, 1, [.nilf], 8) := by kernel_rfl
theorem ti111 : TI Try.prog 111 = some (false, 1, [.nilf], 8) := by kernel_rfl
theorem ti115 : TI Try.prog 115 = some (false, 1, [.p (.int .u64 ((0 : Nat) : Int))], 8) := by kernel_rfl
theorem ti118 : TI Try.prog 118 = some (false, 1, [.nilf], 8) := by kernel_rfl
theorem ti122 : TI Try.prog 122 = some (false, 1, [.nilf], 8) := by kernel_rfl
theorem ti137 : TI Try.prog 137 = some (true, 2, [.p (.int .u64 ((0 : Nat) : Int)), .p (.int .u64 ((0 : Nat) : Int))], 16) := by kernel_rfl
theorem ti140 : TI Try.prog 140 = some (false, 1, [.nilf], 8) := by kernel_rfl
theorem ti141 : TI Try.prog 141 = some (false, 1, [.p (.int .u32 ((0 : Nat) : Int))], 4) := by kernel_rfl
theorem ti147 : TI Try.prog 147 = some (false, 1, [.nilf], 8) := by kernel_rfl
theorem ti150 : TI Try.prog 150 = some (false, 1, [.nilf], 8) := by kernel_rfl
theorem ti154 : TI Try.prog 154 = some (false, 1, [.nilf], 8) := by kernel_rfl
theorem ti155 : TI Try.prog 155 = some (false, 1, [.nilf], 8) := by kernel_rfl
theorem ti156 : TI Try.prog 156 = some (false, 1, [.nils], 24) := by kernel_rfl
theorem ti158 : TI Try.prog 158 = some (false, 1, [.nilp], 8) := by kernel_rfl
theorem ti160 : TI Try.prog 160 = some (true, 3, [.nils, .p (.int .u64 ((0 : Nat) : Int)), .p (.int .u64 ((0 : Nat) : Int))], 40) := by kernel_rfl
theorem ti161 : TI Try.prog 161 = some (true, 2, [.nils, .nils], 48) := by kernel_rfl
theorem ti173 : TI Try.prog 173 = some (false, 1, [.p (.int .u8 ((0 : Nat) : Int))], 1) := by kernel_rfl
theorem fi24_0 : FI Try.prog 24 0 = some (0, 1, false) := by kernel_rfl
theorem fi24_1 : FI Try.prog 24 1 = some (1, 1, false) := by kernel_rfl
theorem fi24_2 : FI Try.prog 24 2 = some (2, 1, false) := by kernel_rfl
theorem fi32_0 : FI Try.prog 32 0 = some (0, 1, false) := by kernel_rfl
theorem fi32_1 : FI Try.prog 32 1 = some (1, 1, false) := by kernel_rfl
theorem fi32_2 : FI Try.prog 32 2 = some (2, 1, false) := by kernel_rfl
theorem fi34_0 : FI Try.prog 34 0 = some (0, 1, false) := by kernel_rfl
theorem fi34_1 : FI Try.prog 34 1 = some (1, 1, false) := by kernel_rfl
theorem fi34_2 : FI Try.prog 34 2 = some (2, 1, false) := by kernel_rfl
theorem fi34_3 : FI Try.prog 34 3 = some (3, 3, true) := by kernel_rfl
theorem fi41_0 : FI Try.prog 41 0 = some (0, 1, false) := by kernel_rfl
theorem fi41_1 : FI Try.prog 41 1 = some (1, 1, false) := by kernel_rfl
theorem fi41_2 : FI Try.prog 41 2 = some (2, 1, false) := by kernel_rfl
theorem fi43_0 : FI Try.prog 43 0 = some (0, 1, false) := by kernel_rfl
theorem fi43_1 : FI Try.prog 43 1 = some (1, 1, false) := by kernel_rfl
theorem fi43_2 : FI Try.prog 43 2 = some (2, 1, false) := by kernel_rfl
theorem fi43_3 : FI Try.prog 43 3 = some (3, 3, true) := by kernel_rfl
theorem fi49_0 : FI Try.prog 49 0 = some (0, 1, false) := by kernel_rfl
theorem fi49_1 : FI Try.prog 49 1 = some (1, 1, false) := by kernel_rfl
theorem fi49_2 : FI Try.prog 49 2 = some (2, 1, false) := by kernel_rfl
theorem fi61_0 : FI Try.prog 61 0 = some (0, 1, false) := by kernel_rfl
theorem fi61_1 : FI Try.prog 61 1 = some (1, 1, false) := by kernel_rfl
theorem fi64_0 : FI Try.prog 64 0 = some (0, 2, true) := by kernel_rfl
theorem fi64_1 : FI Try.prog 64 1 = some (2, 1, false) := by kernel_rfl
theorem fi64_2 : FI Try.prog 64 2 = some (3, 1, false) := by kernel_rfl
theorem fi92_0 : FI Try.prog 92 0 = some (0, 3, true) := by kernel_rfl
theorem fi92_1 : FI Try.prog 92 1 = some (3, 1, false) := by kernel_rfl
theorem fi137_0 : FI Try.prog 137 0 = some (0, 1, false) := by kernel_rfl
theorem fi137_1 : FI Try.prog 137 1 = some (1, 1, false) := by kernel_rfl
theorem fi160_0 : FI Try.prog 160 0 = some (0, 1, false) := by kernel_rfl
theorem fi160_1 : FI Try.prog 160 1 = some (1, 1, false) := by kernel_rfl
theorem fi160_2 : FI Try.prog 160 2 = some (2, 1, false) := by kernel_rfl
theorem xi22 : XI Try.prog 22 = some (none, 2, 61) := by kernel_rfl
theorem xi25 : XI Try.prog 25 = some (none, 3, 49) := by kernel_rfl
theorem xi27 : XI Try.prog 27 = some (some 5, 1, 26) := by kernel_rfl
theorem xi29 : XI Try.prog 29 = some (none, 1, 58) := by kernel_rfl
theorem xi30 : XI Try.prog 30 = some (none, 1, 102) := by kernel_rfl
theorem xi40 : XI Try.prog 40 = some (none, 1, 87) := by kernel_rfl
theorem xi57 : XI Try.prog 57 = some (some 3, 1, 26) := by kernel_rfl
theorem xi58 : XI Try.prog 58 = some (none, 3, 32) := by kernel_rfl
theorem xi70 : XI Try.prog 70 = some (some 2, 3, 24) := by kernel_rfl
theorem xi73 : XI Try.prog 73 = some (some 2, 1, 26) := by kernel_rfl
theorem xi87 : XI Try.prog 87 = some (none, 3, 41) := by kernel_rfl
theorem xi95 : XI Try.prog 95 = some (none, 1, 3) := by kernel_rfl
theorem xi102 : XI Try.prog 102 = some (none, 2, 137) := by kernel_rfl
theorem xi156 : XI Try.prog 156 = some (none, 1, 26) := by kernel_rfl
theorem xi161 : XI Try.prog 161 = some (some 2, 1, 102) := by kernel_rfl
theorem bi32 : BI Try.prog 32 = some (.st [(0, 1), (1, 1), (2, 1)]) := by kernel_rfl
theorem bi34 : BI Try.prog 34 = some (.st [(0, 1), (1, 1), (2, 1), (3, 3)]) := by kernel_rfl
theorem bi41 : BI Try.prog 41 = some (.st [(0, 1), (1, 1), (2, 1)]) := by kernel_rfl
theorem bi43 : BI Try.prog 43 = some (.st [(0, 1), (1, 1), (2, 1), (3, 3)]) := by kernel_rfl
theorem bi49 : BI Try.prog 49 = some (.st [(0, 1), (1, 1), (2, 1)]) := by kernel_rfl
theorem bi61 : BI Try.prog 61 = some (.st [(0, 1), (1, 1)]) := by kernel_rfl
theorem bi64 : BI Try.prog 64 = some (.st [(0, 2), (2, 1), (3, 1)]) := by kernel_rfl
theorem bi92 : BI Try.prog 92 = some (.st [(0, 3), (3, 1)]) := by kernel_rfl
theorem bi137 : BI Try.prog 137 = some (.st [(0, 1), (1, 1)]) := by kernel_rfl
theorem bi160 : BI Try.prog 160 = some (.st [(0, 1), (1, 1), (2, 1)]) := by kernel_rfl
theorem bi161 : BI Try.prog 161 = some (.ar 1) := by kernel_rfl
theorem eq61 : EQ Try.prog 61 = some 2 := by kernel_rfl
theorem eq137 : EQ Try.prog 137 = some 2 := by kernel_rfl
attribute [go_sem] ti3 ti4 ti8 ti9 ti10 ti11 ti14 ti15 ti16 ti17 ti19 ti22 ti24 ti25 ti26 ti27 ti29 ti30 ti32 ti34 ti35 ti40 ti41 ti43 ti49 ti57 ti58 ti61 ti64 ti66 ti68 ti70 ti73 ti81 ti84 ti87 ti90 ti92 ti94 ti95 ti102 ti108 ti111 ti115 ti118 ti122 ti137 ti140 ti141 ti147 ti150 ti154 ti155 ti156 ti158 ti160 ti161 ti173 fi24_0 fi24_1 fi24_2 fi32_0 fi32_1 fi32_2 fi34_0 fi34_1 fi34_2 fi34_3 fi41_0 fi41_1 fi41_2 fi43_0 fi43_1 fi43_2 fi43_3 fi49_0 fi49_1 fi49_2 fi61_0 fi61_1 fi64_0 fi64_1 fi64_2 fi92_0 fi92_1 fi137_0 fi137_1 fi160_0 fi160_1 fi160_2 xi22 xi25 xi27 xi29 xi30 xi40 xi57 xi58 xi70 xi73 xi87 xi95 xi102 xi156 xi161 bi32 bi34 bi41 bi43 bi49 bi61 bi64 bi92 bi137 bi160 bi161 eq61 eq137 Try.underlying3 Try.underlying4 Try.underlying22 Try.underlying24 Try.underlying25 Try.underlying26 Try.underlying27 Try.underlying29 Try.underlying30 Try.underlying32 Try.underlying34 Try.underlying35 Try.underlying40 Try.underlying41 Try.underlying43 Try.underlying49 Try.underlying57 Try.underlying58 Try.underlying61 Try.underlying64 Try.underlying68 Try.underlying70 Try.underlying73 Try.underlying81 Try.underlying87 Try.underlying90 Try.underlying94 Try.underlying95 Try.underlying102 Try.underlying108 Try.underlying115 Try.underlying118 Try.underlying137 Try.underlying141 Try.underlying156 Try.underlying158 Try.underlying161
attribute [go_sem] Try.ntmps0 Try.results0 Try.ntmps1 Try.results1 Try.ntmps2 Try.results2 Try.ntmps3 Try.results3 Try.ntmps4 Try.results4 Try.ntmps5 Try.results5 Try.ntmps6 Try.results6 Try.ntmps7 Try.results7 Try.ntmps8 Try.results8 Try.ntmps9 Try.results9 Try.ntmps10 Try.results10 Try.ntmps11 Try.results11 Try.ntmps12 Try.results12 Try.ntmps13 Try.results13 Try.ntmps14 Try.results14 Try.ntmps15 Try.results15 Try.ntmps16 Try.results16 Try.ntmps17 Try.results17 Try.ntmps18 Try.results18 Try.ntmps19 Try.results19 Try.ntmps20 Try.results20 Try.ntmps21 Try.results21 Try.ntmps22 Try.results22 Try.ntmps23 Try.results23 Try.ntmps24 Try.results24 Try.ntmps25 Try.results25 Try.ntmps26 Try.results26 Try.ntmps27 Try.results27 Try.ntmps28 Try.results28 Try.ntmps29 Try.results29 Try.ntmps30 Try.results30 Try.ntmps31 Try.results31 Try.ntmps32 Try.results32 Try.ntmps33 Try.results33 Try.ntmps34 Try.results34 Try.ntmps35 Try.results35 Try.ntmps36 Try.results36 Try.ntmps37 Try.results37 Try.ntmps38 Try.results38 Try.ntmps39 Try.results39 Try.ntmps40 Try.results40 Try.ntmps41 Try.results41 Try.ntmps42 Try.results42 Try.ntmps43 Try.results43 Try.ntmps44 Try.results44 Try.ntmps45 Try.results45 Try.ntmps46 Try.results46 Try.ntmps47 Try.results47 Try.ntmps48 Try.results48 Try.ntmps49 Try.results49 Try.ntmps50 Try.results50 Try.ntmps51 Try.results51 Try.ntmps52 Try.results52 Try.ntmps53 Try.results53 Try.ntmps54 Try.results54 Try.ntmps55 Try.results55 Try.ntmps56 Try.results56 Try.ntmps57 Try.results57 Try.ntmps58 Try.results58 Try.ntmps59 Try.results59 Try.ntmps60 Try.results60 Try.ntmps61 Try.results61 Try.ntmps62 Try.results62 Try.ntmps63 Try.results63 Try.ntmps64 Try.results64 Try.ntmps65 Try.results65 Try.ntmps66 Try.results66 Try.ntmps67 Try.results67 Try.ntmps68 Try.results68 Try.ntmps69 Try.results69 Try.ntmps70 Try.results70 Try.ntmps71 Try.results71 Try.ntmps72 Try.results72 Try.ntmps73 Try.results73 Try.ntmps74 Try.results74 Try.ntmps75 Try.results75 Try.ntmps76 Try.results76 Try.ntmps77 Try.results77 Try.ntmps78 Try.results78 Try.ntmps79 Try.results79 Try.ntmps80 Try.results80 Try.ntmps81 Try.results81 Try.ntmps82 Try.results82 Try.ntmps83 Try.results83 Try.ntmps84 Try.results84 Try.ntmps85 Try.results85 Try.ntmps86 Try.results86 Try.ntmps87 Try.results87 Try.ntmps88 Try.results88 Try.ntmps89 Try.results89 Try.ntmps90 Try.results90 Try.ntmps91 Try.results91 Try.ntmps92 Try.results92 Try.ntmps93 Try.results93 Try.ntmps94 Try.results94 Try.ntmps95 Try.results95 Try.ntmps96 Try.results96 Try.ntmps97 Try.results97 Try.ntmps98 Try.results98 Try.ntmps99 Try.results99 Try.ntmps100 Try.results100 Try.ntmps101 Try.results101 Try.ntmps102 Try.results102 Try.ntmps103 Try.results103 Try.ntmps104 Try.results104 Try.ntmps105 Try.results105 Try.ntmps106 Try.results106 Try.ntmps107 Try.results107 Try.ntmps108 Try.results108 Try.ntmps109 Try.results109 Try.ntmps110 Try.results110 Try.ntmps111 Try.results111 Try.ntmps112 Try.results112 Try.ntmps113 Try.results113 Try.ntmps114 Try.results114 Try.ntmps115 Try.results115 Try.ntmps116 Try.results116 Try.ntmps117 Try.results117 Try.ntmps118 Try.results118 Try.ntmps119 Try.results119 Try.ntmps120 Try.results120 Try.ntmps121 Try.results121 Try.ntmps122 Try.results122 Try.ntmps123 Try.results123 Try.ntmps124 Try.results124
end Go.Sk
