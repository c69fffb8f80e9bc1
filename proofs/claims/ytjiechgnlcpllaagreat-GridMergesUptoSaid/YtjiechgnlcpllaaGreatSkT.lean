/- What the walks ask of the types of this program. -/
import Derived.Test.YtjiechgnlcpllaaGreatSkW
import Derived.Test.YtjiechgnlcpllaaGreatProg
import Derived.KernelRfl
set_option linter.unusedSimpArgs false
set_option linter.unusedVariables false
set_option linter.unusedSectionVars false
namespace Go.Sk
open Go Go.Proofs

theorem ti3 : TI Tryz.prog 3 = some (false, 1, [.p (.int .i64 0)], 8) := by kernel_rfl
theorem ti4 : TI Tryz.prog 4 = some (false, 1, [.p (.bool false)], 1) := by kernel_rfl
theorem ti8 : TI Tryz.prog 8 = some (true, 4, [.p (.int .i64 0), .p (.int .i64 0), .p (.bool false), .p (.int .u8 ((0 : Nat) : Int))], 24) := by kernel_rfl
theorem ti9 : TI Tryz.prog 9 = some (false, 1, [.p (.str .empty)], 16) := by kernel_rfl
theorem ti10 : TI Tryz.prog 10 = some (false, 1, [.p (.str .empty)], 16) := by kernel_rfl
theorem ti11 : TI Tryz.prog 11 = some (false, 1, [.p (.str .empty)], 16) := by kernel_rfl
theorem ti14 : TI Tryz.prog 14 = some (true, 2, [.p (.str .empty), .p (.int .u64 ((0 : Nat) : Int))], 24) := by kernel_rfl
theorem ti15 : TI Tryz.prog 15 = some (false, 1, [.nilp], 8) := by kernel_rfl
theorem ti16 : TI Tryz.prog 16 = some (false, 1, [.nilp], 8) := by kernel_rfl
theorem ti17 : TI Tryz.prog 17 = some (false, 1, [.nilp], 8) := by kernel_rfl
theorem ti19 : TI Tryz.prog 19 = some (true, 1, [.nilp], 8) := by kernel_rfl
theorem ti22 : TI Tryz.prog 22 = some (false, 1, [.nils], 24) := by kernel_rfl
theorem ti24 : TI Tryz.prog 24 = some (true, 3, [.p (.int .i64 0), .p (.int .i64 0), .nils], 40) := by kernel_rfl
theorem ti25 : TI Tryz.prog 25 = some (true, 6, [.p (.int .i64 0), .p (.int .i64 0), .nils, .p (.int .i64 0), .p (.int .i64 0), .nils], 80) := by kernel_rfl
theorem ti26 : TI Tryz.prog 26 = some (false, 1, [.nils], 24) := by kernel_rfl
theorem ti27 : TI Tryz.prog 27 = some (false, 1, [.nils], 24) := by kernel_rfl
theorem ti29 : TI Tryz.prog 29 = some (false, 1, [.nils], 24) := by kernel_rfl
theorem ti30 : TI Tryz.prog 30 = some (false, 1, [.nils], 24) := by kernel_rfl
theorem ti31 : TI Tryz.prog 31 = some (false, 1, [.nils], 24) := by kernel_rfl
theorem ti32 : TI Tryz.prog 32 = some (false, 1, [.nils], 24) := by kernel_rfl
theorem ti34 : TI Tryz.prog 34 = some (true, 3, [.p (.int .i64 0), .p (.int .i64 0), .nils], 40) := by kernel_rfl
theorem ti36 : TI Tryz.prog 36 = some (true, 6, [.p (.int .i64 0), .nils, .nils, .p (.int .i64 0), .p (.int .i64 0), .nils], 96) := by kernel_rfl
theorem ti39 : TI Tryz.prog 39 = some (false, 1, [.nils], 24) := by kernel_rfl
theorem ti40 : TI Tryz.prog 40 = some (true, 3, [.p (.int .i64 0), .p (.int .i64 0), .nils], 40) := by kernel_rfl
theorem ti42 : TI Tryz.prog 42 = some (true, 6, [.p (.int .i64 0), .nils, .nils, .p (.int .i64 0), .p (.int .i64 0), .nils], 96) := by kernel_rfl
theorem ti44 : TI Tryz.prog 44 = some (false, 1, [.p (.int .i64 0)], 8) := by kernel_rfl
theorem ti53 : TI Tryz.prog 53 = some (false, 1, [.p (.int .u64 ((0 : Nat) : Int))], 8) := by kernel_rfl
theorem ti55 : TI Tryz.prog 55 = some (true, 2, [.p (.int .u64 ((0 : Nat) : Int)), .p (.int .u64 ((0 : Nat) : Int))], 16) := by kernel_rfl
theorem ti58 : TI Tryz.prog 58 = some (true, 3, [.p (.int .u64 ((0 : Nat) : Int)), .p (.int .u64 ((0 : Nat) : Int)), .p (.int .u64 ((0 : Nat) : Int))], 24) := by kernel_rfl
theorem ti59 : TI Tryz.prog 59 = some (false, 1, [.nilf], 8) := by kernel_rfl
theorem ti60 : TI Tryz.prog 60 = some (false, 1, [.nils], 24) := by kernel_rfl
theorem ti66 : TI Tryz.prog 66 = some (false, 1, [.nils], 24) := by kernel_rfl
theorem ti68 : TI Tryz.prog 68 = some (false, 1, [.nilf], 8) := by kernel_rfl
theorem ti69 : TI Tryz.prog 69 = some (false, 1, [.nilf], 8) := by kernel_rfl
theorem ti84 : TI Tryz.prog 84 = some (false, 1, [.nilf], 8) := by kernel_rfl
theorem ti87 : TI Tryz.prog 87 = some (false, 1, [.nilp], 8) := by kernel_rfl
theorem ti89 : TI Tryz.prog 89 = some (true, 4, [.p (.int .u64 ((0 : Nat) : Int)), .p (.int .u64 ((0 : Nat) : Int)), .p (.int .u64 ((0 : Nat) : Int)), .p (.int .i64 0)], 32) := by kernel_rfl
theorem ti91 : TI Tryz.prog 91 = some (false, 1, [.nilp], 8) := by kernel_rfl
theorem ti92 : TI Tryz.prog 92 = some (false, 1, [.nils], 24) := by kernel_rfl
theorem ti99 : TI Tryz.prog 99 = some (false, 1, [.nilf], 8) := by kernel_rfl
theorem ti103 : TI Tryz.prog 103 = some (false, 1, [.nilp], 8) := by kernel_rfl
theorem ti105 : TI Tryz.prog 105 = some (true, 2, [.p (.int .u64 ((0 : Nat) : Int)), .p (.bool false)], 16) := by kernel_rfl
theorem ti108 : TI Tryz.prog 108 = some (false, 1, [.nils], 24) := by kernel_rfl
theorem ti110 : TI Tryz.prog 110 = some (false, 1, [.nilf], 8) := by kernel_rfl
theorem ti113 : TI Tryz.prog 113 = some (true, 2, [.p (.int .u64 ((0 : Nat) : Int)), .p (.int .u64 ((0 : Nat) : Int))], 16) := by kernel_rfl
theorem ti116 : TI Tryz.prog 116 = some (false, 1, [.nilf], 8) := by kernel_rfl
theorem ti122 : TI Tryz.prog 122 = some (false, 1, [.nils], 24) := by kernel_rfl
theorem ti125 : TI Tryz.prog 125 = some (true, 2, [.p (.int .u64 ((0 : Nat) : Int)), .p (.int .u64 ((0 : Nat) : Int))], 16) := by kernel_rfl
theorem ti126 : TI Tryz.prog 126 = some (false, 1, [.nils], 24) := by kernel_rfl
theorem ti128 : TI Tryz.prog 128 = some (false, 1, [.nilf], 8) := by kernel_rfl
theorem ti129 : TI Tryz.prog 129 = some (false, 1, [.nils], 24) := by kernel_rfl
theorem ti131 : TI Tryz.prog 131 = some (false, 1, [.p (.int .u64 ((0 : Nat) : Int))], 8) := by kernel_rfl
theorem ti135 : TI Tryz.prog 135 = some (false, 1, [.nilf], 8) := by kernel_rfl
theorem ti139 : TI Tryz.prog 139 = some (true, 2, [.p (.int .u64 ((0 : Nat) : Int)), .p (.int .u64 ((0 : Nat) : Int))], 16) := by kernel_rfl
theorem ti151 : TI Tryz.prog 151 = some (false, 1, [.nilf], 8) := by kernel_rfl
theorem ti156 : TI Tryz.prog 156 = some (false, 1, [.nilf], 8) := by kernel_rfl
theorem ti160 : TI Tryz.prog 160 = some (false, 1, [.p (.int .u32 ((0 : Nat) : Int))], 4) := by kernel_rfl
theorem ti164 : TI Tryz.prog 164 = some (false, 1, [.nilf], 8) := by kernel_rfl
theorem ti166 : TI Tryz.prog 166 = some (false, 1, [.nilf], 8) := by kernel_rfl
theorem ti171 : TI Tryz.prog 171 = some (false, 1, [.p (.int .i64 0)], 8) := by kernel_rfl
theorem ti180 : TI Tryz.prog 180 = some (false, 1, [.nilf], 8) := by kernel_rfl
theorem ti181 : TI Tryz.prog 181 = some (false, 1, [.nilf], 8) := by kernel_rfl
theorem ti182 : TI Tryz.prog 182 = some (false, 1, [.nils], 24) := by kernel_rfl
theorem ti184 : TI Tryz.prog 184 = some (false, 1, [.p (.int .u64 ((0 : Nat) : Int))], 8) := by kernel_rfl
theorem ti188 : TI Tryz.prog 188 = some (false, 1, [.nilp], 8) := by kernel_rfl
theorem ti190 : TI Tryz.prog 190 = some (false, 1, [.nilp], 8) := by kernel_rfl
theorem ti192 : TI Tryz.prog 192 = some (true, 3, [.nils, .p (.int .u64 ((0 : Nat) : Int)), .p (.int .u64 ((0 : Nat) : Int))], 40) := by kernel_rfl
theorem ti193 : TI Tryz.prog 193 = some (true, 2, [.nils, .nils], 48) := by kernel_rfl
theorem ti196 : TI Tryz.prog 196 = some (false, 1, [.nilp], 8) := by kernel_rfl
theorem ti207 : TI Tryz.prog 207 = some (false, 1, [.p (.int .u8 ((0 : Nat) : Int))], 1) := by kernel_rfl
theorem ti217 : TI Tryz.prog 217 = some (false, 1, [.nilf], 8) := by kernel_rfl
theorem fi24_0 : FI Tryz.prog 24 0 = some (0, 1, false) := by kernel_rfl
theorem fi24_1 : FI Tryz.prog 24 1 = some (1, 1, false) := by kernel_rfl
theorem fi24_2 : FI Tryz.prog 24 2 = some (2, 1, false) := by kernel_rfl
theorem fi34_0 : FI Tryz.prog 34 0 = some (0, 1, false) := by kernel_rfl
theorem fi34_1 : FI Tryz.prog 34 1 = some (1, 1, false) := by kernel_rfl
theorem fi34_2 : FI Tryz.prog 34 2 = some (2, 1, false) := by kernel_rfl
theorem fi36_0 : FI Tryz.prog 36 0 = some (0, 1, false) := by kernel_rfl
theorem fi36_1 : FI Tryz.prog 36 1 = some (1, 1, false) := by kernel_rfl
theorem fi36_2 : FI Tryz.prog 36 2 = some (2, 1, false) := by kernel_rfl
theorem fi36_3 : FI Tryz.prog 36 3 = some (3, 3, true) := by kernel_rfl
theorem fi40_0 : FI Tryz.prog 40 0 = some (0, 1, false) := by kernel_rfl
theorem fi40_1 : FI Tryz.prog 40 1 = some (1, 1, false) := by kernel_rfl
theorem fi40_2 : FI Tryz.prog 40 2 = some (2, 1, false) := by kernel_rfl
theorem fi42_0 : FI Tryz.prog 42 0 = some (0, 1, false) := by kernel_rfl
theorem fi42_1 : FI Tryz.prog 42 1 = some (1, 1, false) := by kernel_rfl
theorem fi42_2 : FI Tryz.prog 42 2 = some (2, 1, false) := by kernel_rfl
theorem fi42_3 : FI Tryz.prog 42 3 = some (3, 3, true) := by kernel_rfl
theorem fi55_0 : FI Tryz.prog 55 0 = some (0, 1, false) := by kernel_rfl
theorem fi55_1 : FI Tryz.prog 55 1 = some (1, 1, false) := by kernel_rfl
theorem fi58_0 : FI Tryz.prog 58 0 = some (0, 1, false) := by kernel_rfl
theorem fi58_1 : FI Tryz.prog 58 1 = some (1, 1, false) := by kernel_rfl
theorem fi58_2 : FI Tryz.prog 58 2 = some (2, 1, false) := by kernel_rfl
theorem fi89_0 : FI Tryz.prog 89 0 = some (0, 3, true) := by kernel_rfl
theorem fi89_1 : FI Tryz.prog 89 1 = some (3, 1, false) := by kernel_rfl
theorem fi105_0 : FI Tryz.prog 105 0 = some (0, 1, false) := by kernel_rfl
theorem fi105_1 : FI Tryz.prog 105 1 = some (1, 1, false) := by kernel_rfl
theorem fi113_0 : FI Tryz.prog 113 0 = some (0, 1, false) := by kernel_rfl
theorem fi113_1 : FI Tryz.prog 113 1 = some (1, 1, false) := by kernel_rfl
theorem fi125_0 : FI Tryz.prog 125 0 = some (0, 1, false) := by kernel_rfl
theorem fi125_1 : FI Tryz.prog 125 1 = some (1, 1, false) := by kernel_rfl
theorem fi139_0 : FI Tryz.prog 139 0 = some (0, 1, false) := by kernel_rfl
theorem fi139_1 : FI Tryz.prog 139 1 = some (1, 1, false) := by kernel_rfl
theorem fi192_0 : FI Tryz.prog 192 0 = some (0, 1, false) := by kernel_rfl
theorem fi192_1 : FI Tryz.prog 192 1 = some (1, 1, false) := by kernel_rfl
theorem fi192_2 : FI Tryz.prog 192 2 = some (2, 1, false) := by kernel_rfl
theorem xi22 : XI Tryz.prog 22 = some (none, 2, 55) := by kernel_rfl
theorem xi25 : XI Tryz.prog 25 = some (some 2, 3, 24) := by kernel_rfl
theorem xi26 : XI Tryz.prog 26 = some (none, 1, 27) := by kernel_rfl
theorem xi27 : XI Tryz.prog 27 = some (none, 3, 58) := by kernel_rfl
theorem xi29 : XI Tryz.prog 29 = some (none, 6, 36) := by kernel_rfl
theorem xi30 : XI Tryz.prog 30 = some (none, 6, 42) := by kernel_rfl
theorem xi31 : XI Tryz.prog 31 = some (none, 1, 66) := by kernel_rfl
theorem xi32 : XI Tryz.prog 32 = some (none, 1, 129) := by kernel_rfl
theorem xi39 : XI Tryz.prog 39 = some (none, 1, 60) := by kernel_rfl
theorem xi60 : XI Tryz.prog 60 = some (none, 3, 40) := by kernel_rfl
theorem xi66 : XI Tryz.prog 66 = some (none, 3, 34) := by kernel_rfl
theorem xi92 : XI Tryz.prog 92 = some (none, 1, 3) := by kernel_rfl
theorem xi108 : XI Tryz.prog 108 = some (none, 2, 113) := by kernel_rfl
theorem xi122 : XI Tryz.prog 122 = some (none, 2, 125) := by kernel_rfl
theorem xi126 : XI Tryz.prog 126 = some (none, 1, 4) := by kernel_rfl
theorem xi129 : XI Tryz.prog 129 = some (none, 2, 139) := by kernel_rfl
theorem xi182 : XI Tryz.prog 182 = some (none, 1, 53) := by kernel_rfl
theorem xi193 : XI Tryz.prog 193 = some (some 2, 1, 129) := by kernel_rfl
theorem bi34 : BI Tryz.prog 34 = some (.st [(0, 1), (1, 1), (2, 1)]) := by kernel_rfl
theorem bi36 : BI Tryz.prog 36 = some (.st [(0, 1), (1, 1), (2, 1), (3, 3)]) := by kernel_rfl
theorem bi40 : BI Tryz.prog 40 = some (.st [(0, 1), (1, 1), (2, 1)]) := by kernel_rfl
theorem bi42 : BI Tryz.prog 42 = some (.st [(0, 1), (1, 1), (2, 1), (3, 3)]) := by kernel_rfl
theorem bi55 : BI Tryz.prog 55 = some (.st [(0, 1), (1, 1)]) := by kernel_rfl
theorem bi58 : BI Tryz.prog 58 = some (.st [(0, 1), (1, 1), (2, 1)]) := by kernel_rfl
theorem bi89 : BI Tryz.prog 89 = some (.st [(0, 3), (3, 1)]) := by kernel_rfl
theorem bi105 : BI Tryz.prog 105 = some (.st [(0, 1), (1, 1)]) := by kernel_rfl
theorem bi113 : BI Tryz.prog 113 = some (.st [(0, 1), (1, 1)]) := by kernel_rfl
theorem bi125 : BI Tryz.prog 125 = some (.st [(0, 1), (1, 1)]) := by kernel_rfl
theorem bi139 : BI Tryz.prog 139 = some (.st [(0, 1), (1, 1)]) := by kernel_rfl
theorem bi192 : BI Tryz.prog 192 = some (.st [(0, 1), (1, 1), (2, 1)]) := by kernel_rfl
theorem bi193 : BI Tryz.prog 193 = some (.ar 1) := by kernel_rfl
theorem eq55 : EQ Tryz.prog 55 = some 2 := by kernel_rfl
theorem eq139 : EQ Tryz.prog 139 = some 2 := by kernel_rfl
attribute [go_sem] ti3 ti4 ti8 ti9 ti10 ti11 ti14 ti15 ti16 ti17 ti19 ti22 ti24 ti25 ti26 ti27 ti29 ti30 ti31 ti32 ti34 ti36 ti39 ti40 ti42 ti44 ti53 ti55 ti58 ti59 ti60 ti66 ti68 ti69 ti84 ti87 ti89 ti91 ti92 ti99 ti103 ti105 ti108 ti110 ti113 ti116 ti122 ti125 ti126 ti128 ti129 ti131 ti135 ti139 ti151 ti156 ti160 ti164 ti166 ti171 ti180 ti181 ti182 ti184 ti188 ti190 ti192 ti193 ti196 ti207 ti217 fi24_0 fi24_1 fi24_2 fi34_0 fi34_1 fi34_2 fi36_0 fi36_1 fi36_2 fi36_3 fi40_0 fi40_1 fi40_2 fi42_0 fi42_1 fi42_2 fi42_3 fi55_0 fi55_1 fi58_0 fi58_1 fi58_2 fi89_0 fi89_1 fi105_0 fi105_1 fi113_0 fi113_1 fi125_0 fi125_1 fi139_0 fi139_1 fi192_0 fi192_1 fi192_2 xi22 xi25 xi26 xi27 xi29 xi30 xi31 xi32 xi39 xi60 xi66 xi92 xi108 xi122 xi126 xi129 xi182 xi193 bi34 bi36 bi40 bi42 bi55 bi58 bi89 bi105 bi113 bi125 bi139 bi192 bi193 eq55 eq139 Tryz.underlying3 Tryz.underlying5 Tryz.underlying9 Tryz.underlying22 Tryz.underlying24 Tryz.underlying25 Tryz.underlying26 Tryz.underlying27 Tryz.underlying29 Tryz.underlying30 Tryz.underlying31 Tryz.underlying32 Tryz.underlying34 Tryz.underlying36 Tryz.underlying39 Tryz.underlying40 Tryz.underlying42 Tryz.underlying44 Tryz.underlying53 Tryz.underlying55 Tryz.underlying58 Tryz.underlying59 Tryz.underlying60 Tryz.underlying66 Tryz.underlying69 Tryz.underlying84 Tryz.underlying87 Tryz.underlying91 Tryz.underlying92 Tryz.underlying99 Tryz.underlying103 Tryz.underlying108 Tryz.underlying113 Tryz.underlying116 Tryz.underlying122 Tryz.underlying126 Tryz.underlying128 Tryz.underlying129 Tryz.underlying131 Tryz.underlying139 Tryz.underlying160 Tryz.underlying171 Tryz.underlying182 Tryz.underlying184 Tryz.underlying188 Tryz.underlying190 Tryz.underlying193
attribute [go_sem] Tryz.ntmps0 Tryz.results0 Tryz.ntmps1 Tryz.results1 Tryz.ntmps2 Tryz.results2 Tryz.ntmps3 Tryz.results3 Tryz.ntmps4 Tryz.results4 Tryz.ntmps5 Tryz.results5 Tryz.ntmps6 Tryz.results6 Tryz.ntmps7 Tryz.results7 Tryz.ntmps8 Tryz.results8 Tryz.ntmps9 Tryz.results9 Tryz.ntmps10 Tryz.results10 Tryz.ntmps11 Tryz.results11 Tryz.ntmps12 Tryz.results12 Tryz.ntmps13 Tryz.results13 Tryz.ntmps14 Tryz.results14 Tryz.ntmps15 Tryz.results15 Tryz.ntmps16 Tryz.results16 Tryz.ntmps17 Tryz.results17 Tryz.ntmps18 Tryz.results18 Tryz.ntmps19 Tryz.results19 Tryz.ntmps20 Tryz.results20 Tryz.ntmps21 Tryz.results21 Tryz.ntmps22 Tryz.results22 Tryz.ntmps23 Tryz.results23 Tryz.ntmps24 Tryz.results24 Tryz.ntmps25 Tryz.results25 Tryz.ntmps26 Tryz.results26 Tryz.ntmps27 Tryz.results27 Tryz.ntmps28 Tryz.results28 Tryz.ntmps29 Tryz.results29 Tryz.ntmps30 Tryz.results30 Tryz.ntmps31 Tryz.results31 Tryz.ntmps32 Tryz.results32 Tryz.ntmps33 Tryz.results33 Tryz.ntmps34 Tryz.results34 Tryz.ntmps35 Tryz.results35 Tryz.ntmps36 Tryz.results36 Tryz.ntmps37 Tryz.results37 Tryz.ntmps38 Tryz.results38 Tryz.ntmps39 Tryz.results39 Tryz.ntmps40 Tryz.results40 Tryz.ntmps41 Tryz.results41 Tryz.ntmps42 Tryz.results42 Tryz.ntmps43 Tryz.results43 Tryz.ntmps44 Tryz.results44 Tryz.ntmps45 Tryz.results45 Tryz.ntmps46 Tryz.results46 Tryz.ntmps47 Tryz.results47 Tryz.ntmps48 Tryz.results48 Tryz.ntmps49 Tryz.results49 Tryz.ntmps50 Tryz.results50 Tryz.ntmps51 Tryz.results51 Tryz.ntmps52 Tryz.results52 Tryz.ntmps53 Tryz.results53 Tryz.ntmps54 Tryz.results54 Tryz.ntmps55 Tryz.results55 Tryz.ntmps56 Tryz.results56 Tryz.ntmps57 Tryz.results57 Tryz.ntmps58 Tryz.results58 Tryz.ntmps59 Tryz.results59 Tryz.ntmps60 Tryz.results60 Tryz.ntmps61 Tryz.results61 Tryz.ntmps62 Tryz.results62 Tryz.ntmps63 Tryz.results63 Tryz.ntmps64 Tryz.results64 Tryz.ntmps65 Tryz.results65 Tryz.ntmps66 Tryz.results66 Tryz.ntmps67 Tryz.results67 Tryz.ntmps68 Tryz.results68 Tryz.ntmps69 Tryz.results69 Tryz.ntmps70 Tryz.results70 Tryz.ntmps71 Tryz.results71 Tryz.ntmps72 Tryz.results72 Tryz.ntmps73 Tryz.results73 Tryz.ntmps74 Tryz.results74 Tryz.ntmps75 Tryz.results75 Tryz.ntmps76 Tryz.results76 Tryz.ntmps77 Tryz.results77 Tryz.ntmps78 Tryz.results78 Tryz.ntmps79 Tryz.results79 Tryz.ntmps80 Tryz.results80 Tryz.ntmps81 Tryz.results81 Tryz.ntmps82 Tryz.results82 Tryz.ntmps83 Tryz.results83 Tryz.ntmps84 Tryz.results84 Tryz.ntmps85 Tryz.results85 Tryz.ntmps86 Tryz.results86 Tryz.ntmps87 Tryz.results87 Tryz.ntmps88 Tryz.results88 Tryz.ntmps89 Tryz.results89 Tryz.ntmps90 Tryz.results90 Tryz.ntmps91 Tryz.results91 Tryz.ntmps92 Tryz.results92 Tryz.ntmps93 Tryz.results93 Tryz.ntmps94 Tryz.results94 Tryz.ntmps95 Tryz.results95 Tryz.ntmps96 Tryz.results96 Tryz.ntmps97 Tryz.results97 Tryz.ntmps98 Tryz.results98 Tryz.ntmps99 Tryz.results99 Tryz.ntmps100 Tryz.results100 Tryz.ntmps101 Tryz.results101 Tryz.ntmps102 Tryz.results102 Tryz.ntmps103 Tryz.results103 Tryz.ntmps104 Tryz.results104 Tryz.ntmps105 Tryz.results105 Tryz.ntmps106 Tryz.results106 Tryz.ntmps107 Tryz.results107 Tryz.ntmps108 Tryz.results108 Tryz.ntmps109 Tryz.results109 Tryz.ntmps110 Tryz.results110 Tryz.ntmps111 Tryz.results111 Tryz.ntmps112 Tryz.results112 Tryz.ntmps113 Tryz.results113 Tryz.ntmps114 Tryz.results114 Tryz.ntmps115 Tryz.results115 Tryz.ntmps116 Tryz.results116 Tryz.ntmps117 Tryz.results117 Tryz.ntmps118 Tryz.results118 Tryz.ntmps119 Tryz.results119 Tryz.ntmps120 Tryz.results120 Tryz.ntmps121 Tryz.results121 Tryz.ntmps122 Tryz.results122 Tryz.ntmps123 Tryz.results123 Tryz.ntmps124 Tryz.results124 Tryz.ntmps125 Tryz.results125 Tryz.ntmps126 Tryz.results126 Tryz.ntmps127 Tryz.results127 Tryz.ntmps128 Tryz.results128 Tryz.ntmps129 Tryz.results129 Tryz.ntmps130 Tryz.results130 Tryz.ntmps131 Tryz.results131 Tryz.ntmps132 Tryz.results132 Tryz.ntmps133 Tryz.results133 Tryz.ntmps134 Tryz.results134 Tryz.ntmps135 Tryz.results135 Tryz.ntmps136 Tryz.results136 Tryz.ntmps137 Tryz.results137 Tryz.ntmps138 Tryz.results138 Tryz.ntmps139 Tryz.results139 Tryz.ntmps140 Tryz.results140 Tryz.ntmps141 Tryz.results141 Tryz.ntmps142 Tryz.results142 Tryz.ntmps143 Tryz.results143 Tryz.ntmps144 Tryz.results144 Tryz.ntmps145 Tryz.results145 Tryz.ntmps146 Tryz.results146 Tryz.ntmps147 Tryz.results147 Tryz.ntmps148 Tryz.results148
attribute [go_sem] decide_true decide_false Nat.lt_irrefl
end Go.Sk
