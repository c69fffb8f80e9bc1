/- What the walks ask of the types of this program. -/
import Derived.Test.YtlbjacoigdpgfaaGreatSkW
import Derived.Test.YtlbjacoigdpgfaaGreatProg
import Derived.KernelRfl
set_option linter.unusedSimpArgs false
set_option linter.unusedVariables false
set_option linter.unusedSectionVars false
namespace Go.Sk
open Go Go.Proofs

theorem ti3 : TI Tryz.prog 3 = some (false, 1, [.p (.int .i64 0)], 8) := by kernel_rfl
theorem ti4 : TI Tryz.prog 4 = some (false, 1, [.p (.bool false)], 1) := by kernel_rfl
theorem ti8 : TI Tryz.prog 8 = some (true, 4, [.p (.int .i64 0), .p (.int .i64 0), .p (.bool false), .p (.int .u8 ((0 : Nat) : Int))], 24) := by kernel_rfl
theorem ti9 : TI Tryz.prog 9 = some (false, 1, [.p (.str .empty)], 16) := by kernel_rfl
theorem ti10 : TI Tryz.prog 10 = some (false, 1, [.p (.str .empty)], 16) := by kernel_rfl
theorem ti11 : TI Tryz.prog 11 = some (false, 1, [.p (.str .empty)], 16) := by kernel_rfl
theorem ti14 : TI Tryz.prog 14 = some (true, 2, [.p (.str .empty), .p (.int .u64 ((0 : Nat) : Int))], 24) := by kernel_rfl
theorem ti15 : TI Tryz.prog 15 = some (false, 1, [.nilp], 8) := by kernel_rfl
theorem ti16 : TI Tryz.prog 16 = some (false, 1, [.nilp], 8) := by kernel_rfl
theorem ti17 : TI Tryz.prog 17 = some (false, 1, [.nilp], 8) := by kernel_rfl
theorem ti19 : TI Tryz.prog 19 = some (true, 1, [.nilp], 8) := by kernel_rfl
theorem ti22 : TI Tryz.prog 22 = some (false, 1, [.p (.int .u64 ((0 : Nat) : Int))], 8) := by kernel_rfl
theorem ti23 : TI Tryz.prog 23 = some (false, 1, [.nils], 24) := by kernel_rfl
theorem ti25 : TI Tryz.prog 25 = some (true, 9, [.p (.int .i64 0), .p (.int .i64 0), .p (.int .u64 ((0 : Nat) : Int)), .p (.int .u64 ((0 : Nat) : Int)), .p (.int .i64 0), .p (.int .i64 0), .nils, .p (.int .i64 0), .p (.int .i64 0)], 88) := by kernel_rfl
theorem ti26 : TI Tryz.prog 26 = some (false, 1, [.nils], 24) := by kernel_rfl
theorem ti27 : TI Tryz.prog 27 = some (true, 3, [.p (.int .u64 ((0 : Nat) : Int)), .p (.int .u64 ((0 : Nat) : Int)), .p (.int .u64 ((0 : Nat) : Int))], 24) := by kernel_rfl
theorem ti29 : TI Tryz.prog 29 = some (false, 1, [.nils], 24) := by kernel_rfl
theorem ti31 : TI Tryz.prog 31 = some (true, 5, [.p (.int .u64 ((0 : Nat) : Int)), .p (.int .i64 0), .p (.int .u64 ((0 : Nat) : Int)), .p (.int .u64 ((0 : Nat) : Int)), .nils], 56) := by kernel_rfl
theorem ti32 : TI Tryz.prog 32 = some (false, 1, [.nils], 24) := by kernel_rfl
theorem ti33 : TI Tryz.prog 33 = some (false, 1, [.nils], 24) := by kernel_rfl
theorem ti35 : TI Tryz.prog 35 = some (true, 3, [.p (.int .i64 0), .p (.int .i64 0), .nils], 40) := by kernel_rfl
theorem ti37 : TI Tryz.prog 37 = some (true, 6, [.p (.int .i64 0), .nils, .nils, .p (.int .i64 0), .p (.int .i64 0), .nils], 96) := by kernel_rfl
theorem ti39 : TI Tryz.prog 39 = some (true, 12, [.p (.int .u64 ((0 : Nat) : Int)), .p (.int .u64 ((0 : Nat) : Int)), .p (.int .i64 0), .p (.int .u64 ((0 : Nat) : Int)), .p (.int .u64 ((0 : Nat) : Int)), .nils, .p (.int .i64 0), .nils, .nils, .p (.int .i64 0), .p (.int .i64 0), .nils], 160) := by kernel_rfl
theorem ti40 : TI Tryz.prog 40 = some (false, 1, [.p (.int .i64 0)], 8) := by kernel_rfl
theorem ti45 : TI Tryz.prog 45 = some (true, 5, [.p (.int .u64 ((0 : Nat) : Int)), .p (.int .i64 0), .p (.int .u64 ((0 : Nat) : Int)), .p (.int .u64 ((0 : Nat) : Int)), .nils], 56) := by kernel_rfl
theorem ti46 : TI Tryz.prog 46 = some (false, 1, [.nils], 24) := by kernel_rfl
theorem ti47 : TI Tryz.prog 47 = some (true, 3, [.p (.int .i64 0), .p (.int .i64 0), .nils], 40) := by kernel_rfl
theorem ti49 : TI Tryz.prog 49 = some (true, 6, [.p (.int .i64 0), .nils, .nils, .p (.int .i64 0), .p (.int .i64 0), .nils], 96) := by kernel_rfl
theorem ti51 : TI Tryz.prog 51 = some (true, 12, [.p (.int .u64 ((0 : Nat) : Int)), .p (.int .u64 ((0 : Nat) : Int)), .p (.int .i64 0), .p (.int .u64 ((0 : Nat) : Int)), .p (.int .u64 ((0 : Nat) : Int)), .nils, .p (.int .i64 0), .nils, .nils, .p (.int .i64 0), .p (.int .i64 0), .nils], 160) := by kernel_rfl
theorem ti65 : TI Tryz.prog 65 = some (true, 2, [.p (.int .u64 ((0 : Nat) : Int)), .p (.int .u64 ((0 : Nat) : Int))], 16) := by kernel_rfl
theorem ti68 : TI Tryz.prog 68 = some (true, 3, [.p (.int .u64 ((0 : Nat) : Int)), .p (.int .u64 ((0 : Nat) : Int)), .p (.int .u64 ((0 : Nat) : Int))], 24) := by kernel_rfl
theorem ti70 : TI Tryz.prog 70 = some (true, 3, [.p (.int .u64 ((0 : Nat) : Int)), .p (.int .u64 ((0 : Nat) : Int)), .p (.int .u64 ((0 : Nat) : Int))], 24) := by kernel_rfl
theorem ti77 : TI Tryz.prog 77 = some (true, 2, [.p (.int .u64 ((0 : Nat) : Int)), .p (.int .u64 ((0 : Nat) : Int))], 16) := by kernel_rfl
theorem ti88 : TI Tryz.prog 88 = some (false, 1, [.nilf], 8) := by kernel_rfl
theorem ti90 : TI Tryz.prog 90 = some (false, 1, [.nils], 24) := by kernel_rfl
theorem ti92 : TI Tryz.prog 92 = some (false, 1, [.nilf], 8) := by kernel_rfl
theorem ti101 : TI Tryz.prog 101 = some (true, 4, [.p (.int .u64 ((0 : Nat) : Int)), .p (.int .u64 ((0 : Nat) : Int)), .p (.int .i64 0), .p (.int .i64 0)], 32) := by kernel_rfl
theorem ti109 : TI Tryz.prog 109 = some (true, 3, [.p (.int .i64 0), .p (.int .i64 0), .nils], 40) := by kernel_rfl
theorem ti122 : TI Tryz.prog 122 = some (false, 1, [.nilf], 8) := by kernel_rfl
theorem ti124 : TI Tryz.prog 124 = some (false, 1, [.nils], 24) := by kernel_rfl
theorem ti126 : TI Tryz.prog 126 = some (false, 1, [.nilf], 8) := by kernel_rfl
theorem ti127 : TI Tryz.prog 127 = some (false, 1, [.nils], 24) := by kernel_rfl
theorem ti131 : TI Tryz.prog 131 = some (false, 1, [.nilf], 8) := by kernel_rfl
theorem ti132 : TI Tryz.prog 132 = some (false, 1, [.nils], 24) := by kernel_rfl
theorem ti134 : TI Tryz.prog 134 = some (false, 1, [.nilf], 8) := by kernel_rfl
theorem ti137 : TI Tryz.prog 137 = some (false, 1, [.nilf], 8) := by kernel_rfl
theorem ti143 : TI Tryz.prog 143 = some (false, 1, [.p (.int .u64 ((0 : Nat) : Int))], 8) := by kernel_rfl
theorem ti150 : TI Tryz.prog 150 = some (false, 1, [.nils], 24) := by kernel_rfl
theorem ti157 : TI Tryz.prog 157 = some (false, 1, [.nils], 24) := by kernel_rfl
theorem ti161 : TI Tryz.prog 161 = some (false, 1, [.nils], 24) := by kernel_rfl
theorem ti166 : TI Tryz.prog 166 = some (false, 1, [.nilf], 8) := by kernel_rfl
theorem ti167 : TI Tryz.prog 167 = some (false, 1, [.nilf], 8) := by kernel_rfl
theorem ti174 : TI Tryz.prog 174 = some (false, 1, [.nilf], 8) := by kernel_rfl
theorem ti178 : TI Tryz.prog 178 = some (false, 1, [.nilf], 8) := by kernel_rfl
theorem ti181 : TI Tryz.prog 181 = some (true, 2, [.p (.int .u64 ((0 : Nat) : Int)), .p (.int .u64 ((0 : Nat) : Int))], 16) := by kernel_rfl
theorem ti182 : TI Tryz.prog 182 = some (false, 1, [.nils], 24) := by kernel_rfl
theorem ti193 : TI Tryz.prog 193 = some (false, 1, [.nilp], 8) := by kernel_rfl
theorem ti195 : TI Tryz.prog 195 = some (true, 4, [.p (.int .u64 ((0 : Nat) : Int)), .p (.int .u64 ((0 : Nat) : Int)), .p (.int .u64 ((0 : Nat) : Int)), .p (.int .i64 0)], 32) := by kernel_rfl
theorem ti197 : TI Tryz.prog 197 = some (false, 1, [.nilp], 8) := by kernel_rfl
theorem ti200 : TI Tryz.prog 200 = some (false, 1, [.nilf], 8) := by kernel_rfl
theorem ti204 : TI Tryz.prog 204 = some (false, 1, [.p (.int .u32 ((0 : Nat) : Int))], 4) := by kernel_rfl
theorem ti208 : TI Tryz.prog 208 = some (false, 1, [.nilf], 8) := by kernel_rfl
theorem ti210 : TI Tryz.prog 210 = some (false, 1, [.nilf], 8) := by kernel_rfl
theorem ti218 : TI Tryz.prog 218 = some (false, 1, [.nilf], 8) := by kernel_rfl
theorem ti229 : TI Tryz.prog 229 = some (false, 1, [.nilf], 8) := by kernel_rfl
theorem ti231 : TI Tryz.prog 231 = some (false, 1, [.nilf], 8) := by kernel_rfl
theorem ti232 : TI Tryz.prog 232 = some (false, 1, [.nilp], 8) := by kernel_rfl
theorem ti234 : TI Tryz.prog 234 = some (true, 3, [.nils, .p (.int .u64 ((0 : Nat) : Int)), .p (.int .u64 ((0 : Nat) : Int))], 40) := by kernel_rfl
theorem ti235 : TI Tryz.prog 235 = some (true, 2, [.nils, .nils], 48) := by kernel_rfl
theorem ti247 : TI Tryz.prog 247 = some (false, 1, [.p (.int .u8 ((0 : Nat) : Int))], 1) := by kernel_rfl
theorem fi25_1 : FI Tryz.prog 25 1 = some (1, 1, false) := by kernel_rfl
theorem fi25_2 : FI Tryz.prog 25 2 = some (2, 1, false) := by kernel_rfl
theorem fi25_3 : FI Tryz.prog 25 3 = some (3, 1, false) := by kernel_rfl
theorem fi25_4 : FI Tryz.prog 25 4 = some (4, 1, false) := by kernel_rfl
theorem fi25_5 : FI Tryz.prog 25 5 = some (5, 1, false) := by kernel_rfl
theorem fi25_6 : FI Tryz.prog 25 6 = some (6, 1, false) := by kernel_rfl
theorem fi31_0 : FI Tryz.prog 31 0 = some (0, 1, false) := by kernel_rfl
theorem fi31_1 : FI Tryz.prog 31 1 = some (1, 1, false) := by kernel_rfl
theorem fi31_2 : FI Tryz.prog 31 2 = some (2, 1, false) := by kernel_rfl
theorem fi31_3 : FI Tryz.prog 31 3 = some (3, 1, false) := by kernel_rfl
theorem fi31_4 : FI Tryz.prog 31 4 = some (4, 1, false) := by kernel_rfl
theorem fi35_0 : FI Tryz.prog 35 0 = some (0, 1, false) := by kernel_rfl
theorem fi35_1 : FI Tryz.prog 35 1 = some (1, 1, false) := by kernel_rfl
theorem fi35_2 : FI Tryz.prog 35 2 = some (2, 1, false) := by kernel_rfl
theorem fi37_0 : FI Tryz.prog 37 0 = some (0, 1, false) := by kernel_rfl
theorem fi37_1 : FI Tryz.prog 37 1 = some (1, 1, false) := by kernel_rfl
theorem fi37_2 : FI Tryz.prog 37 2 = some (2, 1, false) := by kernel_rfl
theorem fi37_3 : FI Tryz.prog 37 3 = some (3, 3, true) := by kernel_rfl
theorem fi39_0 : FI Tryz.prog 39 0 = some (0, 1, false) := by kernel_rfl
theorem fi39_1 : FI Tryz.prog 39 1 = some (1, 5, true) := by kernel_rfl
theorem fi39_2 : FI Tryz.prog 39 2 = some (6, 6, true) := by kernel_rfl
theorem fi45_0 : FI Tryz.prog 45 0 = some (0, 1, false) := by kernel_rfl
theorem fi45_1 : FI Tryz.prog 45 1 = some (1, 1, false) := by kernel_rfl
theorem fi45_2 : FI Tryz.prog 45 2 = some (2, 1, false) := by kernel_rfl
theorem fi45_3 : FI Tryz.prog 45 3 = some (3, 1, false) := by kernel_rfl
theorem fi45_4 : FI Tryz.prog 45 4 = some (4, 1, false) := by kernel_rfl
theorem fi47_0 : FI Tryz.prog 47 0 = some (0, 1, false) := by kernel_rfl
theorem fi47_1 : FI Tryz.prog 47 1 = some (1, 1, false) := by kernel_rfl
theorem fi47_2 : FI Tryz.prog 47 2 = some (2, 1, false) := by kernel_rfl
theorem fi49_0 : FI Tryz.prog 49 0 = some (0, 1, false) := by kernel_rfl
theorem fi49_1 : FI Tryz.prog 49 1 = some (1, 1, false) := by kernel_rfl
theorem fi49_2 : FI Tryz.prog 49 2 = some (2, 1, false) := by kernel_rfl
theorem fi49_3 : FI Tryz.prog 49 3 = some (3, 3, true) := by kernel_rfl
theorem fi51_0 : FI Tryz.prog 51 0 = some (0, 1, false) := by kernel_rfl
theorem fi51_1 : FI Tryz.prog 51 1 = some (1, 5, true) := by kernel_rfl
theorem fi51_2 : FI Tryz.prog 51 2 = some (6, 6, true) := by kernel_rfl
theorem fi68_0 : FI Tryz.prog 68 0 = some (0, 1, false) := by kernel_rfl
theorem fi68_1 : FI Tryz.prog 68 1 = some (1, 1, false) := by kernel_rfl
theorem fi68_2 : FI Tryz.prog 68 2 = some (2, 1, false) := by kernel_rfl
theorem fi70_0 : FI Tryz.prog 70 0 = some (0, 3, true) := by kernel_rfl
theorem fi77_0 : FI Tryz.prog 77 0 = some (0, 1, false) := by kernel_rfl
theorem fi77_1 : FI Tryz.prog 77 1 = some (1, 1, false) := by kernel_rfl
theorem fi101_0 : FI Tryz.prog 101 0 = some (0, 2, true) := by kernel_rfl
theorem fi101_1 : FI Tryz.prog 101 1 = some (2, 1, false) := by kernel_rfl
theorem fi101_2 : FI Tryz.prog 101 2 = some (3, 1, false) := by kernel_rfl
theorem fi109_0 : FI Tryz.prog 109 0 = some (0, 1, false) := by kernel_rfl
theorem fi109_1 : FI Tryz.prog 109 1 = some (1, 1, false) := by kernel_rfl
theorem fi109_2 : FI Tryz.prog 109 2 = some (2, 1, false) := by kernel_rfl
theorem fi181_0 : FI Tryz.prog 181 0 = some (0, 1, false) := by kernel_rfl
theorem fi181_1 : FI Tryz.prog 181 1 = some (1, 1, false) := by kernel_rfl
theorem fi195_0 : FI Tryz.prog 195 0 = some (0, 3, true) := by kernel_rfl
theorem fi195_1 : FI Tryz.prog 195 1 = some (3, 1, false) := by kernel_rfl
theorem fi234_0 : FI Tryz.prog 234 0 = some (0, 1, false) := by kernel_rfl
theorem fi234_1 : FI Tryz.prog 234 1 = some (1, 1, false) := by kernel_rfl
theorem fi234_2 : FI Tryz.prog 234 2 = some (2, 1, false) := by kernel_rfl
theorem xi23 : XI Tryz.prog 23 = some (none, 2, 77) := by kernel_rfl
theorem xi26 : XI Tryz.prog 26 = some (none, 3, 70) := by kernel_rfl
theorem xi27 : XI Tryz.prog 27 = some (some 3, 1, 22) := by kernel_rfl
theorem xi29 : XI Tryz.prog 29 = some (none, 3, 68) := by kernel_rfl
theorem xi32 : XI Tryz.prog 32 = some (none, 1, 124) := by kernel_rfl
theorem xi33 : XI Tryz.prog 33 = some (none, 1, 182) := by kernel_rfl
theorem xi46 : XI Tryz.prog 46 = some (none, 1, 127) := by kernel_rfl
theorem xi65 : XI Tryz.prog 65 = some (some 2, 1, 22) := by kernel_rfl
theorem xi90 : XI Tryz.prog 90 = some (none, 1, 22) := by kernel_rfl
theorem xi124 : XI Tryz.prog 124 = some (none, 3, 35) := by kernel_rfl
theorem xi127 : XI Tryz.prog 127 = some (none, 3, 47) := by kernel_rfl
theorem xi132 : XI Tryz.prog 132 = some (none, 1, 3) := by kernel_rfl
theorem xi150 : XI Tryz.prog 150 = some (none, 6, 49) := by kernel_rfl
theorem xi157 : XI Tryz.prog 157 = some (none, 6, 37) := by kernel_rfl
theorem xi161 : XI Tryz.prog 161 = some (none, 1, 29) := by kernel_rfl
theorem xi182 : XI Tryz.prog 182 = some (none, 2, 181) := by kernel_rfl
theorem xi235 : XI Tryz.prog 235 = some (some 2, 1, 182) := by kernel_rfl
theorem bi25 : BI Tryz.prog 25 = some (.st [(0, 1), (1, 1), (2, 1), (3, 1), (4, 1), (5, 1), (6, 1), (7, 1), (8, 1)]) := by kernel_rfl
theorem bi31 : BI Tryz.prog 31 = some (.st [(0, 1), (1, 1), (2, 1), (3, 1), (4, 1)]) := by kernel_rfl
theorem bi35 : BI Tryz.prog 35 = some (.st [(0, 1), (1, 1), (2, 1)]) := by kernel_rfl
theorem bi37 : BI Tryz.prog 37 = some (.st [(0, 1), (1, 1), (2, 1), (3, 3)]) := by kernel_rfl
theorem bi39 : BI Tryz.prog 39 = some (.st [(0, 1), (1, 5), (6, 6)]) := by kernel_rfl
theorem bi45 : BI Tryz.prog 45 = some (.st [(0, 1), (1, 1), (2, 1), (3, 1), (4, 1)]) := by kernel_rfl
theorem bi47 : BI Tryz.prog 47 = some (.st [(0, 1), (1, 1), (2, 1)]) := by kernel_rfl
theorem bi49 : BI Tryz.prog 49 = some (.st [(0, 1), (1, 1), (2, 1), (3, 3)]) := by kernel_rfl
theorem bi51 : BI Tryz.prog 51 = some (.st [(0, 1), (1, 5), (6, 6)]) := by kernel_rfl
theorem bi65 : BI Tryz.prog 65 = some (.ar 1) := by kernel_rfl
theorem bi68 : BI Tryz.prog 68 = some (.st [(0, 1), (1, 1), (2, 1)]) := by kernel_rfl
theorem bi77 : BI Tryz.prog 77 = some (.st [(0, 1), (1, 1)]) := by kernel_rfl
theorem bi101 : BI Tryz.prog 101 = some (.st [(0, 2), (2, 1), (3, 1)]) := by kernel_rfl
theorem bi109 : BI Tryz.prog 109 = some (.st [(0, 1), (1, 1), (2, 1)]) := by kernel_rfl
theorem bi181 : BI Tryz.prog 181 = some (.st [(0, 1), (1, 1)]) := by kernel_rfl
theorem bi195 : BI Tryz.prog 195 = some (.st [(0, 3), (3, 1)]) := by kernel_rfl
theorem bi234 : BI Tryz.prog 234 = some (.st [(0, 1), (1, 1), (2, 1)]) := by kernel_rfl
theorem bi235 : BI Tryz.prog 235 = some (.ar 1) := by kernel_rfl
theorem eq68 : EQ Tryz.prog 68 = some 3 := by kernel_rfl
theorem eq77 : EQ Tryz.prog 77 = some 2 := by kernel_rfl
theorem eq181 : EQ Tryz.prog 181 = some 2 := by kernel_rfl
attribute [go_sem] ti3 ti4 ti8 ti9 ti10 ti11 ti14 ti15 ti16 ti17 ti19 ti22 ti23 ti25 ti26 ti27 ti29 ti31 ti32 ti33 ti35 ti37 ti39 ti40 ti45 ti46 ti47 ti49 ti51 ti65 ti68 ti70 ti77 ti88 ti90 ti92 ti101 ti109 ti122 ti124 ti126 ti127 ti131 ti132 ti134 ti137 ti143 ti150 ti157 ti161 ti166 ti167 ti174 ti178 ti181 ti182 ti193 ti195 ti197 ti200 ti204 ti208 ti210 ti218 ti229 ti231 ti232 ti234 ti235 ti247 fi25_1 fi25_2 fi25_3 fi25_4 fi25_5 fi25_6 fi31_0 fi31_1 fi31_2 fi31_3 fi31_4 fi35_0 fi35_1 fi35_2 fi37_0 fi37_1 fi37_2 fi37_3 fi39_0 fi39_1 fi39_2 fi45_0 fi45_1 fi45_2 fi45_3 fi45_4 fi47_0 fi47_1 fi47_2 fi49_0 fi49_1 fi49_2 fi49_3 fi51_0 fi51_1 fi51_2 fi68_0 fi68_1 fi68_2 fi70_0 fi77_0 fi77_1 fi101_0 fi101_1 fi101_2 fi109_0 fi109_1 fi109_2 fi181_0 fi181_1 fi195_0 fi195_1 fi234_0 fi234_1 fi234_2 xi23 xi26 xi27 xi29 xi32 xi33 xi46 xi65 xi90 xi124 xi127 xi132 xi150 xi157 xi161 xi182 xi235 bi25 bi31 bi35 bi37 bi39 bi45 bi47 bi49 bi51 bi65 bi68 bi77 bi101 bi109 bi181 bi195 bi234 bi235 eq68 eq77 eq181 Tryz.underlying3 Tryz.underlying22 Tryz.underlying23 Tryz.underlying25 Tryz.underlying26 Tryz.underlying27 Tryz.underlying29 Tryz.underlying31 Tryz.underlying32 Tryz.underlying33 Tryz.underlying35 Tryz.underlying37 Tryz.underlying39 Tryz.underlying40 Tryz.underlying45 Tryz.underlying46 Tryz.underlying47 Tryz.underlying49 Tryz.underlying51 Tryz.underlying65 Tryz.underlying68 Tryz.underlying77 Tryz.underlying90 Tryz.underlying101 Tryz.underlying109 Tryz.underlying122 Tryz.underlying124 Tryz.underlying127 Tryz.underlying132 Tryz.underlying134 Tryz.underlying137 Tryz.underlying143 Tryz.underlying150 Tryz.underlying157 Tryz.underlying161 Tryz.underlying166 Tryz.underlying167 Tryz.underlying181 Tryz.underlying182 Tryz.underlying193 Tryz.underlying197 Tryz.underlying204 Tryz.underlying208 Tryz.underlying232 Tryz.underlying235
attribute [go_sem] Tryz.ntmps0 Tryz.results0 Tryz.ntmps1 Tryz.results1 Tryz.ntmps2 Tryz.results2 Tryz.ntmps3 Tryz.results3 Tryz.ntmps4 Tryz.results4 Tryz.ntmps5 Tryz.results5 Tryz.ntmps6 Tryz.results6 Tryz.ntmps7 Tryz.results7 Tryz.ntmps8 Tryz.results8 Tryz.ntmps9 Tryz.results9 Tryz.ntmps10 Tryz.results10 Tryz.ntmps11 Tryz.results11 Tryz.ntmps12 Tryz.results12 Tryz.ntmps13 Tryz.results13 Tryz.ntmps14 Tryz.results14 Tryz.ntmps15 Tryz.results15 Tryz.ntmps16 Tryz.results16 Tryz.ntmps17 Tryz.results17 Tryz.ntmps18 Tryz.results18 Tryz.ntmps19 Tryz.results19 Tryz.ntmps20 Tryz.results20 Tryz.ntmps21 Tryz.results21 Tryz.ntmps22 Tryz.results22 Tryz.ntmps23 Tryz.results23 Tryz.ntmps24 Tryz.results24 Tryz.ntmps25 Tryz.results25 Tryz.ntmps26 Tryz.results26 Tryz.ntmps27 Tryz.results27 Tryz.ntmps28 Tryz.results28 Tryz.ntmps29 Tryz.results29 Tryz.ntmps30 Tryz.results30 Tryz.ntmps31 Tryz.results31 Tryz.ntmps32 Tryz.results32 Tryz.ntmps33 Tryz.results33 Tryz.ntmps34 Tryz.results34 Tryz.ntmps35 Tryz.results35 Tryz.ntmps36 Tryz.results36 Tryz.ntmps37 Tryz.results37 Tryz.ntmps38 Tryz.results38 Tryz.ntmps39 Tryz.results39 Tryz.ntmps40 Tryz.results40 Tryz.ntmps41 Tryz.results41 Tryz.ntmps42 Tryz.results42 Tryz.ntmps43 Tryz.results43 Tryz.ntmps44 Tryz.results44 Tryz.ntmps45 Tryz.results45 Tryz.ntmps46 Tryz.results46 Tryz.ntmps47 Tryz.results47 Tryz.ntmps48 Tryz.results48 Tryz.ntmps49 Tryz.results49 Tryz.ntmps50 Tryz.results50 Tryz.ntmps51 Tryz.results51 Tryz.ntmps52 Tryz.results52 Tryz.ntmps53 Tryz.results53 Tryz.ntmps54 Tryz.results54 Tryz.ntmps55 Tryz.results55 Tryz.ntmps56 Tryz.results56 Tryz.ntmps57 Tryz.results57 Tryz.ntmps58 Tryz.results58 Tryz.ntmps59 Tryz.results59 Tryz.ntmps60 Tryz.results60 Tryz.ntmps61 Tryz.results61 Tryz.ntmps62 Tryz.results62 Tryz.ntmps63 Tryz.results63 Tryz.ntmps64 Tryz.results64 Tryz.ntmps65 Tryz.results65 Tryz.ntmps66 Tryz.results66 Tryz.ntmps67 Tryz.results67 Tryz.ntmps68 Tryz.results68 Tryz.ntmps69 Tryz.results69 Tryz.ntmps70 Tryz.results70 Tryz.ntmps71 Tryz.results71 Tryz.ntmps72 Tryz.results72 Tryz.ntmps73 Tryz.results73 Tryz.ntmps74 Tryz.results74 Tryz.ntmps75 Tryz.results75 Tryz.ntmps76 Tryz.results76 Tryz.ntmps77 Tryz.results77 Tryz.ntmps78 Tryz.results78 Tryz.ntmps79 Tryz.results79 Tryz.ntmps80 Tryz.results80 Tryz.ntmps81 Tryz.results81 Tryz.ntmps82 Tryz.results82 Tryz.ntmps83 Tryz.results83 Tryz.ntmps84 Tryz.results84 Tryz.ntmps85 Tryz.results85 Tryz.ntmps86 Tryz.results86 Tryz.ntmps87 Tryz.results87 Tryz.ntmps88 Tryz.results88 Tryz.ntmps89 Tryz.results89 Tryz.ntmps90 Tryz.results90 Tryz.ntmps91 Tryz.results91 Tryz.ntmps92 Tryz.results92 Tryz.ntmps93 Tryz.results93 Tryz.ntmps94 Tryz.results94 Tryz.ntmps95 Tryz.results95 Tryz.ntmps96 Tryz.results96 Tryz.ntmps97 Tryz.results97 Tryz.ntmps98 Tryz.results98 Tryz.ntmps99 Tryz.results99 Tryz.ntmps100 Tryz.results100 Tryz.ntmps101 Tryz.results101 Tryz.ntmps102 Tryz.results102 Tryz.ntmps103 Tryz.results103 Tryz.ntmps104 Tryz.results104 Tryz.ntmps105 Tryz.results105 Tryz.ntmps106 Tryz.results106 Tryz.ntmps107 Tryz.results107 Tryz.ntmps108 Tryz.results108 Tryz.ntmps109 Tryz.results109 Tryz.ntmps110 Tryz.results110 Tryz.ntmps111 Tryz.results111 Tryz.ntmps112 Tryz.results112 Tryz.ntmps113 Tryz.results113 Tryz.ntmps114 Tryz.results114 Tryz.ntmps115 Tryz.results115 Tryz.ntmps116 Tryz.results116 Tryz.ntmps117 Tryz.results117 Tryz.ntmps118 Tryz.results118 Tryz.ntmps119 Tryz.results119 Tryz.ntmps120 Tryz.results120 Tryz.ntmps121 Tryz.results121 Tryz.ntmps122 Tryz.results122 Tryz.ntmps123 Tryz.results123 Tryz.ntmps124 Tryz.results124 Tryz.ntmps125 Tryz.results125 Tryz.ntmps126 Tryz.results126 Tryz.ntmps127 Tryz.results127 Tryz.ntmps128 Tryz.results128 Tryz.ntmps129 Tryz.results129 Tryz.ntmps130 Tryz.results130 Tryz.ntmps131 Tryz.results131 Tryz.ntmps132 Tryz.results132 Tryz.ntmps133 Tryz.results133 Tryz.ntmps134 Tryz.results134 Tryz.ntmps135 Tryz.results135 Tryz.ntmps136 Tryz.results136 Tryz.ntmps137 Tryz.results137 Tryz.ntmps138 Tryz.results138 Tryz.ntmps139 Tryz.results139 Tryz.ntmps140 Tryz.results140 Tryz.ntmps141 Tryz.results141 Tryz.ntmps142 Tryz.results142 Tryz.ntmps143 Tryz.results143 Tryz.ntmps144 Tryz.results144 Tryz.ntmps145 Tryz.results145 Tryz.ntmps146 Tryz.results146 Tryz.ntmps147 Tryz.results147 Tryz.ntmps148 Tryz.results148 Tryz.ntmps149 Tryz.results149 Tryz.ntmps150 Tryz.results150 Tryz.ntmps151 Tryz.results151 Tryz.ntmps152 Tryz.results152 Tryz.ntmps153 Tryz.results153 Tryz.ntmps154 Tryz.results154 Tryz.ntmps155 Tryz.results155 Tryz.ntmps156 Tryz.results156 Tryz.ntmps157 Tryz.results157 Tryz.ntmps158 Tryz.results158 Tryz.ntmps159 Tryz.results159 Tryz.ntmps160 Tryz.results160 Tryz.ntmps161 Tryz.results161 Tryz.ntmps162 Tryz.results162 Tryz.ntmps163 Tryz.results163 Tryz.ntmps164 Tryz.results164 Tryz.ntmps165 Tryz.results165 Tryz.ntmps166 Tryz.results166 Tryz.ntmps167 Tryz.results167 Tryz.ntmps168 Tryz.results168 Tryz.ntmps169 Tryz.results169 Tryz.ntmps170 Tryz.results170 Tryz.ntmps171 Tryz.results171 Tryz.ntmps172 Tryz.results172 Tryz.ntmps173 Tryz.results173 Tryz.ntmps174 Tryz.results174 Tryz.ntmps175 Tryz.results175 Tryz.ntmps176 Tryz.results176 Tryz.ntmps177 Tryz.results177 Tryz.ntmps178 Tryz.results178 Tryz.ntmps179 Tryz.results179 Tryz.ntmps180 Tryz.results180 Tryz.ntmps181 Tryz.results181 Tryz.ntmps182 Tryz.results182 Tryz.ntmps183 Tryz.results183
attribute [go_sem] decide_true decide_false Nat.lt_irrefl
end Go.Sk
