/- What the walks ask of the types of this program. -/
import Derived.Test.YtmpockfgppcnbaaSkW
import Derived.Test.YtmpockfgppcnbaaProg
import Derived.KernelRfl
set_option linter.unusedSimpArgs false
set_option linter.unusedVariables false
set_option linter.unusedSectionVars false
namespace Go.Sk
open Go Go.Proofs

theorem ti3 : TI Try.prog 3 = some (false, 1, [.p (.int .i64 0)], 8) := by kernel_rfl
theorem ti4 : TI Try.prog 4 = some (false, 1, [.p (.bool false)], 1) := by kernel_rfl
theorem ti5 : TI Try.prog 5 = some (false, 1, [.p (.int .u8 ((0 : Nat) : Int))], 1) := by kernel_rfl
theorem ti8 : TI Try.prog 8 = some (true, 4, [.p (.int .i64 0), .p (.int .i64 0), .p (.bool false), .p (.int .u8 ((0 : Nat) : Int))], 24) := by kernel_rfl
theorem ti9 : TI Try.prog 9 = some (false, 1, [.p (.str .empty)], 16) := by kernel_rfl
theorem ti10 : TI Try.prog 10 = some (false, 1, [.p (.str .empty)], 16) := by kernel_rfl
theorem ti11 : TI Try.prog 11 = some (false, 1, [.p (.str .empty)], 16) := by kernel_rfl
theorem ti14 : TI Try.prog 14 = some (true, 2, [.p (.str .empty), .p (.int .u64 ((0 : Nat) : Int))], 24) := by kernel_rfl
theorem ti15 : TI Try.prog 15 = some (false, 1, [.nilp], 8) := by kernel_rfl
theorem ti16 : TI Try.prog 16 = some (false, 1, [.nilp], 8) := by kernel_rfl
theorem ti17 : TI Try.prog 17 = some (false, 1, [.nilp], 8) := by kernel_rfl
theorem ti19 : TI Try.prog 19 = some (true, 1, [.nilp], 8) := by kernel_rfl
theorem ti22 : TI Try.prog 22 = some (false, 1, [.nils], 24) := by kernel_rfl
theorem ti23 : TI Try.prog 23 = some (false, 1, [.nils], 24) := by kernel_rfl
theorem ti24 : TI Try.prog 24 = some (false, 1, [.nils], 24) := by kernel_rfl
theorem ti26 : TI Try.prog 26 = some (false, 1, [.nils], 24) := by kernel_rfl
theorem ti27 : TI Try.prog 27 = some (false, 1, [.nils], 24) := by kernel_rfl
theorem ti29 : TI Try.prog 29 = some (true, 3, [.p (.int .i64 0), .p (.int .i64 0), .nils], 40) := by kernel_rfl
theorem ti31 : TI Try.prog 31 = some (false, 1, [.nils], 24) := by kernel_rfl
theorem ti32 : TI Try.prog 32 = some (true, 3, [.p (.int .i64 0), .p (.int .i64 0), .nils], 40) := by kernel_rfl
theorem ti38 : TI Try.prog 38 = some (true, 6, [.p (.int .i64 0), .nils, .nils, .nils, .nils, .p (.int .u8 ((0 : Nat) : Int))], 112) := by kernel_rfl
theorem ti41 : TI Try.prog 41 = some (false, 1, [.p (.int .u64 ((0 : Nat) : Int))], 8) := by kernel_rfl
theorem ti54 : TI Try.prog 54 = some (false, 1, [.nils], 24) := by kernel_rfl
theorem ti55 : TI Try.prog 55 = some (false, 1, [.nils], 24) := by kernel_rfl
theorem ti56 : TI Try.prog 56 = some (false, 1, [.p (.int .i64 0)], 8) := by kernel_rfl
theorem ti63 : TI Try.prog 63 = some (true, 3, [.p (.int .u64 ((0 : Nat) : Int)), .p (.int .u64 ((0 : Nat) : Int)), .p (.int .u64 ((0 : Nat) : Int))], 24) := by kernel_rfl
theorem ti68 : TI Try.prog 68 = some (true, 12, [.p (.int .i64 0), .p (.int .i64 0), .nils, .p (.int .i64 0), .p (.int .i64 0), .nils, .p (.int .i64 0), .p (.int .i64 0), .nils, .p (.int .i64 0), .p (.int .i64 0), .nils], 160) := by kernel_rfl
theorem ti72 : TI Try.prog 72 = some (true, 2, [.p (.int .u64 ((0 : Nat) : Int)), .p (.int .u64 ((0 : Nat) : Int))], 16) := by kernel_rfl
theorem ti74 : TI Try.prog 74 = some (true, 2, [.p (.int .u64 ((0 : Nat) : Int)), .p (.int .u64 ((0 : Nat) : Int))], 16) := by kernel_rfl
theorem ti75 : TI Try.prog 75 = some (false, 1, [.nils], 24) := by kernel_rfl
theorem ti78 : TI Try.prog 78 = some (true, 12, [.p (.int .i64 0), .p (.int .i64 0), .nils, .p (.int .i64 0), .p (.int .i64 0), .nils, .p (.int .i64 0), .p (.int .i64 0), .nils, .p (.int .i64 0), .p (.int .i64 0), .nils], 160) := by kernel_rfl
theorem ti79 : TI Try.prog 79 = some (true, 4, [.p (.int .u64 ((0 : Nat) : Int)), .p (.int .u64 ((0 : Nat) : Int)), .p (.int .u64 ((0 : Nat) : Int)), .p (.int .u64 ((0 : Nat) : Int))], 32) := by kernel_rfl
theorem ti84 : TI Try.prog 84 = some (false, 1, [.p (.int .u64 ((0 : Nat) : Int))], 8) := by kernel_rfl
theorem ti85 : TI Try.prog 85 = some (true, 8, [.p (.int .u64 ((0 : Nat) : Int)), .p (.int .u64 ((0 : Nat) : Int)), .p (.int .u64 ((0 : Nat) : Int)), .p (.int .u64 ((0 : Nat) : Int)), .p (.int .u64 ((0 : Nat) : Int)), .p (.int .u64 ((0 : Nat) : Int)), .p (.int .u64 ((0 : Nat) : Int)), .p (.int .u64 ((0 : Nat) : Int))], 64) := by kernel_rfl
theorem ti88 : TI Try.prog 88 = some (false, 1, [.nilf], 8) := by kernel_rfl
theorem ti90 : TI Try.prog 90 = some (false, 1, [.nilf], 8) := by kernel_rfl
theorem ti92 : TI Try.prog 92 = some (false, 1, [.nilf], 8) := by kernel_rfl
theorem ti94 : TI Try.prog 94 = some (false, 1, [.nilp], 8) := by kernel_rfl
theorem ti96 : TI Try.prog 96 = some (true, 2, [.p (.int .u64 ((0 : Nat) : Int)), .p (.bool false)], 16) := by kernel_rfl
theorem ti98 : TI Try.prog 98 = some (false, 1, [.nils], 24) := by kernel_rfl
theorem ti100 : TI Try.prog 100 = some (false, 1, [.nilf], 8) := by kernel_rfl
theorem ti103 : TI Try.prog 103 = some (true, 2, [.p (.int .u64 ((0 : Nat) : Int)), .p (.int .u64 ((0 : Nat) : Int))], 16) := by kernel_rfl
theorem ti106 : TI Try.prog 106 = some (false, 1, [.nilf], 8) := by kernel_rfl
theorem ti108 : TI Try.prog 108 = some (false, 1, [.nils], 24) := by kernel_rfl
theorem ti111 : TI Try.prog 111 = some (true, 2, [.p (.int .u64 ((0 : Nat) : Int)), .p (.int .u64 ((0 : Nat) : Int))], 16) := by kernel_rfl
theorem ti112 : TI Try.prog 112 = some (false, 1, [.nils], 24) := by kernel_rfl
theorem ti117 : TI Try.prog 117 = some (false, 1, [.nilf], 8) := by kernel_rfl
theorem ti122 : TI Try.prog 122 = some (false, 1, [.nilf], 8) := by kernel_rfl
theorem ti123 : TI Try.prog 123 = some (true, 3, [.nilf, .nilf, .nilf], 24) := by kernel_rfl
theorem ti129 : TI Try.prog 129 = some (false, 1, [.nilf], 8) := by kernel_rfl
theorem ti131 : TI Try.prog 131 = some (false, 1, [.nilf], 8) := by kernel_rfl
theorem ti136 : TI Try.prog 136 = some (false, 1, [.nilf], 8) := by kernel_rfl
theorem ti137 : TI Try.prog 137 = some (false, 1, [.nilf], 8) := by kernel_rfl
theorem ti140 : TI Try.prog 140 = some (true, 2, [.p (.int .u64 ((0 : Nat) : Int)), .p (.bool false)], 16) := by kernel_rfl
theorem ti143 : TI Try.prog 143 = some (false, 1, [.p (.int .i64 0)], 8) := by kernel_rfl
theorem ti151 : TI Try.prog 151 = some (false, 1, [.p (.int .u32 ((0 : Nat) : Int))], 4) := by kernel_rfl
theorem ti152 : TI Try.prog 152 = some (false, 1, [.nilp], 8) := by kernel_rfl
theorem ti154 : TI Try.prog 154 = some (true, 3, [.nils, .p (.int .u64 ((0 : Nat) : Int)), .p (.int .u64 ((0 : Nat) : Int))], 40) := by kernel_rfl
theorem ti155 : TI Try.prog 155 = some (true, 2, [.nils, .nils], 48) := by kernel_rfl
theorem ti160 : TI Try.prog 160 = some (false, 1, [.nilp], 8) := by kernel_rfl
theorem ti161 : TI Try.prog 161 = some (false, 1, [.p (.int .u64 ((0 : Nat) : Int))], 8) := by kernel_rfl
theorem ti164 : TI Try.prog 164 = some (false, 1, [.nilp], 8) := by kernel_rfl
theorem ti166 : TI Try.prog 166 = some (false, 1, [.nilp], 8) := by kernel_rfl
theorem ti177 : TI Try.prog 177 = some (false, 1, [.p (.int .u8 ((0 : Nat) : Int))], 1) := by kernel_rfl
theorem fi29_0 : FI Try.prog 29 0 = some (0, 1, false) := by kernel_rfl
theorem fi29_1 : FI Try.prog 29 1 = some (1, 1, false) := by kernel_rfl
theorem fi29_2 : FI Try.prog 29 2 = some (2, 1, false) := by kernel_rfl
theorem fi32_0 : FI Try.prog 32 0 = some (0, 1, false) := by kernel_rfl
theorem fi32_1 : FI Try.prog 32 1 = some (1, 1, false) := by kernel_rfl
theorem fi32_2 : FI Try.prog 32 2 = some (2, 1, false) := by kernel_rfl
theorem fi38_0 : FI Try.prog 38 0 = some (0, 1, false) := by kernel_rfl
theorem fi38_1 : FI Try.prog 38 1 = some (1, 4, true) := by kernel_rfl
theorem fi38_2 : FI Try.prog 38 2 = some (5, 1, false) := by kernel_rfl
theorem fi63_0 : FI Try.prog 63 0 = some (0, 1, false) := by kernel_rfl
theorem fi63_2 : FI Try.prog 63 2 = some (2, 1, false) := by kernel_rfl
theorem fi72_0 : FI Try.prog 72 0 = some (0, 1, false) := by kernel_rfl
theorem fi72_1 : FI Try.prog 72 1 = some (1, 1, false) := by kernel_rfl
theorem fi74_0 : FI Try.prog 74 0 = some (0, 1, false) := by kernel_rfl
theorem fi74_1 : FI Try.prog 74 1 = some (1, 1, false) := by kernel_rfl
theorem fi96_0 : FI Try.prog 96 0 = some (0, 1, false) := by kernel_rfl
theorem fi96_1 : FI Try.prog 96 1 = some (1, 1, false) := by kernel_rfl
theorem fi103_0 : FI Try.prog 103 0 = some (0, 1, false) := by kernel_rfl
theorem fi103_1 : FI Try.prog 103 1 = some (1, 1, false) := by kernel_rfl
theorem fi111_0 : FI Try.prog 111 0 = some (0, 1, false) := by kernel_rfl
theorem fi111_1 : FI Try.prog 111 1 = some (1, 1, false) := by kernel_rfl
theorem fi140_0 : FI Try.prog 140 0 = some (0, 1, false) := by kernel_rfl
theorem fi140_1 : FI Try.prog 140 1 = some (1, 1, false) := by kernel_rfl
theorem fi154_0 : FI Try.prog 154 0 = some (0, 1, false) := by kernel_rfl
theorem fi154_1 : FI Try.prog 154 1 = some (1, 1, false) := by kernel_rfl
theorem fi154_2 : FI Try.prog 154 2 = some (2, 1, false) := by kernel_rfl
theorem xi22 : XI Try.prog 22 = some (none, 1, 3) := by kernel_rfl
theorem xi23 : XI Try.prog 23 = some (none, 1, 31) := by kernel_rfl
theorem xi24 : XI Try.prog 24 = some (none, 1, 5) := by kernel_rfl
theorem xi26 : XI Try.prog 26 = some (none, 3, 29) := by kernel_rfl
theorem xi27 : XI Try.prog 27 = some (none, 1, 75) := by kernel_rfl
theorem xi31 : XI Try.prog 31 = some (none, 2, 72) := by kernel_rfl
theorem xi36 : XI Try.prog 36 = some (some 4, 1, 31) := by kernel_rfl
theorem xi54 : XI Try.prog 54 = some (none, 3, 63) := by kernel_rfl
theorem xi55 : XI Try.prog 55 = some (none, 3, 32) := by kernel_rfl
theorem xi68 : XI Try.prog 68 = some (some 4, 3, 32) := by kernel_rfl
theorem xi75 : XI Try.prog 75 = some (none, 2, 74) := by kernel_rfl
theorem xi78 : XI Try.prog 78 = some (some 4, 3, 29) := by kernel_rfl
theorem xi79 : XI Try.prog 79 = some (some 4, 1, 41) := by kernel_rfl
theorem xi85 : XI Try.prog 85 = some (some 8, 1, 41) := by kernel_rfl
theorem xi98 : XI Try.prog 98 = some (none, 2, 103) := by kernel_rfl
theorem xi108 : XI Try.prog 108 = some (none, 2, 111) := by kernel_rfl
theorem xi112 : XI Try.prog 112 = some (none, 1, 4) := by kernel_rfl
theorem xi123 : XI Try.prog 123 = some (some 3, 1, 122) := by kernel_rfl
theorem xi155 : XI Try.prog 155 = some (some 2, 1, 75) := by kernel_rfl
theorem bi29 : BI Try.prog 29 = some (.st [(0, 1), (1, 1), (2, 1)]) := by kernel_rfl
theorem bi32 : BI Try.prog 32 = some (.st [(0, 1), (1, 1), (2, 1)]) := by kernel_rfl
theorem bi72 : BI Try.prog 72 = some (.st [(0, 1), (1, 1)]) := by kernel_rfl
theorem bi74 : BI Try.prog 74 = some (.st [(0, 1), (1, 1)]) := by kernel_rfl
theorem bi79 : BI Try.prog 79 = some (.ar 1) := by kernel_rfl
theorem bi85 : BI Try.prog 85 = some (.ar 1) := by kernel_rfl
theorem bi96 : BI Try.prog 96 = some (.st [(0, 1), (1, 1)]) := by kernel_rfl
theorem bi103 : BI Try.prog 103 = some (.st [(0, 1), (1, 1)]) := by kernel_rfl
theorem bi111 : BI Try.prog 111 = some (.st [(0, 1), (1, 1)]) := by kernel_rfl
theorem bi123 : BI Try.prog 123 = some (.ar 1) := by kernel_rfl
theorem bi140 : BI Try.prog 140 = some (.st [(0, 1), (1, 1)]) := by kernel_rfl
theorem bi154 : BI Try.prog 154 = some (.st [(0, 1), (1, 1), (2, 1)]) := by kernel_rfl
theorem bi155 : BI Try.prog 155 = some (.ar 1) := by kernel_rfl
theorem eq74 : EQ Try.prog 74 = some 2 := by kernel_rfl
attribute [go_sem] ti3 ti4 ti5 ti8 ti9 ti10 ti11 ti14 ti15 ti16 ti17 ti19 ti22 ti23 ti24 ti26 ti27 ti29 ti31 ti32 ti38 ti41 ti54 ti55 ti56 ti63 ti68 ti72 ti74 ti75 ti78 ti79 ti84 ti85 ti88 ti90 ti92 ti94 ti96 ti98 ti100 ti103 ti106 ti108 ti111 ti112 ti117 ti122 ti123 ti129 ti131 ti136 ti137 ti140 ti143 ti151 ti152 ti154 ti155 ti160 ti161 ti164 ti166 ti177 fi29_0 fi29_1 fi29_2 fi32_0 fi32_1 fi32_2 fi38_0 fi38_1 fi38_2 fi63_0 fi63_2 fi72_0 fi72_1 fi74_0 fi74_1 fi96_0 fi96_1 fi103_0 fi103_1 fi111_0 fi111_1 fi140_0 fi140_1 fi154_0 fi154_1 fi154_2 xi22 xi23 xi24 xi26 xi27 xi31 xi36 xi54 xi55 xi68 xi75 xi78 xi79 xi85 xi98 xi108 xi112 xi123 xi155 bi29 bi32 bi72 bi74 bi79 bi85 bi96 bi103 bi111 bi123 bi140 bi154 bi155 eq74 Try.underlying3 Try.underlying4 Try.underlying5 Try.underlying9 Try.underlying22 Try.underlying23 Try.underlying24 Try.underlying26 Try.underlying27 Try.underlying29 Try.underlying31 Try.underlying32 Try.underlying36 Try.underlying38 Try.underlying41 Try.underlying54 Try.underlying55 Try.underlying56 Try.underlying63 Try.underlying68 Try.underlying74 Try.underlying75 Try.underlying78 Try.underlying79 Try.underlying84 Try.underlying85 Try.underlying92 Try.underlying94 Try.underlying98 Try.underlying103 Try.underlying106 Try.underlying108 Try.underlying112 Try.underlying123 Try.underlying137 Try.underlying140 Try.underlying143 Try.underlying151 Try.underlying152 Try.underlying155 Try.underlying161 Try.underlying164
attribute [go_sem] Try.ntmps0 Try.results0 Try.ntmps1 Try.results1 Try.ntmps2 Try.results2 Try.ntmps3 Try.results3 Try.ntmps4 Try.results4 Try.ntmps5 Try.results5 Try.ntmps6 Try.results6 Try.ntmps7 Try.results7 Try.ntmps8 Try.results8 Try.ntmps9 Try.results9 Try.ntmps10 Try.results10 Try.ntmps11 Try.results11 Try.ntmps12 Try.results12 Try.ntmps13 Try.results13 Try.ntmps14 Try.results14 Try.ntmps15 Try.results15 Try.ntmps16 Try.results16 Try.ntmps17 Try.results17 Try.ntmps18 Try.results18 Try.ntmps19 Try.results19 Try.ntmps20 Try.results20 Try.ntmps21 Try.results21 Try.ntmps22 Try.results22 Try.ntmps23 Try.results23 Try.ntmps24 Try.results24 Try.ntmps25 Try.results25 Try.ntmps26 Try.results26 Try.ntmps27 Try.results27 Try.ntmps28 Try.results28 Try.ntmps29 Try.results29 Try.ntmps30 Try.results30 Try.ntmps31 Try.results31 Try.ntmps32 Try.results32 Try.ntmps33 Try.results33 Try.ntmps34 Try.results34 Try.ntmps35 Try.results35 Try.ntmps36 Try.results36 Try.ntmps37 Try.results37 Try.ntmps38 Try.results38 Try.ntmps39 Try.results39 Try.ntmps40 Try.results40 Try.ntmps41 Try.results41 Try.ntmps42 Try.results42 Try.ntmps43 Try.results43 Try.ntmps44 Try.results44 Try.ntmps45 Try.results45 Try.ntmps46 Try.results46 Try.ntmps47 Try.results47 Try.ntmps48 Try.results48 Try.ntmps49 Try.results49 Try.ntmps50 Try.results50 Try.ntmps51 Try.results51 Try.ntmps52 Try.results52 Try.ntmps53 Try.results53 Try.ntmps54 Try.results54 Try.ntmps55 Try.results55 Try.ntmps56 Try.results56 Try.ntmps57 Try.results57 Try.ntmps58 Try.results58 Try.ntmps59 Try.results59 Try.ntmps60 Try.results60 Try.ntmps61 Try.results61 Try.ntmps62 Try.results62 Try.ntmps63 Try.results63 Try.ntmps64 Try.results64 Try.ntmps65 Try.results65 Try.ntmps66 Try.results66 Try.ntmps67 Try.results67 Try.ntmps68 Try.results68 Try.ntmps69 Try.results69 Try.ntmps70 Try.results70 Try.ntmps71 Try.results71 Try.ntmps72 Try.results72 Try.ntmps73 Try.results73 Try.ntmps74 Try.results74 Try.ntmps75 Try.results75 Try.ntmps76 Try.results76 Try.ntmps77 Try.results77 Try.ntmps78 Try.results78 Try.ntmps79 Try.results79 Try.ntmps80 Try.results80 Try.ntmps81 Try.results81 Try.ntmps82 Try.results82 Try.ntmps83 Try.results83 Try.ntmps84 Try.results84 Try.ntmps85 Try.results85 Try.ntmps86 Try.results86 Try.ntmps87 Try.results87 Try.ntmps88 Try.results88 Try.ntmps89 Try.results89 Try.ntmps90 Try.results90 Try.ntmps91 Try.results91 Try.ntmps92 Try.results92 Try.ntmps93 Try.results93 Try.ntmps94 Try.results94 Try.ntmps95 Try.results95 Try.ntmps96 Try.results96 Try.ntmps97 Try.results97 Try.ntmps98 Try.results98 Try.ntmps99 Try.results99 Try.ntmps100 Try.results100 Try.ntmps101 Try.results101 Try.ntmps102 Try.results102 Try.ntmps103 Try.results103 Try.ntmps104 Try.results104 Try.ntmps105 Try.results105 Try.ntmps106 Try.results106 Try.ntmps107 Try.results107 Try.ntmps108 Try.results108 Try.ntmps109 Try.results109 Try.ntmps110 Try.results110 Try.ntmps111 Try.results111 Try.ntmps112 Try.results112 Try.ntmps113 Try.results113 Try.ntmps114 Try.results114 Try.ntmps115 Try.results115 Try.ntmps116 Try.results116 Try.ntmps117 Try.results117
attribute [go_sem] decide_true decide_false Nat.lt_irrefl
end Go.Sk
