/- What the walks ask of the types of this program. -/
import Derived.Test.YthpfcfacofakoaaGreatSkW
import Derived.Test.YthpfcfacofakoaaGreatProg
import Derived.KernelRfl
set_option linter.unusedSimpArgs false
set_option linter.unusedVariables false
set_option linter.unusedSectionVars false
namespace Go.Sk
open Go Go.Proofs

theorem ti3 : TI Tryz.prog 3 = some (false, 1, [.p (.int .i64 0)], 8) := by kernel_rfl
theorem ti4 : TI Tryz.prog 4 = some (false, 1, [.p (.bool false)], 1) := by kernel_rfl
theorem ti23 : TI Tryz.prog 23 = some (false, 1, [.p (.int .u64 ((0 : Nat) : Int))], 8) := by kernel_rfl
theorem ti29 : TI Tryz.prog 29 = some (false, 1, [.nils], 24) := by kernel_rfl
theorem ti31 : TI Tryz.prog 31 = some (true, 5, [.p (.int .u64 ((0 : Nat) : Int)), .p (.int .i64 0), .p (.int .u64 ((0 : Nat) : Int)), .p (.int .u64 ((0 : Nat) : Int)), .nils], 56) := by kernel_rfl
theorem ti32 : TI Tryz.prog 32 = some (false, 1, [.nils], 24) := by kernel_rfl
theorem ti34 : TI Tryz.prog 34 = some (true, 3, [.p (.int .i64 0), .p (.int .i64 0), .nils], 40) := by kernel_rfl
theorem ti36 : TI Tryz.prog 36 = some (true, 9, [.p (.int .u64 ((0 : Nat) : Int)), .p (.int .u64 ((0 : Nat) : Int)), .p (.int .i64 0), .p (.int .u64 ((0 : Nat) : Int)), .p (.int .u64 ((0 : Nat) : Int)), .nils, .p (.int .i64 0), .p (.int .i64 0), .nils], 104) := by kernel_rfl
theorem ti39 : TI Tryz.prog 39 = some (false, 1, [.nils], 24) := by kernel_rfl
theorem ti40 : TI Tryz.prog 40 = some (true, 5, [.p (.int .u64 ((0 : Nat) : Int)), .p (.int .i64 0), .p (.int .u64 ((0 : Nat) : Int)), .p (.int .u64 ((0 : Nat) : Int)), .nils], 56) := by kernel_rfl
theorem ti41 : TI Tryz.prog 41 = some (true, 3, [.p (.int .i64 0), .p (.int .i64 0), .nils], 40) := by kernel_rfl
theorem ti43 : TI Tryz.prog 43 = some (true, 9, [.p (.int .u64 ((0 : Nat) : Int)), .p (.int .u64 ((0 : Nat) : Int)), .p (.int .i64 0), .p (.int .u64 ((0 : Nat) : Int)), .p (.int .u64 ((0 : Nat) : Int)), .nils, .p (.int .i64 0), .p (.int .i64 0), .nils], 104) := by kernel_rfl
theorem ti55 : TI Tryz.prog 55 = some (true, 27, [.p (.int .u64 ((0 : Nat) : Int)), .p (.int .u64 ((0 : Nat) : Int)), .p (.int .i64 0), .p (.int .u64 ((0 : Nat) : Int)), .p (.int .u64 ((0 : Nat) : Int)), .nils, .p (.int .i64 0), .p (.int .i64 0), .nils, .p (.int .u64 ((0 : Nat) : Int)), .p (.int .u64 ((0 : Nat) : Int)), .p (.int .i64 0), .p (.int .u64 ((0 : Nat) : Int)), .p (.int .u64 ((0 : Nat) : Int)), .nils, .p (.int .i64 0), .p (.int .i64 0), .nils, .p (.int .u64 ((0 : Nat) : Int)), .p (.int .u64 ((0 : Nat) : Int)), .p (.int .i64 0), .p (.int .u64 ((0 : Nat) : Int)), .p (.int .u64 ((0 : Nat) : Int)), .nils, .p (.int .i64 0), .p (.int .i64 0), .nils], 312) := by kernel_rfl
theorem ti57 : TI Tryz.prog 57 = some (true, 3, [.p (.int .u64 ((0 : Nat) : Int)), .p (.int .u64 ((0 : Nat) : Int)), .p (.int .u64 ((0 : Nat) : Int))], 24) := by kernel_rfl
theorem ti104 : TI Tryz.prog 104 = some (false, 1, [.nils], 24) := by kernel_rfl
theorem ti146 : TI Tryz.prog 146 = some (false, 1, [.nilf], 8) := by kernel_rfl
theorem ti177 : TI Tryz.prog 177 = some (true, 2, [.p (.int .u64 ((0 : Nat) : Int)), .p (.bool false)], 16) := by kernel_rfl
theorem ti179 : TI Tryz.prog 179 = some (false, 1, [.nils], 24) := by kernel_rfl
theorem ti184 : TI Tryz.prog 184 = some (true, 2, [.p (.int .u64 ((0 : Nat) : Int)), .p (.int .u64 ((0 : Nat) : Int))], 16) := by kernel_rfl
theorem ti189 : TI Tryz.prog 189 = some (false, 1, [.nils], 24) := by kernel_rfl
theorem ti245 : TI Tryz.prog 245 = some (true, 2, [.p (.int .u64 ((0 : Nat) : Int)), .p (.int .u64 ((0 : Nat) : Int))], 16) := by kernel_rfl
theorem ti322 : TI Tryz.prog 322 = some (false, 1, [.nilp], 8) := by kernel_rfl
theorem ti324 : TI Tryz.prog 324 = some (true, 3, [.nils, .p (.int .u64 ((0 : Nat) : Int)), .p (.int .u64 ((0 : Nat) : Int))], 40) := by kernel_rfl
theorem ti325 : TI Tryz.prog 325 = some (true, 2, [.nils, .nils], 48) := by kernel_rfl
theorem fi31_0 : FI Tryz.prog 31 0 = some (0, 1, false) := by kernel_rfl
theorem fi31_1 : FI Tryz.prog 31 1 = some (1, 1, false) := by kernel_rfl
theorem fi31_2 : FI Tryz.prog 31 2 = some (2, 1, false) := by kernel_rfl
theorem fi31_3 : FI Tryz.prog 31 3 = some (3, 1, false) := by kernel_rfl
theorem fi31_4 : FI Tryz.prog 31 4 = some (4, 1, false) := by kernel_rfl
theorem fi34_0 : FI Tryz.prog 34 0 = some (0, 1, false) := by kernel_rfl
theorem fi34_1 : FI Tryz.prog 34 1 = some (1, 1, false) := by kernel_rfl
theorem fi34_2 : FI Tryz.prog 34 2 = some (2, 1, false) := by kernel_rfl
theorem fi36_0 : FI Tryz.prog 36 0 = some (0, 1, false) := by kernel_rfl
theorem fi36_1 : FI Tryz.prog 36 1 = some (1, 5, true) := by kernel_rfl
theorem fi36_2 : FI Tryz.prog 36 2 = some (6, 3, true) := by kernel_rfl
theorem fi40_0 : FI Tryz.prog 40 0 = some (0, 1, false) := by kernel_rfl
theorem fi40_1 : FI Tryz.prog 40 1 = some (1, 1, false) := by kernel_rfl
theorem fi40_2 : FI Tryz.prog 40 2 = some (2, 1, false) := by kernel_rfl
theorem fi40_3 : FI Tryz.prog 40 3 = some (3, 1, false) := by kernel_rfl
theorem fi40_4 : FI Tryz.prog 40 4 = some (4, 1, false) := by kernel_rfl
theorem fi41_0 : FI Tryz.prog 41 0 = some (0, 1, false) := by kernel_rfl
theorem fi41_1 : FI Tryz.prog 41 1 = some (1, 1, false) := by kernel_rfl
theorem fi41_2 : FI Tryz.prog 41 2 = some (2, 1, false) := by kernel_rfl
theorem fi43_0 : FI Tryz.prog 43 0 = some (0, 1, false) := by kernel_rfl
theorem fi43_1 : FI Tryz.prog 43 1 = some (1, 5, true) := by kernel_rfl
theorem fi43_2 : FI Tryz.prog 43 2 = some (6, 3, true) := by kernel_rfl
theorem fi57_0 : FI Tryz.prog 57 0 = some (0, 1, false) := by kernel_rfl
theorem fi57_2 : FI Tryz.prog 57 2 = some (2, 1, false) := by kernel_rfl
theorem fi98_0 : FI Tryz.prog 98 0 = some (0, 3, true) := by kernel_rfl
theorem fi177_0 : FI Tryz.prog 177 0 = some (0, 1, false) := by kernel_rfl
theorem fi177_1 : FI Tryz.prog 177 1 = some (1, 1, false) := by kernel_rfl
theorem fi184_0 : FI Tryz.prog 184 0 = some (0, 1, false) := by kernel_rfl
theorem fi184_1 : FI Tryz.prog 184 1 = some (1, 1, false) := by kernel_rfl
theorem fi245_0 : FI Tryz.prog 245 0 = some (0, 1, false) := by kernel_rfl
theorem fi245_1 : FI Tryz.prog 245 1 = some (1, 1, false) := by kernel_rfl
theorem fi324_0 : FI Tryz.prog 324 0 = some (0, 1, false) := by kernel_rfl
theorem fi324_1 : FI Tryz.prog 324 1 = some (1, 1, false) := by kernel_rfl
theorem fi324_2 : FI Tryz.prog 324 2 = some (2, 1, false) := by kernel_rfl
theorem xi24 : XI Tryz.prog 24 = some (some 3, 1, 23) := by kernel_rfl
theorem xi28 : XI Tryz.prog 28 = some (none, 9, 43) := by kernel_rfl
theorem xi29 : XI Tryz.prog 29 = some (none, 3, 57) := by kernel_rfl
theorem xi32 : XI Tryz.prog 32 = some (none, 1, 189) := by kernel_rfl
theorem xi39 : XI Tryz.prog 39 = some (none, 3, 98) := by kernel_rfl
theorem xi54 : XI Tryz.prog 54 = some (some 3, 1, 39) := by kernel_rfl
theorem xi55 : XI Tryz.prog 55 = some (some 3, 9, 36) := by kernel_rfl
theorem xi99 : XI Tryz.prog 99 = some (none, 1, 23) := by kernel_rfl
theorem xi103 : XI Tryz.prog 103 = some (none, 5, 40) := by kernel_rfl
theorem xi104 : XI Tryz.prog 104 = some (none, 3, 41) := by kernel_rfl
theorem xi179 : XI Tryz.prog 179 = some (none, 2, 184) := by kernel_rfl
theorem xi189 : XI Tryz.prog 189 = some (none, 2, 245) := by kernel_rfl
theorem xi239 : XI Tryz.prog 239 = some (none, 1, 29) := by kernel_rfl
theorem xi325 : XI Tryz.prog 325 = some (some 2, 1, 189) := by kernel_rfl
theorem bi31 : BI Tryz.prog 31 = some (.st [(0, 1), (1, 1), (2, 1), (3, 1), (4, 1)]) := by kernel_rfl
theorem bi34 : BI Tryz.prog 34 = some (.st [(0, 1), (1, 1), (2, 1)]) := by kernel_rfl
theorem bi36 : BI Tryz.prog 36 = some (.st [(0, 1), (1, 5), (6, 3)]) := by kernel_rfl
theorem bi40 : BI Tryz.prog 40 = some (.st [(0, 1), (1, 1), (2, 1), (3, 1), (4, 1)]) := by kernel_rfl
theorem bi41 : BI Tryz.prog 41 = some (.st [(0, 1), (1, 1), (2, 1)]) := by kernel_rfl
theorem bi43 : BI Tryz.prog 43 = some (.st [(0, 1), (1, 5), (6, 3)]) := by kernel_rfl
theorem bi57 : BI Tryz.prog 57 = some (.st [(0, 1), (1, 1), (2, 1)]) := by kernel_rfl
theorem bi177 : BI Tryz.prog 177 = some (.st [(0, 1), (1, 1)]) := by kernel_rfl
theorem bi184 : BI Tryz.prog 184 = some (.st [(0, 1), (1, 1)]) := by kernel_rfl
theorem bi245 : BI Tryz.prog 245 = some (.st [(0, 1), (1, 1)]) := by kernel_rfl
theorem bi324 : BI Tryz.prog 324 = some (.st [(0, 1), (1, 1), (2, 1)]) := by kernel_rfl
theorem bi325 : BI Tryz.prog 325 = some (.ar 1) := by kernel_rfl
theorem eq57 : EQ Tryz.prog 57 = some 3 := by kernel_rfl
theorem eq245 : EQ Tryz.prog 245 = some 2 := by kernel_rfl
attribute [go_sem] ti3 ti4 ti23 ti29 ti31 ti32 ti34 ti36 ti39 ti40 ti41 ti43 ti55 ti57 ti104 ti146 ti177 ti179 ti184 ti189 ti245 ti322 ti324 ti325 fi31_0 fi31_1 fi31_2 fi31_3 fi31_4 fi34_0 fi34_1 fi34_2 fi36_0 fi36_1 fi36_2 fi40_0 fi40_1 fi40_2 fi40_3 fi40_4 fi41_0 fi41_1 fi41_2 fi43_0 fi43_1 fi43_2 fi57_0 fi57_2 fi98_0 fi177_0 fi177_1 fi184_0 fi184_1 fi245_0 fi245_1 fi324_0 fi324_1 fi324_2 xi24 xi28 xi29 xi32 xi39 xi54 xi55 xi99 xi103 xi104 xi179 xi189 xi239 xi325 bi31 bi34 bi36 bi40 bi41 bi43 bi57 bi177 bi184 bi245 bi324 bi325 eq57 eq245 Tryz.underlying3 Tryz.underlying5 Tryz.underlying9 Tryz.underlying22 Tryz.underlying23 Tryz.underlying24 Tryz.underlying25 Tryz.underlying27 Tryz.underlying28 Tryz.underlying29 Tryz.underlying31 Tryz.underlying32 Tryz.underlying34 Tryz.underlying36 Tryz.underlying39 Tryz.underlying40 Tryz.underlying41 Tryz.underlying43 Tryz.underlying45 Tryz.underlying54 Tryz.underlying55 Tryz.underlying57 Tryz.underlying60 Tryz.underlying62 Tryz.underlying63 Tryz.underlying64 Tryz.underlying65 Tryz.underlying66 Tryz.underlying67 Tryz.underlying69 Tryz.underlying71 Tryz.underlying74 Tryz.underlying76 Tryz.underlying78 Tryz.underlying86 Tryz.underlying90 Tryz.underlying99 Tryz.underlying103 Tryz.underlying104 Tryz.underlying110 Tryz.underlying111 Tryz.underlying125 Tryz.underlying133 Tryz.underlying140 Tryz.underlying156 Tryz.underlying167 Tryz.underlying171 Tryz.underlying173 Tryz.underlying175 Tryz.underlying179 Tryz.underlying184 Tryz.underlying186 Tryz.underlying189 Tryz.underlying193 Tryz.underlying197 Tryz.underlying206 Tryz.underlying209 Tryz.underlying216 Tryz.underlying232 Tryz.underlying239 Tryz.underlying245 Tryz.underlying263 Tryz.underlying274 Tryz.underlying289 Tryz.underlying297 Tryz.underlying304 Tryz.underlying308 Tryz.underlying316 Tryz.underlying320 Tryz.underlying322 Tryz.underlying325
attribute [go_sem] Tryz.ntmps0 Tryz.results0 Tryz.ntmps1 Tryz.results1 Tryz.ntmps2 Tryz.results2 Tryz.ntmps3 Tryz.results3 Tryz.ntmps4 Tryz.results4 Tryz.ntmps5 Tryz.results5 Tryz.ntmps6 Tryz.results6 Tryz.ntmps7 Tryz.results7 Tryz.ntmps8 Tryz.results8 Tryz.ntmps9 Tryz.results9 Tryz.ntmps10 Tryz.results10 Tryz.ntmps11 Tryz.results11 Tryz.ntmps12 Tryz.results12 Tryz.ntmps13 Tryz.results13 Tryz.ntmps14 Tryz.results14 Tryz.ntmps15 Tryz.results15 Tryz.ntmps16 Tryz.results16 Tryz.ntmps17 Tryz.results17 Tryz.ntmps18 Tryz.results18 Tryz.ntmps19 Tryz.results19 Tryz.ntmps20 Tryz.results20 Tryz.ntmps21 Tryz.results21 Tryz.ntmps22 Tryz.results22 Tryz.ntmps23 Tryz.results23 Tryz.ntmps24 Tryz.results24 Tryz.ntmps25 Tryz.results25 Tryz.ntmps26 Tryz.results26 Tryz.ntmps27 Tryz.results27 Tryz.ntmps28 Tryz.results28 Tryz.ntmps29 Tryz.results29 Tryz.ntmps30 Tryz.results30 Tryz.ntmps31 Tryz.results31 Tryz.ntmps32 Tryz.results32 Tryz.ntmps33 Tryz.results33 Tryz.ntmps34 Tryz.results34 Tryz.ntmps35 Tryz.results35 Tryz.ntmps36 Tryz.results36 Tryz.ntmps37 Tryz.results37 Tryz.ntmps38 Tryz.results38 Tryz.ntmps39 Tryz.results39 Tryz.ntmps40 Tryz.results40 Tryz.ntmps41 Tryz.results41 Tryz.ntmps42 Tryz.results42 Tryz.ntmps43 Tryz.results43 Tryz.ntmps44 Tryz.results44 Tryz.ntmps45 Tryz.results45 Tryz.ntmps46 Tryz.results46 Tryz.ntmps47 Tryz.results47 Tryz.ntmps48 Tryz.results48 Tryz.ntmps49 Tryz.results49 Tryz.ntmps50 Tryz.results50 Tryz.ntmps51 Tryz.results51 Tryz.ntmps52 Tryz.results52 Tryz.ntmps53 Tryz.results53 Tryz.ntmps54 Tryz.results54 Tryz.ntmps55 Tryz.results55 Tryz.ntmps56 Tryz.results56 Tryz.ntmps57 Tryz.results57 Tryz.ntmps58 Tryz.results58 Tryz.ntmps59 Tryz.results59 Tryz.ntmps60 Tryz.results60 Tryz.ntmps61 Tryz.results61 Tryz.ntmps62 Tryz.results62 Tryz.ntmps63 Tryz.results63 Tryz.ntmps64 Tryz.results64 Tryz.ntmps65 Tryz.results65 Tryz.ntmps66 Tryz.results66 Tryz.ntmps67 Tryz.results67 Tryz.ntmps68 Tryz.results68 Tryz.ntmps69 Tryz.results69 Tryz.ntmps70 Tryz.results70 Tryz.ntmps71 Tryz.results71 Tryz.ntmps72 Tryz.results72 Tryz.ntmps73 Tryz.results73 Tryz.ntmps74 Tryz.results74 Tryz.ntmps75 Tryz.results75 Tryz.ntmps76 Tryz.results76 Tryz.ntmps77 Tryz.results77 Tryz.ntmps78 Tryz.results78 Tryz.ntmps79 Tryz.results79 Tryz.ntmps80 Tryz.results80 Tryz.ntmps81 Tryz.results81 Tryz.ntmps82 Tryz.results82 Tryz.ntmps83 Tryz.results83 Tryz.ntmps84 Tryz.results84 Tryz.ntmps85 Tryz.results85 Tryz.ntmps86 Tryz.results86 Tryz.ntmps87 Tryz.results87 Tryz.ntmps88 Tryz.results88 Tryz.ntmps89 Tryz.results89 Tryz.ntmps90 Tryz.results90 Tryz.ntmps91 Tryz.results91 Tryz.ntmps92 Tryz.results92 Tryz.ntmps93 Tryz.results93 Tryz.ntmps94 Tryz.results94 Tryz.ntmps95 Tryz.results95 Tryz.ntmps96 Tryz.results96 Tryz.ntmps97 Tryz.results97 Tryz.ntmps98 Tryz.results98 Tryz.ntmps99 Tryz.results99 Tryz.ntmps100 Tryz.results100 Tryz.ntmps101 Tryz.results101 Tryz.ntmps102 Tryz.results102 Tryz.ntmps103 Tryz.results103 Tryz.ntmps104 Tryz.results104 Tryz.ntmps105 Tryz.results105 Tryz.ntmps106 Tryz.results106 Tryz.ntmps107 Tryz.results107 Tryz.ntmps108 Tryz.results108 Tryz.ntmps109 Tryz.results109 Tryz.ntmps110 Tryz.results110 Tryz.ntmps111 Tryz.results111 Tryz.ntmps112 Tryz.results112 Tryz.ntmps113 Tryz.results113 Tryz.ntmps114 Tryz.results114 Tryz.ntmps115 Tryz.results115 Tryz.ntmps116 Tryz.results116 Tryz.ntmps117 Tryz.results117 Tryz.ntmps118 Tryz.results118 Tryz.ntmps119 Tryz.results119 Tryz.ntmps120 Tryz.results120 Tryz.ntmps121 Tryz.results121 Tryz.ntmps122 Tryz.results122 Tryz.ntmps123 Tryz.results123 Tryz.ntmps124 Tryz.results124 Tryz.ntmps125 Tryz.results125 Tryz.ntmps126 Tryz.results126 Tryz.ntmps127 Tryz.results127 Tryz.ntmps128 Tryz.results128 Tryz.ntmps129 Tryz.results129 Tryz.ntmps130 Tryz.results130 Tryz.ntmps131 Tryz.results131 Tryz.ntmps132 Tryz.results132 Tryz.ntmps133 Tryz.results133 Tryz.ntmps134 Tryz.results134 Tryz.ntmps135 Tryz.results135 Tryz.ntmps136 Tryz.results136 Tryz.ntmps137 Tryz.results137 Tryz.ntmps138 Tryz.results138 Tryz.ntmps139 Tryz.results139 Tryz.ntmps140 Tryz.results140 Tryz.ntmps141 Tryz.results141 Tryz.ntmps142 Tryz.results142 Tryz.ntmps143 Tryz.results143 Tryz.ntmps144 Tryz.results144 Tryz.ntmps145 Tryz.results145 Tryz.ntmps146 Tryz.results146 Tryz.ntmps147 Tryz.results147 Tryz.ntmps148 Tryz.results148 Tryz.ntmps149 Tryz.results149 Tryz.ntmps150 Tryz.results150 Tryz.ntmps151 Tryz.results151 Tryz.ntmps152 Tryz.results152 Tryz.ntmps153 Tryz.results153 Tryz.ntmps154 Tryz.results154 Tryz.ntmps155 Tryz.results155 Tryz.ntmps156 Tryz.results156 Tryz.ntmps157 Tryz.results157 Tryz.ntmps158 Tryz.results158 Tryz.ntmps159 Tryz.results159 Tryz.ntmps160 Tryz.results160 Tryz.ntmps161 Tryz.results161 Tryz.ntmps162 Tryz.results162 Tryz.ntmps163 Tryz.results163 Tryz.ntmps164 Tryz.results164 Tryz.ntmps165 Tryz.results165 Tryz.ntmps166 Tryz.results166 Tryz.ntmps167 Tryz.results167 Tryz.ntmps168 Tryz.results168 Tryz.ntmps169 Tryz.results169 Tryz.ntmps170 Tryz.results170 Tryz.ntmps171 Tryz.results171 Tryz.ntmps172 Tryz.results172 Tryz.ntmps173 Tryz.results173 Tryz.ntmps174 Tryz.results174 Tryz.ntmps175 Tryz.results175 Tryz.ntmps176 Tryz.results176 Tryz.ntmps177 Tryz.results177 Tryz.ntmps178 Tryz.results178 Tryz.ntmps179 Tryz.results179 Tryz.ntmps180 Tryz.results180 Tryz.ntmps181 Tryz.results181 Tryz.ntmps182 Tryz.results182 Tryz.ntmps183 Tryz.results183 Tryz.ntmps184 Tryz.results184 Tryz.ntmps185 Tryz.results185 Tryz.ntmps186 Tryz.results186 Tryz.ntmps187 Tryz.results187 Tryz.ntmps188 Tryz.results188 Tryz.ntmps189 Tryz.results189 Tryz.ntmps190 Tryz.results190 Tryz.ntmps191 Tryz.results191 Tryz.ntmps192 Tryz.results192 Tryz.ntmps193 Tryz.results193 Tryz.ntmps194 Tryz.results194 Tryz.ntmps195 Tryz.results195 Tryz.ntmps196 Tryz.results196 Tryz.ntmps197 Tryz.results197 Tryz.ntmps198 Tryz.results198 Tryz.ntmps199 Tryz.results199 Tryz.ntmps200 Tryz.results200 Tryz.ntmps201 Tryz.results201 Tryz.ntmps202 Tryz.results202 Tryz.ntmps203 Tryz.results203 Tryz.ntmps204 Tryz.results204 Tryz.ntmps205 Tryz.results205 Tryz.ntmps206 Tryz.results206 Tryz.ntmps207 Tryz.results207 Tryz.ntmps208 Tryz.results208 Tryz.ntmps209 Tryz.results209 Tryz.ntmps210 Tryz.results210 Tryz.ntmps211 Tryz.results211 Tryz.ntmps212 Tryz.results212 Tryz.ntmps213 Tryz.results213 Tryz.ntmps214 Tryz.results214 Tryz.ntmps215 Tryz.results215 Tryz.ntmps216 Tryz.results216 Tryz.ntmps217 Tryz.results217 Tryz.ntmps218 Tryz.results218 Tryz.ntmps219 Tryz.results219 Tryz.ntmps220 Tryz.results220 Tryz.ntmps221 Tryz.results221 Tryz.ntmps222 Tryz.results222 Tryz.ntmps223 Tryz.results223 Tryz.ntmps224 Tryz.results224 Tryz.ntmps225 Tryz.results225 Tryz.ntmps226 Tryz.results226 Tryz.ntmps227 Tryz.results227 Tryz.ntmps228 Tryz.results228 Tryz.ntmps229 Tryz.results229 Tryz.ntmps230 Tryz.results230 Tryz.ntmps231 Tryz.results231 Tryz.ntmps232 Tryz.results232 Tryz.ntmps233 Tryz.results233 Tryz.ntmps234 Tryz.results234 Tryz.ntmps235 Tryz.results235 Tryz.ntmps236 Tryz.results236 Tryz.ntmps237 Tryz.results237 Tryz.ntmps238 Tryz.results238 Tryz.ntmps239 Tryz.results239 Tryz.ntmps240 Tryz.results240 Tryz.ntmps241 Tryz.results241 Tryz.ntmps242 Tryz.results242 Tryz.ntmps243 Tryz.results243 Tryz.ntmps244 Tryz.results244 Tryz.ntmps245 Tryz.results245 Tryz.ntmps246 Tryz.results246 Tryz.ntmps247 Tryz.results247 Tryz.ntmps248 Tryz.results248 Tryz.ntmps249 Tryz.results249 Tryz.ntmps250 Tryz.results250 Tryz.ntmps251 Tryz.results251 Tryz.ntmps252 Tryz.results252 Tryz.ntmps253 Tryz.results253 Tryz.ntmps254 Tryz.results254
attribute [go_sem] decide_true decide_false Nat.lt_irrefl
end Go.Sk
