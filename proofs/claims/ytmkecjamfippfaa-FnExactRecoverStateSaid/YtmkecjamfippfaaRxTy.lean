/- The types of the program as facts: cells, fields, elements, zero values. No statement of the seat is proved here. -/
import Derived.Test.YtmkecjamfippfaaProg
import Derived.Test.YtmkecjamfippfaaRxAbsN
namespace Go.Proofs.Ytmkecjamfippfaa.Abs
open R (val row ref)
theorem ty3 : tyOf Go.Proofs.Try.prog 3 = some (false, 1) := by kernel_rfl
theorem z3 : zcOf Go.Proofs.Try.prog 3 = some [.r true (val (.int .i64 0))] := by kernel_rfl
theorem zp3 : zpOf Go.Proofs.Try.prog 3 = some (.one (val (.int .i64 0))) := by kernel_rfl
theorem ty4 : tyOf Go.Proofs.Try.prog 4 = some (false, 1) := by kernel_rfl
theorem bo4 : Go.Proofs.Try.prog.underlying 4 = some .bool := by kernel_rfl
theorem ty5 : tyOf Go.Proofs.Try.prog 5 = some (false, 1) := by kernel_rfl
theorem z5 : zcOf Go.Proofs.Try.prog 5 = some [.r true (val (.int .u8 0))] := by kernel_rfl
theorem zp5 : zpOf Go.Proofs.Try.prog 5 = some (.one (val (.int .u8 0))) := by kernel_rfl
theorem ty9 : tyOf Go.Proofs.Try.prog 9 = some (false, 1) := by kernel_rfl
theorem z9 : zcOf Go.Proofs.Try.prog 9 = some [.r true (val (.string ⟨#[]⟩))] := by kernel_rfl
theorem zp9 : zpOf Go.Proofs.Try.prog 9 = some (.one (val (.string ⟨#[]⟩))) := by kernel_rfl
theorem ty17 : tyOf Go.Proofs.Try.prog 17 = some (false, 1) := by kernel_rfl
theorem z17 : zcOf Go.Proofs.Try.prog 17 = some [.r true (val (.pointer none))] := by kernel_rfl
theorem zp17 : zpOf Go.Proofs.Try.prog 17 = some (.one (val (.pointer none))) := by kernel_rfl
theorem ty19 : tyOf Go.Proofs.Try.prog 19 = some (true, 1) := by kernel_rfl
theorem fl19_0 : fldOf Go.Proofs.Try.prog 19 0 = some (0, 17) := by kernel_rfl
theorem z19 : zcOf Go.Proofs.Try.prog 19 = some [.r true (val (.pointer none))] := by kernel_rfl
theorem zp19 : zpOf Go.Proofs.Try.prog 19 = some (.agg [val (.pointer none)]) := by kernel_rfl
theorem bl19 : bldOf Go.Proofs.Try.prog 19 = some [(0, 1)] := by kernel_rfl
theorem ty22 : tyOf Go.Proofs.Try.prog 22 = some (false, 1) := by kernel_rfl
theorem sl22 : slOf Go.Proofs.Try.prog 22 = some (24, 1) := by kernel_rfl
theorem z22 : zcOf Go.Proofs.Try.prog 22 = some [.r true (row true 0 [])] := by kernel_rfl
theorem el22 : elOf Go.Proofs.Try.prog 22 = some (24, 1, 24) := by kernel_rfl
theorem zp22 : zpOf Go.Proofs.Try.prog 22 = some (.one (row true 0 [])) := by kernel_rfl
theorem ty24 : tyOf Go.Proofs.Try.prog 24 = some (false, 1) := by kernel_rfl
theorem sl24 : slOf Go.Proofs.Try.prog 24 = some (3, 1) := by kernel_rfl
theorem z24 : zcOf Go.Proofs.Try.prog 24 = some [.r true (row true 0 [])] := by kernel_rfl
theorem el24 : elOf Go.Proofs.Try.prog 24 = some (3, 1, 8) := by kernel_rfl
theorem zp24 : zpOf Go.Proofs.Try.prog 24 = some (.one (row true 0 [])) := by kernel_rfl
theorem ty25 : tyOf Go.Proofs.Try.prog 25 = some (false, 1) := by kernel_rfl
theorem sl25 : slOf Go.Proofs.Try.prog 25 = some (4, 1) := by kernel_rfl
theorem z25 : zcOf Go.Proofs.Try.prog 25 = some [.r true (row true 0 [])] := by kernel_rfl
theorem el25 : elOf Go.Proofs.Try.prog 25 = some (4, 1, 1) := by kernel_rfl
theorem zp25 : zpOf Go.Proofs.Try.prog 25 = some (.one (row true 0 [])) := by kernel_rfl
theorem ty26 : tyOf Go.Proofs.Try.prog 26 = some (false, 1) := by kernel_rfl
theorem sl26 : slOf Go.Proofs.Try.prog 26 = some (95, 3) := by kernel_rfl
theorem z26 : zcOf Go.Proofs.Try.prog 26 = some [.r true (row true 0 [])] := by kernel_rfl
theorem el26 : elOf Go.Proofs.Try.prog 26 = some (95, 3, 24) := by kernel_rfl
theorem zp26 : zpOf Go.Proofs.Try.prog 26 = some (.one (row true 0 [])) := by kernel_rfl
theorem ty28 : tyOf Go.Proofs.Try.prog 28 = some (true, 4) := by kernel_rfl
theorem fl28_0 : fldOf Go.Proofs.Try.prog 28 0 = some (0, 3) := by kernel_rfl
theorem fl28_1 : fldOf Go.Proofs.Try.prog 28 1 = some (1, 24) := by kernel_rfl
theorem fl28_2 : fldOf Go.Proofs.Try.prog 28 2 = some (2, 25) := by kernel_rfl
theorem fl28_3 : fldOf Go.Proofs.Try.prog 28 3 = some (3, 26) := by kernel_rfl
theorem z28 : zcOf Go.Proofs.Try.prog 28 = some [.r true (val (.int .i64 0)), .r true (row true 0 []), .r true (row true 0 []), .r true (row true 0 [])] := by kernel_rfl
theorem zp28 : zpOf Go.Proofs.Try.prog 28 = some (.agg [val (.int .i64 0), row true 0 [], row true 0 [], row true 0 []]) := by kernel_rfl
theorem bl28 : bldOf Go.Proofs.Try.prog 28 = some [(0, 1), (1, 1), (2, 1), (3, 1)] := by kernel_rfl
theorem ty36 : tyOf Go.Proofs.Try.prog 36 = some (false, 1) := by kernel_rfl
theorem sl36 : slOf Go.Proofs.Try.prog 36 = some (118, 3) := by kernel_rfl
theorem z36 : zcOf Go.Proofs.Try.prog 36 = some [.r true (row true 0 [])] := by kernel_rfl
theorem el36 : elOf Go.Proofs.Try.prog 36 = some (118, 3, 24) := by kernel_rfl
theorem zp36 : zpOf Go.Proofs.Try.prog 36 = some (.one (row true 0 [])) := by kernel_rfl
theorem ty38 : tyOf Go.Proofs.Try.prog 38 = some (true, 2) := by kernel_rfl
theorem fl38_0 : fldOf Go.Proofs.Try.prog 38 0 = some (0, 3) := by kernel_rfl
theorem fl38_1 : fldOf Go.Proofs.Try.prog 38 1 = some (1, 36) := by kernel_rfl
theorem z38 : zcOf Go.Proofs.Try.prog 38 = some [.r true (val (.int .i64 0)), .r true (row true 0 [])] := by kernel_rfl
theorem zp38 : zpOf Go.Proofs.Try.prog 38 = some (.agg [val (.int .i64 0), row true 0 []]) := by kernel_rfl
theorem bl38 : bldOf Go.Proofs.Try.prog 38 = some [(0, 1), (1, 1)] := by kernel_rfl
theorem ty40 : tyOf Go.Proofs.Try.prog 40 = some (true, 2) := by kernel_rfl
theorem fl40_0 : fldOf Go.Proofs.Try.prog 40 0 = some (0, 24) := by kernel_rfl
theorem fl40_1 : fldOf Go.Proofs.Try.prog 40 1 = some (1, 24) := by kernel_rfl
theorem z40 : zcOf Go.Proofs.Try.prog 40 = some [.r true (row true 0 []), .r true (row true 0 [])] := by kernel_rfl
theorem zp40 : zpOf Go.Proofs.Try.prog 40 = some (.agg [row true 0 [], row true 0 []]) := by kernel_rfl
theorem bl40 : bldOf Go.Proofs.Try.prog 40 = some [(0, 1), (1, 1)] := by kernel_rfl
theorem ty44 : tyOf Go.Proofs.Try.prog 44 = some (false, 1) := by kernel_rfl
theorem sl44 : slOf Go.Proofs.Try.prog 44 = some (98, 3) := by kernel_rfl
theorem z44 : zcOf Go.Proofs.Try.prog 44 = some [.r true (row true 0 [])] := by kernel_rfl
theorem el44 : elOf Go.Proofs.Try.prog 44 = some (98, 3, 24) := by kernel_rfl
theorem zp44 : zpOf Go.Proofs.Try.prog 44 = some (.one (row true 0 [])) := by kernel_rfl
theorem ty46 : tyOf Go.Proofs.Try.prog 46 = some (true, 2) := by kernel_rfl
theorem fl46_0 : fldOf Go.Proofs.Try.prog 46 0 = some (0, 3) := by kernel_rfl
theorem fl46_1 : fldOf Go.Proofs.Try.prog 46 1 = some (1, 44) := by kernel_rfl
theorem z46 : zcOf Go.Proofs.Try.prog 46 = some [.r true (val (.int .i64 0)), .r true (row true 0 [])] := by kernel_rfl
theorem zp46 : zpOf Go.Proofs.Try.prog 46 = some (.agg [val (.int .i64 0), row true 0 []]) := by kernel_rfl
theorem bl46 : bldOf Go.Proofs.Try.prog 46 = some [(0, 1), (1, 1)] := by kernel_rfl
theorem ty48 : tyOf Go.Proofs.Try.prog 48 = some (true, 2) := by kernel_rfl
theorem fl48_0 : fldOf Go.Proofs.Try.prog 48 0 = some (0, 24) := by kernel_rfl
theorem fl48_1 : fldOf Go.Proofs.Try.prog 48 1 = some (1, 24) := by kernel_rfl
theorem z48 : zcOf Go.Proofs.Try.prog 48 = some [.r true (row true 0 []), .r true (row true 0 [])] := by kernel_rfl
theorem zp48 : zpOf Go.Proofs.Try.prog 48 = some (.agg [row true 0 [], row true 0 []]) := by kernel_rfl
theorem bl48 : bldOf Go.Proofs.Try.prog 48 = some [(0, 1), (1, 1)] := by kernel_rfl
theorem ty55 : tyOf Go.Proofs.Try.prog 55 = some (false, 1) := by kernel_rfl
theorem sl55 : slOf Go.Proofs.Try.prog 55 = some (5, 1) := by kernel_rfl
theorem z55 : zcOf Go.Proofs.Try.prog 55 = some [.r true (row true 0 [])] := by kernel_rfl
theorem el55 : elOf Go.Proofs.Try.prog 55 = some (5, 1, 1) := by kernel_rfl
theorem zp55 : zpOf Go.Proofs.Try.prog 55 = some (.one (row true 0 [])) := by kernel_rfl
theorem ty81 : tyOf Go.Proofs.Try.prog 81 = some (false, 1) := by kernel_rfl
theorem z81 : zcOf Go.Proofs.Try.prog 81 = some [.r true (val (.pointer none))] := by kernel_rfl
theorem zp81 : zpOf Go.Proofs.Try.prog 81 = some (.one (val (.pointer none))) := by kernel_rfl
theorem ty84 : tyOf Go.Proofs.Try.prog 84 = some (true, 3) := by kernel_rfl
theorem fl84_0 : fldOf Go.Proofs.Try.prog 84 0 = some (0, 3) := by kernel_rfl
theorem fl84_1 : fldOf Go.Proofs.Try.prog 84 1 = some (1, 3) := by kernel_rfl
theorem fl84_2 : fldOf Go.Proofs.Try.prog 84 2 = some (2, 3) := by kernel_rfl
theorem z84 : zcOf Go.Proofs.Try.prog 84 = some [.r true (val (.int .i64 0)), .r true (val (.int .i64 0)), .r true (val (.int .i64 0))] := by kernel_rfl
theorem zp84 : zpOf Go.Proofs.Try.prog 84 = some (.agg [val (.int .i64 0), val (.int .i64 0), val (.int .i64 0)]) := by kernel_rfl
theorem bl84 : bldOf Go.Proofs.Try.prog 84 = some [(0, 1), (1, 1), (2, 1)] := by kernel_rfl
theorem ty89 : tyOf Go.Proofs.Try.prog 89 = some (false, 1) := by kernel_rfl
theorem z89 : zcOf Go.Proofs.Try.prog 89 = some [.r true (val (.nilFunc))] := by kernel_rfl
theorem zp89 : zpOf Go.Proofs.Try.prog 89 = some (.one (val (.nilFunc))) := by kernel_rfl
theorem ty95 : tyOf Go.Proofs.Try.prog 95 = some (true, 3) := by kernel_rfl
theorem fl95_0 : fldOf Go.Proofs.Try.prog 95 0 = some (0, 3) := by kernel_rfl
theorem fl95_1 : fldOf Go.Proofs.Try.prog 95 1 = some (1, 3) := by kernel_rfl
theorem fl95_2 : fldOf Go.Proofs.Try.prog 95 2 = some (2, 3) := by kernel_rfl
theorem z95 : zcOf Go.Proofs.Try.prog 95 = some [.r true (val (.int .i64 0)), .r true (val (.int .i64 0)), .r true (val (.int .i64 0))] := by kernel_rfl
theorem zp95 : zpOf Go.Proofs.Try.prog 95 = some (.agg [val (.int .i64 0), val (.int .i64 0), val (.int .i64 0)]) := by kernel_rfl
theorem bl95 : bldOf Go.Proofs.Try.prog 95 = some [(0, 1), (1, 1), (2, 1)] := by kernel_rfl
theorem ty98 : tyOf Go.Proofs.Try.prog 98 = some (true, 3) := by kernel_rfl
theorem fl98_0 : fldOf Go.Proofs.Try.prog 98 0 = some (0, 3) := by kernel_rfl
theorem fl98_1 : fldOf Go.Proofs.Try.prog 98 1 = some (1, 3) := by kernel_rfl
theorem fl98_2 : fldOf Go.Proofs.Try.prog 98 2 = some (2, 3) := by kernel_rfl
theorem z98 : zcOf Go.Proofs.Try.prog 98 = some [.r true (val (.int .i64 0)), .r true (val (.int .i64 0)), .r true (val (.int .i64 0))] := by kernel_rfl
theorem zp98 : zpOf Go.Proofs.Try.prog 98 = some (.agg [val (.int .i64 0), val (.int .i64 0), val (.int .i64 0)]) := by kernel_rfl
theorem bl98 : bldOf Go.Proofs.Try.prog 98 = some [(0, 1), (1, 1), (2, 1)] := by kernel_rfl
theorem ty105 : tyOf Go.Proofs.Try.prog 105 = some (false, 1) := by kernel_rfl
theorem z105 : zcOf Go.Proofs.Try.prog 105 = some [.r true (val (.nilFunc))] := by kernel_rfl
theorem zp105 : zpOf Go.Proofs.Try.prog 105 = some (.one (val (.nilFunc))) := by kernel_rfl
theorem ty118 : tyOf Go.Proofs.Try.prog 118 = some (true, 3) := by kernel_rfl
theorem fl118_0 : fldOf Go.Proofs.Try.prog 118 0 = some (0, 3) := by kernel_rfl
theorem fl118_1 : fldOf Go.Proofs.Try.prog 118 1 = some (1, 3) := by kernel_rfl
theorem fl118_2 : fldOf Go.Proofs.Try.prog 118 2 = some (2, 3) := by kernel_rfl
theorem z118 : zcOf Go.Proofs.Try.prog 118 = some [.r true (val (.int .i64 0)), .r true (val (.int .i64 0)), .r true (val (.int .i64 0))] := by kernel_rfl
theorem zp118 : zpOf Go.Proofs.Try.prog 118 = some (.agg [val (.int .i64 0), val (.int .i64 0), val (.int .i64 0)]) := by kernel_rfl
theorem bl118 : bldOf Go.Proofs.Try.prog 118 = some [(0, 1), (1, 1), (2, 1)] := by kernel_rfl
theorem ty122 : tyOf Go.Proofs.Try.prog 122 = some (true, 2) := by kernel_rfl
theorem fl122_0 : fldOf Go.Proofs.Try.prog 122 0 = some (0, 55) := by kernel_rfl
theorem fl122_1 : fldOf Go.Proofs.Try.prog 122 1 = some (1, 3) := by kernel_rfl
theorem z122 : zcOf Go.Proofs.Try.prog 122 = some [.r true (row true 0 []), .r true (val (.int .i64 0))] := by kernel_rfl
theorem zp122 : zpOf Go.Proofs.Try.prog 122 = some (.agg [row true 0 [], val (.int .i64 0)]) := by kernel_rfl
theorem bl122 : bldOf Go.Proofs.Try.prog 122 = some [(0, 1), (1, 1)] := by kernel_rfl
theorem ty132 : tyOf Go.Proofs.Try.prog 132 = some (false, 1) := by kernel_rfl
theorem z132 : zcOf Go.Proofs.Try.prog 132 = some [.r true (val (.nilFunc))] := by kernel_rfl
theorem zp132 : zpOf Go.Proofs.Try.prog 132 = some (.one (val (.nilFunc))) := by kernel_rfl
theorem ty134 : tyOf Go.Proofs.Try.prog 134 = some (true, 2) := by kernel_rfl
theorem fl134_0 : fldOf Go.Proofs.Try.prog 134 0 = some (0, 24) := by kernel_rfl
theorem fl134_1 : fldOf Go.Proofs.Try.prog 134 1 = some (1, 3) := by kernel_rfl
theorem z134 : zcOf Go.Proofs.Try.prog 134 = some [.r true (row true 0 []), .r true (val (.int .i64 0))] := by kernel_rfl
theorem zp134 : zpOf Go.Proofs.Try.prog 134 = some (.agg [row true 0 [], val (.int .i64 0)]) := by kernel_rfl
theorem bl134 : bldOf Go.Proofs.Try.prog 134 = some [(0, 1), (1, 1)] := by kernel_rfl
theorem ty137 : tyOf Go.Proofs.Try.prog 137 = some (false, 1) := by kernel_rfl
theorem z137 : zcOf Go.Proofs.Try.prog 137 = some [.r true (val (.pointer none))] := by kernel_rfl
theorem zp137 : zpOf Go.Proofs.Try.prog 137 = some (.one (val (.pointer none))) := by kernel_rfl
theorem ty143 : tyOf Go.Proofs.Try.prog 143 = some (false, 1) := by kernel_rfl
theorem z143 : zcOf Go.Proofs.Try.prog 143 = some [.r true (val (.nilFunc))] := by kernel_rfl
theorem zp143 : zpOf Go.Proofs.Try.prog 143 = some (.one (val (.nilFunc))) := by kernel_rfl
theorem ty153 : tyOf Go.Proofs.Try.prog 153 = some (true, 1) := by kernel_rfl
theorem fl153_0 : fldOf Go.Proofs.Try.prog 153 0 = some (0, 24) := by kernel_rfl
theorem z153 : zcOf Go.Proofs.Try.prog 153 = some [.r true (row true 0 [])] := by kernel_rfl
theorem zp153 : zpOf Go.Proofs.Try.prog 153 = some (.agg [row true 0 []]) := by kernel_rfl
theorem bl153 : bldOf Go.Proofs.Try.prog 153 = some [(0, 1)] := by kernel_rfl
theorem ty155 : tyOf Go.Proofs.Try.prog 155 = some (false, 1) := by kernel_rfl
theorem z155 : zcOf Go.Proofs.Try.prog 155 = some [.r true (val (.pointer none))] := by kernel_rfl
theorem zp155 : zpOf Go.Proofs.Try.prog 155 = some (.one (val (.pointer none))) := by kernel_rfl
theorem ty156 : tyOf Go.Proofs.Try.prog 156 = some (false, 1) := by kernel_rfl
theorem z156 : zcOf Go.Proofs.Try.prog 156 = some [.r true (val (.nilFunc))] := by kernel_rfl
theorem zp156 : zpOf Go.Proofs.Try.prog 156 = some (.one (val (.nilFunc))) := by kernel_rfl
theorem ty161 : tyOf Go.Proofs.Try.prog 161 = some (false, 1) := by kernel_rfl
theorem z161 : zcOf Go.Proofs.Try.prog 161 = some [.r true (val (.pointer none))] := by kernel_rfl
theorem zp161 : zpOf Go.Proofs.Try.prog 161 = some (.one (val (.pointer none))) := by kernel_rfl
def tb : TB := ⟨[(3, false, 1), (4, false, 1), (5, false, 1), (9, false, 1), (17, false, 1), (19, true, 1), (22, false, 1), (24, false, 1), (25, false, 1), (26, false, 1), (28, true, 4), (36, false, 1), (38, true, 2), (40, true, 2), (44, false, 1), (46, true, 2), (48, true, 2), (55, false, 1), (81, false, 1), (84, true, 3), (89, false, 1), (95, true, 3), (98, true, 3), (105, false, 1), (118, true, 3), (122, true, 2), (132, false, 1), (134, true, 2), (137, false, 1), (143, false, 1), (153, true, 1), (155, false, 1), (156, false, 1), (161, false, 1)], [(19, 0, 0, 17), (28, 0, 0, 3), (28, 1, 1, 24), (28, 2, 2, 25), (28, 3, 3, 26), (38, 0, 0, 3), (38, 1, 1, 36), (40, 0, 0, 24), (40, 1, 1, 24), (46, 0, 0, 3), (46, 1, 1, 44), (48, 0, 0, 24), (48, 1, 1, 24), (84, 0, 0, 3), (84, 1, 1, 3), (84, 2, 2, 3), (95, 0, 0, 3), (95, 1, 1, 3), (95, 2, 2, 3), (98, 0, 0, 3), (98, 1, 1, 3), (98, 2, 2, 3), (118, 0, 0, 3), (118, 1, 1, 3), (118, 2, 2, 3), (122, 0, 0, 55), (122, 1, 1, 3), (134, 0, 0, 24), (134, 1, 1, 3), (153, 0, 0, 24)], [(22, 24, 1), (24, 3, 1), (25, 4, 1), (26, 95, 3), (36, 118, 3), (44, 98, 3), (55, 5, 1)], [(3, [.r true (val (.int .i64 0))]), (5, [.r true (val (.int .u8 0))]), (9, [.r true (val (.string ⟨#[]⟩))]), (17, [.r true (val (.pointer none))]), (19, [.r true (val (.pointer none))]), (22, [.r true (row true 0 [])]), (24, [.r true (row true 0 [])]), (25, [.r true (row true 0 [])]), (26, [.r true (row true 0 [])]), (28, [.r true (val (.int .i64 0)), .r true (row true 0 []), .r true (row true 0 []), .r true (row true 0 [])]), (36, [.r true (row true 0 [])]), (38, [.r true (val (.int .i64 0)), .r true (row true 0 [])]), (40, [.r true (row true 0 []), .r true (row true 0 [])]), (44, [.r true (row true 0 [])]), (46, [.r true (val (.int .i64 0)), .r true (row true 0 [])]), (48, [.r true (row true 0 []), .r true (row true 0 [])]), (55, [.r true (row true 0 [])]), (81, [.r true (val (.pointer none))]), (84, [.r true (val (.int .i64 0)), .r true (val (.int .i64 0)), .r true (val (.int .i64 0))]), (89, [.r true (val (.nilFunc))]), (95, [.r true (val (.int .i64 0)), .r true (val (.int .i64 0)), .r true (val (.int .i64 0))]), (98, [.r true (val (.int .i64 0)), .r true (val (.int .i64 0)), .r true (val (.int .i64 0))]), (105, [.r true (val (.nilFunc))]), (118, [.r true (val (.int .i64 0)), .r true (val (.int .i64 0)), .r true (val (.int .i64 0))]), (122, [.r true (row true 0 []), .r true (val (.int .i64 0))]), (132, [.r true (val (.nilFunc))]), (134, [.r true (row true 0 []), .r true (val (.int .i64 0))]), (137, [.r true (val (.pointer none))]), (143, [.r true (val (.nilFunc))]), (153, [.r true (row true 0 [])]), (155, [.r true (val (.pointer none))]), (156, [.r true (val (.nilFunc))]), (161, [.r true (val (.pointer none))])], [4], [(19, [(0, 1)]), (28, [(0, 1), (1, 1), (2, 1), (3, 1)]), (38, [(0, 1), (1, 1)]), (40, [(0, 1), (1, 1)]), (46, [(0, 1), (1, 1)]), (48, [(0, 1), (1, 1)]), (84, [(0, 1), (1, 1), (2, 1)]), (95, [(0, 1), (1, 1), (2, 1)]), (98, [(0, 1), (1, 1), (2, 1)]), (118, [(0, 1), (1, 1), (2, 1)]), (122, [(0, 1), (1, 1)]), (134, [(0, 1), (1, 1)]), (153, [(0, 1)])]⟩
theorem tbOk : TbOk Go.Proofs.Try.prog tb := ⟨⟨ty3, ty4, ty5, ty9, ty17, ty19, ty22, ty24, ty25, ty26, ty28, ty36, ty38, ty40, ty44, ty46, ty48, ty55, ty81, ty84, ty89, ty95, ty98, ty105, ty118, ty122, ty132, ty134, ty137, ty143, ty153, ty155, ty156, ty161, trivial⟩, ⟨fl19_0, fl28_0, fl28_1, fl28_2, fl28_3, fl38_0, fl38_1, fl40_0, fl40_1, fl46_0, fl46_1, fl48_0, fl48_1, fl84_0, fl84_1, fl84_2, fl95_0, fl95_1, fl95_2, fl98_0, fl98_1, fl98_2, fl118_0, fl118_1, fl118_2, fl122_0, fl122_1, fl134_0, fl134_1, fl153_0, trivial⟩, ⟨sl22, sl24, sl25, sl26, sl36, sl44, sl55, trivial⟩, ⟨z3, z5, z9, z17, z19, z22, z24, z25, z26, z28, z36, z38, z40, z44, z46, z48, z55, z81, z84, z89, z95, z98, z105, z118, z122, z132, z134, z137, z143, z153, z155, z156, z161, trivial⟩, ⟨bo4, trivial⟩, ⟨bl19, bl28, bl38, bl40, bl46, bl48, bl84, bl95, bl98, bl118, bl122, bl134, bl153, trivial⟩⟩
def tl : TL := ⟨[(22, 24, 1, 24), (24, 3, 1, 8), (25, 4, 1, 1), (26, 95, 3, 24), (36, 118, 3, 24), (44, 98, 3, 24), (55, 5, 1, 1)], [(3, (.one (val (.int .i64 0)))), (5, (.one (val (.int .u8 0)))), (9, (.one (val (.string ⟨#[]⟩)))), (17, (.one (val (.pointer none)))), (19, (.agg [val (.pointer none)])), (22, (.one (row true 0 []))), (24, (.one (row true 0 []))), (25, (.one (row true 0 []))), (26, (.one (row true 0 []))), (28, (.agg [val (.int .i64 0), row true 0 [], row true 0 [], row true 0 []])), (36, (.one (row true 0 []))), (38, (.agg [val (.int .i64 0), row true 0 []])), (40, (.agg [row true 0 [], row true 0 []])), (44, (.one (row true 0 []))), (46, (.agg [val (.int .i64 0), row true 0 []])), (48, (.agg [row true 0 [], row true 0 []])), (55, (.one (row true 0 []))), (81, (.one (val (.pointer none)))), (84, (.agg [val (.int .i64 0), val (.int .i64 0), val (.int .i64 0)])), (89, (.one (val (.nilFunc)))), (95, (.agg [val (.int .i64 0), val (.int .i64 0), val (.int .i64 0)])), (98, (.agg [val (.int .i64 0), val (.int .i64 0), val (.int .i64 0)])), (105, (.one (val (.nilFunc)))), (118, (.agg [val (.int .i64 0), val (.int .i64 0), val (.int .i64 0)])), (122, (.agg [row true 0 [], val (.int .i64 0)])), (132, (.one (val (.nilFunc)))), (134, (.agg [row true 0 [], val (.int .i64 0)])), (137, (.one (val (.pointer none)))), (143, (.one (val (.nilFunc)))), (153, (.agg [row true 0 []])), (155, (.one (val (.pointer none)))), (156, (.one (val (.nilFunc)))), (161, (.one (val (.pointer none))))]⟩
theorem tlOk : TLOk Go.Proofs.Try.prog tl := ⟨⟨el22, el24, el25, el26, el36, el44, el55, trivial⟩, ⟨zp3, zp5, zp9, zp17, zp19, zp22, zp24, zp25, zp26, zp28, zp36, zp38, zp40, zp44, zp46, zp48, zp55, zp81, zp84, zp89, zp95, zp98, zp105, zp118, zp122, zp132, zp134, zp137, zp143, zp153, zp155, zp156, zp161, trivial⟩⟩
end Go.Proofs.Ytmkecjamfippfaa.Abs
