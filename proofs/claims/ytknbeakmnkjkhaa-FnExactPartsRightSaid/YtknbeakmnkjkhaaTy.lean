/- The types of the program as facts: cells, fields, elements, zero values. No statement of the seat is proved here. -/
import Derived.Test.YtknbeakmnkjkhaaProg
import Derived.Test.YtknbeakmnkjkhaaAbsN
namespace Go.Proofs.Ytknbeakmnkjkhaa.Abs
open R (val row ref)
theorem ty3 : tyOf Go.Proofs.Try.prog 3 = some (false, 1) := by kernel_rfl
theorem z3 : zcOf Go.Proofs.Try.prog 3 = some [.r true (val (.int .i64 0))] := by kernel_rfl
theorem zp3 : zpOf Go.Proofs.Try.prog 3 = some (.one (val (.int .i64 0))) := by kernel_rfl
theorem ty4 : tyOf Go.Proofs.Try.prog 4 = some (false, 1) := by kernel_rfl
theorem bo4 : Go.Proofs.Try.prog.underlying 4 = some .bool := by kernel_rfl
theorem ty5 : tyOf Go.Proofs.Try.prog 5 = some (false, 1) := by kernel_rfl
theorem z5 : zcOf Go.Proofs.Try.prog 5 = some [.r true (val (.int .u8 0))] := by kernel_rfl
theorem zp5 : zpOf Go.Proofs.Try.prog 5 = some (.one (val (.int .u8 0))) := by kernel_rfl
theorem ty9 : tyOf Go.Proofs.Try.prog 9 = some (false, 1) := by kernel_rfl
theorem z9 : zcOf Go.Proofs.Try.prog 9 = some [.r true (val (.string ⟨#[]⟩))] := by kernel_rfl
theorem zp9 : zpOf Go.Proofs.Try.prog 9 = some (.one (val (.string ⟨#[]⟩))) := by kernel_rfl
theorem ty19 : tyOf Go.Proofs.Try.prog 19 = some (true, 1) := by kernel_rfl
theorem fl19_0 : fldOf Go.Proofs.Try.prog 19 0 = some (0, 17) := by kernel_rfl
theorem z19 : zcOf Go.Proofs.Try.prog 19 = some [.r true (val (.pointer none))] := by kernel_rfl
theorem zp19 : zpOf Go.Proofs.Try.prog 19 = some (.agg [val (.pointer none)]) := by kernel_rfl
theorem ty22 : tyOf Go.Proofs.Try.prog 22 = some (false, 1) := by kernel_rfl
theorem sl22 : slOf Go.Proofs.Try.prog 22 = some (45, 3) := by kernel_rfl
theorem z22 : zcOf Go.Proofs.Try.prog 22 = some [.r true (row true 0 [])] := by kernel_rfl
theorem el22 : elOf Go.Proofs.Try.prog 22 = some (45, 3, 24) := by kernel_rfl
theorem zp22 : zpOf Go.Proofs.Try.prog 22 = some (.one (row true 0 [])) := by kernel_rfl
theorem ty24 : tyOf Go.Proofs.Try.prog 24 = some (true, 2) := by kernel_rfl
theorem fl24_0 : fldOf Go.Proofs.Try.prog 24 0 = some (0, 3) := by kernel_rfl
theorem fl24_1 : fldOf Go.Proofs.Try.prog 24 1 = some (1, 22) := by kernel_rfl
theorem z24 : zcOf Go.Proofs.Try.prog 24 = some [.r true (val (.int .i64 0)), .r true (row true 0 [])] := by kernel_rfl
theorem zp24 : zpOf Go.Proofs.Try.prog 24 = some (.agg [val (.int .i64 0), row true 0 []]) := by kernel_rfl
theorem ty26 : tyOf Go.Proofs.Try.prog 26 = some (false, 1) := by kernel_rfl
theorem sl26 : slOf Go.Proofs.Try.prog 26 = some (47, 3) := by kernel_rfl
theorem z26 : zcOf Go.Proofs.Try.prog 26 = some [.r true (row true 0 [])] := by kernel_rfl
theorem el26 : elOf Go.Proofs.Try.prog 26 = some (47, 3, 24) := by kernel_rfl
theorem zp26 : zpOf Go.Proofs.Try.prog 26 = some (.one (row true 0 [])) := by kernel_rfl
theorem ty28 : tyOf Go.Proofs.Try.prog 28 = some (true, 2) := by kernel_rfl
theorem fl28_0 : fldOf Go.Proofs.Try.prog 28 0 = some (0, 3) := by kernel_rfl
theorem fl28_1 : fldOf Go.Proofs.Try.prog 28 1 = some (1, 26) := by kernel_rfl
theorem z28 : zcOf Go.Proofs.Try.prog 28 = some [.r true (val (.int .i64 0)), .r true (row true 0 [])] := by kernel_rfl
theorem zp28 : zpOf Go.Proofs.Try.prog 28 = some (.agg [val (.int .i64 0), row true 0 []]) := by kernel_rfl
theorem ty35 : tyOf Go.Proofs.Try.prog 35 = some (false, 1) := by kernel_rfl
theorem sl35 : slOf Go.Proofs.Try.prog 35 = some (3, 1) := by kernel_rfl
theorem z35 : zcOf Go.Proofs.Try.prog 35 = some [.r true (row true 0 [])] := by kernel_rfl
theorem el35 : elOf Go.Proofs.Try.prog 35 = some (3, 1, 8) := by kernel_rfl
theorem zp35 : zpOf Go.Proofs.Try.prog 35 = some (.one (row true 0 [])) := by kernel_rfl
theorem ty45 : tyOf Go.Proofs.Try.prog 45 = some (true, 3) := by kernel_rfl
theorem fl45_0 : fldOf Go.Proofs.Try.prog 45 0 = some (0, 3) := by kernel_rfl
theorem fl45_1 : fldOf Go.Proofs.Try.prog 45 1 = some (1, 3) := by kernel_rfl
theorem fl45_2 : fldOf Go.Proofs.Try.prog 45 2 = some (2, 3) := by kernel_rfl
theorem z45 : zcOf Go.Proofs.Try.prog 45 = some [.r true (val (.int .i64 0)), .r true (val (.int .i64 0)), .r true (val (.int .i64 0))] := by kernel_rfl
theorem zp45 : zpOf Go.Proofs.Try.prog 45 = some (.agg [val (.int .i64 0), val (.int .i64 0), val (.int .i64 0)]) := by kernel_rfl
theorem ty47 : tyOf Go.Proofs.Try.prog 47 = some (true, 3) := by kernel_rfl
theorem fl47_0 : fldOf Go.Proofs.Try.prog 47 0 = some (0, 3) := by kernel_rfl
theorem fl47_1 : fldOf Go.Proofs.Try.prog 47 1 = some (1, 3) := by kernel_rfl
theorem fl47_2 : fldOf Go.Proofs.Try.prog 47 2 = some (2, 3) := by kernel_rfl
theorem z47 : zcOf Go.Proofs.Try.prog 47 = some [.r true (val (.int .i64 0)), .r true (val (.int .i64 0)), .r true (val (.int .i64 0))] := by kernel_rfl
theorem zp47 : zpOf Go.Proofs.Try.prog 47 = some (.agg [val (.int .i64 0), val (.int .i64 0), val (.int .i64 0)]) := by kernel_rfl
theorem ty50 : tyOf Go.Proofs.Try.prog 50 = some (false, 1) := by kernel_rfl
theorem sl50 : slOf Go.Proofs.Try.prog 50 = some (5, 1) := by kernel_rfl
theorem z50 : zcOf Go.Proofs.Try.prog 50 = some [.r true (row true 0 [])] := by kernel_rfl
theorem el50 : elOf Go.Proofs.Try.prog 50 = some (5, 1, 1) := by kernel_rfl
theorem zp50 : zpOf Go.Proofs.Try.prog 50 = some (.one (row true 0 [])) := by kernel_rfl
theorem ty58 : tyOf Go.Proofs.Try.prog 58 = some (true, 2) := by kernel_rfl
theorem fl58_0 : fldOf Go.Proofs.Try.prog 58 0 = some (0, 35) := by kernel_rfl
theorem fl58_1 : fldOf Go.Proofs.Try.prog 58 1 = some (1, 35) := by kernel_rfl
theorem z58 : zcOf Go.Proofs.Try.prog 58 = some [.r true (row true 0 []), .r true (row true 0 [])] := by kernel_rfl
theorem zp58 : zpOf Go.Proofs.Try.prog 58 = some (.agg [row true 0 [], row true 0 []]) := by kernel_rfl
theorem ty60 : tyOf Go.Proofs.Try.prog 60 = some (true, 4) := by kernel_rfl
theorem fl60_0 : fldOf Go.Proofs.Try.prog 60 0 = some (0, 24) := by kernel_rfl
theorem fl60_1 : fldOf Go.Proofs.Try.prog 60 1 = some (2, 58) := by kernel_rfl
theorem z60 : zcOf Go.Proofs.Try.prog 60 = some [.r true (val (.int .i64 0)), .r true (row true 0 []), .r true (row true 0 []), .r true (row true 0 [])] := by kernel_rfl
theorem zp60 : zpOf Go.Proofs.Try.prog 60 = some (.agg [val (.int .i64 0), row true 0 [], row true 0 [], row true 0 []]) := by kernel_rfl
theorem ty63 : tyOf Go.Proofs.Try.prog 63 = some (true, 2) := by kernel_rfl
theorem fl63_0 : fldOf Go.Proofs.Try.prog 63 0 = some (0, 35) := by kernel_rfl
theorem fl63_1 : fldOf Go.Proofs.Try.prog 63 1 = some (1, 35) := by kernel_rfl
theorem z63 : zcOf Go.Proofs.Try.prog 63 = some [.r true (row true 0 []), .r true (row true 0 [])] := by kernel_rfl
theorem zp63 : zpOf Go.Proofs.Try.prog 63 = some (.agg [row true 0 [], row true 0 []]) := by kernel_rfl
theorem ty65 : tyOf Go.Proofs.Try.prog 65 = some (true, 4) := by kernel_rfl
theorem fl65_0 : fldOf Go.Proofs.Try.prog 65 0 = some (0, 28) := by kernel_rfl
theorem fl65_1 : fldOf Go.Proofs.Try.prog 65 1 = some (2, 63) := by kernel_rfl
theorem z65 : zcOf Go.Proofs.Try.prog 65 = some [.r true (val (.int .i64 0)), .r true (row true 0 []), .r true (row true 0 []), .r true (row true 0 [])] := by kernel_rfl
theorem zp65 : zpOf Go.Proofs.Try.prog 65 = some (.agg [val (.int .i64 0), row true 0 [], row true 0 [], row true 0 []]) := by kernel_rfl
theorem ty81 : tyOf Go.Proofs.Try.prog 81 = some (false, 1) := by kernel_rfl
theorem sl81 : slOf Go.Proofs.Try.prog 81 = some (35, 1) := by kernel_rfl
theorem z81 : zcOf Go.Proofs.Try.prog 81 = some [.r true (row true 0 [])] := by kernel_rfl
theorem el81 : elOf Go.Proofs.Try.prog 81 = some (35, 1, 24) := by kernel_rfl
theorem zp81 : zpOf Go.Proofs.Try.prog 81 = some (.one (row true 0 [])) := by kernel_rfl
theorem ty95 : tyOf Go.Proofs.Try.prog 95 = some (false, 1) := by kernel_rfl
theorem z95 : zcOf Go.Proofs.Try.prog 95 = some [.r true (val (.nilFunc))] := by kernel_rfl
theorem zp95 : zpOf Go.Proofs.Try.prog 95 = some (.one (val (.nilFunc))) := by kernel_rfl
theorem ty97 : tyOf Go.Proofs.Try.prog 97 = some (false, 1) := by kernel_rfl
theorem z97 : zcOf Go.Proofs.Try.prog 97 = some [.r true (val (.int .u32 0))] := by kernel_rfl
theorem zp97 : zpOf Go.Proofs.Try.prog 97 = some (.one (val (.int .u32 0))) := by kernel_rfl
theorem ty100 : tyOf Go.Proofs.Try.prog 100 = some (false, 1) := by kernel_rfl
theorem z100 : zcOf Go.Proofs.Try.prog 100 = some [.r true (val (.nilFunc))] := by kernel_rfl
theorem zp100 : zpOf Go.Proofs.Try.prog 100 = some (.one (val (.nilFunc))) := by kernel_rfl
theorem ty102 : tyOf Go.Proofs.Try.prog 102 = some (false, 1) := by kernel_rfl
theorem sl102 : slOf Go.Proofs.Try.prog 102 = some (97, 1) := by kernel_rfl
theorem z102 : zcOf Go.Proofs.Try.prog 102 = some [.r true (row true 0 [])] := by kernel_rfl
theorem el102 : elOf Go.Proofs.Try.prog 102 = some (97, 1, 4) := by kernel_rfl
theorem zp102 : zpOf Go.Proofs.Try.prog 102 = some (.one (row true 0 [])) := by kernel_rfl
theorem ty107 : tyOf Go.Proofs.Try.prog 107 = some (false, 1) := by kernel_rfl
theorem z107 : zcOf Go.Proofs.Try.prog 107 = some [.r true (val (.nilFunc))] := by kernel_rfl
theorem zp107 : zpOf Go.Proofs.Try.prog 107 = some (.one (val (.nilFunc))) := by kernel_rfl
theorem ty109 : tyOf Go.Proofs.Try.prog 109 = some (false, 1) := by kernel_rfl
theorem z109 : zcOf Go.Proofs.Try.prog 109 = some [.r true (val (.pointer none))] := by kernel_rfl
theorem zp109 : zpOf Go.Proofs.Try.prog 109 = some (.one (val (.pointer none))) := by kernel_rfl
theorem ty123 : tyOf Go.Proofs.Try.prog 123 = some (true, 2) := by kernel_rfl
theorem fl123_0 : fldOf Go.Proofs.Try.prog 123 0 = some (0, 35) := by kernel_rfl
theorem fl123_1 : fldOf Go.Proofs.Try.prog 123 1 = some (1, 3) := by kernel_rfl
theorem z123 : zcOf Go.Proofs.Try.prog 123 = some [.r true (row true 0 []), .r true (val (.int .i64 0))] := by kernel_rfl
theorem zp123 : zpOf Go.Proofs.Try.prog 123 = some (.agg [row true 0 [], val (.int .i64 0)]) := by kernel_rfl
theorem ty136 : tyOf Go.Proofs.Try.prog 136 = some (false, 1) := by kernel_rfl
theorem z136 : zcOf Go.Proofs.Try.prog 136 = some [.r true (val (.nilFunc))] := by kernel_rfl
theorem zp136 : zpOf Go.Proofs.Try.prog 136 = some (.one (val (.nilFunc))) := by kernel_rfl
theorem ty145 : tyOf Go.Proofs.Try.prog 145 = some (true, 2) := by kernel_rfl
theorem fl145_0 : fldOf Go.Proofs.Try.prog 145 0 = some (0, 50) := by kernel_rfl
theorem fl145_1 : fldOf Go.Proofs.Try.prog 145 1 = some (1, 3) := by kernel_rfl
theorem z145 : zcOf Go.Proofs.Try.prog 145 = some [.r true (row true 0 []), .r true (val (.int .i64 0))] := by kernel_rfl
theorem zp145 : zpOf Go.Proofs.Try.prog 145 = some (.agg [row true 0 [], val (.int .i64 0)]) := by kernel_rfl
theorem ty148 : tyOf Go.Proofs.Try.prog 148 = some (false, 1) := by kernel_rfl
theorem z148 : zcOf Go.Proofs.Try.prog 148 = some [.r true (val (.pointer none))] := by kernel_rfl
theorem zp148 : zpOf Go.Proofs.Try.prog 148 = some (.one (val (.pointer none))) := by kernel_rfl
theorem ty150 : tyOf Go.Proofs.Try.prog 150 = some (true, 1) := by kernel_rfl
theorem fl150_0 : fldOf Go.Proofs.Try.prog 150 0 = some (0, 35) := by kernel_rfl
theorem z150 : zcOf Go.Proofs.Try.prog 150 = some [.r true (row true 0 [])] := by kernel_rfl
theorem zp150 : zpOf Go.Proofs.Try.prog 150 = some (.agg [row true 0 []]) := by kernel_rfl
theorem ty153 : tyOf Go.Proofs.Try.prog 153 = some (false, 1) := by kernel_rfl
theorem z153 : zcOf Go.Proofs.Try.prog 153 = some [.r true (val (.pointer none))] := by kernel_rfl
theorem zp153 : zpOf Go.Proofs.Try.prog 153 = some (.one (val (.pointer none))) := by kernel_rfl
def tb : TB := ⟨[(3, false, 1), (4, false, 1), (5, false, 1), (9, false, 1), (19, true, 1), (22, false, 1), (24, true, 2), (26, false, 1), (28, true, 2), (35, false, 1), (45, true, 3), (47, true, 3), (50, false, 1), (58, true, 2), (60, true, 4), (63, true, 2), (65, true, 4), (81, false, 1), (95, false, 1), (97, false, 1), (100, false, 1), (102, false, 1), (107, false, 1), (109, false, 1), (123, true, 2), (136, false, 1), (145, true, 2), (148, false, 1), (150, true, 1), (153, false, 1)], [(19, 0, 0, 17), (24, 0, 0, 3), (24, 1, 1, 22), (28, 0, 0, 3), (28, 1, 1, 26), (45, 0, 0, 3), (45, 1, 1, 3), (45, 2, 2, 3), (47, 0, 0, 3), (47, 1, 1, 3), (47, 2, 2, 3), (58, 0, 0, 35), (58, 1, 1, 35), (60, 0, 0, 24), (60, 1, 2, 58), (63, 0, 0, 35), (63, 1, 1, 35), (65, 0, 0, 28), (65, 1, 2, 63), (123, 0, 0, 35), (123, 1, 1, 3), (145, 0, 0, 50), (145, 1, 1, 3), (150, 0, 0, 35)], [(22, 45, 3), (26, 47, 3), (35, 3, 1), (50, 5, 1), (81, 35, 1), (102, 97, 1)], [(3, [.r true (val (.int .i64 0))]), (5, [.r true (val (.int .u8 0))]), (9, [.r true (val (.string ⟨#[]⟩))]), (19, [.r true (val (.pointer none))]), (22, [.r true (row true 0 [])]), (24, [.r true (val (.int .i64 0)), .r true (row true 0 [])]), (26, [.r true (row true 0 [])]), (28, [.r true (val (.int .i64 0)), .r true (row true 0 [])]), (35, [.r true (row true 0 [])]), (45, [.r true (val (.int .i64 0)), .r true (val (.int .i64 0)), .r true (val (.int .i64 0))]), (47, [.r true (val (.int .i64 0)), .r true (val (.int .i64 0)), .r true (val (.int .i64 0))]), (50, [.r true (row true 0 [])]), (58, [.r true (row true 0 []), .r true (row true 0 [])]), (60, [.r true (val (.int .i64 0)), .r true (row true 0 []), .r true (row true 0 []), .r true (row true 0 [])]), (63, [.r true (row true 0 []), .r true (row true 0 [])]), (65, [.r true (val (.int .i64 0)), .r true (row true 0 []), .r true (row true 0 []), .r true (row true 0 [])]), (81, [.r true (row true 0 [])]), (95, [.r true (val (.nilFunc))]), (97, [.r true (val (.int .u32 0))]), (100, [.r true (val (.nilFunc))]), (102, [.r true (row true 0 [])]), (107, [.r true (val (.nilFunc))]), (109, [.r true (val (.pointer none))]), (123, [.r true (row true 0 []), .r true (val (.int .i64 0))]), (136, [.r true (val (.nilFunc))]), (145, [.r true (row true 0 []), .r true (val (.int .i64 0))]), (148, [.r true (val (.pointer none))]), (150, [.r true (row true 0 [])]), (153, [.r true (val (.pointer none))])], [4]⟩
theorem tbOk : TbOk Go.Proofs.Try.prog tb := ⟨⟨ty3, ty4, ty5, ty9, ty19, ty22, ty24, ty26, ty28, ty35, ty45, ty47, ty50, ty58, ty60, ty63, ty65, ty81, ty95, ty97, ty100, ty102, ty107, ty109, ty123, ty136, ty145, ty148, ty150, ty153, trivial⟩, ⟨fl19_0, fl24_0, fl24_1, fl28_0, fl28_1, fl45_0, fl45_1, fl45_2, fl47_0, fl47_1, fl47_2, fl58_0, fl58_1, fl60_0, fl60_1, fl63_0, fl63_1, fl65_0, fl65_1, fl123_0, fl123_1, fl145_0, fl145_1, fl150_0, trivial⟩, ⟨sl22, sl26, sl35, sl50, sl81, sl102, trivial⟩, ⟨z3, z5, z9, z19, z22, z24, z26, z28, z35, z45, z47, z50, z58, z60, z63, z65, z81, z95, z97, z100, z102, z107, z109, z123, z136, z145, z148, z150, z153, trivial⟩, ⟨bo4, trivial⟩⟩
def tl : TL := ⟨[(22, 45, 3, 24), (26, 47, 3, 24), (35, 3, 1, 8), (50, 5, 1, 1), (81, 35, 1, 24), (102, 97, 1, 4)], [(3, (.one (val (.int .i64 0)))), (5, (.one (val (.int .u8 0)))), (9, (.one (val (.string ⟨#[]⟩)))), (19, (.agg [val (.pointer none)])), (22, (.one (row true 0 []))), (24, (.agg [val (.int .i64 0), row true 0 []])), (26, (.one (row true 0 []))), (28, (.agg [val (.int .i64 0), row true 0 []])), (35, (.one (row true 0 []))), (45, (.agg [val (.int .i64 0), val (.int .i64 0), val (.int .i64 0)])), (47, (.agg [val (.int .i64 0), val (.int .i64 0), val (.int .i64 0)])), (50, (.one (row true 0 []))), (58, (.agg [row true 0 [], row true 0 []])), (60, (.agg [val (.int .i64 0), row true 0 [], row true 0 [], row true 0 []])), (63, (.agg [row true 0 [], row true 0 []])), (65, (.agg [val (.int .i64 0), row true 0 [], row true 0 [], row true 0 []])), (81, (.one (row true 0 []))), (95, (.one (val (.nilFunc)))), (97, (.one (val (.int .u32 0)))), (100, (.one (val (.nilFunc)))), (102, (.one (row true 0 []))), (107, (.one (val (.nilFunc)))), (109, (.one (val (.pointer none)))), (123, (.agg [row true 0 [], val (.int .i64 0)])), (136, (.one (val (.nilFunc)))), (145, (.agg [row true 0 [], val (.int .i64 0)])), (148, (.one (val (.pointer none)))), (150, (.agg [row true 0 []])), (153, (.one (val (.pointer none))))]⟩
theorem tlOk : TLOk Go.Proofs.Try.prog tl := ⟨⟨el22, el26, el35, el50, el81, el102, trivial⟩, ⟨zp3, zp5, zp9, zp19, zp22, zp24, zp26, zp28, zp35, zp45, zp47, zp50, zp58, zp60, zp63, zp65, zp81, zp95, zp97, zp100, zp102, zp107, zp109, zp123, zp136, zp145, zp148, zp150, zp153, trivial⟩⟩
end Go.Proofs.Ytknbeakmnkjkhaa.Abs
