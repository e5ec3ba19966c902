/- The types of the program as facts: cells, fields, elements, zero values. No statement of the seat is proved here. -/
import Derived.Test.YtihpchbkodihpaaProg
import Derived.Test.YtihpchbkodihpaaAbsN
namespace Go.Proofs.Ytihpchbkodihpaa.Abs
open R (val row ref)
theorem ty3 : tyOf Go.Proofs.Try.prog 3 = some (false, 1) := by kernel_rfl
theorem z3 : zcOf Go.Proofs.Try.prog 3 = some [.r true (val (.int .i64 0))] := by kernel_rfl
theorem zp3 : zpOf Go.Proofs.Try.prog 3 = some (.one (val (.int .i64 0))) := by kernel_rfl
theorem ty4 : tyOf Go.Proofs.Try.prog 4 = some (false, 1) := by kernel_rfl
theorem bo4 : Go.Proofs.Try.prog.underlying 4 = some .bool := by kernel_rfl
theorem ty5 : tyOf Go.Proofs.Try.prog 5 = some (false, 1) := by kernel_rfl
theorem z5 : zcOf Go.Proofs.Try.prog 5 = some [.r true (val (.int .u8 0))] := by kernel_rfl
theorem zp5 : zpOf Go.Proofs.Try.prog 5 = some (.one (val (.int .u8 0))) := by kernel_rfl
theorem ty9 : tyOf Go.Proofs.Try.prog 9 = some (false, 1) := by kernel_rfl
theorem z9 : zcOf Go.Proofs.Try.prog 9 = some [.r true (val (.string ⟨#[]⟩))] := by kernel_rfl
theorem zp9 : zpOf Go.Proofs.Try.prog 9 = some (.one (val (.string ⟨#[]⟩))) := by kernel_rfl
theorem ty17 : tyOf Go.Proofs.Try.prog 17 = some (false, 1) := by kernel_rfl
theorem z17 : zcOf Go.Proofs.Try.prog 17 = some [.r true (val (.pointer none))] := by kernel_rfl
theorem zp17 : zpOf Go.Proofs.Try.prog 17 = some (.one (val (.pointer none))) := by kernel_rfl
theorem ty19 : tyOf Go.Proofs.Try.prog 19 = some (true, 1) := by kernel_rfl
theorem fl19_0 : fldOf Go.Proofs.Try.prog 19 0 = some (0, 17) := by kernel_rfl
theorem z19 : zcOf Go.Proofs.Try.prog 19 = some [.r true (val (.pointer none))] := by kernel_rfl
theorem zp19 : zpOf Go.Proofs.Try.prog 19 = some (.agg [val (.pointer none)]) := by kernel_rfl
theorem bl19 : bldOf Go.Proofs.Try.prog 19 = some [(0, 1)] := by kernel_rfl
theorem ty22 : tyOf Go.Proofs.Try.prog 22 = some (false, 1) := by kernel_rfl
theorem sl22 : slOf Go.Proofs.Try.prog 22 = some (5, 1) := by kernel_rfl
theorem z22 : zcOf Go.Proofs.Try.prog 22 = some [.r true (row true 0 [])] := by kernel_rfl
theorem el22 : elOf Go.Proofs.Try.prog 22 = some (5, 1, 1) := by kernel_rfl
theorem zp22 : zpOf Go.Proofs.Try.prog 22 = some (.one (row true 0 [])) := by kernel_rfl
theorem ty23 : tyOf Go.Proofs.Try.prog 23 = some (false, 1) := by kernel_rfl
theorem sl23 : slOf Go.Proofs.Try.prog 23 = some (45, 3) := by kernel_rfl
theorem z23 : zcOf Go.Proofs.Try.prog 23 = some [.r true (row true 0 [])] := by kernel_rfl
theorem el23 : elOf Go.Proofs.Try.prog 23 = some (45, 3, 24) := by kernel_rfl
theorem zp23 : zpOf Go.Proofs.Try.prog 23 = some (.one (row true 0 [])) := by kernel_rfl
theorem ty25 : tyOf Go.Proofs.Try.prog 25 = some (true, 2) := by kernel_rfl
theorem fl25_0 : fldOf Go.Proofs.Try.prog 25 0 = some (0, 3) := by kernel_rfl
theorem fl25_1 : fldOf Go.Proofs.Try.prog 25 1 = some (1, 23) := by kernel_rfl
theorem z25 : zcOf Go.Proofs.Try.prog 25 = some [.r true (val (.int .i64 0)), .r true (row true 0 [])] := by kernel_rfl
theorem zp25 : zpOf Go.Proofs.Try.prog 25 = some (.agg [val (.int .i64 0), row true 0 []]) := by kernel_rfl
theorem bl25 : bldOf Go.Proofs.Try.prog 25 = some [(0, 1), (1, 1)] := by kernel_rfl
theorem ty26 : tyOf Go.Proofs.Try.prog 26 = some (false, 1) := by kernel_rfl
theorem sl26 : slOf Go.Proofs.Try.prog 26 = some (3, 1) := by kernel_rfl
theorem z26 : zcOf Go.Proofs.Try.prog 26 = some [.r true (row true 0 [])] := by kernel_rfl
theorem el26 : elOf Go.Proofs.Try.prog 26 = some (3, 1, 8) := by kernel_rfl
theorem zp26 : zpOf Go.Proofs.Try.prog 26 = some (.one (row true 0 [])) := by kernel_rfl
theorem ty28 : tyOf Go.Proofs.Try.prog 28 = some (true, 2) := by kernel_rfl
theorem fl28_0 : fldOf Go.Proofs.Try.prog 28 0 = some (0, 26) := by kernel_rfl
theorem fl28_1 : fldOf Go.Proofs.Try.prog 28 1 = some (1, 26) := by kernel_rfl
theorem z28 : zcOf Go.Proofs.Try.prog 28 = some [.r true (row true 0 []), .r true (row true 0 [])] := by kernel_rfl
theorem zp28 : zpOf Go.Proofs.Try.prog 28 = some (.agg [row true 0 [], row true 0 []]) := by kernel_rfl
theorem bl28 : bldOf Go.Proofs.Try.prog 28 = some [(0, 1), (1, 1)] := by kernel_rfl
theorem ty30 : tyOf Go.Proofs.Try.prog 30 = some (true, 4) := by kernel_rfl
theorem fl30_0 : fldOf Go.Proofs.Try.prog 30 0 = some (0, 25) := by kernel_rfl
theorem fl30_1 : fldOf Go.Proofs.Try.prog 30 1 = some (2, 28) := by kernel_rfl
theorem z30 : zcOf Go.Proofs.Try.prog 30 = some [.r true (val (.int .i64 0)), .r true (row true 0 []), .r true (row true 0 []), .r true (row true 0 [])] := by kernel_rfl
theorem zp30 : zpOf Go.Proofs.Try.prog 30 = some (.agg [val (.int .i64 0), row true 0 [], row true 0 [], row true 0 []]) := by kernel_rfl
theorem bl30 : bldOf Go.Proofs.Try.prog 30 = some [(0, 2), (2, 2)] := by kernel_rfl
theorem ty36 : tyOf Go.Proofs.Try.prog 36 = some (false, 1) := by kernel_rfl
theorem sl36 : slOf Go.Proofs.Try.prog 36 = some (40, 3) := by kernel_rfl
theorem z36 : zcOf Go.Proofs.Try.prog 36 = some [.r true (row true 0 [])] := by kernel_rfl
theorem el36 : elOf Go.Proofs.Try.prog 36 = some (40, 3, 24) := by kernel_rfl
theorem zp36 : zpOf Go.Proofs.Try.prog 36 = some (.one (row true 0 [])) := by kernel_rfl
theorem ty38 : tyOf Go.Proofs.Try.prog 38 = some (true, 2) := by kernel_rfl
theorem fl38_0 : fldOf Go.Proofs.Try.prog 38 0 = some (0, 3) := by kernel_rfl
theorem fl38_1 : fldOf Go.Proofs.Try.prog 38 1 = some (1, 36) := by kernel_rfl
theorem z38 : zcOf Go.Proofs.Try.prog 38 = some [.r true (val (.int .i64 0)), .r true (row true 0 [])] := by kernel_rfl
theorem zp38 : zpOf Go.Proofs.Try.prog 38 = some (.agg [val (.int .i64 0), row true 0 []]) := by kernel_rfl
theorem bl38 : bldOf Go.Proofs.Try.prog 38 = some [(0, 1), (1, 1)] := by kernel_rfl
theorem ty40 : tyOf Go.Proofs.Try.prog 40 = some (true, 3) := by kernel_rfl
theorem fl40_0 : fldOf Go.Proofs.Try.prog 40 0 = some (0, 3) := by kernel_rfl
theorem fl40_1 : fldOf Go.Proofs.Try.prog 40 1 = some (1, 3) := by kernel_rfl
theorem fl40_2 : fldOf Go.Proofs.Try.prog 40 2 = some (2, 3) := by kernel_rfl
theorem z40 : zcOf Go.Proofs.Try.prog 40 = some [.r true (val (.int .i64 0)), .r true (val (.int .i64 0)), .r true (val (.int .i64 0))] := by kernel_rfl
theorem zp40 : zpOf Go.Proofs.Try.prog 40 = some (.agg [val (.int .i64 0), val (.int .i64 0), val (.int .i64 0)]) := by kernel_rfl
theorem bl40 : bldOf Go.Proofs.Try.prog 40 = some [(0, 1), (1, 1), (2, 1)] := by kernel_rfl
theorem ty45 : tyOf Go.Proofs.Try.prog 45 = some (true, 3) := by kernel_rfl
theorem fl45_0 : fldOf Go.Proofs.Try.prog 45 0 = some (0, 3) := by kernel_rfl
theorem fl45_1 : fldOf Go.Proofs.Try.prog 45 1 = some (1, 3) := by kernel_rfl
theorem fl45_2 : fldOf Go.Proofs.Try.prog 45 2 = some (2, 3) := by kernel_rfl
theorem z45 : zcOf Go.Proofs.Try.prog 45 = some [.r true (val (.int .i64 0)), .r true (val (.int .i64 0)), .r true (val (.int .i64 0))] := by kernel_rfl
theorem zp45 : zpOf Go.Proofs.Try.prog 45 = some (.agg [val (.int .i64 0), val (.int .i64 0), val (.int .i64 0)]) := by kernel_rfl
theorem bl45 : bldOf Go.Proofs.Try.prog 45 = some [(0, 1), (1, 1), (2, 1)] := by kernel_rfl
theorem ty66 : tyOf Go.Proofs.Try.prog 66 = some (false, 1) := by kernel_rfl
theorem sl66 : slOf Go.Proofs.Try.prog 66 = some (26, 1) := by kernel_rfl
theorem z66 : zcOf Go.Proofs.Try.prog 66 = some [.r true (row true 0 [])] := by kernel_rfl
theorem el66 : elOf Go.Proofs.Try.prog 66 = some (26, 1, 24) := by kernel_rfl
theorem zp66 : zpOf Go.Proofs.Try.prog 66 = some (.one (row true 0 [])) := by kernel_rfl
theorem ty77 : tyOf Go.Proofs.Try.prog 77 = some (false, 1) := by kernel_rfl
theorem z77 : zcOf Go.Proofs.Try.prog 77 = some [.r true (val (.pointer none))] := by kernel_rfl
theorem zp77 : zpOf Go.Proofs.Try.prog 77 = some (.one (val (.pointer none))) := by kernel_rfl
theorem ty80 : tyOf Go.Proofs.Try.prog 80 = some (false, 1) := by kernel_rfl
theorem z80 : zcOf Go.Proofs.Try.prog 80 = some [.r true (val (.nilFunc))] := by kernel_rfl
theorem zp80 : zpOf Go.Proofs.Try.prog 80 = some (.one (val (.nilFunc))) := by kernel_rfl
theorem ty100 : tyOf Go.Proofs.Try.prog 100 = some (true, 2) := by kernel_rfl
theorem fl100_0 : fldOf Go.Proofs.Try.prog 100 0 = some (0, 26) := by kernel_rfl
theorem fl100_1 : fldOf Go.Proofs.Try.prog 100 1 = some (1, 3) := by kernel_rfl
theorem z100 : zcOf Go.Proofs.Try.prog 100 = some [.r true (row true 0 []), .r true (val (.int .i64 0))] := by kernel_rfl
theorem zp100 : zpOf Go.Proofs.Try.prog 100 = some (.agg [row true 0 [], val (.int .i64 0)]) := by kernel_rfl
theorem bl100 : bldOf Go.Proofs.Try.prog 100 = some [(0, 1), (1, 1)] := by kernel_rfl
theorem ty112 : tyOf Go.Proofs.Try.prog 112 = some (false, 1) := by kernel_rfl
theorem z112 : zcOf Go.Proofs.Try.prog 112 = some [.r true (val (.nilFunc))] := by kernel_rfl
theorem zp112 : zpOf Go.Proofs.Try.prog 112 = some (.one (val (.nilFunc))) := by kernel_rfl
theorem ty118 : tyOf Go.Proofs.Try.prog 118 = some (true, 2) := by kernel_rfl
theorem fl118_0 : fldOf Go.Proofs.Try.prog 118 0 = some (0, 22) := by kernel_rfl
theorem fl118_1 : fldOf Go.Proofs.Try.prog 118 1 = some (1, 3) := by kernel_rfl
theorem z118 : zcOf Go.Proofs.Try.prog 118 = some [.r true (row true 0 []), .r true (val (.int .i64 0))] := by kernel_rfl
theorem zp118 : zpOf Go.Proofs.Try.prog 118 = some (.agg [row true 0 [], val (.int .i64 0)]) := by kernel_rfl
theorem bl118 : bldOf Go.Proofs.Try.prog 118 = some [(0, 1), (1, 1)] := by kernel_rfl
theorem ty126 : tyOf Go.Proofs.Try.prog 126 = some (false, 1) := by kernel_rfl
theorem z126 : zcOf Go.Proofs.Try.prog 126 = some [.r true (val (.pointer none))] := by kernel_rfl
theorem zp126 : zpOf Go.Proofs.Try.prog 126 = some (.one (val (.pointer none))) := by kernel_rfl
theorem ty128 : tyOf Go.Proofs.Try.prog 128 = some (true, 1) := by kernel_rfl
theorem fl128_0 : fldOf Go.Proofs.Try.prog 128 0 = some (0, 26) := by kernel_rfl
theorem z128 : zcOf Go.Proofs.Try.prog 128 = some [.r true (row true 0 [])] := by kernel_rfl
theorem zp128 : zpOf Go.Proofs.Try.prog 128 = some (.agg [row true 0 []]) := by kernel_rfl
theorem bl128 : bldOf Go.Proofs.Try.prog 128 = some [(0, 1)] := by kernel_rfl
theorem ty131 : tyOf Go.Proofs.Try.prog 131 = some (false, 1) := by kernel_rfl
theorem z131 : zcOf Go.Proofs.Try.prog 131 = some [.r true (val (.nilFunc))] := by kernel_rfl
theorem zp131 : zpOf Go.Proofs.Try.prog 131 = some (.one (val (.nilFunc))) := by kernel_rfl
theorem ty132 : tyOf Go.Proofs.Try.prog 132 = some (false, 1) := by kernel_rfl
theorem z132 : zcOf Go.Proofs.Try.prog 132 = some [.r true (val (.pointer none))] := by kernel_rfl
theorem zp132 : zpOf Go.Proofs.Try.prog 132 = some (.one (val (.pointer none))) := by kernel_rfl
def tb : TB := ⟨[(3, false, 1), (4, false, 1), (5, false, 1), (9, false, 1), (17, false, 1), (19, true, 1), (22, false, 1), (23, false, 1), (25, true, 2), (26, false, 1), (28, true, 2), (30, true, 4), (36, false, 1), (38, true, 2), (40, true, 3), (45, true, 3), (66, false, 1), (77, false, 1), (80, false, 1), (100, true, 2), (112, false, 1), (118, true, 2), (126, false, 1), (128, true, 1), (131, false, 1), (132, false, 1)], [(19, 0, 0, 17), (25, 0, 0, 3), (25, 1, 1, 23), (28, 0, 0, 26), (28, 1, 1, 26), (30, 0, 0, 25), (30, 1, 2, 28), (38, 0, 0, 3), (38, 1, 1, 36), (40, 0, 0, 3), (40, 1, 1, 3), (40, 2, 2, 3), (45, 0, 0, 3), (45, 1, 1, 3), (45, 2, 2, 3), (100, 0, 0, 26), (100, 1, 1, 3), (118, 0, 0, 22), (118, 1, 1, 3), (128, 0, 0, 26)], [(22, 5, 1), (23, 45, 3), (26, 3, 1), (36, 40, 3), (66, 26, 1)], [(3, [.r true (val (.int .i64 0))]), (5, [.r true (val (.int .u8 0))]), (9, [.r true (val (.string ⟨#[]⟩))]), (17, [.r true (val (.pointer none))]), (19, [.r true (val (.pointer none))]), (22, [.r true (row true 0 [])]), (23, [.r true (row true 0 [])]), (25, [.r true (val (.int .i64 0)), .r true (row true 0 [])]), (26, [.r true (row true 0 [])]), (28, [.r true (row true 0 []), .r true (row true 0 [])]), (30, [.r true (val (.int .i64 0)), .r true (row true 0 []), .r true (row true 0 []), .r true (row true 0 [])]), (36, [.r true (row true 0 [])]), (38, [.r true (val (.int .i64 0)), .r true (row true 0 [])]), (40, [.r true (val (.int .i64 0)), .r true (val (.int .i64 0)), .r true (val (.int .i64 0))]), (45, [.r true (val (.int .i64 0)), .r true (val (.int .i64 0)), .r true (val (.int .i64 0))]), (66, [.r true (row true 0 [])]), (77, [.r true (val (.pointer none))]), (80, [.r true (val (.nilFunc))]), (100, [.r true (row true 0 []), .r true (val (.int .i64 0))]), (112, [.r true (val (.nilFunc))]), (118, [.r true (row true 0 []), .r true (val (.int .i64 0))]), (126, [.r true (val (.pointer none))]), (128, [.r true (row true 0 [])]), (131, [.r true (val (.nilFunc))]), (132, [.r true (val (.pointer none))])], [4], [(19, [(0, 1)]), (25, [(0, 1), (1, 1)]), (28, [(0, 1), (1, 1)]), (30, [(0, 2), (2, 2)]), (38, [(0, 1), (1, 1)]), (40, [(0, 1), (1, 1), (2, 1)]), (45, [(0, 1), (1, 1), (2, 1)]), (100, [(0, 1), (1, 1)]), (118, [(0, 1), (1, 1)]), (128, [(0, 1)])]⟩
theorem tbOk : TbOk Go.Proofs.Try.prog tb := ⟨⟨ty3, ty4, ty5, ty9, ty17, ty19, ty22, ty23, ty25, ty26, ty28, ty30, ty36, ty38, ty40, ty45, ty66, ty77, ty80, ty100, ty112, ty118, ty126, ty128, ty131, ty132, trivial⟩, ⟨fl19_0, fl25_0, fl25_1, fl28_0, fl28_1, fl30_0, fl30_1, fl38_0, fl38_1, fl40_0, fl40_1, fl40_2, fl45_0, fl45_1, fl45_2, fl100_0, fl100_1, fl118_0, fl118_1, fl128_0, trivial⟩, ⟨sl22, sl23, sl26, sl36, sl66, trivial⟩, ⟨z3, z5, z9, z17, z19, z22, z23, z25, z26, z28, z30, z36, z38, z40, z45, z66, z77, z80, z100, z112, z118, z126, z128, z131, z132, trivial⟩, ⟨bo4, trivial⟩, ⟨bl19, bl25, bl28, bl30, bl38, bl40, bl45, bl100, bl118, bl128, trivial⟩⟩
def tl : TL := ⟨[(22, 5, 1, 1), (23, 45, 3, 24), (26, 3, 1, 8), (36, 40, 3, 24), (66, 26, 1, 24)], [(3, (.one (val (.int .i64 0)))), (5, (.one (val (.int .u8 0)))), (9, (.one (val (.string ⟨#[]⟩)))), (17, (.one (val (.pointer none)))), (19, (.agg [val (.pointer none)])), (22, (.one (row true 0 []))), (23, (.one (row true 0 []))), (25, (.agg [val (.int .i64 0), row true 0 []])), (26, (.one (row true 0 []))), (28, (.agg [row true 0 [], row true 0 []])), (30, (.agg [val (.int .i64 0), row true 0 [], row true 0 [], row true 0 []])), (36, (.one (row true 0 []))), (38, (.agg [val (.int .i64 0), row true 0 []])), (40, (.agg [val (.int .i64 0), val (.int .i64 0), val (.int .i64 0)])), (45, (.agg [val (.int .i64 0), val (.int .i64 0), val (.int .i64 0)])), (66, (.one (row true 0 []))), (77, (.one (val (.pointer none)))), (80, (.one (val (.nilFunc)))), (100, (.agg [row true 0 [], val (.int .i64 0)])), (112, (.one (val (.nilFunc)))), (118, (.agg [row true 0 [], val (.int .i64 0)])), (126, (.one (val (.pointer none)))), (128, (.agg [row true 0 []])), (131, (.one (val (.nilFunc)))), (132, (.one (val (.pointer none))))]⟩
theorem tlOk : TLOk Go.Proofs.Try.prog tl := ⟨⟨el22, el23, el26, el36, el66, trivial⟩, ⟨zp3, zp5, zp9, zp17, zp19, zp22, zp23, zp25, zp26, zp28, zp30, zp36, zp38, zp40, zp45, zp66, zp77, zp80, zp100, zp112, zp118, zp126, zp128, zp131, zp132, trivial⟩⟩
end Go.Proofs.Ytihpchbkodihpaa.Abs
