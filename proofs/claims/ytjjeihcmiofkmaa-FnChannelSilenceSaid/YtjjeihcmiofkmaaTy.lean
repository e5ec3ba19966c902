/- The types of the program as facts: cells, fields, elements, zero values. No statement of the seat is proved here. -/
import Derived.Test.YtjjeihcmiofkmaaProg
import Derived.Test.YtjjeihcmiofkmaaAbsN
namespace Go.Proofs.Ytjjeihcmiofkmaa.Abs
open R (val row ref)
theorem ty3 : tyOf Go.Proofs.Try.prog 3 = some (false, 1) := by kernel_rfl
theorem z3 : zcOf Go.Proofs.Try.prog 3 = some [.r true (val (.int .i64 0))] := by kernel_rfl
theorem zp3 : zpOf Go.Proofs.Try.prog 3 = some (.one (val (.int .i64 0))) := by kernel_rfl
theorem ty4 : tyOf Go.Proofs.Try.prog 4 = some (false, 1) := by kernel_rfl
theorem bo4 : Go.Proofs.Try.prog.underlying 4 = some .bool := by kernel_rfl
theorem ty5 : tyOf Go.Proofs.Try.prog 5 = some (false, 1) := by kernel_rfl
theorem z5 : zcOf Go.Proofs.Try.prog 5 = some [.r true (val (.int .u8 0))] := by kernel_rfl
theorem zp5 : zpOf Go.Proofs.Try.prog 5 = some (.one (val (.int .u8 0))) := by kernel_rfl
theorem ty9 : tyOf Go.Proofs.Try.prog 9 = some (false, 1) := by kernel_rfl
theorem z9 : zcOf Go.Proofs.Try.prog 9 = some [.r true (val (.string ⟨#[]⟩))] := by kernel_rfl
theorem zp9 : zpOf Go.Proofs.Try.prog 9 = some (.one (val (.string ⟨#[]⟩))) := by kernel_rfl
theorem ty17 : tyOf Go.Proofs.Try.prog 17 = some (false, 1) := by kernel_rfl
theorem z17 : zcOf Go.Proofs.Try.prog 17 = some [.r true (val (.pointer none))] := by kernel_rfl
theorem zp17 : zpOf Go.Proofs.Try.prog 17 = some (.one (val (.pointer none))) := by kernel_rfl
theorem ty19 : tyOf Go.Proofs.Try.prog 19 = some (true, 1) := by kernel_rfl
theorem fl19_0 : fldOf Go.Proofs.Try.prog 19 0 = some (0, 17) := by kernel_rfl
theorem z19 : zcOf Go.Proofs.Try.prog 19 = some [.r true (val (.pointer none))] := by kernel_rfl
theorem zp19 : zpOf Go.Proofs.Try.prog 19 = some (.agg [val (.pointer none)]) := by kernel_rfl
theorem bl19 : bldOf Go.Proofs.Try.prog 19 = some [(0, 1)] := by kernel_rfl
theorem ty22 : tyOf Go.Proofs.Try.prog 22 = some (false, 1) := by kernel_rfl
theorem sl22 : slOf Go.Proofs.Try.prog 22 = some (5, 1) := by kernel_rfl
theorem z22 : zcOf Go.Proofs.Try.prog 22 = some [.r true (row true 0 [])] := by kernel_rfl
theorem el22 : elOf Go.Proofs.Try.prog 22 = some (5, 1, 1) := by kernel_rfl
theorem zp22 : zpOf Go.Proofs.Try.prog 22 = some (.one (row true 0 [])) := by kernel_rfl
theorem ty23 : tyOf Go.Proofs.Try.prog 23 = some (false, 1) := by kernel_rfl
theorem sl23 : slOf Go.Proofs.Try.prog 23 = some (25, 1) := by kernel_rfl
theorem z23 : zcOf Go.Proofs.Try.prog 23 = some [.r true (row true 0 [])] := by kernel_rfl
theorem el23 : elOf Go.Proofs.Try.prog 23 = some (25, 1, 24) := by kernel_rfl
theorem zp23 : zpOf Go.Proofs.Try.prog 23 = some (.one (row true 0 [])) := by kernel_rfl
theorem ty25 : tyOf Go.Proofs.Try.prog 25 = some (false, 1) := by kernel_rfl
theorem sl25 : slOf Go.Proofs.Try.prog 25 = some (3, 1) := by kernel_rfl
theorem z25 : zcOf Go.Proofs.Try.prog 25 = some [.r true (row true 0 [])] := by kernel_rfl
theorem el25 : elOf Go.Proofs.Try.prog 25 = some (3, 1, 8) := by kernel_rfl
theorem zp25 : zpOf Go.Proofs.Try.prog 25 = some (.one (row true 0 [])) := by kernel_rfl
theorem ty31 : tyOf Go.Proofs.Try.prog 31 = some (true, 2) := by kernel_rfl
theorem fl31_0 : fldOf Go.Proofs.Try.prog 31 0 = some (0, 25) := by kernel_rfl
theorem fl31_1 : fldOf Go.Proofs.Try.prog 31 1 = some (1, 25) := by kernel_rfl
theorem z31 : zcOf Go.Proofs.Try.prog 31 = some [.r true (row true 0 []), .r true (row true 0 [])] := by kernel_rfl
theorem zp31 : zpOf Go.Proofs.Try.prog 31 = some (.agg [row true 0 [], row true 0 []]) := by kernel_rfl
theorem bl31 : bldOf Go.Proofs.Try.prog 31 = some [(0, 1), (1, 1)] := by kernel_rfl
theorem ty38 : tyOf Go.Proofs.Try.prog 38 = some (false, 1) := by kernel_rfl
theorem sl38 : slOf Go.Proofs.Try.prog 38 = some (71, 2) := by kernel_rfl
theorem z38 : zcOf Go.Proofs.Try.prog 38 = some [.r true (row true 0 [])] := by kernel_rfl
theorem el38 : elOf Go.Proofs.Try.prog 38 = some (71, 2, 16) := by kernel_rfl
theorem zp38 : zpOf Go.Proofs.Try.prog 38 = some (.one (row true 0 [])) := by kernel_rfl
theorem ty40 : tyOf Go.Proofs.Try.prog 40 = some (true, 5) := by kernel_rfl
theorem fl40_0 : fldOf Go.Proofs.Try.prog 40 0 = some (0, 25) := by kernel_rfl
theorem fl40_1 : fldOf Go.Proofs.Try.prog 40 1 = some (1, 3) := by kernel_rfl
theorem fl40_2 : fldOf Go.Proofs.Try.prog 40 2 = some (2, 25) := by kernel_rfl
theorem fl40_3 : fldOf Go.Proofs.Try.prog 40 3 = some (3, 38) := by kernel_rfl
theorem fl40_4 : fldOf Go.Proofs.Try.prog 40 4 = some (4, 25) := by kernel_rfl
theorem z40 : zcOf Go.Proofs.Try.prog 40 = some [.r true (row true 0 []), .r true (val (.int .i64 0)), .r true (row true 0 []), .r true (row true 0 []), .r true (row true 0 [])] := by kernel_rfl
theorem zp40 : zpOf Go.Proofs.Try.prog 40 = some (.agg [row true 0 [], val (.int .i64 0), row true 0 [], row true 0 [], row true 0 []]) := by kernel_rfl
theorem bl40 : bldOf Go.Proofs.Try.prog 40 = some [(0, 1), (1, 1), (2, 1), (3, 1), (4, 1)] := by kernel_rfl
theorem ty54 : tyOf Go.Proofs.Try.prog 54 = some (false, 1) := by kernel_rfl
theorem z54 : zcOf Go.Proofs.Try.prog 54 = some [.r true (val (.pointer none))] := by kernel_rfl
theorem zp54 : zpOf Go.Proofs.Try.prog 54 = some (.one (val (.pointer none))) := by kernel_rfl
theorem ty71 : tyOf Go.Proofs.Try.prog 71 = some (true, 2) := by kernel_rfl
theorem fl71_0 : fldOf Go.Proofs.Try.prog 71 0 = some (0, 3) := by kernel_rfl
theorem fl71_1 : fldOf Go.Proofs.Try.prog 71 1 = some (1, 3) := by kernel_rfl
theorem z71 : zcOf Go.Proofs.Try.prog 71 = some [.r true (val (.int .i64 0)), .r true (val (.int .i64 0))] := by kernel_rfl
theorem zp71 : zpOf Go.Proofs.Try.prog 71 = some (.agg [val (.int .i64 0), val (.int .i64 0)]) := by kernel_rfl
theorem bl71 : bldOf Go.Proofs.Try.prog 71 = some [(0, 1), (1, 1)] := by kernel_rfl
theorem ty75 : tyOf Go.Proofs.Try.prog 75 = some (true, 2) := by kernel_rfl
theorem fl75_0 : fldOf Go.Proofs.Try.prog 75 0 = some (0, 22) := by kernel_rfl
theorem fl75_1 : fldOf Go.Proofs.Try.prog 75 1 = some (1, 3) := by kernel_rfl
theorem z75 : zcOf Go.Proofs.Try.prog 75 = some [.r true (row true 0 []), .r true (val (.int .i64 0))] := by kernel_rfl
theorem zp75 : zpOf Go.Proofs.Try.prog 75 = some (.agg [row true 0 [], val (.int .i64 0)]) := by kernel_rfl
theorem bl75 : bldOf Go.Proofs.Try.prog 75 = some [(0, 1), (1, 1)] := by kernel_rfl
theorem ty78 : tyOf Go.Proofs.Try.prog 78 = some (false, 1) := by kernel_rfl
theorem z78 : zcOf Go.Proofs.Try.prog 78 = some [.r true (val (.nilFunc))] := by kernel_rfl
theorem zp78 : zpOf Go.Proofs.Try.prog 78 = some (.one (val (.nilFunc))) := by kernel_rfl
theorem ty82 : tyOf Go.Proofs.Try.prog 82 = some (false, 1) := by kernel_rfl
theorem z82 : zcOf Go.Proofs.Try.prog 82 = some [.r true (val (.pointer none))] := by kernel_rfl
theorem zp82 : zpOf Go.Proofs.Try.prog 82 = some (.one (val (.pointer none))) := by kernel_rfl
theorem ty83 : tyOf Go.Proofs.Try.prog 83 = some (false, 1) := by kernel_rfl
theorem z83 : zcOf Go.Proofs.Try.prog 83 = some [.r true (val (.nilFunc))] := by kernel_rfl
theorem zp83 : zpOf Go.Proofs.Try.prog 83 = some (.one (val (.nilFunc))) := by kernel_rfl
def tb : TB := ⟨[(3, false, 1), (4, false, 1), (5, false, 1), (9, false, 1), (17, false, 1), (19, true, 1), (22, false, 1), (23, false, 1), (25, false, 1), (31, true, 2), (38, false, 1), (40, true, 5), (54, false, 1), (71, true, 2), (75, true, 2), (78, false, 1), (82, false, 1), (83, false, 1)], [(19, 0, 0, 17), (31, 0, 0, 25), (31, 1, 1, 25), (40, 0, 0, 25), (40, 1, 1, 3), (40, 2, 2, 25), (40, 3, 3, 38), (40, 4, 4, 25), (71, 0, 0, 3), (71, 1, 1, 3), (75, 0, 0, 22), (75, 1, 1, 3)], [(22, 5, 1), (23, 25, 1), (25, 3, 1), (38, 71, 2)], [(3, [.r true (val (.int .i64 0))]), (5, [.r true (val (.int .u8 0))]), (9, [.r true (val (.string ⟨#[]⟩))]), (17, [.r true (val (.pointer none))]), (19, [.r true (val (.pointer none))]), (22, [.r true (row true 0 [])]), (23, [.r true (row true 0 [])]), (25, [.r true (row true 0 [])]), (31, [.r true (row true 0 []), .r true (row true 0 [])]), (38, [.r true (row true 0 [])]), (40, [.r true (row true 0 []), .r true (val (.int .i64 0)), .r true (row true 0 []), .r true (row true 0 []), .r true (row true 0 [])]), (54, [.r true (val (.pointer none))]), (71, [.r true (val (.int .i64 0)), .r true (val (.int .i64 0))]), (75, [.r true (row true 0 []), .r true (val (.int .i64 0))]), (78, [.r true (val (.nilFunc))]), (82, [.r true (val (.pointer none))]), (83, [.r true (val (.nilFunc))])], [4], [(19, [(0, 1)]), (31, [(0, 1), (1, 1)]), (40, [(0, 1), (1, 1), (2, 1), (3, 1), (4, 1)]), (71, [(0, 1), (1, 1)]), (75, [(0, 1), (1, 1)])]⟩
theorem tbOk : TbOk Go.Proofs.Try.prog tb := ⟨⟨ty3, ty4, ty5, ty9, ty17, ty19, ty22, ty23, ty25, ty31, ty38, ty40, ty54, ty71, ty75, ty78, ty82, ty83, trivial⟩, ⟨fl19_0, fl31_0, fl31_1, fl40_0, fl40_1, fl40_2, fl40_3, fl40_4, fl71_0, fl71_1, fl75_0, fl75_1, trivial⟩, ⟨sl22, sl23, sl25, sl38, trivial⟩, ⟨z3, z5, z9, z17, z19, z22, z23, z25, z31, z38, z40, z54, z71, z75, z78, z82, z83, trivial⟩, ⟨bo4, trivial⟩, ⟨bl19, bl31, bl40, bl71, bl75, trivial⟩⟩
def tl : TL := ⟨[(22, 5, 1, 1), (23, 25, 1, 24), (25, 3, 1, 8), (38, 71, 2, 16)], [(3, (.one (val (.int .i64 0)))), (5, (.one (val (.int .u8 0)))), (9, (.one (val (.string ⟨#[]⟩)))), (17, (.one (val (.pointer none)))), (19, (.agg [val (.pointer none)])), (22, (.one (row true 0 []))), (23, (.one (row true 0 []))), (25, (.one (row true 0 []))), (31, (.agg [row true 0 [], row true 0 []])), (38, (.one (row true 0 []))), (40, (.agg [row true 0 [], val (.int .i64 0), row true 0 [], row true 0 [], row true 0 []])), (54, (.one (val (.pointer none)))), (71, (.agg [val (.int .i64 0), val (.int .i64 0)])), (75, (.agg [row true 0 [], val (.int .i64 0)])), (78, (.one (val (.nilFunc)))), (82, (.one (val (.pointer none)))), (83, (.one (val (.nilFunc))))]⟩
theorem tlOk : TLOk Go.Proofs.Try.prog tl := ⟨⟨el22, el23, el25, el38, trivial⟩, ⟨zp3, zp5, zp9, zp17, zp19, zp22, zp23, zp25, zp31, zp38, zp40, zp54, zp71, zp75, zp78, zp82, zp83, trivial⟩⟩
end Go.Proofs.Ytjjeihcmiofkmaa.Abs
