/- The types of the program as facts: cells, fields, elements, zero values. No statement of the seat is proved here. -/
import Derived.Test.YtfdaoepbdolgiaaDoorProg
import Derived.Test.YtfdaoepbdolgiaaDoorAbsN
namespace Go.Proofs.YtfdaoepbdolgiaaDoor.Abs
open R (val row ref)
theorem ty3 : tyOf Go.Proofs.Tryd.prog 3 = some (false, 1) := by kernel_rfl
theorem z3 : zcOf Go.Proofs.Tryd.prog 3 = some [.r true (val (.int .i64 0))] := by kernel_rfl
theorem zp3 : zpOf Go.Proofs.Tryd.prog 3 = some (.one (val (.int .i64 0))) := by kernel_rfl
theorem ty4 : tyOf Go.Proofs.Tryd.prog 4 = some (false, 1) := by kernel_rfl
theorem bo4 : Go.Proofs.Tryd.prog.underlying 4 = some .bool := by kernel_rfl
theorem ty5 : tyOf Go.Proofs.Tryd.prog 5 = some (false, 1) := by kernel_rfl
theorem z5 : zcOf Go.Proofs.Tryd.prog 5 = some [.r true (val (.int .u8 0))] := by kernel_rfl
theorem zp5 : zpOf Go.Proofs.Tryd.prog 5 = some (.one (val (.int .u8 0))) := by kernel_rfl
theorem ty9 : tyOf Go.Proofs.Tryd.prog 9 = some (false, 1) := by kernel_rfl
theorem z9 : zcOf Go.Proofs.Tryd.prog 9 = some [.r true (val (.string ⟨#[]⟩))] := by kernel_rfl
theorem zp9 : zpOf Go.Proofs.Tryd.prog 9 = some (.one (val (.string ⟨#[]⟩))) := by kernel_rfl
theorem ty17 : tyOf Go.Proofs.Tryd.prog 17 = some (false, 1) := by kernel_rfl
theorem z17 : zcOf Go.Proofs.Tryd.prog 17 = some [.r true (val (.pointer none))] := by kernel_rfl
theorem zp17 : zpOf Go.Proofs.Tryd.prog 17 = some (.one (val (.pointer none))) := by kernel_rfl
theorem ty19 : tyOf Go.Proofs.Tryd.prog 19 = some (true, 1) := by kernel_rfl
theorem fl19_0 : fldOf Go.Proofs.Tryd.prog 19 0 = some (0, 17) := by kernel_rfl
theorem z19 : zcOf Go.Proofs.Tryd.prog 19 = some [.r true (val (.pointer none))] := by kernel_rfl
theorem zp19 : zpOf Go.Proofs.Tryd.prog 19 = some (.agg [val (.pointer none)]) := by kernel_rfl
theorem bl19 : bldOf Go.Proofs.Tryd.prog 19 = some [(0, 1)] := by kernel_rfl
theorem ty22 : tyOf Go.Proofs.Tryd.prog 22 = some (false, 1) := by kernel_rfl
theorem sl22 : slOf Go.Proofs.Tryd.prog 22 = some (5, 1) := by kernel_rfl
theorem z22 : zcOf Go.Proofs.Tryd.prog 22 = some [.r true (row true 0 [])] := by kernel_rfl
theorem el22 : elOf Go.Proofs.Tryd.prog 22 = some (5, 1, 1) := by kernel_rfl
theorem zp22 : zpOf Go.Proofs.Tryd.prog 22 = some (.one (row true 0 [])) := by kernel_rfl
theorem ty23 : tyOf Go.Proofs.Tryd.prog 23 = some (false, 1) := by kernel_rfl
theorem sl23 : slOf Go.Proofs.Tryd.prog 23 = some (33, 3) := by kernel_rfl
theorem z23 : zcOf Go.Proofs.Tryd.prog 23 = some [.r true (row true 0 [])] := by kernel_rfl
theorem el23 : elOf Go.Proofs.Tryd.prog 23 = some (33, 3, 24) := by kernel_rfl
theorem zp23 : zpOf Go.Proofs.Tryd.prog 23 = some (.one (row true 0 [])) := by kernel_rfl
theorem ty25 : tyOf Go.Proofs.Tryd.prog 25 = some (true, 2) := by kernel_rfl
theorem fl25_0 : fldOf Go.Proofs.Tryd.prog 25 0 = some (0, 3) := by kernel_rfl
theorem fl25_1 : fldOf Go.Proofs.Tryd.prog 25 1 = some (1, 23) := by kernel_rfl
theorem z25 : zcOf Go.Proofs.Tryd.prog 25 = some [.r true (val (.int .i64 0)), .r true (row true 0 [])] := by kernel_rfl
theorem zp25 : zpOf Go.Proofs.Tryd.prog 25 = some (.agg [val (.int .i64 0), row true 0 []]) := by kernel_rfl
theorem bl25 : bldOf Go.Proofs.Tryd.prog 25 = some [(0, 1), (1, 1)] := by kernel_rfl
theorem ty28 : tyOf Go.Proofs.Tryd.prog 28 = some (false, 1) := by kernel_rfl
theorem sl28 : slOf Go.Proofs.Tryd.prog 28 = some (3, 1) := by kernel_rfl
theorem z28 : zcOf Go.Proofs.Tryd.prog 28 = some [.r true (row true 0 [])] := by kernel_rfl
theorem el28 : elOf Go.Proofs.Tryd.prog 28 = some (3, 1, 8) := by kernel_rfl
theorem zp28 : zpOf Go.Proofs.Tryd.prog 28 = some (.one (row true 0 [])) := by kernel_rfl
theorem ty33 : tyOf Go.Proofs.Tryd.prog 33 = some (true, 3) := by kernel_rfl
theorem fl33_0 : fldOf Go.Proofs.Tryd.prog 33 0 = some (0, 3) := by kernel_rfl
theorem fl33_1 : fldOf Go.Proofs.Tryd.prog 33 1 = some (1, 3) := by kernel_rfl
theorem fl33_2 : fldOf Go.Proofs.Tryd.prog 33 2 = some (2, 3) := by kernel_rfl
theorem z33 : zcOf Go.Proofs.Tryd.prog 33 = some [.r true (val (.int .i64 0)), .r true (val (.int .i64 0)), .r true (val (.int .i64 0))] := by kernel_rfl
theorem zp33 : zpOf Go.Proofs.Tryd.prog 33 = some (.agg [val (.int .i64 0), val (.int .i64 0), val (.int .i64 0)]) := by kernel_rfl
theorem bl33 : bldOf Go.Proofs.Tryd.prog 33 = some [(0, 1), (1, 1), (2, 1)] := by kernel_rfl
theorem ty48 : tyOf Go.Proofs.Tryd.prog 48 = some (false, 1) := by kernel_rfl
theorem sl48 : slOf Go.Proofs.Tryd.prog 48 = some (95, 3) := by kernel_rfl
theorem z48 : zcOf Go.Proofs.Tryd.prog 48 = some [.r true (row true 0 [])] := by kernel_rfl
theorem el48 : elOf Go.Proofs.Tryd.prog 48 = some (95, 3, 24) := by kernel_rfl
theorem zp48 : zpOf Go.Proofs.Tryd.prog 48 = some (.one (row true 0 [])) := by kernel_rfl
theorem ty50 : tyOf Go.Proofs.Tryd.prog 50 = some (true, 2) := by kernel_rfl
theorem fl50_0 : fldOf Go.Proofs.Tryd.prog 50 0 = some (0, 3) := by kernel_rfl
theorem fl50_1 : fldOf Go.Proofs.Tryd.prog 50 1 = some (1, 48) := by kernel_rfl
theorem z50 : zcOf Go.Proofs.Tryd.prog 50 = some [.r true (val (.int .i64 0)), .r true (row true 0 [])] := by kernel_rfl
theorem zp50 : zpOf Go.Proofs.Tryd.prog 50 = some (.agg [val (.int .i64 0), row true 0 []]) := by kernel_rfl
theorem bl50 : bldOf Go.Proofs.Tryd.prog 50 = some [(0, 1), (1, 1)] := by kernel_rfl
theorem ty57 : tyOf Go.Proofs.Tryd.prog 57 = some (false, 1) := by kernel_rfl
theorem z57 : zcOf Go.Proofs.Tryd.prog 57 = some [.r true (val (.pointer none))] := by kernel_rfl
theorem zp57 : zpOf Go.Proofs.Tryd.prog 57 = some (.one (val (.pointer none))) := by kernel_rfl
theorem ty61 : tyOf Go.Proofs.Tryd.prog 61 = some (false, 1) := by kernel_rfl
theorem sl61 : slOf Go.Proofs.Tryd.prog 61 = some (69, 1) := by kernel_rfl
theorem z61 : zcOf Go.Proofs.Tryd.prog 61 = some [.r true (row true 0 [])] := by kernel_rfl
theorem el61 : elOf Go.Proofs.Tryd.prog 61 = some (69, 1, 4) := by kernel_rfl
theorem zp61 : zpOf Go.Proofs.Tryd.prog 61 = some (.one (row true 0 [])) := by kernel_rfl
theorem ty67 : tyOf Go.Proofs.Tryd.prog 67 = some (false, 1) := by kernel_rfl
theorem z67 : zcOf Go.Proofs.Tryd.prog 67 = some [.r true (val (.nilFunc))] := by kernel_rfl
theorem zp67 : zpOf Go.Proofs.Tryd.prog 67 = some (.one (val (.nilFunc))) := by kernel_rfl
theorem ty68 : tyOf Go.Proofs.Tryd.prog 68 = some (false, 1) := by kernel_rfl
theorem z68 : zcOf Go.Proofs.Tryd.prog 68 = some [.r true (val (.int .u32 0))] := by kernel_rfl
theorem zp68 : zpOf Go.Proofs.Tryd.prog 68 = some (.one (val (.int .u32 0))) := by kernel_rfl
theorem ty69 : tyOf Go.Proofs.Tryd.prog 69 = some (false, 1) := by kernel_rfl
theorem z69 : zcOf Go.Proofs.Tryd.prog 69 = some [.r true (val (.int .u32 0))] := by kernel_rfl
theorem zp69 : zpOf Go.Proofs.Tryd.prog 69 = some (.one (val (.int .u32 0))) := by kernel_rfl
theorem ty85 : tyOf Go.Proofs.Tryd.prog 85 = some (true, 2) := by kernel_rfl
theorem fl85_0 : fldOf Go.Proofs.Tryd.prog 85 0 = some (0, 22) := by kernel_rfl
theorem fl85_1 : fldOf Go.Proofs.Tryd.prog 85 1 = some (1, 3) := by kernel_rfl
theorem z85 : zcOf Go.Proofs.Tryd.prog 85 = some [.r true (row true 0 []), .r true (val (.int .i64 0))] := by kernel_rfl
theorem zp85 : zpOf Go.Proofs.Tryd.prog 85 = some (.agg [row true 0 [], val (.int .i64 0)]) := by kernel_rfl
theorem bl85 : bldOf Go.Proofs.Tryd.prog 85 = some [(0, 1), (1, 1)] := by kernel_rfl
theorem ty95 : tyOf Go.Proofs.Tryd.prog 95 = some (true, 3) := by kernel_rfl
theorem fl95_0 : fldOf Go.Proofs.Tryd.prog 95 0 = some (0, 3) := by kernel_rfl
theorem fl95_1 : fldOf Go.Proofs.Tryd.prog 95 1 = some (1, 3) := by kernel_rfl
theorem fl95_2 : fldOf Go.Proofs.Tryd.prog 95 2 = some (2, 3) := by kernel_rfl
theorem z95 : zcOf Go.Proofs.Tryd.prog 95 = some [.r true (val (.int .i64 0)), .r true (val (.int .i64 0)), .r true (val (.int .i64 0))] := by kernel_rfl
theorem zp95 : zpOf Go.Proofs.Tryd.prog 95 = some (.agg [val (.int .i64 0), val (.int .i64 0), val (.int .i64 0)]) := by kernel_rfl
theorem bl95 : bldOf Go.Proofs.Tryd.prog 95 = some [(0, 1), (1, 1), (2, 1)] := by kernel_rfl
theorem ty97 : tyOf Go.Proofs.Tryd.prog 97 = some (true, 32) := by kernel_rfl
theorem z97 : zcOf Go.Proofs.Tryd.prog 97 = some [.r true (val (.int .u8 0)), .r true (val (.int .u8 0)), .r true (val (.int .u8 0)), .r true (val (.int .u8 0)), .r true (val (.int .u8 0)), .r true (val (.int .u8 0)), .r true (val (.int .u8 0)), .r true (val (.int .u8 0)), .r true (val (.int .u8 0)), .r true (val (.int .u8 0)), .r true (val (.int .u8 0)), .r true (val (.int .u8 0)), .r true (val (.int .u8 0)), .r true (val (.int .u8 0)), .r true (val (.int .u8 0)), .r true (val (.int .u8 0)), .r true (val (.int .u8 0)), .r true (val (.int .u8 0)), .r true (val (.int .u8 0)), .r true (val (.int .u8 0)), .r true (val (.int .u8 0)), .r true (val (.int .u8 0)), .r true (val (.int .u8 0)), .r true (val (.int .u8 0)), .r true (val (.int .u8 0)), .r true (val (.int .u8 0)), .r true (val (.int .u8 0)), .r true (val (.int .u8 0)), .r true (val (.int .u8 0)), .r true (val (.int .u8 0)), .r true (val (.int .u8 0)), .r true (val (.int .u8 0))] := by kernel_rfl
theorem zp97 : zpOf Go.Proofs.Tryd.prog 97 = some (.agg [val (.int .u8 0), val (.int .u8 0), val (.int .u8 0), val (.int .u8 0), val (.int .u8 0), val (.int .u8 0), val (.int .u8 0), val (.int .u8 0), val (.int .u8 0), val (.int .u8 0), val (.int .u8 0), val (.int .u8 0), val (.int .u8 0), val (.int .u8 0), val (.int .u8 0), val (.int .u8 0), val (.int .u8 0), val (.int .u8 0), val (.int .u8 0), val (.int .u8 0), val (.int .u8 0), val (.int .u8 0), val (.int .u8 0), val (.int .u8 0), val (.int .u8 0), val (.int .u8 0), val (.int .u8 0), val (.int .u8 0), val (.int .u8 0), val (.int .u8 0), val (.int .u8 0), val (.int .u8 0)]) := by kernel_rfl
def tb : TB := ⟨[(3, false, 1), (4, false, 1), (5, false, 1), (9, false, 1), (17, false, 1), (19, true, 1), (22, false, 1), (23, false, 1), (25, true, 2), (28, false, 1), (33, true, 3), (48, false, 1), (50, true, 2), (57, false, 1), (61, false, 1), (67, false, 1), (68, false, 1), (69, false, 1), (85, true, 2), (95, true, 3), (97, true, 32)], [(19, 0, 0, 17), (25, 0, 0, 3), (25, 1, 1, 23), (33, 0, 0, 3), (33, 1, 1, 3), (33, 2, 2, 3), (50, 0, 0, 3), (50, 1, 1, 48), (85, 0, 0, 22), (85, 1, 1, 3), (95, 0, 0, 3), (95, 1, 1, 3), (95, 2, 2, 3)], [(22, 5, 1), (23, 33, 3), (28, 3, 1), (48, 95, 3), (61, 69, 1)], [(3, [.r true (val (.int .i64 0))]), (5, [.r true (val (.int .u8 0))]), (9, [.r true (val (.string ⟨#[]⟩))]), (17, [.r true (val (.pointer none))]), (19, [.r true (val (.pointer none))]), (22, [.r true (row true 0 [])]), (23, [.r true (row true 0 [])]), (25, [.r true (val (.int .i64 0)), .r true (row true 0 [])]), (28, [.r true (row true 0 [])]), (33, [.r true (val (.int .i64 0)), .r true (val (.int .i64 0)), .r true (val (.int .i64 0))]), (48, [.r true (row true 0 [])]), (50, [.r true (val (.int .i64 0)), .r true (row true 0 [])]), (57, [.r true (val (.pointer none))]), (61, [.r true (row true 0 [])]), (67, [.r true (val (.nilFunc))]), (68, [.r true (val (.int .u32 0))]), (69, [.r true (val (.int .u32 0))]), (85, [.r true (row true 0 []), .r true (val (.int .i64 0))]), (95, [.r true (val (.int .i64 0)), .r true (val (.int .i64 0)), .r true (val (.int .i64 0))]), (97, [.r true (val (.int .u8 0)), .r true (val (.int .u8 0)), .r true (val (.int .u8 0)), .r true (val (.int .u8 0)), .r true (val (.int .u8 0)), .r true (val (.int .u8 0)), .r true (val (.int .u8 0)), .r true (val (.int .u8 0)), .r true (val (.int .u8 0)), .r true (val (.int .u8 0)), .r true (val (.int .u8 0)), .r true (val (.int .u8 0)), .r true (val (.int .u8 0)), .r true (val (.int .u8 0)), .r true (val (.int .u8 0)), .r true (val (.int .u8 0)), .r true (val (.int .u8 0)), .r true (val (.int .u8 0)), .r true (val (.int .u8 0)), .r true (val (.int .u8 0)), .r true (val (.int .u8 0)), .r true (val (.int .u8 0)), .r true (val (.int .u8 0)), .r true (val (.int .u8 0)), .r true (val (.int .u8 0)), .r true (val (.int .u8 0)), .r true (val (.int .u8 0)), .r true (val (.int .u8 0)), .r true (val (.int .u8 0)), .r true (val (.int .u8 0)), .r true (val (.int .u8 0)), .r true (val (.int .u8 0))])], [4], [(19, [(0, 1)]), (25, [(0, 1), (1, 1)]), (33, [(0, 1), (1, 1), (2, 1)]), (50, [(0, 1), (1, 1)]), (85, [(0, 1), (1, 1)]), (95, [(0, 1), (1, 1), (2, 1)])]⟩
theorem tbOk : TbOk Go.Proofs.Tryd.prog tb := ⟨⟨ty3, ty4, ty5, ty9, ty17, ty19, ty22, ty23, ty25, ty28, ty33, ty48, ty50, ty57, ty61, ty67, ty68, ty69, ty85, ty95, ty97, trivial⟩, ⟨fl19_0, fl25_0, fl25_1, fl33_0, fl33_1, fl33_2, fl50_0, fl50_1, fl85_0, fl85_1, fl95_0, fl95_1, fl95_2, trivial⟩, ⟨sl22, sl23, sl28, sl48, sl61, trivial⟩, ⟨z3, z5, z9, z17, z19, z22, z23, z25, z28, z33, z48, z50, z57, z61, z67, z68, z69, z85, z95, z97, trivial⟩, ⟨bo4, trivial⟩, ⟨bl19, bl25, bl33, bl50, bl85, bl95, trivial⟩⟩
def tl : TL := ⟨[(22, 5, 1, 1), (23, 33, 3, 24), (28, 3, 1, 8), (48, 95, 3, 24), (61, 69, 1, 4)], [(3, (.one (val (.int .i64 0)))), (5, (.one (val (.int .u8 0)))), (9, (.one (val (.string ⟨#[]⟩)))), (17, (.one (val (.pointer none)))), (19, (.agg [val (.pointer none)])), (22, (.one (row true 0 []))), (23, (.one (row true 0 []))), (25, (.agg [val (.int .i64 0), row true 0 []])), (28, (.one (row true 0 []))), (33, (.agg [val (.int .i64 0), val (.int .i64 0), val (.int .i64 0)])), (48, (.one (row true 0 []))), (50, (.agg [val (.int .i64 0), row true 0 []])), (57, (.one (val (.pointer none)))), (61, (.one (row true 0 []))), (67, (.one (val (.nilFunc)))), (68, (.one (val (.int .u32 0)))), (69, (.one (val (.int .u32 0)))), (85, (.agg [row true 0 [], val (.int .i64 0)])), (95, (.agg [val (.int .i64 0), val (.int .i64 0), val (.int .i64 0)])), (97, (.agg [val (.int .u8 0), val (.int .u8 0), val (.int .u8 0), val (.int .u8 0), val (.int .u8 0), val (.int .u8 0), val (.int .u8 0), val (.int .u8 0), val (.int .u8 0), val (.int .u8 0), val (.int .u8 0), val (.int .u8 0), val (.int .u8 0), val (.int .u8 0), val (.int .u8 0), val (.int .u8 0), val (.int .u8 0), val (.int .u8 0), val (.int .u8 0), val (.int .u8 0), val (.int .u8 0), val (.int .u8 0), val (.int .u8 0), val (.int .u8 0), val (.int .u8 0), val (.int .u8 0), val (.int .u8 0), val (.int .u8 0), val (.int .u8 0), val (.int .u8 0), val (.int .u8 0), val (.int .u8 0)]))]⟩
theorem tlOk : TLOk Go.Proofs.Tryd.prog tl := ⟨⟨el22, el23, el28, el48, el61, trivial⟩, ⟨zp3, zp5, zp9, zp17, zp19, zp22, zp23, zp25, zp28, zp33, zp48, zp50, zp57, zp61, zp67, zp68, zp69, zp85, zp95, zp97, trivial⟩⟩
end Go.Proofs.YtfdaoepbdolgiaaDoor.Abs
