/- The types of the program as facts: cells, fields, elements, zero values. No statement of the seat is proved here. -/
import Derived.Test.YthjnidcmhegoeaaDoorProg
import Derived.Test.YthjnidcmhegoeaaDoorAbsN
namespace Go.Proofs.YthjnidcmhegoeaaDoor.Abs
open R (val row ref)
theorem ty2 : tyOf Go.Proofs.Tryd.prog 2 = some (false, 1) := by kernel_rfl
theorem z2 : zcOf Go.Proofs.Tryd.prog 2 = some [.r true (val (.int .i64 0))] := by kernel_rfl
theorem zp2 : zpOf Go.Proofs.Tryd.prog 2 = some (.one (val (.int .i64 0))) := by kernel_rfl
theorem ty3 : tyOf Go.Proofs.Tryd.prog 3 = some (false, 1) := by kernel_rfl
theorem z3 : zcOf Go.Proofs.Tryd.prog 3 = some [.r true (val (.int .i64 0))] := by kernel_rfl
theorem zp3 : zpOf Go.Proofs.Tryd.prog 3 = some (.one (val (.int .i64 0))) := by kernel_rfl
theorem ty4 : tyOf Go.Proofs.Tryd.prog 4 = some (false, 1) := by kernel_rfl
theorem bo4 : Go.Proofs.Tryd.prog.underlying 4 = some .bool := by kernel_rfl
theorem ty5 : tyOf Go.Proofs.Tryd.prog 5 = some (false, 1) := by kernel_rfl
theorem z5 : zcOf Go.Proofs.Tryd.prog 5 = some [.r true (val (.int .u8 0))] := by kernel_rfl
theorem zp5 : zpOf Go.Proofs.Tryd.prog 5 = some (.one (val (.int .u8 0))) := by kernel_rfl
theorem ty9 : tyOf Go.Proofs.Tryd.prog 9 = some (false, 1) := by kernel_rfl
theorem z9 : zcOf Go.Proofs.Tryd.prog 9 = some [.r true (val (.string ⟨#[]⟩))] := by kernel_rfl
theorem zp9 : zpOf Go.Proofs.Tryd.prog 9 = some (.one (val (.string ⟨#[]⟩))) := by kernel_rfl
theorem ty17 : tyOf Go.Proofs.Tryd.prog 17 = some (false, 1) := by kernel_rfl
theorem z17 : zcOf Go.Proofs.Tryd.prog 17 = some [.r true (val (.pointer none))] := by kernel_rfl
theorem zp17 : zpOf Go.Proofs.Tryd.prog 17 = some (.one (val (.pointer none))) := by kernel_rfl
theorem ty19 : tyOf Go.Proofs.Tryd.prog 19 = some (true, 1) := by kernel_rfl
theorem fl19_0 : fldOf Go.Proofs.Tryd.prog 19 0 = some (0, 17) := by kernel_rfl
theorem z19 : zcOf Go.Proofs.Tryd.prog 19 = some [.r true (val (.pointer none))] := by kernel_rfl
theorem zp19 : zpOf Go.Proofs.Tryd.prog 19 = some (.agg [val (.pointer none)]) := by kernel_rfl
theorem bl19 : bldOf Go.Proofs.Tryd.prog 19 = some [(0, 1)] := by kernel_rfl
theorem ty20 : tyOf Go.Proofs.Tryd.prog 20 = some (false, 1) := by kernel_rfl
theorem z20 : zcOf Go.Proofs.Tryd.prog 20 = some [.r true (val (.nilIface))] := by kernel_rfl
theorem zp20 : zpOf Go.Proofs.Tryd.prog 20 = some (.one (val (.nilIface))) := by kernel_rfl
theorem ty23 : tyOf Go.Proofs.Tryd.prog 23 = some (true, 3) := by kernel_rfl
theorem fl23_0 : fldOf Go.Proofs.Tryd.prog 23 0 = some (0, 3) := by kernel_rfl
theorem fl23_1 : fldOf Go.Proofs.Tryd.prog 23 1 = some (1, 3) := by kernel_rfl
theorem fl23_2 : fldOf Go.Proofs.Tryd.prog 23 2 = some (2, 3) := by kernel_rfl
theorem z23 : zcOf Go.Proofs.Tryd.prog 23 = some [.r true (val (.int .i64 0)), .r true (val (.int .i64 0)), .r true (val (.int .i64 0))] := by kernel_rfl
theorem zp23 : zpOf Go.Proofs.Tryd.prog 23 = some (.agg [val (.int .i64 0), val (.int .i64 0), val (.int .i64 0)]) := by kernel_rfl
theorem bl23 : bldOf Go.Proofs.Tryd.prog 23 = some [(0, 1), (1, 1), (2, 1)] := by kernel_rfl
theorem ty25 : tyOf Go.Proofs.Tryd.prog 25 = some (true, 4) := by kernel_rfl
theorem fl25_0 : fldOf Go.Proofs.Tryd.prog 25 0 = some (0, 23) := by kernel_rfl
theorem fl25_1 : fldOf Go.Proofs.Tryd.prog 25 1 = some (3, 3) := by kernel_rfl
theorem z25 : zcOf Go.Proofs.Tryd.prog 25 = some [.r true (val (.int .i64 0)), .r true (val (.int .i64 0)), .r true (val (.int .i64 0)), .r true (val (.int .i64 0))] := by kernel_rfl
theorem zp25 : zpOf Go.Proofs.Tryd.prog 25 = some (.agg [val (.int .i64 0), val (.int .i64 0), val (.int .i64 0), val (.int .i64 0)]) := by kernel_rfl
theorem bl25 : bldOf Go.Proofs.Tryd.prog 25 = some [(0, 3), (3, 1)] := by kernel_rfl
theorem ty27 : tyOf Go.Proofs.Tryd.prog 27 = some (true, 3) := by kernel_rfl
theorem fl27_0 : fldOf Go.Proofs.Tryd.prog 27 0 = some (0, 3) := by kernel_rfl
theorem fl27_1 : fldOf Go.Proofs.Tryd.prog 27 1 = some (1, 3) := by kernel_rfl
theorem fl27_2 : fldOf Go.Proofs.Tryd.prog 27 2 = some (2, 3) := by kernel_rfl
theorem z27 : zcOf Go.Proofs.Tryd.prog 27 = some [.r true (val (.int .i64 0)), .r true (val (.int .i64 0)), .r true (val (.int .i64 0))] := by kernel_rfl
theorem zp27 : zpOf Go.Proofs.Tryd.prog 27 = some (.agg [val (.int .i64 0), val (.int .i64 0), val (.int .i64 0)]) := by kernel_rfl
theorem bl27 : bldOf Go.Proofs.Tryd.prog 27 = some [(0, 1), (1, 1), (2, 1)] := by kernel_rfl
theorem ty29 : tyOf Go.Proofs.Tryd.prog 29 = some (true, 4) := by kernel_rfl
theorem fl29_0 : fldOf Go.Proofs.Tryd.prog 29 0 = some (0, 27) := by kernel_rfl
theorem fl29_1 : fldOf Go.Proofs.Tryd.prog 29 1 = some (3, 3) := by kernel_rfl
theorem z29 : zcOf Go.Proofs.Tryd.prog 29 = some [.r true (val (.int .i64 0)), .r true (val (.int .i64 0)), .r true (val (.int .i64 0)), .r true (val (.int .i64 0))] := by kernel_rfl
theorem zp29 : zpOf Go.Proofs.Tryd.prog 29 = some (.agg [val (.int .i64 0), val (.int .i64 0), val (.int .i64 0), val (.int .i64 0)]) := by kernel_rfl
theorem bl29 : bldOf Go.Proofs.Tryd.prog 29 = some [(0, 3), (3, 1)] := by kernel_rfl
theorem ty32 : tyOf Go.Proofs.Tryd.prog 32 = some (false, 1) := by kernel_rfl
theorem sl32 : slOf Go.Proofs.Tryd.prog 32 = some (5, 1) := by kernel_rfl
theorem z32 : zcOf Go.Proofs.Tryd.prog 32 = some [.r true (row true 0 [])] := by kernel_rfl
theorem el32 : elOf Go.Proofs.Tryd.prog 32 = some (5, 1, 1) := by kernel_rfl
theorem zp32 : zpOf Go.Proofs.Tryd.prog 32 = some (.one (row true 0 [])) := by kernel_rfl
theorem ty40 : tyOf Go.Proofs.Tryd.prog 40 = some (false, 1) := by kernel_rfl
theorem sl40 : slOf Go.Proofs.Tryd.prog 40 = some (120, 3) := by kernel_rfl
theorem z40 : zcOf Go.Proofs.Tryd.prog 40 = some [.r true (row true 0 [])] := by kernel_rfl
theorem el40 : elOf Go.Proofs.Tryd.prog 40 = some (120, 3, 24) := by kernel_rfl
theorem zp40 : zpOf Go.Proofs.Tryd.prog 40 = some (.one (row true 0 [])) := by kernel_rfl
theorem ty42 : tyOf Go.Proofs.Tryd.prog 42 = some (true, 2) := by kernel_rfl
theorem fl42_0 : fldOf Go.Proofs.Tryd.prog 42 0 = some (0, 3) := by kernel_rfl
theorem fl42_1 : fldOf Go.Proofs.Tryd.prog 42 1 = some (1, 40) := by kernel_rfl
theorem z42 : zcOf Go.Proofs.Tryd.prog 42 = some [.r true (val (.int .i64 0)), .r true (row true 0 [])] := by kernel_rfl
theorem zp42 : zpOf Go.Proofs.Tryd.prog 42 = some (.agg [val (.int .i64 0), row true 0 []]) := by kernel_rfl
theorem bl42 : bldOf Go.Proofs.Tryd.prog 42 = some [(0, 1), (1, 1)] := by kernel_rfl
theorem ty44 : tyOf Go.Proofs.Tryd.prog 44 = some (false, 1) := by kernel_rfl
theorem sl44 : slOf Go.Proofs.Tryd.prog 44 = some (3, 1) := by kernel_rfl
theorem z44 : zcOf Go.Proofs.Tryd.prog 44 = some [.r true (row true 0 [])] := by kernel_rfl
theorem el44 : elOf Go.Proofs.Tryd.prog 44 = some (3, 1, 8) := by kernel_rfl
theorem zp44 : zpOf Go.Proofs.Tryd.prog 44 = some (.one (row true 0 [])) := by kernel_rfl
theorem ty46 : tyOf Go.Proofs.Tryd.prog 46 = some (false, 1) := by kernel_rfl
theorem sl46 : slOf Go.Proofs.Tryd.prog 46 = some (85, 3) := by kernel_rfl
theorem z46 : zcOf Go.Proofs.Tryd.prog 46 = some [.r true (row true 0 [])] := by kernel_rfl
theorem el46 : elOf Go.Proofs.Tryd.prog 46 = some (85, 3, 24) := by kernel_rfl
theorem zp46 : zpOf Go.Proofs.Tryd.prog 46 = some (.one (row true 0 [])) := by kernel_rfl
theorem ty48 : tyOf Go.Proofs.Tryd.prog 48 = some (true, 2) := by kernel_rfl
theorem fl48_0 : fldOf Go.Proofs.Tryd.prog 48 0 = some (0, 3) := by kernel_rfl
theorem fl48_1 : fldOf Go.Proofs.Tryd.prog 48 1 = some (1, 46) := by kernel_rfl
theorem z48 : zcOf Go.Proofs.Tryd.prog 48 = some [.r true (val (.int .i64 0)), .r true (row true 0 [])] := by kernel_rfl
theorem zp48 : zpOf Go.Proofs.Tryd.prog 48 = some (.agg [val (.int .i64 0), row true 0 []]) := by kernel_rfl
theorem bl48 : bldOf Go.Proofs.Tryd.prog 48 = some [(0, 1), (1, 1)] := by kernel_rfl
theorem ty63 : tyOf Go.Proofs.Tryd.prog 63 = some (false, 1) := by kernel_rfl
theorem z63 : zcOf Go.Proofs.Tryd.prog 63 = some [.r true (val (.pointer none))] := by kernel_rfl
theorem zp63 : zpOf Go.Proofs.Tryd.prog 63 = some (.one (val (.pointer none))) := by kernel_rfl
theorem ty65 : tyOf Go.Proofs.Tryd.prog 65 = some (true, 2) := by kernel_rfl
theorem fl65_0 : fldOf Go.Proofs.Tryd.prog 65 0 = some (0, 63) := by kernel_rfl
theorem fl65_1 : fldOf Go.Proofs.Tryd.prog 65 1 = some (1, 32) := by kernel_rfl
theorem z65 : zcOf Go.Proofs.Tryd.prog 65 = some [.r true (val (.pointer none)), .r true (row true 0 [])] := by kernel_rfl
theorem zp65 : zpOf Go.Proofs.Tryd.prog 65 = some (.agg [val (.pointer none), row true 0 []]) := by kernel_rfl
theorem bl65 : bldOf Go.Proofs.Tryd.prog 65 = some [(0, 1), (1, 1)] := by kernel_rfl
theorem ty67 : tyOf Go.Proofs.Tryd.prog 67 = some (false, 1) := by kernel_rfl
theorem z67 : zcOf Go.Proofs.Tryd.prog 67 = some [.r true (val (.nilIface))] := by kernel_rfl
theorem zp67 : zpOf Go.Proofs.Tryd.prog 67 = some (.one (val (.nilIface))) := by kernel_rfl
theorem ty70 : tyOf Go.Proofs.Tryd.prog 70 = some (false, 1) := by kernel_rfl
theorem z70 : zcOf Go.Proofs.Tryd.prog 70 = some [.r true (val (.pointer none))] := by kernel_rfl
theorem zp70 : zpOf Go.Proofs.Tryd.prog 70 = some (.one (val (.pointer none))) := by kernel_rfl
theorem ty74 : tyOf Go.Proofs.Tryd.prog 74 = some (false, 1) := by kernel_rfl
theorem z74 : zcOf Go.Proofs.Tryd.prog 74 = some [.r true (val (.pointer none))] := by kernel_rfl
theorem zp74 : zpOf Go.Proofs.Tryd.prog 74 = some (.one (val (.pointer none))) := by kernel_rfl
theorem ty85 : tyOf Go.Proofs.Tryd.prog 85 = some (true, 3) := by kernel_rfl
theorem fl85_0 : fldOf Go.Proofs.Tryd.prog 85 0 = some (0, 3) := by kernel_rfl
theorem fl85_1 : fldOf Go.Proofs.Tryd.prog 85 1 = some (1, 3) := by kernel_rfl
theorem fl85_2 : fldOf Go.Proofs.Tryd.prog 85 2 = some (2, 3) := by kernel_rfl
theorem z85 : zcOf Go.Proofs.Tryd.prog 85 = some [.r true (val (.int .i64 0)), .r true (val (.int .i64 0)), .r true (val (.int .i64 0))] := by kernel_rfl
theorem zp85 : zpOf Go.Proofs.Tryd.prog 85 = some (.agg [val (.int .i64 0), val (.int .i64 0), val (.int .i64 0)]) := by kernel_rfl
theorem bl85 : bldOf Go.Proofs.Tryd.prog 85 = some [(0, 1), (1, 1), (2, 1)] := by kernel_rfl
theorem ty89 : tyOf Go.Proofs.Tryd.prog 89 = some (false, 1) := by kernel_rfl
theorem sl89 : slOf Go.Proofs.Tryd.prog 89 = some (46, 1) := by kernel_rfl
theorem z89 : zcOf Go.Proofs.Tryd.prog 89 = some [.r true (row true 0 [])] := by kernel_rfl
theorem el89 : elOf Go.Proofs.Tryd.prog 89 = some (46, 1, 24) := by kernel_rfl
theorem zp89 : zpOf Go.Proofs.Tryd.prog 89 = some (.one (row true 0 [])) := by kernel_rfl
theorem ty91 : tyOf Go.Proofs.Tryd.prog 91 = some (false, 1) := by kernel_rfl
theorem sl91 : slOf Go.Proofs.Tryd.prog 91 = some (93, 1) := by kernel_rfl
theorem z91 : zcOf Go.Proofs.Tryd.prog 91 = some [.r true (row true 0 [])] := by kernel_rfl
theorem el91 : elOf Go.Proofs.Tryd.prog 91 = some (93, 1, 4) := by kernel_rfl
theorem zp91 : zpOf Go.Proofs.Tryd.prog 91 = some (.one (row true 0 [])) := by kernel_rfl
theorem ty92 : tyOf Go.Proofs.Tryd.prog 92 = some (false, 1) := by kernel_rfl
theorem z92 : zcOf Go.Proofs.Tryd.prog 92 = some [.r true (val (.int .u32 0))] := by kernel_rfl
theorem zp92 : zpOf Go.Proofs.Tryd.prog 92 = some (.one (val (.int .u32 0))) := by kernel_rfl
theorem ty93 : tyOf Go.Proofs.Tryd.prog 93 = some (false, 1) := by kernel_rfl
theorem z93 : zcOf Go.Proofs.Tryd.prog 93 = some [.r true (val (.int .u32 0))] := by kernel_rfl
theorem zp93 : zpOf Go.Proofs.Tryd.prog 93 = some (.one (val (.int .u32 0))) := by kernel_rfl
theorem ty104 : tyOf Go.Proofs.Tryd.prog 104 = some (false, 1) := by kernel_rfl
theorem z104 : zcOf Go.Proofs.Tryd.prog 104 = some [.r true (val (.nilFunc))] := by kernel_rfl
theorem zp104 : zpOf Go.Proofs.Tryd.prog 104 = some (.one (val (.nilFunc))) := by kernel_rfl
theorem ty106 : tyOf Go.Proofs.Tryd.prog 106 = some (false, 1) := by kernel_rfl
theorem sl106 : slOf Go.Proofs.Tryd.prog 106 = some (9, 1) := by kernel_rfl
theorem z106 : zcOf Go.Proofs.Tryd.prog 106 = some [.r true (row true 0 [])] := by kernel_rfl
theorem el106 : elOf Go.Proofs.Tryd.prog 106 = some (9, 1, 16) := by kernel_rfl
theorem zp106 : zpOf Go.Proofs.Tryd.prog 106 = some (.one (row true 0 [])) := by kernel_rfl
theorem ty107 : tyOf Go.Proofs.Tryd.prog 107 = some (false, 1) := by kernel_rfl
theorem z107 : zcOf Go.Proofs.Tryd.prog 107 = some [.r true (val (.pointer none))] := by kernel_rfl
theorem zp107 : zpOf Go.Proofs.Tryd.prog 107 = some (.one (val (.pointer none))) := by kernel_rfl
theorem ty108 : tyOf Go.Proofs.Tryd.prog 108 = some (false, 1) := by kernel_rfl
theorem z108 : zcOf Go.Proofs.Tryd.prog 108 = some [.r true (val (.pointer none))] := by kernel_rfl
theorem zp108 : zpOf Go.Proofs.Tryd.prog 108 = some (.one (val (.pointer none))) := by kernel_rfl
theorem ty112 : tyOf Go.Proofs.Tryd.prog 112 = some (true, 2) := by kernel_rfl
theorem fl112_0 : fldOf Go.Proofs.Tryd.prog 112 0 = some (0, 32) := by kernel_rfl
theorem fl112_1 : fldOf Go.Proofs.Tryd.prog 112 1 = some (1, 3) := by kernel_rfl
theorem z112 : zcOf Go.Proofs.Tryd.prog 112 = some [.r true (row true 0 []), .r true (val (.int .i64 0))] := by kernel_rfl
theorem zp112 : zpOf Go.Proofs.Tryd.prog 112 = some (.agg [row true 0 [], val (.int .i64 0)]) := by kernel_rfl
theorem bl112 : bldOf Go.Proofs.Tryd.prog 112 = some [(0, 1), (1, 1)] := by kernel_rfl
theorem ty115 : tyOf Go.Proofs.Tryd.prog 115 = some (true, 1) := by kernel_rfl
theorem fl115_0 : fldOf Go.Proofs.Tryd.prog 115 0 = some (0, 9) := by kernel_rfl
theorem z115 : zcOf Go.Proofs.Tryd.prog 115 = some [.r true (val (.string ⟨#[]⟩))] := by kernel_rfl
theorem zp115 : zpOf Go.Proofs.Tryd.prog 115 = some (.agg [val (.string ⟨#[]⟩)]) := by kernel_rfl
theorem bl115 : bldOf Go.Proofs.Tryd.prog 115 = some [(0, 1)] := by kernel_rfl
theorem ty120 : tyOf Go.Proofs.Tryd.prog 120 = some (true, 3) := by kernel_rfl
theorem fl120_0 : fldOf Go.Proofs.Tryd.prog 120 0 = some (0, 3) := by kernel_rfl
theorem fl120_1 : fldOf Go.Proofs.Tryd.prog 120 1 = some (1, 3) := by kernel_rfl
theorem fl120_2 : fldOf Go.Proofs.Tryd.prog 120 2 = some (2, 3) := by kernel_rfl
theorem z120 : zcOf Go.Proofs.Tryd.prog 120 = some [.r true (val (.int .i64 0)), .r true (val (.int .i64 0)), .r true (val (.int .i64 0))] := by kernel_rfl
theorem zp120 : zpOf Go.Proofs.Tryd.prog 120 = some (.agg [val (.int .i64 0), val (.int .i64 0), val (.int .i64 0)]) := by kernel_rfl
theorem bl120 : bldOf Go.Proofs.Tryd.prog 120 = some [(0, 1), (1, 1), (2, 1)] := by kernel_rfl
theorem ty122 : tyOf Go.Proofs.Tryd.prog 122 = some (false, 1) := by kernel_rfl
theorem z122 : zcOf Go.Proofs.Tryd.prog 122 = some [.r true (val (.pointer none))] := by kernel_rfl
theorem zp122 : zpOf Go.Proofs.Tryd.prog 122 = some (.one (val (.pointer none))) := by kernel_rfl
theorem ty124 : tyOf Go.Proofs.Tryd.prog 124 = some (true, 2) := by kernel_rfl
theorem fl124_0 : fldOf Go.Proofs.Tryd.prog 124 0 = some (0, 3) := by kernel_rfl
theorem fl124_1 : fldOf Go.Proofs.Tryd.prog 124 1 = some (1, 3) := by kernel_rfl
theorem z124 : zcOf Go.Proofs.Tryd.prog 124 = some [.r true (val (.int .i64 0)), .r true (val (.int .i64 0))] := by kernel_rfl
theorem zp124 : zpOf Go.Proofs.Tryd.prog 124 = some (.agg [val (.int .i64 0), val (.int .i64 0)]) := by kernel_rfl
theorem bl124 : bldOf Go.Proofs.Tryd.prog 124 = some [(0, 1), (1, 1)] := by kernel_rfl
theorem ty126 : tyOf Go.Proofs.Tryd.prog 126 = some (false, 1) := by kernel_rfl
theorem sl126 : slOf Go.Proofs.Tryd.prog 126 = some (124, 2) := by kernel_rfl
theorem z126 : zcOf Go.Proofs.Tryd.prog 126 = some [.r true (row true 0 [])] := by kernel_rfl
theorem el126 : elOf Go.Proofs.Tryd.prog 126 = some (124, 2, 16) := by kernel_rfl
theorem zp126 : zpOf Go.Proofs.Tryd.prog 126 = some (.one (row true 0 [])) := by kernel_rfl
theorem ty131 : tyOf Go.Proofs.Tryd.prog 131 = some (false, 1) := by kernel_rfl
theorem z131 : zcOf Go.Proofs.Tryd.prog 131 = some [.r true (val (.int .u64 0))] := by kernel_rfl
theorem zp131 : zpOf Go.Proofs.Tryd.prog 131 = some (.one (val (.int .u64 0))) := by kernel_rfl
theorem ty134 : tyOf Go.Proofs.Tryd.prog 134 = some (false, 1) := by kernel_rfl
theorem z134 : zcOf Go.Proofs.Tryd.prog 134 = some [.r true (val (.pointer none))] := by kernel_rfl
theorem zp134 : zpOf Go.Proofs.Tryd.prog 134 = some (.one (val (.pointer none))) := by kernel_rfl
theorem ty137 : tyOf Go.Proofs.Tryd.prog 137 = some (false, 1) := by kernel_rfl
theorem z137 : zcOf Go.Proofs.Tryd.prog 137 = some [.r true (val (.pointer none))] := by kernel_rfl
theorem zp137 : zpOf Go.Proofs.Tryd.prog 137 = some (.one (val (.pointer none))) := by kernel_rfl
theorem ty144 : tyOf Go.Proofs.Tryd.prog 144 = some (false, 1) := by kernel_rfl
theorem z144 : zcOf Go.Proofs.Tryd.prog 144 = some [.r true (val (.nilIface))] := by kernel_rfl
theorem zp144 : zpOf Go.Proofs.Tryd.prog 144 = some (.one (val (.nilIface))) := by kernel_rfl
theorem ty154 : tyOf Go.Proofs.Tryd.prog 154 = some (true, 24) := by kernel_rfl
theorem z154 : zcOf Go.Proofs.Tryd.prog 154 = some [.r true (val (.int .u8 0)), .r true (val (.int .u8 0)), .r true (val (.int .u8 0)), .r true (val (.int .u8 0)), .r true (val (.int .u8 0)), .r true (val (.int .u8 0)), .r true (val (.int .u8 0)), .r true (val (.int .u8 0)), .r true (val (.int .u8 0)), .r true (val (.int .u8 0)), .r true (val (.int .u8 0)), .r true (val (.int .u8 0)), .r true (val (.int .u8 0)), .r true (val (.int .u8 0)), .r true (val (.int .u8 0)), .r true (val (.int .u8 0)), .r true (val (.int .u8 0)), .r true (val (.int .u8 0)), .r true (val (.int .u8 0)), .r true (val (.int .u8 0)), .r true (val (.int .u8 0)), .r true (val (.int .u8 0)), .r true (val (.int .u8 0)), .r true (val (.int .u8 0))] := by kernel_rfl
theorem zp154 : zpOf Go.Proofs.Tryd.prog 154 = some (.agg [val (.int .u8 0), val (.int .u8 0), val (.int .u8 0), val (.int .u8 0), val (.int .u8 0), val (.int .u8 0), val (.int .u8 0), val (.int .u8 0), val (.int .u8 0), val (.int .u8 0), val (.int .u8 0), val (.int .u8 0), val (.int .u8 0), val (.int .u8 0), val (.int .u8 0), val (.int .u8 0), val (.int .u8 0), val (.int .u8 0), val (.int .u8 0), val (.int .u8 0), val (.int .u8 0), val (.int .u8 0), val (.int .u8 0), val (.int .u8 0)]) := by kernel_rfl
theorem ty155 : tyOf Go.Proofs.Tryd.prog 155 = some (false, 1) := by kernel_rfl
theorem z155 : zcOf Go.Proofs.Tryd.prog 155 = some [.r true (val (.int .u64 0))] := by kernel_rfl
theorem zp155 : zpOf Go.Proofs.Tryd.prog 155 = some (.one (val (.int .u64 0))) := by kernel_rfl
theorem ty161 : tyOf Go.Proofs.Tryd.prog 161 = some (true, 32) := by kernel_rfl
theorem z161 : zcOf Go.Proofs.Tryd.prog 161 = some [.r true (val (.int .u8 0)), .r true (val (.int .u8 0)), .r true (val (.int .u8 0)), .r true (val (.int .u8 0)), .r true (val (.int .u8 0)), .r true (val (.int .u8 0)), .r true (val (.int .u8 0)), .r true (val (.int .u8 0)), .r true (val (.int .u8 0)), .r true (val (.int .u8 0)), .r true (val (.int .u8 0)), .r true (val (.int .u8 0)), .r true (val (.int .u8 0)), .r true (val (.int .u8 0)), .r true (val (.int .u8 0)), .r true (val (.int .u8 0)), .r true (val (.int .u8 0)), .r true (val (.int .u8 0)), .r true (val (.int .u8 0)), .r true (val (.int .u8 0)), .r true (val (.int .u8 0)), .r true (val (.int .u8 0)), .r true (val (.int .u8 0)), .r true (val (.int .u8 0)), .r true (val (.int .u8 0)), .r true (val (.int .u8 0)), .r true (val (.int .u8 0)), .r true (val (.int .u8 0)), .r true (val (.int .u8 0)), .r true (val (.int .u8 0)), .r true (val (.int .u8 0)), .r true (val (.int .u8 0))] := by kernel_rfl
theorem zp161 : zpOf Go.Proofs.Tryd.prog 161 = some (.agg [val (.int .u8 0), val (.int .u8 0), val (.int .u8 0), val (.int .u8 0), val (.int .u8 0), val (.int .u8 0), val (.int .u8 0), val (.int .u8 0), val (.int .u8 0), val (.int .u8 0), val (.int .u8 0), val (.int .u8 0), val (.int .u8 0), val (.int .u8 0), val (.int .u8 0), val (.int .u8 0), val (.int .u8 0), val (.int .u8 0), val (.int .u8 0), val (.int .u8 0), val (.int .u8 0), val (.int .u8 0), val (.int .u8 0), val (.int .u8 0), val (.int .u8 0), val (.int .u8 0), val (.int .u8 0), val (.int .u8 0), val (.int .u8 0), val (.int .u8 0), val (.int .u8 0), val (.int .u8 0)]) := by kernel_rfl
theorem ty164 : tyOf Go.Proofs.Tryd.prog 164 = some (true, 20) := by kernel_rfl
theorem z164 : zcOf Go.Proofs.Tryd.prog 164 = some [.r true (val (.int .u64 0)), .r true (val (.int .u64 0)), .r true (val (.int .u64 0)), .r true (val (.int .u64 0)), .r true (val (.int .u64 0)), .r true (val (.int .u64 0)), .r true (val (.int .u64 0)), .r true (val (.int .u64 0)), .r true (val (.int .u64 0)), .r true (val (.int .u64 0)), .r true (val (.int .u64 0)), .r true (val (.int .u64 0)), .r true (val (.int .u64 0)), .r true (val (.int .u64 0)), .r true (val (.int .u64 0)), .r true (val (.int .u64 0)), .r true (val (.int .u64 0)), .r true (val (.int .u64 0)), .r true (val (.int .u64 0)), .r true (val (.int .u64 0))] := by kernel_rfl
theorem zp164 : zpOf Go.Proofs.Tryd.prog 164 = some (.agg [val (.int .u64 0), val (.int .u64 0), val (.int .u64 0), val (.int .u64 0), val (.int .u64 0), val (.int .u64 0), val (.int .u64 0), val (.int .u64 0), val (.int .u64 0), val (.int .u64 0), val (.int .u64 0), val (.int .u64 0), val (.int .u64 0), val (.int .u64 0), val (.int .u64 0), val (.int .u64 0), val (.int .u64 0), val (.int .u64 0), val (.int .u64 0), val (.int .u64 0)]) := by kernel_rfl
theorem ty165 : tyOf Go.Proofs.Tryd.prog 165 = some (true, 65) := by kernel_rfl
theorem zp165 : zpOf Go.Proofs.Tryd.prog 165 = some (.agg [val (.int .u8 0), val (.int .u8 0), val (.int .u8 0), val (.int .u8 0), val (.int .u8 0), val (.int .u8 0), val (.int .u8 0), val (.int .u8 0), val (.int .u8 0), val (.int .u8 0), val (.int .u8 0), val (.int .u8 0), val (.int .u8 0), val (.int .u8 0), val (.int .u8 0), val (.int .u8 0), val (.int .u8 0), val (.int .u8 0), val (.int .u8 0), val (.int .u8 0), val (.int .u8 0), val (.int .u8 0), val (.int .u8 0), val (.int .u8 0), val (.int .u8 0), val (.int .u8 0), val (.int .u8 0), val (.int .u8 0), val (.int .u8 0), val (.int .u8 0), val (.int .u8 0), val (.int .u8 0), val (.int .u8 0), val (.int .u8 0), val (.int .u8 0), val (.int .u8 0), val (.int .u8 0), val (.int .u8 0), val (.int .u8 0), val (.int .u8 0), val (.int .u8 0), val (.int .u8 0), val (.int .u8 0), val (.int .u8 0), val (.int .u8 0), val (.int .u8 0), val (.int .u8 0), val (.int .u8 0), val (.int .u8 0), val (.int .u8 0), val (.int .u8 0), val (.int .u8 0), val (.int .u8 0), val (.int .u8 0), val (.int .u8 0), val (.int .u8 0), val (.int .u8 0), val (.int .u8 0), val (.int .u8 0), val (.int .u8 0), val (.int .u8 0), val (.int .u8 0), val (.int .u8 0), val (.int .u8 0), val (.int .u8 0)]) := by kernel_rfl
theorem ty168 : tyOf Go.Proofs.Tryd.prog 168 = some (true, 64) := by kernel_rfl
theorem zp168 : zpOf Go.Proofs.Tryd.prog 168 = some (.agg [val (.int .u8 0), val (.int .u8 0), val (.int .u8 0), val (.int .u8 0), val (.int .u8 0), val (.int .u8 0), val (.int .u8 0), val (.int .u8 0), val (.int .u8 0), val (.int .u8 0), val (.int .u8 0), val (.int .u8 0), val (.int .u8 0), val (.int .u8 0), val (.int .u8 0), val (.int .u8 0), val (.int .u8 0), val (.int .u8 0), val (.int .u8 0), val (.int .u8 0), val (.int .u8 0), val (.int .u8 0), val (.int .u8 0), val (.int .u8 0), val (.int .u8 0), val (.int .u8 0), val (.int .u8 0), val (.int .u8 0), val (.int .u8 0), val (.int .u8 0), val (.int .u8 0), val (.int .u8 0), val (.int .u8 0), val (.int .u8 0), val (.int .u8 0), val (.int .u8 0), val (.int .u8 0), val (.int .u8 0), val (.int .u8 0), val (.int .u8 0), val (.int .u8 0), val (.int .u8 0), val (.int .u8 0), val (.int .u8 0), val (.int .u8 0), val (.int .u8 0), val (.int .u8 0), val (.int .u8 0), val (.int .u8 0), val (.int .u8 0), val (.int .u8 0), val (.int .u8 0), val (.int .u8 0), val (.int .u8 0), val (.int .u8 0), val (.int .u8 0), val (.int .u8 0), val (.int .u8 0), val (.int .u8 0), val (.int .u8 0), val (.int .u8 0), val (.int .u8 0), val (.int .u8 0), val (.int .u8 0)]) := by kernel_rfl
def tb : TB := ⟨[(2, false, 1), (3, false, 1), (4, false, 1), (5, false, 1), (9, false, 1), (17, false, 1), (19, true, 1), (20, false, 1), (23, true, 3), (25, true, 4), (27, true, 3), (29, true, 4), (32, false, 1), (40, false, 1), (42, true, 2), (44, false, 1), (46, false, 1), (48, true, 2), (63, false, 1), (65, true, 2), (67, false, 1), (70, false, 1), (74, false, 1), (85, true, 3), (89, false, 1), (91, false, 1), (92, false, 1), (93, false, 1), (104, false, 1), (106, false, 1), (107, false, 1), (108, false, 1), (112, true, 2), (115, true, 1), (120, true, 3), (122, false, 1), (124, true, 2), (126, false, 1), (131, false, 1), (134, false, 1), (137, false, 1), (144, false, 1), (154, true, 24), (155, false, 1), (161, true, 32), (164, true, 20), (165, true, 65), (168, true, 64)], [(19, 0, 0, 17), (23, 0, 0, 3), (23, 1, 1, 3), (23, 2, 2, 3), (25, 0, 0, 23), (25, 1, 3, 3), (27, 0, 0, 3), (27, 1, 1, 3), (27, 2, 2, 3), (29, 0, 0, 27), (29, 1, 3, 3), (42, 0, 0, 3), (42, 1, 1, 40), (48, 0, 0, 3), (48, 1, 1, 46), (65, 0, 0, 63), (65, 1, 1, 32), (85, 0, 0, 3), (85, 1, 1, 3), (85, 2, 2, 3), (112, 0, 0, 32), (112, 1, 1, 3), (115, 0, 0, 9), (120, 0, 0, 3), (120, 1, 1, 3), (120, 2, 2, 3), (124, 0, 0, 3), (124, 1, 1, 3)], [(32, 5, 1), (40, 120, 3), (44, 3, 1), (46, 85, 3), (89, 46, 1), (91, 93, 1), (106, 9, 1), (126, 124, 2)], [(2, [.r true (val (.int .i64 0))]), (3, [.r true (val (.int .i64 0))]), (5, [.r true (val (.int .u8 0))]), (9, [.r true (val (.string ⟨#[]⟩))]), (17, [.r true (val (.pointer none))]), (19, [.r true (val (.pointer none))]), (20, [.r true (val (.nilIface))]), (23, [.r true (val (.int .i64 0)), .r true (val (.int .i64 0)), .r true (val (.int .i64 0))]), (25, [.r true (val (.int .i64 0)), .r true (val (.int .i64 0)), .r true (val (.int .i64 0)), .r true (val (.int .i64 0))]), (27, [.r true (val (.int .i64 0)), .r true (val (.int .i64 0)), .r true (val (.int .i64 0))]), (29, [.r true (val (.int .i64 0)), .r true (val (.int .i64 0)), .r true (val (.int .i64 0)), .r true (val (.int .i64 0))]), (32, [.r true (row true 0 [])]), (40, [.r true (row true 0 [])]), (42, [.r true (val (.int .i64 0)), .r true (row true 0 [])]), (44, [.r true (row true 0 [])]), (46, [.r true (row true 0 [])]), (48, [.r true (val (.int .i64 0)), .r true (row true 0 [])]), (63, [.r true (val (.pointer none))]), (65, [.r true (val (.pointer none)), .r true (row true 0 [])]), (67, [.r true (val (.nilIface))]), (70, [.r true (val (.pointer none))]), (74, [.r true (val (.pointer none))]), (85, [.r true (val (.int .i64 0)), .r true (val (.int .i64 0)), .r true (val (.int .i64 0))]), (89, [.r true (row true 0 [])]), (91, [.r true (row true 0 [])]), (92, [.r true (val (.int .u32 0))]), (93, [.r true (val (.int .u32 0))]), (104, [.r true (val (.nilFunc))]), (106, [.r true (row true 0 [])]), (107, [.r true (val (.pointer none))]), (108, [.r true (val (.pointer none))]), (112, [.r true (row true 0 []), .r true (val (.int .i64 0))]), (115, [.r true (val (.string ⟨#[]⟩))]), (120, [.r true (val (.int .i64 0)), .r true (val (.int .i64 0)), .r true (val (.int .i64 0))]), (122, [.r true (val (.pointer none))]), (124, [.r true (val (.int .i64 0)), .r true (val (.int .i64 0))]), (126, [.r true (row true 0 [])]), (131, [.r true (val (.int .u64 0))]), (134, [.r true (val (.pointer none))]), (137, [.r true (val (.pointer none))]), (144, [.r true (val (.nilIface))]), (154, [.r true (val (.int .u8 0)), .r true (val (.int .u8 0)), .r true (val (.int .u8 0)), .r true (val (.int .u8 0)), .r true (val (.int .u8 0)), .r true (val (.int .u8 0)), .r true (val (.int .u8 0)), .r true (val (.int .u8 0)), .r true (val (.int .u8 0)), .r true (val (.int .u8 0)), .r true (val (.int .u8 0)), .r true (val (.int .u8 0)), .r true (val (.int .u8 0)), .r true (val (.int .u8 0)), .r true (val (.int .u8 0)), .r true (val (.int .u8 0)), .r true (val (.int .u8 0)), .r true (val (.int .u8 0)), .r true (val (.int .u8 0)), .r true (val (.int .u8 0)), .r true (val (.int .u8 0)), .r true (val (.int .u8 0)), .r true (val (.int .u8 0)), .r true (val (.int .u8 0))]), (155, [.r true (val (.int .u64 0))]), (161, [.r true (val (.int .u8 0)), .r true (val (.int .u8 0)), .r true (val (.int .u8 0)), .r true (val (.int .u8 0)), .r true (val (.int .u8 0)), .r true (val (.int .u8 0)), .r true (val (.int .u8 0)), .r true (val (.int .u8 0)), .r true (val (.int .u8 0)), .r true (val (.int .u8 0)), .r true (val (.int .u8 0)), .r true (val (.int .u8 0)), .r true (val (.int .u8 0)), .r true (val (.int .u8 0)), .r true (val (.int .u8 0)), .r true (val (.int .u8 0)), .r true (val (.int .u8 0)), .r true (val (.int .u8 0)), .r true (val (.int .u8 0)), .r true (val (.int .u8 0)), .r true (val (.int .u8 0)), .r true (val (.int .u8 0)), .r true (val (.int .u8 0)), .r true (val (.int .u8 0)), .r true (val (.int .u8 0)), .r true (val (.int .u8 0)), .r true (val (.int .u8 0)), .r true (val (.int .u8 0)), .r true (val (.int .u8 0)), .r true (val (.int .u8 0)), .r true (val (.int .u8 0)), .r true (val (.int .u8 0))]), (164, [.r true (val (.int .u64 0)), .r true (val (.int .u64 0)), .r true (val (.int .u64 0)), .r true (val (.int .u64 0)), .r true (val (.int .u64 0)), .r true (val (.int .u64 0)), .r true (val (.int .u64 0)), .r true (val (.int .u64 0)), .r true (val (.int .u64 0)), .r true (val (.int .u64 0)), .r true (val (.int .u64 0)), .r true (val (.int .u64 0)), .r true (val (.int .u64 0)), .r true (val (.int .u64 0)), .r true (val (.int .u64 0)), .r true (val (.int .u64 0)), .r true (val (.int .u64 0)), .r true (val (.int .u64 0)), .r true (val (.int .u64 0)), .r true (val (.int .u64 0))])], [4], [(19, [(0, 1)]), (23, [(0, 1), (1, 1), (2, 1)]), (25, [(0, 3), (3, 1)]), (27, [(0, 1), (1, 1), (2, 1)]), (29, [(0, 3), (3, 1)]), (42, [(0, 1), (1, 1)]), (48, [(0, 1), (1, 1)]), (65, [(0, 1), (1, 1)]), (85, [(0, 1), (1, 1), (2, 1)]), (112, [(0, 1), (1, 1)]), (115, [(0, 1)]), (120, [(0, 1), (1, 1), (2, 1)]), (124, [(0, 1), (1, 1)])]⟩
theorem tbOk : TbOk Go.Proofs.Tryd.prog tb := ⟨⟨ty2, ty3, ty4, ty5, ty9, ty17, ty19, ty20, ty23, ty25, ty27, ty29, ty32, ty40, ty42, ty44, ty46, ty48, ty63, ty65, ty67, ty70, ty74, ty85, ty89, ty91, ty92, ty93, ty104, ty106, ty107, ty108, ty112, ty115, ty120, ty122, ty124, ty126, ty131, ty134, ty137, ty144, ty154, ty155, ty161, ty164, ty165, ty168, trivial⟩, ⟨fl19_0, fl23_0, fl23_1, fl23_2, fl25_0, fl25_1, fl27_0, fl27_1, fl27_2, fl29_0, fl29_1, fl42_0, fl42_1, fl48_0, fl48_1, fl65_0, fl65_1, fl85_0, fl85_1, fl85_2, fl112_0, fl112_1, fl115_0, fl120_0, fl120_1, fl120_2, fl124_0, fl124_1, trivial⟩, ⟨sl32, sl40, sl44, sl46, sl89, sl91, sl106, sl126, trivial⟩, ⟨z2, z3, z5, z9, z17, z19, z20, z23, z25, z27, z29, z32, z40, z42, z44, z46, z48, z63, z65, z67, z70, z74, z85, z89, z91, z92, z93, z104, z106, z107, z108, z112, z115, z120, z122, z124, z126, z131, z134, z137, z144, z154, z155, z161, z164, trivial⟩, ⟨bo4, trivial⟩, ⟨bl19, bl23, bl25, bl27, bl29, bl42, bl48, bl65, bl85, bl112, bl115, bl120, bl124, trivial⟩⟩
def tl : TL := ⟨[(32, 5, 1, 1), (40, 120, 3, 24), (44, 3, 1, 8), (46, 85, 3, 24), (89, 46, 1, 24), (91, 93, 1, 4), (106, 9, 1, 16), (126, 124, 2, 16)], [(2, (.one (val (.int .i64 0)))), (3, (.one (val (.int .i64 0)))), (5, (.one (val (.int .u8 0)))), (9, (.one (val (.string ⟨#[]⟩)))), (17, (.one (val (.pointer none)))), (19, (.agg [val (.pointer none)])), (20, (.one (val (.nilIface)))), (23, (.agg [val (.int .i64 0), val (.int .i64 0), val (.int .i64 0)])), (25, (.agg [val (.int .i64 0), val (.int .i64 0), val (.int .i64 0), val (.int .i64 0)])), (27, (.agg [val (.int .i64 0), val (.int .i64 0), val (.int .i64 0)])), (29, (.agg [val (.int .i64 0), val (.int .i64 0), val (.int .i64 0), val (.int .i64 0)])), (32, (.one (row true 0 []))), (40, (.one (row true 0 []))), (42, (.agg [val (.int .i64 0), row true 0 []])), (44, (.one (row true 0 []))), (46, (.one (row true 0 []))), (48, (.agg [val (.int .i64 0), row true 0 []])), (63, (.one (val (.pointer none)))), (65, (.agg [val (.pointer none), row true 0 []])), (67, (.one (val (.nilIface)))), (70, (.one (val (.pointer none)))), (74, (.one (val (.pointer none)))), (85, (.agg [val (.int .i64 0), val (.int .i64 0), val (.int .i64 0)])), (89, (.one (row true 0 []))), (91, (.one (row true 0 []))), (92, (.one (val (.int .u32 0)))), (93, (.one (val (.int .u32 0)))), (104, (.one (val (.nilFunc)))), (106, (.one (row true 0 []))), (107, (.one (val (.pointer none)))), (108, (.one (val (.pointer none)))), (112, (.agg [row true 0 [], val (.int .i64 0)])), (115, (.agg [val (.string ⟨#[]⟩)])), (120, (.agg [val (.int .i64 0), val (.int .i64 0), val (.int .i64 0)])), (122, (.one (val (.pointer none)))), (124, (.agg [val (.int .i64 0), val (.int .i64 0)])), (126, (.one (row true 0 []))), (131, (.one (val (.int .u64 0)))), (134, (.one (val (.pointer none)))), (137, (.one (val (.pointer none)))), (144, (.one (val (.nilIface)))), (154, (.agg [val (.int .u8 0), val (.int .u8 0), val (.int .u8 0), val (.int .u8 0), val (.int .u8 0), val (.int .u8 0), val (.int .u8 0), val (.int .u8 0), val (.int .u8 0), val (.int .u8 0), val (.int .u8 0), val (.int .u8 0), val (.int .u8 0), val (.int .u8 0), val (.int .u8 0), val (.int .u8 0), val (.int .u8 0), val (.int .u8 0), val (.int .u8 0), val (.int .u8 0), val (.int .u8 0), val (.int .u8 0), val (.int .u8 0), val (.int .u8 0)])), (155, (.one (val (.int .u64 0)))), (161, (.agg [val (.int .u8 0), val (.int .u8 0), val (.int .u8 0), val (.int .u8 0), val (.int .u8 0), val (.int .u8 0), val (.int .u8 0), val (.int .u8 0), val (.int .u8 0), val (.int .u8 0), val (.int .u8 0), val (.int .u8 0), val (.int .u8 0), val (.int .u8 0), val (.int .u8 0), val (.int .u8 0), val (.int .u8 0), val (.int .u8 0), val (.int .u8 0), val (.int .u8 0), val (.int .u8 0), val (.int .u8 0), val (.int .u8 0), val (.int .u8 0), val (.int .u8 0), val (.int .u8 0), val (.int .u8 0), val (.int .u8 0), val (.int .u8 0), val (.int .u8 0), val (.int .u8 0), val (.int .u8 0)])), (164, (.agg [val (.int .u64 0), val (.int .u64 0), val (.int .u64 0), val (.int .u64 0), val (.int .u64 0), val (.int .u64 0), val (.int .u64 0), val (.int .u64 0), val (.int .u64 0), val (.int .u64 0), val (.int .u64 0), val (.int .u64 0), val (.int .u64 0), val (.int .u64 0), val (.int .u64 0), val (.int .u64 0), val (.int .u64 0), val (.int .u64 0), val (.int .u64 0), val (.int .u64 0)])), (165, (.agg [val (.int .u8 0), val (.int .u8 0), val (.int .u8 0), val (.int .u8 0), val (.int .u8 0), val (.int .u8 0), val (.int .u8 0), val (.int .u8 0), val (.int .u8 0), val (.int .u8 0), val (.int .u8 0), val (.int .u8 0), val (.int .u8 0), val (.int .u8 0), val (.int .u8 0), val (.int .u8 0), val (.int .u8 0), val (.int .u8 0), val (.int .u8 0), val (.int .u8 0), val (.int .u8 0), val (.int .u8 0), val (.int .u8 0), val (.int .u8 0), val (.int .u8 0), val (.int .u8 0), val (.int .u8 0), val (.int .u8 0), val (.int .u8 0), val (.int .u8 0), val (.int .u8 0), val (.int .u8 0), val (.int .u8 0), val (.int .u8 0), val (.int .u8 0), val (.int .u8 0), val (.int .u8 0), val (.int .u8 0), val (.int .u8 0), val (.int .u8 0), val (.int .u8 0), val (.int .u8 0), val (.int .u8 0), val (.int .u8 0), val (.int .u8 0), val (.int .u8 0), val (.int .u8 0), val (.int .u8 0), val (.int .u8 0), val (.int .u8 0), val (.int .u8 0), val (.int .u8 0), val (.int .u8 0), val (.int .u8 0), val (.int .u8 0), val (.int .u8 0), val (.int .u8 0), val (.int .u8 0), val (.int .u8 0), val (.int .u8 0), val (.int .u8 0), val (.int .u8 0), val (.int .u8 0), val (.int .u8 0), val (.int .u8 0)])), (168, (.agg [val (.int .u8 0), val (.int .u8 0), val (.int .u8 0), val (.int .u8 0), val (.int .u8 0), val (.int .u8 0), val (.int .u8 0), val (.int .u8 0), val (.int .u8 0), val (.int .u8 0), val (.int .u8 0), val (.int .u8 0), val (.int .u8 0), val (.int .u8 0), val (.int .u8 0), val (.int .u8 0), val (.int .u8 0), val (.int .u8 0), val (.int .u8 0), val (.int .u8 0), val (.int .u8 0), val (.int .u8 0), val (.int .u8 0), val (.int .u8 0), val (.int .u8 0), val (.int .u8 0), val (.int .u8 0), val (.int .u8 0), val (.int .u8 0), val (.int .u8 0), val (.int .u8 0), val (.int .u8 0), val (.int .u8 0), val (.int .u8 0), val (.int .u8 0), val (.int .u8 0), val (.int .u8 0), val (.int .u8 0), val (.int .u8 0), val (.int .u8 0), val (.int .u8 0), val (.int .u8 0), val (.int .u8 0), val (.int .u8 0), val (.int .u8 0), val (.int .u8 0), val (.int .u8 0), val (.int .u8 0), val (.int .u8 0), val (.int .u8 0), val (.int .u8 0), val (.int .u8 0), val (.int .u8 0), val (.int .u8 0), val (.int .u8 0), val (.int .u8 0), val (.int .u8 0), val (.int .u8 0), val (.int .u8 0), val (.int .u8 0), val (.int .u8 0), val (.int .u8 0), val (.int .u8 0), val (.int .u8 0)]))]⟩
theorem tlOk : TLOk Go.Proofs.Tryd.prog tl := ⟨⟨el32, el40, el44, el46, el89, el91, el106, el126, trivial⟩, ⟨zp2, zp3, zp5, zp9, zp17, zp19, zp20, zp23, zp25, zp27, zp29, zp32, zp40, zp42, zp44, zp46, zp48, zp63, zp65, zp67, zp70, zp74, zp85, zp89, zp91, zp92, zp93, zp104, zp106, zp107, zp108, zp112, zp115, zp120, zp122, zp124, zp126, zp131, zp134, zp137, zp144, zp154, zp155, zp161, zp164, zp165, zp168, trivial⟩⟩
end Go.Proofs.YthjnidcmhegoeaaDoor.Abs
