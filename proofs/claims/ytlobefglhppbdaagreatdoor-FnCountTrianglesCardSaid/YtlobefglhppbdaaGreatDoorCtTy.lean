/- The types of the program as facts: cells, fields, elements, zero values. No statement of the seat is proved here. -/
import Derived.Test.YtlobefglhppbdaaGreatDoorProg
import Derived.Test.YtlobefglhppbdaaGreatDoorCtAbsN
namespace Go.Proofs.YtlobefglhppbdaaGreatDoor.Abs
open R (val row ref)
theorem ty3 : tyOf Go.Proofs.Tryz.prog 3 = some (false, 1) := by kernel_rfl
theorem z3 : zcOf Go.Proofs.Tryz.prog 3 = some [.r true (val (.int .i64 0))] := by kernel_rfl
theorem zp3 : zpOf Go.Proofs.Tryz.prog 3 = some (.one (val (.int .i64 0))) := by kernel_rfl
theorem ty4 : tyOf Go.Proofs.Tryz.prog 4 = some (false, 1) := by kernel_rfl
theorem z4 : zcOf Go.Proofs.Tryz.prog 4 = some [.r true (val (.bool false))] := by kernel_rfl
theorem zp4 : zpOf Go.Proofs.Tryz.prog 4 = some (.one (val (.bool false))) := by kernel_rfl
theorem bo4 : Go.Proofs.Tryz.prog.underlying 4 = some .bool := by kernel_rfl
theorem ty5 : tyOf Go.Proofs.Tryz.prog 5 = some (false, 1) := by kernel_rfl
theorem z5 : zcOf Go.Proofs.Tryz.prog 5 = some [.r true (val (.int .u8 0))] := by kernel_rfl
theorem zp5 : zpOf Go.Proofs.Tryz.prog 5 = some (.one (val (.int .u8 0))) := by kernel_rfl
theorem ty9 : tyOf Go.Proofs.Tryz.prog 9 = some (false, 1) := by kernel_rfl
theorem z9 : zcOf Go.Proofs.Tryz.prog 9 = some [.r true (val (.string ⟨#[]⟩))] := by kernel_rfl
theorem zp9 : zpOf Go.Proofs.Tryz.prog 9 = some (.one (val (.string ⟨#[]⟩))) := by kernel_rfl
theorem ty17 : tyOf Go.Proofs.Tryz.prog 17 = some (false, 1) := by kernel_rfl
theorem z17 : zcOf Go.Proofs.Tryz.prog 17 = some [.r true (val (.pointer none))] := by kernel_rfl
theorem zp17 : zpOf Go.Proofs.Tryz.prog 17 = some (.one (val (.pointer none))) := by kernel_rfl
theorem ty19 : tyOf Go.Proofs.Tryz.prog 19 = some (true, 1) := by kernel_rfl
theorem fl19_0 : fldOf Go.Proofs.Tryz.prog 19 0 = some (0, 17) := by kernel_rfl
theorem z19 : zcOf Go.Proofs.Tryz.prog 19 = some [.r true (val (.pointer none))] := by kernel_rfl
theorem zp19 : zpOf Go.Proofs.Tryz.prog 19 = some (.agg [val (.pointer none)]) := by kernel_rfl
theorem bl19 : bldOf Go.Proofs.Tryz.prog 19 = some [(0, 1)] := by kernel_rfl
theorem ty22 : tyOf Go.Proofs.Tryz.prog 22 = some (false, 1) := by kernel_rfl
theorem sl22 : slOf Go.Proofs.Tryz.prog 22 = some (5, 1) := by kernel_rfl
theorem z22 : zcOf Go.Proofs.Tryz.prog 22 = some [.r true (row true 0 [])] := by kernel_rfl
theorem el22 : elOf Go.Proofs.Tryz.prog 22 = some (5, 1, 1) := by kernel_rfl
theorem zp22 : zpOf Go.Proofs.Tryz.prog 22 = some (.one (row true 0 [])) := by kernel_rfl
theorem ty23 : tyOf Go.Proofs.Tryz.prog 23 = some (false, 1) := by kernel_rfl
theorem sl23 : slOf Go.Proofs.Tryz.prog 23 = some (50, 3) := by kernel_rfl
theorem z23 : zcOf Go.Proofs.Tryz.prog 23 = some [.r true (row true 0 [])] := by kernel_rfl
theorem el23 : elOf Go.Proofs.Tryz.prog 23 = some (50, 3, 24) := by kernel_rfl
theorem zp23 : zpOf Go.Proofs.Tryz.prog 23 = some (.one (row true 0 [])) := by kernel_rfl
theorem ty25 : tyOf Go.Proofs.Tryz.prog 25 = some (true, 2) := by kernel_rfl
theorem fl25_0 : fldOf Go.Proofs.Tryz.prog 25 0 = some (0, 3) := by kernel_rfl
theorem fl25_1 : fldOf Go.Proofs.Tryz.prog 25 1 = some (1, 23) := by kernel_rfl
theorem z25 : zcOf Go.Proofs.Tryz.prog 25 = some [.r true (val (.int .i64 0)), .r true (row true 0 [])] := by kernel_rfl
theorem zp25 : zpOf Go.Proofs.Tryz.prog 25 = some (.agg [val (.int .i64 0), row true 0 []]) := by kernel_rfl
theorem bl25 : bldOf Go.Proofs.Tryz.prog 25 = some [(0, 1), (1, 1)] := by kernel_rfl
theorem ty27 : tyOf Go.Proofs.Tryz.prog 27 = some (false, 1) := by kernel_rfl
theorem sl27 : slOf Go.Proofs.Tryz.prog 27 = some (3, 1) := by kernel_rfl
theorem z27 : zcOf Go.Proofs.Tryz.prog 27 = some [.r true (row true 0 [])] := by kernel_rfl
theorem el27 : elOf Go.Proofs.Tryz.prog 27 = some (3, 1, 8) := by kernel_rfl
theorem zp27 : zpOf Go.Proofs.Tryz.prog 27 = some (.one (row true 0 [])) := by kernel_rfl
theorem ty34 : tyOf Go.Proofs.Tryz.prog 34 = some (true, 3) := by kernel_rfl
theorem fl34_0 : fldOf Go.Proofs.Tryz.prog 34 0 = some (0, 3) := by kernel_rfl
theorem fl34_1 : fldOf Go.Proofs.Tryz.prog 34 1 = some (1, 3) := by kernel_rfl
theorem fl34_2 : fldOf Go.Proofs.Tryz.prog 34 2 = some (2, 3) := by kernel_rfl
theorem z34 : zcOf Go.Proofs.Tryz.prog 34 = some [.r true (val (.int .i64 0)), .r true (val (.int .i64 0)), .r true (val (.int .i64 0))] := by kernel_rfl
theorem zp34 : zpOf Go.Proofs.Tryz.prog 34 = some (.agg [val (.int .i64 0), val (.int .i64 0), val (.int .i64 0)]) := by kernel_rfl
theorem bl34 : bldOf Go.Proofs.Tryz.prog 34 = some [(0, 1), (1, 1), (2, 1)] := by kernel_rfl
theorem ty39 : tyOf Go.Proofs.Tryz.prog 39 = some (false, 1) := by kernel_rfl
theorem z39 : zcOf Go.Proofs.Tryz.prog 39 = some [.r true (val (.pointer none))] := by kernel_rfl
theorem zp39 : zpOf Go.Proofs.Tryz.prog 39 = some (.one (val (.pointer none))) := by kernel_rfl
theorem ty41 : tyOf Go.Proofs.Tryz.prog 41 = some (false, 1) := by kernel_rfl
theorem sl41 : slOf Go.Proofs.Tryz.prog 41 = some (44, 1) := by kernel_rfl
theorem z41 : zcOf Go.Proofs.Tryz.prog 41 = some [.r true (row true 0 [])] := by kernel_rfl
theorem el41 : elOf Go.Proofs.Tryz.prog 41 = some (44, 1, 4) := by kernel_rfl
theorem zp41 : zpOf Go.Proofs.Tryz.prog 41 = some (.one (row true 0 [])) := by kernel_rfl
theorem ty43 : tyOf Go.Proofs.Tryz.prog 43 = some (false, 1) := by kernel_rfl
theorem z43 : zcOf Go.Proofs.Tryz.prog 43 = some [.r true (val (.int .u32 0))] := by kernel_rfl
theorem zp43 : zpOf Go.Proofs.Tryz.prog 43 = some (.one (val (.int .u32 0))) := by kernel_rfl
theorem ty44 : tyOf Go.Proofs.Tryz.prog 44 = some (false, 1) := by kernel_rfl
theorem z44 : zcOf Go.Proofs.Tryz.prog 44 = some [.r true (val (.int .u32 0))] := by kernel_rfl
theorem zp44 : zpOf Go.Proofs.Tryz.prog 44 = some (.one (val (.int .u32 0))) := by kernel_rfl
theorem ty50 : tyOf Go.Proofs.Tryz.prog 50 = some (true, 3) := by kernel_rfl
theorem fl50_0 : fldOf Go.Proofs.Tryz.prog 50 0 = some (0, 3) := by kernel_rfl
theorem fl50_1 : fldOf Go.Proofs.Tryz.prog 50 1 = some (1, 3) := by kernel_rfl
theorem fl50_2 : fldOf Go.Proofs.Tryz.prog 50 2 = some (2, 3) := by kernel_rfl
theorem z50 : zcOf Go.Proofs.Tryz.prog 50 = some [.r true (val (.int .i64 0)), .r true (val (.int .i64 0)), .r true (val (.int .i64 0))] := by kernel_rfl
theorem zp50 : zpOf Go.Proofs.Tryz.prog 50 = some (.agg [val (.int .i64 0), val (.int .i64 0), val (.int .i64 0)]) := by kernel_rfl
theorem bl50 : bldOf Go.Proofs.Tryz.prog 50 = some [(0, 1), (1, 1), (2, 1)] := by kernel_rfl
theorem ty54 : tyOf Go.Proofs.Tryz.prog 54 = some (false, 1) := by kernel_rfl
theorem sl54 : slOf Go.Proofs.Tryz.prog 54 = some (105, 3) := by kernel_rfl
theorem z54 : zcOf Go.Proofs.Tryz.prog 54 = some [.r true (row true 0 [])] := by kernel_rfl
theorem el54 : elOf Go.Proofs.Tryz.prog 54 = some (105, 3, 24) := by kernel_rfl
theorem zp54 : zpOf Go.Proofs.Tryz.prog 54 = some (.one (row true 0 [])) := by kernel_rfl
theorem ty55 : tyOf Go.Proofs.Tryz.prog 55 = some (false, 1) := by kernel_rfl
theorem z55 : zcOf Go.Proofs.Tryz.prog 55 = some [.r true (val (.nilFunc))] := by kernel_rfl
theorem zp55 : zpOf Go.Proofs.Tryz.prog 55 = some (.one (val (.nilFunc))) := by kernel_rfl
theorem ty56 : tyOf Go.Proofs.Tryz.prog 56 = some (false, 1) := by kernel_rfl
theorem z56 : zcOf Go.Proofs.Tryz.prog 56 = some [.r true (val (.nilFunc))] := by kernel_rfl
theorem zp56 : zpOf Go.Proofs.Tryz.prog 56 = some (.one (val (.nilFunc))) := by kernel_rfl
theorem ty62 : tyOf Go.Proofs.Tryz.prog 62 = some (true, 2) := by kernel_rfl
theorem fl62_0 : fldOf Go.Proofs.Tryz.prog 62 0 = some (0, 22) := by kernel_rfl
theorem fl62_1 : fldOf Go.Proofs.Tryz.prog 62 1 = some (1, 3) := by kernel_rfl
theorem z62 : zcOf Go.Proofs.Tryz.prog 62 = some [.r true (row true 0 []), .r true (val (.int .i64 0))] := by kernel_rfl
theorem zp62 : zpOf Go.Proofs.Tryz.prog 62 = some (.agg [row true 0 [], val (.int .i64 0)]) := by kernel_rfl
theorem bl62 : bldOf Go.Proofs.Tryz.prog 62 = some [(0, 1), (1, 1)] := by kernel_rfl
theorem ty67 : tyOf Go.Proofs.Tryz.prog 67 = some (false, 1) := by kernel_rfl
theorem sl67 : slOf Go.Proofs.Tryz.prog 67 = some (54, 1) := by kernel_rfl
theorem z67 : zcOf Go.Proofs.Tryz.prog 67 = some [.r true (row true 0 [])] := by kernel_rfl
theorem el67 : elOf Go.Proofs.Tryz.prog 67 = some (54, 1, 24) := by kernel_rfl
theorem zp67 : zpOf Go.Proofs.Tryz.prog 67 = some (.one (row true 0 [])) := by kernel_rfl
theorem ty73 : tyOf Go.Proofs.Tryz.prog 73 = some (false, 1) := by kernel_rfl
theorem z73 : zcOf Go.Proofs.Tryz.prog 73 = some [.r true (val (.int .u64 0))] := by kernel_rfl
theorem zp73 : zpOf Go.Proofs.Tryz.prog 73 = some (.one (val (.int .u64 0))) := by kernel_rfl
theorem ty74 : tyOf Go.Proofs.Tryz.prog 74 = some (false, 1) := by kernel_rfl
theorem sl74 : slOf Go.Proofs.Tryz.prog 74 = some (4, 1) := by kernel_rfl
theorem z74 : zcOf Go.Proofs.Tryz.prog 74 = some [.r true (row true 0 [])] := by kernel_rfl
theorem el74 : elOf Go.Proofs.Tryz.prog 74 = some (4, 1, 1) := by kernel_rfl
theorem zp74 : zpOf Go.Proofs.Tryz.prog 74 = some (.one (row true 0 [])) := by kernel_rfl
theorem ty76 : tyOf Go.Proofs.Tryz.prog 76 = some (true, 4) := by kernel_rfl
theorem fl76_0 : fldOf Go.Proofs.Tryz.prog 76 0 = some (0, 3) := by kernel_rfl
theorem fl76_1 : fldOf Go.Proofs.Tryz.prog 76 1 = some (1, 27) := by kernel_rfl
theorem fl76_2 : fldOf Go.Proofs.Tryz.prog 76 2 = some (2, 74) := by kernel_rfl
theorem fl76_3 : fldOf Go.Proofs.Tryz.prog 76 3 = some (3, 54) := by kernel_rfl
theorem z76 : zcOf Go.Proofs.Tryz.prog 76 = some [.r true (val (.int .i64 0)), .r true (row true 0 []), .r true (row true 0 []), .r true (row true 0 [])] := by kernel_rfl
theorem zp76 : zpOf Go.Proofs.Tryz.prog 76 = some (.agg [val (.int .i64 0), row true 0 [], row true 0 [], row true 0 []]) := by kernel_rfl
theorem bl76 : bldOf Go.Proofs.Tryz.prog 76 = some [(0, 1), (1, 1), (2, 1), (3, 1)] := by kernel_rfl
theorem ty81 : tyOf Go.Proofs.Tryz.prog 81 = some (true, 32) := by kernel_rfl
theorem z81 : zcOf Go.Proofs.Tryz.prog 81 = some [.r true (val (.int .u8 0)), .r true (val (.int .u8 0)), .r true (val (.int .u8 0)), .r true (val (.int .u8 0)), .r true (val (.int .u8 0)), .r true (val (.int .u8 0)), .r true (val (.int .u8 0)), .r true (val (.int .u8 0)), .r true (val (.int .u8 0)), .r true (val (.int .u8 0)), .r true (val (.int .u8 0)), .r true (val (.int .u8 0)), .r true (val (.int .u8 0)), .r true (val (.int .u8 0)), .r true (val (.int .u8 0)), .r true (val (.int .u8 0)), .r true (val (.int .u8 0)), .r true (val (.int .u8 0)), .r true (val (.int .u8 0)), .r true (val (.int .u8 0)), .r true (val (.int .u8 0)), .r true (val (.int .u8 0)), .r true (val (.int .u8 0)), .r true (val (.int .u8 0)), .r true (val (.int .u8 0)), .r true (val (.int .u8 0)), .r true (val (.int .u8 0)), .r true (val (.int .u8 0)), .r true (val (.int .u8 0)), .r true (val (.int .u8 0)), .r true (val (.int .u8 0)), .r true (val (.int .u8 0))] := by kernel_rfl
theorem zp81 : zpOf Go.Proofs.Tryz.prog 81 = some (.agg [val (.int .u8 0), val (.int .u8 0), val (.int .u8 0), val (.int .u8 0), val (.int .u8 0), val (.int .u8 0), val (.int .u8 0), val (.int .u8 0), val (.int .u8 0), val (.int .u8 0), val (.int .u8 0), val (.int .u8 0), val (.int .u8 0), val (.int .u8 0), val (.int .u8 0), val (.int .u8 0), val (.int .u8 0), val (.int .u8 0), val (.int .u8 0), val (.int .u8 0), val (.int .u8 0), val (.int .u8 0), val (.int .u8 0), val (.int .u8 0), val (.int .u8 0), val (.int .u8 0), val (.int .u8 0), val (.int .u8 0), val (.int .u8 0), val (.int .u8 0), val (.int .u8 0), val (.int .u8 0)]) := by kernel_rfl
theorem ty85 : tyOf Go.Proofs.Tryz.prog 85 = some (false, 1) := by kernel_rfl
theorem z85 : zcOf Go.Proofs.Tryz.prog 85 = some [.r true (val (.nilIface))] := by kernel_rfl
theorem zp85 : zpOf Go.Proofs.Tryz.prog 85 = some (.one (val (.nilIface))) := by kernel_rfl
theorem ty86 : tyOf Go.Proofs.Tryz.prog 86 = some (false, 1) := by kernel_rfl
theorem sl86 : slOf Go.Proofs.Tryz.prog 86 = some (23, 1) := by kernel_rfl
theorem z86 : zcOf Go.Proofs.Tryz.prog 86 = some [.r true (row true 0 [])] := by kernel_rfl
theorem el86 : elOf Go.Proofs.Tryz.prog 86 = some (23, 1, 24) := by kernel_rfl
theorem zp86 : zpOf Go.Proofs.Tryz.prog 86 = some (.one (row true 0 [])) := by kernel_rfl
theorem ty88 : tyOf Go.Proofs.Tryz.prog 88 = some (true, 4) := by kernel_rfl
theorem fl88_0 : fldOf Go.Proofs.Tryz.prog 88 0 = some (0, 85) := by kernel_rfl
theorem fl88_1 : fldOf Go.Proofs.Tryz.prog 88 1 = some (1, 86) := by kernel_rfl
theorem fl88_2 : fldOf Go.Proofs.Tryz.prog 88 2 = some (2, 41) := by kernel_rfl
theorem fl88_3 : fldOf Go.Proofs.Tryz.prog 88 3 = some (3, 3) := by kernel_rfl
theorem z88 : zcOf Go.Proofs.Tryz.prog 88 = some [.r true (val (.nilIface)), .r true (row true 0 []), .r true (row true 0 []), .r true (val (.int .i64 0))] := by kernel_rfl
theorem zp88 : zpOf Go.Proofs.Tryz.prog 88 = some (.agg [val (.nilIface), row true 0 [], row true 0 [], val (.int .i64 0)]) := by kernel_rfl
theorem bl88 : bldOf Go.Proofs.Tryz.prog 88 = some [(0, 1), (1, 1), (2, 1), (3, 1)] := by kernel_rfl
theorem ty91 : tyOf Go.Proofs.Tryz.prog 91 = some (true, 3) := by kernel_rfl
theorem fl91_0 : fldOf Go.Proofs.Tryz.prog 91 0 = some (0, 3) := by kernel_rfl
theorem fl91_1 : fldOf Go.Proofs.Tryz.prog 91 1 = some (1, 54) := by kernel_rfl
theorem fl91_2 : fldOf Go.Proofs.Tryz.prog 91 2 = some (2, 4) := by kernel_rfl
theorem z91 : zcOf Go.Proofs.Tryz.prog 91 = some [.r true (val (.int .i64 0)), .r true (row true 0 []), .r true (val (.bool false))] := by kernel_rfl
theorem zp91 : zpOf Go.Proofs.Tryz.prog 91 = some (.agg [val (.int .i64 0), row true 0 [], val (.bool false)]) := by kernel_rfl
theorem bl91 : bldOf Go.Proofs.Tryz.prog 91 = some [(0, 1), (1, 1), (2, 1)] := by kernel_rfl
theorem ty102 : tyOf Go.Proofs.Tryz.prog 102 = some (true, 6) := by kernel_rfl
theorem fl102_0 : fldOf Go.Proofs.Tryz.prog 102 0 = some (0, 3) := by kernel_rfl
theorem fl102_1 : fldOf Go.Proofs.Tryz.prog 102 1 = some (1, 23) := by kernel_rfl
theorem fl102_2 : fldOf Go.Proofs.Tryz.prog 102 2 = some (2, 44) := by kernel_rfl
theorem fl102_3 : fldOf Go.Proofs.Tryz.prog 102 3 = some (3, 3) := by kernel_rfl
theorem fl102_4 : fldOf Go.Proofs.Tryz.prog 102 4 = some (4, 3) := by kernel_rfl
theorem fl102_5 : fldOf Go.Proofs.Tryz.prog 102 5 = some (5, 27) := by kernel_rfl
theorem z102 : zcOf Go.Proofs.Tryz.prog 102 = some [.r true (val (.int .i64 0)), .r true (row true 0 []), .r true (val (.int .u32 0)), .r true (val (.int .i64 0)), .r true (val (.int .i64 0)), .r true (row true 0 [])] := by kernel_rfl
theorem zp102 : zpOf Go.Proofs.Tryz.prog 102 = some (.agg [val (.int .i64 0), row true 0 [], val (.int .u32 0), val (.int .i64 0), val (.int .i64 0), row true 0 []]) := by kernel_rfl
theorem bl102 : bldOf Go.Proofs.Tryz.prog 102 = some [(0, 1), (1, 1), (2, 1), (3, 1), (4, 1), (5, 1)] := by kernel_rfl
theorem ty103 : tyOf Go.Proofs.Tryz.prog 103 = some (false, 1) := by kernel_rfl
theorem z103 : zcOf Go.Proofs.Tryz.prog 103 = some [.r true (val (.map none))] := by kernel_rfl
theorem zp103 : zpOf Go.Proofs.Tryz.prog 103 = some (.one (val (.map none))) := by kernel_rfl
theorem ty105 : tyOf Go.Proofs.Tryz.prog 105 = some (true, 3) := by kernel_rfl
theorem fl105_0 : fldOf Go.Proofs.Tryz.prog 105 0 = some (0, 3) := by kernel_rfl
theorem fl105_1 : fldOf Go.Proofs.Tryz.prog 105 1 = some (1, 3) := by kernel_rfl
theorem fl105_2 : fldOf Go.Proofs.Tryz.prog 105 2 = some (2, 3) := by kernel_rfl
theorem z105 : zcOf Go.Proofs.Tryz.prog 105 = some [.r true (val (.int .i64 0)), .r true (val (.int .i64 0)), .r true (val (.int .i64 0))] := by kernel_rfl
theorem zp105 : zpOf Go.Proofs.Tryz.prog 105 = some (.agg [val (.int .i64 0), val (.int .i64 0), val (.int .i64 0)]) := by kernel_rfl
theorem bl105 : bldOf Go.Proofs.Tryz.prog 105 = some [(0, 1), (1, 1), (2, 1)] := by kernel_rfl
theorem ty108 : tyOf Go.Proofs.Tryz.prog 108 = some (false, 1) := by kernel_rfl
theorem z108 : zcOf Go.Proofs.Tryz.prog 108 = some [.r true (val (.nilFunc))] := by kernel_rfl
theorem zp108 : zpOf Go.Proofs.Tryz.prog 108 = some (.one (val (.nilFunc))) := by kernel_rfl
theorem ty112 : tyOf Go.Proofs.Tryz.prog 112 = some (true, 1) := by kernel_rfl
theorem fl112_0 : fldOf Go.Proofs.Tryz.prog 112 0 = some (0, 3) := by kernel_rfl
theorem z112 : zcOf Go.Proofs.Tryz.prog 112 = some [.r true (val (.int .i64 0))] := by kernel_rfl
theorem zp112 : zpOf Go.Proofs.Tryz.prog 112 = some (.agg [val (.int .i64 0)]) := by kernel_rfl
theorem bl112 : bldOf Go.Proofs.Tryz.prog 112 = some [(0, 1)] := by kernel_rfl
theorem ty113 : tyOf Go.Proofs.Tryz.prog 113 = some (true, 1) := by kernel_rfl
theorem fl113_0 : fldOf Go.Proofs.Tryz.prog 113 0 = some (0, 3) := by kernel_rfl
theorem z113 : zcOf Go.Proofs.Tryz.prog 113 = some [.r true (val (.int .i64 0))] := by kernel_rfl
theorem zp113 : zpOf Go.Proofs.Tryz.prog 113 = some (.agg [val (.int .i64 0)]) := by kernel_rfl
theorem bl113 : bldOf Go.Proofs.Tryz.prog 113 = some [(0, 1)] := by kernel_rfl
theorem ty115 : tyOf Go.Proofs.Tryz.prog 115 = some (true, 0) := by kernel_rfl
theorem z115 : zcOf Go.Proofs.Tryz.prog 115 = some [] := by kernel_rfl
theorem zp115 : zpOf Go.Proofs.Tryz.prog 115 = some (.agg []) := by kernel_rfl
theorem bl115 : bldOf Go.Proofs.Tryz.prog 115 = some [] := by kernel_rfl
theorem ty117 : tyOf Go.Proofs.Tryz.prog 117 = some (true, 1) := by kernel_rfl
theorem fl117_0 : fldOf Go.Proofs.Tryz.prog 117 0 = some (0, 3) := by kernel_rfl
theorem z117 : zcOf Go.Proofs.Tryz.prog 117 = some [.r true (val (.int .i64 0))] := by kernel_rfl
theorem zp117 : zpOf Go.Proofs.Tryz.prog 117 = some (.agg [val (.int .i64 0)]) := by kernel_rfl
theorem bl117 : bldOf Go.Proofs.Tryz.prog 117 = some [(0, 1)] := by kernel_rfl
theorem ty118 : tyOf Go.Proofs.Tryz.prog 118 = some (true, 0) := by kernel_rfl
theorem z118 : zcOf Go.Proofs.Tryz.prog 118 = some [] := by kernel_rfl
theorem zp118 : zpOf Go.Proofs.Tryz.prog 118 = some (.agg []) := by kernel_rfl
theorem bl118 : bldOf Go.Proofs.Tryz.prog 118 = some [] := by kernel_rfl
theorem ty119 : tyOf Go.Proofs.Tryz.prog 119 = some (true, 1) := by kernel_rfl
theorem fl119_0 : fldOf Go.Proofs.Tryz.prog 119 0 = some (0, 3) := by kernel_rfl
theorem z119 : zcOf Go.Proofs.Tryz.prog 119 = some [.r true (val (.int .i64 0))] := by kernel_rfl
theorem zp119 : zpOf Go.Proofs.Tryz.prog 119 = some (.agg [val (.int .i64 0)]) := by kernel_rfl
theorem bl119 : bldOf Go.Proofs.Tryz.prog 119 = some [(0, 1)] := by kernel_rfl
theorem ty124 : tyOf Go.Proofs.Tryz.prog 124 = some (false, 1) := by kernel_rfl
theorem z124 : zcOf Go.Proofs.Tryz.prog 124 = some [.r true (val (.int .i64 0))] := by kernel_rfl
theorem zp124 : zpOf Go.Proofs.Tryz.prog 124 = some (.one (val (.int .i64 0))) := by kernel_rfl
theorem ty133 : tyOf Go.Proofs.Tryz.prog 133 = some (false, 1) := by kernel_rfl
theorem z133 : zcOf Go.Proofs.Tryz.prog 133 = some [.r true (val (.int .u64 0))] := by kernel_rfl
theorem zp133 : zpOf Go.Proofs.Tryz.prog 133 = some (.one (val (.int .u64 0))) := by kernel_rfl
theorem ty139 : tyOf Go.Proofs.Tryz.prog 139 = some (false, 1) := by kernel_rfl
theorem z139 : zcOf Go.Proofs.Tryz.prog 139 = some [.r true (val (.int .u64 0))] := by kernel_rfl
theorem zp139 : zpOf Go.Proofs.Tryz.prog 139 = some (.one (val (.int .u64 0))) := by kernel_rfl
theorem ty143 : tyOf Go.Proofs.Tryz.prog 143 = some (false, 1) := by kernel_rfl
theorem z143 : zcOf Go.Proofs.Tryz.prog 143 = some [.r true (val (.pointer none))] := by kernel_rfl
theorem zp143 : zpOf Go.Proofs.Tryz.prog 143 = some (.one (val (.pointer none))) := by kernel_rfl
theorem ty147 : tyOf Go.Proofs.Tryz.prog 147 = some (false, 1) := by kernel_rfl
theorem z147 : zcOf Go.Proofs.Tryz.prog 147 = some [.r true (val (.pointer none))] := by kernel_rfl
theorem zp147 : zpOf Go.Proofs.Tryz.prog 147 = some (.one (val (.pointer none))) := by kernel_rfl
theorem ty167 : tyOf Go.Proofs.Tryz.prog 167 = some (false, 1) := by kernel_rfl
theorem z167 : zcOf Go.Proofs.Tryz.prog 167 = some [.r true (val (.nilFunc))] := by kernel_rfl
theorem zp167 : zpOf Go.Proofs.Tryz.prog 167 = some (.one (val (.nilFunc))) := by kernel_rfl
theorem ty169 : tyOf Go.Proofs.Tryz.prog 169 = some (false, 1) := by kernel_rfl
theorem z169 : zcOf Go.Proofs.Tryz.prog 169 = some [.r true (val (.map none))] := by kernel_rfl
theorem zp169 : zpOf Go.Proofs.Tryz.prog 169 = some (.one (val (.map none))) := by kernel_rfl
theorem ty172 : tyOf Go.Proofs.Tryz.prog 172 = some (false, 1) := by kernel_rfl
theorem z172 : zcOf Go.Proofs.Tryz.prog 172 = some [.r true (val (.nilFunc))] := by kernel_rfl
theorem zp172 : zpOf Go.Proofs.Tryz.prog 172 = some (.one (val (.nilFunc))) := by kernel_rfl
def tb : TB := ⟨[(3, false, 1), (4, false, 1), (5, false, 1), (9, false, 1), (17, false, 1), (19, true, 1), (22, false, 1), (23, false, 1), (25, true, 2), (27, false, 1), (34, true, 3), (39, false, 1), (41, false, 1), (43, false, 1), (44, false, 1), (50, true, 3), (54, false, 1), (55, false, 1), (56, false, 1), (62, true, 2), (67, false, 1), (73, false, 1), (74, false, 1), (76, true, 4), (81, true, 32), (85, false, 1), (86, false, 1), (88, true, 4), (91, true, 3), (102, true, 6), (103, false, 1), (105, true, 3), (108, false, 1), (112, true, 1), (113, true, 1), (115, true, 0), (117, true, 1), (118, true, 0), (119, true, 1), (124, false, 1), (133, false, 1), (139, false, 1), (143, false, 1), (147, false, 1), (167, false, 1), (169, false, 1), (172, false, 1)], [(19, 0, 0, 17), (25, 0, 0, 3), (25, 1, 1, 23), (34, 0, 0, 3), (34, 1, 1, 3), (34, 2, 2, 3), (50, 0, 0, 3), (50, 1, 1, 3), (50, 2, 2, 3), (62, 0, 0, 22), (62, 1, 1, 3), (76, 0, 0, 3), (76, 1, 1, 27), (76, 2, 2, 74), (76, 3, 3, 54), (88, 0, 0, 85), (88, 1, 1, 86), (88, 2, 2, 41), (88, 3, 3, 3), (91, 0, 0, 3), (91, 1, 1, 54), (91, 2, 2, 4), (102, 0, 0, 3), (102, 1, 1, 23), (102, 2, 2, 44), (102, 3, 3, 3), (102, 4, 4, 3), (102, 5, 5, 27), (105, 0, 0, 3), (105, 1, 1, 3), (105, 2, 2, 3), (112, 0, 0, 3), (113, 0, 0, 3), (117, 0, 0, 3), (119, 0, 0, 3)], [(22, 5, 1), (23, 50, 3), (27, 3, 1), (41, 44, 1), (54, 105, 3), (67, 54, 1), (74, 4, 1), (86, 23, 1)], [(3, [.r true (val (.int .i64 0))]), (4, [.r true (val (.bool false))]), (5, [.r true (val (.int .u8 0))]), (9, [.r true (val (.string ⟨#[]⟩))]), (17, [.r true (val (.pointer none))]), (19, [.r true (val (.pointer none))]), (22, [.r true (row true 0 [])]), (23, [.r true (row true 0 [])]), (25, [.r true (val (.int .i64 0)), .r true (row true 0 [])]), (27, [.r true (row true 0 [])]), (34, [.r true (val (.int .i64 0)), .r true (val (.int .i64 0)), .r true (val (.int .i64 0))]), (39, [.r true (val (.pointer none))]), (41, [.r true (row true 0 [])]), (43, [.r true (val (.int .u32 0))]), (44, [.r true (val (.int .u32 0))]), (50, [.r true (val (.int .i64 0)), .r true (val (.int .i64 0)), .r true (val (.int .i64 0))]), (54, [.r true (row true 0 [])]), (55, [.r true (val (.nilFunc))]), (56, [.r true (val (.nilFunc))]), (62, [.r true (row true 0 []), .r true (val (.int .i64 0))]), (67, [.r true (row true 0 [])]), (73, [.r true (val (.int .u64 0))]), (74, [.r true (row true 0 [])]), (76, [.r true (val (.int .i64 0)), .r true (row true 0 []), .r true (row true 0 []), .r true (row true 0 [])]), (81, [.r true (val (.int .u8 0)), .r true (val (.int .u8 0)), .r true (val (.int .u8 0)), .r true (val (.int .u8 0)), .r true (val (.int .u8 0)), .r true (val (.int .u8 0)), .r true (val (.int .u8 0)), .r true (val (.int .u8 0)), .r true (val (.int .u8 0)), .r true (val (.int .u8 0)), .r true (val (.int .u8 0)), .r true (val (.int .u8 0)), .r true (val (.int .u8 0)), .r true (val (.int .u8 0)), .r true (val (.int .u8 0)), .r true (val (.int .u8 0)), .r true (val (.int .u8 0)), .r true (val (.int .u8 0)), .r true (val (.int .u8 0)), .r true (val (.int .u8 0)), .r true (val (.int .u8 0)), .r true (val (.int .u8 0)), .r true (val (.int .u8 0)), .r true (val (.int .u8 0)), .r true (val (.int .u8 0)), .r true (val (.int .u8 0)), .r true (val (.int .u8 0)), .r true (val (.int .u8 0)), .r true (val (.int .u8 0)), .r true (val (.int .u8 0)), .r true (val (.int .u8 0)), .r true (val (.int .u8 0))]), (85, [.r true (val (.nilIface))]), (86, [.r true (row true 0 [])]), (88, [.r true (val (.nilIface)), .r true (row true 0 []), .r true (row true 0 []), .r true (val (.int .i64 0))]), (91, [.r true (val (.int .i64 0)), .r true (row true 0 []), .r true (val (.bool false))]), (102, [.r true (val (.int .i64 0)), .r true (row true 0 []), .r true (val (.int .u32 0)), .r true (val (.int .i64 0)), .r true (val (.int .i64 0)), .r true (row true 0 [])]), (103, [.r true (val (.map none))]), (105, [.r true (val (.int .i64 0)), .r true (val (.int .i64 0)), .r true (val (.int .i64 0))]), (108, [.r true (val (.nilFunc))]), (112, [.r true (val (.int .i64 0))]), (113, [.r true (val (.int .i64 0))]), (115, []), (117, [.r true (val (.int .i64 0))]), (118, []), (119, [.r true (val (.int .i64 0))]), (124, [.r true (val (.int .i64 0))]), (133, [.r true (val (.int .u64 0))]), (139, [.r true (val (.int .u64 0))]), (143, [.r true (val (.pointer none))]), (147, [.r true (val (.pointer none))]), (167, [.r true (val (.nilFunc))]), (169, [.r true (val (.map none))]), (172, [.r true (val (.nilFunc))])], [4], [(19, [(0, 1)]), (25, [(0, 1), (1, 1)]), (34, [(0, 1), (1, 1), (2, 1)]), (50, [(0, 1), (1, 1), (2, 1)]), (62, [(0, 1), (1, 1)]), (76, [(0, 1), (1, 1), (2, 1), (3, 1)]), (88, [(0, 1), (1, 1), (2, 1), (3, 1)]), (91, [(0, 1), (1, 1), (2, 1)]), (102, [(0, 1), (1, 1), (2, 1), (3, 1), (4, 1), (5, 1)]), (105, [(0, 1), (1, 1), (2, 1)]), (112, [(0, 1)]), (113, [(0, 1)]), (115, []), (117, [(0, 1)]), (118, []), (119, [(0, 1)])]⟩
theorem tbOk : TbOk Go.Proofs.Tryz.prog tb := ⟨⟨ty3, ty4, ty5, ty9, ty17, ty19, ty22, ty23, ty25, ty27, ty34, ty39, ty41, ty43, ty44, ty50, ty54, ty55, ty56, ty62, ty67, ty73, ty74, ty76, ty81, ty85, ty86, ty88, ty91, ty102, ty103, ty105, ty108, ty112, ty113, ty115, ty117, ty118, ty119, ty124, ty133, ty139, ty143, ty147, ty167, ty169, ty172, trivial⟩, ⟨fl19_0, fl25_0, fl25_1, fl34_0, fl34_1, fl34_2, fl50_0, fl50_1, fl50_2, fl62_0, fl62_1, fl76_0, fl76_1, fl76_2, fl76_3, fl88_0, fl88_1, fl88_2, fl88_3, fl91_0, fl91_1, fl91_2, fl102_0, fl102_1, fl102_2, fl102_3, fl102_4, fl102_5, fl105_0, fl105_1, fl105_2, fl112_0, fl113_0, fl117_0, fl119_0, trivial⟩, ⟨sl22, sl23, sl27, sl41, sl54, sl67, sl74, sl86, trivial⟩, ⟨z3, z4, z5, z9, z17, z19, z22, z23, z25, z27, z34, z39, z41, z43, z44, z50, z54, z55, z56, z62, z67, z73, z74, z76, z81, z85, z86, z88, z91, z102, z103, z105, z108, z112, z113, z115, z117, z118, z119, z124, z133, z139, z143, z147, z167, z169, z172, trivial⟩, ⟨bo4, trivial⟩, ⟨bl19, bl25, bl34, bl50, bl62, bl76, bl88, bl91, bl102, bl105, bl112, bl113, bl115, bl117, bl118, bl119, trivial⟩⟩
def tl : TL := ⟨[(22, 5, 1, 1), (23, 50, 3, 24), (27, 3, 1, 8), (41, 44, 1, 4), (54, 105, 3, 24), (67, 54, 1, 24), (74, 4, 1, 1), (86, 23, 1, 24)], [(3, (.one (val (.int .i64 0)))), (4, (.one (val (.bool false)))), (5, (.one (val (.int .u8 0)))), (9, (.one (val (.string ⟨#[]⟩)))), (17, (.one (val (.pointer none)))), (19, (.agg [val (.pointer none)])), (22, (.one (row true 0 []))), (23, (.one (row true 0 []))), (25, (.agg [val (.int .i64 0), row true 0 []])), (27, (.one (row true 0 []))), (34, (.agg [val (.int .i64 0), val (.int .i64 0), val (.int .i64 0)])), (39, (.one (val (.pointer none)))), (41, (.one (row true 0 []))), (43, (.one (val (.int .u32 0)))), (44, (.one (val (.int .u32 0)))), (50, (.agg [val (.int .i64 0), val (.int .i64 0), val (.int .i64 0)])), (54, (.one (row true 0 []))), (55, (.one (val (.nilFunc)))), (56, (.one (val (.nilFunc)))), (62, (.agg [row true 0 [], val (.int .i64 0)])), (67, (.one (row true 0 []))), (73, (.one (val (.int .u64 0)))), (74, (.one (row true 0 []))), (76, (.agg [val (.int .i64 0), row true 0 [], row true 0 [], row true 0 []])), (81, (.agg [val (.int .u8 0), val (.int .u8 0), val (.int .u8 0), val (.int .u8 0), val (.int .u8 0), val (.int .u8 0), val (.int .u8 0), val (.int .u8 0), val (.int .u8 0), val (.int .u8 0), val (.int .u8 0), val (.int .u8 0), val (.int .u8 0), val (.int .u8 0), val (.int .u8 0), val (.int .u8 0), val (.int .u8 0), val (.int .u8 0), val (.int .u8 0), val (.int .u8 0), val (.int .u8 0), val (.int .u8 0), val (.int .u8 0), val (.int .u8 0), val (.int .u8 0), val (.int .u8 0), val (.int .u8 0), val (.int .u8 0), val (.int .u8 0), val (.int .u8 0), val (.int .u8 0), val (.int .u8 0)])), (85, (.one (val (.nilIface)))), (86, (.one (row true 0 []))), (88, (.agg [val (.nilIface), row true 0 [], row true 0 [], val (.int .i64 0)])), (91, (.agg [val (.int .i64 0), row true 0 [], val (.bool false)])), (102, (.agg [val (.int .i64 0), row true 0 [], val (.int .u32 0), val (.int .i64 0), val (.int .i64 0), row true 0 []])), (103, (.one (val (.map none)))), (105, (.agg [val (.int .i64 0), val (.int .i64 0), val (.int .i64 0)])), (108, (.one (val (.nilFunc)))), (112, (.agg [val (.int .i64 0)])), (113, (.agg [val (.int .i64 0)])), (115, (.agg [])), (117, (.agg [val (.int .i64 0)])), (118, (.agg [])), (119, (.agg [val (.int .i64 0)])), (124, (.one (val (.int .i64 0)))), (133, (.one (val (.int .u64 0)))), (139, (.one (val (.int .u64 0)))), (143, (.one (val (.pointer none)))), (147, (.one (val (.pointer none)))), (167, (.one (val (.nilFunc)))), (169, (.one (val (.map none)))), (172, (.one (val (.nilFunc))))]⟩
theorem tlOk : TLOk Go.Proofs.Tryz.prog tl := ⟨⟨el22, el23, el27, el41, el54, el67, el74, el86, trivial⟩, ⟨zp3, zp4, zp5, zp9, zp17, zp19, zp22, zp23, zp25, zp27, zp34, zp39, zp41, zp43, zp44, zp50, zp54, zp55, zp56, zp62, zp67, zp73, zp74, zp76, zp81, zp85, zp86, zp88, zp91, zp102, zp103, zp105, zp108, zp112, zp113, zp115, zp117, zp118, zp119, zp124, zp133, zp139, zp143, zp147, zp167, zp169, zp172, trivial⟩⟩
theorem wk {P Q : Prop} (q : Q) (h : Q → P := by intro q;first|(with_reducible first|exact aw_seq q|exact thn_normal q|exact thn_ret q|exact thn_exit q|exact blk_normal q|exact blk_ret q|exact blk_hit q|exact blk_miss rfl q|exact aw_block q|exact aw_ret q|exact aw_skip q|exact aw_exit q|exact w_nil q|exact x_nil (by kernel_rfl) q)|exact aw_region q|exact aw_region_draw (by kernel_rfl) q|exact aw_yes rfl q|exact aw_no rfl q|((with_reducible refine w_seq ?_);first|exact r_q tbOk rfl rfl rfl rfl q|exact r_e tbOk rfl rfl rfl rfl rfl q|exact r_yes tbOk rfl rfl rfl rfl rfl rfl q|exact w_no rfl rfl (lookO_spec rfl) rfl rfl rfl q|exact w_un rfl rfl (lookO_spec rfl) rfl rfl q)|((with_reducible refine w_drw ?_);first|exact rx_q tbOk rfl rfl rfl rfl q|exact rx_e tbOk rfl rfl rfl rfl rfl q|exact rx_yes tbOk rfl rfl rfl rfl rfl rfl q|exact x_no rfl rfl (lookO_spec rfl) rfl rfl rfl q|exact x_un rfl rfl (lookO_spec rfl) rfl rfl q)) : P := h q
theorem wkN {P Q : Prop} (q : Q) (h : Q → P := by intro q;first|(with_reducible first|exact thn_normal q|exact thn_ret q|exact thn_exit q|exact blk_normal q|exact blk_ret q|exact blk_hit q|exact blk_miss rfl q|exact aw_block q|exact aw_ret q|exact aw_skip q|exact aw_exit q|exact w_nil q|exact x_nil (by kernel_rfl) q)|exact aw_region q|exact aw_region_draw (by kernel_rfl) q|exact aw_yes rfl q|exact aw_no rfl q|((with_reducible refine w_seq ?_);first|exact r_q tbOk rfl rfl rfl rfl q|exact r_e tbOk rfl rfl rfl rfl rfl q|exact r_yes tbOk rfl rfl rfl rfl rfl rfl q|exact w_no rfl rfl (lookO_spec rfl) rfl rfl rfl q|exact w_un rfl rfl (lookO_spec rfl) rfl rfl q)|((with_reducible refine w_drw ?_);first|exact rx_q tbOk rfl rfl rfl rfl q|exact rx_e tbOk rfl rfl rfl rfl rfl q|exact rx_yes tbOk rfl rfl rfl rfl rfl rfl q|exact x_no rfl rfl (lookO_spec rfl) rfl rfl rfl q|exact x_un rfl rfl (lookO_spec rfl) rfl rfl q)) : P := h q
theorem wkB {P Q R : Prop} (q : Q) (r : R) (h : Q → R → P := by intro q r;(first|refine aw_ways rfl ?_ ?_|refine r_split rfl rfl rfl ?_ ?_);(focus (intro g;(fail_if_success (exact Bool.noConfusion g));first|(have t : True → True := q;simp only [prn] at g;done)|(simp only [prn] at g;revert g;exact q)|(revert g;exact q)));(focus (intro g;(fail_if_success (exact Bool.noConfusion g));first|(have t : True → True := r;simp only [prn] at g;done)|(simp only [prn] at g;revert g;exact r)|(revert g;exact r)))) : P := h q r
theorem wkX {P : Prop} (h : P := by first|contradiction|trivial|(exfalso;omega)) : P := h
theorem sbH {P : Prop} (h : P := by repeat' (first|exact trivial|refine subHR_cons rfl ?_ ?_|rfl)) : P := h
theorem wkS {P Q R : Prop} (q : Q) (r : R) (h : Q → R → P := by intro q r;first|exact subR_cons rfl q r|exact subHR_cons rfl q r) : P := h q r
theorem wkD {P Q : Prop} (q : Q) (h : Q → P := by intro q;(dsimp only [P0.d, Res.d, List.map_cons, List.map_nil, List.set_cons_zero, List.set_cons_succ, Nat.reduceAdd]);exact q) : P := h q
theorem kRf {P : Prop} (h : P := by kernel_rfl) : P := h
theorem oM {P : Prop} (h : P := by omega) : P := h
theorem asE {P : Prop} (h : P := by rw [evO_spec rfl];exact asD_r rfl) : P := h
theorem wkE {P : Prop} (h : P := by first|exact trivial|rfl|(refine d_int ?_;(first|rfl|omega|(rw [IntWalk.i64_in _ (by omega)] <;> omega)|(simp;done)|(simp;omega)))|(refine d_bool ?_;(first|(simp_all;done)|(rw [Bool.eq_iff_iff];simp_all;done)|(rw [Bool.eq_iff_iff];simp_all;omega)|(rw [Bool.eq_iff_iff];simp;omega)))) : P := h
theorem wkW {P : Prop} (h : P := by repeat' (first|exact trivial|refine subR_cons rfl ?_ ?_|refine subHR_cons rfl ?_ ?_|exact wkE|fail)) : P := h
theorem tyF0 {P : Prop} (h : P := by (with_reducible first|exact ty3|exact ty4|exact ty5|exact ty9|exact ty17|exact ty19|exact ty22|exact ty23|exact ty25|exact ty27|exact ty34|exact ty39|exact ty41|exact ty43|exact ty44|exact ty50|exact ty54|exact ty55|exact ty56|exact ty62|exact ty67|exact ty73|exact ty74|exact ty76|exact ty81|exact ty85|exact ty86|exact ty88|exact ty91|exact ty102|exact ty103|exact ty105|exact ty108|exact ty112|exact ty113|exact ty115|exact ty117|exact ty118|exact ty119|exact ty124|exact ty133|exact ty139|exact ty143|exact ty147|exact ty167|exact ty169|exact ty172)) : P := h
end Go.Proofs.YtlobefglhppbdaaGreatDoor.Abs
