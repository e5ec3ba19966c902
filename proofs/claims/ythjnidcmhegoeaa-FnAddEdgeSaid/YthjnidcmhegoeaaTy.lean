/- The types of the program as facts: cells, fields, elements, zero values. No statement of the seat is proved here. -/
import Derived.Test.YthjnidcmhegoeaaProg
import Derived.Test.YthjnidcmhegoeaaAbsN
namespace Go.Proofs.Ythjnidcmhegoeaa.Abs
open R (val row ref)
theorem ty3 : tyOf Go.Proofs.Try.prog 3 = some (false, 1) := by kernel_rfl
theorem z3 : zcOf Go.Proofs.Try.prog 3 = some [.r true (val (.int .i64 0))] := by kernel_rfl
theorem zp3 : zpOf Go.Proofs.Try.prog 3 = some (.one (val (.int .i64 0))) := by kernel_rfl
theorem ty4 : tyOf Go.Proofs.Try.prog 4 = some (false, 1) := by kernel_rfl
theorem bo4 : Go.Proofs.Try.prog.underlying 4 = some .bool := by kernel_rfl
theorem ty5 : tyOf Go.Proofs.Try.prog 5 = some (false, 1) := by kernel_rfl
theorem z5 : zcOf Go.Proofs.Try.prog 5 = some [.r true (val (.int .u8 0))] := by kernel_rfl
theorem zp5 : zpOf Go.Proofs.Try.prog 5 = some (.one (val (.int .u8 0))) := by kernel_rfl
theorem ty9 : tyOf Go.Proofs.Try.prog 9 = some (false, 1) := by kernel_rfl
theorem z9 : zcOf Go.Proofs.Try.prog 9 = some [.r true (val (.string ⟨#[]⟩))] := by kernel_rfl
theorem zp9 : zpOf Go.Proofs.Try.prog 9 = some (.one (val (.string ⟨#[]⟩))) := by kernel_rfl
theorem ty17 : tyOf Go.Proofs.Try.prog 17 = some (false, 1) := by kernel_rfl
theorem z17 : zcOf Go.Proofs.Try.prog 17 = some [.r true (val (.pointer none))] := by kernel_rfl
theorem zp17 : zpOf Go.Proofs.Try.prog 17 = some (.one (val (.pointer none))) := by kernel_rfl
theorem ty19 : tyOf Go.Proofs.Try.prog 19 = some (true, 1) := by kernel_rfl
theorem fl19_0 : fldOf Go.Proofs.Try.prog 19 0 = some (0, 17) := by kernel_rfl
theorem z19 : zcOf Go.Proofs.Try.prog 19 = some [.r true (val (.pointer none))] := by kernel_rfl
theorem zp19 : zpOf Go.Proofs.Try.prog 19 = some (.agg [val (.pointer none)]) := by kernel_rfl
theorem bl19 : bldOf Go.Proofs.Try.prog 19 = some [(0, 1)] := by kernel_rfl
theorem ty22 : tyOf Go.Proofs.Try.prog 22 = some (false, 1) := by kernel_rfl
theorem sl22 : slOf Go.Proofs.Try.prog 22 = some (26, 3) := by kernel_rfl
theorem z22 : zcOf Go.Proofs.Try.prog 22 = some [.r true (row true 0 [])] := by kernel_rfl
theorem el22 : elOf Go.Proofs.Try.prog 22 = some (26, 3, 24) := by kernel_rfl
theorem zp22 : zpOf Go.Proofs.Try.prog 22 = some (.one (row true 0 [])) := by kernel_rfl
theorem ty24 : tyOf Go.Proofs.Try.prog 24 = some (true, 2) := by kernel_rfl
theorem fl24_0 : fldOf Go.Proofs.Try.prog 24 0 = some (0, 3) := by kernel_rfl
theorem fl24_1 : fldOf Go.Proofs.Try.prog 24 1 = some (1, 22) := by kernel_rfl
theorem z24 : zcOf Go.Proofs.Try.prog 24 = some [.r true (val (.int .i64 0)), .r true (row true 0 [])] := by kernel_rfl
theorem zp24 : zpOf Go.Proofs.Try.prog 24 = some (.agg [val (.int .i64 0), row true 0 []]) := by kernel_rfl
theorem bl24 : bldOf Go.Proofs.Try.prog 24 = some [(0, 1), (1, 1)] := by kernel_rfl
theorem ty26 : tyOf Go.Proofs.Try.prog 26 = some (true, 3) := by kernel_rfl
theorem fl26_0 : fldOf Go.Proofs.Try.prog 26 0 = some (0, 3) := by kernel_rfl
theorem fl26_1 : fldOf Go.Proofs.Try.prog 26 1 = some (1, 3) := by kernel_rfl
theorem fl26_2 : fldOf Go.Proofs.Try.prog 26 2 = some (2, 3) := by kernel_rfl
theorem z26 : zcOf Go.Proofs.Try.prog 26 = some [.r true (val (.int .i64 0)), .r true (val (.int .i64 0)), .r true (val (.int .i64 0))] := by kernel_rfl
theorem zp26 : zpOf Go.Proofs.Try.prog 26 = some (.agg [val (.int .i64 0), val (.int .i64 0), val (.int .i64 0)]) := by kernel_rfl
theorem bl26 : bldOf Go.Proofs.Try.prog 26 = some [(0, 1), (1, 1), (2, 1)] := by kernel_rfl
theorem ty28 : tyOf Go.Proofs.Try.prog 28 = some (false, 1) := by kernel_rfl
theorem sl28 : slOf Go.Proofs.Try.prog 28 = some (34, 3) := by kernel_rfl
theorem z28 : zcOf Go.Proofs.Try.prog 28 = some [.r true (row true 0 [])] := by kernel_rfl
theorem el28 : elOf Go.Proofs.Try.prog 28 = some (34, 3, 24) := by kernel_rfl
theorem zp28 : zpOf Go.Proofs.Try.prog 28 = some (.one (row true 0 [])) := by kernel_rfl
theorem ty30 : tyOf Go.Proofs.Try.prog 30 = some (true, 2) := by kernel_rfl
theorem fl30_0 : fldOf Go.Proofs.Try.prog 30 0 = some (0, 3) := by kernel_rfl
theorem fl30_1 : fldOf Go.Proofs.Try.prog 30 1 = some (1, 28) := by kernel_rfl
theorem z30 : zcOf Go.Proofs.Try.prog 30 = some [.r true (val (.int .i64 0)), .r true (row true 0 [])] := by kernel_rfl
theorem zp30 : zpOf Go.Proofs.Try.prog 30 = some (.agg [val (.int .i64 0), row true 0 []]) := by kernel_rfl
theorem bl30 : bldOf Go.Proofs.Try.prog 30 = some [(0, 1), (1, 1)] := by kernel_rfl
theorem ty34 : tyOf Go.Proofs.Try.prog 34 = some (true, 3) := by kernel_rfl
theorem fl34_0 : fldOf Go.Proofs.Try.prog 34 0 = some (0, 3) := by kernel_rfl
theorem fl34_1 : fldOf Go.Proofs.Try.prog 34 1 = some (1, 3) := by kernel_rfl
theorem fl34_2 : fldOf Go.Proofs.Try.prog 34 2 = some (2, 3) := by kernel_rfl
theorem z34 : zcOf Go.Proofs.Try.prog 34 = some [.r true (val (.int .i64 0)), .r true (val (.int .i64 0)), .r true (val (.int .i64 0))] := by kernel_rfl
theorem zp34 : zpOf Go.Proofs.Try.prog 34 = some (.agg [val (.int .i64 0), val (.int .i64 0), val (.int .i64 0)]) := by kernel_rfl
theorem bl34 : bldOf Go.Proofs.Try.prog 34 = some [(0, 1), (1, 1), (2, 1)] := by kernel_rfl
theorem ty39 : tyOf Go.Proofs.Try.prog 39 = some (false, 1) := by kernel_rfl
theorem sl39 : slOf Go.Proofs.Try.prog 39 = some (5, 1) := by kernel_rfl
theorem z39 : zcOf Go.Proofs.Try.prog 39 = some [.r true (row true 0 [])] := by kernel_rfl
theorem el39 : elOf Go.Proofs.Try.prog 39 = some (5, 1, 1) := by kernel_rfl
theorem zp39 : zpOf Go.Proofs.Try.prog 39 = some (.one (row true 0 [])) := by kernel_rfl
theorem ty47 : tyOf Go.Proofs.Try.prog 47 = some (true, 3) := by kernel_rfl
theorem fl47_0 : fldOf Go.Proofs.Try.prog 47 0 = some (0, 3) := by kernel_rfl
theorem fl47_1 : fldOf Go.Proofs.Try.prog 47 1 = some (1, 3) := by kernel_rfl
theorem fl47_2 : fldOf Go.Proofs.Try.prog 47 2 = some (2, 3) := by kernel_rfl
theorem z47 : zcOf Go.Proofs.Try.prog 47 = some [.r true (val (.int .i64 0)), .r true (val (.int .i64 0)), .r true (val (.int .i64 0))] := by kernel_rfl
theorem zp47 : zpOf Go.Proofs.Try.prog 47 = some (.agg [val (.int .i64 0), val (.int .i64 0), val (.int .i64 0)]) := by kernel_rfl
theorem bl47 : bldOf Go.Proofs.Try.prog 47 = some [(0, 1), (1, 1), (2, 1)] := by kernel_rfl
theorem ty49 : tyOf Go.Proofs.Try.prog 49 = some (true, 4) := by kernel_rfl
theorem fl49_0 : fldOf Go.Proofs.Try.prog 49 0 = some (0, 47) := by kernel_rfl
theorem fl49_1 : fldOf Go.Proofs.Try.prog 49 1 = some (3, 3) := by kernel_rfl
theorem z49 : zcOf Go.Proofs.Try.prog 49 = some [.r true (val (.int .i64 0)), .r true (val (.int .i64 0)), .r true (val (.int .i64 0)), .r true (val (.int .i64 0))] := by kernel_rfl
theorem zp49 : zpOf Go.Proofs.Try.prog 49 = some (.agg [val (.int .i64 0), val (.int .i64 0), val (.int .i64 0), val (.int .i64 0)]) := by kernel_rfl
theorem bl49 : bldOf Go.Proofs.Try.prog 49 = some [(0, 3), (3, 1)] := by kernel_rfl
theorem ty54 : tyOf Go.Proofs.Try.prog 54 = some (false, 1) := by kernel_rfl
theorem sl54 : slOf Go.Proofs.Try.prog 54 = some (56, 1) := by kernel_rfl
theorem z54 : zcOf Go.Proofs.Try.prog 54 = some [.r true (row true 0 [])] := by kernel_rfl
theorem el54 : elOf Go.Proofs.Try.prog 54 = some (56, 1, 24) := by kernel_rfl
theorem zp54 : zpOf Go.Proofs.Try.prog 54 = some (.one (row true 0 [])) := by kernel_rfl
theorem ty56 : tyOf Go.Proofs.Try.prog 56 = some (false, 1) := by kernel_rfl
theorem sl56 : slOf Go.Proofs.Try.prog 56 = some (3, 1) := by kernel_rfl
theorem z56 : zcOf Go.Proofs.Try.prog 56 = some [.r true (row true 0 [])] := by kernel_rfl
theorem el56 : elOf Go.Proofs.Try.prog 56 = some (3, 1, 8) := by kernel_rfl
theorem zp56 : zpOf Go.Proofs.Try.prog 56 = some (.one (row true 0 [])) := by kernel_rfl
theorem ty57 : tyOf Go.Proofs.Try.prog 57 = some (false, 1) := by kernel_rfl
theorem sl57 : slOf Go.Proofs.Try.prog 57 = some (4, 1) := by kernel_rfl
theorem z57 : zcOf Go.Proofs.Try.prog 57 = some [.r true (row true 0 [])] := by kernel_rfl
theorem el57 : elOf Go.Proofs.Try.prog 57 = some (4, 1, 1) := by kernel_rfl
theorem zp57 : zpOf Go.Proofs.Try.prog 57 = some (.one (row true 0 [])) := by kernel_rfl
theorem ty58 : tyOf Go.Proofs.Try.prog 58 = some (false, 1) := by kernel_rfl
theorem sl58 : slOf Go.Proofs.Try.prog 58 = some (133, 3) := by kernel_rfl
theorem z58 : zcOf Go.Proofs.Try.prog 58 = some [.r true (row true 0 [])] := by kernel_rfl
theorem el58 : elOf Go.Proofs.Try.prog 58 = some (133, 3, 24) := by kernel_rfl
theorem zp58 : zpOf Go.Proofs.Try.prog 58 = some (.one (row true 0 [])) := by kernel_rfl
theorem ty60 : tyOf Go.Proofs.Try.prog 60 = some (true, 4) := by kernel_rfl
theorem fl60_0 : fldOf Go.Proofs.Try.prog 60 0 = some (0, 3) := by kernel_rfl
theorem fl60_1 : fldOf Go.Proofs.Try.prog 60 1 = some (1, 56) := by kernel_rfl
theorem fl60_2 : fldOf Go.Proofs.Try.prog 60 2 = some (2, 57) := by kernel_rfl
theorem fl60_3 : fldOf Go.Proofs.Try.prog 60 3 = some (3, 58) := by kernel_rfl
theorem z60 : zcOf Go.Proofs.Try.prog 60 = some [.r true (val (.int .i64 0)), .r true (row true 0 []), .r true (row true 0 []), .r true (row true 0 [])] := by kernel_rfl
theorem zp60 : zpOf Go.Proofs.Try.prog 60 = some (.agg [val (.int .i64 0), row true 0 [], row true 0 [], row true 0 []]) := by kernel_rfl
theorem bl60 : bldOf Go.Proofs.Try.prog 60 = some [(0, 1), (1, 1), (2, 1), (3, 1)] := by kernel_rfl
theorem ty69 : tyOf Go.Proofs.Try.prog 69 = some (true, 2) := by kernel_rfl
theorem fl69_0 : fldOf Go.Proofs.Try.prog 69 0 = some (0, 56) := by kernel_rfl
theorem fl69_1 : fldOf Go.Proofs.Try.prog 69 1 = some (1, 56) := by kernel_rfl
theorem z69 : zcOf Go.Proofs.Try.prog 69 = some [.r true (row true 0 []), .r true (row true 0 [])] := by kernel_rfl
theorem zp69 : zpOf Go.Proofs.Try.prog 69 = some (.agg [row true 0 [], row true 0 []]) := by kernel_rfl
theorem bl69 : bldOf Go.Proofs.Try.prog 69 = some [(0, 1), (1, 1)] := by kernel_rfl
theorem ty72 : tyOf Go.Proofs.Try.prog 72 = some (true, 2) := by kernel_rfl
theorem fl72_0 : fldOf Go.Proofs.Try.prog 72 0 = some (0, 56) := by kernel_rfl
theorem fl72_1 : fldOf Go.Proofs.Try.prog 72 1 = some (1, 56) := by kernel_rfl
theorem z72 : zcOf Go.Proofs.Try.prog 72 = some [.r true (row true 0 []), .r true (row true 0 [])] := by kernel_rfl
theorem zp72 : zpOf Go.Proofs.Try.prog 72 = some (.agg [row true 0 [], row true 0 []]) := by kernel_rfl
theorem bl72 : bldOf Go.Proofs.Try.prog 72 = some [(0, 1), (1, 1)] := by kernel_rfl
theorem ty83 : tyOf Go.Proofs.Try.prog 83 = some (false, 1) := by kernel_rfl
theorem z83 : zcOf Go.Proofs.Try.prog 83 = some [.r true (val (.nilFunc))] := by kernel_rfl
theorem zp83 : zpOf Go.Proofs.Try.prog 83 = some (.one (val (.nilFunc))) := by kernel_rfl
theorem ty88 : tyOf Go.Proofs.Try.prog 88 = some (false, 1) := by kernel_rfl
theorem z88 : zcOf Go.Proofs.Try.prog 88 = some [.r true (val (.pointer none))] := by kernel_rfl
theorem zp88 : zpOf Go.Proofs.Try.prog 88 = some (.one (val (.pointer none))) := by kernel_rfl
theorem ty119 : tyOf Go.Proofs.Try.prog 119 = some (true, 2) := by kernel_rfl
theorem fl119_0 : fldOf Go.Proofs.Try.prog 119 0 = some (0, 39) := by kernel_rfl
theorem fl119_1 : fldOf Go.Proofs.Try.prog 119 1 = some (1, 3) := by kernel_rfl
theorem z119 : zcOf Go.Proofs.Try.prog 119 = some [.r true (row true 0 []), .r true (val (.int .i64 0))] := by kernel_rfl
theorem zp119 : zpOf Go.Proofs.Try.prog 119 = some (.agg [row true 0 [], val (.int .i64 0)]) := by kernel_rfl
theorem bl119 : bldOf Go.Proofs.Try.prog 119 = some [(0, 1), (1, 1)] := by kernel_rfl
theorem ty124 : tyOf Go.Proofs.Try.prog 124 = some (true, 1) := by kernel_rfl
theorem fl124_0 : fldOf Go.Proofs.Try.prog 124 0 = some (0, 9) := by kernel_rfl
theorem z124 : zcOf Go.Proofs.Try.prog 124 = some [.r true (val (.string ⟨#[]⟩))] := by kernel_rfl
theorem zp124 : zpOf Go.Proofs.Try.prog 124 = some (.agg [val (.string ⟨#[]⟩)]) := by kernel_rfl
theorem bl124 : bldOf Go.Proofs.Try.prog 124 = some [(0, 1)] := by kernel_rfl
theorem ty125 : tyOf Go.Proofs.Try.prog 125 = some (false, 1) := by kernel_rfl
theorem z125 : zcOf Go.Proofs.Try.prog 125 = some [.r true (val (.pointer none))] := by kernel_rfl
theorem zp125 : zpOf Go.Proofs.Try.prog 125 = some (.one (val (.pointer none))) := by kernel_rfl
theorem ty133 : tyOf Go.Proofs.Try.prog 133 = some (true, 3) := by kernel_rfl
theorem fl133_0 : fldOf Go.Proofs.Try.prog 133 0 = some (0, 3) := by kernel_rfl
theorem fl133_1 : fldOf Go.Proofs.Try.prog 133 1 = some (1, 3) := by kernel_rfl
theorem fl133_2 : fldOf Go.Proofs.Try.prog 133 2 = some (2, 3) := by kernel_rfl
theorem z133 : zcOf Go.Proofs.Try.prog 133 = some [.r true (val (.int .i64 0)), .r true (val (.int .i64 0)), .r true (val (.int .i64 0))] := by kernel_rfl
theorem zp133 : zpOf Go.Proofs.Try.prog 133 = some (.agg [val (.int .i64 0), val (.int .i64 0), val (.int .i64 0)]) := by kernel_rfl
theorem bl133 : bldOf Go.Proofs.Try.prog 133 = some [(0, 1), (1, 1), (2, 1)] := by kernel_rfl
theorem ty145 : tyOf Go.Proofs.Try.prog 145 = some (false, 1) := by kernel_rfl
theorem sl145 : slOf Go.Proofs.Try.prog 145 = some (9, 1) := by kernel_rfl
theorem z145 : zcOf Go.Proofs.Try.prog 145 = some [.r true (row true 0 [])] := by kernel_rfl
theorem el145 : elOf Go.Proofs.Try.prog 145 = some (9, 1, 16) := by kernel_rfl
theorem zp145 : zpOf Go.Proofs.Try.prog 145 = some (.one (row true 0 [])) := by kernel_rfl
theorem ty146 : tyOf Go.Proofs.Try.prog 146 = some (false, 1) := by kernel_rfl
theorem z146 : zcOf Go.Proofs.Try.prog 146 = some [.r true (val (.pointer none))] := by kernel_rfl
theorem zp146 : zpOf Go.Proofs.Try.prog 146 = some (.one (val (.pointer none))) := by kernel_rfl
theorem ty149 : tyOf Go.Proofs.Try.prog 149 = some (false, 1) := by kernel_rfl
theorem z149 : zcOf Go.Proofs.Try.prog 149 = some [.r true (val (.pointer none))] := by kernel_rfl
theorem zp149 : zpOf Go.Proofs.Try.prog 149 = some (.one (val (.pointer none))) := by kernel_rfl
theorem ty156 : tyOf Go.Proofs.Try.prog 156 = some (true, 2) := by kernel_rfl
theorem fl156_0 : fldOf Go.Proofs.Try.prog 156 0 = some (0, 56) := by kernel_rfl
theorem fl156_1 : fldOf Go.Proofs.Try.prog 156 1 = some (1, 3) := by kernel_rfl
theorem z156 : zcOf Go.Proofs.Try.prog 156 = some [.r true (row true 0 []), .r true (val (.int .i64 0))] := by kernel_rfl
theorem zp156 : zpOf Go.Proofs.Try.prog 156 = some (.agg [row true 0 [], val (.int .i64 0)]) := by kernel_rfl
theorem bl156 : bldOf Go.Proofs.Try.prog 156 = some [(0, 1), (1, 1)] := by kernel_rfl
theorem ty157 : tyOf Go.Proofs.Try.prog 157 = some (false, 1) := by kernel_rfl
theorem z157 : zcOf Go.Proofs.Try.prog 157 = some [.r true (val (.pointer none))] := by kernel_rfl
theorem zp157 : zpOf Go.Proofs.Try.prog 157 = some (.one (val (.pointer none))) := by kernel_rfl
theorem ty161 : tyOf Go.Proofs.Try.prog 161 = some (false, 1) := by kernel_rfl
theorem z161 : zcOf Go.Proofs.Try.prog 161 = some [.r true (val (.nilFunc))] := by kernel_rfl
theorem zp161 : zpOf Go.Proofs.Try.prog 161 = some (.one (val (.nilFunc))) := by kernel_rfl
theorem ty165 : tyOf Go.Proofs.Try.prog 165 = some (false, 1) := by kernel_rfl
theorem z165 : zcOf Go.Proofs.Try.prog 165 = some [.r true (val (.nilFunc))] := by kernel_rfl
theorem zp165 : zpOf Go.Proofs.Try.prog 165 = some (.one (val (.nilFunc))) := by kernel_rfl
theorem ty167 : tyOf Go.Proofs.Try.prog 167 = some (false, 1) := by kernel_rfl
theorem z167 : zcOf Go.Proofs.Try.prog 167 = some [.r true (val (.pointer none))] := by kernel_rfl
theorem zp167 : zpOf Go.Proofs.Try.prog 167 = some (.one (val (.pointer none))) := by kernel_rfl
theorem ty168 : tyOf Go.Proofs.Try.prog 168 = some (false, 1) := by kernel_rfl
theorem z168 : zcOf Go.Proofs.Try.prog 168 = some [.r true (val (.nilFunc))] := by kernel_rfl
theorem zp168 : zpOf Go.Proofs.Try.prog 168 = some (.one (val (.nilFunc))) := by kernel_rfl
def tb : TB := ⟨[(3, false, 1), (4, false, 1), (5, false, 1), (9, false, 1), (17, false, 1), (19, true, 1), (22, false, 1), (24, true, 2), (26, true, 3), (28, false, 1), (30, true, 2), (34, true, 3), (39, false, 1), (47, true, 3), (49, true, 4), (54, false, 1), (56, false, 1), (57, false, 1), (58, false, 1), (60, true, 4), (69, true, 2), (72, true, 2), (83, false, 1), (88, false, 1), (119, true, 2), (124, true, 1), (125, false, 1), (133, true, 3), (145, false, 1), (146, false, 1), (149, false, 1), (156, true, 2), (157, false, 1), (161, false, 1), (165, false, 1), (167, false, 1), (168, false, 1)], [(19, 0, 0, 17), (24, 0, 0, 3), (24, 1, 1, 22), (26, 0, 0, 3), (26, 1, 1, 3), (26, 2, 2, 3), (30, 0, 0, 3), (30, 1, 1, 28), (34, 0, 0, 3), (34, 1, 1, 3), (34, 2, 2, 3), (47, 0, 0, 3), (47, 1, 1, 3), (47, 2, 2, 3), (49, 0, 0, 47), (49, 1, 3, 3), (60, 0, 0, 3), (60, 1, 1, 56), (60, 2, 2, 57), (60, 3, 3, 58), (69, 0, 0, 56), (69, 1, 1, 56), (72, 0, 0, 56), (72, 1, 1, 56), (119, 0, 0, 39), (119, 1, 1, 3), (124, 0, 0, 9), (133, 0, 0, 3), (133, 1, 1, 3), (133, 2, 2, 3), (156, 0, 0, 56), (156, 1, 1, 3)], [(22, 26, 3), (28, 34, 3), (39, 5, 1), (54, 56, 1), (56, 3, 1), (57, 4, 1), (58, 133, 3), (145, 9, 1)], [(3, [.r true (val (.int .i64 0))]), (5, [.r true (val (.int .u8 0))]), (9, [.r true (val (.string ⟨#[]⟩))]), (17, [.r true (val (.pointer none))]), (19, [.r true (val (.pointer none))]), (22, [.r true (row true 0 [])]), (24, [.r true (val (.int .i64 0)), .r true (row true 0 [])]), (26, [.r true (val (.int .i64 0)), .r true (val (.int .i64 0)), .r true (val (.int .i64 0))]), (28, [.r true (row true 0 [])]), (30, [.r true (val (.int .i64 0)), .r true (row true 0 [])]), (34, [.r true (val (.int .i64 0)), .r true (val (.int .i64 0)), .r true (val (.int .i64 0))]), (39, [.r true (row true 0 [])]), (47, [.r true (val (.int .i64 0)), .r true (val (.int .i64 0)), .r true (val (.int .i64 0))]), (49, [.r true (val (.int .i64 0)), .r true (val (.int .i64 0)), .r true (val (.int .i64 0)), .r true (val (.int .i64 0))]), (54, [.r true (row true 0 [])]), (56, [.r true (row true 0 [])]), (57, [.r true (row true 0 [])]), (58, [.r true (row true 0 [])]), (60, [.r true (val (.int .i64 0)), .r true (row true 0 []), .r true (row true 0 []), .r true (row true 0 [])]), (69, [.r true (row true 0 []), .r true (row true 0 [])]), (72, [.r true (row true 0 []), .r true (row true 0 [])]), (83, [.r true (val (.nilFunc))]), (88, [.r true (val (.pointer none))]), (119, [.r true (row true 0 []), .r true (val (.int .i64 0))]), (124, [.r true (val (.string ⟨#[]⟩))]), (125, [.r true (val (.pointer none))]), (133, [.r true (val (.int .i64 0)), .r true (val (.int .i64 0)), .r true (val (.int .i64 0))]), (145, [.r true (row true 0 [])]), (146, [.r true (val (.pointer none))]), (149, [.r true (val (.pointer none))]), (156, [.r true (row true 0 []), .r true (val (.int .i64 0))]), (157, [.r true (val (.pointer none))]), (161, [.r true (val (.nilFunc))]), (165, [.r true (val (.nilFunc))]), (167, [.r true (val (.pointer none))]), (168, [.r true (val (.nilFunc))])], [4], [(19, [(0, 1)]), (24, [(0, 1), (1, 1)]), (26, [(0, 1), (1, 1), (2, 1)]), (30, [(0, 1), (1, 1)]), (34, [(0, 1), (1, 1), (2, 1)]), (47, [(0, 1), (1, 1), (2, 1)]), (49, [(0, 3), (3, 1)]), (60, [(0, 1), (1, 1), (2, 1), (3, 1)]), (69, [(0, 1), (1, 1)]), (72, [(0, 1), (1, 1)]), (119, [(0, 1), (1, 1)]), (124, [(0, 1)]), (133, [(0, 1), (1, 1), (2, 1)]), (156, [(0, 1), (1, 1)])]⟩
theorem tbOk : TbOk Go.Proofs.Try.prog tb := ⟨⟨ty3, ty4, ty5, ty9, ty17, ty19, ty22, ty24, ty26, ty28, ty30, ty34, ty39, ty47, ty49, ty54, ty56, ty57, ty58, ty60, ty69, ty72, ty83, ty88, ty119, ty124, ty125, ty133, ty145, ty146, ty149, ty156, ty157, ty161, ty165, ty167, ty168, trivial⟩, ⟨fl19_0, fl24_0, fl24_1, fl26_0, fl26_1, fl26_2, fl30_0, fl30_1, fl34_0, fl34_1, fl34_2, fl47_0, fl47_1, fl47_2, fl49_0, fl49_1, fl60_0, fl60_1, fl60_2, fl60_3, fl69_0, fl69_1, fl72_0, fl72_1, fl119_0, fl119_1, fl124_0, fl133_0, fl133_1, fl133_2, fl156_0, fl156_1, trivial⟩, ⟨sl22, sl28, sl39, sl54, sl56, sl57, sl58, sl145, trivial⟩, ⟨z3, z5, z9, z17, z19, z22, z24, z26, z28, z30, z34, z39, z47, z49, z54, z56, z57, z58, z60, z69, z72, z83, z88, z119, z124, z125, z133, z145, z146, z149, z156, z157, z161, z165, z167, z168, trivial⟩, ⟨bo4, trivial⟩, ⟨bl19, bl24, bl26, bl30, bl34, bl47, bl49, bl60, bl69, bl72, bl119, bl124, bl133, bl156, trivial⟩⟩
def tl : TL := ⟨[(22, 26, 3, 24), (28, 34, 3, 24), (39, 5, 1, 1), (54, 56, 1, 24), (56, 3, 1, 8), (57, 4, 1, 1), (58, 133, 3, 24), (145, 9, 1, 16)], [(3, (.one (val (.int .i64 0)))), (5, (.one (val (.int .u8 0)))), (9, (.one (val (.string ⟨#[]⟩)))), (17, (.one (val (.pointer none)))), (19, (.agg [val (.pointer none)])), (22, (.one (row true 0 []))), (24, (.agg [val (.int .i64 0), row true 0 []])), (26, (.agg [val (.int .i64 0), val (.int .i64 0), val (.int .i64 0)])), (28, (.one (row true 0 []))), (30, (.agg [val (.int .i64 0), row true 0 []])), (34, (.agg [val (.int .i64 0), val (.int .i64 0), val (.int .i64 0)])), (39, (.one (row true 0 []))), (47, (.agg [val (.int .i64 0), val (.int .i64 0), val (.int .i64 0)])), (49, (.agg [val (.int .i64 0), val (.int .i64 0), val (.int .i64 0), val (.int .i64 0)])), (54, (.one (row true 0 []))), (56, (.one (row true 0 []))), (57, (.one (row true 0 []))), (58, (.one (row true 0 []))), (60, (.agg [val (.int .i64 0), row true 0 [], row true 0 [], row true 0 []])), (69, (.agg [row true 0 [], row true 0 []])), (72, (.agg [row true 0 [], row true 0 []])), (83, (.one (val (.nilFunc)))), (88, (.one (val (.pointer none)))), (119, (.agg [row true 0 [], val (.int .i64 0)])), (124, (.agg [val (.string ⟨#[]⟩)])), (125, (.one (val (.pointer none)))), (133, (.agg [val (.int .i64 0), val (.int .i64 0), val (.int .i64 0)])), (145, (.one (row true 0 []))), (146, (.one (val (.pointer none)))), (149, (.one (val (.pointer none)))), (156, (.agg [row true 0 [], val (.int .i64 0)])), (157, (.one (val (.pointer none)))), (161, (.one (val (.nilFunc)))), (165, (.one (val (.nilFunc)))), (167, (.one (val (.pointer none)))), (168, (.one (val (.nilFunc))))]⟩
theorem tlOk : TLOk Go.Proofs.Try.prog tl := ⟨⟨el22, el28, el39, el54, el56, el57, el58, el145, trivial⟩, ⟨zp3, zp5, zp9, zp17, zp19, zp22, zp24, zp26, zp28, zp30, zp34, zp39, zp47, zp49, zp54, zp56, zp57, zp58, zp60, zp69, zp72, zp83, zp88, zp119, zp124, zp125, zp133, zp145, zp146, zp149, zp156, zp157, zp161, zp165, zp167, zp168, trivial⟩⟩
end Go.Proofs.Ythjnidcmhegoeaa.Abs
